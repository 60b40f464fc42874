/-
  Layer 6's reference: Check gives what the program's gives.
-/
import Derived.Test.YtlhaloabophliaaRefA
namespace Go.Proofs.Ytlhaloabophliaa
open Go.RowKit Go.WideShapes Go.ChangeShapes
attribute [local go_sem ↓] Go.wp_at_zero Go.wp_at_succ

/-! ### Plain: number by number -/
def sizeOfN : List Int := [0, 1, 2, 6, 2, 8, 8, 6, 2, 8, 1, 1, 1, 6, 1]
def hadB (fs : List (Int × Int)) (j : Nat) : Bool := j == 0 || fs.any fun f => f.1 == (j : Int)
def goodB (m : Mg) (j : Nat) : Bool := fitsB (m.ints.getD j 0) (sizeOfN.getD j 0) && (hadB (fieldsL m.kind) j || m.ints.getD j 0 == 0)
theorem fits_8 (x : Int) : fitsB x 8 = true := rfl
theorem fits_1 (x : Int) : fitsB x 1 = decide (0 ≤ x ∧ x < 256) := rfl
theorem fits_2 (x : Int) : fitsB x 2 = decide (0 ≤ x ∧ x < 65536) := rfl
theorem fits_6 (x : Int) : fitsB x 6 = decide (0 ≤ x ∧ x < 281474976710656) := rfl
def GoodAll (m : Mg) : Prop := ∀ j, 1 ≤ j → j < 15 → goodB m j = true
set_option maxHeartbeats 2000000 in
theorem good_iff {m : Mg} (hk : Known m.kind) : (m.domain ≤ 127 ∧ GoodAll m ∧ (m.kind = 11 ∨ m.path.length = 0)) ↔ (m.inRange ∧ m.apt ∧ m.bare) := by
  have e : GoodAll m ↔ (goodB m 1 = true ∧ goodB m 2 = true ∧ goodB m 3 = true ∧ goodB m 4 = true ∧ goodB m 5 = true ∧ goodB m 6 = true ∧ goodB m 7 = true ∧ goodB m 8 = true ∧ goodB m 9 = true ∧ goodB m 10 = true ∧ goodB m 11 = true ∧ goodB m 12 = true ∧ goodB m 13 = true ∧ goodB m 14 = true) := by
    refine ⟨fun h => ⟨h 1 (by omega) (by omega), h 2 (by omega) (by omega), h 3 (by omega) (by omega), h 4 (by omega) (by omega), h 5 (by omega) (by omega), h 6 (by omega) (by omega), h 7 (by omega) (by omega), h 8 (by omega) (by omega), h 9 (by omega) (by omega), h 10 (by omega) (by omega), h 11 (by omega) (by omega), h 12 (by omega) (by omega), h 13 (by omega) (by omega), h 14 (by omega) (by omega)⟩, fun h j h1 h2 => ?_⟩
    obtain ⟨g1, g2, g3, g4, g5, g6, g7, g8, g9, g10, g11, g12, g13, g14⟩ := h
    match j, h1, h2 with
    | 1, _, _ => exact g1
    | 2, _, _ => exact g2
    | 3, _, _ => exact g3
    | 4, _, _ => exact g4
    | 5, _, _ => exact g5
    | 6, _, _ => exact g6
    | 7, _, _ => exact g7
    | 8, _, _ => exact g8
    | 9, _, _ => exact g9
    | 10, _, _ => exact g10
    | 11, _, _ => exact g11
    | 12, _, _ => exact g12
    | 13, _, _ => exact g13
    | 14, _, _ => exact g14
  rw [e]
  obtain ⟨kind, domain, seq, src, port, corr, time, too, toPort, rate, one, cls, two, id, steps, path⟩ := m
  unfold Known at hk
  simp only at hk
  unfold Mg.inRange Mg.apt Mg.bare goodB hadB sizeOfN Mg.ints okN ids
  rcases hk with rfl | rfl | rfl | rfl | rfl | rfl
  all_goals
    simp [-List.length_eq_zero_iff, fieldsL, fields0, fits_8, fits_1, fits_2, fits_6]
    omega
open Classical in
theorem check_good {m : Mg} (hk : Known m.kind) : checkV m = if ¬ (m.domain ≤ 127 ∧ GoodAll m ∧ (m.kind = 11 ∨ m.path.length = 0)) then 1 else if 32 < m.path.length then 4 else if okN ids m.path = true then 0 else 1 := by
  have h := good_iff hk
  by_cases hg : m.domain ≤ 127 ∧ GoodAll m ∧ (m.kind = 11 ∨ m.path.length = 0)
  · obtain ⟨h1, h2, h3⟩ := h.1 hg
    rw [if_neg (not_not_intro hg)]
    by_cases h4 : 32 < m.path.length
    · rw [if_pos h4, check_many hk h1 h2 h3 h4]
    · rw [if_neg h4, check_last hk h1 h2 h3 (by omega)]
  · rw [if_pos hg]
    by_cases h1 : m.inRange
    · by_cases h2 : m.apt
      · by_cases h3 : m.bare
        · exact absurd (h.2 ⟨h1, h2, h3⟩) hg
        · exact check_bare hk h3
      · exact check_apt hk h2
    · exact check_range hk h1
end Go.Proofs.Ytlhaloabophliaa
