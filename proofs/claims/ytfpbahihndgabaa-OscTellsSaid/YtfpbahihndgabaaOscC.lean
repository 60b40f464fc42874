/-
  Layer 7: what a clock tells, marks, and how fast it runs.
-/
import Derived.Test.YtfpbahihndgabaaOscB
namespace Go.Proofs.Ytfpbahihndgabaa
set_option linter.unusedSimpArgs false
set_option linter.unusedVariables false
open Go.RowKit

theorem run_val {ns r : Int} (h0 : 0 ≤ ns) (h1 : ns ≤ 1099511627776) (hr : 2181843386368 ≤ r ∧ r ≤ 2216203124736) : runV ns r = ns * r / 33554432 := by
  obtain ⟨N, rfl⟩ : ∃ N : Nat, ns = (N : Int) := ⟨ns.toNat, by omega⟩
  obtain ⟨R, rfl⟩ : ∃ R : Nat, r = (R : Int) := ⟨r.toNat, by omega⟩
  have hm : mdMinus (N : Int) (R : Int) 33554432 = false := by
    unfold mdMinus
    rw [decide_eq_false (show ¬ (N : Int) < 0 by omega), decide_eq_false (show ¬ (R : Int) < 0 by omega)]
    rfl
  have hq : mdQ (N : Int) (R : Int) 33554432 0 = N * R / 33554432 := by
    unfold mdQ
    rw [hm]
    have : mdMore false 0 ((N : Int).natAbs * (R : Int).natAbs % (33554432 : Int).natAbs) (33554432 : Int).natAbs ((N : Int).natAbs * (R : Int).natAbs / (33554432 : Int).natAbs) = false := by
      unfold mdMore
      split
      · rfl
      · rw [if_pos rfl]
    rw [this]
    rfl
  have hb : N * R / 33554432 ≤ 72621243031355392 := by
    have h2 : N * R ≤ 1099511627776 * 2216203124736 := Nat.mul_le_mul (by omega) (by omega)
    have := Nat.div_le_div_right (c := 33554432) h2
    omega
  unfold runV mulDivV
  rw [if_neg (by decide), hm, hq]
  unfold mdEnd
  rw [Bool.toNat_false, if_neg (by omega)]
  show ((N * R / 33554432 : Nat) : Int) = _
  rw [Int.natCast_ediv, Int.natCast_mul]
  rfl
theorem run_lim {ns r : Int} (h0 : 0 ≤ ns) (h1 : ns ≤ 1099511627776) (hr : 2181843386368 ≤ r ∧ r ≤ 2216203124736) : 0 ≤ runV ns r ∧ runV ns r ≤ ns * 66049 := by
  rw [run_val h0 h1 hr]
  have k1 : ns * r ≤ ns * 2216203124736 := Int.mul_le_mul_of_nonneg_left hr.2 h0
  have k2 : 0 ≤ ns * r := Int.mul_nonneg h0 (by omega)
  generalize ns * r = p at *
  omega
structure Bases (S : Int) (n : Nat) (tA tR bs : Nat → Int) : Prop where
  low : -1152921504606846976 ≤ S
  high : S ≤ 1152921504606846976
  start : bs 0 = S
  next : ∀ i, i + 1 < n → bs (i + 1) = bs i + runV (tA (i + 1) - tA i) (tR i)
theorem base_lim {S : Int} {n : Nat} {tA tR bs : Nat → Int} (hT : Turns n tA tR) (hB : Bases S n tA tR bs) : ∀ {i : Nat}, i < n → S ≤ bs i ∧ bs i ≤ S + tA i * 66049
  | 0, _ => by rw [hB.start, hT.first]; omega
  | i + 1, hi => by
    have ih := base_lim hT hB (i := i) (by omega)
    have h1 := hT.rise i hi
    have h2 := hT.late (i + 1) hi
    have h3 := hT.low (i := i) (by omega)
    have hr := run_lim (ns := tA (i + 1) - tA i) (r := tR i) (by omega) (by omega) (hT.rate i (by omega))
    rw [hB.next i hi]
    omega
/-- What the clock tells. -/
def tellV (n : Nat) (tA tR bs : Nat → Int) (at_ : Int) : Int := bs (pcV tA at_ n) + runV (at_ - tA (pcV tA at_ n)) (tR (pcV tA at_ n))
theorem pc_le {n : Nat} {tA tR : Nat → Int} (hT : Turns n tA tR) {at_ : Int} (h0 : 0 ≤ at_) : tA (pcV tA at_ n) ≤ at_ := by
  have : ∀ m, 0 < m → m ≤ n → tA (pcV tA at_ m) ≤ at_ := by
    intro m
    induction m with
    | zero => intro h; omega
    | succ m ih =>
      intro _ hm
      unfold pcV
      split
      · assumption
      · rename_i hx
        rcases Nat.eq_zero_or_pos m with rfl | hp
        · rw [hT.first] at hx; omega
        · exact ih hp (by omega)
  exact this n hT.pos (Nat.le_refl _)
theorem tell_lim {S : Int} {n : Nat} {tA tR bs : Nat → Int} (hT : Turns n tA tR) (hB : Bases S n tA tR bs) {at_ : Int} (h0 : 0 ≤ at_) (h1 : at_ ≤ 1099511627776) : S ≤ tellV n tA tR bs at_ ∧ tellV n tA tR bs at_ ≤ S + at_ * 66049 := by
  have hp := pcV_lt tA at_ n hT.pos
  have hle := pc_le hT h0
  have hb := base_lim hT hB hp
  have h3 := hT.low hp
  have hr := run_lim (ns := at_ - tA (pcV tA at_ n)) (r := tR (pcV tA at_ n)) (by omega) (by omega) (hT.rate _ hp)
  unfold tellV
  omega
set_option maxRecDepth 100000 in
set_option maxHeartbeats 2000000 in
theorem at_any (g : Nat) (at_ S : Int) (n : Nat) (tA tR bs : Nat → Int) (gr : Int) (w : World) (hC : Clk w g n tA tR bs gr) (hT : Turns n tA tR) (hB : Bases S n tA tR bs) (h0 : 0 ≤ at_) (h1 : at_ ≤ 1099511627776) :
    Calls Try.prog 11 #[.pointer (some ⟨g, 0, none⟩), .int .i64 at_] w fun e w' => e = .returned (.tuple #[.int .i64 (tellV n tA tR bs at_), .int .i64 0]) ∧ Below w.heap.size w w' := by
  have HP := Lib.hid (piece_any g at_ n tA tR bs gr w hC hT h0)
  obtain ⟨V, hV⟩ : ∃ V, V = tellV n tA tR bs at_ := ⟨_, rfl⟩
  have hlim := tell_lim hT hB h0 h1
  rw [← hV] at hlim ⊢
  have hp := pcV_lt tA at_ n hT.pos
  have hle := pc_le hT h0
  have h3 := hT.low hp
  have hr := hT.rate _ hp
  have hlow := hB.low
  have hhigh := hB.high
  unfold tellV at hV
  generalize pcV tA at_ n = j at *
  obtain ⟨d, hd⟩ : ∃ d, d = at_ - tA j := ⟨_, rfl⟩
  rw [← hd] at hV
  have hrun := fun W => run_any d (tR j) (by unfold I64; omega) (by unfold I64; omega) W
  have f1 : IntKind.i64.wrap (at_ - tA j) = d := by rw [← hd]; exact IntWalk.i64_in _ ⟨by omega, by omega⟩
  have f2 : IntKind.i64.wrap (bs j + runV d (tR j)) = V := by rw [← hV]; exact IntWalk.i64_in _ ⟨by omega, by omega⟩
  have HRUN := Lib.hid hrun
  obtain ⟨g1, c1, g2, c2, C⟩ := hC
  have HC := Lib.hid C
  have hn1 := C.h1
  have hn2 := C.h2
  have hj2 : j * 2 = 0 ↔ j = 0 := by omega
  have dn1 : decide (at_ < 0) = false := by simp; omega
  have dn2 : decide (1099511627776 < at_) = false := by simp; omega
  clear hrun hV hd C hr hlim hle h3 hlow hhigh hj2 h0 h1
  go_enter Try.func11, Try.ntmps11
  go_wp2_with fail
  refine HP.out.mono ?_
  rintro e w1 ⟨rfl, b1⟩
  have C1 := HC.out.below b1
  have y0 := C1.box.cellOf 0 rfl
  have y1 := C1.box.cellOf 1 rfl
  have x0 := C1.a0 j hp
  have x1 := C1.a1 j hp
  have x2 := C1.b0 j hp
  have sg := C1.box.lt
  have sg1 := C1.l1
  have sg2 := C1.l2
  clear HP C1 HC
  go_wp2_with fail
  refine wp_region_class (fun w' => Below w1.heap.size w1 w') (by kernel_rfl) (by kernel_rfl) (Below.refl _ _).drew ?_
  repeat (first | (refine wpQuiet_skip ?_ ?_; rfl; simp only [Act.put, List.setIfInBounds_toArray, List.set_cons_zero, List.set_cons_succ]) | (refine wpQuiet_val (v := ?_) ?_ ?_ ?_; rotate_left; rfl; (intro w' hw'; obtain ⟨hc, hf⟩ := bcell hw'; go_simp; with_reducible rfl); simp only [Act.put, List.setIfInBounds_toArray, List.set_cons_zero, List.set_cons_succ]) | (refine wpQuiet_call (v := ?_) 21 ?_ ?_ ?_ ?_ ?_; rotate_left 2; (first | rfl | (go_simp; done)); (intro w' hw'; obtain ⟨hc, hf⟩ := bcell hw'; go_simp; with_reducible rfl); (intro w' hw'; (with_reducible refine (HRUN.out _).mono ?_); rintro e w2 ⟨rfl, hb⟩; refine ⟨?_, hw'.trans (hb.mono (by have h0 := hw'.size; first | omega | (simp at h0; omega)))⟩; with_reducible rfl); simp only [Act.put, List.setIfInBounds_toArray, List.set_cons_zero, List.set_cons_succ]) | (refine wpQuiet_val (v := ?_) ?_ ?_ ?_; rotate_left; (first | rfl | (go_simp; done)); (intro w' hw'; obtain ⟨hc, hf⟩ := bcell hw'; go_simp; with_reducible rfl); simp only [Act.put, List.setIfInBounds_toArray, List.set_cons_zero, List.set_cons_succ]) | (refine wpQuiet_skip ?_ ?_; (first | rfl | (go_simp; done)); simp only [Act.put, List.setIfInBounds_toArray, List.set_cons_zero, List.set_cons_succ]))
  refine wpQuiet_nil ?_
  intro w4 hw4
  have hz := b1.size
  have bw := b1.trans (hw4.mono hz)
  clear y0 y1 x0 x1 x2 sg sg1 sg2 hw4 HRUN b1 hz
  go_wp2_with fail
  go_ret2
  exact ⟨rfl, bw⟩
end Go.Proofs.Ytfpbahihndgabaa
