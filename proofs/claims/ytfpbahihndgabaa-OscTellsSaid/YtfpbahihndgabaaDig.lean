/-
  Numbers as digits of 16 bits: what the reference's functions over digits give, by the numbers themselves (digs n: n's digits, the lowest first).
-/
import Derived.Test.YtfpbahihndgabaaRows
import Derived.Test.YtfpbahihndgabaaKit
import Derived.WalkKit
import Derived.ProofKit
import Derived.OpenShut
import Derived.LoopTactic
import Derived.WalkLawsBesides
import Derived.WalkSpells
import Derived.Outline
import Derived.Lib.Hide
import Derived.Deep.Light
namespace Go.Proofs.Ytfpbahihndgabaa
open Go.RowKit

def digsF : Nat → Nat → List Nat
  | 0, _ => []
  | f + 1, n => if n = 0 then [] else n % 65536 :: digsF f (n / 65536)
def digs (n : Nat) : List Nat := digsF n n
theorem digsF_enough : ∀ (f g n : Nat), n ≤ f → n ≤ g → digsF f n = digsF g n := by
  intro f
  induction f with
  | zero =>
    intro g n h _
    obtain rfl : n = 0 := by omega
    cases g <;> simp [digsF]
  | succ f ih =>
    intro g n h1 h2
    cases g with
    | zero => obtain rfl : n = 0 := by omega
              simp [digsF]
    | succ g =>
      by_cases h0 : n = 0
      · simp [digsF, h0]
      · simp only [digsF, if_neg h0]
        rw [ih g (n / 65536) (by omega) (by omega)]
theorem digs_zero : digs 0 = [] := rfl
theorem digs_pos {n : Nat} (h : 0 < n) : digs n = n % 65536 :: digs (n / 65536) := by
  unfold digs
  obtain ⟨m, rfl⟩ : ∃ m, n = m + 1 := ⟨n - 1, by omega⟩
  rw [digsF, if_neg (by omega), digsF_enough m ((m + 1) / 65536) _ (by omega) (Nat.le_refl _)]
def iv (d : Nat) : Value := .int .i64 (d : Int)
theorem styD : SliceTy Try.prog 77 3 1 8 := sliceTy_mk (z := .int .i64 0) Try.underlying77 (by kernel_rfl) rfl
theorem iv_one (d : Nat) : ∀ u ∈ [iv d], u.oneCell' = true := by intro u hu; simp at hu; subst hu; rfl
theorem hid_digs {x k : Nat} {l : List Nat} (h : Hid (digs x = l ++ digs k)) (hk : 0 < k) : Hid (digs x = (l ++ [k % 65536]) ++ digs (k / 65536)) := by
  have := h.out
  rw [digs_pos hk] at this
  show _ = _
  rw [this]
  simp
theorem hid_end {x : Nat} {l : List Nat} (h : Hid (digs x = l ++ digs 0)) : digs x = l := by
  have := h.out
  rw [this, digs_zero, List.append_nil]

theorem Of_any (x : Nat) (w : World) (hx : x < 18446744073709551616) :
    Calls Try.prog 50 #[.int .u64 x] w fun e w' => ∃ v, e = .returned v ∧ w'.ownsRow w.heap.size 3 1 v (digs x).length ((digs x).map iv) ∧ Below w.heap.size w w' := by
  go_enter Try.func50, Try.ntmps50
  go_wp2
  go_loopw [0, 3] (fun y out wr => ∃ k l, y = .int .u64 (k : Nat) ∧ k ≤ x ∧ Hid (digs x = l ++ digs k) ∧ l.length ≤ 64 ∧ k < 2 ^ (64 - l.length) ∧ wr.ownsRow w.heap.size 3 1 out l.length (l.map iv) ∧ Below w.heap.size w wr) (fun y _ _ => (intOf y).toNat)
  case atStart =>
    exact ⟨x, [], rfl, Nat.le_refl _, rfl, by simp, hx, ownsRow_new (n := 0) _ (Nat.le_refl _) rfl (Nat.zero_le _), (Below.refl _ _).alloc (Nat.le_refl _) _⟩
  case round =>
    obtain ⟨k, l, rfl, hk, hd, hl, hkl, hown, hb⟩ := hrel
    have hb2 := hb.size
    by_cases hpos : 0 < k
    · have hl2 : l.length < 64 := by
        rcases Nat.lt_or_ge l.length 64 with h | h
        · exact h
        · have : 64 - l.length = 0 := by omega
          rw [this] at hkl; omega
      have hk2 : k / 65536 < 2 ^ (64 - (l.length + 1)) := by
        have : 64 - l.length = (64 - (l.length + 1)) + 1 := by omega
        rw [this, Nat.pow_succ] at hkl
        omega
      have HK := Lib.hid hkl
      clear hkl
      go_wp2_with (at_builtin; refine wpList_push rfl (.tmp 7) (.tmp 11) 77 rfl styD (cs := #[iv (k % 65536)]) rfl (iv_one _) rfl hown rfl (by omega) (by omega) ?_; intro v1 w1 hown1 hb1)
      go_roundw
      case rel => exact ⟨k / 65536, l ++ [k % 65536], by go_num, by omega, hid_digs hd hpos, by simp; omega, by simpa using hk2, by simpa using hown1, hb.trans hb1⟩
      case measure => simp [intOf]; omega
    · obtain rfl : k = 0 := by omega
      go_wp2
      go_ret
      rw [hid_end hd]
      exact ⟨_, rfl, hown, hb⟩
end Go.Proofs.Ytfpbahihndgabaa
