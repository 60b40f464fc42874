/-
  The reference's powers of two, and its rate of a float's bits.
-/
import Derived.Test.YtclckcjimfadlaaDigH
import Derived.Test.YtclckcjimfadlaaOfM
namespace Go.Proofs.Ytclckcjimfadlaa
set_option linter.unusedSimpArgs false
set_option linter.unusedVariables false
open Go.RowKit

theorem nd_two (i : Nat) : nd (two i) ≤ i / 16 + 1 := by
  refine nd_le.2 ?_
  rw [show (65536 : Nat) = 2 ^ 16 from rfl, ← Nat.pow_mul]
  exact Nat.pow_lt_pow_right (by decide) (by omega)
theorem two_succ (i : Nat) : two (i + 1) = two i + two i := by unfold two; rw [Nat.pow_succ]; omega
set_option maxRecDepth 100000 in
set_option maxHeartbeats 4000000 in
theorem power_any (n : Nat) (w : World) (hn : n ≤ 1200) :
    Calls Try.prog 37 #[.int .i64 n] w fun e w' => ∃ v, e = .returned v ∧ Dg w' v (two n) ∧ Own w.heap.size v ∧ Below w.heap.size w w' := by
  go_enter Try.func37, Try.ntmps37
  go_wp2_with fail
  go_loopw [3, 4] (fun v i wr => ∃ j : Nat, i = .int .i64 (j : Nat) ∧ j ≤ n ∧ Hid (Dg wr v (two j) ∧ Own w.heap.size v) ∧ Below w.heap.size w wr) (fun _ i _ => n - (intOf i).toNat)
  case atStart => exact ⟨0, rfl, Nat.zero_le _, Lib.hid ⟨dg_one w 3, fun k hk => by injection hk with hk; simp at hk; omega⟩, (Below.refl _ _).alloc (Nat.le_refl _) _⟩
  case round =>
    obtain ⟨j, rfl, hj, hd, hb⟩ := hrel
    by_cases hlt : j < n
    · have h1 := nd_two j
      have h2 := nd_two (j + 1)
      have hA := Add_any (two j) (two j) _ _ wr hd.out.1 hd.out.1 (by omega) (by omega) (by rw [← two_succ]; omega)
      rw [← two_succ] at hA
      have HA := Lib.hid hA
      have f1 : IntKind.i64.wrap ((j : Int) + 1) = ((j + 1 : Nat) : Int) := by rw [show (j : Int) + 1 = ((j + 1 : Nat) : Int) by omega]; exact IntWalk.i64_in _ ⟨by omega, by omega⟩
      clear hA h1 h2
      go_wp2_with fail
      refine HA.out.mono ?_
      rintro e w1 ⟨v1, rfl, d1, o1, b1⟩
      have hz := hb.size
      have hb1 := hb.trans (b1.mono hz)
      have O1 : Own w.heap.size v1 := o1.mono hz
      have HD := Lib.hid (And.intro d1 O1)
      clear HA b1 o1 d1 O1 hz hd hb
      go_wp2_with fail
      go_roundw
      case rel => exact ⟨j + 1, by first | rfl | (refine congrArg (Value.int IntKind.i64) ?_; rw [IntWalk.wrap64_in _ ⟨by omega, by omega⟩]; rfl), by omega, HD, hb1⟩
      case measure => simp [intOf]; omega
    · have d : decide ((j : Int) < (n : Int)) = false := by simp; omega
      obtain rfl : j = n := by omega
      clear hlt hj
      go_wp2_with fail
      go_ret
      exact ⟨_, rfl, hd.out.1, hd.out.2, hb⟩
def PartsDg (b : Nat) (w : World) (e : Ending) (w' : World) : Prop :=
  ∃ v, e = .returned (.tuple #[.bool (negB b), v, .int .i64 (kexp b), .bool (okB b), .bool (infB b)]) ∧ Dg w' v (mant b) ∧ Own w.heap.size v ∧ Below w.heap.size w w'
theorem mant_lt (b : Nat) : mant b < 9007199254740992 := by
  have hf : frac b < 4503599627370496 := Nat.mod_lt _ (by omega)
  unfold mant
  split
  · omega
  · split <;> omega
theorem parts_dg (b : Nat) (w : World) (hb : b < 18446744073709551616) : Calls Try.prog 13 #[.int .u64 b] w (PartsDg b w) := by
  refine (parts_any b w hb).mono ?_
  rintro e w' ⟨v, rfl, hown, hb'⟩
  have HO := ownsRow_lt hown
  obtain ⟨A, c, rfl, hc, hr⟩ := ownsRow_reads hown
  exact ⟨_, rfl, ⟨A, _, c, rfl, hc, rfl, by have := mant_lt b; have h4 : nd (mant b) ≤ 4 := nd_four (by omega); unfold nd at h4; omega, hr⟩, fun k hk => (HO k (by cases A <;> exact hk)).1, hb'⟩
/-- A float's numerator and denominator, as the reference has them. -/
def numB (b : Nat) : Nat := if 0 < kexp b then mant b else mant b * two (-(kexp b)).toNat
def denB (b : Nat) : Nat := if 0 < kexp b then two (kexp b).toNat else 1
def refQ (b : Nat) : Nat := rndV (numB b * 2199023255552) (denB b * 1000000) false 2
def refOfV (b : Nat) : Int × Int :=
  if infB b = true then (0, 13) else if okB b = false then (0, 12) else if denB b * 5000 < numB b then (0, 50)
  else (if negB b = true then 2199023255552 - (refQ b : Int) else 2199023255552 + (refQ b : Int), 0)
theorem kexp_lim (b : Nat) : -972 ≤ kexp b ∧ kexp b ≤ 1074 := by
  have he : expo b < 2048 := Nat.mod_lt _ (by omega)
  unfold kexp
  split
  · omega
  · split <;> omega
theorem denB_pos (b : Nat) : 0 < denB b := by
  unfold denB
  split
  · exact two_pos _
  · omega
theorem nd_mul (x y : Nat) (n m : Nat) (hx : nd x ≤ n) (hy : nd y ≤ m) : nd (x * y) ≤ n + m := by
  refine nd_le.2 ?_
  rw [Nat.pow_add]
  have h1 := nd_le.1 hx
  have h2 := nd_le.1 hy
  generalize 65536 ^ n = p at *
  generalize 65536 ^ m = q at *
  calc x * y ≤ x * q := Nat.mul_le_mul_left _ (Nat.le_of_lt h2)
    _ < p * q := Nat.mul_lt_mul_of_pos_right h1 (by omega)
theorem nd_num (b : Nat) : nd (numB b) ≤ 70 := by
  have h1 : nd (mant b) ≤ 4 := nd_four (by have := mant_lt b; omega)
  have hk := kexp_lim b
  unfold numB
  split
  · omega
  · have := nd_mul _ _ 4 66 h1 (Nat.le_trans (nd_two _) (by omega : (-(kexp b)).toNat / 16 + 1 ≤ 66))
    omega
theorem nd_den (b : Nat) : nd (denB b) ≤ 70 := by
  have hk := kexp_lim b
  unfold denB
  split
  · exact Nat.le_trans (nd_two _) (by omega)
  · exact Nat.le_trans (nd_four (by decide)) (by decide)
theorem rnd_le (x y : Nat) (m : Bool) (rd : Int) : rndV x y m rd ≤ x / y + 1 := by
  unfold rndV
  split
  · omega
  · have : (rndMore m rd (x % y) y (x / y)).toNat ≤ 1 := Bool.toNat_le _
    omega
theorem refQ_le {b : Nat} (h : ¬ denB b * 5000 < numB b) : refQ b ≤ 10995116279 := by
  have hd := denB_pos b
  refine Nat.le_trans (rnd_le _ _ _ _) ?_
  have h1 : numB b * 2199023255552 / (denB b * 1000000) ≤ 10995116278 := by
    refine Nat.le_of_lt_succ ((Nat.div_lt_iff_lt_mul (by omega)).2 ?_)
    omega
  omega
end Go.Proofs.Ytclckcjimfadlaa
