/-
  Layer 2's functions on rates: what they give.
-/
import Derived.Test.YtjjpmckefglhnaaRateLaws
import Derived.Test.YtjjpmckefglhnaaKitC
namespace Go.Proofs.Ytjjpmckefglhnaa
open Go.RowKit Go.WideShapes Go.ChangeShapes
attribute [local go_sem ↓] Go.wp_at_zero Go.wp_at_succ

theorem rcheck_ok (r : Int) (h : Rg r) (w : World) : Calls Try.prog 35 #[.int .i64 r] w fun e w' => e = .returned (.int .i64 0) ∧ w = w' := by
  obtain ⟨h1, h2⟩ := h
  have d1 : decide (r < 2181843386368) = false := by simp; omega
  have d2 : decide (2216203124736 < r) = false := by simp; omega
  go_enter Try.func35, Try.ntmps35
  go_wp2
  go_ret
  exact ⟨rfl, rfl⟩
theorem rcheck_bad (r : Int) (h : ¬ Rg r) (w : World) : Calls Try.prog 35 #[.int .i64 r] w fun e w' => e = .returned (.int .i64 50) ∧ w = w' := by
  unfold Rg at h
  by_cases h1 : r < 2181843386368
  · go_enter Try.func35, Try.ntmps35
    go_wp2
    go_ret
    exact ⟨rfl, rfl⟩
  · have d1 : decide (r < 2181843386368) = false := by simp; omega
    have d2 : 2216203124736 < r := by omega
    clear h h1
    go_enter Try.func35, Try.ntmps35
    go_wp2
    go_ret
    exact ⟨rfl, rfl⟩
theorem rmul_any (r s : Int) (hr : I64 r) (hs : I64 s) (w : World) :
    Calls Try.prog 34 #[.int .i64 r, .int .i64 s] w fun e w' => e = .returned (.tuple #[.int .i64 (mulDivV r s 2199023255552 2).1, .int .i64 (mulDivV r s 2199023255552 2).2]) ∧ Below w.heap.size w w' := by
  have hm := fun W => mulDiv_any r s 2199023255552 2 hr hs (by unfold I64; omega) (.inr (.inr rfl)) W
  generalize mulDivV r s 2199023255552 2 = x at *
  obtain ⟨x1, x2⟩ := x
  have HM := Lib.hid hm
  clear hm
  go_enter Try.func34, Try.ntmps34
  go_wp2_with fail
  refine (HM.out _).mono ?_
  rintro e w1 ⟨rfl, hb1⟩
  go_wp2_with fail
  go_ret2
  exact ⟨rfl, hb1⟩

theorem andI (x : Int) (k : Nat) (hk : k ≤ 62) (m : Int) (hm : m = ((2 ^ k - 1 : Nat) : Int)) : bits .and .i64 x m = x % ((2 ^ k : Nat) : Int) := by
  subst hm
  have hp : 2 ^ k ≤ 2 ^ 62 := Nat.pow_le_pow_right (by omega) hk
  have hp0 : 0 < 2 ^ k := Nat.pow_pos (by omega)
  have h : bits .and .i64 x ((2 ^ k - 1 : Nat) : Int) = IntKind.i64.wrap ((BitVec.ofInt 64 x &&& BitVec.ofInt 64 ((2 ^ k - 1 : Nat) : Int)).toNat : Int) := rfl
  have e1 : (BitVec.ofInt 64 ((2 ^ k - 1 : Nat) : Int)).toNat = 2 ^ k - 1 := ofInt_u64 _ (by omega)
  have e2 : (BitVec.ofInt 64 x).toNat = (x % 18446744073709551616).toNat := by rw [BitVec.toNat_ofInt]; simp
  have e3 : ((x % 18446744073709551616).toNat % 2 ^ k : Nat) = (x % ((2 ^ k : Nat) : Int)).toNat := by
    have hd : ((2 ^ k : Nat) : Int) ∣ 18446744073709551616 := by
      have : (2 ^ k : Nat) ∣ 18446744073709551616 := by
        rw [show (18446744073709551616 : Nat) = 2 ^ 64 from by decide]
        exact Nat.pow_dvd_pow 2 (by omega)
      exact Int.natCast_dvd_natCast.2 this
    have h1 : x % 18446744073709551616 % ((2 ^ k : Nat) : Int) = x % ((2 ^ k : Nat) : Int) := Int.emod_emod_of_dvd x hd
    have h2 : ((x % 18446744073709551616).toNat : Int) = x % 18446744073709551616 := Int.toNat_of_nonneg (by omega)
    have h3 : x % 18446744073709551616 % ((2 ^ k : Nat) : Int) = (((x % 18446744073709551616).toNat % 2 ^ k : Nat) : Int) := by rw [Int.natCast_emod, h2]
    rw [← h1, h3, Int.toNat_natCast]
  rw [h, BitVec.toNat_and, e1, e2, Nat.and_two_pow_sub_one_eq_mod, e3]
  have hnn : 0 ≤ x % ((2 ^ k : Nat) : Int) := Int.emod_nonneg _ (by omega)
  have hlt : x % ((2 ^ k : Nat) : Int) < ((2 ^ k : Nat) : Int) := Int.emod_lt_of_pos _ (by omega)
  rw [Int.toNat_of_nonneg hnn]
  have : IntKind.i64.wrap (x % ((2 ^ k : Nat) : Int)) = x % ((2 ^ k : Nat) : Int) := IntWalk.i64_in _ (by constructor <;> omega)
  exact this

end Go.Proofs.Ytjjpmckefglhnaa
