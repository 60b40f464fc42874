/-
  Layer 1: math/bits' Mul64, Len64, Div64 and wide's Mul, Div, Add, MulDiv: what they give.
-/
import Derived.Test.YtjjpmckefglhnaaRows
import Derived.Test.YtjjpmckefglhnaaDivPlain
import Derived.Test.YtjjpmckefglhnaaKitB
import Derived.WalkKit
import Derived.ProofKit
import Derived.OpenShut
import Derived.LoopTactic
import Derived.WalkLawsBesides
import Derived.WalkSpells
import Derived.Outline
import Derived.Lib.Hide
import Derived.Deep.Light
import Derived.Deep.DrawnRows
import Derived.BigQuiet
namespace Go.Proofs.Ytjjpmckefglhnaa
open Go.RowKit
attribute [local go_sem ↓] Go.wp_at_zero Go.wp_at_succ

theorem wrapU (z : Int) : IntKind.u64.wrap z = z % 18446744073709551616 := by
  unfold IntKind.wrap
  simp [IntKind.signed, IntKind.bits]
theorem ofInt_u64 (a : Nat) (ha : a < 18446744073709551616) : (BitVec.ofInt 64 (a : Int)).toNat = a := by
  rw [BitVec.toNat_ofInt]
  have : ((a : Int) % 18446744073709551616).toNat = a := by omega
  simpa using this
theorem andU_nat (a b : Nat) (ha : a < 18446744073709551616) (hb : b < 18446744073709551616) : bits .and .u64 (a : Int) (b : Int) = ((a &&& b : Nat) : Int) := by
  have h : bits .and .u64 (a : Int) (b : Int) = IntKind.u64.wrap ((BitVec.ofInt 64 (a : Int) &&& BitVec.ofInt 64 (b : Int)).toNat : Int) := rfl
  rw [h, wrapU, BitVec.toNat_and, ofInt_u64 a ha, ofInt_u64 b hb]
  have := @Nat.and_le_left a b
  omega
theorem andU (a : Nat) (ha : a < 18446744073709551616) : bits .and .u64 (a : Int) 4294967295 = ((a % 4294967296 : Nat) : Int) := by
  have h := andU_nat a 4294967295 ha (by omega)
  rw [show (4294967295 : Nat) = 2 ^ 32 - 1 from by decide, Nat.and_two_pow_sub_one_eq_mod] at h
  exact h
theorem wrapN (n : Nat) : IntKind.u64.wrap (n : Int) = ((n % 18446744073709551616 : Nat) : Int) := by rw [wrapU]; omega
theorem divN (n : Nat) : (n : Int) / 4294967296 = ((n / 4294967296 : Nat) : Int) := rfl
theorem andN (n : Nat) : bits .and .u64 ((n % 18446744073709551616 : Nat) : Int) 4294967295 = ((n % 18446744073709551616 % 4294967296 : Nat) : Int) := andU _ (by omega)
theorem mul_hi (a b c d : Nat) (ha : a < 4294967296) (hb : b < 4294967296) (hc : c < 4294967296) (hd : d < 4294967296) :
    a * c + (a * d + b * d / 4294967296) / 4294967296 + ((a * d + b * d / 4294967296) % 4294967296 + b * c) / 4294967296 = (a * 4294967296 + b) * (c * 4294967296 + d) / 18446744073709551616 := by
  have h1 : a * d ≤ 4294967295 * 4294967295 := Nat.mul_le_mul (by omega) (by omega)
  have h2 : b * c ≤ 4294967295 * 4294967295 := Nat.mul_le_mul (by omega) (by omega)
  have h3 : b * d ≤ 4294967295 * 4294967295 := Nat.mul_le_mul (by omega) (by omega)
  have e : (a * 4294967296 + b) * (c * 4294967296 + d) = a * c * 18446744073709551616 + (a * d + b * c) * 4294967296 + b * d := by
    rw [Nat.add_mul, Nat.mul_add, Nat.mul_add, Nat.add_mul (a * d)]
    have e1 : a * 4294967296 * (c * 4294967296) = a * c * 18446744073709551616 := by
      rw [show (18446744073709551616 : Nat) = 4294967296 * 4294967296 from rfl, Nat.mul_mul_mul_comm]
    have e2 : a * 4294967296 * d = a * d * 4294967296 := by rw [Nat.mul_right_comm]
    have e3 : b * (c * 4294967296) = b * c * 4294967296 := by rw [Nat.mul_assoc]
    omega
  rw [e]
  generalize a * c = p at *
  generalize a * d = q at *
  generalize b * c = r at *
  generalize b * d = s at *
  omega

set_option maxHeartbeats 1000000 in
theorem mul64_any (x y : Nat) (hx : x < 18446744073709551616) (hy : y < 18446744073709551616) (w : World) :
    Calls Try.prog 44 #[.int .u64 x, .int .u64 y] w fun e w' => e = .returned (.tuple #[.int .u64 ((x * y / 18446744073709551616 : Nat) : Int), .int .u64 ((x * y % 18446744073709551616 : Nat) : Int)]) ∧ w = w' := by
  have h1 := andU x hx
  have h2 := andU y hy
  have hm := mul_hi (x / 4294967296) (x % 4294967296) (y / 4294967296) (y % 4294967296) (by omega) (by omega) (by omega) (by omega)
  rw [show x / 4294967296 * 4294967296 + x % 4294967296 = x from by omega, show y / 4294967296 * 4294967296 + y % 4294967296 = y from by omega] at hm
  have b1 : x / 4294967296 * (y / 4294967296) ≤ 4294967295 * 4294967295 := Nat.mul_le_mul (by omega) (by omega)
  have b2 : x / 4294967296 * (y % 4294967296) ≤ 4294967295 * 4294967295 := Nat.mul_le_mul (by omega) (by omega)
  have b3 : x % 4294967296 * (y / 4294967296) ≤ 4294967295 * 4294967295 := Nat.mul_le_mul (by omega) (by omega)
  have b4 : x % 4294967296 * (y % 4294967296) ≤ 4294967295 * 4294967295 := Nat.mul_le_mul (by omega) (by omega)
  have hq : x * y / 18446744073709551616 < 18446744073709551616 := by
    refine (Nat.div_lt_iff_lt_mul (by omega)).2 ?_
    exact Nat.lt_of_le_of_lt (Nat.mul_le_mul (Nat.le_of_lt_succ hx) (Nat.le_of_lt_succ hy)) (by decide)
  have HM := Lib.hid (And.intro h1 (And.intro h2 (And.intro hm (And.intro b1 (And.intro b2 (And.intro b3 (And.intro b4 hq)))))))
  clear h1 h2 hm b1 b2 b3 b4 hq
  go_enter Try.func44, Try.ntmps44
  go_wp2
  go_ret2
  obtain ⟨h1, h2, hm, b1, b2, b3, b4, hq⟩ := HM.out
  refine ⟨?_, rfl⟩
  congr 2
  simp only [Array.getD_eq_getD_getElem?, List.getElem?_toArray, List.getElem?_cons_succ, List.getElem?_cons_zero, Option.getD_some]
  rw [h1, h2]
  simp only [divN, ← Int.natCast_mul, ← Int.natCast_add, wrapN, andN]
  have hlo : x * y % 18446744073709551616 = x * y % 18446744073709551616 := rfl
  rw [← hm]
  rw [← hm] at hq
  generalize x / 4294967296 * (y / 4294967296) = p at *
  generalize x / 4294967296 * (y % 4294967296) = q at *
  generalize x % 4294967296 * (y / 4294967296) = r at *
  generalize x % 4294967296 * (y % 4294967296) = s at *
  congr 4
  omega
end Go.Proofs.Ytjjpmckefglhnaa
