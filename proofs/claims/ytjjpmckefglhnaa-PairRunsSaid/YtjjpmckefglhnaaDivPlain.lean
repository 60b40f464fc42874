/-
  Long division by two digits of 32 bits: plain laws on numbers, no program in sight.
-/
import Derived.Test.YtjjpmckefglhnaaKit
import Derived.Lib.BitFns
namespace Go.Proofs.Ytjjpmckefglhnaa
namespace Dv
/-- One digit: the guess q, brought down, is the quotient. -/
theorem step_ge {y1 y0 u u1 q r B : Nat} (h : q * y1 + r = u) (hle : q * y0 ≤ B * r + u1) : q * (y1 * B + y0) ≤ u * B + u1 := by
  have e : q * (y1 * B + y0) = (q * y1) * B + q * y0 := by rw [Nat.mul_add, Nat.mul_assoc]
  have e2 : u * B = (q * y1) * B + r * B := by rw [← h, Nat.add_mul]
  rw [e, e2, Nat.mul_comm r B]
  omega
theorem step_lt {y1 y0 u u1 q r B : Nat} (h : q * y1 + r = u) (hlt : B * r + u1 < q * y0) : u * B + u1 < q * (y1 * B + y0) := by
  have e : q * (y1 * B + y0) = (q * y1) * B + q * y0 := by rw [Nat.mul_add, Nat.mul_assoc]
  have e2 : u * B = (q * y1) * B + r * B := by rw [← h, Nat.add_mul]
  rw [e, e2, Nat.mul_comm r B]
  omega
theorem quo_lt {u u1 y B : Nat} (hu : u < y) (h1 : u1 < B) : u * B + u1 < B * y := by
  have : (u + 1) * B ≤ y * B := Nat.mul_le_mul_right B hu
  rw [Nat.add_mul, Nat.one_mul] at this
  rw [Nat.mul_comm B y]
  omega
/-- The guess at its start is at most B + 1. -/
theorem guess_le {u y1 y0 : Nat} (hy1 : 2147483648 ≤ y1) (hy0 : y0 < 4294967296) (hu : u < y1 * 4294967296 + y0) : u / y1 ≤ 4294967297 := by
  have h : u < 4294967298 * y1 := by omega
  have := (Nat.div_lt_iff_lt_mul (by omega : 0 < y1)).2 h
  omega
/-- What the loop keeps. -/
def Inv (u u1 y1 y0 q r : Nat) : Prop := q * y1 + r = u ∧ (u * 4294967296 + u1) / (y1 * 4294967296 + y0) ≤ q ∧ q ≤ 4294967297
theorem inv_start {u u1 y1 y0 : Nat} (hy1 : 2147483648 ≤ y1) (hy0 : y0 < 4294967296) (hu : u < y1 * 4294967296 + y0) (h1 : u1 < 4294967296) : Inv u u1 y1 y0 (u / y1) (u % y1) := by
  refine ⟨by rw [Nat.mul_comm]; exact Nat.div_add_mod u y1, ?_, guess_le hy1 hy0 hu⟩
  have hd : u * 4294967296 + u1 < (u / y1 + 1) * (y1 * 4294967296 + y0) := by
    have h2 : u < (u / y1 + 1) * y1 := by
      have := Nat.div_add_mod u y1
      have := Nat.mod_lt u (by omega : 0 < y1)
      rw [Nat.add_mul, Nat.one_mul, Nat.mul_comm]
      omega
    have h3 : (u + 1) * 4294967296 ≤ (u / y1 + 1) * y1 * 4294967296 := Nat.mul_le_mul_right _ h2
    rw [Nat.mul_add, ← Nat.mul_assoc]
    omega
  have := (Nat.div_lt_iff_lt_mul (by omega : 0 < y1 * 4294967296 + y0)).2 hd
  omega
theorem inv_down {u u1 y1 y0 q r : Nat} (hu : u < y1 * 4294967296 + y0) (h1 : u1 < 4294967296) (h : Inv u u1 y1 y0 q r) (hc : 4294967296 ≤ q ∨ 4294967296 * r + u1 < q * y0) :
    0 < q ∧ Inv u u1 y1 y0 (q - 1) (r + y1) := by
  obtain ⟨ha, hb, hq⟩ := h
  have hlt : (u * 4294967296 + u1) / (y1 * 4294967296 + y0) < q := by
    rcases hc with hc | hc
    · have := (Nat.div_lt_iff_lt_mul (by omega : 0 < y1 * 4294967296 + y0)).2 (quo_lt hu h1)
      omega
    · exact (Nat.div_lt_iff_lt_mul (by omega : 0 < y1 * 4294967296 + y0)).2 (step_lt ha hc)
  have hq0 : 0 < q := Nat.lt_of_le_of_lt (Nat.zero_le _) hlt
  refine ⟨hq0, ?_, Nat.le_sub_one_of_lt hlt, by omega⟩
  obtain ⟨k, rfl⟩ : ∃ k, q = k + 1 := ⟨q - 1, by omega⟩
  rw [Nat.add_sub_cancel, ← ha, Nat.add_mul]
  omega
theorem inv_end {u u1 y1 y0 q r : Nat} (hy1 : 2147483648 ≤ y1) (h : Inv u u1 y1 y0 q r) (hc : q * y0 ≤ 4294967296 * r + u1) : q = (u * 4294967296 + u1) / (y1 * 4294967296 + y0) := by
  obtain ⟨ha, hb, hq⟩ := h
  have := (Nat.le_div_iff_mul_le (by omega : 0 < y1 * 4294967296 + y0)).2 (step_ge (B := 4294967296) ha hc)
  omega
theorem inv_break {u u1 y1 y0 q r : Nat} (hy1 : 2147483648 ≤ y1) (hy0 : y0 < 4294967296) (h : Inv u u1 y1 y0 q r) (hq : q ≤ 4294967296) (hr : 4294967296 ≤ r) : q = (u * 4294967296 + u1) / (y1 * 4294967296 + y0) := by
  refine inv_end hy1 h ?_
  have h1 : q * y0 ≤ 4294967296 * y0 := Nat.mul_le_mul_right _ hq
  omega
/-- Two digits are the whole. -/
theorem two_digits {u u1 u0 y B : Nat} (hy : 0 < y) : (u * B + u1) / y * B + (((u * B + u1) % y) * B + u0) / y = ((u * B + u1) * B + u0) / y := by
  have e := Nat.div_add_mod (u * B + u1) y
  have : (u * B + u1) * B + u0 = y * ((u * B + u1) / y * B) + ((u * B + u1) % y * B + u0) := by
    have : (u * B + u1) * B = (y * ((u * B + u1) / y)) * B + (u * B + u1) % y * B := by rw [← Nat.add_mul, e]
    rw [this, Nat.mul_assoc]
    omega
  rw [this, Nat.mul_add_div hy]
theorem two_rest {u u1 u0 y B : Nat} : (((u * B + u1) % y) * B + u0) % y = ((u * B + u1) * B + u0) % y := by
  have e := Nat.div_add_mod (u * B + u1) y
  have : (u * B + u1) * B + u0 = y * ((u * B + u1) / y * B) + ((u * B + u1) % y * B + u0) := by
    have : (u * B + u1) * B = (y * ((u * B + u1) / y)) * B + (u * B + u1) % y * B := by rw [← Nat.add_mul, e]
    rw [this, Nat.mul_assoc]
    omega
  rw [this, Nat.mul_add_mod]
open Go.Lib
theorem bitLen_pos {x : Nat} (h : x ≠ 0) (hx : x < 2 ^ 64) : 0 < Lib.bitLen x := by rw [bitLen_half x h hx]; omega
theorem lt_bitLen {y : Nat} (hy : y < 2 ^ 64) : y < 2 ^ Lib.bitLen y := by
  rcases Nat.lt_or_ge y (2 ^ Lib.bitLen y) with h | h
  · exact h
  · have h1 := bitLen_shift _ _ h hy
    have h2 : Lib.bitLen (y / 2 ^ Lib.bitLen y) = 0 := by omega
    by_cases h3 : y / 2 ^ Lib.bitLen y = 0
    · have := (Nat.div_eq_zero_iff_lt (Nat.pow_pos (by omega))).1 h3
      omega
    · have := bitLen_pos h3 (Nat.lt_of_le_of_lt (Nat.div_le_self _ _) hy)
      omega
theorem bitLen_low {y k : Nat} (hk : Lib.bitLen y = k + 1) (hk64 : k < 64) : 2 ^ k ≤ y := by
  rcases Nat.lt_or_ge y (2 ^ k) with h | h
  · have := bitLen_le y k (by omega) h
    omega
  · exact h
/-- The divisor and what is divided, both moved to the left. -/
theorem norm_y {y s : Nat} (h0 : 0 < y) (hy : y < 18446744073709551616) (hs : Lib.bitLen y + s = 64) : 9223372036854775808 ≤ y * 2 ^ s ∧ y * 2 ^ s < 18446744073709551616 := by
  have hp := bitLen_pos (by omega : y ≠ 0) hy
  obtain ⟨k, hk⟩ : ∃ k, Lib.bitLen y = k + 1 := ⟨Lib.bitLen y - 1, by omega⟩
  have h1 := lt_bitLen hy
  have h2 := bitLen_low hk (by omega)
  constructor
  · have := Nat.mul_le_mul_right (2 ^ s) h2
    rw [← Nat.pow_add, show k + s = 63 from by omega] at this
    exact this
  · have := (Nat.mul_lt_mul_right (Nat.pow_pos (by omega : 0 < 2) : 0 < 2 ^ s)).2 h1
    rw [← Nat.pow_add, show Lib.bitLen y + s = 64 from by omega] at this
    exact this
theorem norm_lo {lo s : Nat} (hs : s ≤ 64) (hlo : lo < 18446744073709551616) : lo / 2 ^ (64 - s) < 2 ^ s ∧ lo * 2 ^ s = lo / 2 ^ (64 - s) * 18446744073709551616 + lo * 2 ^ s % 18446744073709551616 := by
  have e : (2 : Nat) ^ (64 - s) * 2 ^ s = 18446744073709551616 := by rw [← Nat.pow_add, show 64 - s + s = 64 from by omega]
  constructor
  · refine (Nat.div_lt_iff_lt_mul (Nat.pow_pos (by omega))).2 ?_
    rw [Nat.mul_comm, e]; exact hlo
  · have h := Nat.div_add_mod (lo * 2 ^ s) 18446744073709551616
    have : lo * 2 ^ s / 18446744073709551616 = lo / 2 ^ (64 - s) := by
      rw [← e, Nat.mul_div_mul_right _ _ (Nat.pow_pos (by omega))]
    omega
theorem norm_hi {hi lo y s : Nat} (hs : s ≤ 64) (hhi : hi < y) (hlo : lo < 18446744073709551616) (hY : y * 2 ^ s < 18446744073709551616) :
    hi * 2 ^ s < 18446744073709551616 ∧ (hi * 2 ^ s ||| lo / 2 ^ (64 - s)) = hi * 2 ^ s + lo / 2 ^ (64 - s) ∧ hi * 2 ^ s + lo / 2 ^ (64 - s) < y * 2 ^ s ∧
    (hi * 18446744073709551616 + lo) * 2 ^ s = (hi * 2 ^ s + lo / 2 ^ (64 - s)) * 18446744073709551616 + lo * 2 ^ s % 18446744073709551616 := by
  obtain ⟨h1, h2⟩ := norm_lo hs hlo
  have h3 : (hi + 1) * 2 ^ s ≤ y * 2 ^ s := Nat.mul_le_mul_right _ hhi
  rw [Nat.add_mul, Nat.one_mul] at h3
  have h4 : (hi * 18446744073709551616 + lo) * 2 ^ s = hi * 2 ^ s * 18446744073709551616 + lo * 2 ^ s := by rw [Nat.add_mul, Nat.mul_right_comm]
  rw [h4]
  refine ⟨?_, ?_, ?_, ?_⟩
  · generalize 2 ^ s = T at *
    generalize hi * T = H at *
    omega
  rotate_left
  · generalize lo / 2 ^ (64 - s) = L at *
    generalize 2 ^ s = T at *
    generalize hi * T = H at *
    omega
  · generalize lo / 2 ^ (64 - s) = L at *
    generalize 2 ^ s = T at *
    generalize hi * T = H at *
    generalize lo * T = R at *
    omega
  rw [Nat.mul_comm hi]
  exact (Nat.two_pow_add_eq_or_of_lt h1 hi).symm
theorem norm_end {hi lo y s u v : Nat} (h : (hi * 18446744073709551616 + lo) * 2 ^ s = u * 18446744073709551616 + v) :
    (u * 18446744073709551616 + v) / (y * 2 ^ s) = (hi * 18446744073709551616 + lo) / y ∧ (u * 18446744073709551616 + v) % (y * 2 ^ s) / 2 ^ s = (hi * 18446744073709551616 + lo) % y := by
  have hp : 0 < 2 ^ s := Nat.pow_pos (by omega)
  rw [← h, Nat.mul_div_mul_right _ _ hp, Nat.mul_mod_mul_right, Nat.mul_div_cancel _ hp]
  exact ⟨rfl, rfl⟩
end Dv
end Go.Proofs.Ytjjpmckefglhnaa
