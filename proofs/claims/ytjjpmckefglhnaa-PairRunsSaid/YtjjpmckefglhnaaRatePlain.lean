/-
  Layer 2's rates: what is reckoned to the nearer whole number, in plain Lean; no program in sight.
-/
import Derived.Test.YtjjpmckefglhnaaMulDivV
namespace Go.Proofs.Ytjjpmckefglhnaa
open Go.RowKit

/-- To the nearer one: N is p by q. -/
def Nr (p q N : Int) : Prop := 0 ≤ N ∧ -q ≤ 2 * (q * N - p) ∧ 2 * (q * N - p) ≤ q
theorem md_near {a b c : Int} (ha : 0 ≤ a) (hb : 0 ≤ b) (hc : 0 < c) (hfit : a * b < 9223372036854775807 * c) : ∃ N : Int, mulDivV a b c 2 = (N, 0) ∧ Nr (a * b) c N := by
  obtain ⟨A, rfl⟩ := Int.eq_ofNat_of_zero_le ha
  obtain ⟨B, rfl⟩ := Int.eq_ofNat_of_zero_le hb
  obtain ⟨C, rfl⟩ := Int.eq_ofNat_of_zero_le (Int.le_of_lt hc)
  have hC : 0 < C := by omega
  have hm : mdMinus (A : Int) (B : Int) (C : Int) = false := by
    unfold mdMinus
    rw [decide_eq_false (by omega), decide_eq_false (by omega), decide_eq_false (by omega)]
    rfl
  have hfit' : A * B < 9223372036854775807 * C := by
    have : ((A * B : Nat) : Int) < ((9223372036854775807 * C : Nat) : Int) := by simpa using hfit
    omega
  have hq : A * B / C < 9223372036854775807 := by
    refine (Nat.div_lt_iff_lt_mul hC).2 hfit'
  have e := Nat.div_add_mod (A * B) C
  have hr := Nat.mod_lt (A * B) hC
  unfold mulDivV mdQ
  rw [if_neg (by omega), hm, Int.natAbs_natCast, Int.natAbs_natCast, Int.natAbs_natCast]
  obtain ⟨q, hqd⟩ : ∃ q, q = A * B / C := ⟨_, rfl⟩
  obtain ⟨r, hrd⟩ : ∃ r, r = A * B % C := ⟨_, rfl⟩
  rw [← hqd] at hq e
  rw [← hrd] at e hr
  rw [← hqd, ← hrd]
  clear hqd hrd
  obtain ⟨mo, hmo⟩ : ∃ mo, mo = mdMore false 2 r C q := ⟨_, rfl⟩
  rw [← hmo]
  have mle : mo.toNat ≤ 1 := by cases mo <;> simp
  refine ⟨((q + mo.toNat : Nat) : Int), ?_, ?_⟩
  · unfold mdEnd
    rw [if_neg (by simp only [Bool.toNat_false]; omega)]
    rfl
  · have hcast : ((A : Int) * (B : Int)) = ((C * q + r : Nat) : Int) := by rw [e]; simp
    rw [hcast]
    unfold mdMore at hmo
    have e1 : (C : Int) * ((q + mo.toNat : Nat) : Int) = ((C * q : Nat) : Int) + (C : Int) * (mo.toNat : Int) := by
      rw [Int.natCast_add, Int.mul_add, Int.natCast_mul]
    refine ⟨by omega, ?_, ?_⟩
    · rw [e1]
      cases mo
      · simp only [Bool.toNat_false]
        by_cases h0 : r = 0
        · generalize C * q = T at *
          omega
        · rw [if_neg h0, if_neg (by decide), if_neg (by decide)] at hmo
          simp at hmo
          generalize C * q = T at *
          omega
      · simp only [Bool.toNat_true]
        generalize C * q = T at *
        omega
    · rw [e1]
      cases mo
      · simp only [Bool.toNat_false]
        generalize C * q = T at *
        omega
      · simp only [Bool.toNat_true]
        by_cases h0 : r = 0
        · rw [if_pos h0] at hmo; cases hmo
        · rw [if_neg h0, if_neg (by decide), if_neg (by decide)] at hmo
          simp at hmo
          generalize C * q = T at *
          omega
end Go.Proofs.Ytjjpmckefglhnaa
