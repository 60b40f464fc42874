/-
  The reference's MulDiv and the program's are one; rounded down it is the quotient; which rates are right.
-/
import Derived.Test.YtfpbahihndgabaaDigH
namespace Go.Proofs.Ytfpbahihndgabaa
set_option linter.unusedSimpArgs false
set_option linter.unusedVariables false
open Go.RowKit

theorem rnd_md (x y : Nat) (m : Bool) (rd : Int) (hy : 0 < y) : rndV x y m rd = x / y + (mdMore m rd (x % y) y (x / y)).toNat := by
  have hr := Nat.mod_lt x hy
  unfold rndV mdMore rndMore
  generalize x % y = r at *
  generalize x / y = q at *
  by_cases h0 : r = 0
  · rw [if_pos h0, if_pos h0]; rfl
  · rw [if_neg h0, if_neg h0]
    by_cases h1 : rd = 0
    · rw [if_pos h1, if_pos h1]
    · rw [if_neg h1, if_neg h1]
      by_cases h2 : rd = 1
      · rw [if_pos h2, if_pos h2]
      · rw [if_neg h2, if_neg h2]
        have e1 : decide (y < r + r) = decide (y - r < r) := decide_eq_decide.2 (by omega)
        have e2 : decide (r + r = y) = decide (r = y - r) := decide_eq_decide.2 (by omega)
        rw [e1, e2]
theorem mdr_is (a b c rd : Int) (hr : 0 ≤ rd ∧ rd ≤ 2) : mdrV a b c rd = mulDivV a b c rd := by
  unfold mdrV mulDivV
  rw [if_neg (by omega)]
  by_cases hc : c = 0
  · rw [if_pos hc, if_pos hc]
  · rw [if_neg hc, if_neg hc]
    have hC : 0 < c.natAbs := by omega
    have e : rndV (a.natAbs * b.natAbs) c.natAbs (mdMinus a b c) rd = mdQ a b c rd := rnd_md _ _ _ _ hC
    show (if (intV (rndV (a.natAbs * b.natAbs) c.natAbs (mdMinus a b c) rd) (mdMinus a b c && decide (0 < rndV (a.natAbs * b.natAbs) c.natAbs (mdMinus a b c) rd))).2 = true then _ else _) = _
    rw [e]
    generalize mdQ a b c rd = q
    generalize mdMinus a b c = m
    unfold intV mdEnd
    cases m
    · simp only [Bool.false_and, Bool.toNat_false, Bool.false_eq_true, if_false]
      by_cases h : 9223372036854775807 + 0 < q
      · simp [h]
      · simp [h]
    · rcases Nat.eq_zero_or_pos q with rfl | hq
      · rfl
      · rw [decide_eq_true hq]
        simp only [Bool.true_and, Bool.toNat_true, if_true]
        by_cases h : 9223372036854775807 + 1 < q
        · simp [h]
        · simp [h]
theorem refRight_any (r : Int) (w : World) : Calls Try.prog 27 #[.int .i64 r] w fun e w' => e = .returned (.bool (decide (2181843386368 ≤ r ∧ r ≤ 2216203124736))) ∧ w = w' := by
  by_cases h1 : 2181843386368 ≤ r
  · by_cases h2 : r ≤ 2216203124736
    · have e : decide (2181843386368 ≤ r ∧ r ≤ 2216203124736) = true := decide_eq_true ⟨h1, h2⟩
      rw [e]
      clear e
      go_enter Try.func27, Try.ntmps27
      go_wp2_with fail
      go_ret
      exact ⟨rfl, rfl⟩
    · have e : decide (2181843386368 ≤ r ∧ r ≤ 2216203124736) = false := decide_eq_false (fun h => h2 h.2)
      have d2 : decide (r ≤ 2216203124736) = false := decide_eq_false h2
      rw [e]
      clear e h2
      go_enter Try.func27, Try.ntmps27
      go_wp2_with fail
      go_ret
      exact ⟨rfl, rfl⟩
  · have e : decide (2181843386368 ≤ r ∧ r ≤ 2216203124736) = false := decide_eq_false (fun h => h1 h.1)
    have d2 : decide (2181843386368 ≤ r) = false := decide_eq_false h1
    rw [e]
    clear e h1
    go_enter Try.func27, Try.ntmps27
    go_wp2_with fail
    go_ret
    exact ⟨rfl, rfl⟩
/-- Rounded down, by a number above nought. -/
theorem md_floor {a b c : Int} (hb : 0 ≤ b) (hc : 0 < c) (hfit : -9223372036854775808 ≤ a * b / c ∧ a * b / c ≤ 9223372036854775807) : mulDivV a b c 0 = (a * b / c, 0) := by
  obtain ⟨B, rfl⟩ := Int.eq_ofNat_of_zero_le hb
  obtain ⟨C, rfl⟩ := Int.eq_ofNat_of_zero_le (Int.le_of_lt hc)
  have hC : 0 < C := by omega
  by_cases ha : a < 0
  · obtain ⟨A, rfl⟩ : ∃ A : Nat, a = -(A : Int) := ⟨a.natAbs, by omega⟩
    have hm : mdMinus (-(A : Int)) (B : Int) (C : Int) = true := by
      unfold mdMinus
      rw [decide_eq_true ha, decide_eq_false (show ¬ (B : Int) < 0 by omega), decide_eq_false (show ¬ (C : Int) < 0 by omega)]
      rfl
    have h1 := Nat.div_add_mod (A * B) C
    have h2 := Nat.mod_lt (A * B) hC
    have hq : mdQ (-(A : Int)) (B : Int) (C : Int) 0 = A * B / C + (if A * B % C = 0 then 0 else 1) := by
      unfold mdQ
      rw [hm, Int.natAbs_neg, Int.natAbs_natCast, Int.natAbs_natCast, Int.natAbs_natCast]
      unfold mdMore
      split
      · rfl
      · rw [if_pos rfl]; rfl
    have hv : -(A : Int) * B / C = -((A * B / C + (if A * B % C = 0 then 0 else 1) : Nat) : Int) := by
      rw [Int.neg_mul, ← Int.natCast_mul]
      generalize A * B = p at *
      generalize p % C = m at *
      generalize p / C = q at *
      subst h1
      by_cases h0 : m = 0
      · rw [if_pos h0]
        subst h0
        rw [show -((C * q + 0 : Nat) : Int) = (C : Int) * (-(q : Int)) by rw [Nat.add_zero, Int.natCast_mul]; grind, Int.mul_ediv_cancel_left _ (by omega)]
        simp
      · rw [if_neg h0]
        rw [show -((C * q + m : Nat) : Int) = ((C : Int) - m) + (C : Int) * (-(q : Int) - 1) by rw [Int.natCast_add, Int.natCast_mul]; grind, Int.add_mul_ediv_left _ _ (by omega), Int.ediv_eq_zero_of_lt (by omega) (by omega)]
        omega
    rw [hv] at hfit ⊢
    unfold mulDivV
    rw [if_neg (by omega), hm, hq]
    unfold mdEnd
    rw [Bool.toNat_true, if_neg (by omega)]
    rfl
  · obtain ⟨A, rfl⟩ := Int.eq_ofNat_of_zero_le (show 0 ≤ a by omega)
    have hm : mdMinus (A : Int) (B : Int) (C : Int) = false := by
      unfold mdMinus
      rw [decide_eq_false (show ¬ (A : Int) < 0 by omega), decide_eq_false (show ¬ (B : Int) < 0 by omega), decide_eq_false (show ¬ (C : Int) < 0 by omega)]
      rfl
    have hq : mdQ (A : Int) (B : Int) (C : Int) 0 = A * B / C := by
      unfold mdQ
      rw [hm, Int.natAbs_natCast, Int.natAbs_natCast, Int.natAbs_natCast]
      unfold mdMore
      split
      · rfl
      · rw [if_pos rfl]; rfl
    have hv : (A : Int) * B / C = ((A * B / C : Nat) : Int) := by rw [Int.natCast_ediv, Int.natCast_mul]
    rw [hv] at hfit ⊢
    unfold mulDivV
    rw [if_neg (by omega), hm, hq]
    unfold mdEnd
    rw [Bool.toNat_false, if_neg (by omega)]
    rfl
end Go.Proofs.Ytfpbahihndgabaa
