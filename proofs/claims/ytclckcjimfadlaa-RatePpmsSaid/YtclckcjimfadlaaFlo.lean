/-
  Floats of 64 bits in plain Lean: what a word stands for, as a whole number of the least parts; how two words stand to each other.
-/
import Ieee.Arith
import GoSem.Core.Value
namespace Go.Proofs.Ytclckcjimfadlaa
open Ieee

/-- The number of a rung, in parts of 2^-1074. -/
def vR (r : Nat) : Nat := if r < 4503599627370496 then r else (4503599627370496 + r % 4503599627370496) * 2 ^ (r / 4503599627370496 - 1)
def negW (b : Nat) : Bool := decide (9223372036854775808 ≤ b)
def rungW (b : Nat) : Nat := b % 9223372036854775808
def FinW (b : Nat) : Prop := rungW b < 9218868437227405312
instance (b : Nat) : Decidable (FinW b) := by unfold FinW; exact inferInstance
def sV (b : Nat) : Int := if negW b = true then -(vR (rungW b) : Int) else (vR (rungW b) : Int)
theorem read_fin {b : Nat} (hb : b < 18446744073709551616) (h : FinW b) : ∃ m a : Nat, double.read b = .number (negW b) m (double.leastPlace + a) ∧ m * 2 ^ a = vR (rungW b) := by
  have hn : (b / 9223372036854775808 % 2 == 1) = negW b := by
    unfold negW
    by_cases hc : 9223372036854775808 ≤ b
    · rw [decide_eq_true hc]; simp; omega
    · rw [decide_eq_false hc]; simp; omega
  unfold Format.read
  simp only [show double.signWeight = 9223372036854775808 from rfl, show double.binade = 4503599627370496 from rfl, show double.infRung = 9218868437227405312 from rfl, hn]
  unfold FinW rungW at h
  unfold vR rungW
  by_cases h0 : b % 9223372036854775808 < 4503599627370496
  · rw [if_pos h0, if_pos h0]
    exact ⟨b % 9223372036854775808, 0, by simp, by simp⟩
  · rw [if_neg h0, if_neg h0, if_pos h]
    exact ⟨_, _, rfl, rfl⟩
theorem read_not {b : Nat} (h : ¬ FinW b) : (∃ s, double.read b = .infinity s ∧ rungW b = 9218868437227405312) ∨ (∃ s f, double.read b = .nan s f ∧ rungW b ≠ 9218868437227405312) := by
  unfold Format.read
  simp only [show double.signWeight = 9223372036854775808 from rfl, show double.binade = 4503599627370496 from rfl, show double.infRung = 9218868437227405312 from rfl]
  unfold FinW rungW at h
  unfold rungW
  rw [if_neg (by omega), if_neg h]
  by_cases h1 : b % 9223372036854775808 = 9218868437227405312
  · rw [if_pos h1]; exact .inl ⟨_, rfl, h1⟩
  · rw [if_neg h1]; exact .inr ⟨_, _, rfl, h1⟩
theorem compare_mul (x y p : Int) (hp : 0 < p) : compare (x * p) (y * p) = compare x y := by
  rcases Int.lt_trichotomy x y with h | h | h
  · rw [Int.compare_eq_lt.2 h, Int.compare_eq_lt.2 (Int.mul_lt_mul_of_pos_right h hp)]
  · subst h; rw [Int.compare_eq_eq.2 rfl, Int.compare_eq_eq.2 rfl]
  · rw [Int.compare_eq_gt.2 h, Int.compare_eq_gt.2 (Int.mul_lt_mul_of_pos_right h hp)]
theorem signed_mul (s : Bool) (m a c : Nat) (hc : c ≤ a) : signed s m (a - c) * (2 ^ c : Nat) = if s = true then -((m * 2 ^ a : Nat) : Int) else ((m * 2 ^ a : Nat) : Int) := by
  have h : m <<< (a - c) * 2 ^ c = m * 2 ^ a := by rw [Nat.shiftLeft_eq, Nat.mul_assoc, ← Nat.pow_add, Nat.sub_add_cancel hc]
  unfold signed
  cases s
  · simp only [Bool.false_eq_true, if_false]; rw [← h]; push_cast; rfl
  · simp only [if_true]; rw [← h]; push_cast; rw [Int.neg_mul]
theorem order_fin {x y : Nat} (hx : x < 18446744073709551616) (hy : y < 18446744073709551616) (h1 : FinW x) (h2 : FinW y) : double.order x y = some (compare (sV x) (sV y)) := by
  obtain ⟨m, a, e1, v1⟩ := read_fin hx h1
  obtain ⟨n, b, e2, v2⟩ := read_fin hy h2
  unfold Format.order
  rw [e1, e2]
  show some (compare (signed _ _ _) (signed _ _ _)) = _
  have hm : min (double.leastPlace + (a : Int)) (double.leastPlace + (b : Int)) = double.leastPlace + ((min a b : Nat) : Int) := by omega
  have k1 : (double.leastPlace + (a : Int) - min (double.leastPlace + (a : Int)) (double.leastPlace + (b : Int))).toNat = a - min a b := by rw [hm]; omega
  have k2 : (double.leastPlace + (b : Int) - min (double.leastPlace + (a : Int)) (double.leastPlace + (b : Int))).toNat = b - min a b := by rw [hm]; omega
  rw [k1, k2]
  have hp : (0 : Int) < ((2 ^ (min a b) : Nat) : Int) := by exact_mod_cast Nat.pow_pos (by omega : 0 < 2)
  rw [← compare_mul _ _ _ hp, signed_mul _ _ _ _ (Nat.min_le_left a b), signed_mul _ _ _ _ (Nat.min_le_right a b), v1, v2]
  unfold sV
  rfl
theorem vR_lo {r : Nat} (h : r < 4503599627370496) : vR r = r := if_pos h
theorem vR_hi {r : Nat} (h : 4503599627370496 ≤ r) : vR r = (4503599627370496 + r % 4503599627370496) * 2 ^ (r / 4503599627370496 - 1) := if_neg (by omega)
theorem vR_mono {r r' : Nat} (h : r ≤ r') : vR r ≤ vR r' := by
  by_cases h1 : r' < 4503599627370496
  · rw [vR_lo h1, vR_lo (by omega)]; exact h
  · have h2 : 4503599627370496 ≤ r' := by omega
    rw [vR_hi h2]
    have hp : 0 < 2 ^ (r' / 4503599627370496 - 1) := Nat.pow_pos (by omega)
    by_cases h3 : r < 4503599627370496
    · rw [vR_lo h3]
      refine Nat.le_trans (Nat.le_of_lt h3) (Nat.le_trans (Nat.le_add_right _ (r' % 4503599627370496)) ?_)
      exact Nat.le_mul_of_pos_right _ hp
    · have h4 : 4503599627370496 ≤ r := by omega
      rw [vR_hi h4]
      rcases Nat.lt_or_ge (r / 4503599627370496) (r' / 4503599627370496) with hlt | hge
      · have e1 : r' / 4503599627370496 - 1 = (r / 4503599627370496 - 1) + 1 + (r' / 4503599627370496 - r / 4503599627370496 - 1) := by omega
        have b1 : (4503599627370496 + r % 4503599627370496) * 2 ^ (r / 4503599627370496 - 1) ≤ 4503599627370496 * 2 ^ (r / 4503599627370496 - 1 + 1) := by
          rw [Nat.pow_succ, Nat.mul_comm (2 ^ _) 2, ← Nat.mul_assoc]
          exact Nat.mul_le_mul_right _ (by omega)
        refine Nat.le_trans b1 ?_
        refine Nat.mul_le_mul (by omega) (Nat.pow_le_pow_right (by omega) (by omega))
      · have e2 : r / 4503599627370496 = r' / 4503599627370496 := by omega
        rw [e2]
        exact Nat.mul_le_mul_right _ (by omega)
/-! ### To the nearest, of two the even one -/
def rne (a d : Nat) : Nat := if d - a % d < a % d ∨ (a % d = d - a % d ∧ a / d % 2 = 1) then a / d + 1 else a / d
theorem rne_mono {a a' d : Nat} (hd : 0 < d) (h : a ≤ a') : rne a d ≤ rne a' d := by
  have h1 : a / d ≤ a' / d := Nat.div_le_div_right h
  have m1 := Nat.mod_lt a hd
  have m2 := Nat.mod_lt a' hd
  rcases Nat.lt_or_ge (a / d) (a' / d) with hlt | hge
  · have u1 : rne a d ≤ a / d + 1 := by unfold rne; split <;> omega
    have u2 : a' / d ≤ rne a' d := by unfold rne; split <;> omega
    omega
  · have e : a / d = a' / d := by omega
    have k1 := Nat.div_add_mod a d
    have k2 := Nat.div_add_mod a' d
    rw [e] at k1
    have hr : a % d ≤ a' % d := by omega
    unfold rne
    rw [e]
    split
    · rename_i hc
      rw [if_pos (by omega)]
      exact Nat.le_refl _
    · split <;> omega
theorem rne_scale (a d c : Nat) (hc : 0 < c) : rne (a * c) (d * c) = rne a d := by
  have e1 : a * c / (d * c) = a / d := Nat.mul_div_mul_right _ _ hc
  have e2 : a * c % (d * c) = a % d * c := Nat.mul_mod_mul_right _ _ _
  have e3 : d * c - a % d * c = (d - a % d) * c := (Nat.sub_mul _ _ _).symm
  unfold rne
  rw [e1, e2, e3]
  have c1 : ((d - a % d) * c < a % d * c) ↔ (d - a % d < a % d) := ⟨fun h => Nat.lt_of_mul_lt_mul_right h, fun h => Nat.mul_lt_mul_of_pos_right h hc⟩
  have c2 : (a % d * c = (d - a % d) * c) ↔ (a % d = d - a % d) := ⟨fun h => Nat.eq_of_mul_eq_mul_right hc h, fun h => congrArg (· * c) h⟩
  simp only [c1, c2]
theorem rne_small {a d : Nat} (h : 2 * a < d) : rne a d = 0 := by
  unfold rne
  rw [Nat.mod_eq_of_lt (by omega), Nat.div_eq_of_lt (by omega), if_neg (by omega)]
theorem rne_zero (d : Nat) : rne 0 d = 0 := by
  unfold rne
  rw [Nat.zero_mod, Nat.zero_div, if_neg (by omega)]
theorem rne_le (a d : Nat) : rne a d ≤ a / d + 1 := by unfold rne; split <;> omega
def two (n : Nat) : Nat := 2 ^ n
theorem two_pos (n : Nat) : 0 < two n := Nat.pow_pos (by omega)
theorem two_add (a b : Nat) : two a * two b = two (a + b) := (Nat.pow_add 2 a b).symm
theorem two_le {a b : Nat} (h : a ≤ b) : two a ≤ two b := Nat.pow_le_pow_right (by omega) h
def ppmD : Nat := 15625 * two 1039
theorem ppmD_pos : 0 < ppmD := by unfold ppmD; exact Nat.mul_pos (by decide) (two_pos 1039)
def qW (b : Nat) : Nat := rne (vR (rungW b)) ppmD
theorem qW_mono {b b' : Nat} (h : vR (rungW b) ≤ vR (rungW b')) : qW b ≤ qW b' := rne_mono ppmD_pos h
/-! ### A word's parts -/
def exW (b : Nat) : Nat := b / 4503599627370496 % 2048
def frW (b : Nat) : Nat := b % 4503599627370496
def maW (b : Nat) : Nat := if exW b = 0 then frW b else frW b + 4503599627370496
def e1W (b : Nat) : Nat := if exW b = 0 then 1 else exW b
theorem vR_parts (b : Nat) : vR (rungW b) = maW b * 2 ^ (e1W b - 1) := by
  have hr : rungW b = exW b * 4503599627370496 + frW b := by unfold rungW exW frW; omega
  have hf : frW b < 4503599627370496 := Nat.mod_lt _ (by omega)
  rw [hr]
  unfold maW e1W
  by_cases h0 : exW b = 0
  · rw [h0, if_pos rfl, if_pos rfl, vR_lo (by omega)]; simp
  · rw [if_neg h0, if_neg h0, vR_hi (by omega)]
    have a1 : (exW b * 4503599627370496 + frW b) / 4503599627370496 = exW b := by omega
    have a2 : (exW b * 4503599627370496 + frW b) % 4503599627370496 = frW b := by omega
    rw [a1, a2, Nat.add_comm]
theorem maW_lt (b : Nat) : maW b < 9007199254740992 := by
  have hf : frW b < 4503599627370496 := Nat.mod_lt _ (by omega)
  unfold maW; split <;> omega
/-- The rate's parts, as the program reckons them. -/
theorem qW_parts {b : Nat} (k : Nat) (hk : 1040 = k + e1W b) : qW b = if k ≤ 40 then rne (maW b) (15625 * 2 ^ k) else 0 := by
  have he : 1 ≤ e1W b := by unfold e1W; split <;> omega
  unfold qW
  rw [vR_parts]
  by_cases h : k ≤ 40
  · rw [if_pos h]
    have : ppmD = 15625 * 2 ^ k * 2 ^ (e1W b - 1) := by
      unfold ppmD
      show 15625 * two 1039 = 15625 * two k * two (e1W b - 1)
      rw [Nat.mul_assoc, two_add, show k + (e1W b - 1) = 1039 by omega]
    rw [this]
    exact rne_scale _ _ _ (two_pos _)
  · rw [if_neg h]
    refine rne_small ?_
    have h1 : maW b * two (e1W b - 1) ≤ 9007199254740992 * two 998 := Nat.mul_le_mul (by have := maW_lt b; omega) (two_le (by omega))
    have h2 : ppmD = 15625 * 2199023255552 * two 998 := by
      unfold ppmD
      rw [Nat.mul_assoc, show (2199023255552 : Nat) = two 41 from rfl, two_add]
    rw [h2]
    show 2 * (maW b * two (e1W b - 1)) < _
    have hp := two_pos 998
    generalize two 998 = P at *
    omega
end Go.Proofs.Ytclckcjimfadlaa
