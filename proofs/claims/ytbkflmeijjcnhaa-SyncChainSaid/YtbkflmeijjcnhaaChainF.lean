/-
  Layer 18 in plain Lean: from clock to clock, each at its own rate: how far off the last one's time is.
-/
import Derived.Test.YtbkflmeijjcnhaaSyncH
namespace Go.Proofs.Ytbkflmeijjcnhaa
set_option linter.unusedSimpArgs false
set_option linter.unusedVariables false
open Go.RowKit

def byN (r s : Int) : Int := (mulDivV s r 2199023255552 2).1
/-- A rate as the law makes it. -/
def Near (r : Int) : Prop := 2198882518080 ≤ r ∧ r ≤ 2199163993024
theorem by_near {r n : Int} (hr : Near r) (h0 : 0 ≤ n) (h1 : n ≤ 30000000) : mulDivV (n * 65536) r 2199023255552 2 = (byN r (n * 65536), 0) ∧ 0 ≤ byN r (n * 65536) ∧ -2199023255552 ≤ 2 * (2199023255552 * byN r (n * 65536) - 65536 * (n * r)) ∧ 2 * (2199023255552 * byN r (n * 65536) - 65536 * (n * r)) ≤ 2199023255552 ∧ byN r (n * 65536) ≤ 2000000000000 := by
  obtain ⟨r1, r2⟩ := hr
  have e : n * 65536 * r = 65536 * (n * r) := by rw [Int.mul_comm n 65536, Int.mul_assoc]
  have m1 := mul_ge h0 r2
  have m0 : 0 ≤ n * r := Int.mul_nonneg h0 (by omega)
  obtain ⟨N, hN, h2, h3, h4⟩ := md_near (a := n * 65536) (b := r) (c := 2199023255552) (by omega) (by omega) (by omega) (by rw [e]; omega)
  rw [e] at h3 h4
  have : byN r (n * 65536) = N := by unfold byN; rw [hN]
  rw [this]
  exact ⟨hN, h2, h3, h4, by omega⟩
theorem by_self {n : Int} (h0 : 0 ≤ n) (h1 : n ≤ 30000000) : byN 2199023255552 (n * 65536) = n * 65536 := by
  obtain ⟨_, _, h2, h3, _⟩ := by_near (r := 2199023255552) (n := n) ⟨by omega, by omega⟩ h0 h1
  omega
/-- A rate that takes a clock's own time to the domain's, so well. -/
def Fit (j : Int) (p r : Int) : Prop := -(2 * j * 2199023255552) ≤ p * r - 2199023255552 * 2199023255552 ∧ p * r - 2199023255552 * 2199023255552 ≤ 2 * j * 2199023255552
theorem fit_range {j p r : Int} (hr : Near r) (hj : 0 ≤ j ∧ j ≤ 6) (h : Fit j p r) : 2198800000000 ≤ p ∧ p ≤ 2199300000000 := by
  obtain ⟨r1, r2⟩ := hr
  obtain ⟨h1, h2⟩ := h
  have e : p * r = r * p := Int.mul_comm _ _
  constructor
  · rcases Int.lt_or_le p 2198800000000 with h | h
    · have := mul_ge (b := r) (by omega) (show p ≤ 2198799999999 by omega)
      omega
    · exact h
  · rcases Int.lt_or_le 2199300000000 p with h | h
    · have := mul_ge (b := r) (by omega) (show 2199300000001 ≤ p by omega)
      omega
    · exact h
theorem fit_id (p q r s a : Int) : 2199023255552 * (q * s - 2199023255552 * 2199023255552) = 2199023255552 * (p * r - 2199023255552 * 2199023255552) + p * (s * a - r * 2199023255552) + s * (2199023255552 * q - p * a) := by grind
theorem fit_next {j p q r s a : Int} (hr : Near r) (hs : Near s) (hj : 0 ≤ j ∧ j ≤ 5) (h : Fit j p r) (a1 : -s ≤ 2 * (s * a - r * 2199023255552)) (a2 : 2 * (s * a - r * 2199023255552) ≤ s) (q1 : -2199023255552 ≤ 2 * (2199023255552 * q - p * a)) (q2 : 2 * (2199023255552 * q - p * a) ≤ 2199023255552) : Fit (j + 1) q s := by
  obtain ⟨p1, p2⟩ := fit_range hr ⟨hj.1, by omega⟩ h
  obtain ⟨s1, s2⟩ := hs
  have id := fit_id p q r s a
  obtain ⟨h1, h2⟩ := h
  have u1 := mul_ge (b := p) (by omega) a1
  have u2 := mul_ge (b := p) (by omega) a2
  have v1 := mul_ge (b := s) (by omega) q1
  have v2 := mul_ge (b := s) (by omega) q2
  have w1 := mul_ge (b := s) (by omega) p2
  rw [show p * -s = -(s * p) by rw [Int.mul_neg, Int.mul_comm]] at u1
  rw [show p * s = s * p from Int.mul_comm _ _] at u2
  rw [show p * (2 * (s * a - r * 2199023255552)) = 2 * (p * (s * a - r * 2199023255552)) from Int.mul_left_comm _ _ _] at u1 u2
  rw [show s * (2 * (2199023255552 * q - p * a)) = 2 * (s * (2199023255552 * q - p * a)) from Int.mul_left_comm _ _ _] at v1 v2
  unfold Fit
  generalize p * (s * a - r * 2199023255552) = A at *
  generalize s * (2199023255552 * q - p * a) = B at *
  generalize s * p = C at *
  generalize p * r = D at *
  generalize q * s = E at *
  clear a1 a2 q1 q2
  constructor <;> omega
theorem dist_id (x d n p r : Int) : 2199023255552 * 2199023255552 * (x - 65536 * n) = 65536 * (n * (p * r - 2199023255552 * 2199023255552)) + p * (2199023255552 * d - 65536 * (n * r)) + 2199023255552 * (2199023255552 * x - d * p) := by grind
theorem dist_found {j x d n p r : Int} (hr : Near r) (hj : 0 ≤ j ∧ j ≤ 6) (h : Fit j p r) (hn : 0 ≤ n ∧ n ≤ 2000000) (d1 : -2199023255552 ≤ 2199023255552 * d - 65536 * (n * r)) (d2 : 2199023255552 * d - 65536 * (n * r) ≤ 2199023255552) (x1 : -2199023255552 ≤ 2 * (2199023255552 * x - d * p)) (x2 : 2 * (2199023255552 * x - d * p) ≤ 2199023255552) : -2 ≤ x - 65536 * n ∧ x - 65536 * n ≤ 2 := by
  obtain ⟨p1, p2⟩ := fit_range hr hj h
  have id := dist_id x d n p r
  obtain ⟨h1, h2⟩ := h
  have e1 : p * r - 2199023255552 * 2199023255552 ≤ 26388279066624 := by omega
  have e2 : -26388279066624 ≤ p * r - 2199023255552 * 2199023255552 := by omega
  have u1 := mul_ge hn.1 e1
  have u2 := mul_ge hn.1 e2
  have v1 := mul_ge (b := p) (by omega) d1
  have v2 := mul_ge (b := p) (by omega) d2
  generalize n * (p * r - 2199023255552 * 2199023255552) = A at *
  generalize p * (2199023255552 * d - 65536 * (n * r)) = B at *
  generalize d * p = C at *
  clear d1 d2 h1 h2 e1 e2
  constructor <;> omega
end Go.Proofs.Ytbkflmeijjcnhaa
