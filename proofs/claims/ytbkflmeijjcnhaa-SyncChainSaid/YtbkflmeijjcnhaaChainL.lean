/-
  Layer 18 in plain Lean: a clock in a chain, what it tells, and what the next one makes of it.
-/
import Derived.Test.YtbkflmeijjcnhaaChainF
namespace Go.Proofs.Ytbkflmeijjcnhaa
set_option linter.unusedSimpArgs false
set_option linter.unusedVariables false
open Go.RowKit

/-- The j-th clock of a chain; at N it tells. -/
structure Ch (rs : Nat → Int) (j : Nat) (c : Ck) (N : Int) : Prop where
  dom : c.domain = 0
  wf : c.Wf
  case_ : (j = 0 ∧ c.own = true ∧ c.known = false) ∨ (1 ≤ j ∧ c.own = false ∧ c.known = true ∧ ∃ t : Int, 0 ≤ t ∧ N = t + 5000 ∧ c.here = byN (rs j) (t * 65536) ∧ (-(4 * (j : Int) - 2) ≤ c.there - t * 65536 ∧ c.there - t * 65536 ≤ 4 * (j : Int) - 2) ∧ Fit j c.rate (rs j))
/-- Rates of a chain. -/
structure Rs (rs : Nat → Int) : Prop where
  zero : rs 0 = 2199023255552
  near : ∀ k, Near (rs k)
theorem chain_at {rs : Nat → Int} {j : Nat} {c : Ck} {N t : Int} (H : Rs rs) (h : Ch rs j c N) (hj : j ≤ 6) (hN : 0 ≤ N ∧ N ≤ 25000000) (ht : N ≤ t ∧ t ≤ N + 1100000) :
    ∃ A, atV c (byN (rs j) (t * 65536)) = (A, true) ∧ -(4 * (j : Int)) ≤ A - t * 65536 ∧ A - t * 65536 ≤ 4 * (j : Int) := by
  rcases h.case_ with ⟨rfl, h1, h2⟩ | ⟨hj1, h1, h2, s, hs0, hs1, hs2, ⟨hs3, hs4⟩, hs5⟩
  · refine ⟨t * 65536, ?_, by omega, by omega⟩
    rw [H.zero, by_self (by omega) (by omega)]
    unfold atV
    rw [if_pos h2, if_pos h1]
  · have hr := H.near j
    obtain ⟨a1, a2, a3, a4, a5⟩ := by_near (n := t) hr (by omega) (by omega)
    obtain ⟨b1, b2, b3, b4, b5⟩ := by_near (n := s) hr (by omega) (by omega)
    have hfr := fit_range hr ⟨by omega, by omega⟩ hs5
    obtain ⟨p1, p2⟩ := hfr
    have hr1 := hr.1
    have hr2 := hr.2
    have e1 : (t - s) * rs j = t * rs j - s * rs j := Int.sub_mul _ _ _
    have m1 := mul_ge (b := t - s) (by omega) hr1
    have m2 := mul_ge (b := t - s) (by omega) hr2
    generalize hX : byN (rs j) (t * 65536) = X at *
    generalize hY : byN (rs j) (s * 65536) = Y at *
    have hd0 : 0 ≤ X - Y := by omega
    have hd1 : X - Y ≤ 200000000000 := by omega
    have w1 := mul_ge hd0 p2
    obtain ⟨x, hx, x0, x1, x2⟩ := md_near (a := X - Y) (b := c.rate) (c := 2199023255552) hd0 (by omega) (by omega) (by omega)
    have hdist := dist_found (x := x) (d := X - Y) (n := t - s) (j := (j : Int)) hr ⟨by omega, by omega⟩ hs5 ⟨by omega, by omega⟩ (by omega) (by omega) x1 x2
    clear m1 m2 w1 x1 x2 e1 a1 b1
    refine ⟨c.there + x, at_known (x := x) h2 (by rw [hs2]; unfold I64; omega) ?_ (by unfold I64; omega) rfl, by omega, by omega⟩
    rw [hs2]
    unfold nowV
    rw [if_neg (by rw [h1]; simp)]
    exact hx
theorem chain_tell {rs : Nat → Int} {j : Nat} {c : Ck} {N k : Int} (H : Rs rs) (h : Ch rs j c N) (hj : j ≤ 6) (hN : 0 ≤ N ∧ N ≤ 25000000) (hk : 0 ≤ k ∧ k ≤ 65535) :
    ∃ corr time rho, tellV c k 7 1 (byN (rs j) (N * 65536)) = (⟨8, 0, k, 7, 1, corr, time, 0, 0, rho, 0, 0, 0, 0, 0, []⟩, true) ∧ (-(4 * (j : Int)) ≤ time + corr - N * 65536 ∧ time + corr - N * 65536 ≤ 4 * (j : Int)) ∧ Fit j rho (rs j) ∧ I64 corr ∧ I64 time := by
  obtain ⟨A, hA, h1, h2⟩ := chain_at (t := N) H h hj hN ⟨by omega, by omega⟩
  rcases h.case_ with ⟨rfl, o1, o2⟩ | ⟨hj1, o1, o2, s, hs0, hs1, hs2, ⟨hs3, hs4⟩, hs5⟩
  · refine ⟨0, A, 2199023255552, ?_, by omega, ?_, by unfold I64; omega, by unfold I64; omega⟩
    · rw [tell_own o1 hA (by rw [h.dom]; omega) hk ⟨by omega, by omega⟩ ⟨by omega, by omega⟩, h.dom]
    · rw [H.zero]; unfold Fit; omega
  · refine ⟨A - c.there, c.there, c.rate, ?_, by omega, hs5, by unfold I64; omega, h.wf.there⟩
    rw [tell_not o1 hA (by rw [h.dom]; omega) hk ⟨by omega, by omega⟩ ⟨by omega, by omega⟩, h.dom]
theorem ratio_found {r s : Int} (hr : Near r) (hs : Near s) : ∃ a, mulDivV r 2199023255552 s 2 = (a, 0) ∧ Rg a ∧ -s ≤ 2 * (s * a - r * 2199023255552) ∧ 2 * (s * a - r * 2199023255552) ≤ s := by
  obtain ⟨r1, r2⟩ := hr
  obtain ⟨s1, s2⟩ := hs
  obtain ⟨a, ha, a0, a1, a2⟩ := md_near (a := r) (b := 2199023255552) (c := s) (by omega) (by omega) (by omega) (by omega)
  refine ⟨a, ha, ⟨?_, ?_⟩, a1, a2⟩
  · rcases Int.lt_or_le a 2181843386368 with h | h
    · have := mul_ge (b := s) (by omega) (show a ≤ 2181843386367 by omega)
      omega
    · exact h
  · rcases Int.lt_or_le 2216203124736 a with h | h
    · have := mul_ge (b := s) (by omega) (show 2216203124737 ≤ a by omega)
      omega
    · exact h
def chS (k at_ : Int) : Ck := syncC (ckNew 0) ⟨0, 0, k, 7, 1, 0, 0, 0, 0, 0, 0, 0, 0, 0, 0, []⟩ at_
theorem chain_next {rs : Nat → Int} {j : Nat} {N k d corr time rho : Int} (H : Rs rs) (hj : j ≤ 5) (hN : 0 ≤ N ∧ N ≤ 25000000) (hk : 0 ≤ k ∧ k ≤ 65535) (hd : 0 ≤ d ∧ d ≤ 4095)
    (hA : -(4 * (j : Int)) ≤ time + corr - N * 65536 ∧ time + corr - N * 65536 ≤ 4 * (j : Int)) (hF : Fit j rho (rs j)) :
    ∃ a c', mulDivV (rs j) 2199023255552 (rs (j + 1)) 2 = (a, 0) ∧ Rg a ∧ follV (chS k (byN (rs (j + 1)) ((N + d) * 65536))) ⟨8, 0, k, 7, 1, corr, time, 0, 0, rho, 0, 0, 0, 0, 0, []⟩ (byN (rs (j + 1)) (d * 65536)) a = (0, c') ∧ Ch rs (j + 1) c' (N + (d + 5000)) := by
  have hr := H.near j
  have hs := H.near (j + 1)
  obtain ⟨a, ha, hra, a1, a2⟩ := ratio_found hr hs
  have hfr := fit_range hr ⟨by omega, by omega⟩ hF
  obtain ⟨p1, p2⟩ := hfr
  obtain ⟨ra1, ra2⟩ := hra
  have w1 := mul_ge (b := rho) (by omega) ra2
  have w0 : 0 ≤ rho * a := Int.mul_nonneg (by omega) (by omega)
  obtain ⟨q, hq, q0, q1, q2⟩ := md_near (a := rho) (b := a) (c := 2199023255552) (by omega) (by omega) (by omega) (by omega)
  have hF' := fit_next hr hs ⟨by omega, by omega⟩ hF a1 a2 q1 q2
  obtain ⟨u1, u2⟩ := fit_range hs ⟨by omega, by omega⟩ hF'
  obtain ⟨c1, c2, c3, c4, c5⟩ := by_near (n := d) hs hd.1 (by omega)
  obtain ⟨e1, e2, e3, e4, e5⟩ := by_near (n := N + d) hs (by omega) (by omega)
  have v1 := mul_ge c2 u2
  obtain ⟨y, hy, y0, y1, y2⟩ := md_near (a := byN (rs (j + 1)) (d * 65536)) (b := q) (c := 2199023255552) c2 (by omega) (by omega) (by omega)
  have hdist := dist_found (x := y) (d := byN (rs (j + 1)) (d * 65536)) (n := d) (j := (j : Int) + 1) hs ⟨by omega, by omega⟩ hF' ⟨by omega, by omega⟩ (by omega) (by omega) y1 y2
  have hAt : I64 (byN (rs (j + 1)) ((N + d) * 65536)) := by unfold I64; omega
  refine ⟨a, follC (chS k (byN (rs (j + 1)) ((N + d) * 65536))) (time + corr + y) q, ha, ⟨ra1, ra2⟩, ?_, ?_⟩
  · exact foll_ok rfl (foll_right ⟨by omega, by omega⟩ hk ⟨by omega, by omega⟩ ⟨by omega, by omega⟩) rfl rfl rfl rfl rfl hq (by unfold Rg; omega) (by unfold I64; show -9223372036854775808 ≤ time + corr ∧ time + corr ≤ 9223372036854775807; omega) hy (by unfold I64; omega) rfl
  · refine ⟨rfl, foll_wf hAt (by unfold I64; omega) (by unfold I64; omega), .inr ⟨by omega, rfl, rfl, N + d, by omega, by omega, rfl, ?_, ?_⟩⟩
    · show -(4 * ((j + 1 : Nat) : Int) - 2) ≤ time + corr + y - (N + d) * 65536 ∧ time + corr + y - (N + d) * 65536 ≤ 4 * ((j + 1 : Nat) : Int) - 2
      omega
    · show Fit ((j + 1 : Nat) : Int) q (rs (j + 1))
      rw [Int.natCast_add]
      exact hF'
end Go.Proofs.Ytbkflmeijjcnhaa
