/-
  Layer 17 in plain Lean: of two clocks that run evenly the rate and the time that the link takes are found.
-/
import Derived.Test.YtbkflmeijjcnhaaPeerD
namespace Go.Proofs.Ytbkflmeijjcnhaa
set_option linter.unusedSimpArgs false
set_option linter.unusedVariables false
open Go.RowKit

def byN (r s : Int) : Int := (mulDivV s r 2199023255552 2).1
/-- A rate as the law makes it. -/
def Near (r : Int) : Prop := 2198741780608 ≤ r ∧ r ≤ 2199304730496
theorem by_near {r n : Int} (hr : Near r) (h0 : 0 ≤ n) (h1 : n ≤ 30000000) : mulDivV (n * 65536) r 2199023255552 2 = (byN r (n * 65536), 0) ∧ 0 ≤ byN r (n * 65536) ∧ -2199023255552 ≤ 2 * (2199023255552 * byN r (n * 65536) - 65536 * (n * r)) ∧ 2 * (2199023255552 * byN r (n * 65536) - 65536 * (n * r)) ≤ 2199023255552 ∧ byN r (n * 65536) ≤ 2000000000000 := by
  obtain ⟨r1, r2⟩ := hr
  have e : n * 65536 * r = 65536 * (n * r) := by rw [Int.mul_comm n 65536, Int.mul_assoc]
  have m1 := mul_ge h0 r2
  have m0 : 0 ≤ n * r := Int.mul_nonneg h0 (by omega)
  obtain ⟨N, hN, h2, h3, h4⟩ := md_near (a := n * 65536) (b := r) (c := 2199023255552) (by omega) (by omega) (by omega) (by rw [e]; omega)
  rw [e] at h3 h4
  have : byN r (n * 65536) = N := by unfold byN; rw [hN]
  rw [this]
  exact ⟨hN, h2, h3, h4, by omega⟩
theorem find_id (H hd hd2 inv r s : Int) : 2199023255552 * (s * (hd2 - H)) = 2199023255552 * (H * (r - s)) + 2199023255552 * (2199023255552 * hd - H * r) + hd * (s * inv - 2199023255552 * 2199023255552) + s * (2199023255552 * hd2 - hd * inv) := by grind
theorem rate_found {g r s th : Int} (h1 : 100000 ≤ g) (d1 : -4398046511104 ≤ 2 * (2199023255552 * th - 65536 * (g * r))) (d2 : 2 * (2199023255552 * th - 65536 * (g * r)) ≤ 4398046511104) (n1 : -(g * 65536) ≤ 2 * (g * 65536 * s - th * 2199023255552)) (n2 : 2 * (g * 65536 * s - th * 2199023255552) ≤ g * 65536) : -336 ≤ s - r ∧ s - r ≤ 336 := by
  have e : g * 65536 * s = 65536 * (g * s) := by rw [Int.mul_comm g 65536, Int.mul_assoc]
  rw [e] at n1 n2
  constructor
  · rcases Int.lt_or_le (s - r) (-336) with h | h
    · have := mul_ge (b := g) (by omega) (show s ≤ r + -337 by omega)
      rw [Int.mul_add] at this
      omega
    · exact h
  · rcases Int.lt_or_le 336 (s - r) with h | h
    · have := mul_ge (b := g) (by omega) (show r + 337 ≤ s by omega)
      rw [Int.mul_add] at this
      omega
    · exact h
theorem delay_found {l r s hd inv hd2 : Int} (hr : Near r) (hs : -336 ≤ s - r ∧ s - r ≤ 336) (hl : 0 ≤ l ∧ l ≤ 65535) (d1 : -4398046511104 ≤ 2 * (2199023255552 * hd - 65536 * (l * r))) (d2 : 2 * (2199023255552 * hd - 65536 * (l * r)) ≤ 4398046511104) (h0 : 0 ≤ hd)
    (i1 : -s ≤ 2 * (s * inv - 2199023255552 * 2199023255552)) (i2 : 2 * (s * inv - 2199023255552 * 2199023255552) ≤ s) (k1 : -2199023255552 ≤ 2 * (2199023255552 * hd2 - hd * inv)) (k2 : 2 * (2199023255552 * hd2 - hd * inv) ≤ 2199023255552) : -3 ≤ hd2 - l * 65536 ∧ hd2 - l * 65536 ≤ 3 := by
  obtain ⟨r1, r2⟩ := hr
  have id := find_id (l * 65536) hd hd2 inv r s
  have e1 : l * 65536 * (r - s) = 65536 * (l * (r - s)) := by rw [Int.mul_comm l 65536, Int.mul_assoc]
  have e2 : l * 65536 * r = 65536 * (l * r) := by rw [Int.mul_comm l 65536, Int.mul_assoc]
  rw [e1, e2] at id
  have p1 := mul_ge hl.1 (show -336 ≤ r - s by omega)
  have p2 := mul_ge hl.1 (show r - s ≤ 336 by omega)
  have m1 := mul_ge hl.1 r2
  have hds : hd ≤ 4400000000 := by omega
  have q1 := mul_ge h0 i1
  have q2 := mul_ge h0 i2
  have s0 : 0 ≤ s := by omega
  have t1 := mul_ge s0 k1
  have t2 := mul_ge s0 k2
  have w1 := mul_ge s0 hds
  have w0 : 0 ≤ hd * s := Int.mul_nonneg h0 s0
  have w2 : s * hd = hd * s := Int.mul_comm _ _
  rw [w2] at w1
  rw [show hd * -s = -(hd * s) from Int.mul_neg hd s] at q1
  rw [show hd * (2 * (s * inv - 2199023255552 * 2199023255552)) = 2 * (hd * (s * inv - 2199023255552 * 2199023255552)) from Int.mul_left_comm _ _ _] at q1 q2
  rw [show s * (2 * (2199023255552 * hd2 - hd * inv)) = 2 * (s * (2199023255552 * hd2 - hd * inv)) from Int.mul_left_comm _ _ _] at t1 t2
  have v1 : 4 ≤ hd2 - l * 65536 → s * 4 ≤ s * (hd2 - l * 65536) := fun h => mul_ge s0 h
  have v2 : hd2 - l * 65536 ≤ -4 → s * (hd2 - l * 65536) ≤ s * -4 := fun h => mul_ge s0 h
  generalize s * (hd2 - l * 65536) = V at *
  generalize l * (r - s) = P at *
  generalize hd * (s * inv - 2199023255552 * 2199023255552) = Q at *
  generalize s * (2199023255552 * hd2 - hd * inv) = S at *
  generalize hd * s = W at *
  generalize l * r = C at *
  clear i1 i2 k1 k2 e1 e2
  constructor
  · rcases Int.lt_or_le (hd2 - l * 65536) (-3) with h | h
    · have := v2 (by omega)
      omega
    · exact h
  · rcases Int.lt_or_le 3 (hd2 - l * 65536) with h | h
    · have := v1 (by omega)
      omega
    · exact h
theorem half_found {tw d : Int} (hd : 0 ≤ d ∧ d ≤ 4095) (h : -3 ≤ tw - 131072 * d ∧ tw - 131072 * d ≤ 3) : -10 ≤ max (tw.tdiv 2) 0 - d * 65536 ∧ max (tw.tdiv 2) 0 - d * 65536 ≤ 10 ∧ -3 ≤ tw ∧ tw.tdiv 2 ≤ 1099511627776 ∧ I64 (tw.tdiv 2) := by
  rcases Int.lt_or_le tw 0 with h0 | h0
  · have hd0 : d = 0 := by omega
    subst hd0
    have hc : tw = -1 ∨ tw = -2 ∨ tw = -3 := by omega
    rcases hc with rfl | rfl | rfl <;> decide
  · rw [Int.tdiv_eq_ediv_of_nonneg h0]
    have : 0 ≤ tw / 2 := by omega
    rw [Int.max_eq_left this]
    unfold I64
    omega
theorem sub_is {x y : Int} (h : I64 (x - y)) : subV x y = (x - y, 0) := if_pos h
/-- What a link's reckoning finds. -/
theorem find_rk {r g n1 l d st : Int} {p : Pe} (hr : Near r) (hg : 100000 ≤ g ∧ g ≤ 5000000) (hn : 0 ≤ n1 ∧ n1 ≤ 20000000) (hl : 0 ≤ l ∧ l ≤ 65535 ∧ l ≤ n1) (hd : 0 ≤ d ∧ d ≤ 4095) (hs : 0 ≤ st ∧ st < 16777216)
    (hcf : p.cf = conf0) (h4 : p.t4 = (n1 + g + d) * 65536) (h1 : p.t1 = (n1 + g - d - l) * 65536) (h2 : p.t2 = byN r ((n1 + g - l) * 65536) + st * 65536) :
    ∃ s tw, Rk p (byN r ((n1 + g) * 65536) + st * 65536) (byN r (n1 * 65536) + st * 65536) ((n1 + d) * 65536) s tw ∧ (-336 ≤ s - r ∧ s - r ≤ 336) ∧ -10 ≤ max (tw.tdiv 2) 0 - d * 65536 ∧ max (tw.tdiv 2) 0 - d * 65536 ≤ 10 := by
  obtain ⟨c1, c0, a1, a2, a3⟩ := by_near (n := n1) hr hn.1 (by omega)
  obtain ⟨c2, c20, b1, b2, b3⟩ := by_near (n := n1 + g) hr (by omega) (by omega)
  obtain ⟨c3, c30, e1, e2, e3⟩ := by_near (n := n1 + g - l) hr (by omega) (by omega)
  have hz : l = 0 → byN r ((n1 + g) * 65536) = byN r ((n1 + g - l) * 65536) := fun h => by rw [h, Int.sub_zero]
  generalize byN r ((n1 + g) * 65536) = N2 at *
  generalize byN r (n1 * 65536) = N1 at *
  generalize byN r ((n1 + g - l) * 65536) = N0 at *
  have x1 : (n1 + g) * r = n1 * r + g * r := Int.add_mul _ _ _
  have x2 : (n1 + g - l) * r = n1 * r + g * r - l * r := by rw [Int.sub_mul, Int.add_mul]
  rw [x1] at b1 b2
  rw [x2] at e1 e2
  have r1 := hr.1
  have r2 := hr.2
  have g1 := mul_ge (b := g) (by omega) r1
  have g2 := mul_ge (b := g) (by omega) r2
  have l1 := mul_ge (b := l) (by omega) r1
  have l2 := mul_ge (b := l) (by omega) r2
  have th0 : 0 ≤ N2 - N1 := by omega
  have hd0 : 0 ≤ N2 - N0 := by
    by_cases h : l = 0
    · have := hz h; omega
    · omega
  obtain ⟨s, hs1, s0, s1, s2⟩ := md_near (a := N2 - N1) (b := 2199023255552) (c := g * 65536) th0 (by omega) (by omega) (by omega)
  have hrs := rate_found (r := r) (s := s) (th := N2 - N1) hg.1 (by omega) (by omega) s1 s2
  obtain ⟨inv, hi, i0, i1, i2⟩ := md_near (a := 2199023255552) (b := 2199023255552) (c := s) (by omega) (by omega) (by omega) (by omega)
  have hi2 : inv ≤ 2300000000000 := by
    rcases Int.lt_or_le 2300000000000 inv with h | h
    · have := mul_ge (b := s) (by omega) (show 2300000000001 ≤ inv by omega)
      omega
    · exact h
  have w1 := mul_ge hd0 hi2
  have w0 : 0 ≤ (N2 - N0) * inv := Int.mul_nonneg hd0 i0
  obtain ⟨hd2, hk, k0, k1, k2⟩ := md_near (a := N2 - N0) (b := inv) (c := 2199023255552) hd0 i0 (by omega) (by omega)
  have hx := delay_found (r := r) (s := s) (hd := N2 - N0) (inv := inv) (hd2 := hd2) hr hrs ⟨hl.1, hl.2.1⟩ (by omega) (by omega) hd0 i1 i2 k1 k2
  obtain ⟨tw, htw⟩ : ∃ tw, tw = (2 * d + l) * 65536 - hd2 := ⟨_, rfl⟩
  obtain ⟨f1, f2, f3, f4, f5⟩ := half_found (tw := tw) hd (by omega)
  clear g1 g2 l1 l2 w1 w0 x1 x2 k1 k2 i1 i2 s1 s2
  refine ⟨s, tw, ⟨⟨N2 - N1, g * 65536, (2 * d + l) * 65536, N2 - N0, inv, hd2, ?_, ?_, hs1, th0, by omega, ?_, ?_, hi, hk, ?_, ?_, ?_, ?_, ?_, ?_, ?_⟩, ?_, ?_, ?_, ?_, f5, ?_⟩, hrs, f1, f2⟩
  · rw [sub_is (by unfold I64; omega)]; congr 1; omega
  · rw [h4, sub_is (by unfold I64; omega)]; congr 1; omega
  · rw [h4, h1, sub_is (by unfold I64; omega)]; congr 1; omega
  · rw [h2, sub_is (by unfold I64; omega)]; congr 1; omega
  · rw [sub_is (by unfold I64; omega), htw]
  · unfold I64; omega
  · unfold I64; omega
  · unfold I64; omega
  · unfold I64; omega
  · unfold I64; omega
  · unfold I64; omega
  · unfold Rg; omega
  · rw [hcf]; show -(1048576 : Int) ≤ tw; omega
  · rw [hcf]; exact f4
  · rw [hcf]; exact (by decide : (0 : Int) ≤ 1048576 ∧ (1048576 : Int) ≤ 1099511627776)
  · rw [h4, h1, h2]; unfold I64; omega
end Go.Proofs.Ytbkflmeijjcnhaa
