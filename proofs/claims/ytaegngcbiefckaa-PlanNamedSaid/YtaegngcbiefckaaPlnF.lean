/-
  What a network's check leaves.
-/
import Derived.Test.YtaegngcbiefckaaPlnM
namespace Go.Proofs.Ytaegngcbiefckaa
set_option linter.unusedSimpArgs false
set_option linter.unusedVariables false

structure EndOk (C : Cf) (x y : Int) : Prop where
  n : 0 ≤ x ∧ x < (C.nodes.length : Int)
  e : okE (x, y)
theorem endOk_good {C : Cf} {used : List (Int × Int)} {x y : Int} (hn : C.nodes.length ≤ 16) (hp : ∀ n ∈ C.nodes, n.ports ≤ 8) (h : badEnd C used (x, y) = false) : EndOk C x y := by
  refine ⟨?_, okE_good hn hp h⟩
  unfold badEnd at h
  simp only [Bool.or_eq_false_iff, decide_eq_false_iff_not] at h
  omega
structure LinkWell (C : Cf) (l : Lk) : Prop where
  a : EndOk C l.n0 l.p0
  b : EndOk C l.n1 l.p1
  lo : 0 ≤ l.lo
  hi : l.lo ≤ l.hi
  most : l.hi ≤ 1048576
theorem linksV_well {C : Cf} (hn : C.nodes.length ≤ 16) (hp : ∀ n ∈ C.nodes, n.ports ≤ 8) : ∀ (ls : List Lk) (used : List (Int × Int)), linksV C used ls = 0 → ∀ l ∈ ls, LinkWell C l
  | [], _, _, _, hl => by cases hl
  | m :: ls, used, h, l, hl => by
    rw [linksV] at h
    by_cases h0 : badEnd C used (m.n0, m.p0) = true
    · rw [if_pos h0] at h; cases h
    rw [if_neg h0] at h
    by_cases h1 : badEnd C ((m.n0, m.p0) :: used) (m.n1, m.p1) = true
    · rw [if_pos h1] at h; cases h
    rw [if_neg h1] at h
    by_cases h2 : badLink m = true
    · rw [if_pos h2] at h; cases h
    rw [if_neg h2] at h
    rcases List.mem_cons.1 hl with rfl | hl
    · have h3 : ¬ (l.n0 = l.n1 ∨ l.lo < 0 ∨ l.hi < l.lo ∨ 1048576 < l.hi) := fun e => h2 (badLink_iff.2 e)
      exact ⟨endOk_good hn hp (by simpa using h0), endOk_good hn hp (by simpa using h1), by omega, by omega, by omega⟩
    · exact linksV_well hn hp ls _ h l hl
structure Well (C : Cf) : Prop where
  off : OffOk C
  links : ∀ l ∈ C.links, LinkWell C l
  nodes : ∀ n ∈ C.nodes, 0 ≤ n.ports ∧ n.ports ≤ 8
  flows : C.flows.length ≤ 16
  c1 : 1 ≤ C.cycle
  c2 : C.cycle ≤ 1073741824
  q1 : 0 ≤ C.proc
  q2 : C.proc ≤ 1048576
theorem well {C : Cf} (h : checkV C = 0) : Well C := by
  obtain ⟨h1, h2, h3, h4⟩ := checkV_zero.1 h
  unfold Many at h1
  unfold Arg at h2
  have hn : C.nodes.length ≤ 16 := by omega
  have hp : ∀ n ∈ C.nodes, 0 ≤ n.ports ∧ n.ports ≤ 8 := fun n hn => by have := h3 n hn; omega
  have hl := linksV_well hn (fun n hn => (hp n hn).2) C.links [] h4
  exact ⟨⟨by omega, by omega, by omega, fun l h => ⟨(hl l h).lo, (hl l h).hi, (hl l h).most⟩, by omega, by omega, by omega, by omega, by omega, by omega⟩, hl, hp, by omega, by omega, by omega, by omega, by omega⟩
theorem Well.link {C : Cf} (h : Well C) : ∀ l ∈ C.links, LinkOk C l := fun l hl => ⟨(h.links l hl).a.n, (h.links l hl).b.n⟩
theorem offV_bounds {C : Cf} (h : OffOk C) : 100 ≤ offV C ∧ offV C ≤ 1000000000000000 := by
  obtain ⟨hn1, hn2, hl1, hl, he1, he2, hp1, hp2, hg1, hg2⟩ := h
  have hs : ∀ (ls : List Lk) (s : Int), (∀ l ∈ ls, 0 ≤ l.lo ∧ l.lo ≤ l.hi ∧ l.hi ≤ 1048576) → 0 ≤ s → s ≤ 1048576 → 0 ≤ ls.foldl (fun s l => max s (l.hi - l.lo)) s ∧ ls.foldl (fun s l => max s (l.hi - l.lo)) s ≤ 1048576 := by
    intro ls
    induction ls with
    | nil => intro s _ h1 h2; exact ⟨h1, h2⟩
    | cons l ls ih =>
      intro s hh h1 h2
      have := hh l (List.mem_cons_self ..)
      exact ih _ (fun l' hl' => hh l' (List.mem_cons_of_mem _ hl')) (show 0 ≤ max s (l.hi - l.lo) by omega) (show max s (l.hi - l.lo) ≤ 1048576 by omega)
  have hs0 := hs C.links 0 hl (by omega) (by omega)
  unfold offV
  have a0 : 0 ≤ 8 * C.ppm * C.every := Int.mul_nonneg (by omega) (by omega)
  have a1 : 8 * C.ppm * C.every ≤ 8000 * 1073741824 := Int.mul_le_mul (by omega) he2 (by omega) (by omega)
  have m0 : 0 ≤ 8 * C.ppm * ((C.nodes.length : Int) + 8) := Int.mul_nonneg (by omega) (by omega)
  have m1 : 8 * C.ppm * ((C.nodes.length : Int) + 8) ≤ 8000 * 24 := Int.mul_le_mul (by omega) (by omega) (by omega) (by omega)
  have b0 : 0 ≤ 8 * C.ppm * ((C.nodes.length : Int) + 8) * C.every := Int.mul_nonneg m0 (by omega)
  have b1 : 8 * C.ppm * ((C.nodes.length : Int) + 8) * C.every ≤ 8000 * 24 * 1073741824 := Int.mul_le_mul m1 he2 (by omega) (by omega)
  rw [Int.tdiv_eq_ediv_of_nonneg a0, Int.tdiv_eq_ediv_of_nonneg b0]
  have c1 : 0 ≤ ((C.nodes.length : Int) - 1) * ((C.links.foldl (fun s l => max s (l.hi - l.lo)) 0) + 8 * C.grain + 8 * C.ppm * C.every / 1000000) := Int.mul_nonneg (by omega) (by omega)
  have c2 : ((C.nodes.length : Int) - 1) * ((C.links.foldl (fun s l => max s (l.hi - l.lo)) 0) + 8 * C.grain + 8 * C.ppm * C.every / 1000000) ≤ 16 * (1048576 + 8000 + 8000 * 1073741824) := Int.mul_le_mul (by omega) (by omega) (by omega) (by omega)
  omega
end Go.Proofs.Ytaegngcbiefckaa
