/-
  The ends that the reference has seen.
-/
import Derived.Test.YtaegngcbiefckaaRfX
namespace Go.Proofs.Ytaegngcbiefckaa
set_option linter.unusedSimpArgs false
set_option linter.unusedVariables false
open Go.RowKit Go.WideShapes Go.ChangeShapes
attribute [local go_sem ↓] Go.wp_at_zero Go.wp_at_succ

/-! ### The ends that were seen -/
def NoM (C : Cf) (j side : Nat) (x y : Int) (k s : Nat) : Prop := ∀ (k' s' : Nat) (l : Lk), C.links[k']? = some l → s' < 2 → (k' < k ∨ (k' = k ∧ s' < s)) → (k' < j ∨ s' < side) → ¬ (endX l s' = x ∧ endY l s' = y)
theorem NoM.start {C : Cf} {j side : Nat} {x y : Int} : NoM C j side x y 0 0 := fun k' s' l _ _ h _ => by omega
theorem NoM.next {C : Cf} {j side : Nat} {x y : Int} {k s : Nat} {l : Lk} (h : NoM C j side x y k s) (hl : C.links[k]? = some l) (hm : ¬ ((k < j ∨ s < side) ∧ endX l s = x ∧ endY l s = y)) : NoM C j side x y k (s + 1) := fun k' s' l' hl' h2 hk hj he => by
  rcases Nat.lt_or_ge k' k with hlt | hge
  · exact h k' s' l' hl' h2 (.inl hlt) hj he
  · have e1 : k' = k := by omega
    subst e1
    rw [hl] at hl'
    cases hl'
    rcases Nat.lt_or_ge s' s with hlt | hge2
    · exact h k' s' l hl h2 (.inr ⟨rfl, hlt⟩) hj he
    · have e2 : s' = s := by omega
      subst e2
      exact hm ⟨hj, he⟩
theorem NoM.round {C : Cf} {j side : Nat} {x y : Int} {k : Nat} (h : NoM C j side x y k 2) : NoM C j side x y (k + 1) 0 := fun k' s' l hl h2 hk hj he => by
  rcases Nat.lt_or_ge k' k with hlt | hge
  · exact h k' s' l hl h2 (.inl hlt) hj he
  · exact h k' s' l hl h2 (.inr ⟨by omega, h2⟩) hj he
def UsedIs (C : Cf) (used : List (Int × Int)) (j side : Nat) : Prop := ∀ p, p ∈ used ↔ ∃ (k s : Nat) (l : Lk), C.links[k]? = some l ∧ s < 2 ∧ (k < j ∨ (k = j ∧ s < side)) ∧ p = (endX l s, endY l s)
theorem UsedIs.start {C : Cf} : UsedIs C [] 0 0 := fun p => ⟨fun h => absurd h (by simp), fun ⟨k, s, l, _, _, h, _⟩ => by omega⟩
theorem UsedIs.one {C : Cf} {used : List (Int × Int)} {j : Nat} {l : Lk} (h : UsedIs C used j 0) (hl : C.links[j]? = some l) : UsedIs C ((l.n0, l.p0) :: used) j 1 := fun p => by
  rw [List.mem_cons, h p]
  constructor
  · rintro (rfl | ⟨k, s, l', h1, h2, h3, h4⟩)
    · exact ⟨j, 0, l, hl, by omega, .inr ⟨rfl, by omega⟩, rfl⟩
    · exact ⟨k, s, l', h1, h2, by omega, h4⟩
  · rintro ⟨k, s, l', h1, h2, h3, h4⟩
    rcases h3 with h3 | ⟨rfl, h3⟩
    · exact .inr ⟨k, s, l', h1, h2, .inl h3, h4⟩
    · have e : s = 0 := by omega
      subst e
      rw [hl] at h1
      cases h1
      exact .inl h4
theorem UsedIs.two {C : Cf} {used : List (Int × Int)} {j : Nat} {l : Lk} (h : UsedIs C used j 1) (hl : C.links[j]? = some l) : UsedIs C ((l.n1, l.p1) :: used) (j + 1) 0 := fun p => by
  rw [List.mem_cons, h p]
  constructor
  · rintro (rfl | ⟨k, s, l', h1, h2, h3, h4⟩)
    · exact ⟨j, 1, l, hl, by omega, .inl (by omega), rfl⟩
    · exact ⟨k, s, l', h1, h2, by omega, h4⟩
  · rintro ⟨k, s, l', h1, h2, h3, h4⟩
    rcases Nat.lt_or_ge k j with h5 | h5
    · exact .inr ⟨k, s, l', h1, h2, .inl h5, h4⟩
    · have e : k = j := by omega
      subst e
      rw [hl] at h1
      cases h1
      rcases (by omega : s = 0 ∨ s = 1) with rfl | rfl
      · exact .inr ⟨k, 0, l, hl, by omega, .inr ⟨rfl, by omega⟩, h4⟩
      · exact .inl h4
theorem UsedIs.none {C : Cf} {used : List (Int × Int)} {j side : Nat} {x y : Int} (h : UsedIs C used j side) (hn : NoM C j side x y (j + 1) 0) : used.contains (x, y) = false := by
  cases hc : used.contains (x, y) with
  | false => rfl
  | true =>
    obtain ⟨k, s, l, h1, h2, h3, h4⟩ := (h (x, y)).1 (by simpa using hc)
    injection h4 with h4 h5
    exact absurd ⟨h4.symm, h5.symm⟩ (hn k s l h1 h2 (.inl (by omega)) (by omega))
theorem UsedIs.some {C : Cf} {used : List (Int × Int)} {j side k s : Nat} {x y : Int} {l : Lk} (h : UsedIs C used j side) (hl : C.links[k]? = some l) (h2 : s < 2) (hk : k ≤ j) (hm : (k < j ∨ s < side) ∧ endX l s = x ∧ endY l s = y) : used.contains (x, y) = true := by
  have := (h (x, y)).2 ⟨k, s, l, hl, h2, by omega, by rw [hm.2.1, hm.2.2]⟩
  simpa using this
set_option maxRecDepth 100000 in
set_option maxHeartbeats 4000000 in
theorem rck_ends (C : Cf) (R : RL) (g g6 j side : Nat) (x y : Int) (a : Act) (w : World) (Q : Exit → Act → World → Prop) (hs : a.tmps.size = 182) (hd : a.defers = []) (e1 : a.tmps[1]? = some (.pointer (some ⟨g, 0, none⟩))) (e5 : a.tmps[5]? = some (.int .i64 (j : Int))) (e6 : a.tmps[6]? = some (.pointer (some ⟨g6, 0, none⟩))) (e7 : a.tmps[7]? = some (.int .i64 (side : Int))) (e8 : a.tmps[8]? = some (.int .i64 x)) (e9 : a.tmps[9]? = some (.int .i64 y)) (e79 : a.tmps[79]? = some (.slice R.L.A C.links.length R.L.c)) (e80 : a.tmps[80]? = some (.int .i64 (C.links.length : Int))) (e81 : a.tmps[81]? = some (.int .i64 (j : Int)))
    (hC : RfAt w g C R) (BC : Blk w g 42 (rfc C R)) (hj : j < C.links.length) (hl70 : C.links.length ≤ 70) (hside : side < 2)
    (hret : ∀ (a : Act) (k s : Nat) (l : Lk), a.tmps.size = 182 → a.defers = [] → a.tmps[2]? = some (.int .i64 63) → C.links[k]? = some l → s < 2 → k ≤ j → ((k < j ∨ s < side) ∧ endX l s = x ∧ endY l s = y) → Q .ret a w)
    (hout : ∀ (a : Act), a.tmps.size = 182 → a.defers = [] → a.tmps[1]? = some (.pointer (some ⟨g, 0, none⟩)) → a.tmps[5]? = some (.int .i64 (j : Int)) → a.tmps[6]? = some (.pointer (some ⟨g6, 0, none⟩)) → a.tmps[7]? = some (.int .i64 (side : Int)) → a.tmps[8]? = some (.int .i64 x) → a.tmps[9]? = some (.int .i64 y) → a.tmps[79]? = some (.slice R.L.A C.links.length R.L.c) → a.tmps[80]? = some (.int .i64 (C.links.length : Int)) → a.tmps[81]? = some (.int .i64 (j : Int)) → NoM C j side x y (j + 1) 0 → Q .normal a w) :
    Code.wp Try.prog (sub [true, true, true, true, false, true, false, false, true, true, false, false, true, false, true, false, false, true, false, false, true, true, true] (bodyOf Try.f23)) Q a w := by
  conv => arg 2; whnf
  have HRET := Lib.hid hret
  have HOUT := Lib.hid hout
  clear hret hout
  have hs0 := hs
  have hjI : (j : Int) < 70 := by omega
  refine wp_seq_k fun Kq1 hKq1 => ?_
  have c2 := BC.cellOf (v := .slice R.L.A C.links.length R.L.c) 2 rfl
  refine sm_list [] 10 1 hs hd (by kernel_rfl) agN rfl ?_
  simp only [seval]
  go_wp2_with fail
  intro a H; replace hs := H.s hs; replace hd := H.d rfl; replace e1 := H.k e1 rfl; replace e5 := H.k e5 rfl; replace e6 := H.k e6 rfl; replace e7 := H.k e7 rfl; replace e8 := H.k e8 rfl; replace e9 := H.k e9 rfl; replace e79 := H.k e79 rfl; replace e80 := H.k e80 rfl; replace e81 := H.k e81 rfl; have e10 := H.g 10 rfl rfl; clear H; refine hKq1 _ _ ?_; clear hKq1 Kq1; refine wp_block ?_
  refine wp_loop (fun a w' => ∃ k : Nat, k ≤ j + 1 ∧ a.tmps.size = 182 ∧ a.defers = [] ∧ a.tmps[1]? = some (.pointer (some ⟨g, 0, none⟩)) ∧ a.tmps[5]? = some (.int .i64 (j : Int)) ∧ a.tmps[6]? = some (.pointer (some ⟨g6, 0, none⟩)) ∧ a.tmps[7]? = some (.int .i64 (side : Int)) ∧ a.tmps[8]? = some (.int .i64 x) ∧ a.tmps[9]? = some (.int .i64 y) ∧ a.tmps[79]? = some (.slice R.L.A C.links.length R.L.c) ∧ a.tmps[80]? = some (.int .i64 (C.links.length : Int)) ∧ a.tmps[81]? = some (.int .i64 (j : Int)) ∧ a.tmps[10]? = some (.int .i64 (k : Int)) ∧ w' = w ∧ NoM C j side x y k 0) (fun a _ => j + 1 - (intOf (a.tmps.getD 10 undef)).toNat) ?_ ?_
  · exact ⟨0, by omega, hs, hd, e1, e5, e6, e7, e8, e9, e79, e80, e81, e10, rfl, NoM.start⟩
  clear hs hs0 hd e10 e1 e5 e6 e7 e8 e9 e79 e80 e81 a
  rintro a w3 ⟨k, hk, hs, hd, e1, e5, e6, e7, e8, e9, e79, e80, e81, e10, rfl, hN⟩
  have HN := Lib.hid hN
  clear hN
  have hm := slot e10
  refine wp_seq_k fun Kq2 hKq2 => ?_; refine wp_seq_k fun Kq3 hKq3 => ?_
  by_cases hlt : k ≤ j
  ·
    have dj : decide ((k : Int) ≤ (j : Int)) = true := decide_eq_true (by omega)
    have dj2 : decide (k ≤ j) = true := decide_eq_true hlt
    refine sm_list [5, 10] 117 3 hs hd (by kernel_rfl) (agC e5 (agC e10 agN)) rfl ?_
    simp only [seval]
    go_wp2_with fail
    intro a H; replace hs := H.s hs; replace hd := H.d rfl; replace e5 := H.g 5 rfl rfl; replace e10 := H.g 10 rfl rfl; replace e1 := H.k e1 rfl; replace e6 := H.k e6 rfl; replace e7 := H.k e7 rfl; replace e8 := H.k e8 rfl; replace e9 := H.k e9 rfl; replace e79 := H.k e79 rfl; replace e80 := H.k e80 rfl; replace e81 := H.k e81 rfl; have e119 := H.g 119 rfl rfl; clear H; refine hKq3 _ _ ?_; clear hKq3 Kq3
    refine wp_cond_true (slotE e119) ?_
    clear e119; refine wp_skip ?_; refine hKq2 _ _ ?_; clear hKq2 Kq2; refine wp_seq_k fun Kq4 hKq4 => ?_; refine wp_block ?_; refine wp_seq_k fun Kq5 hKq5 => ?_; clear dj dj2
    obtain ⟨l, hl⟩ : ∃ l, C.links[k]? = some l := ⟨_, List.getElem?_eq_getElem (by omega)⟩
    obtain ⟨ad, had, hadb, hcl0, hcl⟩ := Reads.elem lkc_len hC.links hl (by omega)
    have HL := Lib.hid hl
    have HA := Lib.hid had
    have hkI : (k : Int) < (C.links.length : Int) := by omega
    have hkn : k < C.links.length := by omega
    clear hl had
    refine sm_list [] 11 1 hs hd (by kernel_rfl) agN rfl ?_
    simp only [seval]
    go_wp2_with fail
    intro a H; replace hs := H.s hs; replace hd := H.d rfl; replace e1 := H.k e1 rfl; replace e5 := H.k e5 rfl; replace e6 := H.k e6 rfl; replace e7 := H.k e7 rfl; replace e8 := H.k e8 rfl; replace e9 := H.k e9 rfl; replace e79 := H.k e79 rfl; replace e80 := H.k e80 rfl; replace e81 := H.k e81 rfl; replace e10 := H.k e10 rfl; have e11 := H.g 11 rfl rfl; clear H; refine hKq5 _ _ ?_; clear hKq5 Kq5; refine wp_block ?_
    have HCL := Lib.hid (And.intro hcl0 hcl)
    clear hcl hcl0
    have hm0 := hm
    refine wp_loop (fun a w' => ∃ s : Nat, s ≤ 2 ∧ a.tmps.size = 182 ∧ a.defers = [] ∧ a.tmps[1]? = some (.pointer (some ⟨g, 0, none⟩)) ∧ a.tmps[5]? = some (.int .i64 (j : Int)) ∧ a.tmps[6]? = some (.pointer (some ⟨g6, 0, none⟩)) ∧ a.tmps[7]? = some (.int .i64 (side : Int)) ∧ a.tmps[8]? = some (.int .i64 x) ∧ a.tmps[9]? = some (.int .i64 y) ∧ a.tmps[79]? = some (.slice R.L.A C.links.length R.L.c) ∧ a.tmps[80]? = some (.int .i64 (C.links.length : Int)) ∧ a.tmps[81]? = some (.int .i64 (j : Int)) ∧ a.tmps[10]? = some (.int .i64 (k : Int)) ∧ a.tmps[11]? = some (.int .i64 (s : Int)) ∧ w' = w3 ∧ NoM C j side x y k s) (fun a _ => 2 - (intOf (a.tmps.getD 11 undef)).toNat) ?_ ?_
    · exact ⟨0, by omega, hs, hd, e1, e5, e6, e7, e8, e9, e79, e80, e81, e10, e11, rfl, HN.out⟩
    clear hs hd e10 e11 e1 e5 e6 e7 e8 e9 e79 e80 e81 HN
    skip
    rintro a w5 ⟨s, hsl, hs, hd, e1, e5, e6, e7, e8, e9, e79, e80, e81, e10, e11, rfl, hN⟩
    have HN := Lib.hid hN
    clear hN
    have hm2 := slot e11
    refine wp_seq_k fun Kq6 hKq6 => ?_; refine wp_seq_k fun Kq7 hKq7 => ?_
    by_cases hs2 : s < 2
    ·
      have ds : decide ((s : Int) < 2) = true := decide_eq_true (by omega)
      have ds2 : decide (s < 2) = true := decide_eq_true hs2
      refine sm_list [11] 122 2 hs hd (by kernel_rfl) (agC e11 agN) rfl ?_
      simp only [seval]
      go_wp2_with fail
      intro a H; replace hs := H.s hs; replace hd := H.d rfl; replace e11 := H.g 11 rfl rfl; replace e1 := H.k e1 rfl; replace e5 := H.k e5 rfl; replace e6 := H.k e6 rfl; replace e7 := H.k e7 rfl; replace e8 := H.k e8 rfl; replace e9 := H.k e9 rfl; replace e79 := H.k e79 rfl; replace e80 := H.k e80 rfl; replace e81 := H.k e81 rfl; replace e10 := H.k e10 rfl; have e123 := H.g 123 rfl rfl; clear H; refine hKq7 _ _ ?_
      clear hKq7 Kq7
      refine wp_cond_true (slotE e123) ?_
      clear e123; refine wp_skip ?_; refine hKq6 _ _ ?_; clear hKq6 Kq6; refine wp_seq_k fun Kq8 hKq8 => ?_; refine wp_block ?_; refine wp_seq_k fun Kq9 hKq9 => ?_; clear ds ds2
      rcases (by omega : s = 0 ∨ s = 1) with rfl | rfl
      · have e11b : a.tmps[11]? = some (.int .i64 0) := e11
        replace e11 := e11b
        clear e11b
        rw [HA.out] at c2
        have y0 : w5.cell? (ad.add (k * 6)) = some (.int .i64 l.n0) := HCL.out.1 _ rfl
        have y1 : w5.cell? ⟨(ad.add (k * 6)).block, (ad.add (k * 6)).off + 1, none⟩ = some (.int .i64 l.p0) := HCL.out.2 1 _ (by omega) rfl
        suffices HK : ∀ (a' : Act), a'.tmps.size = a.tmps.size → a'.defers = [] → a'.tmps[1]? = a.tmps[1]? → a'.tmps[5]? = a.tmps[5]? → a'.tmps[6]? = a.tmps[6]? → a'.tmps[7]? = a.tmps[7]? → a'.tmps[8]? = a.tmps[8]? → a'.tmps[9]? = a.tmps[9]? → a'.tmps[79]? = a.tmps[79]? → a'.tmps[80]? = a.tmps[80]? → a'.tmps[81]? = a.tmps[81]? → a'.tmps[10]? = a.tmps[10]? → a'.tmps[11]? = a.tmps[11]? → a'.tmps[158]? = some (.bool (decide ((k < j ∨ 0 < side) ∧ l.n0 = x ∧ l.p0 = y))) → Kq9 a' w5 by
          refine sm_list [1, 5, 7, 8, 9, 10, 11] 126 33 hs hd (by kernel_rfl) (agC e1 (agC e5 (agC e7 (agC e8 (agC e9 (agC e10 (agC e11 agN))))))) rfl ?_
          simp only [seval]
          go_wp2_with fail
          all_goals
            intro a' H
            refine HK a' H.size H.defers ((H.got rfl rfl).trans e1.symm) ((H.got rfl rfl).trans e5.symm) (H.out 6 rfl) ((H.got rfl rfl).trans e7.symm) ((H.got rfl rfl).trans e8.symm) ((H.got rfl rfl).trans e9.symm) (H.out 79 rfl) (H.out 80 rfl) (H.out 81 rfl) ((H.got rfl rfl).trans e10.symm) ((H.got rfl rfl).trans e11.symm) ?_
            · (refine (H.got (t := 158) rfl rfl).trans (congrArg some ?_); refine congrArg Value.bool ?_; rw [Bool.eq_iff_iff]; simp only [Bool.or_eq_true, Bool.and_eq_true, decide_eq_true_eq, beq_iff_eq, Bool.false_eq_true, false_iff]; omega)
        intro a' g_s g_d g1 g5 g6 g7 g8 g9 g79 g80 g81 g10 g11 f158
        replace hs := g_s.trans hs; replace hd := g_d; replace e1 := g1.trans e1; replace e5 := g5.trans e5; replace e6 := g6.trans e6; replace e7 := g7.trans e7; replace e8 := g8.trans e8; replace e9 := g9.trans e9; replace e79 := g79.trans e79; replace e80 := g80.trans e80; replace e81 := g81.trans e81; replace e10 := g10.trans e10; replace e11 := g11.trans e11; clear g_s g_d g1 g5 g6 g7 g8 g9 g79 g80 g81 g10 g11
        have e158 := f158
        clear f158; clear a
        obtain ⟨a, rfl⟩ : ∃ a, a = a' := ⟨_, rfl⟩
        refine hKq9 _ _ ?_; clear hKq9 Kq9
        rw [← HA.out] at c2
        by_cases hM : (k < j ∨ 0 < side) ∧ l.n0 = x ∧ l.p0 = y
        · rw [decide_eq_true hM] at e158
          refine wp_cond_true (slotE e158) ?_
          clear e158; refine wp_seq_k fun Kq10 hKq10 => ?_
          refine sm_list [] 2 1 hs hd (by kernel_rfl) agN rfl ?_
          simp only [seval]
          go_wp2_with fail
          intro a H; replace hs := H.s hs; replace hd := H.d rfl; replace e1 := H.k e1 rfl; replace e5 := H.k e5 rfl; replace e6 := H.k e6 rfl; replace e7 := H.k e7 rfl; replace e8 := H.k e8 rfl; replace e9 := H.k e9 rfl; replace e79 := H.k e79 rfl; replace e80 := H.k e80 rfl; replace e81 := H.k e81 rfl; replace e10 := H.k e10 rfl; replace e11 := H.k e11 rfl; have e2 := H.g 2 rfl rfl; clear H; refine hKq10 _ _ ?_
          clear hKq10 Kq10; refine wp_ret ?_; refine ret_block ?_; refine exit_then rfl ?_; refine exit_then rfl ?_; refine ret_block ?_; refine ret_block ?_; refine exit_then rfl ?_; refine exit_then rfl ?_; refine ret_block ?_
          exact HRET.out a k 0 l hs hd e2 HL.out (by omega) hlt (by simpa [endX, endY] using hM)
        · rw [decide_eq_false hM] at e158
          refine wp_cond_false (slotE e158) ?_
          clear e158; refine wp_skip ?_; refine hKq8 _ _ ?_; clear hKq8 Kq8
          refine sm_list [11] 124 2 hs hd (by kernel_rfl) (agC e11 agN) rfl ?_
          simp only [seval]
          go_wp2_with fail
          intro a H; replace hs := H.s hs; replace hd := H.d rfl; replace e1 := H.k e1 rfl; replace e5 := H.k e5 rfl; replace e6 := H.k e6 rfl; replace e7 := H.k e7 rfl; replace e8 := H.k e8 rfl; replace e9 := H.k e9 rfl; replace e79 := H.k e79 rfl; replace e80 := H.k e80 rfl; replace e81 := H.k e81 rfl; replace e10 := H.k e10 rfl; replace e11 := H.g 11 rfl rfl; clear H
          exact ⟨⟨1, by omega, hs, hd, e1, e5, e6, e7, e8, e9, e79, e80, e81, e10, e11, rfl, HN.out.next HL.out (by simpa [endX, endY] using hM)⟩, by simp [hm2, slot e11, intOf]⟩
      · have e11b : a.tmps[11]? = some (.int .i64 1) := e11
        replace e11 := e11b
        clear e11b
        rw [HA.out] at c2
        have y2 : w5.cell? ⟨(ad.add (k * 6)).block, (ad.add (k * 6)).off + 2, none⟩ = some (.int .i64 l.n1) := HCL.out.2 2 _ (by omega) rfl
        have y3 : w5.cell? ⟨(ad.add (k * 6)).block, (ad.add (k * 6)).off + 3, none⟩ = some (.int .i64 l.p1) := HCL.out.2 3 _ (by omega) rfl
        suffices HK : ∀ (a' : Act), a'.tmps.size = a.tmps.size → a'.defers = [] → a'.tmps[1]? = a.tmps[1]? → a'.tmps[5]? = a.tmps[5]? → a'.tmps[6]? = a.tmps[6]? → a'.tmps[7]? = a.tmps[7]? → a'.tmps[8]? = a.tmps[8]? → a'.tmps[9]? = a.tmps[9]? → a'.tmps[79]? = a.tmps[79]? → a'.tmps[80]? = a.tmps[80]? → a'.tmps[81]? = a.tmps[81]? → a'.tmps[10]? = a.tmps[10]? → a'.tmps[11]? = a.tmps[11]? → a'.tmps[158]? = some (.bool (decide ((k < j ∨ 1 < side) ∧ l.n1 = x ∧ l.p1 = y))) → Kq9 a' w5 by
          refine sm_list [1, 5, 7, 8, 9, 10, 11] 126 33 hs hd (by kernel_rfl) (agC e1 (agC e5 (agC e7 (agC e8 (agC e9 (agC e10 (agC e11 agN))))))) rfl ?_
          simp only [seval]
          go_wp2_with fail
          all_goals
            intro a' H
            refine HK a' H.size H.defers ((H.got rfl rfl).trans e1.symm) ((H.got rfl rfl).trans e5.symm) (H.out 6 rfl) ((H.got rfl rfl).trans e7.symm) ((H.got rfl rfl).trans e8.symm) ((H.got rfl rfl).trans e9.symm) (H.out 79 rfl) (H.out 80 rfl) (H.out 81 rfl) ((H.got rfl rfl).trans e10.symm) ((H.got rfl rfl).trans e11.symm) ?_
            · (refine (H.got (t := 158) rfl rfl).trans (congrArg some ?_); refine congrArg Value.bool ?_; rw [Bool.eq_iff_iff]; simp only [Bool.or_eq_true, Bool.and_eq_true, decide_eq_true_eq, beq_iff_eq, Bool.false_eq_true, false_iff]; omega)
        intro a' g_s g_d g1 g5 g6 g7 g8 g9 g79 g80 g81 g10 g11 f158
        replace hs := g_s.trans hs; replace hd := g_d; replace e1 := g1.trans e1; replace e5 := g5.trans e5; replace e6 := g6.trans e6; replace e7 := g7.trans e7; replace e8 := g8.trans e8; replace e9 := g9.trans e9; replace e79 := g79.trans e79; replace e80 := g80.trans e80; replace e81 := g81.trans e81; replace e10 := g10.trans e10; replace e11 := g11.trans e11; clear g_s g_d g1 g5 g6 g7 g8 g9 g79 g80 g81 g10 g11
        have e158 := f158
        clear f158; clear a
        obtain ⟨a, rfl⟩ : ∃ a, a = a' := ⟨_, rfl⟩
        refine hKq9 _ _ ?_; clear hKq9 Kq9
        rw [← HA.out] at c2
        by_cases hM : (k < j ∨ 1 < side) ∧ l.n1 = x ∧ l.p1 = y
        · rw [decide_eq_true hM] at e158
          refine wp_cond_true (slotE e158) ?_
          clear e158; refine wp_seq_k fun Kq10 hKq10 => ?_
          refine sm_list [] 2 1 hs hd (by kernel_rfl) agN rfl ?_
          simp only [seval]
          go_wp2_with fail
          intro a H; replace hs := H.s hs; replace hd := H.d rfl; replace e1 := H.k e1 rfl; replace e5 := H.k e5 rfl; replace e6 := H.k e6 rfl; replace e7 := H.k e7 rfl; replace e8 := H.k e8 rfl; replace e9 := H.k e9 rfl; replace e79 := H.k e79 rfl; replace e80 := H.k e80 rfl; replace e81 := H.k e81 rfl; replace e10 := H.k e10 rfl; replace e11 := H.k e11 rfl; have e2 := H.g 2 rfl rfl; clear H; refine hKq10 _ _ ?_
          clear hKq10 Kq10; refine wp_ret ?_; refine ret_block ?_; refine exit_then rfl ?_; refine exit_then rfl ?_; refine ret_block ?_; refine ret_block ?_; refine exit_then rfl ?_; refine exit_then rfl ?_; refine ret_block ?_
          exact HRET.out a k 1 l hs hd e2 HL.out (by omega) hlt (by simpa [endX, endY] using hM)
        · rw [decide_eq_false hM] at e158
          refine wp_cond_false (slotE e158) ?_
          clear e158; refine wp_skip ?_; refine hKq8 _ _ ?_; clear hKq8 Kq8
          refine sm_list [11] 124 2 hs hd (by kernel_rfl) (agC e11 agN) rfl ?_
          simp only [seval]
          go_wp2_with fail
          intro a H; replace hs := H.s hs; replace hd := H.d rfl; replace e1 := H.k e1 rfl; replace e5 := H.k e5 rfl; replace e6 := H.k e6 rfl; replace e7 := H.k e7 rfl; replace e8 := H.k e8 rfl; replace e9 := H.k e9 rfl; replace e79 := H.k e79 rfl; replace e80 := H.k e80 rfl; replace e81 := H.k e81 rfl; replace e10 := H.k e10 rfl; replace e11 := H.g 11 rfl rfl; clear H
          exact ⟨⟨2, by omega, hs, hd, e1, e5, e6, e7, e8, e9, e79, e80, e81, e10, e11, rfl, HN.out.next HL.out (by simpa [endX, endY] using hM)⟩, by simp [hm2, slot e11, intOf]⟩
    · obtain rfl : s = 2 := by omega
      have e11b : a.tmps[11]? = some (.int .i64 2) := e11
      replace e11 := e11b
      clear e11b hs2 hm2
      refine sm_list [11] 122 2 hs hd (by kernel_rfl) (agC e11 agN) rfl ?_
      simp only [seval]
      go_wp2_with fail
      intro a H; replace hs := H.s hs; replace hd := H.d rfl; replace e11 := H.g 11 rfl rfl; replace e1 := H.k e1 rfl; replace e5 := H.k e5 rfl; replace e6 := H.k e6 rfl; replace e7 := H.k e7 rfl; replace e8 := H.k e8 rfl; replace e9 := H.k e9 rfl; replace e79 := H.k e79 rfl; replace e80 := H.k e80 rfl; replace e81 := H.k e81 rfl; replace e10 := H.k e10 rfl; have e123 := H.g 123 rfl rfl; clear H; refine hKq7 _ _ ?_
      clear hKq7 Kq7
      refine wp_cond_false (slotE e123) ?_
      clear e123; refine wp_exit ?_; refine exit_then rfl ?_; clear hKq6 Kq6; refine exit_then rfl ?_; refine exit_hit ?_; refine hKq4 _ _ ?_; clear hKq4 Kq4; clear e11
      refine sm_list [10] 120 2 hs hd (by kernel_rfl) (agC e10 agN) rfl ?_
      simp only [seval]
      go_wp2_with fail
      intro a H; replace hs := H.s hs; replace hd := H.d rfl; replace e1 := H.k e1 rfl; replace e5 := H.k e5 rfl; replace e6 := H.k e6 rfl; replace e7 := H.k e7 rfl; replace e8 := H.k e8 rfl; replace e9 := H.k e9 rfl; replace e79 := H.k e79 rfl; replace e80 := H.k e80 rfl; replace e81 := H.k e81 rfl; replace e10 := H.g 10 rfl rfl; clear H
      exact ⟨⟨k + 1, by omega, hs, hd, e1, e5, e6, e7, e8, e9, e79, e80, e81, e10, rfl, HN.out.round⟩, by simp only [hm0, slot e10, intOf]; omega⟩
  · obtain rfl : k = j + 1 := by omega
    have dj : decide ((j + 1 : Nat) ≤ (j : Nat)) = false := decide_eq_false (by omega)
    have dj2 : decide (((j + 1 : Nat) : Int) ≤ (j : Int)) = false := decide_eq_false (by omega)
    have dj3 : decide ((j : Int) + 1 ≤ (j : Int)) = false := decide_eq_false (by omega)
    clear hlt hm
    refine sm_list [5, 10] 117 3 hs hd (by kernel_rfl) (agC e5 (agC e10 agN)) rfl ?_
    simp only [seval]
    go_wp2_with fail
    intro a H; replace hs := H.s hs; replace hd := H.d rfl; replace e5 := H.g 5 rfl rfl; replace e10 := H.g 10 rfl rfl; replace e1 := H.k e1 rfl; replace e6 := H.k e6 rfl; replace e7 := H.k e7 rfl; replace e8 := H.k e8 rfl; replace e9 := H.k e9 rfl; replace e79 := H.k e79 rfl; replace e80 := H.k e80 rfl; replace e81 := H.k e81 rfl; have e119 := H.g 119 rfl rfl; clear H; refine hKq3 _ _ ?_; clear hKq3 Kq3
    refine wp_cond_false (slotE e119) ?_
    clear e119; refine wp_exit ?_; refine exit_then rfl ?_; clear hKq2 Kq2; refine exit_then rfl ?_; refine exit_hit ?_
    exact HOUT.out a hs hd e1 e5 e6 e7 e8 e9 e79 e80 e81 HN.out
end Go.Proofs.Ytaegngcbiefckaa
