/-
  TreeRuns: what went out is what is wanted.
-/
import Derived.Test.YtcdgofndfajekaaTreeS
namespace Go.Proofs.Ytcdgofndfajekaa
set_option linter.unusedSimpArgs false
set_option linter.unusedVariables false
open Go.RowKit Go.WideShapes Go.ChangeShapes
attribute [local go_sem ↓] Go.wp_at_zero Go.wp_at_succ

set_option maxRecDepth 100000 in
set_option maxHeartbeats 4000000 in
theorem tr_cmp (dom most : Int) (own : Pr) (b : Bks) (g6 gm gk N : Nat) (A : Option Addr) (n c i : Nat) (g21 g25 g33 gz k c2 : Nat) (s : S20) (T : Vc) (st : Int) (P : List Int) (A2 : Option Addr) (v35 : Value) (t : Tre) (ps qs : List Value) (a : Act) (w0 w : World) (Q : Exit → Act → World → Prop)
    (hs : a.tmps.size = 593) (hd : a.defers = []) (e0 : a.tmps[0]? = some (.int .i64 dom)) (e2 : a.tmps[2]? = some (.int .i64 (N : Int))) (e3 : a.tmps[3]? = some (.int .i64 most)) (e4 : a.tmps[4]? = some (.slice A n c)) (e6 : a.tmps[6]? = some (.pointer (some ⟨g6, 0, none⟩))) (e11 : a.tmps[11]? = some (.pointer (some ⟨b.g, 0, none⟩))) (e18 : a.tmps[18]? = some (.slice (some ⟨gk, 0, none⟩) N N)) (e19 : a.tmps[19]? = some (.pointer (some ⟨gm, 0, none⟩))) (e20 : a.tmps[20]? = some (.int .i64 (i : Int))) (e21 : a.tmps[21]? = some (.pointer (some ⟨g21, 0, none⟩))) (e25 : a.tmps[25]? = some (.pointer (some ⟨g25, 0, none⟩))) (e33 : a.tmps[33]? = some (.pointer (some ⟨g33, 0, none⟩))) (e34 : a.tmps[34]? = some (.bool true)) (e35 : a.tmps[35]? = some (v35)) (e36 : a.tmps[36]? = some (.int .i64 st))
    (ti : TI w0 w b g6 gm gk own t t.es ps qs) (hok : TOk own dom most N t) (S1 : Blk w g21 48 (s20c s)) (tp : Blk w g25 46 #[.int .i64 T.root.one, .int .i64 T.root.cls, .int .i64 T.root.two, .int .i64 T.root.id, .int .i64 T.steps, .int .i64 T.src, .int .i64 T.port, .int .i64 T.at_]) (B33 : Blk w g33 38 (mcells (⟨11, dom, s.nn, own.id, (k : Int), 0, 0, 0, 0, 0, T.root.one, T.root.cls, T.root.two, T.root.id, st, P⟩ : Mg) A2 P.length c2)) (hp : Path w [] A2 P) (hown : w.ownsRow gz 3 1 v35 P.length (vs P)) (hk : s.at_ = (k : Int)) (hP : P.length ≤ 32)
    (hend : ∀ (a : Act) (w' : World) (t' : Tre) (ps' qs' : List Value), a.tmps.size = 593 → a.defers = [] → a.tmps[0]? = some (.int .i64 dom) → a.tmps[2]? = some (.int .i64 (N : Int)) → a.tmps[3]? = some (.int .i64 most) → a.tmps[4]? = some (.slice A n c) → a.tmps[6]? = some (.pointer (some ⟨g6, 0, none⟩)) → a.tmps[11]? = some (.pointer (some ⟨b.g, 0, none⟩)) → a.tmps[18]? = some (.slice (some ⟨gk, 0, none⟩) N N) → a.tmps[19]? = some (.pointer (some ⟨gm, 0, none⟩)) → a.tmps[20]? = some (.int .i64 (i : Int)) → TI w0 w' b g6 gm gk own t' t'.es ps' qs' → TOk own dom most N t' → Q .normal a w') :
    Code.wp Try.prog (sub [true, true, true, true, true, true, true, true, false, true, false, false, true, false, false, true, true, true, true, true, true, true, false, true, true, true, true, true, true, true, false, true, true, true, true, true] (bodyOf Try.f3)) Q a w := by
  conv => arg 2; whnf
  have HEND := Lib.hid hend
  have HOK := Lib.hid hok
  have HPT := Lib.hid hp
  have HTI := Lib.hid ti
  have HOW := Lib.hid hown
  clear hend hok hp hown
  refine wp_seq_k fun Kq1 hKq1 => ?_
  refine wp_seq_k fun Kq2 hKq2 => ?_
  obtain ⟨A35, c35, rfl, _, _⟩ := ownsRow_reads HOW.out
  have x0 := B33.cellOf (v := .int .i64 11) 0 rfl
  have x1 := B33.cellOf (v := .int .i64 dom) 1 rfl
  have x2 := B33.cellOf (v := .int .i64 s.nn) 2 rfl
  have x3 := B33.cellOf (v := .int .i64 own.id) 3 rfl
  have x4 := B33.cellOf (v := .int .i64 (k : Int)) 4 rfl
  have x10 := B33.cellOf (v := .int .i64 T.root.one) 10 rfl
  have x11 := B33.cellOf (v := .int .i64 T.root.cls) 11 rfl
  have x12 := B33.cellOf (v := .int .i64 T.root.two) 12 rfl
  have x13 := B33.cellOf (v := .int .i64 T.root.id) 13 rfl
  have x14 := B33.cellOf (v := .int .i64 st) 14 rfl
  have x15 := B33.cellOf (v := .slice A2 P.length c2) 15 rfl
  have y1 := S1.cellOf (v := .int .i64 s.at_) 1 rfl
  rw [hk] at y1
  have y20 := S1.cellOf (v := .int .i64 s.nn) 20 rfl
  have z3 := ti.own_.cellOf (v := .int .i64 own.id) 3 rfl
  have t0 := tp.cellOf (v := .int .i64 T.root.one) 0 rfl
  have t1 := tp.cellOf (v := .int .i64 T.root.cls) 1 rfl
  have t2 := tp.cellOf (v := .int .i64 T.root.two) 2 rfl
  have t3 := tp.cellOf (v := .int .i64 T.root.id) 3 rfl
  have n1 : (dom != dom) = false := by simp
  have n2 : (s.nn != s.nn) = false := by simp
  have n3 : (own.id != own.id) = false := by simp
  have n4 : ((k : Int) != (k : Int)) = false := by simp
  have n5 : (st != st) = false := by simp
  have n6 : ((P.length : Int) != (P.length : Int)) = false := by simp
  clear ti S1 tp hk
  refine sm_list [0, 6, 21, 25, 33, 34, 35, 36] 515 62 hs hd (by kernel_rfl) (agC e0 (agC e6 (agC e21 (agC e25 (agC e33 (agC e34 (agC e35 (agC e36 agN)))))))) (by simp only [List.map_cons, List.map_nil, reOper, reOp, reO, reC, reK, Option.map_some, Option.map_none, fS_ite, ix_ite, Nat.reduceLeDiff, Nat.reduceEqDiff, if_true, if_false, ↓reduceIte, List.length_cons, List.length_nil, Nat.reduceAdd, Nat.reduceSub, List.map_toArray]; rfl) ?_
  simp only [List.replicate_succ, List.replicate_zero, List.cons_append, List.nil_append, List.drop_succ_cons, List.drop_zero, List.take_succ_cons, List.take_zero]
  go_wp2_with fail
  intro a H
  replace hs := H.size.trans hs
  replace hd : a.defers = [] := H.defers
  replace e0 : a.tmps[0]? = some _ := H.got rfl rfl
  replace e2 : a.tmps[2]? = some _ := H.keep e2 rfl
  replace e3 : a.tmps[3]? = some _ := H.keep e3 rfl
  replace e4 : a.tmps[4]? = some _ := H.keep e4 rfl
  replace e6 : a.tmps[6]? = some _ := H.got rfl rfl
  replace e11 : a.tmps[11]? = some _ := H.keep e11 rfl
  replace e18 : a.tmps[18]? = some _ := H.keep e18 rfl
  replace e19 : a.tmps[19]? = some _ := H.keep e19 rfl
  replace e20 : a.tmps[20]? = some _ := H.keep e20 rfl
  replace e21 : a.tmps[21]? = some _ := H.got rfl rfl
  replace e25 : a.tmps[25]? = some _ := H.got rfl rfl
  replace e33 : a.tmps[33]? = some _ := H.got rfl rfl
  replace e34 : a.tmps[34]? = some _ := H.got rfl rfl
  replace e35 : a.tmps[35]? = some _ := H.got rfl rfl
  replace e36 : a.tmps[36]? = some _ := H.got rfl rfl
  have e576 : a.tmps[576]? = some _ := H.got rfl rfl
  clear H
  refine hKq2 _ _ ?_
  clear hKq2 Kq2
  clear x0 x1 x2 x3 x4 x10 x11 x12 x13 x14 x15 y1 y20 z3 t0 t1 t2 t3 n1 n2 n3 n4 n5 n6
  clear e21
  clear e25
  clear e34
  clear e36
  refine wp_cond_false (slotE e576) ?_
  clear e576
  refine wp_skip ?_
  refine hKq1 _ _ ?_
  clear hKq1 Kq1
  refine wp_seq_k fun Kq3 hKq3 => ?_
  refine sm_list [35] 577 3 hs hd (by kernel_rfl) (agC e35 agN) (by simp only [List.map_cons, List.map_nil, reOper, reOp, reO, reC, reK, Option.map_some, Option.map_none, fS_ite, ix_ite, Nat.reduceLeDiff, Nat.reduceEqDiff, if_true, if_false, ↓reduceIte, List.length_cons, List.length_nil, Nat.reduceAdd, Nat.reduceSub, List.map_toArray]; rfl) ?_
  simp only [List.replicate_succ, List.replicate_zero, List.cons_append, List.nil_append, List.drop_succ_cons, List.drop_zero, List.take_succ_cons, List.take_zero]
  go_wp2_with fail
  intro a H
  replace hs := H.size.trans hs
  replace hd : a.defers = [] := H.defers
  replace e0 : a.tmps[0]? = some _ := H.keep e0 rfl
  replace e2 : a.tmps[2]? = some _ := H.keep e2 rfl
  replace e3 : a.tmps[3]? = some _ := H.keep e3 rfl
  replace e4 : a.tmps[4]? = some _ := H.keep e4 rfl
  replace e6 : a.tmps[6]? = some _ := H.keep e6 rfl
  replace e11 : a.tmps[11]? = some _ := H.keep e11 rfl
  replace e18 : a.tmps[18]? = some _ := H.keep e18 rfl
  replace e19 : a.tmps[19]? = some _ := H.keep e19 rfl
  replace e20 : a.tmps[20]? = some _ := H.keep e20 rfl
  replace e33 : a.tmps[33]? = some _ := H.keep e33 rfl
  replace e35 : a.tmps[35]? = some _ := H.got rfl rfl
  have e578 : a.tmps[578]? = some _ := H.got rfl rfl
  have e579 : a.tmps[579]? = some _ := H.got rfl rfl
  clear H
  refine hKq3 _ _ ?_
  clear hKq3 Kq3
  refine wp_block ?_
  refine wp_loop (fun a w' => ∃ j : Nat, j ≤ P.length ∧ a.tmps.size = 593 ∧ a.defers = [] ∧ a.tmps[0]? = some (.int .i64 dom) ∧ a.tmps[2]? = some (.int .i64 (N : Int)) ∧ a.tmps[3]? = some (.int .i64 most) ∧ a.tmps[4]? = some (.slice A n c) ∧ a.tmps[6]? = some (.pointer (some ⟨g6, 0, none⟩)) ∧ a.tmps[11]? = some (.pointer (some ⟨b.g, 0, none⟩)) ∧ a.tmps[18]? = some (.slice (some ⟨gk, 0, none⟩) N N) ∧ a.tmps[19]? = some (.pointer (some ⟨gm, 0, none⟩)) ∧ a.tmps[20]? = some (.int .i64 (i : Int)) ∧ a.tmps[33]? = some (.pointer (some ⟨g33, 0, none⟩)) ∧ a.tmps[35]? = some (.slice A35 P.length c35) ∧ a.tmps[578]? = some (.int .i64 (P.length : Int)) ∧ a.tmps[579]? = some (.int .i64 (j : Int)) ∧ Below w.heap.size w w') (fun a _ => P.length - (intOf (a.tmps.getD 579 undef)).toNat) ?_ ?_
  · exact ⟨0, Nat.zero_le _, hs, hd, e0, e2, e3, e4, e6, e11, e18, e19, e20, e33, e35, e578, e579, Below.refl _ _⟩
  clear hs hd e0 e2 e3 e4 e6 e11 e18 e19 e20 e33 e35 e578 e579 a
  rintro a w5 ⟨j, hj, hs, hd, e0, e2, e3, e4, e6, e11, e18, e19, e20, e33, e35, e578, e579, hb⟩
  have hm := slot e579
  refine wp_seq_k fun Kq4 hKq4 => ?_
  by_cases hlt3 : j < P.length
  ·
    have dj : decide ((j : Int) < (P.length : Int)) = true := decide_eq_true (by omega)
    have hN8 : (P.length : Int) ≤ 32 := by omega
    have hj0 : (0 : Int) ≤ (j : Int) := by omega
    have hj1 : (j : Int) < (P.length : Int) := by omega
    have O5 := ownsRow_below HOW.out hb (fun k hk => (ownsRow_lt HOW.out k hk).2)
    obtain ⟨gb, cb, ub, hvb, _, lb, hxb, zb⟩ := own_cell O5 hlt3
    injection hvb with hvb _ _
    subst hvb
    obtain ⟨x, hx, hpx⟩ : ∃ x : Int, ub = .int .i64 x ∧ P[j]? = some x := by
      unfold vs at hxb
      rw [List.getElem?_map] at hxb
      cases hq : P[j]? with
      | none => rw [hq] at hxb; cases hxb
      | some x => rw [hq] at hxb; injection hxb with hxb; exact ⟨x, hxb.symm, rfl⟩
    subst hx
    obtain ⟨ad, hA2, had, _, hcc⟩ := HPT.out (by omega)
    subst hA2
    have hall : ∀ w', Below w5.heap.size w5 w' → w'.cell? (ad.add j) = some (.int .i64 x) := fun w' hw => by
      have hL := hb.trans (hw.mono hb.size)
      rw [hL.cell (by rw [block_of_add]; exact had)]; exact hcc j x hpx
    have B5 := B33.kept hb
    have x15 := B5.cellOf (v := .slice (some ad) P.length c2) 15 rfl
    have l33 := B5.lt
    have nx : (x != x) = false := by simp
    clear hxb O5 hpx hcc B5
    refine sm_list [578, 579] 580 1 hs hd (by kernel_rfl) (agC e578 (agC e579 agN)) (by simp only [List.map_cons, List.map_nil, reOper, reOp, reO, reC, reK, Option.map_some, Option.map_none, fS_ite, ix_ite, Nat.reduceLeDiff, Nat.reduceEqDiff, if_true, if_false, ↓reduceIte, List.length_cons, List.length_nil, Nat.reduceAdd, Nat.reduceSub, List.map_toArray]; rfl) ?_
    simp only [List.replicate_succ, List.replicate_zero, List.cons_append, List.nil_append, List.drop_succ_cons, List.drop_zero, List.take_succ_cons, List.take_zero]
    go_wp2_with fail
    intro a H
    replace hs := H.size.trans hs
    replace hd : a.defers = [] := H.defers
    replace e0 : a.tmps[0]? = some _ := H.keep e0 rfl
    replace e2 : a.tmps[2]? = some _ := H.keep e2 rfl
    replace e3 : a.tmps[3]? = some _ := H.keep e3 rfl
    replace e4 : a.tmps[4]? = some _ := H.keep e4 rfl
    replace e6 : a.tmps[6]? = some _ := H.keep e6 rfl
    replace e11 : a.tmps[11]? = some _ := H.keep e11 rfl
    replace e18 : a.tmps[18]? = some _ := H.keep e18 rfl
    replace e19 : a.tmps[19]? = some _ := H.keep e19 rfl
    replace e20 : a.tmps[20]? = some _ := H.keep e20 rfl
    replace e33 : a.tmps[33]? = some _ := H.keep e33 rfl
    replace e35 : a.tmps[35]? = some _ := H.keep e35 rfl
    replace e578 : a.tmps[578]? = some _ := H.got rfl rfl
    replace e579 : a.tmps[579]? = some _ := H.got rfl rfl
    have e580 : a.tmps[580]? = some _ := H.got rfl rfl
    clear H
    refine hKq4 _ _ ?_
    clear hKq4 Kq4
    refine wp_seq_k fun Kq5 hKq5 => ?_
    refine wp_cond_true (slotE e580) ?_
    clear e580
    refine wp_skip ?_
    refine hKq5 _ _ ?_
    clear hKq5 Kq5
    refine wp_seq_k fun Kq6 hKq6 => ?_
    refine wp_block ?_
    refine wp_seq_k fun Kq7 hKq7 => ?_
    refine sm_list [37, 579] 581 1 hs hd (by kernel_rfl) (agU (agC e579 agN)) (by simp only [List.map_cons, List.map_nil, reOper, reOp, reO, reC, reK, Option.map_some, Option.map_none, fS_ite, ix_ite, Nat.reduceLeDiff, Nat.reduceEqDiff, if_true, if_false, ↓reduceIte, List.length_cons, List.length_nil, Nat.reduceAdd, Nat.reduceSub, List.map_toArray]; rfl) ?_
    simp only [List.replicate_succ, List.replicate_zero, List.cons_append, List.nil_append, List.drop_succ_cons, List.drop_zero, List.take_succ_cons, List.take_zero]
    go_wp2_with fail
    intro a H
    replace hs := H.size.trans hs
    replace hd : a.defers = [] := H.defers
    replace e0 : a.tmps[0]? = some _ := H.keep e0 rfl
    replace e2 : a.tmps[2]? = some _ := H.keep e2 rfl
    replace e3 : a.tmps[3]? = some _ := H.keep e3 rfl
    replace e4 : a.tmps[4]? = some _ := H.keep e4 rfl
    replace e6 : a.tmps[6]? = some _ := H.keep e6 rfl
    replace e11 : a.tmps[11]? = some _ := H.keep e11 rfl
    replace e18 : a.tmps[18]? = some _ := H.keep e18 rfl
    replace e19 : a.tmps[19]? = some _ := H.keep e19 rfl
    replace e20 : a.tmps[20]? = some _ := H.keep e20 rfl
    replace e33 : a.tmps[33]? = some _ := H.keep e33 rfl
    replace e35 : a.tmps[35]? = some _ := H.keep e35 rfl
    replace e578 : a.tmps[578]? = some _ := H.keep e578 rfl
    replace e579 : a.tmps[579]? = some _ := H.got rfl rfl
    have e37 : a.tmps[37]? = some _ := H.got rfl rfl
    clear H
    refine hKq7 _ _ ?_
    clear hKq7 Kq7
    refine wp_seq_k fun Kq8 hKq8 => ?_
    refine sm_any [33, 35, 37] 582 10 (by kernel_rfl) hs hd (by kernel_rfl) (agC e33 (agC e35 (agC e37 agN))) (by simp only [List.map_cons, List.map_nil, reOper, reOp, reO, reC, reK, Option.map_some, Option.map_none, fS_ite, ix_ite, Nat.reduceLeDiff, Nat.reduceEqDiff, if_true, if_false, ↓reduceIte, List.length_cons, List.length_nil, Nat.reduceAdd, Nat.reduceSub, List.map_toArray]; rfl) (any_class (fun w' => Below w5.heap.size w5 w') (by kernel_rfl) ((Below.refl _ _).drew) ?_)
    simp only [List.replicate_succ, List.replicate_zero, List.cons_append, List.nil_append, List.drop_succ_cons, List.drop_zero, List.take_succ_cons, List.take_zero]
    repeat (first | (with_reducible (refine wpQuiet_skip ?_ ?_); (first | exact wanted_off rfl rfl rfl rfl | exact wanted_off2 rfl rfl rfl); simp only [Act.put, List.setIfInBounds_toArray, List.set_cons_zero, List.set_cons_succ]) | (with_reducible (refine wpQuiet_val (v := ?_) ?_ ?_ ?_); rotate_left; (first | exact wanted_none rfl | exact wanted_on rfl rfl rfl); (intro w' hw'; obtain ⟨hc, hf⟩ := bcell hw'; go_simp; with_reducible rfl); simp only [Act.put, List.setIfInBounds_toArray, List.set_cons_zero, List.set_cons_succ]))
    refine wpQuiet_nil ?_
    intro w6 hw6
    intro a H
    replace hs := H.size.trans hs
    replace hd : a.defers = [] := H.defers
    replace e0 : a.tmps[0]? = some _ := H.keep e0 rfl
    replace e2 : a.tmps[2]? = some _ := H.keep e2 rfl
    replace e3 : a.tmps[3]? = some _ := H.keep e3 rfl
    replace e4 : a.tmps[4]? = some _ := H.keep e4 rfl
    replace e6 : a.tmps[6]? = some _ := H.keep e6 rfl
    replace e11 : a.tmps[11]? = some _ := H.keep e11 rfl
    replace e18 : a.tmps[18]? = some _ := H.keep e18 rfl
    replace e19 : a.tmps[19]? = some _ := H.keep e19 rfl
    replace e20 : a.tmps[20]? = some _ := H.keep e20 rfl
    replace e33 : a.tmps[33]? = some _ := H.got rfl rfl
    replace e35 : a.tmps[35]? = some _ := H.got rfl rfl
    replace e578 : a.tmps[578]? = some _ := H.keep e578 rfl
    replace e579 : a.tmps[579]? = some _ := H.keep e579 rfl
    clear e37
    have e591 : a.tmps[591]? = some _ := H.got rfl rfl
    clear H
    refine hKq8 _ _ ?_
    clear hKq8 Kq8
    have L6 := hb.trans (hw6.mono hb.size)
    clear zb lb hb hw6 nx hall x15 l33
    refine wp_cond_false (slotE e591) ?_
    clear e591
    refine wp_skip ?_
    refine hKq6 _ _ ?_
    clear hKq6 Kq6
    refine sm_list [579] 592 1 hs hd (by kernel_rfl) (agC e579 agN) (by simp only [List.map_cons, List.map_nil, reOper, reOp, reO, reC, reK, Option.map_some, Option.map_none, fS_ite, ix_ite, Nat.reduceLeDiff, Nat.reduceEqDiff, if_true, if_false, ↓reduceIte, List.length_cons, List.length_nil, Nat.reduceAdd, Nat.reduceSub, List.map_toArray]; rfl) ?_
    simp only [List.replicate_succ, List.replicate_zero, List.cons_append, List.nil_append, List.drop_succ_cons, List.drop_zero, List.take_succ_cons, List.take_zero]
    go_wp2_with fail
    intro a H
    replace hs := H.size.trans hs
    replace hd : a.defers = [] := H.defers
    replace e0 : a.tmps[0]? = some _ := H.keep e0 rfl
    replace e2 : a.tmps[2]? = some _ := H.keep e2 rfl
    replace e3 : a.tmps[3]? = some _ := H.keep e3 rfl
    replace e4 : a.tmps[4]? = some _ := H.keep e4 rfl
    replace e6 : a.tmps[6]? = some _ := H.keep e6 rfl
    replace e11 : a.tmps[11]? = some _ := H.keep e11 rfl
    replace e18 : a.tmps[18]? = some _ := H.keep e18 rfl
    replace e19 : a.tmps[19]? = some _ := H.keep e19 rfl
    replace e20 : a.tmps[20]? = some _ := H.keep e20 rfl
    replace e33 : a.tmps[33]? = some _ := H.keep e33 rfl
    replace e35 : a.tmps[35]? = some _ := H.keep e35 rfl
    replace e578 : a.tmps[578]? = some _ := H.keep e578 rfl
    replace e579 : a.tmps[579]? = some _ := H.got rfl rfl
    clear H
    refine ⟨⟨j + 1, by omega, hs, hd, e0, e2, e3, e4, e6, e11, e18, e19, e20, e33, e35, e578, e579, L6⟩, ?_⟩
    simp only [hm, slot e579, intOf]
    omega
  · have hj : j = P.length := by omega
    subst hj
    have dj : decide ((P.length : Int) < (P.length : Int)) = false := decide_eq_false (by omega)
    clear hlt3 hm
    refine sm_list [578, 579] 580 1 hs hd (by kernel_rfl) (agC e578 (agC e579 agN)) (by simp only [List.map_cons, List.map_nil, reOper, reOp, reO, reC, reK, Option.map_some, Option.map_none, fS_ite, ix_ite, Nat.reduceLeDiff, Nat.reduceEqDiff, if_true, if_false, ↓reduceIte, List.length_cons, List.length_nil, Nat.reduceAdd, Nat.reduceSub, List.map_toArray]; rfl) ?_
    simp only [List.replicate_succ, List.replicate_zero, List.cons_append, List.nil_append, List.drop_succ_cons, List.drop_zero, List.take_succ_cons, List.take_zero]
    go_wp2_with fail
    intro a H
    replace hs := H.size.trans hs
    replace hd : a.defers = [] := H.defers
    replace e0 : a.tmps[0]? = some _ := H.keep e0 rfl
    replace e2 : a.tmps[2]? = some _ := H.keep e2 rfl
    replace e3 : a.tmps[3]? = some _ := H.keep e3 rfl
    replace e4 : a.tmps[4]? = some _ := H.keep e4 rfl
    replace e6 : a.tmps[6]? = some _ := H.keep e6 rfl
    replace e11 : a.tmps[11]? = some _ := H.keep e11 rfl
    replace e18 : a.tmps[18]? = some _ := H.keep e18 rfl
    replace e19 : a.tmps[19]? = some _ := H.keep e19 rfl
    replace e20 : a.tmps[20]? = some _ := H.keep e20 rfl
    replace e33 : a.tmps[33]? = some _ := H.keep e33 rfl
    replace e35 : a.tmps[35]? = some _ := H.keep e35 rfl
    replace e578 : a.tmps[578]? = some _ := H.got rfl rfl
    replace e579 : a.tmps[579]? = some _ := H.got rfl rfl
    have e580 : a.tmps[580]? = some _ := H.got rfl rfl
    clear H
    refine hKq4 _ _ ?_
    clear hKq4 Kq4
    refine wp_seq_k fun Kq5 hKq5 => ?_
    refine wp_cond_false (slotE e580) ?_
    clear e580
    refine wp_exit ?_
    refine exit_then rfl ?_
    clear hKq5 Kq5
    refine exit_then rfl ?_
    refine exit_hit ?_
    exact HEND.out a _ _ _ _ hs hd e0 e2 e3 e4 e6 e11 e18 e19 e20 (HTI.out.kept hb) HOK.out
end Go.Proofs.Ytcdgofndfajekaa
