/-
  TreeRuns: the best clock is asked for.
-/
import Derived.Test.YtcdgofndfajekaaTreeS
namespace Go.Proofs.Ytcdgofndfajekaa
set_option linter.unusedSimpArgs false
set_option linter.unusedVariables false
open Go.RowKit Go.WideShapes Go.ChangeShapes
attribute [local go_sem ↓] Go.wp_at_zero Go.wp_at_succ

set_option maxRecDepth 100000 in
set_option maxHeartbeats 4000000 in
theorem tr_best (dom most : Int) (own : Pr) (b : Bks) (g6 gm gk N : Nat) (A : Option Addr) (n c i : Nat) (g21 g25 gx : Nat) (s : S20) (v26 : Value) (rl : List Int) (t : Tre) (ps qs : List Value)  (a : Act) (w0 w : World) (Q : Exit → Act → World → Prop)
    (hs : a.tmps.size = 593) (hd : a.defers = []) (e0 : a.tmps[0]? = some (.int .i64 dom)) (e2 : a.tmps[2]? = some (.int .i64 (N : Int))) (e3 : a.tmps[3]? = some (.int .i64 most)) (e4 : a.tmps[4]? = some (.slice A n c)) (e6 : a.tmps[6]? = some (.pointer (some ⟨g6, 0, none⟩))) (e11 : a.tmps[11]? = some (.pointer (some ⟨b.g, 0, none⟩))) (e18 : a.tmps[18]? = some (.slice (some ⟨gk, 0, none⟩) N N)) (e19 : a.tmps[19]? = some (.pointer (some ⟨gm, 0, none⟩))) (e20 : a.tmps[20]? = some (.int .i64 (i : Int))) (e21 : a.tmps[21]? = some (.pointer (some ⟨g21, 0, none⟩))) (e25 : a.tmps[25]? = some (.pointer (some ⟨g25, 0, none⟩))) (e26 : a.tmps[26]? = some (v26)) (e27 : a.tmps[27]? = some (.bool (decide (0 ≤ s.at_ ∧ s.at_ < (N : Int))))) (hmost : 1 ≤ most ∧ most ≤ 1099511627776) (hrl : (rl.map fun x => Value.int .i64 x) = (List.range N).map fun j => .int .i64 (roleAt own (t.top s.now) (t.hs s.now) j))
    (R : Rd w0 w b g6 gm gk own t t.es ps qs g21 g25 gx N s v26 (t.top s.now) rl) (hok : TOk own dom most N t) (hmsg : MsgIn w0 w0.heap.size s.m s.A s.n) (hN : N ≤ 8) (hnow : -1125899906842624 ≤ s.now ∧ s.now ≤ 1125899906842624)
    (hend : ∀ (a : Act) (w' : World) (t' : Tre) (ps' qs' : List Value), a.tmps.size = 593 → a.defers = [] → a.tmps[0]? = some (.int .i64 dom) → a.tmps[2]? = some (.int .i64 (N : Int)) → a.tmps[3]? = some (.int .i64 most) → a.tmps[4]? = some (.slice A n c) → a.tmps[6]? = some (.pointer (some ⟨g6, 0, none⟩)) → a.tmps[11]? = some (.pointer (some ⟨b.g, 0, none⟩)) → a.tmps[18]? = some (.slice (some ⟨gk, 0, none⟩) N N) → a.tmps[19]? = some (.pointer (some ⟨gm, 0, none⟩)) → a.tmps[20]? = some (.int .i64 (i : Int)) → TI w0 w' b g6 gm gk own t' t'.es ps' qs' → TOk own dom most N t' → Q .normal a w') :
    Code.wp Try.prog (sub [true, true, true, true, true, true, true, true, false, true, false, false, true, false, false, true, true, true, true, true, true, true, false, true, true, true, true, true, false] (bodyOf Try.f3)) Q a w := by
  conv => arg 2; whnf
  have HEND := Lib.hid hend
  have HOK := Lib.hid hok
  have HM := Lib.hid hmsg
  clear hend hok hmsg
  refine wp_seq_k fun Kq1 hKq1 => ?_
  clear e27
  have y18 := R.st.cellOf (v := .int .i64 s.now) 18 rfl
  have hr : R64 s.now := by unfold R64; omega
  have hat : ∀ e ∈ t.es, R64 e.at_ := fun e he => by have := (HOK.out.all e he).1; unfold R64; omega
  have hB := best_any b t ps s.now w R.ti.tat hr hat (by rw [HOK.out.most]; omega) (by rw [HOK.out.most]; omega)
  have hRo := fun W hW => root_any b t ps s.now W hW hr hat (by rw [HOK.out.most]; omega) (by rw [HOK.out.most]; omega)
  rw [HOK.out.len, HOK.out.own_, ← hrl] at hB
  have tp := R.tp
  have wn := R.wn
  have st_ := R.st
  have HAP := Lib.hid R.ap
  have ti := R.ti
  clear R hr hat hrl hmost
  generalize t.top s.now = T at *
  unfold Vc.val at hB
  rw [show T.cells.toArray = #[.int .i64 T.root.one, .int .i64 T.root.cls, .int .i64 T.root.two, .int .i64 T.root.id, .int .i64 T.steps, .int .i64 T.src, .int .i64 T.port, .int .i64 T.at_] from rfl] at hB tp
  have HB := Lib.hid hB
  have HRo := Lib.hid hRo
  have tp0 := tp
  clear hB hRo
  refine sm_list [11, 21, 30, 31] 399 7 hs hd (by kernel_rfl) (agC e11 (agC e21 (agU (agU agN)))) (by simp only [List.map_cons, List.map_nil, reOper, reOp, reO, reC, reK, Option.map_some, Option.map_none, fS_ite, ix_ite, Nat.reduceLeDiff, Nat.reduceEqDiff, if_true, if_false, ↓reduceIte, List.length_cons, List.length_nil, Nat.reduceAdd, Nat.reduceSub, List.map_toArray]; rfl) ?_
  simp only [List.replicate_succ, List.replicate_zero, List.cons_append, List.nil_append, List.drop_succ_cons, List.drop_zero, List.take_succ_cons, List.take_zero]
  go_wp2_with fail
  refine HB.out.mono ?_
  rintro e w2 ⟨v31, rfl, own31, b2⟩
  have ti2 := ti.kept b2
  have tp2 := tp.kept b2
  have st2 := st_.kept b2
  have wn2 := ownsRow_below wn b2 (fun k hk => (ownsRow_lt wn k hk).2)
  clear ti tp st_ b2 y18 HB tp0
  go_wp2_with fail
  intro a H
  replace hs := H.size.trans hs
  replace hd : a.defers = [] := H.defers
  replace e0 : a.tmps[0]? = some _ := H.keep e0 rfl
  replace e2 : a.tmps[2]? = some _ := H.keep e2 rfl
  replace e3 : a.tmps[3]? = some _ := H.keep e3 rfl
  replace e4 : a.tmps[4]? = some _ := H.keep e4 rfl
  replace e6 : a.tmps[6]? = some _ := H.keep e6 rfl
  replace e11 : a.tmps[11]? = some _ := H.got rfl rfl
  replace e18 : a.tmps[18]? = some _ := H.keep e18 rfl
  replace e19 : a.tmps[19]? = some _ := H.keep e19 rfl
  replace e20 : a.tmps[20]? = some _ := H.keep e20 rfl
  replace e21 : a.tmps[21]? = some _ := H.got rfl rfl
  replace e25 : a.tmps[25]? = some _ := H.keep e25 rfl
  replace e26 : a.tmps[26]? = some _ := H.keep e26 rfl
  have e30 : a.tmps[30]? = some _ := H.got rfl rfl
  have e31 : a.tmps[31]? = some _ := H.got rfl rfl
  clear H
  refine hKq1 _ _ ?_
  clear hKq1 Kq1
  refine wp_seq_k fun Kq2 hKq2 => ?_
  refine wp_seq_k fun Kq3 hKq3 => ?_
  have B30 := Blk.new w2 31 #[.int .i64 T.root.one, .int .i64 T.root.cls, .int .i64 T.root.two, .int .i64 T.root.id, .int .i64 T.steps, .int .i64 T.src, .int .i64 T.port, .int .i64 T.at_]
  have LL := (Below.refl w2.heap.size w2).alloc (Nat.le_refl _) (.cells #[.int .i64 T.root.one, .int .i64 T.root.cls, .int .i64 T.root.two, .int .i64 T.root.id, .int .i64 T.steps, .int .i64 T.src, .int .i64 T.port, .int .i64 T.at_] 31)
  have own3 := own31.alloc (.cells #[.int .i64 T.root.one, .int .i64 T.root.cls, .int .i64 T.root.two, .int .i64 T.root.id, .int .i64 T.steps, .int .i64 T.src, .int .i64 T.port, .int .i64 T.at_] 31)
  have ti3 := ti2.kept LL
  have tp3 := tp2.kept LL
  have st3 := st2.kept LL
  have wn3 := wn2.alloc (.cells #[.int .i64 T.root.one, .int .i64 T.root.cls, .int .i64 T.root.two, .int .i64 T.root.id, .int .i64 T.steps, .int .i64 T.src, .int .i64 T.port, .int .i64 T.at_] 31)
  obtain ⟨g30, hg30⟩ : ∃ g30, g30 = w2.heap.size := ⟨_, rfl⟩
  rw [← hg30] at B30 e30
  clear hg30 ti2 tp2 st2 wn2 own31 LL wn
  generalize w2.alloc (.cells #[.int .i64 T.root.one, .int .i64 T.root.cls, .int .i64 T.root.two, .int .i64 T.root.id, .int .i64 T.steps, .int .i64 T.src, .int .i64 T.port, .int .i64 T.at_] 31) = w3 at *
  have z0 := B30.cellOf (v := .int .i64 T.root.one) 0 rfl
  have z1 := B30.cellOf (v := .int .i64 T.root.cls) 1 rfl
  have z2 := B30.cellOf (v := .int .i64 T.root.two) 2 rfl
  have z3 := B30.cellOf (v := .int .i64 T.root.id) 3 rfl
  have z4 := B30.cellOf (v := .int .i64 T.steps) 4 rfl
  have z5 := B30.cellOf (v := .int .i64 T.src) 5 rfl
  have z6 := B30.cellOf (v := .int .i64 T.port) 6 rfl
  have z7 := B30.cellOf (v := .int .i64 T.at_) 7 rfl
  have z9 := tp3.cellOf (v := .int .i64 T.at_) 7 rfl
  have t0 := tp3.cellOf (v := .int .i64 T.root.one) 0 rfl
  have t1 := tp3.cellOf (v := .int .i64 T.root.cls) 1 rfl
  have t2 := tp3.cellOf (v := .int .i64 T.root.two) 2 rfl
  have t3 := tp3.cellOf (v := .int .i64 T.root.id) 3 rfl
  have t4 := tp3.cellOf (v := .int .i64 T.steps) 4 rfl
  have t5 := tp3.cellOf (v := .int .i64 T.src) 5 rfl
  have t6 := tp3.cellOf (v := .int .i64 T.port) 6 rfl
  have y18 := st3.cellOf (v := .int .i64 s.now) 18 rfl
  have l30 := B30.lt
  have l25 := tp3.lt
  have l21 := st3.lt
  obtain ⟨A31, c31, rfl, _, _⟩ := ownsRow_reads own3
  have hneq := row_neq T
  have nN : ((N : Int) != (N : Int)) = false := by simp
  have nb : (decide (T.at_ < 0) != decide (T.at_ < 0)) = false := by simp
  have nb2 : (decide (T.at_ < 0) == decide (T.at_ < 0)) = true := by simp
  refine sm_any [2, 11, 21, 25, 30, 31] 406 39 (by kernel_rfl) hs hd (by kernel_rfl) (agC e2 (agC e11 (agC e21 (agC e25 (agC e30 (agC e31 agN)))))) (by simp only [List.map_cons, List.map_nil, reOper, reOp, reO, reC, reK, Option.map_some, Option.map_none, fS_ite, ix_ite, Nat.reduceLeDiff, Nat.reduceEqDiff, if_true, if_false, ↓reduceIte, List.length_cons, List.length_nil, Nat.reduceAdd, Nat.reduceSub, List.map_toArray]; rfl) (any_class (fun w' => Below w3.heap.size w3 w') (by kernel_rfl) ((Below.refl _ _).drew) ?_)
  simp only [List.replicate_succ, List.replicate_zero, List.cons_append, List.nil_append, List.drop_succ_cons, List.drop_zero, List.take_succ_cons, List.take_zero]
  repeat (first | (with_reducible (refine wpQuiet_skip ?_ ?_); (first | exact wanted_off rfl rfl rfl rfl | exact wanted_off2 rfl rfl rfl); simp only [Act.put, List.setIfInBounds_toArray, List.set_cons_zero, List.set_cons_succ]) | (with_reducible (refine wpQuiet_val (v := ?_) ?_ ?_ ?_); rotate_left; (first | exact wanted_none rfl | exact wanted_on rfl rfl rfl); (intro w' hw'; obtain ⟨hc, hf⟩ := bcell hw'; go_simp; with_reducible rfl); simp only [Act.put, List.setIfInBounds_toArray, List.set_cons_zero, List.set_cons_succ]) | (with_reducible (refine wpQuiet_call (v := ?_) 12 ?_ ?_ ?_ ?_ ?_); rotate_left 2; (first | exact wanted_none rfl | exact wanted_on rfl rfl rfl); (intro w' hw'; obtain ⟨hc, hf⟩ := bcell hw'; go_simp; with_reducible rfl); (intro w' hw'; (with_reducible refine (HRo.out _ (ti3.tat.kept hw')).mono ?_); rintro e w2 ⟨rfl, hb⟩; refine ⟨?_, hw'.trans (hb.mono (by have h0 := hw'.size; first | omega | (simp at h0; omega)))⟩; with_reducible rfl); simp only [Act.put, List.setIfInBounds_toArray, List.set_cons_zero, List.set_cons_succ]))
  refine wpQuiet_nil ?_
  intro w4 hw4
  intro a H
  replace hs := H.size.trans hs
  replace hd : a.defers = [] := H.defers
  replace e0 : a.tmps[0]? = some _ := H.keep e0 rfl
  replace e2 : a.tmps[2]? = some _ := H.got rfl rfl
  replace e3 : a.tmps[3]? = some _ := H.keep e3 rfl
  replace e4 : a.tmps[4]? = some _ := H.keep e4 rfl
  replace e6 : a.tmps[6]? = some _ := H.keep e6 rfl
  replace e11 : a.tmps[11]? = some _ := H.got rfl rfl
  replace e18 : a.tmps[18]? = some _ := H.keep e18 rfl
  replace e19 : a.tmps[19]? = some _ := H.keep e19 rfl
  replace e20 : a.tmps[20]? = some _ := H.keep e20 rfl
  replace e26 : a.tmps[26]? = some _ := H.keep e26 rfl
  replace e31 : a.tmps[31]? = some _ := H.got rfl rfl
  clear e21
  clear e25
  clear e30
  have e444 : a.tmps[444]? = some _ := H.got rfl rfl
  clear H
  refine hKq3 _ _ ?_
  clear hKq3 Kq3
  have ti4 := ti3.kept hw4
  have own4 := ownsRow_below own3 hw4 (fun k hk => (ownsRow_lt own3 k hk).2)
  have wn4 := ownsRow_below wn3 hw4 (fun k hk => (ownsRow_lt wn3 k hk).2)
  have HX := Lib.hid (And.intro ti4 (And.intro own4 wn4))
  obtain ⟨A26, c26, rfl, _, _⟩ := ownsRow_reads wn4
  clear ti3 own3 wn3 hw4 B30 tp3 st3 z0 z1 z2 z3 z4 z5 z6 z7 z9 t0 t1 t2 t3 t4 t5 t6 y18 l30 l25 l21 hneq nN nb nb2 ti4 own4 wn4 HRo
  refine wp_cond_false (slotE e444) ?_
  clear e444
  refine wp_skip ?_
  refine hKq2 _ _ ?_
  clear hKq2 Kq2
  refine wp_seq_k fun Kq4 hKq4 => ?_
  refine sm_list [26] 445 3 hs hd (by kernel_rfl) (agC e26 agN) (by simp only [List.map_cons, List.map_nil, reOper, reOp, reO, reC, reK, Option.map_some, Option.map_none, fS_ite, ix_ite, Nat.reduceLeDiff, Nat.reduceEqDiff, if_true, if_false, ↓reduceIte, List.length_cons, List.length_nil, Nat.reduceAdd, Nat.reduceSub, List.map_toArray]; rfl) ?_
  simp only [List.replicate_succ, List.replicate_zero, List.cons_append, List.nil_append, List.drop_succ_cons, List.drop_zero, List.take_succ_cons, List.take_zero]
  go_wp2_with fail
  intro a H
  replace hs := H.size.trans hs
  replace hd : a.defers = [] := H.defers
  replace e0 : a.tmps[0]? = some _ := H.keep e0 rfl
  replace e2 : a.tmps[2]? = some _ := H.keep e2 rfl
  replace e3 : a.tmps[3]? = some _ := H.keep e3 rfl
  replace e4 : a.tmps[4]? = some _ := H.keep e4 rfl
  replace e6 : a.tmps[6]? = some _ := H.keep e6 rfl
  replace e11 : a.tmps[11]? = some _ := H.keep e11 rfl
  replace e18 : a.tmps[18]? = some _ := H.keep e18 rfl
  replace e19 : a.tmps[19]? = some _ := H.keep e19 rfl
  replace e20 : a.tmps[20]? = some _ := H.keep e20 rfl
  replace e26 : a.tmps[26]? = some _ := H.got rfl rfl
  replace e31 : a.tmps[31]? = some _ := H.keep e31 rfl
  have e446 : a.tmps[446]? = some _ := H.got rfl rfl
  have e447 : a.tmps[447]? = some _ := H.got rfl rfl
  clear H
  refine hKq4 _ _ ?_
  clear hKq4 Kq4
  refine wp_block ?_
  refine wp_loop (fun a w' => ∃ j : Nat, j ≤ N ∧ a.tmps.size = 593 ∧ a.defers = [] ∧ a.tmps[0]? = some (.int .i64 dom) ∧ a.tmps[2]? = some (.int .i64 (N : Int)) ∧ a.tmps[3]? = some (.int .i64 most) ∧ a.tmps[4]? = some (.slice A n c) ∧ a.tmps[6]? = some (.pointer (some ⟨g6, 0, none⟩)) ∧ a.tmps[11]? = some (.pointer (some ⟨b.g, 0, none⟩)) ∧ a.tmps[18]? = some (.slice (some ⟨gk, 0, none⟩) N N) ∧ a.tmps[19]? = some (.pointer (some ⟨gm, 0, none⟩)) ∧ a.tmps[20]? = some (.int .i64 (i : Int)) ∧ a.tmps[26]? = some (.slice A26 N c26) ∧ a.tmps[31]? = some (.slice A31 N c31) ∧ a.tmps[446]? = some (.int .i64 (N : Int)) ∧ a.tmps[447]? = some (.int .i64 (j : Int)) ∧ Below w4.heap.size w4 w') (fun a _ => N - (intOf (a.tmps.getD 447 undef)).toNat) ?_ ?_
  · exact ⟨0, Nat.zero_le _, hs, hd, e0, e2, e3, e4, e6, e11, e18, e19, e20, e26, e31, e446, e447, Below.refl _ _⟩
  clear hs hd e0 e2 e3 e4 e6 e11 e18 e19 e20 e26 e31 e446 e447 a
  rintro a w5 ⟨j, hj, hs, hd, e0, e2, e3, e4, e6, e11, e18, e19, e20, e26, e31, e446, e447, hb⟩
  have hm := slot e447
  refine wp_seq_k fun Kq5 hKq5 => ?_
  by_cases hlt3 : j < N
  ·
    have dj : decide ((j : Int) < (N : Int)) = true := decide_eq_true (by omega)
    have hN8 : (N : Int) ≤ 8 := by omega
    have hj0 : (0 : Int) ≤ (j : Int) := by omega
    have hj1 : (j : Int) < (N : Int) := by omega
    have O5 := ownsRow_below HX.out.2.1 hb (fun k hk => (ownsRow_lt HX.out.2.1 k hk).2)
    have W5 := ownsRow_below HX.out.2.2 hb (fun k hk => (ownsRow_lt HX.out.2.2 k hk).2)
    obtain ⟨ga, ca, ua, hva, _, la, hxa, za⟩ := own_cell O5 hlt3
    obtain ⟨gb, cb, ub, hvb, _, lb, hxb, zb⟩ := own_cell W5 hlt3
    obtain rfl : ub = ua := Option.some.inj (hxb.symm.trans hxa)
    injection hva with hva _ _
    injection hvb with hvb _ _
    subst hva
    subst hvb
    obtain ⟨x, hx⟩ : ∃ x : Int, ub = .int .i64 x := by
      rw [List.getElem?_map] at hxa
      cases hq : rl[j]? with
      | none => rw [hq] at hxa; cases hxa
      | some x => rw [hq] at hxa; injection hxa with hxa; exact ⟨x, hxa.symm⟩
    subst hx
    have nx : (x != x) = false := by simp
    clear hxa hxb O5 W5
    refine sm_list [446, 447] 448 1 hs hd (by kernel_rfl) (agC e446 (agC e447 agN)) (by simp only [List.map_cons, List.map_nil, reOper, reOp, reO, reC, reK, Option.map_some, Option.map_none, fS_ite, ix_ite, Nat.reduceLeDiff, Nat.reduceEqDiff, if_true, if_false, ↓reduceIte, List.length_cons, List.length_nil, Nat.reduceAdd, Nat.reduceSub, List.map_toArray]; rfl) ?_
    simp only [List.replicate_succ, List.replicate_zero, List.cons_append, List.nil_append, List.drop_succ_cons, List.drop_zero, List.take_succ_cons, List.take_zero]
    go_wp2_with fail
    intro a H
    replace hs := H.size.trans hs
    replace hd : a.defers = [] := H.defers
    replace e0 : a.tmps[0]? = some _ := H.keep e0 rfl
    replace e2 : a.tmps[2]? = some _ := H.keep e2 rfl
    replace e3 : a.tmps[3]? = some _ := H.keep e3 rfl
    replace e4 : a.tmps[4]? = some _ := H.keep e4 rfl
    replace e6 : a.tmps[6]? = some _ := H.keep e6 rfl
    replace e11 : a.tmps[11]? = some _ := H.keep e11 rfl
    replace e18 : a.tmps[18]? = some _ := H.keep e18 rfl
    replace e19 : a.tmps[19]? = some _ := H.keep e19 rfl
    replace e20 : a.tmps[20]? = some _ := H.keep e20 rfl
    replace e26 : a.tmps[26]? = some _ := H.keep e26 rfl
    replace e31 : a.tmps[31]? = some _ := H.keep e31 rfl
    replace e446 : a.tmps[446]? = some _ := H.got rfl rfl
    replace e447 : a.tmps[447]? = some _ := H.got rfl rfl
    have e448 : a.tmps[448]? = some _ := H.got rfl rfl
    clear H
    refine hKq5 _ _ ?_
    clear hKq5 Kq5
    refine wp_seq_k fun Kq6 hKq6 => ?_
    refine wp_cond_true (slotE e448) ?_
    clear e448
    refine wp_skip ?_
    refine hKq6 _ _ ?_
    clear hKq6 Kq6
    refine wp_seq_k fun Kq7 hKq7 => ?_
    refine wp_block ?_
    refine wp_seq_k fun Kq8 hKq8 => ?_
    refine sm_list [32, 447] 449 1 hs hd (by kernel_rfl) (agU (agC e447 agN)) (by simp only [List.map_cons, List.map_nil, reOper, reOp, reO, reC, reK, Option.map_some, Option.map_none, fS_ite, ix_ite, Nat.reduceLeDiff, Nat.reduceEqDiff, if_true, if_false, ↓reduceIte, List.length_cons, List.length_nil, Nat.reduceAdd, Nat.reduceSub, List.map_toArray]; rfl) ?_
    simp only [List.replicate_succ, List.replicate_zero, List.cons_append, List.nil_append, List.drop_succ_cons, List.drop_zero, List.take_succ_cons, List.take_zero]
    go_wp2_with fail
    intro a H
    replace hs := H.size.trans hs
    replace hd : a.defers = [] := H.defers
    replace e0 : a.tmps[0]? = some _ := H.keep e0 rfl
    replace e2 : a.tmps[2]? = some _ := H.keep e2 rfl
    replace e3 : a.tmps[3]? = some _ := H.keep e3 rfl
    replace e4 : a.tmps[4]? = some _ := H.keep e4 rfl
    replace e6 : a.tmps[6]? = some _ := H.keep e6 rfl
    replace e11 : a.tmps[11]? = some _ := H.keep e11 rfl
    replace e18 : a.tmps[18]? = some _ := H.keep e18 rfl
    replace e19 : a.tmps[19]? = some _ := H.keep e19 rfl
    replace e20 : a.tmps[20]? = some _ := H.keep e20 rfl
    replace e26 : a.tmps[26]? = some _ := H.keep e26 rfl
    replace e31 : a.tmps[31]? = some _ := H.keep e31 rfl
    replace e446 : a.tmps[446]? = some _ := H.keep e446 rfl
    replace e447 : a.tmps[447]? = some _ := H.got rfl rfl
    have e32 : a.tmps[32]? = some _ := H.got rfl rfl
    clear H
    refine hKq8 _ _ ?_
    clear hKq8 Kq8
    refine wp_seq_k fun Kq9 hKq9 => ?_
    refine sm_any [26, 31, 32] 450 9 (by kernel_rfl) hs hd (by kernel_rfl) (agC e26 (agC e31 (agC e32 agN))) (by simp only [List.map_cons, List.map_nil, reOper, reOp, reO, reC, reK, Option.map_some, Option.map_none, fS_ite, ix_ite, Nat.reduceLeDiff, Nat.reduceEqDiff, if_true, if_false, ↓reduceIte, List.length_cons, List.length_nil, Nat.reduceAdd, Nat.reduceSub, List.map_toArray]; rfl) (any_class (fun w' => Below w5.heap.size w5 w') (by kernel_rfl) ((Below.refl _ _).drew) ?_)
    simp only [List.replicate_succ, List.replicate_zero, List.cons_append, List.nil_append, List.drop_succ_cons, List.drop_zero, List.take_succ_cons, List.take_zero]
    repeat (first | (with_reducible (refine wpQuiet_skip ?_ ?_); (first | exact wanted_off rfl rfl rfl rfl | exact wanted_off2 rfl rfl rfl); simp only [Act.put, List.setIfInBounds_toArray, List.set_cons_zero, List.set_cons_succ]) | (with_reducible (refine wpQuiet_val (v := ?_) ?_ ?_ ?_); rotate_left; (first | exact wanted_none rfl | exact wanted_on rfl rfl rfl); (intro w' hw'; obtain ⟨hc, hf⟩ := bcell hw'; go_simp; with_reducible rfl); simp only [Act.put, List.setIfInBounds_toArray, List.set_cons_zero, List.set_cons_succ]))
    refine wpQuiet_nil ?_
    intro w6 hw6
    intro a H
    replace hs := H.size.trans hs
    replace hd : a.defers = [] := H.defers
    replace e0 : a.tmps[0]? = some _ := H.keep e0 rfl
    replace e2 : a.tmps[2]? = some _ := H.keep e2 rfl
    replace e3 : a.tmps[3]? = some _ := H.keep e3 rfl
    replace e4 : a.tmps[4]? = some _ := H.keep e4 rfl
    replace e6 : a.tmps[6]? = some _ := H.keep e6 rfl
    replace e11 : a.tmps[11]? = some _ := H.keep e11 rfl
    replace e18 : a.tmps[18]? = some _ := H.keep e18 rfl
    replace e19 : a.tmps[19]? = some _ := H.keep e19 rfl
    replace e20 : a.tmps[20]? = some _ := H.keep e20 rfl
    replace e26 : a.tmps[26]? = some _ := H.got rfl rfl
    replace e31 : a.tmps[31]? = some _ := H.got rfl rfl
    replace e446 : a.tmps[446]? = some _ := H.keep e446 rfl
    replace e447 : a.tmps[447]? = some _ := H.keep e447 rfl
    clear e32
    have e458 : a.tmps[458]? = some _ := H.got rfl rfl
    clear H
    refine hKq9 _ _ ?_
    clear hKq9 Kq9
    have L6 := hb.trans (hw6.mono hb.size)
    clear za zb la lb hb hw6 nx
    refine wp_cond_false (slotE e458) ?_
    clear e458
    refine wp_skip ?_
    refine hKq7 _ _ ?_
    clear hKq7 Kq7
    refine sm_list [447] 459 1 hs hd (by kernel_rfl) (agC e447 agN) (by simp only [List.map_cons, List.map_nil, reOper, reOp, reO, reC, reK, Option.map_some, Option.map_none, fS_ite, ix_ite, Nat.reduceLeDiff, Nat.reduceEqDiff, if_true, if_false, ↓reduceIte, List.length_cons, List.length_nil, Nat.reduceAdd, Nat.reduceSub, List.map_toArray]; rfl) ?_
    simp only [List.replicate_succ, List.replicate_zero, List.cons_append, List.nil_append, List.drop_succ_cons, List.drop_zero, List.take_succ_cons, List.take_zero]
    go_wp2_with fail
    intro a H
    replace hs := H.size.trans hs
    replace hd : a.defers = [] := H.defers
    replace e0 : a.tmps[0]? = some _ := H.keep e0 rfl
    replace e2 : a.tmps[2]? = some _ := H.keep e2 rfl
    replace e3 : a.tmps[3]? = some _ := H.keep e3 rfl
    replace e4 : a.tmps[4]? = some _ := H.keep e4 rfl
    replace e6 : a.tmps[6]? = some _ := H.keep e6 rfl
    replace e11 : a.tmps[11]? = some _ := H.keep e11 rfl
    replace e18 : a.tmps[18]? = some _ := H.keep e18 rfl
    replace e19 : a.tmps[19]? = some _ := H.keep e19 rfl
    replace e20 : a.tmps[20]? = some _ := H.keep e20 rfl
    replace e26 : a.tmps[26]? = some _ := H.keep e26 rfl
    replace e31 : a.tmps[31]? = some _ := H.keep e31 rfl
    replace e446 : a.tmps[446]? = some _ := H.keep e446 rfl
    replace e447 : a.tmps[447]? = some _ := H.got rfl rfl
    clear H
    refine ⟨⟨j + 1, by omega, hs, hd, e0, e2, e3, e4, e6, e11, e18, e19, e20, e26, e31, e446, e447, L6⟩, ?_⟩
    simp only [hm, slot e447, intOf]
    omega
  · obtain rfl : j = N := by omega
    have dj : decide ((j : Int) < (j : Int)) = false := decide_eq_false (by omega)
    clear hlt3 hm
    refine sm_list [446, 447] 448 1 hs hd (by kernel_rfl) (agC e446 (agC e447 agN)) (by simp only [List.map_cons, List.map_nil, reOper, reOp, reO, reC, reK, Option.map_some, Option.map_none, fS_ite, ix_ite, Nat.reduceLeDiff, Nat.reduceEqDiff, if_true, if_false, ↓reduceIte, List.length_cons, List.length_nil, Nat.reduceAdd, Nat.reduceSub, List.map_toArray]; rfl) ?_
    simp only [List.replicate_succ, List.replicate_zero, List.cons_append, List.nil_append, List.drop_succ_cons, List.drop_zero, List.take_succ_cons, List.take_zero]
    go_wp2_with fail
    intro a H
    replace hs := H.size.trans hs
    replace hd : a.defers = [] := H.defers
    replace e0 : a.tmps[0]? = some _ := H.keep e0 rfl
    replace e2 : a.tmps[2]? = some _ := H.keep e2 rfl
    replace e3 : a.tmps[3]? = some _ := H.keep e3 rfl
    replace e4 : a.tmps[4]? = some _ := H.keep e4 rfl
    replace e6 : a.tmps[6]? = some _ := H.keep e6 rfl
    replace e11 : a.tmps[11]? = some _ := H.keep e11 rfl
    replace e18 : a.tmps[18]? = some _ := H.keep e18 rfl
    replace e19 : a.tmps[19]? = some _ := H.keep e19 rfl
    replace e20 : a.tmps[20]? = some _ := H.keep e20 rfl
    replace e26 : a.tmps[26]? = some _ := H.keep e26 rfl
    replace e31 : a.tmps[31]? = some _ := H.keep e31 rfl
    replace e446 : a.tmps[446]? = some _ := H.got rfl rfl
    replace e447 : a.tmps[447]? = some _ := H.got rfl rfl
    have e448 : a.tmps[448]? = some _ := H.got rfl rfl
    clear H
    refine hKq5 _ _ ?_
    clear hKq5 Kq5
    refine wp_seq_k fun Kq6 hKq6 => ?_
    refine wp_cond_false (slotE e448) ?_
    clear e448
    refine wp_exit ?_
    refine exit_then rfl ?_
    clear hKq6 Kq6
    refine exit_then rfl ?_
    refine exit_hit ?_
    exact HEND.out a _ _ _ _ hs hd e0 e2 e3 e4 e6 e11 e18 e19 e20 (HX.out.1.kept hb) HOK.out
end Go.Proofs.Ytcdgofndfajekaa
