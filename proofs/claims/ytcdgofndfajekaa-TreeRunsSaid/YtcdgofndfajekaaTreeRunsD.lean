/-
  TreeRuns: a link comes and goes.
-/
import Derived.Test.YtcdgofndfajekaaTreeS
namespace Go.Proofs.Ytcdgofndfajekaa
set_option linter.unusedSimpArgs false
set_option linter.unusedVariables false
open Go.RowKit Go.WideShapes Go.ChangeShapes
attribute [local go_sem ↓] Go.wp_at_zero Go.wp_at_succ

set_option maxRecDepth 100000 in
set_option maxHeartbeats 4000000 in
theorem tr_up (dom most : Int) (own : Pr) (b : Bks) (g6 gm gk N : Nat) (A : Option Addr) (n c i : Nat) (g21 g25 gx : Nat) (s : S20) (v26 : Value) (rl : List Int) (t : Tre) (ps qs : List Value)  (a : Act) (w0 w : World) (Q : Exit → Act → World → Prop)
    (hs : a.tmps.size = 593) (hd : a.defers = []) (e0 : a.tmps[0]? = some (.int .i64 dom)) (e2 : a.tmps[2]? = some (.int .i64 (N : Int))) (e3 : a.tmps[3]? = some (.int .i64 most)) (e4 : a.tmps[4]? = some (.slice A n c)) (e6 : a.tmps[6]? = some (.pointer (some ⟨g6, 0, none⟩))) (e11 : a.tmps[11]? = some (.pointer (some ⟨b.g, 0, none⟩))) (e18 : a.tmps[18]? = some (.slice (some ⟨gk, 0, none⟩) N N)) (e19 : a.tmps[19]? = some (.pointer (some ⟨gm, 0, none⟩))) (e20 : a.tmps[20]? = some (.int .i64 (i : Int))) (e21 : a.tmps[21]? = some (.pointer (some ⟨g21, 0, none⟩))) (e25 : a.tmps[25]? = some (.pointer (some ⟨g25, 0, none⟩))) (e26 : a.tmps[26]? = some (v26)) (e27 : a.tmps[27]? = some (.bool (decide (0 ≤ s.at_ ∧ s.at_ < (N : Int))))) 
    (R : Rd w0 w b g6 gm gk own t t.es ps qs g21 g25 gx N s v26 (t.top s.now) rl) (hok : TOk own dom most N t) (hmsg : MsgIn w0 w0.heap.size s.m s.A s.n) (hN : N ≤ 8) (hnow : -1125899906842624 ≤ s.now ∧ s.now ≤ 1125899906842624)
    (hend : ∀ (a : Act) (w' : World) (t' : Tre) (ps' qs' : List Value), a.tmps.size = 593 → a.defers = [] → a.tmps[0]? = some (.int .i64 dom) → a.tmps[2]? = some (.int .i64 (N : Int)) → a.tmps[3]? = some (.int .i64 most) → a.tmps[4]? = some (.slice A n c) → a.tmps[6]? = some (.pointer (some ⟨g6, 0, none⟩)) → a.tmps[11]? = some (.pointer (some ⟨b.g, 0, none⟩)) → a.tmps[18]? = some (.slice (some ⟨gk, 0, none⟩) N N) → a.tmps[19]? = some (.pointer (some ⟨gm, 0, none⟩)) → a.tmps[20]? = some (.int .i64 (i : Int)) → TI w0 w' b g6 gm gk own t' t'.es ps' qs' → TOk own dom most N t' → Q .normal a w') :
    Code.wp Try.prog (sub [true, true, true, true, true, true, true, true, false, true, false, false, true, false, false, true, true, true, true, true, true, true, false, true, true, true, false] (bodyOf Try.f3)) Q a w := by
  conv => arg 2; whnf
  have HEND := Lib.hid hend
  have HOK := Lib.hid hok
  have HM := Lib.hid hmsg
  clear hend hok hmsg
  refine wp_seq_k fun Kq1 hKq1 => ?_
  clear e25
  clear e26
  have y1 := R.st.cellOf (v := .int .i64 s.at_) 1 rfl
  have y19 := R.st.cellOf (v := .bool s.on) 19 rfl
  have HI := Lib.hid (up_anyN b t ps s.at_ s.on w R.ti.tat)
  refine sm_list [11, 21] 366 6 hs hd (by kernel_rfl) (agC e11 (agC e21 agN)) (by simp only [List.map_cons, List.map_nil, reOper, reOp, reO, reC, reK, Option.map_some, Option.map_none, fS_ite, ix_ite, Nat.reduceLeDiff, Nat.reduceEqDiff, if_true, if_false, ↓reduceIte, List.length_cons, List.length_nil, Nat.reduceAdd, Nat.reduceSub, List.map_toArray]; rfl) ?_
  simp only [List.replicate_succ, List.replicate_zero, List.cons_append, List.nil_append, List.drop_succ_cons, List.drop_zero, List.take_succ_cons, List.take_zero]
  go_wp2_with fail
  refine HI.out.mono ?_
  rintro e w2 ⟨rfl, ⟨ps2, T2, N2⟩, F2⟩
  go_wp2_with fail
  intro a H
  replace hs := H.size.trans hs
  replace hd : a.defers = [] := H.defers
  replace e0 : a.tmps[0]? = some _ := H.keep e0 rfl
  replace e2 : a.tmps[2]? = some _ := H.keep e2 rfl
  replace e3 : a.tmps[3]? = some _ := H.keep e3 rfl
  replace e4 : a.tmps[4]? = some _ := H.keep e4 rfl
  replace e6 : a.tmps[6]? = some _ := H.keep e6 rfl
  replace e11 : a.tmps[11]? = some _ := H.got rfl rfl
  replace e18 : a.tmps[18]? = some _ := H.keep e18 rfl
  replace e19 : a.tmps[19]? = some _ := H.keep e19 rfl
  replace e20 : a.tmps[20]? = some _ := H.keep e20 rfl
  replace e21 : a.tmps[21]? = some _ := H.got rfl rfl
  replace e27 : a.tmps[27]? = some _ := H.keep e27 rfl
  clear H
  refine hKq1 _ _ ?_
  clear hKq1 Kq1
  refine wp_seq_k fun Kq2 hKq2 => ?_
  have TI2 := R.ti.tree T2 N2 F2
  have S2 : Blk w2 g21 48 (s20c s) := F2.blk R.st (fun x => R.ap.1 (turn_all x))
  have HAP := Lib.hid R.ap
  clear R T2 N2 F2 HI y1 y19
  have y1 := S2.cellOf (v := .int .i64 s.at_) 1 rfl
  have y19 := S2.cellOf (v := .bool s.on) 19 rfl
  by_cases hth : 0 ≤ s.at_ ∧ s.at_ < (N : Int)
  rotate_left
  · have hid : t.upI s.at_ s.on = t := by
            unfold Tre.upI; split
            · rfl
            · unfold Tre.up; rw [List.getElem?_eq_none (by rw [HOK.out.len]; omega)]
    rw [hid] at TI2
    rw [decide_eq_false hth] at e27
    clear hth hid
    have l21 := S2.lt
    have l18 := TI2.ks.box.lt
    refine sm_any [18, 21, 27] 372 12 (by kernel_rfl) hs hd (by kernel_rfl) (agC e18 (agC e21 (agC e27 agN))) (by simp only [List.map_cons, List.map_nil, reOper, reOp, reO, reC, reK, Option.map_some, Option.map_none, fS_ite, ix_ite, Nat.reduceLeDiff, Nat.reduceEqDiff, if_true, if_false, ↓reduceIte, List.length_cons, List.length_nil, Nat.reduceAdd, Nat.reduceSub, List.map_toArray]; rfl) (any_class (fun w' => Below w2.heap.size w2 w') (by kernel_rfl) ((Below.refl _ _).drew) ?_)
    simp only [List.replicate_succ, List.replicate_zero, List.cons_append, List.nil_append, List.drop_succ_cons, List.drop_zero, List.take_succ_cons, List.take_zero]
    repeat (first | (with_reducible (refine wpQuiet_skip ?_ ?_); (first | exact wanted_off rfl rfl rfl rfl | exact wanted_off2 rfl rfl rfl); simp only [Act.put, List.setIfInBounds_toArray, List.set_cons_zero, List.set_cons_succ]) | (with_reducible (refine wpQuiet_val (v := ?_) ?_ ?_ ?_); rotate_left; (first | exact wanted_none rfl | exact wanted_on rfl rfl rfl); (intro w' hw'; obtain ⟨hc, hf⟩ := bcell hw'; go_simp; with_reducible rfl); simp only [Act.put, List.setIfInBounds_toArray, List.set_cons_zero, List.set_cons_succ]))
    refine wpQuiet_nil ?_
    intro w4 hw4
    intro a H
    replace hs := H.size.trans hs
    replace hd : a.defers = [] := H.defers
    replace e0 : a.tmps[0]? = some _ := H.keep e0 rfl
    replace e2 : a.tmps[2]? = some _ := H.keep e2 rfl
    replace e3 : a.tmps[3]? = some _ := H.keep e3 rfl
    replace e4 : a.tmps[4]? = some _ := H.keep e4 rfl
    replace e6 : a.tmps[6]? = some _ := H.keep e6 rfl
    replace e11 : a.tmps[11]? = some _ := H.keep e11 rfl
    replace e18 : a.tmps[18]? = some _ := H.got rfl rfl
    replace e19 : a.tmps[19]? = some _ := H.keep e19 rfl
    replace e20 : a.tmps[20]? = some _ := H.keep e20 rfl
    replace e21 : a.tmps[21]? = some _ := H.got rfl rfl
    replace e27 : a.tmps[27]? = some _ := H.got rfl rfl
    have e383 : a.tmps[383]? = some _ := H.got rfl rfl
    clear H
    refine hKq2 _ _ ?_
    clear hKq2 Kq2
    have T4 := TI2.kept hw4
    refine wp_cond_false (slotE e383) ?_
    clear e383
    refine wp_skip ?_
    exact HEND.out a _ _ _ _ hs hd e0 e2 e3 e4 e6 e11 e18 e19 e20 T4 HOK.out
  rw [decide_eq_true hth] at e27
  obtain ⟨k, hk⟩ : ∃ k : Nat, s.at_ = (k : Int) := ⟨s.at_.toNat, by omega⟩
  have hkN : k < N := by omega
  obtain ⟨e, he⟩ : ∃ e, t.es[k]? = some e := ⟨_, List.getElem?_eq_getElem (by rw [HOK.out.len]; exact hkN)⟩
  obtain ⟨A5, c5, hq, hc5, hp5⟩ := TI2.ks.pth k e he
  rw [hk] at y1
  have hk0 : (0 : Int) ≤ (k : Int) := by omega
  have hk1 : (k : Int) < (N : Int) := by omega
  have HE := Lib.hid he
  have HQ := Lib.hid hq
  have HK := Lib.hid hk
  have q0 := TI2.ks.box.cellOf (v := .bool e.up) (k * 12) (by have := kcells_at he hq (r := 0) (by omega); rw [Nat.add_zero] at this; rw [List.getElem?_toArray, this]; rfl)
  clear he hq hk hth hp5
  have l21 := S2.lt
  have l18 := TI2.ks.box.lt
  by_cases hu : e.up = s.on
  · have hid : t.upI s.at_ s.on = t := by
            rw [HK.out]; unfold Tre.upI; rw [if_neg (by omega), Int.toNat_natCast]; unfold Tre.up; rw [HE.out]; exact if_pos hu
    rw [hid] at TI2
    have d1 : (e.up == s.on) = true := by rw [hu]; simp
    clear hu hid
    refine sm_any [18, 21, 27] 372 12 (by kernel_rfl) hs hd (by kernel_rfl) (agC e18 (agC e21 (agC e27 agN))) (by simp only [List.map_cons, List.map_nil, reOper, reOp, reO, reC, reK, Option.map_some, Option.map_none, fS_ite, ix_ite, Nat.reduceLeDiff, Nat.reduceEqDiff, if_true, if_false, ↓reduceIte, List.length_cons, List.length_nil, Nat.reduceAdd, Nat.reduceSub, List.map_toArray]; rfl) (any_class (fun w' => Below w2.heap.size w2 w') (by kernel_rfl) ((Below.refl _ _).drew) ?_)
    simp only [List.replicate_succ, List.replicate_zero, List.cons_append, List.nil_append, List.drop_succ_cons, List.drop_zero, List.take_succ_cons, List.take_zero]
    repeat (first | (with_reducible (refine wpQuiet_skip ?_ ?_); (first | exact wanted_off rfl rfl rfl rfl | exact wanted_off2 rfl rfl rfl); simp only [Act.put, List.setIfInBounds_toArray, List.set_cons_zero, List.set_cons_succ]) | (with_reducible (refine wpQuiet_val (v := ?_) ?_ ?_ ?_); rotate_left; (first | exact wanted_none rfl | exact wanted_on rfl rfl rfl); (intro w' hw'; obtain ⟨hc, hf⟩ := bcell hw'; go_simp; with_reducible rfl); simp only [Act.put, List.setIfInBounds_toArray, List.set_cons_zero, List.set_cons_succ]))
    refine wpQuiet_nil ?_
    intro w4 hw4
    intro a H
    replace hs := H.size.trans hs
    replace hd : a.defers = [] := H.defers
    replace e0 : a.tmps[0]? = some _ := H.keep e0 rfl
    replace e2 : a.tmps[2]? = some _ := H.keep e2 rfl
    replace e3 : a.tmps[3]? = some _ := H.keep e3 rfl
    replace e4 : a.tmps[4]? = some _ := H.keep e4 rfl
    replace e6 : a.tmps[6]? = some _ := H.keep e6 rfl
    replace e11 : a.tmps[11]? = some _ := H.keep e11 rfl
    replace e18 : a.tmps[18]? = some _ := H.got rfl rfl
    replace e19 : a.tmps[19]? = some _ := H.keep e19 rfl
    replace e20 : a.tmps[20]? = some _ := H.keep e20 rfl
    replace e21 : a.tmps[21]? = some _ := H.got rfl rfl
    replace e27 : a.tmps[27]? = some _ := H.got rfl rfl
    have e383 : a.tmps[383]? = some _ := H.got rfl rfl
    clear H
    refine hKq2 _ _ ?_
    clear hKq2 Kq2
    have T4 := TI2.kept hw4
    refine wp_cond_false (slotE e383) ?_
    clear e383
    refine wp_skip ?_
    exact HEND.out a _ _ _ _ hs hd e0 e2 e3 e4 e6 e11 e18 e19 e20 T4 HOK.out
  have d1 : (e.up == s.on) = false := by simpa using hu
  refine sm_any [18, 21, 27] 372 12 (by kernel_rfl) hs hd (by kernel_rfl) (agC e18 (agC e21 (agC e27 agN))) (by simp only [List.map_cons, List.map_nil, reOper, reOp, reO, reC, reK, Option.map_some, Option.map_none, fS_ite, ix_ite, Nat.reduceLeDiff, Nat.reduceEqDiff, if_true, if_false, ↓reduceIte, List.length_cons, List.length_nil, Nat.reduceAdd, Nat.reduceSub, List.map_toArray]; rfl) (any_class (fun w' => Below w2.heap.size w2 w') (by kernel_rfl) ((Below.refl _ _).drew) ?_)
  simp only [List.replicate_succ, List.replicate_zero, List.cons_append, List.nil_append, List.drop_succ_cons, List.drop_zero, List.take_succ_cons, List.take_zero]
  repeat (first | (with_reducible (refine wpQuiet_skip ?_ ?_); (first | exact wanted_off rfl rfl rfl rfl | exact wanted_off2 rfl rfl rfl); simp only [Act.put, List.setIfInBounds_toArray, List.set_cons_zero, List.set_cons_succ]) | (with_reducible (refine wpQuiet_val (v := ?_) ?_ ?_ ?_); rotate_left; (first | exact wanted_none rfl | exact wanted_on rfl rfl rfl); (intro w' hw'; obtain ⟨hc, hf⟩ := bcell hw'; go_simp; with_reducible rfl); simp only [Act.put, List.setIfInBounds_toArray, List.set_cons_zero, List.set_cons_succ]))
  refine wpQuiet_nil ?_
  intro w4 hw4
  intro a H
  replace hs := H.size.trans hs
  replace hd : a.defers = [] := H.defers
  replace e0 : a.tmps[0]? = some _ := H.keep e0 rfl
  replace e2 : a.tmps[2]? = some _ := H.keep e2 rfl
  replace e3 : a.tmps[3]? = some _ := H.keep e3 rfl
  replace e4 : a.tmps[4]? = some _ := H.keep e4 rfl
  replace e6 : a.tmps[6]? = some _ := H.keep e6 rfl
  replace e11 : a.tmps[11]? = some _ := H.keep e11 rfl
  replace e18 : a.tmps[18]? = some _ := H.got rfl rfl
  replace e19 : a.tmps[19]? = some _ := H.keep e19 rfl
  replace e20 : a.tmps[20]? = some _ := H.keep e20 rfl
  replace e21 : a.tmps[21]? = some _ := H.got rfl rfl
  replace e27 : a.tmps[27]? = some _ := H.got rfl rfl
  have e383 : a.tmps[383]? = some _ := H.got rfl rfl
  clear H
  refine hKq2 _ _ ?_
  clear hKq2 Kq2
  have T4 := TI2.kept hw4
  have S4 := S2.kept hw4
  clear TI2 S2 hw4 q0 y1 y19 d1 l21 l18
  refine wp_cond_true (slotE e383) ?_
  clear e383
  have hsz : k * 12 + 12 ≤ (kcells t.es qs).toArray.size := by
      rw [List.size_toArray, kcells_len T4.ks.len, HOK.out.len]; omega
  have HSZ := Lib.hid hsz
  have HUN := Lib.hid hu
  clear hsz hu
  have y1 := S4.cellOf (v := .int .i64 s.at_) 1 rfl
  rw [HK.out] at y1
  have y19 := S4.cellOf (v := .bool s.on) 19 rfl
  have q11 := T4.ks.box.cellOf (v := .int .i64 e.at_) (k * 12 + 11) (by rw [List.getElem?_toArray, kcells_at HE.out HQ.out (by omega)]; rfl)
  have l21 := S4.lt
  have l18 := T4.ks.box.lt
  refine sm_any [18, 21] 384 13 (by kernel_rfl) hs hd (by kernel_rfl) (agC e18 (agC e21 agN)) (by simp only [List.map_cons, List.map_nil, reOper, reOp, reO, reC, reK, Option.map_some, Option.map_none, fS_ite, ix_ite, Nat.reduceLeDiff, Nat.reduceEqDiff, if_true, if_false, ↓reduceIte, List.length_cons, List.length_nil, Nat.reduceAdd, Nat.reduceSub, List.map_toArray]; rfl) (any_tail 12 (fun w' => Below w4.heap.size w4 w') (by kernel_rfl) ((Below.refl _ _).drew) ?_)
  simp only [List.replicate_succ, List.replicate_zero, List.cons_append, List.nil_append, List.drop_succ_cons, List.drop_zero, List.take_succ_cons, List.take_zero]
  repeat (first | (with_reducible (refine wpQuiet_skip ?_ ?_); (first | exact wanted_off rfl rfl rfl rfl | exact wanted_off2 rfl rfl rfl); simp only [Act.put, List.setIfInBounds_toArray, List.set_cons_zero, List.set_cons_succ]) | (with_reducible (refine wpQuiet_val (v := ?_) ?_ ?_ ?_); rotate_left; (first | exact wanted_none rfl | exact wanted_on rfl rfl rfl); (intro w' hw'; obtain ⟨hc, hf⟩ := bcell hw'; go_simp; with_reducible rfl); simp only [Act.put, List.setIfInBounds_toArray, List.set_cons_zero, List.set_cons_succ]))
  refine wpQuiet_nil ?_
  intro w5 hw5
  have T5 := T4.kept hw5
  have X5 := T5.ks.box
  have HT5 := Lib.hid T5
  clear T4 S4 hw5 q11 y1 y19 l21 l18 T5
  go_wp2_with (first | (refine wpList_store_part rfl 51 (.tmp 14) (.tmp 13) rfl (off := k * 12) rfl X5 rfl HSZ.out (by kernel_rfl) (by rw [← Array.all_toList]; rfl) ?_; intro w6 X6 z6 gr6) | fail)
  intro a H
  replace hs := H.size.trans hs
  replace hd : a.defers = [] := H.defers
  replace e0 : a.tmps[0]? = some _ := H.keep e0 rfl
  replace e2 : a.tmps[2]? = some _ := H.keep e2 rfl
  replace e3 : a.tmps[3]? = some _ := H.keep e3 rfl
  replace e4 : a.tmps[4]? = some _ := H.keep e4 rfl
  replace e6 : a.tmps[6]? = some _ := H.keep e6 rfl
  replace e11 : a.tmps[11]? = some _ := H.keep e11 rfl
  replace e18 : a.tmps[18]? = some _ := H.got rfl rfl
  replace e19 : a.tmps[19]? = some _ := H.keep e19 rfl
  replace e20 : a.tmps[20]? = some _ := H.keep e20 rfl
  replace e21 : a.tmps[21]? = some _ := H.got rfl rfl
  replace e27 : a.tmps[27]? = some _ := H.keep e27 rfl
  clear H
  have hk2 := kput HE.out HQ.out (e' := ⟨s.on, false, Vc.zero, [], e.at_⟩) (q' := .slice none 0 0) [] (kc e (.slice A5 e.path.length c5)) (kc ⟨s.on, false, Vc.zero, [], e.at_⟩ (.slice none 0 0)) [] (by simp) (by simp) rfl
  rw [show k * 12 + ([] : List Value).length = k * 12 from rfl] at hk2
  replace X6 : Blk w6 gk 51 (kcells (t.es.set k ⟨s.on, false, Vc.zero, [], e.at_⟩) (qs.set k (.slice none 0 0))).toArray := by rw [← hk2]; exact X6
  have F6 := Fr.gr (S := [gk]) gr6 (by simp)
  have K6 := ks_put HT5.out.ks (by rw [HOK.out.len]; exact hkN) ⟨s.on, false, Vc.zero, [], e.at_⟩ none 0 F6 (by simp) X6 (Nat.le_refl _) (Path.nil _ _ _)
  have T6 := HT5.out.list F6 K6
  have hup : t.upI s.at_ s.on = { t with es := t.es.set k ⟨s.on, false, Vc.zero, [], e.at_⟩ } := by
      rw [HK.out]; unfold Tre.upI; rw [if_neg (by omega), Int.toNat_natCast]; unfold Tre.up; rw [HE.out]; exact if_neg HUN.out
  rw [hup] at T6
  have hT := tok_up HOK.out s.at_ s.on
  rw [hup] at hT
  exact HEND.out a _ _ _ _ hs hd e0 e2 e3 e4 e6 e11 e18 e19 e20 T6 hT
end Go.Proofs.Ytcdgofndfajekaa
