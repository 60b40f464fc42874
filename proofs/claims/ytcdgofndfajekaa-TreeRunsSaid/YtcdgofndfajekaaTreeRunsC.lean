/-
  TreeRuns: a message comes in.
-/
import Derived.Test.YtcdgofndfajekaaTreeS
namespace Go.Proofs.Ytcdgofndfajekaa
set_option linter.unusedSimpArgs false
set_option linter.unusedVariables false
open Go.RowKit Go.WideShapes Go.ChangeShapes
attribute [local go_sem ↓] Go.wp_at_zero Go.wp_at_succ

set_option maxRecDepth 100000 in
set_option maxHeartbeats 4000000 in
theorem tr_in (dom most : Int) (own : Pr) (b : Bks) (g6 gm gk N : Nat) (A : Option Addr) (n c i : Nat) (g21 g25 gx : Nat) (s : S20) (v26 : Value) (rl : List Int) (t : Tre) (ps qs : List Value)  (a : Act) (w0 w : World) (Q : Exit → Act → World → Prop)
    (hs : a.tmps.size = 593) (hd : a.defers = []) (e0 : a.tmps[0]? = some (.int .i64 dom)) (e2 : a.tmps[2]? = some (.int .i64 (N : Int))) (e3 : a.tmps[3]? = some (.int .i64 most)) (e4 : a.tmps[4]? = some (.slice A n c)) (e6 : a.tmps[6]? = some (.pointer (some ⟨g6, 0, none⟩))) (e11 : a.tmps[11]? = some (.pointer (some ⟨b.g, 0, none⟩))) (e18 : a.tmps[18]? = some (.slice (some ⟨gk, 0, none⟩) N N)) (e19 : a.tmps[19]? = some (.pointer (some ⟨gm, 0, none⟩))) (e20 : a.tmps[20]? = some (.int .i64 (i : Int))) (e21 : a.tmps[21]? = some (.pointer (some ⟨g21, 0, none⟩))) (e25 : a.tmps[25]? = some (.pointer (some ⟨g25, 0, none⟩))) (e26 : a.tmps[26]? = some (v26)) (e27 : a.tmps[27]? = some (.bool (decide (0 ≤ s.at_ ∧ s.at_ < (N : Int))))) 
    (R : Rd w0 w b g6 gm gk own t t.es ps qs g21 g25 gx N s v26 (t.top s.now) rl) (hok : TOk own dom most N t) (hmsg : MsgIn w0 w0.heap.size s.m s.A s.n) (hN : N ≤ 8) (hnow : -1125899906842624 ≤ s.now ∧ s.now ≤ 1125899906842624)
    (hend : ∀ (a : Act) (w' : World) (t' : Tre) (ps' qs' : List Value), a.tmps.size = 593 → a.defers = [] → a.tmps[0]? = some (.int .i64 dom) → a.tmps[2]? = some (.int .i64 (N : Int)) → a.tmps[3]? = some (.int .i64 most) → a.tmps[4]? = some (.slice A n c) → a.tmps[6]? = some (.pointer (some ⟨g6, 0, none⟩)) → a.tmps[11]? = some (.pointer (some ⟨b.g, 0, none⟩)) → a.tmps[18]? = some (.slice (some ⟨gk, 0, none⟩) N N) → a.tmps[19]? = some (.pointer (some ⟨gm, 0, none⟩)) → a.tmps[20]? = some (.int .i64 (i : Int)) → TI w0 w' b g6 gm gk own t' t'.es ps' qs' → TOk own dom most N t' → Q .normal a w') :
    Code.wp Try.prog (sub [true, true, true, true, true, true, true, true, false, true, false, false, true, false, false, true, true, true, true, true, true, true, false, true, false] (bodyOf Try.f3)) Q a w := by
  conv => arg 2; whnf
  have HEND := Lib.hid hend
  have HOK := Lib.hid hok
  have HM := Lib.hid hmsg
  clear hend hok hmsg
  refine wp_seq_k fun Kq1 hKq1 => ?_
  clear e25
  clear e26
  have y1 := R.st.cellOf (v := .int .i64 s.at_) 1 rfl
  have y18 := R.st.cellOf (v := .int .i64 s.now) 18 rfl
  have hm := msg_at HM.out R.ti.below
  have hp : Path w b.all s.A s.m.path := path_msg HM.out R.ti.below R.ti.old.2.2.2
  have HC := Lib.hid (s20_msg R.st)
  have HI := Lib.hid (in_anyN b t ps s.at_ s.now s.m s.A s.n s.c w R.ti.tat hm hp)
  clear hm hp
  refine sm_list [11, 21, 28] 250 8 hs hd (by kernel_rfl) (agC e11 (agC e21 (agU agN))) (by simp only [List.map_cons, List.map_nil, reOper, reOp, reO, reC, reK, Option.map_some, Option.map_none, fS_ite, ix_ite, Nat.reduceLeDiff, Nat.reduceEqDiff, if_true, if_false, ↓reduceIte, List.length_cons, List.length_nil, Nat.reduceAdd, Nat.reduceSub, List.map_toArray]; rfl) ?_
  simp only [List.replicate_succ, List.replicate_zero, List.cons_append, List.nil_append, List.drop_succ_cons, List.drop_zero, List.take_succ_cons, List.take_zero]
  go_wp2_with (first | (refine wpList_load_any_d rfl 38 (.tmp 6) rfl ⟨g21, 2, none⟩ rfl (mcells s.m s.A s.n s.c) _ HC.out Try.underlying38 rfl (by kernel_rfl) ?_) | fail)
  refine HI.out.mono ?_
  rintro e w2 ⟨rfl, ⟨ps2, T2, N2⟩, F2⟩
  go_wp2_with fail
  intro a H
  replace hs := H.size.trans hs
  replace hd : a.defers = [] := H.defers
  replace e0 : a.tmps[0]? = some _ := H.keep e0 rfl
  replace e2 : a.tmps[2]? = some _ := H.keep e2 rfl
  replace e3 : a.tmps[3]? = some _ := H.keep e3 rfl
  replace e4 : a.tmps[4]? = some _ := H.keep e4 rfl
  replace e6 : a.tmps[6]? = some _ := H.keep e6 rfl
  replace e11 : a.tmps[11]? = some _ := H.got rfl rfl
  replace e18 : a.tmps[18]? = some _ := H.keep e18 rfl
  replace e19 : a.tmps[19]? = some _ := H.keep e19 rfl
  replace e20 : a.tmps[20]? = some _ := H.keep e20 rfl
  replace e21 : a.tmps[21]? = some _ := H.got rfl rfl
  replace e27 : a.tmps[27]? = some _ := H.keep e27 rfl
  have e28 : a.tmps[28]? = some _ := H.got rfl rfl
  clear H
  refine hKq1 _ _ ?_
  clear hKq1 Kq1
  refine wp_seq_k fun Kq2 hKq2 => ?_
  have TI2 := R.ti.tree T2 N2 F2
  have S2 : Blk w2 g21 48 (s20c s) := F2.blk R.st (fun x => R.ap.1 (turn_all x))
  have HAP := Lib.hid R.ap
  clear R T2 N2 F2 HI HC y1 y18
  have HC := Lib.hid (s20_msg S2)
  have M3 := Blk.new w2 38 (mcells s.m s.A s.n s.c)
  have LL := (Below.refl w2.heap.size w2).alloc (Nat.le_refl _) (.cells (mcells s.m s.A s.n s.c) 38)
  have TI3 := TI2.kept LL
  have S3 := S2.kept LL
  clear LL
  refine sm_list [21, 29] 258 2 hs hd (by kernel_rfl) (agC e21 (agU agN)) (by simp only [List.map_cons, List.map_nil, reOper, reOp, reO, reC, reK, Option.map_some, Option.map_none, fS_ite, ix_ite, Nat.reduceLeDiff, Nat.reduceEqDiff, if_true, if_false, ↓reduceIte, List.length_cons, List.length_nil, Nat.reduceAdd, Nat.reduceSub, List.map_toArray]; rfl) ?_
  simp only [List.replicate_succ, List.replicate_zero, List.cons_append, List.nil_append, List.drop_succ_cons, List.drop_zero, List.take_succ_cons, List.take_zero]
  go_wp2_with (first | (refine wpList_load_any_d rfl 38 (.tmp 2) rfl ⟨g21, 2, none⟩ rfl (mcells s.m s.A s.n s.c) _ HC.out Try.underlying38 rfl (by kernel_rfl) ?_) | (refine wpList_store_new rfl 38 (.tmp 1) (.tmp 3) rfl rfl rfl rfl rfl (by kernel_rfl) (by rw [← Array.all_toList]; rfl) ?_) | fail)
  intro a H
  replace hs := H.size.trans hs
  replace hd : a.defers = [] := H.defers
  replace e0 : a.tmps[0]? = some _ := H.keep e0 rfl
  replace e2 : a.tmps[2]? = some _ := H.keep e2 rfl
  replace e3 : a.tmps[3]? = some _ := H.keep e3 rfl
  replace e4 : a.tmps[4]? = some _ := H.keep e4 rfl
  replace e6 : a.tmps[6]? = some _ := H.keep e6 rfl
  replace e11 : a.tmps[11]? = some _ := H.keep e11 rfl
  replace e18 : a.tmps[18]? = some _ := H.keep e18 rfl
  replace e19 : a.tmps[19]? = some _ := H.keep e19 rfl
  replace e20 : a.tmps[20]? = some _ := H.keep e20 rfl
  replace e21 : a.tmps[21]? = some _ := H.got rfl rfl
  replace e27 : a.tmps[27]? = some _ := H.keep e27 rfl
  replace e28 : a.tmps[28]? = some _ := H.keep e28 rfl
  have e29 : a.tmps[29]? = some _ := H.got rfl rfl
  clear H
  refine hKq2 _ _ ?_
  clear hKq2 Kq2
  refine wp_block ?_
  refine wp_seq_k fun Kq3 hKq3 => ?_
  obtain ⟨g29, hg29⟩ : ∃ g29, g29 = w2.heap.size := ⟨_, rfl⟩
  rw [← hg29] at M3 e29
  have HG29 : Hid (gk < g29 ∧ g21 < g29) := Lib.hid (by rw [hg29]; exact ⟨TI2.ks.box.lt, S2.lt⟩)
  clear hg29 TI2 S2 HC
  generalize w2.alloc (.cells (mcells s.m s.A s.n s.c) 38) = w3 at *
  obtain ⟨B, hB⟩ : ∃ B, B = decide (s.m.kind ≠ 11 ∨ checkV s.m ≠ 0 ∨ s.m.domain ≠ dom) := ⟨_, rfl⟩
  have hcase : ((s.m.kind != 11) = true ∧ B = true) ∨ ((s.m.kind != 11) = false ∧ (checkV s.m != 0) = true ∧ B = true) ∨ ((s.m.kind != 11) = false ∧ (checkV s.m != 0) = false ∧ (s.m.domain != dom) = true ∧ B = true) ∨ ((s.m.kind != 11) = false ∧ (checkV s.m != 0) = false ∧ (s.m.domain != dom) = false ∧ B = false) := by
      rw [hB]; by_cases a1 : s.m.kind = 11 <;> by_cases a2 : checkV s.m = 0 <;> by_cases a3 : s.m.domain = dom <;> simp [a1, a2, a3]
  have HB := Lib.hid hB
  clear hB
  have x0 := M3.cellOf (v := .int .i64 s.m.kind) 0 rfl
  have x1 := M3.cellOf (v := .int .i64 s.m.domain) 1 rfl
  suffices HK : ∀ (a' : Act) (w4 : World), a'.tmps.size = a.tmps.size → a'.defers = [] → a'.tmps[0]? = a.tmps[0]? → a'.tmps[2]? = a.tmps[2]? → a'.tmps[3]? = a.tmps[3]? → a'.tmps[4]? = a.tmps[4]? → a'.tmps[6]? = a.tmps[6]? → a'.tmps[11]? = a.tmps[11]? → a'.tmps[18]? = a.tmps[18]? → a'.tmps[19]? = a.tmps[19]? → a'.tmps[20]? = a.tmps[20]? → a'.tmps[21]? = a.tmps[21]? → a'.tmps[27]? = a.tmps[27]? → a'.tmps[28]? = a.tmps[28]? → a'.tmps[29]? = a.tmps[29]? → a'.tmps[307]? = some (.bool B) → Below w3.heap.size w3 w4 → Kq3 a' w4 by
    rcases hcase with ⟨k1, rfl⟩ | ⟨k1, k2, rfl⟩ | ⟨k1, k2, k3, rfl⟩ | ⟨k1, k2, k3, rfl⟩
    all_goals
      refine sm_list [0, 29] 307 15 hs hd (by kernel_rfl) (agC e0 (agC e29 agN)) (by simp only [List.map_cons, List.map_nil, reOper, reOp, reO, reC, reK, Option.map_some, Option.map_none, fS_ite, ix_ite, Nat.reduceLeDiff, Nat.reduceEqDiff, if_true, if_false, ↓reduceIte, List.length_cons, List.length_nil, Nat.reduceAdd, Nat.reduceSub, List.map_toArray]; rfl) ?_
      simp only [List.replicate_succ, List.replicate_zero, List.cons_append, List.nil_append, List.drop_succ_cons, List.drop_zero, List.take_succ_cons, List.take_zero]
      (go_wp2_with (first | (refine wpList_load_row_g rfl 38 (.tmp 1) rfl g29 rfl _ _ (0, 0) _ M3 Try.underlying38 rfl (by kernel_rfl) ?_) | (go_at_call 15; refine (check_m s.m s.A s.n s.c w3 (msg_at HM.out TI3.below).reads HM.out.len HM.out.most).mono ?_; rintro e w4 ⟨rfl, b4⟩; replace x1 := (M3.kept b4).cellOf (v := .int .i64 s.m.domain) 1 rfl) | fail))
      intro a' H
      refine HK a' _ H.size H.defers ((H.got rfl rfl).trans e0.symm) (H.out 2 rfl) (H.out 3 rfl) (H.out 4 rfl) (H.out 6 rfl) (H.out 11 rfl) (H.out 18 rfl) (H.out 19 rfl) (H.out 20 rfl) (H.out 21 rfl) (H.out 27 rfl) (H.out 28 rfl) ((H.got rfl rfl).trans e29.symm) ?_ ?_
      · exact H.got rfl rfl
      · first | exact b4 | exact Below.refl _ _
  intro a' w4 g_s g_d g0 g2 g3 g4 g6 g11 g18 g19 g20 g21 g27 g28 g29 f307 b4
  replace hs := g_s.trans hs
  replace hd := g_d
  replace e0 := g0.trans e0
  replace e2 := g2.trans e2
  replace e3 := g3.trans e3
  replace e4 := g4.trans e4
  replace e6 := g6.trans e6
  replace e11 := g11.trans e11
  replace e18 := g18.trans e18
  replace e19 := g19.trans e19
  replace e20 := g20.trans e20
  replace e21 := g21.trans e21
  replace e27 := g27.trans e27
  replace e28 := g28.trans e28
  replace e29 := g29.trans e29
  clear g_s g_d g0 g2 g3 g4 g6 g11 g18 g19 g20 g21 g27 g28 g29
  have e307 := f307
  clear f307
  clear a
  obtain ⟨a, rfl⟩ : ∃ a, a = a' := ⟨_, rfl⟩
  refine hKq3 _ _ ?_
  clear hKq3 Kq3
  have M4 := M3.kept b4
  have TI4 := TI3.kept b4
  have S4 := S3.kept b4
  clear M3 TI3 S3 b4 x0 x1
  by_cases hbad : s.m.kind ≠ 11 ∨ checkV s.m ≠ 0 ∨ s.m.domain ≠ dom
  · obtain rfl : B = true := HB.out.trans (decide_eq_true hbad)
    have hE : t.inE s.at_ s.m = 23 := inE_23 (by rw [HOK.out.dom]; exact hbad)
    rw [hE] at e28
    rw [in_no (by rw [hE]; decide)] at TI4
    clear hbad hE M4 S4 HB
    refine wp_cond_true (slotE e307) ?_
    clear e307
    refine wp_seq_k fun Kq4 hKq4 => ?_
    refine sm_list [28] 322 2 hs hd (by kernel_rfl) (agC e28 agN) (by simp only [List.map_cons, List.map_nil, reOper, reOp, reO, reC, reK, Option.map_some, Option.map_none, fS_ite, ix_ite, Nat.reduceLeDiff, Nat.reduceEqDiff, if_true, if_false, ↓reduceIte, List.length_cons, List.length_nil, Nat.reduceAdd, Nat.reduceSub, List.map_toArray]; rfl) ?_
    simp only [List.replicate_succ, List.replicate_zero, List.cons_append, List.nil_append, List.drop_succ_cons, List.drop_zero, List.take_succ_cons, List.take_zero]
    go_wp2_with fail
    intro a H
    replace hs := H.size.trans hs
    replace hd : a.defers = [] := H.defers
    replace e0 : a.tmps[0]? = some _ := H.keep e0 rfl
    replace e2 : a.tmps[2]? = some _ := H.keep e2 rfl
    replace e3 : a.tmps[3]? = some _ := H.keep e3 rfl
    replace e4 : a.tmps[4]? = some _ := H.keep e4 rfl
    replace e6 : a.tmps[6]? = some _ := H.keep e6 rfl
    replace e11 : a.tmps[11]? = some _ := H.keep e11 rfl
    replace e18 : a.tmps[18]? = some _ := H.keep e18 rfl
    replace e19 : a.tmps[19]? = some _ := H.keep e19 rfl
    replace e20 : a.tmps[20]? = some _ := H.keep e20 rfl
    replace e21 : a.tmps[21]? = some _ := H.keep e21 rfl
    replace e27 : a.tmps[27]? = some _ := H.keep e27 rfl
    replace e28 : a.tmps[28]? = some _ := H.got rfl rfl
    replace e29 : a.tmps[29]? = some _ := H.keep e29 rfl
    have e323 : a.tmps[323]? = some _ := H.got rfl rfl
    clear H
    refine hKq4 _ _ ?_
    clear hKq4 Kq4
    refine wp_cond_false (slotE e323) ?_
    clear e323
    refine wp_skip ?_
    exact HEND.out a _ _ _ _ hs hd e0 e2 e3 e4 e6 e11 e18 e19 e20 TI4 HOK.out
  obtain rfl : B = false := HB.out.trans (decide_eq_false hbad)
  have HBAD := Lib.hid hbad
  clear HB hbad
  refine wp_cond_false (slotE e307) ?_
  clear e307
  refine wp_seq_k fun Kq4 hKq4 => ?_
  have y1 := S4.cellOf (v := .int .i64 s.at_) 1 rfl
  by_cases hth : 0 ≤ s.at_ ∧ s.at_ < (N : Int)
  rotate_left
  · have hE : t.inE s.at_ s.m = 40 := inE_40 (by rw [HOK.out.dom]; exact HBAD.out) (upAt_out (by rw [HOK.out.len]; exact hth))
    rw [hE] at e28
    rw [in_no (by rw [hE]; decide)] at TI4
    rw [decide_eq_false hth] at e27
    clear hth hE M4
    refine sm_list [18, 21, 27] 324 12 hs hd (by kernel_rfl) (agC e18 (agC e21 (agC e27 agN))) (by simp only [List.map_cons, List.map_nil, reOper, reOp, reO, reC, reK, Option.map_some, Option.map_none, fS_ite, ix_ite, Nat.reduceLeDiff, Nat.reduceEqDiff, if_true, if_false, ↓reduceIte, List.length_cons, List.length_nil, Nat.reduceAdd, Nat.reduceSub, List.map_toArray]; rfl) ?_
    simp only [List.replicate_succ, List.replicate_zero, List.cons_append, List.nil_append, List.drop_succ_cons, List.drop_zero, List.take_succ_cons, List.take_zero]
    go_wp2_with fail
    intro a H
    replace hs := H.size.trans hs
    replace hd : a.defers = [] := H.defers
    replace e0 : a.tmps[0]? = some _ := H.keep e0 rfl
    replace e2 : a.tmps[2]? = some _ := H.keep e2 rfl
    replace e3 : a.tmps[3]? = some _ := H.keep e3 rfl
    replace e4 : a.tmps[4]? = some _ := H.keep e4 rfl
    replace e6 : a.tmps[6]? = some _ := H.keep e6 rfl
    replace e11 : a.tmps[11]? = some _ := H.keep e11 rfl
    replace e18 : a.tmps[18]? = some _ := H.got rfl rfl
    replace e19 : a.tmps[19]? = some _ := H.keep e19 rfl
    replace e20 : a.tmps[20]? = some _ := H.keep e20 rfl
    replace e21 : a.tmps[21]? = some _ := H.got rfl rfl
    replace e27 : a.tmps[27]? = some _ := H.got rfl rfl
    replace e28 : a.tmps[28]? = some _ := H.keep e28 rfl
    replace e29 : a.tmps[29]? = some _ := H.keep e29 rfl
    have e324 : a.tmps[324]? = some _ := H.got rfl rfl
    clear H
    refine hKq4 _ _ ?_
    clear hKq4 Kq4
    refine wp_cond_true (slotE e324) ?_
    clear e324
    refine wp_seq_k fun Kq5 hKq5 => ?_
    refine sm_list [28] 336 2 hs hd (by kernel_rfl) (agC e28 agN) (by simp only [List.map_cons, List.map_nil, reOper, reOp, reO, reC, reK, Option.map_some, Option.map_none, fS_ite, ix_ite, Nat.reduceLeDiff, Nat.reduceEqDiff, if_true, if_false, ↓reduceIte, List.length_cons, List.length_nil, Nat.reduceAdd, Nat.reduceSub, List.map_toArray]; rfl) ?_
    simp only [List.replicate_succ, List.replicate_zero, List.cons_append, List.nil_append, List.drop_succ_cons, List.drop_zero, List.take_succ_cons, List.take_zero]
    go_wp2_with fail
    intro a H
    replace hs := H.size.trans hs
    replace hd : a.defers = [] := H.defers
    replace e0 : a.tmps[0]? = some _ := H.keep e0 rfl
    replace e2 : a.tmps[2]? = some _ := H.keep e2 rfl
    replace e3 : a.tmps[3]? = some _ := H.keep e3 rfl
    replace e4 : a.tmps[4]? = some _ := H.keep e4 rfl
    replace e6 : a.tmps[6]? = some _ := H.keep e6 rfl
    replace e11 : a.tmps[11]? = some _ := H.keep e11 rfl
    replace e18 : a.tmps[18]? = some _ := H.keep e18 rfl
    replace e19 : a.tmps[19]? = some _ := H.keep e19 rfl
    replace e20 : a.tmps[20]? = some _ := H.keep e20 rfl
    replace e21 : a.tmps[21]? = some _ := H.keep e21 rfl
    replace e27 : a.tmps[27]? = some _ := H.keep e27 rfl
    replace e28 : a.tmps[28]? = some _ := H.got rfl rfl
    replace e29 : a.tmps[29]? = some _ := H.keep e29 rfl
    have e337 : a.tmps[337]? = some _ := H.got rfl rfl
    clear H
    refine hKq5 _ _ ?_
    clear hKq5 Kq5
    refine wp_cond_false (slotE e337) ?_
    clear e337
    refine wp_skip ?_
    exact HEND.out a _ _ _ _ hs hd e0 e2 e3 e4 e6 e11 e18 e19 e20 TI4 HOK.out
  rw [decide_eq_true hth] at e27
  obtain ⟨k, hk⟩ : ∃ k : Nat, s.at_ = (k : Int) := ⟨s.at_.toNat, by omega⟩
  have hkN : k < N := by omega
  obtain ⟨e, he⟩ : ∃ e, t.es[k]? = some e := ⟨_, List.getElem?_eq_getElem (by rw [HOK.out.len]; exact hkN)⟩
  obtain ⟨A5, c5, hq, hc5, hp5⟩ := TI4.ks.pth k e he
  rw [hk] at y1
  have hk0 : (0 : Int) ≤ (k : Int) := by omega
  have hk1 : (k : Int) < (N : Int) := by omega
  have hup : t.upAt s.at_ = e.up := by rw [hk]; exact upAt_at he
  have HE := Lib.hid he
  have HQ := Lib.hid hq
  have HK := Lib.hid hk
  have HU := Lib.hid hup
  have q0 := TI4.ks.box.cellOf (v := .bool e.up) (k * 12) (by have := kcells_at he hq (r := 0) (by omega); rw [Nat.add_zero] at this; rw [List.getElem?_toArray, this]; rfl)
  clear he hq hk hup hth hp5
  by_cases hu : e.up = false
  · rw [hu] at q0
    have hE : t.inE s.at_ s.m = 40 := inE_40 (by rw [HOK.out.dom]; exact HBAD.out) (HU.out.trans hu)
    rw [hE] at e28
    rw [in_no (by rw [hE]; decide)] at TI4
    clear hu hE M4
    refine sm_list [18, 21, 27] 324 12 hs hd (by kernel_rfl) (agC e18 (agC e21 (agC e27 agN))) (by simp only [List.map_cons, List.map_nil, reOper, reOp, reO, reC, reK, Option.map_some, Option.map_none, fS_ite, ix_ite, Nat.reduceLeDiff, Nat.reduceEqDiff, if_true, if_false, ↓reduceIte, List.length_cons, List.length_nil, Nat.reduceAdd, Nat.reduceSub, List.map_toArray]; rfl) ?_
    simp only [List.replicate_succ, List.replicate_zero, List.cons_append, List.nil_append, List.drop_succ_cons, List.drop_zero, List.take_succ_cons, List.take_zero]
    go_wp2_with fail
    intro a H
    replace hs := H.size.trans hs
    replace hd : a.defers = [] := H.defers
    replace e0 : a.tmps[0]? = some _ := H.keep e0 rfl
    replace e2 : a.tmps[2]? = some _ := H.keep e2 rfl
    replace e3 : a.tmps[3]? = some _ := H.keep e3 rfl
    replace e4 : a.tmps[4]? = some _ := H.keep e4 rfl
    replace e6 : a.tmps[6]? = some _ := H.keep e6 rfl
    replace e11 : a.tmps[11]? = some _ := H.keep e11 rfl
    replace e18 : a.tmps[18]? = some _ := H.got rfl rfl
    replace e19 : a.tmps[19]? = some _ := H.keep e19 rfl
    replace e20 : a.tmps[20]? = some _ := H.keep e20 rfl
    replace e21 : a.tmps[21]? = some _ := H.got rfl rfl
    replace e27 : a.tmps[27]? = some _ := H.got rfl rfl
    replace e28 : a.tmps[28]? = some _ := H.keep e28 rfl
    replace e29 : a.tmps[29]? = some _ := H.keep e29 rfl
    have e324 : a.tmps[324]? = some _ := H.got rfl rfl
    clear H
    refine hKq4 _ _ ?_
    clear hKq4 Kq4
    refine wp_cond_true (slotE e324) ?_
    clear e324
    refine wp_seq_k fun Kq5 hKq5 => ?_
    refine sm_list [28] 336 2 hs hd (by kernel_rfl) (agC e28 agN) (by simp only [List.map_cons, List.map_nil, reOper, reOp, reO, reC, reK, Option.map_some, Option.map_none, fS_ite, ix_ite, Nat.reduceLeDiff, Nat.reduceEqDiff, if_true, if_false, ↓reduceIte, List.length_cons, List.length_nil, Nat.reduceAdd, Nat.reduceSub, List.map_toArray]; rfl) ?_
    simp only [List.replicate_succ, List.replicate_zero, List.cons_append, List.nil_append, List.drop_succ_cons, List.drop_zero, List.take_succ_cons, List.take_zero]
    go_wp2_with fail
    intro a H
    replace hs := H.size.trans hs
    replace hd : a.defers = [] := H.defers
    replace e0 : a.tmps[0]? = some _ := H.keep e0 rfl
    replace e2 : a.tmps[2]? = some _ := H.keep e2 rfl
    replace e3 : a.tmps[3]? = some _ := H.keep e3 rfl
    replace e4 : a.tmps[4]? = some _ := H.keep e4 rfl
    replace e6 : a.tmps[6]? = some _ := H.keep e6 rfl
    replace e11 : a.tmps[11]? = some _ := H.keep e11 rfl
    replace e18 : a.tmps[18]? = some _ := H.keep e18 rfl
    replace e19 : a.tmps[19]? = some _ := H.keep e19 rfl
    replace e20 : a.tmps[20]? = some _ := H.keep e20 rfl
    replace e21 : a.tmps[21]? = some _ := H.keep e21 rfl
    replace e27 : a.tmps[27]? = some _ := H.keep e27 rfl
    replace e28 : a.tmps[28]? = some _ := H.got rfl rfl
    replace e29 : a.tmps[29]? = some _ := H.keep e29 rfl
    have e337 : a.tmps[337]? = some _ := H.got rfl rfl
    clear H
    refine hKq5 _ _ ?_
    clear hKq5 Kq5
    refine wp_cond_false (slotE e337) ?_
    clear e337
    refine wp_skip ?_
    exact HEND.out a _ _ _ _ hs hd e0 e2 e3 e4 e6 e11 e18 e19 e20 TI4 HOK.out
  have hu : e.up = true := by cases h : e.up; exact absurd h hu; rfl
  rw [hu] at q0
  have hup := HU.out.trans hu
  refine sm_list [18, 21, 27] 324 12 hs hd (by kernel_rfl) (agC e18 (agC e21 (agC e27 agN))) (by simp only [List.map_cons, List.map_nil, reOper, reOp, reO, reC, reK, Option.map_some, Option.map_none, fS_ite, ix_ite, Nat.reduceLeDiff, Nat.reduceEqDiff, if_true, if_false, ↓reduceIte, List.length_cons, List.length_nil, Nat.reduceAdd, Nat.reduceSub, List.map_toArray]; rfl) ?_
  simp only [List.replicate_succ, List.replicate_zero, List.cons_append, List.nil_append, List.drop_succ_cons, List.drop_zero, List.take_succ_cons, List.take_zero]
  go_wp2_with fail
  intro a H
  replace hs := H.size.trans hs
  replace hd : a.defers = [] := H.defers
  replace e0 : a.tmps[0]? = some _ := H.keep e0 rfl
  replace e2 : a.tmps[2]? = some _ := H.keep e2 rfl
  replace e3 : a.tmps[3]? = some _ := H.keep e3 rfl
  replace e4 : a.tmps[4]? = some _ := H.keep e4 rfl
  replace e6 : a.tmps[6]? = some _ := H.keep e6 rfl
  replace e11 : a.tmps[11]? = some _ := H.keep e11 rfl
  replace e18 : a.tmps[18]? = some _ := H.got rfl rfl
  replace e19 : a.tmps[19]? = some _ := H.keep e19 rfl
  replace e20 : a.tmps[20]? = some _ := H.keep e20 rfl
  replace e21 : a.tmps[21]? = some _ := H.got rfl rfl
  replace e27 : a.tmps[27]? = some _ := H.got rfl rfl
  replace e28 : a.tmps[28]? = some _ := H.keep e28 rfl
  replace e29 : a.tmps[29]? = some _ := H.keep e29 rfl
  have e324 : a.tmps[324]? = some _ := H.got rfl rfl
  clear H
  refine hKq4 _ _ ?_
  clear hKq4 Kq4
  refine wp_cond_false (slotE e324) ?_
  clear e324
  refine wp_seq_k fun Kq5 hKq5 => ?_
  have x3 := M4.cellOf (v := .int .i64 s.m.src) 3 rfl
  have x14 := M4.cellOf (v := .int .i64 s.m.steps) 14 rfl
  have x15 := M4.cellOf (v := .slice s.A s.n s.c) 15 rfl
  have z3 := TI4.own_.cellOf (v := .int .i64 own.id) 3 rfl
  clear q0
  obtain ⟨hr1, hr2⟩ := right_few (m := s.m) (Decidable.not_not.1 fun x => HBAD.out (.inr (.inl x)))
  have hlen := HM.out.len
  obtain ⟨B2, hB2⟩ : ∃ B2, B2 = decide (s.m.src = own.id ∨ own.id ∈ s.m.path ∨ 255 ≤ s.m.steps ∨ 32 ≤ s.m.path.length) := ⟨_, rfl⟩
  have hcase : ((s.m.src == own.id) = true ∧ B2 = true) ∨ ((s.m.src == own.id) = false ∧ decide (own.id ∈ s.m.path) = true ∧ B2 = true) ∨ ((s.m.src == own.id) = false ∧ decide (own.id ∈ s.m.path) = false ∧ (s.m.steps == 255) = true ∧ B2 = true) ∨ ((s.m.src == own.id) = false ∧ decide (own.id ∈ s.m.path) = false ∧ (s.m.steps == 255) = false ∧ ((s.n : Int) == 32) = true ∧ B2 = true) ∨ ((s.m.src == own.id) = false ∧ decide (own.id ∈ s.m.path) = false ∧ (s.m.steps == 255) = false ∧ ((s.n : Int) == 32) = false ∧ B2 = false) := by
      have g1 : (255 ≤ s.m.steps) ↔ (s.m.steps = 255) := ⟨fun h => by omega, fun h => by omega⟩
      have g2 : (32 ≤ s.m.path.length) ↔ ((s.n : Int) = 32) := ⟨fun h => by omega, fun h => by omega⟩
      have ge : decide (s.m.src = own.id ∨ own.id ∈ s.m.path ∨ 255 ≤ s.m.steps ∨ 32 ≤ s.m.path.length) = decide (s.m.src = own.id ∨ own.id ∈ s.m.path ∨ s.m.steps = 255 ∨ (s.n : Int) = 32) := decide_eq_decide.2 (by rw [g1, g2])
      rw [hB2, ge]; by_cases a1 : s.m.src = own.id <;> by_cases a2 : own.id ∈ s.m.path <;> by_cases a3 : s.m.steps = 255 <;> by_cases a4 : (s.n : Int) = 32 <;> simp [a1, a2, a3, a4]
  have HB2 := Lib.hid hB2
  have HLN := Lib.hid hlen
  clear hB2 hr1 hr2 hlen
  suffices HK : ∀ (a' : Act), a'.tmps.size = a.tmps.size → a'.defers = [] → a'.tmps[0]? = a.tmps[0]? → a'.tmps[2]? = a.tmps[2]? → a'.tmps[3]? = a.tmps[3]? → a'.tmps[4]? = a.tmps[4]? → a'.tmps[6]? = a.tmps[6]? → a'.tmps[11]? = a.tmps[11]? → a'.tmps[18]? = a.tmps[18]? → a'.tmps[19]? = a.tmps[19]? → a'.tmps[20]? = a.tmps[20]? → a'.tmps[21]? = a.tmps[21]? → a'.tmps[27]? = a.tmps[27]? → a'.tmps[28]? = a.tmps[28]? → a'.tmps[29]? = a.tmps[29]? → a'.tmps[338]? = some (.bool B2) → Kq5 a' w4 by
    rcases hcase with ⟨k1, rfl⟩ | ⟨k1, k2, rfl⟩ | ⟨k1, k2, k3, rfl⟩ | ⟨k1, k2, k3, k4, rfl⟩ | ⟨k1, k2, k3, k4, rfl⟩
    all_goals
      refine sm_list [6, 29] 338 24 hs hd (by kernel_rfl) (agC e6 (agC e29 agN)) (by simp only [List.map_cons, List.map_nil, reOper, reOp, reO, reC, reK, Option.map_some, Option.map_none, fS_ite, ix_ite, Nat.reduceLeDiff, Nat.reduceEqDiff, if_true, if_false, ↓reduceIte, List.length_cons, List.length_nil, Nat.reduceAdd, Nat.reduceSub, List.map_toArray]; rfl) ?_
      simp only [List.replicate_succ, List.replicate_zero, List.cons_append, List.nil_append, List.drop_succ_cons, List.drop_zero, List.take_succ_cons, List.take_zero]
      (go_wp2_with (go_at_call 16; refine (has_any s.m.path own.id s.A s.n s.c w4 (msg_at HM.out TI4.below).reads HM.out.most).mono ?_; rintro e5 w5 ⟨rfl, rfl⟩))
      intro a' H
      refine HK a' H.size H.defers (H.out 0 rfl) (H.out 2 rfl) (H.out 3 rfl) (H.out 4 rfl) ((H.got rfl rfl).trans e6.symm) (H.out 11 rfl) (H.out 18 rfl) (H.out 19 rfl) (H.out 20 rfl) (H.out 21 rfl) (H.out 27 rfl) (H.out 28 rfl) ((H.got rfl rfl).trans e29.symm) ?_
      · exact H.got rfl rfl
  intro a' g_s g_d g0 g2 g3 g4 g6 g11 g18 g19 g20 g21 g27 g28 g29 f338
  replace hs := g_s.trans hs
  replace hd := g_d
  replace e0 := g0.trans e0
  replace e2 := g2.trans e2
  replace e3 := g3.trans e3
  replace e4 := g4.trans e4
  replace e6 := g6.trans e6
  replace e11 := g11.trans e11
  replace e18 := g18.trans e18
  replace e19 := g19.trans e19
  replace e20 := g20.trans e20
  replace e21 := g21.trans e21
  replace e27 := g27.trans e27
  replace e28 := g28.trans e28
  replace e29 := g29.trans e29
  clear g_s g_d g0 g2 g3 g4 g6 g11 g18 g19 g20 g21 g27 g28 g29
  have e338 := f338
  clear f338
  clear a
  obtain ⟨a, rfl⟩ : ∃ a, a = a' := ⟨_, rfl⟩
  refine hKq5 _ _ ?_
  clear hKq5 Kq5
  by_cases h31 : s.m.src = own.id ∨ own.id ∈ s.m.path ∨ 255 ≤ s.m.steps ∨ 32 ≤ s.m.path.length
  · obtain rfl : B2 = true := HB2.out.trans (decide_eq_true h31)
    have hE : t.inE s.at_ s.m = 31 := inE_31 (by rw [HOK.out.dom]; exact HBAD.out) hup (by rw [HOK.out.own_]; exact h31)
    rw [hE] at e28
    rw [in_no (by rw [hE]; decide)] at TI4
    clear h31 hE M4 hup
    refine wp_cond_true (slotE e338) ?_
    clear e338
    refine wp_seq_k fun Kq6 hKq6 => ?_
    refine sm_list [28] 362 2 hs hd (by kernel_rfl) (agC e28 agN) (by simp only [List.map_cons, List.map_nil, reOper, reOp, reO, reC, reK, Option.map_some, Option.map_none, fS_ite, ix_ite, Nat.reduceLeDiff, Nat.reduceEqDiff, if_true, if_false, ↓reduceIte, List.length_cons, List.length_nil, Nat.reduceAdd, Nat.reduceSub, List.map_toArray]; rfl) ?_
    simp only [List.replicate_succ, List.replicate_zero, List.cons_append, List.nil_append, List.drop_succ_cons, List.drop_zero, List.take_succ_cons, List.take_zero]
    go_wp2_with fail
    intro a H
    replace hs := H.size.trans hs
    replace hd : a.defers = [] := H.defers
    replace e0 : a.tmps[0]? = some _ := H.keep e0 rfl
    replace e2 : a.tmps[2]? = some _ := H.keep e2 rfl
    replace e3 : a.tmps[3]? = some _ := H.keep e3 rfl
    replace e4 : a.tmps[4]? = some _ := H.keep e4 rfl
    replace e6 : a.tmps[6]? = some _ := H.keep e6 rfl
    replace e11 : a.tmps[11]? = some _ := H.keep e11 rfl
    replace e18 : a.tmps[18]? = some _ := H.keep e18 rfl
    replace e19 : a.tmps[19]? = some _ := H.keep e19 rfl
    replace e20 : a.tmps[20]? = some _ := H.keep e20 rfl
    replace e21 : a.tmps[21]? = some _ := H.keep e21 rfl
    replace e27 : a.tmps[27]? = some _ := H.keep e27 rfl
    replace e28 : a.tmps[28]? = some _ := H.got rfl rfl
    replace e29 : a.tmps[29]? = some _ := H.keep e29 rfl
    have e363 : a.tmps[363]? = some _ := H.got rfl rfl
    clear H
    refine hKq6 _ _ ?_
    clear hKq6 Kq6
    refine wp_cond_false (slotE e363) ?_
    clear e363
    refine wp_skip ?_
    exact HEND.out a _ _ _ _ hs hd e0 e2 e3 e4 e6 e11 e18 e19 e20 TI4 HOK.out
  obtain rfl : B2 = false := HB2.out.trans (decide_eq_false h31)
  have hE : t.inE s.at_ s.m = 0 := inE_0 (by rw [HOK.out.dom]; exact HBAD.out) hup (by rw [HOK.out.own_]; exact h31)
  rw [hE] at e28
  have hne := newE_ok (e := e) hE hnow
  have hE0 := hE
  rw [HK.out] at hE
  have HE0 := Lib.hid hE0
  have hin := in_at (now := s.now) hE HE.out
  rw [HK.out, hin] at TI4
  have HNE := Lib.hid hne
  clear hin hE hE0 hne h31 hup x3 x14 x15 z3 HB2
  refine wp_cond_false (slotE e338) ?_
  clear e338
  refine wp_seq_k fun Kq6 hKq6 => ?_
  have HY1 : Hid ((s20c s)[1]? = some (.int .i64 (k : Int))) := Lib.hid (by show some (Value.int .i64 s.at_) = _; rw [HK.out])
  have X0 := TI4.ks.box
  have ne1 : g21 ≠ gk := HAP.out.2.2.1
  have ne2 : g29 ≠ gk := by have := HG29.out; omega
  have hkl : k < t.es.length := by rw [HOK.out.len]; exact hkN
  have HNE2 := Lib.hid (And.intro ne1 (And.intro ne2 hkl))
  have HTI := Lib.hid TI4
  have hsz : (kcells t.es qs).length = t.es.length * 12 := kcells_len TI4.ks.len
  have HSZ := Lib.hid hsz
  clear hsz TI4 ne1 ne2 hkl
  have q1 := X0.cellOf (v := .bool e.ok) (k * 12 + 1) (by rw [List.getElem?_toArray, kcells_at HE.out HQ.out (by omega)]; rfl)
  have fz := X0.frozen
  refine sm_list [18, 21] 260 5 hs hd (by kernel_rfl) (agC e18 (agC e21 agN)) (by simp only [List.map_cons, List.map_nil, reOper, reOp, reO, reC, reK, Option.map_some, Option.map_none, fS_ite, ix_ite, Nat.reduceLeDiff, Nat.reduceEqDiff, if_true, if_false, ↓reduceIte, List.length_cons, List.length_nil, Nat.reduceAdd, Nat.reduceSub, List.map_toArray]; rfl) ?_
  simp only [List.replicate_succ, List.replicate_zero, List.cons_append, List.nil_append, List.drop_succ_cons, List.drop_zero, List.take_succ_cons, List.take_zero]
  go_wp2_with fail
  intro a H
  replace hs := H.size.trans hs
  replace hd : a.defers = [] := H.defers
  replace e0 : a.tmps[0]? = some _ := H.keep e0 rfl
  replace e2 : a.tmps[2]? = some _ := H.keep e2 rfl
  replace e3 : a.tmps[3]? = some _ := H.keep e3 rfl
  replace e4 : a.tmps[4]? = some _ := H.keep e4 rfl
  replace e6 : a.tmps[6]? = some _ := H.keep e6 rfl
  replace e11 : a.tmps[11]? = some _ := H.keep e11 rfl
  replace e18 : a.tmps[18]? = some _ := H.got rfl rfl
  replace e19 : a.tmps[19]? = some _ := H.keep e19 rfl
  replace e20 : a.tmps[20]? = some _ := H.keep e20 rfl
  replace e21 : a.tmps[21]? = some _ := H.got rfl rfl
  replace e27 : a.tmps[27]? = some _ := H.keep e27 rfl
  replace e28 : a.tmps[28]? = some _ := H.keep e28 rfl
  replace e29 : a.tmps[29]? = some _ := H.keep e29 rfl
  clear H
  refine hKq6 _ _ ?_
  clear hKq6 Kq6
  refine wp_seq_k fun Kq7 hKq7 => ?_
  have gr5 : w4.grownBy (w4.setCell ⟨gk, k * 12 + 1, none⟩ (.bool true)) (some gk) := gr_set (grownBy_refl _ _) _ _
  have X1 := X0.set_ (k * 12 + 1) (.bool true)
  rw [kput1 HE.out HQ.out { e with ok := true } (.slice A5 e.path.length c5) [.bool e.up] (e.vec.cells ++ [.slice A5 e.path.length c5, .int .i64 e.at_]) (.bool e.ok) (.bool true) rfl rfl (i := 1) rfl] at X1
  have S5 := S4.grown gr5 (by simpa using HNE2.out.1)
  have M5 := M4.grown gr5 (by simpa using HNE2.out.2.1)
  clear q1 fz X0
  generalize w4.setCell ⟨gk, k * 12 + 1, none⟩ (.bool true) = w5 at *
  have y1 := S5.cellOf 1 HY1.out
  have x10 := M5.cellOf (v := .int .i64 s.m.one) 10 rfl
  have x11 := M5.cellOf (v := .int .i64 s.m.cls) 11 rfl
  have x12 := M5.cellOf (v := .int .i64 s.m.two) 12 rfl
  have x13 := M5.cellOf (v := .int .i64 s.m.id) 13 rfl
  have x14 := M5.cellOf (v := .int .i64 s.m.steps) 14 rfl
  have x3 := M5.cellOf (v := .int .i64 s.m.src) 3 rfl
  have x4 := M5.cellOf (v := .int .i64 s.m.port) 4 rfl
  have hz6 : k * 12 + 2 + 8 ≤ (kcells (t.es.set k { e with ok := true }) (qs.set k (.slice A5 e.path.length c5))).toArray.size := by
      have h1 := HSZ.out
      have h2 := HTI.out.ks.len
      rw [List.size_toArray, kcells_len (by simp [h2])]
      have := HNE2.out.2.2
      simp; omega
  have HZ6 := Lib.hid hz6
  clear hz6
  refine sm_list [18, 21, 29] 265 24 hs hd (by kernel_rfl) (agC e18 (agC e21 (agC e29 agN))) (by simp only [List.map_cons, List.map_nil, reOper, reOp, reO, reC, reK, Option.map_some, Option.map_none, fS_ite, ix_ite, Nat.reduceLeDiff, Nat.reduceEqDiff, if_true, if_false, ↓reduceIte, List.length_cons, List.length_nil, Nat.reduceAdd, Nat.reduceSub, List.map_toArray]; rfl) ?_
  simp only [List.replicate_succ, List.replicate_zero, List.cons_append, List.nil_append, List.drop_succ_cons, List.drop_zero, List.take_succ_cons, List.take_zero]
  go_wp2_with (first | (refine wpList_store_part rfl 46 (.tmp 26) (.tmp 24) rfl (off := k * 12 + 2) rfl X1 rfl HZ6.out (by kernel_rfl) (by rw [← Array.all_toList]; rfl) ?_; intro w6 X2 z6 gr6) | fail)
  intro a H
  replace hs := H.size.trans hs
  replace hd : a.defers = [] := H.defers
  replace e0 : a.tmps[0]? = some _ := H.keep e0 rfl
  replace e2 : a.tmps[2]? = some _ := H.keep e2 rfl
  replace e3 : a.tmps[3]? = some _ := H.keep e3 rfl
  replace e4 : a.tmps[4]? = some _ := H.keep e4 rfl
  replace e6 : a.tmps[6]? = some _ := H.keep e6 rfl
  replace e11 : a.tmps[11]? = some _ := H.keep e11 rfl
  replace e18 : a.tmps[18]? = some _ := H.got rfl rfl
  replace e19 : a.tmps[19]? = some _ := H.keep e19 rfl
  replace e20 : a.tmps[20]? = some _ := H.keep e20 rfl
  replace e21 : a.tmps[21]? = some _ := H.got rfl rfl
  replace e27 : a.tmps[27]? = some _ := H.keep e27 rfl
  replace e28 : a.tmps[28]? = some _ := H.keep e28 rfl
  replace e29 : a.tmps[29]? = some _ := H.got rfl rfl
  clear H
  refine hKq7 _ _ ?_
  clear hKq7 Kq7
  refine wp_seq_k fun Kq8 hKq8 => ?_
  have he1 : (t.es.set k { e with ok := true })[k]? = some { e with ok := true } := List.getElem?_set_self HNE2.out.2.2
  have hq1 : (qs.set k (.slice A5 e.path.length c5))[k]? = some (.slice A5 e.path.length c5) := List.getElem?_set_self (by rw [HTI.out.ks.len]; exact HNE2.out.2.2)
  have hk2 := kput he1 hq1 (e' := { e with ok := true, vec := ⟨⟨s.m.one, s.m.cls, s.m.two, s.m.id⟩, s.m.steps, s.m.src, s.m.port, 0⟩ }) (q' := .slice A5 e.path.length c5) [.bool e.up, .bool true] e.vec.cells (Vc.cells ⟨⟨s.m.one, s.m.cls, s.m.two, s.m.id⟩, s.m.steps, s.m.src, s.m.port, 0⟩) [.slice A5 e.path.length c5, .int .i64 e.at_] rfl rfl rfl
  rw [List.set_set, List.set_set] at hk2
  replace X2 : Blk w6 gk 51 (kcells (t.es.set k { e with ok := true, vec := ⟨⟨s.m.one, s.m.cls, s.m.two, s.m.id⟩, s.m.steps, s.m.src, s.m.port, 0⟩ }) (qs.set k (.slice A5 e.path.length c5))).toArray := by rw [← hk2]; exact X2
  have S6 := S5.grown gr6 (by simpa using HNE2.out.1)
  have M6 := M5.grown gr6 (by simpa using HNE2.out.2.1)
  have gr46 := gr_trans gr5 gr6
  clear he1 hq1 hk2 X1 S5 M5 gr5 gr6 z6 y1 x10 x11 x12 x13 x14 x3 x4 S4 M4
  have hrd := (msg_at HM.out (HTI.out.below.trans ((Fr.gr (S := [gk]) gr46 (by simp)).below HTI.out.below.size (by simp; exact HTI.out.old.2.2.1)))).reads
  have X6d := X2.drew
  have S6d := S6.drew
  have M6d := M6.drew
  have gr6d : w4.grownBy w6.drew (some gk) := gr_trans gr46 (gr_below ((Below.refl w6.heap.size w6).drew) _)
  have hrd2 : Reads w6.drew w6.drew.heap.size 1 s.A s.n (vs s.m.path) := hrd.below ((Below.refl w6.heap.size w6).drew)
  obtain ⟨wd, hwd⟩ : ∃ wd, wd = w6.drew := ⟨_, rfl⟩
  have HWD := Lib.hid hwd
  rw [← hwd] at X6d S6d M6d gr6d hrd2
  have H6 := Lib.hid (And.intro X6d (And.intro S6d (And.intro M6d (And.intro gr6d hrd2))))
  have HCL : Hid (Blk w6.drew g21 48 (s20c s) ∧ Blk w6.drew g29 38 (mcells s.m s.A s.n s.c)) := Lib.hid ⟨S6.drew, M6.drew⟩
  clear hrd X6d S6d M6d gr6d hrd2 X2 S6 M6 gr46 hwd
  have hn32 : s.n ≤ 32 := by
      have h1 := (inE_zero (t := t) (i := s.at_) (m := s.m) (by have := HNE.out; exact HE0.out)).2.2.2.2.2.2.2
      rw [HLN.out] at h1; omega
  refine sm_any [18, 21, 29] 289 9 (by kernel_rfl) hs hd (by kernel_rfl) (agC e18 (agC e21 (agC e29 agN))) (by simp only [List.map_cons, List.map_nil, reOper, reOp, reO, reC, reK, Option.map_some, Option.map_none, fS_ite, ix_ite, Nat.reduceLeDiff, Nat.reduceEqDiff, if_true, if_false, ↓reduceIte, List.length_cons, List.length_nil, Nat.reduceAdd, Nat.reduceSub, List.map_toArray]; rfl) (any_script [(0, true), (1, true), (2, true), (4, true), (5, true), (3, false), (6, false), (7, true), (8, true), (9, false)] (fun w' => Blk w' g21 48 (s20c s) ∧ Blk w' g29 38 (mcells s.m s.A s.n s.c)) (by kernel_rfl) (fun _ _ _ _ _ h => h) HCL.out ?_)
  simp only [List.replicate_succ, List.replicate_zero, List.cons_append, List.nil_append, List.drop_succ_cons, List.drop_zero, List.take_succ_cons, List.take_zero]
  rw [← HWD.out]
  iterate 5 (refine script_take (v := ?_) rfl ?_ ?_ ?_; rotate_left; (first | rfl | (go_simp; done)); (rintro w' ⟨u1, u2⟩; have q1 := u1.cellOf 1 HY1.out; have q2 := u2.cellOf (v := .slice s.A s.n s.c) 15 rfl; go_simp; with_reducible rfl); simp only [Act.put, List.setIfInBounds_toArray, List.set_cons_zero, List.set_cons_succ])
  have SA := H6.out.2.1.alloc (.cells #[] 3)
  have MA := H6.out.2.2.1.alloc (.cells #[] 3)
  have OA := ownsRow_new (e := 3) (size := 1) (n := 0) (cs := #[]) wd (base := wd.heap.size) (Nat.le_refl _) rfl (Nat.zero_le _)
  have RA := H6.out.2.2.2.2.below ((Below.refl wd.heap.size wd).alloc (Nat.le_refl _) (.cells #[] 3))
  have GA : wd.grownBy (wd.alloc (.cells #[] 3)) (some gk) := gr_below ((Below.refl wd.heap.size wd).alloc (Nat.le_refl _) (.cells #[] 3)) _
  have XA := H6.out.1.alloc (.cells #[] 3)
  (refine script_run (v := ?_) (w' := ?_) rfl ?_ ?_ ?_ ?_; rotate_left 2; (first | rfl | (go_simp; done)); (go_simp; refine ⟨?_, ?_⟩ <;> with_reducible rfl); (exact ⟨SA, MA⟩); simp only [Act.put, List.setIfInBounds_toArray, List.set_cons_zero, List.set_cons_succ])
  refine script_pushR rfl rfl (.tmp 6) (.tmp 8) 32 rfl styN rfl RA (vs_one s.m.path) rfl OA (by omega) (by simp) ?_
  intro v7 w7 own7 gr7
  have own8 : w7.ownsRow wd.heap.size 3 1 v7 s.n (vs s.m.path) := by simpa using own7
  have L7 : Below wd.heap.size wd w7 := ((Below.refl wd.heap.size wd).alloc (Nat.le_refl _) (.cells #[] 3)).trans (below_of_grown gr7 OA (by simp))
  obtain ⟨A7, c7, rfl, hc7, hr7⟩ := ownsRow_reads own8
  have S7 := H6.out.2.1.kept L7
  have M7 := H6.out.2.2.1.kept L7
  have X7 := H6.out.1.kept L7
  have gr47 := gr_trans H6.out.2.2.2.1 (gr_below L7 (some gk))
  have hA7 : ∀ ad, A7 = some ad → ad.block ∉ gk :: b.all := by
    intro ad h1
    rcases own8.2 with ⟨h4, _⟩ | ⟨g, cap, cur, h4, h5, _⟩
    · injection h4 with h4 _ _
      rw [h4] at h1; cases h1
    · injection h4 with h4 _ _
      rw [h4] at h1
      injection h1 with h1
      rw [← h1]
      have hz := H6.out.2.2.2.1.size
      have hl := HTI.out.tat.lt
      have hk := HTI.out.ks.box.lt
      intro hm
      rcases List.mem_cons.1 hm with hm | hm
      · have hm : g = gk := hm
        omega
      · have := hl _ hm
        have : g < w4.heap.size := this
        omega
  have P7 : Path w7 (gk :: b.all) A7 s.m.path := Path.of_reads hr7 (Nat.le_refl _) hA7
  have he2 : (t.es.set k { e with ok := true, vec := ⟨⟨s.m.one, s.m.cls, s.m.two, s.m.id⟩, s.m.steps, s.m.src, s.m.port, 0⟩ })[k]? = some { e with ok := true, vec := ⟨⟨s.m.one, s.m.cls, s.m.two, s.m.id⟩, s.m.steps, s.m.src, s.m.port, 0⟩ } := List.getElem?_set_self HNE2.out.2.2
  have hq2 : (qs.set k (.slice A5 e.path.length c5))[k]? = some (.slice A5 e.path.length c5) := List.getElem?_set_self (by rw [HTI.out.ks.len]; exact HNE2.out.2.2)
  have q10 := X7.cellOf (v := .slice A5 e.path.length c5) (k * 12 + 10) (by rw [List.getElem?_toArray, kcells_at he2 hq2 (by omega)]; rfl)
  have fz7 := X7.frozen
  have gr8 : w7.grownBy (w7.setCell ⟨gk, k * 12 + 10, none⟩ (.slice A7 s.n c7)) (some gk) := gr_set (grownBy_refl _ _) _ _
  have S8 := S7.grown gr8 (by simpa using HNE2.out.1)
  have M8 := M7.grown gr8 (by simpa using HNE2.out.2.1)
  have X8 := X7.set_ (k * 12 + 10) (.slice A7 s.n c7)
  rw [kput1 he2 hq2 { e with ok := true, vec := ⟨⟨s.m.one, s.m.cls, s.m.two, s.m.id⟩, s.m.steps, s.m.src, s.m.port, 0⟩ } (.slice A7 s.n c7) (.bool e.up :: .bool true :: Vc.cells ⟨⟨s.m.one, s.m.cls, s.m.two, s.m.id⟩, s.m.steps, s.m.src, s.m.port, 0⟩) [.int .i64 e.at_] (.slice A5 e.path.length c5) (.slice A7 s.n c7) rfl rfl (i := 10) rfl, List.set_set, List.set_set] at X8
  have P8 := P7.fr (S' := [gk]) (Fr.gr gr8 (by simp)) (by simp)
  have gr48 := gr_trans gr47 gr8
  have HP8 := Lib.hid (And.intro P8 (And.intro gr48 X8))
  refine ⟨⟨S7, M7⟩, ?_⟩
  simp only [Act.put, List.setIfInBounds_toArray, List.set_cons_zero, List.set_cons_succ]
  clear own7 own8 hr7 hA7 P7 P8 gr47 gr48 he2 hq2 L7 X7 X8 gr7 OA SA MA RA GA XA gr8 S7 M7
  (refine script_take (v := ?_) rfl ?_ ?_ ?_; rotate_left; (first | rfl | (go_simp; done)); (rintro w' ⟨u1, u2⟩; have q1 := u1.cellOf 1 HY1.out; have q2 := u2.cellOf (v := .slice s.A s.n s.c) 15 rfl; go_simp; with_reducible rfl); simp only [Act.put, List.setIfInBounds_toArray, List.set_cons_zero, List.set_cons_succ])
  (refine script_take (v := ?_) rfl ?_ ?_ ?_; rotate_left; (first | rfl | (go_simp; done)); (rintro w' ⟨u1, u2⟩; have q1 := u1.cellOf 1 HY1.out; have q2 := u2.cellOf (v := .slice s.A s.n s.c) 15 rfl; go_simp; with_reducible rfl); simp only [Act.put, List.setIfInBounds_toArray, List.set_cons_zero, List.set_cons_succ])
  (refine script_run0 (w' := ?_) rfl ?_ ?_ ?_ ?_; rotate_left; (first | rfl | (go_simp; done)); (go_simp; with_reducible rfl); (exact ⟨S8, M8⟩); simp only [Act.put, List.setIfInBounds_toArray, List.set_cons_zero, List.set_cons_succ])
  refine script_nil ?_
  intro a H
  replace hs := H.size.trans hs
  replace hd : a.defers = [] := H.defers
  replace e0 : a.tmps[0]? = some _ := H.keep e0 rfl
  replace e2 : a.tmps[2]? = some _ := H.keep e2 rfl
  replace e3 : a.tmps[3]? = some _ := H.keep e3 rfl
  replace e4 : a.tmps[4]? = some _ := H.keep e4 rfl
  replace e6 : a.tmps[6]? = some _ := H.keep e6 rfl
  replace e11 : a.tmps[11]? = some _ := H.keep e11 rfl
  replace e18 : a.tmps[18]? = some _ := H.got rfl rfl
  replace e19 : a.tmps[19]? = some _ := H.keep e19 rfl
  replace e20 : a.tmps[20]? = some _ := H.keep e20 rfl
  replace e21 : a.tmps[21]? = some _ := H.got rfl rfl
  replace e27 : a.tmps[27]? = some _ := H.keep e27 rfl
  replace e28 : a.tmps[28]? = some _ := H.keep e28 rfl
  replace e29 : a.tmps[29]? = some _ := H.got rfl rfl
  clear H
  refine hKq8 _ _ ?_
  clear hKq8 Kq8
  refine wp_seq_k fun Kq9 hKq9 => ?_
  clear q10 fz7 H6
  generalize w7.setCell ⟨gk, k * 12 + 10, none⟩ (.slice A7 s.n c7) = w8 at *
  obtain ⟨P8, gr48, X8⟩ := HP8.out
  have y1 := S8.cellOf 1 HY1.out
  have y18 := S8.cellOf (v := .int .i64 s.now) 18 rfl
  have he3 : (t.es.set k { e with ok := true, vec := ⟨⟨s.m.one, s.m.cls, s.m.two, s.m.id⟩, s.m.steps, s.m.src, s.m.port, 0⟩ })[k]? = some { e with ok := true, vec := ⟨⟨s.m.one, s.m.cls, s.m.two, s.m.id⟩, s.m.steps, s.m.src, s.m.port, 0⟩ } := List.getElem?_set_self HNE2.out.2.2
  have hq3 : (qs.set k (.slice A7 s.n c7))[k]? = some (.slice A7 s.n c7) := List.getElem?_set_self (by rw [HTI.out.ks.len]; exact HNE2.out.2.2)
  have q11 := X8.cellOf (v := .int .i64 e.at_) (k * 12 + 11) (by rw [List.getElem?_toArray, kcells_at he3 hq3 (by omega)]; rfl)
  have fz8 := X8.frozen
  have HE3 := Lib.hid (And.intro he3 hq3)
  have HX8 := Lib.hid (And.intro X8 (And.intro P8 gr48))
  clear he3 hq3 X8 P8 gr48
  refine sm_list [18, 21] 298 7 hs hd (by kernel_rfl) (agC e18 (agC e21 agN)) (by simp only [List.map_cons, List.map_nil, reOper, reOp, reO, reC, reK, Option.map_some, Option.map_none, fS_ite, ix_ite, Nat.reduceLeDiff, Nat.reduceEqDiff, if_true, if_false, ↓reduceIte, List.length_cons, List.length_nil, Nat.reduceAdd, Nat.reduceSub, List.map_toArray]; rfl) ?_
  simp only [List.replicate_succ, List.replicate_zero, List.cons_append, List.nil_append, List.drop_succ_cons, List.drop_zero, List.take_succ_cons, List.take_zero]
  go_wp2_with fail
  intro a H
  replace hs := H.size.trans hs
  replace hd : a.defers = [] := H.defers
  replace e0 : a.tmps[0]? = some _ := H.keep e0 rfl
  replace e2 : a.tmps[2]? = some _ := H.keep e2 rfl
  replace e3 : a.tmps[3]? = some _ := H.keep e3 rfl
  replace e4 : a.tmps[4]? = some _ := H.keep e4 rfl
  replace e6 : a.tmps[6]? = some _ := H.keep e6 rfl
  replace e11 : a.tmps[11]? = some _ := H.keep e11 rfl
  replace e18 : a.tmps[18]? = some _ := H.got rfl rfl
  replace e19 : a.tmps[19]? = some _ := H.keep e19 rfl
  replace e20 : a.tmps[20]? = some _ := H.keep e20 rfl
  replace e21 : a.tmps[21]? = some _ := H.got rfl rfl
  replace e27 : a.tmps[27]? = some _ := H.keep e27 rfl
  replace e28 : a.tmps[28]? = some _ := H.keep e28 rfl
  replace e29 : a.tmps[29]? = some _ := H.keep e29 rfl
  clear H
  refine hKq9 _ _ ?_
  clear hKq9 Kq9
  refine wp_seq_k fun Kq10 hKq10 => ?_
  obtain ⟨X8, P8, gr48⟩ := HX8.out
  have X9 := X8.set_ (k * 12 + 11) (.int .i64 s.now)
  rw [kput1 HE3.out.1 HE3.out.2 (newE e s.m s.now) (.slice A7 s.n c7) (.bool e.up :: .bool true :: (Vc.cells ⟨⟨s.m.one, s.m.cls, s.m.two, s.m.id⟩, s.m.steps, s.m.src, s.m.port, 0⟩ ++ [.slice A7 s.n c7])) [] (.int .i64 e.at_) (.int .i64 s.now) rfl rfl (i := 11) rfl, List.set_set, List.set_set, ← HLN.out] at X9
  have gr9 : w8.grownBy (w8.setCell ⟨gk, k * 12 + 11, none⟩ (.int .i64 s.now)) (some gk) := gr_set (grownBy_refl _ _) _ _
  have P9 := P8.fr (S' := [gk]) (Fr.gr gr9 (by simp)) (by simp)
  have F9 := Fr.gr (S := [gk]) (gr_trans gr48 gr9) (by simp)
  have K9 := ks_put HTI.out.ks HNE2.out.2.2 (newE e s.m s.now) A7 c7 F9 (by simp) X9 (by show s.m.path.length ≤ c7; rw [HLN.out]; exact hc7) P9
  have T9 := HTI.out.list F9 K9
  have HT9 := Lib.hid T9
  clear X8 P8 gr48 X9 gr9 P9 F9 K9 T9 q11 fz8 y1 y18 S8 M8
  refine sm_list [28] 305 2 hs hd (by kernel_rfl) (agC e28 agN) (by simp only [List.map_cons, List.map_nil, reOper, reOp, reO, reC, reK, Option.map_some, Option.map_none, fS_ite, ix_ite, Nat.reduceLeDiff, Nat.reduceEqDiff, if_true, if_false, ↓reduceIte, List.length_cons, List.length_nil, Nat.reduceAdd, Nat.reduceSub, List.map_toArray]; rfl) ?_
  simp only [List.replicate_succ, List.replicate_zero, List.cons_append, List.nil_append, List.drop_succ_cons, List.drop_zero, List.take_succ_cons, List.take_zero]
  go_wp2_with fail
  intro a H
  replace hs := H.size.trans hs
  replace hd : a.defers = [] := H.defers
  replace e0 : a.tmps[0]? = some _ := H.keep e0 rfl
  replace e2 : a.tmps[2]? = some _ := H.keep e2 rfl
  replace e3 : a.tmps[3]? = some _ := H.keep e3 rfl
  replace e4 : a.tmps[4]? = some _ := H.keep e4 rfl
  replace e6 : a.tmps[6]? = some _ := H.keep e6 rfl
  replace e11 : a.tmps[11]? = some _ := H.keep e11 rfl
  replace e18 : a.tmps[18]? = some _ := H.keep e18 rfl
  replace e19 : a.tmps[19]? = some _ := H.keep e19 rfl
  replace e20 : a.tmps[20]? = some _ := H.keep e20 rfl
  replace e21 : a.tmps[21]? = some _ := H.keep e21 rfl
  replace e27 : a.tmps[27]? = some _ := H.keep e27 rfl
  replace e28 : a.tmps[28]? = some _ := H.got rfl rfl
  replace e29 : a.tmps[29]? = some _ := H.keep e29 rfl
  have e306 : a.tmps[306]? = some _ := H.got rfl rfl
  clear H
  refine hKq10 _ _ ?_
  clear hKq10 Kq10
  refine wp_cond_false (slotE e306) ?_
  clear e306
  refine wp_skip ?_
  exact HEND.out a _ _ _ _ hs hd e0 e2 e3 e4 e6 e11 e18 e19 e20 HT9.out (tok_set HOK.out HNE.out)
end Go.Proofs.Ytcdgofndfajekaa
