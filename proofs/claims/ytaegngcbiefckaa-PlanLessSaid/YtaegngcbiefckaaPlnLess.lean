/-
  Without one of its flows a plan is a plan: the walk.
-/
import Derived.Test.YtaegngcbiefckaaPlnLs
namespace Go.Proofs.Ytaegngcbiefckaa
set_option linter.unusedSimpArgs false
set_option linter.unusedVariables false
open Go.RowKit Go.WideShapes Go.ChangeShapes
attribute [local go_sem ↓] Go.wp_at_zero Go.wp_at_succ

set_option maxRecDepth 100000 in
set_option maxHeartbeats 4000000 in
theorem less_any (C : Cf) (Y : Lay) (flow : Int) (w : World) (hC : CfAt w w.heap.size C Y) (hFit : Fits C Y) : Calls Try.prog 6 #[.agg (cfc C Y), .int .i64 flow] w fun e w' => e = .returned (.bool true) ∧ Below w.heap.size w w' := by
  have HFIT := Lib.hid hFit
  clear hFit
  refine calls_sm (N := 107) Try.func6 rfl (by kernel_rfl) ?_
  intro a hs hd ha
  have e0 : a.tmps[0]? = some (.agg (cfc C Y)) := ha 0 _ rfl
  have e1 : a.tmps[1]? = some (.int .i64 flow) := ha 1 _ rfl
  clear ha
  conv => arg 2; whnf
  refine wp_seq_k fun Kq1 hKq1 => ?_
  refine sm_list [0, 2] 4 1 hs hd (by kernel_rfl) (agC e0 (agU agN)) (by simp only [List.append_eq, List.cons_append, List.nil_append, List.map_cons, List.map_nil, reOper, reOp, reO, reC, reK, Option.map_some, Option.map_none, fS_ite, ix_ite, Nat.reduceLeDiff, Nat.reduceEqDiff, if_true, if_false, ↓reduceIte, List.length_cons, List.length_nil, Nat.reduceAdd, Nat.reduceSub, List.map_toArray]; rfl) ?_
  simp only [List.replicate_succ, List.replicate_zero, List.cons_append, List.nil_append, List.drop_succ_cons, List.drop_zero, List.take_succ_cons, List.take_zero]
  go_wp2_with fail
  intro a H
  replace hs := H.size.trans hs
  replace hd : a.defers = [] := H.defers
  replace e1 : a.tmps[1]? = some _ := H.keep e1 rfl
  clear e0
  have e2 : a.tmps[2]? = some _ := H.got rfl rfl
  clear H
  refine hKq1 _ _ ?_
  clear hKq1 Kq1
  refine wp_seq_k fun Kq2 hKq2 => ?_
  refine wp_seq_k fun Kq3 hKq3 => ?_
  have BC := Blk.new w 26 (cfc C Y)
  have L0 : Below w.heap.size w (w.alloc (.cells (cfc C Y) 26)) := (Below.refl _ _).alloc (Nat.le_refl _) _
  have hz1 : w.heap.size < (w.alloc (.cells (cfc C Y) 26)).heap.size := by simp
  replace hC := (hC.below L0)
  generalize w.alloc (.cells (cfc C Y) 26) = w1 at *
  obtain ⟨g, hg⟩ : ∃ g, g = w.heap.size := ⟨_, rfl⟩
  rw [← hg] at BC hz1 hC e2 L0
  have HG := Lib.hid hg
  clear hg
  have HH := Lib.hid (head_any w1)
  have hgz1 : g < w1.heap.size := BC.lt
  refine sm_list [] 13 2 hs hd (by kernel_rfl) agN (by simp only [List.append_eq, List.cons_append, List.nil_append, List.map_cons, List.map_nil, reOper, reOp, reO, reC, reK, Option.map_some, Option.map_none, fS_ite, ix_ite, Nat.reduceLeDiff, Nat.reduceEqDiff, if_true, if_false, ↓reduceIte, List.length_cons, List.length_nil, Nat.reduceAdd, Nat.reduceSub, List.map_toArray]; rfl) ?_
  simp only [List.replicate_succ, List.replicate_zero, List.cons_append, List.nil_append, List.drop_succ_cons, List.drop_zero, List.take_succ_cons, List.take_zero]
  go_wp2_with fail
  refine HH.out.mono ?_
  rintro e w2 ⟨rfl, hb2⟩
  go_wp2_with fail
  intro a H
  replace hs := H.size.trans hs
  replace hd : a.defers = [] := H.defers
  replace e1 : a.tmps[1]? = some _ := H.keep e1 rfl
  replace e2 : a.tmps[2]? = some _ := H.keep e2 rfl
  have e14 : a.tmps[14]? = some _ := H.got rfl rfl
  clear H
  refine hKq3 _ _ ?_
  clear hKq3 Kq3
  refine wp_cond_false (slotE e14) ?_
  clear e14
  refine wp_skip ?_
  refine hKq2 _ _ ?_
  clear hKq2 Kq2
  refine wp_seq_k fun Kq4 hKq4 => ?_
  refine wp_seq_k fun Kq5 hKq5 => ?_
  clear HH
  have L2 : Below g w w2 := L0.trans (hb2.mono (Nat.le_of_lt hgz1))
  have BC2 := BC.kept hb2
  have hC2 := hC.below (hb2.mono (Nat.le_of_lt hgz1))
  have hgz2 : g < w2.heap.size := BC2.lt
  clear BC hC L0 hb2
  have HBG := Lib.hid (big_any C Y w2 (hC2.more (Nat.le_of_lt hgz2)))
  obtain ⟨B, hB⟩ : ∃ B, B = bigV C := ⟨_, rfl⟩
  rw [← hB] at HBG
  have HB := Lib.hid hB
  clear hB
  obtain ⟨R, hR⟩ : ∃ R, R = (B || decide (C.flows.length = 0)) := ⟨_, rfl⟩
  have HR := Lib.hid hR
  clear hR
  suffices HK : ∀ (a' : Act) (w3 : World), a'.tmps.size = a.tmps.size → a'.defers = [] → a'.tmps[1]? = a.tmps[1]? → a'.tmps[2]? = a.tmps[2]? → a'.tmps[22]? = some (.bool R) → Below w2.heap.size w2 w3 → Kq5 a' w3 by
    rcases (by cases B <;> simp : B = true ∨ B = false) with rfl | rfl
    all_goals
      refine sm_list [2] 15 8 hs hd (by kernel_rfl) (agC e2 agN) (by simp only [List.append_eq, List.cons_append, List.nil_append, List.map_cons, List.map_nil, reOper, reOp, reO, reC, reK, Option.map_some, Option.map_none, fS_ite, ix_ite, Nat.reduceLeDiff, Nat.reduceEqDiff, if_true, if_false, ↓reduceIte, List.length_cons, List.length_nil, Nat.reduceAdd, Nat.reduceSub, List.map_toArray]; rfl) ?_
      simp only [List.replicate_succ, List.replicate_zero, List.cons_append, List.nil_append, List.drop_succ_cons, List.drop_zero, List.take_succ_cons, List.take_zero]
      go_wp2_with (first | (refine wpList_load_any_d rfl 26 (.tmp 0) rfl ⟨g, 0, none⟩ rfl (cfc C Y) _ (blk_cells BC2) Try.underlying26 rfl (by kernel_rfl) ?_) | fail)
      refine HBG.out.mono ?_
      rintro e w3 ⟨rfl, hb3⟩
      have BC3 := BC2.kept hb3
      have c2 := BC3.cellOf (v := .slice Y.F.A C.flows.length Y.F.c) 2 rfl
      go_wp2_with fail
      all_goals
        intro a' H
        refine HK a' _ H.size H.defers (H.out 1 rfl) ((H.got rfl rfl).trans e2.symm) ?_ ?_
        · (refine (H.got (t := 22) rfl rfl).trans (congrArg some ?_); rw [HR.out]; first | rfl | (refine congrArg Value.bool ?_; rw [Bool.false_or, Bool.eq_iff_iff]; simp) | simp)
        · exact hb3
  intro a' w3 g_s g_d g1 g2 f22 hb3
  replace hs := g_s.trans hs
  replace hd := g_d
  replace e1 := g1.trans e1
  replace e2 := g2.trans e2
  clear g_s g_d g1 g2
  have e22 := f22
  clear f22
  clear a
  obtain ⟨a, rfl⟩ : ∃ a, a = a' := ⟨_, rfl⟩
  refine hKq5 _ _ ?_
  clear hKq5 Kq5
  have L3 : Below g w w3 := L2.trans (hb3.mono (Nat.le_of_lt hgz2))
  have BC3 := BC2.kept hb3
  have hC3 := hC2.below (hb3.mono (Nat.le_of_lt hgz2))
  have hgz3 : g < w3.heap.size := BC3.lt
  clear BC2 hC2 L2 hb3 HBG
  rcases (by cases R <;> simp : R = true ∨ R = false) with rfl | rfl
  ·
    refine wp_cond_true (slotE e22) ?_
    clear e22
    refine wp_seq_k fun Kq6 hKq6 => ?_
    refine sm_list [] 4 1 hs hd (by kernel_rfl) agN (by simp only [List.append_eq, List.cons_append, List.nil_append, List.map_cons, List.map_nil, reOper, reOp, reO, reC, reK, Option.map_some, Option.map_none, fS_ite, ix_ite, Nat.reduceLeDiff, Nat.reduceEqDiff, if_true, if_false, ↓reduceIte, List.length_cons, List.length_nil, Nat.reduceAdd, Nat.reduceSub, List.map_toArray]; rfl) ?_
    simp only [List.replicate_succ, List.replicate_zero, List.cons_append, List.nil_append, List.drop_succ_cons, List.drop_zero, List.take_succ_cons, List.take_zero]
    go_wp2_with fail
    intro a H
    replace hs := H.size.trans hs
    replace hd : a.defers = [] := H.defers
    replace e1 : a.tmps[1]? = some _ := H.keep e1 rfl
    replace e2 : a.tmps[2]? = some _ := H.keep e2 rfl
    have e4 : a.tmps[4]? = some _ := H.got rfl rfl
    clear H
    refine hKq6 _ _ ?_
    clear hKq6 Kq6
    refine wp_ret ?_
    refine exit_then rfl ?_
    exact sm_ret rfl hd e4 ⟨rfl, by rw [← HG.out]; exact L3⟩
  · have hbf : B = false ∧ C.flows.length ≠ 0 := by have := HR.out; cases B <;> simp at this ⊢; exact fun h => by simp [h] at this
    obtain ⟨hbf1, hfl0⟩ := hbf
    have hbig : bigV C = false := HB.out.symm.trans hbf1
    have HBIG := Lib.hid hbig
    have hfl20 : C.flows.length ≤ 20 := by
      have h := hbig
      unfold bigV at h
      simp only [Bool.or_eq_false_iff, decide_eq_false_iff_not] at h
      omega
    clear hbf1 hbig HR HB B
    refine wp_cond_false (slotE e22) ?_
    clear e22
    refine wp_skip ?_
    refine hKq4 _ _ ?_
    clear hKq4 Kq4
    refine wp_seq_k fun Kq6 hKq6 => ?_
    have HM := Lib.hid (make_any C Y w3 (hC3.more (Nat.le_of_lt hgz3)))
    refine sm_list [2, 5, 6] 23 5 hs hd (by kernel_rfl) (agC e2 (agU (agU agN))) (by simp only [List.append_eq, List.cons_append, List.nil_append, List.map_cons, List.map_nil, reOper, reOp, reO, reC, reK, Option.map_some, Option.map_none, fS_ite, ix_ite, Nat.reduceLeDiff, Nat.reduceEqDiff, if_true, if_false, ↓reduceIte, List.length_cons, List.length_nil, Nat.reduceAdd, Nat.reduceSub, List.map_toArray]; rfl) ?_
    simp only [List.replicate_succ, List.replicate_zero, List.cons_append, List.nil_append, List.drop_succ_cons, List.drop_zero, List.take_succ_cons, List.take_zero]
    go_wp2_with (first | (refine wpList_load_any_d rfl 26 (.tmp 0) rfl ⟨g, 0, none⟩ rfl (cfc C Y) _ (blk_cells BC3) Try.underlying26 rfl (by kernel_rfl) ?_) | fail)
    refine HM.out.mono ?_
    intro e wx hmade
    obtain ⟨ka, offa, wva, mva, rfl, hbx, h1c, hpa⟩ := hmade.two
    have HPa := Lib.hid hpa
    have HBX := Lib.hid hbx
    clear hmade hpa hbx
    go_wp2_with (first | (refine wpList_store_new rfl 32 (.tmp 1) (.tmp 6) rfl rfl rfl rfl rfl (by kernel_rfl) h1c ?_) | fail)
    intro a H
    replace hs := H.size.trans hs
    replace hd : a.defers = [] := H.defers
    replace e1 : a.tmps[1]? = some _ := H.keep e1 rfl
    replace e2 : a.tmps[2]? = some _ := H.got rfl rfl
    have e5 : a.tmps[5]? = some _ := H.got rfl rfl
    have e6 : a.tmps[6]? = some _ := H.got rfl rfl
    clear H
    refine hKq6 _ _ ?_
    clear hKq6 Kq6
    refine wp_seq_k fun Kq7 hKq7 => ?_
    refine wp_seq_k fun Kq8 hKq8 => ?_
    have Bpa := Blk.new wx 32 #[.int .i64 offa, wva, mva]
    have hba : Below w3.heap.size w3 (wx.alloc (.cells #[.int .i64 offa, wva, mva] 32)) := HBX.out.alloc HBX.out.size _
    have Lxa : Below wx.heap.size wx (wx.alloc (.cells #[.int .i64 offa, wva, mva] 32)) := (Below.refl _ _).alloc (Nat.le_refl _) _
    have hzxa : w3.heap.size ≤ wx.heap.size := HBX.out.size
    obtain ⟨g5, hgg5⟩ : ∃ q, q = wx.heap.size := ⟨_, rfl⟩
    rw [← hgg5] at Bpa e5
    have hzg5 : w3.heap.size ≤ g5 := by rw [hgg5]; exact HBX.out.size
    generalize (wx.alloc (.cells #[.int .i64 offa, wva, mva] 32)) = w4 at *
    obtain ⟨wXa, hwXa⟩ : ∃ q, q = wx := ⟨_, rfl⟩
    rw [← hwXa] at HPa Lxa
    clear hwXa hgg5 HM HBX h1c hzxa
    have L4 : Below g w w4 := L3.trans (hba.mono (Nat.le_of_lt hgz3))
    have BC4 := BC3.kept hba
    have hC4 := hC3.below (hba.mono (Nat.le_of_lt hgz3))
    have hgz4 : g < w4.heap.size := BC4.lt
    rcases HPa.out with ⟨hk, hm, _⟩ | ⟨hk, rfl, Sa, Wa, B1a, gGa, mga, fga, hm, rfl, hGa, GTa, OWa, hgda⟩
    · have dn : (ka != 0) = true := bne_iff_ne.2 hk
      refine sm_list [6] 28 2 hs hd (by kernel_rfl) (agC e6 agN) (by simp only [List.append_eq, List.cons_append, List.nil_append, List.map_cons, List.map_nil, reOper, reOp, reO, reC, reK, Option.map_some, Option.map_none, fS_ite, ix_ite, Nat.reduceLeDiff, Nat.reduceEqDiff, if_true, if_false, ↓reduceIte, List.length_cons, List.length_nil, Nat.reduceAdd, Nat.reduceSub, List.map_toArray]; rfl) ?_
      simp only [List.replicate_succ, List.replicate_zero, List.cons_append, List.nil_append, List.drop_succ_cons, List.drop_zero, List.take_succ_cons, List.take_zero]
      go_wp2_with fail
      intro a H
      replace hs := H.size.trans hs
      replace hd : a.defers = [] := H.defers
      replace e1 : a.tmps[1]? = some _ := H.keep e1 rfl
      replace e2 : a.tmps[2]? = some _ := H.keep e2 rfl
      replace e5 : a.tmps[5]? = some _ := H.keep e5 rfl
      replace e6 : a.tmps[6]? = some _ := H.got rfl rfl
      have e29 : a.tmps[29]? = some _ := H.got rfl rfl
      clear H
      refine hKq8 _ _ ?_
      clear hKq8 Kq8
      refine wp_cond_true (slotE e29) ?_
      clear e29
      refine wp_seq_k fun Kq9 hKq9 => ?_
      refine sm_list [] 4 1 hs hd (by kernel_rfl) agN (by simp only [List.append_eq, List.cons_append, List.nil_append, List.map_cons, List.map_nil, reOper, reOp, reO, reC, reK, Option.map_some, Option.map_none, fS_ite, ix_ite, Nat.reduceLeDiff, Nat.reduceEqDiff, if_true, if_false, ↓reduceIte, List.length_cons, List.length_nil, Nat.reduceAdd, Nat.reduceSub, List.map_toArray]; rfl) ?_
      simp only [List.replicate_succ, List.replicate_zero, List.cons_append, List.nil_append, List.drop_succ_cons, List.drop_zero, List.take_succ_cons, List.take_zero]
      go_wp2_with fail
      intro a H
      replace hs := H.size.trans hs
      replace hd : a.defers = [] := H.defers
      replace e1 : a.tmps[1]? = some _ := H.keep e1 rfl
      replace e2 : a.tmps[2]? = some _ := H.keep e2 rfl
      replace e5 : a.tmps[5]? = some _ := H.keep e5 rfl
      replace e6 : a.tmps[6]? = some _ := H.keep e6 rfl
      have e4 : a.tmps[4]? = some _ := H.got rfl rfl
      clear H
      refine hKq9 _ _ ?_
      clear hKq9 Kq9
      refine wp_ret ?_
      refine exit_then rfl ?_
      exact sm_ret rfl hd e4 ⟨rfl, by rw [← HG.out]; exact L4⟩
    · subst hk
      have HMKa := Lib.hid hm
      clear hm HPa
      refine sm_list [6] 28 2 hs hd (by kernel_rfl) (agC e6 agN) (by simp only [List.append_eq, List.cons_append, List.nil_append, List.map_cons, List.map_nil, reOper, reOp, reO, reC, reK, Option.map_some, Option.map_none, fS_ite, ix_ite, Nat.reduceLeDiff, Nat.reduceEqDiff, if_true, if_false, ↓reduceIte, List.length_cons, List.length_nil, Nat.reduceAdd, Nat.reduceSub, List.map_toArray]; rfl) ?_
      simp only [List.replicate_succ, List.replicate_zero, List.cons_append, List.nil_append, List.drop_succ_cons, List.drop_zero, List.take_succ_cons, List.take_zero]
      go_wp2_with fail
      intro a H
      replace hs := H.size.trans hs
      replace hd : a.defers = [] := H.defers
      replace e1 : a.tmps[1]? = some _ := H.keep e1 rfl
      replace e2 : a.tmps[2]? = some _ := H.keep e2 rfl
      replace e5 : a.tmps[5]? = some _ := H.keep e5 rfl
      replace e6 : a.tmps[6]? = some _ := H.got rfl rfl
      have e29 : a.tmps[29]? = some _ := H.got rfl rfl
      clear H
      refine hKq8 _ _ ?_
      clear hKq8 Kq8
      refine wp_cond_false (slotE e29) ?_
      clear e29
      refine wp_skip ?_
      refine hKq7 _ _ ?_
      clear hKq7 Kq7
      refine wp_seq_k fun Kq9 hKq9 => ?_
      have OW4 := ownsRow_keep OWa Lxa
      clear BC3 hC3 L3 hba GTa Lxa hgda
      have hmx5 : g5 < w4.heap.size := Bpa.lt
      have hnzI : (C.flows.length : Int) ≠ 0 := by omega
      obtain ⟨x, hx, hx0, hx1⟩ := and_mask flow 10 1023 rfl (by omega)
      obtain ⟨i, hi⟩ : ∃ i : Nat, x.tmod (C.flows.length : Int) = (i : Int) := ⟨(x.tmod (C.flows.length : Int)).toNat, (Int.toNat_of_nonneg (Int.tmod_nonneg _ hx0)).symm⟩
      have hin : i < C.flows.length := by
        have h1 : x.tmod (C.flows.length : Int) < (C.flows.length : Int) := Int.tmod_lt_of_pos _ (by omega)
        omega
      have c2 := BC4.cellOf (v := .slice Y.F.A C.flows.length Y.F.c) 2 rfl
      refine sm_list [1, 2, 7] 30 6 hs hd (by kernel_rfl) (agC e1 (agC e2 (agU agN))) (by simp only [List.append_eq, List.cons_append, List.nil_append, List.map_cons, List.map_nil, reOper, reOp, reO, reC, reK, Option.map_some, Option.map_none, fS_ite, ix_ite, Nat.reduceLeDiff, Nat.reduceEqDiff, if_true, if_false, ↓reduceIte, List.length_cons, List.length_nil, Nat.reduceAdd, Nat.reduceSub, List.map_toArray]; rfl) ?_
      simp only [List.replicate_succ, List.replicate_zero, List.cons_append, List.nil_append, List.drop_succ_cons, List.drop_zero, List.take_succ_cons, List.take_zero]
      go_wp2_with fail
      intro a H
      replace hs := H.size.trans hs
      replace hd : a.defers = [] := H.defers
      replace e1 : a.tmps[1]? = some _ := H.got rfl rfl
      replace e2 : a.tmps[2]? = some _ := H.got rfl rfl
      replace e5 : a.tmps[5]? = some _ := H.keep e5 rfl
      replace e6 : a.tmps[6]? = some _ := H.keep e6 rfl
      have e7 : a.tmps[7]? = some _ := H.got rfl rfl
      clear H
      refine hKq9 _ _ ?_
      clear hKq9 Kq9
      refine wp_seq_k fun Kq10 hKq10 => ?_
      clear c2 hx hi hnzI hx0 hx1 x
      clear e1
      refine sm_list [2, 8] 36 1 hs hd (by kernel_rfl) (agC e2 (agU agN)) (by simp only [List.append_eq, List.cons_append, List.nil_append, List.map_cons, List.map_nil, reOper, reOp, reO, reC, reK, Option.map_some, Option.map_none, fS_ite, ix_ite, Nat.reduceLeDiff, Nat.reduceEqDiff, if_true, if_false, ↓reduceIte, List.length_cons, List.length_nil, Nat.reduceAdd, Nat.reduceSub, List.map_toArray]; rfl) ?_
      simp only [List.replicate_succ, List.replicate_zero, List.cons_append, List.nil_append, List.drop_succ_cons, List.drop_zero, List.take_succ_cons, List.take_zero]
      go_wp2_with (first | (refine wpList_load_any_d rfl 26 (.tmp 0) rfl ⟨g, 0, none⟩ rfl (cfc C Y) _ (blk_cells BC4) Try.underlying26 rfl (by kernel_rfl) ?_) | (refine wpList_store_new rfl 26 (.tmp 1) (.tmp 2) rfl rfl rfl rfl rfl (by kernel_rfl) (by rw [← Array.all_toList]; rfl) ?_) | fail)
      intro a H
      replace hs := H.size.trans hs
      replace hd : a.defers = [] := H.defers
      replace e2 : a.tmps[2]? = some _ := H.got rfl rfl
      replace e5 : a.tmps[5]? = some _ := H.keep e5 rfl
      replace e6 : a.tmps[6]? = some _ := H.keep e6 rfl
      replace e7 : a.tmps[7]? = some _ := H.keep e7 rfl
      have e8 : a.tmps[8]? = some _ := H.got rfl rfl
      clear H
      refine hKq10 _ _ ?_
      clear hKq10 Kq10
      refine wp_seq_k fun Kq11 hKq11 => ?_
      have G8B := Blk.new w4 26 (cfc C Y)
      have Lc : Below w4.heap.size w4 (w4.alloc (.cells (cfc C Y) 26)) := (Below.refl _ _).alloc (Nat.le_refl _) _
      obtain ⟨g8, hg8⟩ : ∃ q, q = w4.heap.size := ⟨_, rfl⟩
      rw [← hg8] at G8B e8
      have hzg8 : w4.heap.size ≤ g8 := Nat.le_of_eq hg8.symm
      generalize (w4.alloc (.cells (cfc C Y) 26)) = w5 at *
      clear hg8
      have L5 : Below g w w5 := L4.trans (Lc.mono (Nat.le_of_lt hgz4))
      have BC5 := BC4.kept Lc
      have hC5 := hC4.below (Lc.mono (Nat.le_of_lt hgz4))
      have hgz5 : g < w5.heap.size := BC5.lt
      have Bp5 := Bpa.kept Lc
      have OW5 := ownsRow_keep OW4 Lc
      have hz8 : g8 < w5.heap.size := G8B.lt
      have hg8g : g < g8 := by omega
      have hg58 : g5 < g8 := by omega
      clear BC4 hC4 L4 Lc Bpa OW4
      obtain ⟨ad, hAd⟩ : ∃ ad, Y.F.A = some ad := by
        obtain ⟨ad, h, _⟩ := hC5.flows.2 (by omega)
        exact ⟨ad, h⟩
      have hzl := hC5.zlen
      have hfr : Reads w5 g 8 (some ad) C.flows.length ((C.flows.zip Y.ws).flatMap fxc) := by rw [← hAd]; exact hC5.flows
      obtain ⟨hfc, hfm⟩ := HFIT.out.fc
      have hs1 := slice_take ad C.flows.length Y.F.c i (by omega)
      have hs2 := slice_drop ad C.flows.length Y.F.c i (by omega)
      obtain ⟨A2, hA2⟩ : ∃ A2, A2 = (if Y.F.c = i + 1 then some ad else some (ad.add ((i + 1) * 8))) := ⟨_, rfl⟩
      rw [← hA2] at hs2
      have hif := hA2.symm
      have hw1 : IntKind.i64.wrap ((i : Int) + 1) = (i : Int) + 1 := wrap64 (by omega) (by omega)
      have htn : ((i : Int) + 1).toNat = i + 1 := by omega
      have hp0 : (0 : Int) ≤ (i : Int) + 1 := by omega
      have hp1 : (i : Int) + 1 ≤ (C.flows.length : Int) := by omega
      have hr1 := reads_take fxc_len hfr (i := i) (by omega) hzl
      have hr2 := reads_drop fxc_len hfr (i := i + 1) (by omega) hzl (A := A2) (fun h => by rw [hA2, if_neg (by omega)])
      have HR1 := Lib.hid hr1
      have HR2 := Lib.hid hr2
      have HAD := Lib.hid hAd
      have HZL := Lib.hid hzl
      clear hr1 hr2 hA2 hfr hAd hzl
      unfold maxLen at hfm
      have hi0 : (0 : Int) ≤ (i : Int) := by omega
      have hi1 : (i : Int) < (C.flows.length : Int) := by omega
      have q2 := BC5.cellOf (v := .slice (some ad) C.flows.length Y.F.c) 2 (by simp [cfc, HAD.out])
      refine sm_any [2, 7, 8] 37 13 (by kernel_rfl) hs hd (by kernel_rfl) (agC e2 (agC e7 (agC e8 agN))) (by simp only [List.append_eq, List.cons_append, List.nil_append, List.map_cons, List.map_nil, reOper, reOp, reO, reC, reK, Option.map_some, Option.map_none, fS_ite, ix_ite, Nat.reduceLeDiff, Nat.reduceEqDiff, if_true, if_false, ↓reduceIte, List.length_cons, List.length_nil, Nat.reduceAdd, Nat.reduceSub, List.map_toArray]; rfl) (any_tree [13] (.take 1 (.take 2 (.take 3 (.take 4 (.take 6 (.take 7 (.take 8 (.take 9 (.take 10 (.one 0 (.one 5 (.one 11 (.take 12 (.wr 13 .nil)))))))))))))) (fun (w' : World) => Below w5.heap.size w5 w') (by kernel_rfl) (fun _ _ _ _ _ h => h) ((Below.refl _ _).drew) ?_)
      simp only [List.replicate_succ, List.replicate_zero, List.cons_append, List.nil_append, List.drop_succ_cons, List.drop_zero, List.take_succ_cons, List.take_zero]
      have hwd6 : Below w5.heap.size w5 w5.drew := (Below.refl _ _).drew
      obtain ⟨wd, hwd⟩ : ∃ wd, wd = w5.drew := ⟨_, rfl⟩
      rw [← hwd] at hwd6 ⊢
      clear hwd
      iterate 9 (first | (with_reducible (refine tr_take (v := ?_) rfl ?_ ?_ ?_); rotate_left; (first | exact wanted_none rfl | exact wanted_on rfl rfl rfl); (rintro w' u1; obtain ⟨hc, hf⟩ := bcell u1; go_simp; with_reducible rfl); simp only [Act.put, List.setIfInBounds_toArray, List.set_cons_zero, List.set_cons_succ]))
      have hz6d := hwd6.size
      have hA9 : Below w5.heap.size w5 (wd.alloc (.cells #[] 74)) := hwd6.alloc hz6d _
      have OA : (wd.alloc (.cells #[] 74)).ownsRow w5.heap.size 74 8 (.slice (some ⟨wd.heap.size, 0, none⟩) 0 0) 0 [] := ownsRow_new (size := 8) (n := 0) (cs := #[]) wd hz6d rfl (Nat.zero_le _)
      (with_reducible (refine tr_run (v := ?_) (w' := ?_) rfl ?_ ?_ ?_ ?_); rotate_left 2; (first | exact wanted_none rfl | exact wanted_on rfl rfl rfl); (go_simp; refine ⟨?_, ?_⟩ <;> with_reducible rfl); (exact hA9); simp only [Act.put, List.setIfInBounds_toArray, List.set_cons_zero, List.set_cons_succ])
      have hzA : w5.heap.size ≤ (wd.alloc (.cells #[] 74)).heap.size := hA9.size
      refine tr_pushR rfl rfl (.tmp 3) (.tmp 7) 24 rfl sty_flow rfl (HR1.out.below (hA9.mono (Nat.le_of_lt hgz5))) (fxc_one _) rfl OA (by omega) hzA ?_
      intro v7 w7 own7 gr7
      have L7 : Below w5.heap.size w5 w7 := hA9.trans (below_of_grown gr7 OA hzA)
      refine ⟨L7, ?_⟩
      simp only [Act.put, List.setIfInBounds_toArray, List.set_cons_zero, List.set_cons_succ]
      refine tr_pushR rfl rfl (.tmp 8) (.tmp 13) 24 rfl sty_flow rfl (HR2.out.below (L7.mono (Nat.le_of_lt hgz5))) (fxc_one _) rfl own7 (by omega) L7.size ?_
      intro v8 w8 own8 gr8
      obtain ⟨m, hm⟩ : ∃ m, m = 0 + i + (C.flows.length - (i + 1)) := ⟨_, rfl⟩
      rw [← hm] at own8
      have HM := Lib.hid hm
      clear hm
      have L8 : Below w5.heap.size w5 w8 := L7.trans (below_of_grown gr8 own7 L7.size)
      refine ⟨L8, ?_⟩
      simp only [Act.put, List.setIfInBounds_toArray, List.set_cons_zero, List.set_cons_succ]
      (with_reducible (refine tr_take (v := ?_) rfl ?_ ?_ ?_); rotate_left; (first | exact wanted_none rfl | exact wanted_on rfl rfl rfl); (rintro w' _;  go_simp; with_reducible rfl); simp only [Act.put, List.setIfInBounds_toArray, List.set_cons_zero, List.set_cons_succ])
      obtain ⟨Av, cv, rfl, _, _⟩ := ownsRow_reads own8
      have B88 := G8B.below L8 hz8
      have fz := B88.frozen
      have xl := B88.lt
      have xc := B88.cellOf (v := .slice (some ad) C.flows.length Y.F.c) 2 (by simp [cfc, HAD.out])
      have HO8 := Lib.hid own8
      have HL8 := Lib.hid L8
      clear own8 own7 OA gr7 gr8 hA9 hzA L7 L8
      (with_reducible (refine tr_wr (w' := ?_) rfl ?_ ?_ ?_); rotate_left; (first | exact wanted_none rfl | exact wanted_on rfl rfl rfl); (go_simp; with_reducible rfl); simp only [Act.put, List.setIfInBounds_toArray, List.set_cons_zero, List.set_cons_succ])
      refine tr_nil ?_
      intro a H
      replace hs := H.size.trans hs
      replace hd : a.defers = [] := H.defers
      replace e2 : a.tmps[2]? = some _ := H.got rfl rfl
      replace e5 : a.tmps[5]? = some _ := H.keep e5 rfl
      replace e6 : a.tmps[6]? = some _ := H.keep e6 rfl
      replace e7 : a.tmps[7]? = some _ := H.got rfl rfl
      replace e8 : a.tmps[8]? = some _ := H.got rfl rfl
      clear H
      refine hKq11 _ _ ?_
      clear hKq11 Kq11
      refine wp_seq_k fun Kq12 hKq12 => ?_
      clear hs1 hs2 hif hw1 htn hp0 hp1
      obtain ⟨L, hLe⟩ : ∃ L : List Fx, L = ((C.flows.zip Y.ws).take i ++ (C.flows.zip Y.ws).drop (i + 1)) := ⟨_, rfl⟩
      have hLl : L.length = m := by rw [hLe]; rw [List.length_append, List.length_take, List.length_drop, HZL.out, HM.out]; omega
      have hO : w8.ownsRow w5.heap.size 74 8 (.slice Av m cv) m (L.flatMap fxc) := by
        have h := HO8.out
        rw [hLe]
        simpa [List.flatMap_append] using h
      have gs : w8.grownBy (w8.setCell ⟨g8, 2, none⟩ (.slice Av m cv)) (some g8) := gr_set (grownBy_refl w8 _) 2 _
      have hO9 := own_kept hO gs (fun k hk e => by have := (ownsRow_lt hO k hk).1; injection e with e; omega)
      have B9 : Blk (w8.setCell ⟨g8, 2, none⟩ (.slice Av m cv)) g8 26 (cfc { C with flows := L.map (·.1) } { Y with F := ⟨Av, cv⟩, ws := L.map (·.2) }) := by
        have h := B88.set_ 2 (.slice Av m cv)
        have e : cfc { C with flows := L.map (·.1) } { Y with F := ⟨Av, cv⟩, ws := L.map (·.2) } = (cfc C Y).setIfInBounds 2 (.slice Av m cv) := by simp [cfc, hLl]
        rw [e]
        exact h
      have BC9 := (BC5.below HL8.out hgz5).grown gs (fun e => by injection e with e; omega)
      have B59 := (Bp5.below HL8.out Bp5.lt).grown gs (fun e => by injection e with e; omega)
      have OW8 := ownsRow_keep OW5 HL8.out
      have OW9 := own_kept OW8 gs (fun k hk e => by injection e with e; subst e; exact own_blk_ne OW8 B88 (by decide) hk)
      have hgg : g ≤ w8.heap.size := Nat.le_of_lt (Nat.lt_of_lt_of_le hgz5 HL8.out.size)
      have L59 : Below g w5 (w8.setCell ⟨g8, 2, none⟩ (.slice Av m cv)) := (HL8.out.mono (Nat.le_of_lt hgz5)).grown gs hgg (fun k hk => by cases hk; omega)
      have L9 := L5.trans L59
      have hsz9 : w8.heap.size ≤ (w8.setCell ⟨g8, 2, none⟩ (.slice Av m cv)).heap.size := gs.size
      generalize (w8.setCell ⟨g8, 2, none⟩ (.slice Av m cv)) = w9 at *
      have hgz9 : g < w9.heap.size := BC9.lt
      have hC9b := (hC5.below L59).more (Nat.le_of_lt hgz9)
      have hway : ∀ x ∈ L, WayR w9 w9.heap.size x := fun x hx => hC9b.way x (by rw [hLe] at hx; exact (List.mem_append.1 hx).elim List.mem_of_mem_take List.mem_of_mem_drop)
      have hC9 : CfAt w9 w9.heap.size { C with flows := L.map (·.1) } { Y with F := ⟨Av, cv⟩, ws := L.map (·.2) } := hC9b.swap cv (by rw [hLl]; exact Reads.of_own hO9) hway
      have HLL := Lib.hid hLe
      have HLM := Lib.hid hLl
      clear hLe hLl hO gs hgg L59 hC9b hway OW8 B88 xc xl fz HO8 HM HL8 hsz9
      have hfl : L.map (·.1) = C.flows.take i ++ C.flows.drop (i + 1) := by rw [HLL.out, List.map_append, List.map_take, List.map_drop, hC5.fst]
      obtain ⟨hWl, Sx, hmk2⟩ := make_less HMKa.out i
      rw [← hfl] at hmk2
      have HMK2 := Lib.hid hmk2
      have HWL := Lib.hid hWl
      clear hmk2 hWl hfl
      have HM := Lib.hid (make_any { C with flows := L.map (·.1) } { Y with F := ⟨Av, cv⟩, ws := L.map (·.2) } w9 hC9)
      refine sm_list [8, 9, 10] 50 5 hs hd (by kernel_rfl) (agC e8 (agU (agU agN))) (by simp only [List.append_eq, List.cons_append, List.nil_append, List.map_cons, List.map_nil, reOper, reOp, reO, reC, reK, Option.map_some, Option.map_none, fS_ite, ix_ite, Nat.reduceLeDiff, Nat.reduceEqDiff, if_true, if_false, ↓reduceIte, List.length_cons, List.length_nil, Nat.reduceAdd, Nat.reduceSub, List.map_toArray]; rfl) ?_
      simp only [List.replicate_succ, List.replicate_zero, List.cons_append, List.nil_append, List.drop_succ_cons, List.drop_zero, List.take_succ_cons, List.take_zero]
      go_wp2_with (first | (refine wpList_load_any_d rfl 26 (.tmp 0) rfl ⟨g8, 0, none⟩ rfl (cfc { C with flows := L.map (·.1) } { Y with F := ⟨Av, cv⟩, ws := L.map (·.2) }) _ (blk_cells B9) Try.underlying26 rfl (by kernel_rfl) ?_) | fail)
      refine HM.out.mono ?_
      intro e wx hmade
      obtain ⟨kb, offb, wvb, mvb, rfl, hbx, h1c, hpb⟩ := hmade.two
      have HPb := Lib.hid hpb
      have HBX := Lib.hid hbx
      clear hmade hpb hbx
      go_wp2_with (first | (refine wpList_store_new rfl 32 (.tmp 1) (.tmp 6) rfl rfl rfl rfl rfl (by kernel_rfl) h1c ?_) | fail)
      intro a H
      replace hs := H.size.trans hs
      replace hd : a.defers = [] := H.defers
      replace e2 : a.tmps[2]? = some _ := H.keep e2 rfl
      replace e5 : a.tmps[5]? = some _ := H.keep e5 rfl
      replace e6 : a.tmps[6]? = some _ := H.keep e6 rfl
      replace e7 : a.tmps[7]? = some _ := H.keep e7 rfl
      replace e8 : a.tmps[8]? = some _ := H.got rfl rfl
      have e9 : a.tmps[9]? = some _ := H.got rfl rfl
      have e10 : a.tmps[10]? = some _ := H.got rfl rfl
      clear H
      refine hKq12 _ _ ?_
      clear hKq12 Kq12
      refine wp_seq_k fun Kq13 hKq13 => ?_
      refine wp_seq_k fun Kq14 hKq14 => ?_
      have Bpb := Blk.new wx 32 #[.int .i64 offb, wvb, mvb]
      have hbb : Below w9.heap.size w9 (wx.alloc (.cells #[.int .i64 offb, wvb, mvb] 32)) := HBX.out.alloc HBX.out.size _
      have Lxb : Below wx.heap.size wx (wx.alloc (.cells #[.int .i64 offb, wvb, mvb] 32)) := (Below.refl _ _).alloc (Nat.le_refl _) _
      have hzxb : w9.heap.size ≤ wx.heap.size := HBX.out.size
      obtain ⟨g9, hgg9⟩ : ∃ q, q = wx.heap.size := ⟨_, rfl⟩
      rw [← hgg9] at Bpb e9
      have hzg9 : w9.heap.size ≤ g9 := by rw [hgg9]; exact HBX.out.size
      generalize (wx.alloc (.cells #[.int .i64 offb, wvb, mvb] 32)) = w10 at *
      obtain ⟨wXb, hwXb⟩ : ∃ q, q = wx := ⟨_, rfl⟩
      rw [← hwXb] at HPb Lxb
      clear hwXb hgg9 HM HBX h1c hzxb
      rcases HPb.out with ⟨hk, hm, _⟩ | ⟨rfl, hofb, Sb, Wb, B1b, gGb, mgb, fgb, hm, rfl, hGb, GTb, OWb, hgdb⟩
      · rw [HMK2.out] at hm; cases hm
      rw [HMK2.out] at hm
      cases hm
      have L10 : Below g w w10 := L9.trans (hbb.mono (Nat.le_of_lt hgz9))
      have B5z := B59.kept hbb
      obtain ⟨ow, how⟩ : ∃ o, o = offV C := ⟨_, rfl⟩
      have hofb2 : offb = ow := hofb.trans how.symm
      subst hofb2
      rw [← how] at B5z
      obtain ⟨A5, c5, rfl, _, hr5⟩ := ownsRow_reads OW9
      obtain ⟨A9, c9, rfl, _, hr9⟩ := ownsRow_reads OWb
      have hr5z := hr5.below hbb
      have hr9z := hr9.below Lxb
      obtain ⟨k, hk⟩ : ∃ k, k = (Wa.take i ++ Wa.drop (i + 1)).length := ⟨_, rfl⟩
      have hWn : Wa.length = C.flows.length := HWL.out
      have hkn : k + 1 = C.flows.length := by rw [hk, List.length_append, List.length_take, List.length_drop, hWn]; omega
      rw [← hk] at Bpb hr9z
      rw [hWn] at B5z hr5z
      have HK := Lib.hid hk
      have HWN := Lib.hid hWn
      clear hk hWn
      have d1 : ((k : Int) == (C.flows.length : Int) - 1) = true := by rw [beq_iff_eq]; omega
      have d2 : ((k : Int) != (C.flows.length : Int) - 1) = false := by rw [bne, d1]; rfl
      have y0 := B5z.cellOf (v := .int .i64 offb) 0 rfl
      have y1 := B5z.cellOf (v := .slice A5 C.flows.length c5) 1 rfl
      have z0 := Bpb.cellOf (v := .int .i64 offb) 0 rfl
      have z1 := Bpb.cellOf (v := .slice A9 k c9) 1 rfl
      have BCz := BC9.kept hbb
      have x2 := BCz.cellOf (v := .slice Y.F.A C.flows.length Y.F.c) 2 rfl
      refine sm_list [2, 5, 9, 10] 55 28 hs hd (by kernel_rfl) (agC e2 (agC e5 (agC e9 (agC e10 agN)))) (by simp only [List.append_eq, List.cons_append, List.nil_append, List.map_cons, List.map_nil, reOper, reOp, reO, reC, reK, Option.map_some, Option.map_none, fS_ite, ix_ite, Nat.reduceLeDiff, Nat.reduceEqDiff, if_true, if_false, ↓reduceIte, List.length_cons, List.length_nil, Nat.reduceAdd, Nat.reduceSub, List.map_toArray]; rfl) ?_
      simp only [List.replicate_succ, List.replicate_zero, List.cons_append, List.nil_append, List.drop_succ_cons, List.drop_zero, List.take_succ_cons, List.take_zero]
      go_wp2_with fail
      intro a H
      replace hs := H.size.trans hs
      replace hd : a.defers = [] := H.defers
      replace e2 : a.tmps[2]? = some _ := H.got rfl rfl
      replace e5 : a.tmps[5]? = some _ := H.got rfl rfl
      replace e6 : a.tmps[6]? = some _ := H.keep e6 rfl
      replace e7 : a.tmps[7]? = some _ := H.keep e7 rfl
      replace e8 : a.tmps[8]? = some _ := H.keep e8 rfl
      replace e9 : a.tmps[9]? = some _ := H.got rfl rfl
      replace e10 : a.tmps[10]? = some _ := H.got rfl rfl
      have e82 : a.tmps[82]? = some _ := H.got rfl rfl
      clear H
      refine hKq14 _ _ ?_
      clear hKq14 Kq14
      refine wp_cond_false (slotE e82) ?_
      clear e82
      refine wp_skip ?_
      refine hKq13 _ _ ?_
      clear hKq13 Kq13
      refine wp_seq_k fun Kq15 hKq15 => ?_
      refine wp_seq_k fun Kq16 hKq16 => ?_
      clear x2 y0 z0 d1 d2 BCz
      refine sm_list [9] 83 4 hs hd (by kernel_rfl) (agC e9 agN) (by simp only [List.append_eq, List.cons_append, List.nil_append, List.map_cons, List.map_nil, reOper, reOp, reO, reC, reK, Option.map_some, Option.map_none, fS_ite, ix_ite, Nat.reduceLeDiff, Nat.reduceEqDiff, if_true, if_false, ↓reduceIte, List.length_cons, List.length_nil, Nat.reduceAdd, Nat.reduceSub, List.map_toArray]; rfl) ?_
      simp only [List.replicate_succ, List.replicate_zero, List.cons_append, List.nil_append, List.drop_succ_cons, List.drop_zero, List.take_succ_cons, List.take_zero]
      go_wp2_with fail
      intro a H
      replace hs := H.size.trans hs
      replace hd : a.defers = [] := H.defers
      replace e2 : a.tmps[2]? = some _ := H.keep e2 rfl
      replace e5 : a.tmps[5]? = some _ := H.keep e5 rfl
      replace e6 : a.tmps[6]? = some _ := H.keep e6 rfl
      replace e7 : a.tmps[7]? = some _ := H.keep e7 rfl
      replace e8 : a.tmps[8]? = some _ := H.keep e8 rfl
      replace e9 : a.tmps[9]? = some _ := H.got rfl rfl
      replace e10 : a.tmps[10]? = some _ := H.keep e10 rfl
      have e85 : a.tmps[85]? = some _ := H.got rfl rfl
      have e86 : a.tmps[86]? = some _ := H.got rfl rfl
      clear H
      refine hKq16 _ _ ?_
      clear hKq16 Kq16
      refine wp_block ?_
      have hr9y := hr9z.more Lxb.size
      have hr5y := hr5z.more hbb.size
      clear e2
      clear e6
      clear e8
      clear e10
      have hg5z : g5 < w10.heap.size := B5z.lt
      have hg9z : g9 < w10.heap.size := Bpb.lt
      have hk20 : k ≤ 1000 := by omega
      refine wp_loop (fun a w' => ∃ j : Nat, j ≤ k ∧ a.tmps.size = 107 ∧ a.defers = [] ∧ a.tmps[5]? = some (.pointer (some ⟨g5, 0, none⟩)) ∧ a.tmps[7]? = some (.int .i64 (i : Int)) ∧ a.tmps[9]? = some (.pointer (some ⟨g9, 0, none⟩)) ∧ a.tmps[85]? = some (.int .i64 (k : Int)) ∧ a.tmps[86]? = some (.int .i64 (j : Int)) ∧ Below w10.heap.size w10 w') (fun a _ => k - (intOf (a.tmps.getD 86 undef)).toNat) ?_ ?_
      · exact ⟨0, Nat.zero_le _, hs, hd, e5, e7, e9, e85, e86, Below.refl _ _⟩
      clear hs hd e86 e5 e7 e9 e85 a
      rintro a w11 ⟨j, hj, hs, hd, e5, e7, e9, e85, e86, hb11⟩
      have hm := slot e86
      refine wp_seq_k fun Kq17 hKq17 => ?_
      by_cases hlt : j < k
      ·
        have dj : decide ((j : Int) < (k : Int)) = true := decide_eq_true (by omega)
        refine sm_list [85, 86] 87 1 hs hd (by kernel_rfl) (agC e85 (agC e86 agN)) (by simp only [List.append_eq, List.cons_append, List.nil_append, List.map_cons, List.map_nil, reOper, reOp, reO, reC, reK, Option.map_some, Option.map_none, fS_ite, ix_ite, Nat.reduceLeDiff, Nat.reduceEqDiff, if_true, if_false, ↓reduceIte, List.length_cons, List.length_nil, Nat.reduceAdd, Nat.reduceSub, List.map_toArray]; rfl) ?_
        simp only [List.replicate_succ, List.replicate_zero, List.cons_append, List.nil_append, List.drop_succ_cons, List.drop_zero, List.take_succ_cons, List.take_zero]
        go_wp2_with fail
        intro a H
        replace hs := H.size.trans hs
        replace hd : a.defers = [] := H.defers
        replace e5 : a.tmps[5]? = some _ := H.keep e5 rfl
        replace e7 : a.tmps[7]? = some _ := H.keep e7 rfl
        replace e9 : a.tmps[9]? = some _ := H.keep e9 rfl
        replace e85 : a.tmps[85]? = some _ := H.got rfl rfl
        replace e86 : a.tmps[86]? = some _ := H.got rfl rfl
        have e87 : a.tmps[87]? = some _ := H.got rfl rfl
        clear H
        refine hKq17 _ _ ?_
        clear hKq17 Kq17
        refine wp_seq_k fun Kq18 hKq18 => ?_
        refine wp_cond_true (slotE e87) ?_
        clear e87
        refine wp_skip ?_
        refine hKq18 _ _ ?_
        clear hKq18 Kq18
        refine wp_seq_k fun Kq19 hKq19 => ?_
        refine wp_block ?_
        refine wp_seq_k fun Kq20 hKq20 => ?_
        refine sm_list [11, 86] 88 1 hs hd (by kernel_rfl) (agU (agC e86 agN)) (by simp only [List.append_eq, List.cons_append, List.nil_append, List.map_cons, List.map_nil, reOper, reOp, reO, reC, reK, Option.map_some, Option.map_none, fS_ite, ix_ite, Nat.reduceLeDiff, Nat.reduceEqDiff, if_true, if_false, ↓reduceIte, List.length_cons, List.length_nil, Nat.reduceAdd, Nat.reduceSub, List.map_toArray]; rfl) ?_
        simp only [List.replicate_succ, List.replicate_zero, List.cons_append, List.nil_append, List.drop_succ_cons, List.drop_zero, List.take_succ_cons, List.take_zero]
        go_wp2_with fail
        intro a H
        replace hs := H.size.trans hs
        replace hd : a.defers = [] := H.defers
        replace e5 : a.tmps[5]? = some _ := H.keep e5 rfl
        replace e7 : a.tmps[7]? = some _ := H.keep e7 rfl
        replace e9 : a.tmps[9]? = some _ := H.keep e9 rfl
        replace e85 : a.tmps[85]? = some _ := H.keep e85 rfl
        replace e86 : a.tmps[86]? = some _ := H.got rfl rfl
        have e11 : a.tmps[11]? = some _ := H.got rfl rfl
        clear H
        refine hKq20 _ _ ?_
        clear hKq20 Kq20
        refine wp_seq_k fun Kq21 hKq21 => ?_
        refine sm_list [11, 12] 89 1 hs hd (by kernel_rfl) (agC e11 (agU agN)) (by simp only [List.append_eq, List.cons_append, List.nil_append, List.map_cons, List.map_nil, reOper, reOp, reO, reC, reK, Option.map_some, Option.map_none, fS_ite, ix_ite, Nat.reduceLeDiff, Nat.reduceEqDiff, if_true, if_false, ↓reduceIte, List.length_cons, List.length_nil, Nat.reduceAdd, Nat.reduceSub, List.map_toArray]; rfl) ?_
        simp only [List.replicate_succ, List.replicate_zero, List.cons_append, List.nil_append, List.drop_succ_cons, List.drop_zero, List.take_succ_cons, List.take_zero]
        go_wp2_with fail
        intro a H
        replace hs := H.size.trans hs
        replace hd : a.defers = [] := H.defers
        replace e5 : a.tmps[5]? = some _ := H.keep e5 rfl
        replace e7 : a.tmps[7]? = some _ := H.keep e7 rfl
        replace e9 : a.tmps[9]? = some _ := H.keep e9 rfl
        replace e85 : a.tmps[85]? = some _ := H.keep e85 rfl
        replace e86 : a.tmps[86]? = some _ := H.keep e86 rfl
        replace e11 : a.tmps[11]? = some _ := H.got rfl rfl
        have e12 : a.tmps[12]? = some _ := H.got rfl rfl
        clear H
        refine hKq21 _ _ ?_
        clear hKq21 Kq21
        refine wp_seq_k fun Kq22 hKq22 => ?_
        refine wp_seq_k fun Kq23 hKq23 => ?_
        by_cases hji : i ≤ j
        · have dg : decide ((i : Int) ≤ (j : Int)) = true := decide_eq_true (by omega)
          have dg2 : decide (i ≤ j) = true := decide_eq_true hji
          refine sm_list [7, 11] 90 3 hs hd (by kernel_rfl) (agC e7 (agC e11 agN)) (by simp only [List.append_eq, List.cons_append, List.nil_append, List.map_cons, List.map_nil, reOper, reOp, reO, reC, reK, Option.map_some, Option.map_none, fS_ite, ix_ite, Nat.reduceLeDiff, Nat.reduceEqDiff, if_true, if_false, ↓reduceIte, List.length_cons, List.length_nil, Nat.reduceAdd, Nat.reduceSub, List.map_toArray]; rfl) ?_
          simp only [List.replicate_succ, List.replicate_zero, List.cons_append, List.nil_append, List.drop_succ_cons, List.drop_zero, List.take_succ_cons, List.take_zero]
          go_wp2_with fail
          intro a H
          replace hs := H.size.trans hs
          replace hd : a.defers = [] := H.defers
          replace e5 : a.tmps[5]? = some _ := H.keep e5 rfl
          replace e7 : a.tmps[7]? = some _ := H.got rfl rfl
          replace e9 : a.tmps[9]? = some _ := H.keep e9 rfl
          replace e85 : a.tmps[85]? = some _ := H.keep e85 rfl
          replace e86 : a.tmps[86]? = some _ := H.keep e86 rfl
          replace e11 : a.tmps[11]? = some _ := H.got rfl rfl
          replace e12 : a.tmps[12]? = some _ := H.keep e12 rfl
          have e92 : a.tmps[92]? = some _ := H.got rfl rfl
          clear H
          refine hKq23 _ _ ?_
          clear hKq23 Kq23
          refine wp_cond_true (slotE e92) ?_
          clear e92
          refine sm_list [12] 93 2 hs hd (by kernel_rfl) (agC e12 agN) (by simp only [List.append_eq, List.cons_append, List.nil_append, List.map_cons, List.map_nil, reOper, reOp, reO, reC, reK, Option.map_some, Option.map_none, fS_ite, ix_ite, Nat.reduceLeDiff, Nat.reduceEqDiff, if_true, if_false, ↓reduceIte, List.length_cons, List.length_nil, Nat.reduceAdd, Nat.reduceSub, List.map_toArray]; rfl) ?_
          simp only [List.replicate_succ, List.replicate_zero, List.cons_append, List.nil_append, List.drop_succ_cons, List.drop_zero, List.take_succ_cons, List.take_zero]
          go_wp2_with fail
          intro a H
          replace hs := H.size.trans hs
          replace hd : a.defers = [] := H.defers
          replace e5 : a.tmps[5]? = some _ := H.keep e5 rfl
          replace e7 : a.tmps[7]? = some _ := H.keep e7 rfl
          replace e9 : a.tmps[9]? = some _ := H.keep e9 rfl
          replace e85 : a.tmps[85]? = some _ := H.keep e85 rfl
          replace e86 : a.tmps[86]? = some _ := H.keep e86 rfl
          replace e11 : a.tmps[11]? = some _ := H.keep e11 rfl
          replace e12 : a.tmps[12]? = some _ := H.got rfl rfl
          clear H
          refine hKq22 _ _ ?_
          clear hKq22 Kq22
          refine wp_seq_k fun Kq24 hKq24 => ?_
          clear dg dg2
          obtain ⟨x, hxb⟩ : ∃ x, (Wa.take i ++ Wa.drop (i + 1))[j]? = some x := ⟨_, List.getElem?_eq_getElem (by rw [← HK.out]; exact hlt)⟩
          have hxa : Wa[j + 1]? = some x := by
            rw [← hxb]
            rw [List.getElem?_append_right (by rw [List.length_take]; omega), List.getElem?_drop, List.length_take]; congr 1; have := HWN.out; omega
          obtain ⟨ad9, h9, hb9, hc9⟩ := reads_at spc_len (hr9y.below hb11) hxb hlt
          obtain ⟨ad5, h5, hb5, hc5⟩ := reads_at spc_len (hr5y.below hb11) hxa (by omega)
          have z1x := (hb11.cell (p := ⟨g9, 1, none⟩) hg9z).trans z1
          have y1x := (hb11.cell (p := ⟨g5, 1, none⟩) hg5z).trans y1
          rw [h9] at z1x
          rw [h5] at y1x
          have hg5w : g5 < w11.heap.size := Nat.lt_of_lt_of_le hg5z hb11.size
          have hg9w : g9 < w11.heap.size := Nat.lt_of_lt_of_le hg9z hb11.size
          have hszz := hb11.size
          have hneq := fun W => run_neq_win x x W
          simp only [decide_true, Bool.not_true] at hneq
          have HC9 : Hid (∀ w', Below w11.heap.size w11 w' → ∀ q v, (#[.int .i64 x.1, .int .i64 x.2] : Array Value).toList[q]? = some v → w'.cell? ((ad9.add (j * 2)).add q) = some v) := Lib.hid fun w' hw' q v hv => (hw'.cell (p := (ad9.add (j * 2)).add q) (by rw [add_blk, add_blk]; omega)).trans (hc9 q v hv)
          have HC5 : Hid (∀ w', Below w11.heap.size w11 w' → ∀ q v, (#[.int .i64 x.1, .int .i64 x.2] : Array Value).toList[q]? = some v → w'.cell? ((ad5.add ((j + 1) * 2)).add q) = some v) := Lib.hid fun w' hw' q v hv => (hw'.cell (p := (ad5.add ((j + 1) * 2)).add q) (by rw [add_blk, add_blk]; omega)).trans (hc5 q v hv)
          clear hc9 hc5 hxb hxa h9 h5
          have hat0 : (0 : Int) ≤ (j : Int) + 1 := by omega
          have hat1 : (j : Int) + 1 < (C.flows.length : Int) := by omega
          have hat2 : j + 1 < C.flows.length := by omega
          have hat3 : ((j : Int) + 1).toNat = j + 1 := by omega
          suffices HK : ∀ (a' : Act) (w12 : World), a'.tmps.size = a.tmps.size → a'.defers = [] → a'.tmps[5]? = a.tmps[5]? → a'.tmps[7]? = a.tmps[7]? → a'.tmps[9]? = a.tmps[9]? → a'.tmps[85]? = a.tmps[85]? → a'.tmps[86]? = a.tmps[86]? → a'.tmps[11]? = a.tmps[11]? → a'.tmps[12]? = a.tmps[12]? → a'.tmps[105]? = some (.bool false) → Below w11.heap.size w11 w12 → Kq24 a' w12 by
            refine sm_any [5, 9, 11, 12] 95 11 (by kernel_rfl) hs hd (by kernel_rfl) (agC e5 (agC e9 (agC e11 (agC e12 agN)))) (by simp only [List.append_eq, List.cons_append, List.nil_append, List.map_cons, List.map_nil, reOper, reOp, reO, reC, reK, Option.map_some, Option.map_none, fS_ite, ix_ite, Nat.reduceLeDiff, Nat.reduceEqDiff, if_true, if_false, ↓reduceIte, List.length_cons, List.length_nil, Nat.reduceAdd, Nat.reduceSub, List.map_toArray]; rfl) (any_class (fun w' => Below w11.heap.size w11 w') (by kernel_rfl) ((Below.refl _ _).drew) ?_)
            simp only [List.replicate_succ, List.replicate_zero, List.cons_append, List.nil_append, List.drop_succ_cons, List.drop_zero, List.take_succ_cons, List.take_zero]
            repeat (first | (with_reducible (refine wpQuiet_skip ?_ ?_); (first | exact wanted_off rfl rfl rfl rfl | exact wanted_off2 rfl rfl rfl); simp only [Act.put, List.setIfInBounds_toArray, List.set_cons_zero, List.set_cons_succ]) | (refine wpQuiet_val (v := .agg #[.int .i64 x.1, .int .i64 x.2]) ?_ (fun w' hw' => run_load_cells_d 52 (.tmp 7) rfl (ad9.add ((j) * 2)) rfl (#[.int .i64 x.1, .int .i64 x.2]) (HC9.out w' hw') Try.underlying52 rfl (by kernel_rfl)) ?_; (first | exact wanted_none rfl | exact wanted_on rfl rfl rfl); simp only [Act.put, List.setIfInBounds_toArray, List.set_cons_zero, List.set_cons_succ]) | (refine wpQuiet_val (v := .agg #[.int .i64 x.1, .int .i64 x.2]) ?_ (fun w' hw' => run_load_cells_d 52 (.tmp 12) rfl (ad5.add ((j + 1) * 2)) rfl (#[.int .i64 x.1, .int .i64 x.2]) (HC5.out w' hw') Try.underlying52 rfl (by kernel_rfl)) ?_; (first | exact wanted_none rfl | exact wanted_on rfl rfl rfl); simp only [Act.put, List.setIfInBounds_toArray, List.set_cons_zero, List.set_cons_succ]) | (with_reducible (refine wpQuiet_val (v := ?_) ?_ ?_ ?_); rotate_left; (first | exact wanted_none rfl | exact wanted_on rfl rfl rfl); (intro w' hw'; obtain ⟨hc, hf⟩ := bcell hw'; go_simp; with_reducible rfl); simp only [Act.put, List.setIfInBounds_toArray, List.set_cons_zero, List.set_cons_succ]))
            refine wpQuiet_nil ?_
            intro w12 hw6
            all_goals
              intro a' H
              refine HK a' _ H.size H.defers ((H.got rfl rfl).trans e5.symm) (H.out 7 rfl) ((H.got rfl rfl).trans e9.symm) (H.out 85 rfl) (H.out 86 rfl) ((H.got rfl rfl).trans e11.symm) ((H.got rfl rfl).trans e12.symm) ?_ ?_
              · exact H.got rfl rfl
              · exact hw6
          intro a' w12 g_s g_d g5 g7 g9 g85 g86 g11 g12 f105 hb12
          replace hs := g_s.trans hs
          replace hd := g_d
          replace e5 := g5.trans e5
          replace e7 := g7.trans e7
          replace e9 := g9.trans e9
          replace e85 := g85.trans e85
          replace e86 := g86.trans e86
          replace e11 := g11.trans e11
          replace e12 := g12.trans e12
          clear g_s g_d g5 g7 g9 g85 g86 g11 g12
          have e105 := f105
          clear f105
          clear a
          obtain ⟨a, rfl⟩ : ∃ a, a = a' := ⟨_, rfl⟩
          refine hKq24 _ _ ?_
          clear hKq24 Kq24
          refine wp_cond_false (slotE e105) ?_
          clear e105
          refine wp_skip ?_
          refine hKq19 _ _ ?_
          clear hKq19 Kq19
          clear e11
          clear e12
          refine sm_list [86] 106 1 hs hd (by kernel_rfl) (agC e86 agN) (by simp only [List.append_eq, List.cons_append, List.nil_append, List.map_cons, List.map_nil, reOper, reOp, reO, reC, reK, Option.map_some, Option.map_none, fS_ite, ix_ite, Nat.reduceLeDiff, Nat.reduceEqDiff, if_true, if_false, ↓reduceIte, List.length_cons, List.length_nil, Nat.reduceAdd, Nat.reduceSub, List.map_toArray]; rfl) ?_
          simp only [List.replicate_succ, List.replicate_zero, List.cons_append, List.nil_append, List.drop_succ_cons, List.drop_zero, List.take_succ_cons, List.take_zero]
          go_wp2_with fail
          intro a H
          replace hs := H.size.trans hs
          replace hd : a.defers = [] := H.defers
          replace e5 : a.tmps[5]? = some _ := H.keep e5 rfl
          replace e7 : a.tmps[7]? = some _ := H.keep e7 rfl
          replace e9 : a.tmps[9]? = some _ := H.keep e9 rfl
          replace e85 : a.tmps[85]? = some _ := H.keep e85 rfl
          replace e86 : a.tmps[86]? = some _ := H.got rfl rfl
          clear H
          exact ⟨⟨j + 1, by omega, hs, hd, e5, e7, e9, e85, e86, hb11.trans (hb12.mono hszz)⟩, by first | (simp only [hm, slot e86, intOf]; omega) | (simp [e86, intOf]; omega)⟩
        · have dg : decide ((i : Int) ≤ (j : Int)) = false := decide_eq_false (by omega)
          have dg2 : decide (i ≤ j) = false := decide_eq_false hji
          refine sm_list [7, 11] 90 3 hs hd (by kernel_rfl) (agC e7 (agC e11 agN)) (by simp only [List.append_eq, List.cons_append, List.nil_append, List.map_cons, List.map_nil, reOper, reOp, reO, reC, reK, Option.map_some, Option.map_none, fS_ite, ix_ite, Nat.reduceLeDiff, Nat.reduceEqDiff, if_true, if_false, ↓reduceIte, List.length_cons, List.length_nil, Nat.reduceAdd, Nat.reduceSub, List.map_toArray]; rfl) ?_
          simp only [List.replicate_succ, List.replicate_zero, List.cons_append, List.nil_append, List.drop_succ_cons, List.drop_zero, List.take_succ_cons, List.take_zero]
          go_wp2_with fail
          intro a H
          replace hs := H.size.trans hs
          replace hd : a.defers = [] := H.defers
          replace e5 : a.tmps[5]? = some _ := H.keep e5 rfl
          replace e7 : a.tmps[7]? = some _ := H.got rfl rfl
          replace e9 : a.tmps[9]? = some _ := H.keep e9 rfl
          replace e85 : a.tmps[85]? = some _ := H.keep e85 rfl
          replace e86 : a.tmps[86]? = some _ := H.keep e86 rfl
          replace e11 : a.tmps[11]? = some _ := H.got rfl rfl
          replace e12 : a.tmps[12]? = some _ := H.keep e12 rfl
          have e92 : a.tmps[92]? = some _ := H.got rfl rfl
          clear H
          refine hKq23 _ _ ?_
          clear hKq23 Kq23
          refine wp_cond_false (slotE e92) ?_
          clear e92
          refine wp_skip ?_
          refine hKq22 _ _ ?_
          clear hKq22 Kq22
          refine wp_seq_k fun Kq24 hKq24 => ?_
          clear dg dg2
          obtain ⟨x, hxb⟩ : ∃ x, (Wa.take i ++ Wa.drop (i + 1))[j]? = some x := ⟨_, List.getElem?_eq_getElem (by rw [← HK.out]; exact hlt)⟩
          have hxa : Wa[j]? = some x := by
            rw [← hxb]
            rw [List.getElem?_append_left (by rw [List.length_take]; have := HWN.out; omega), List.getElem?_take, if_pos (by omega)]
          obtain ⟨ad9, h9, hb9, hc9⟩ := reads_at spc_len (hr9y.below hb11) hxb hlt
          obtain ⟨ad5, h5, hb5, hc5⟩ := reads_at spc_len (hr5y.below hb11) hxa (by omega)
          have z1x := (hb11.cell (p := ⟨g9, 1, none⟩) hg9z).trans z1
          have y1x := (hb11.cell (p := ⟨g5, 1, none⟩) hg5z).trans y1
          rw [h9] at z1x
          rw [h5] at y1x
          have hg5w : g5 < w11.heap.size := Nat.lt_of_lt_of_le hg5z hb11.size
          have hg9w : g9 < w11.heap.size := Nat.lt_of_lt_of_le hg9z hb11.size
          have hszz := hb11.size
          have hneq := fun W => run_neq_win x x W
          simp only [decide_true, Bool.not_true] at hneq
          have HC9 : Hid (∀ w', Below w11.heap.size w11 w' → ∀ q v, (#[.int .i64 x.1, .int .i64 x.2] : Array Value).toList[q]? = some v → w'.cell? ((ad9.add (j * 2)).add q) = some v) := Lib.hid fun w' hw' q v hv => (hw'.cell (p := (ad9.add (j * 2)).add q) (by rw [add_blk, add_blk]; omega)).trans (hc9 q v hv)
          have HC5 : Hid (∀ w', Below w11.heap.size w11 w' → ∀ q v, (#[.int .i64 x.1, .int .i64 x.2] : Array Value).toList[q]? = some v → w'.cell? ((ad5.add ((j) * 2)).add q) = some v) := Lib.hid fun w' hw' q v hv => (hw'.cell (p := (ad5.add ((j) * 2)).add q) (by rw [add_blk, add_blk]; omega)).trans (hc5 q v hv)
          clear hc9 hc5 hxb hxa h9 h5
          have hat0 : (0 : Int) ≤ (j : Int) := by omega
          have hat1 : (j : Int) < (C.flows.length : Int) := by omega
          have hat2 : j < C.flows.length := by omega
          have hat3 : ((j : Int)).toNat = j := by omega
          suffices HK : ∀ (a' : Act) (w12 : World), a'.tmps.size = a.tmps.size → a'.defers = [] → a'.tmps[5]? = a.tmps[5]? → a'.tmps[7]? = a.tmps[7]? → a'.tmps[9]? = a.tmps[9]? → a'.tmps[85]? = a.tmps[85]? → a'.tmps[86]? = a.tmps[86]? → a'.tmps[11]? = a.tmps[11]? → a'.tmps[12]? = a.tmps[12]? → a'.tmps[105]? = some (.bool false) → Below w11.heap.size w11 w12 → Kq24 a' w12 by
            refine sm_any [5, 9, 11, 12] 95 11 (by kernel_rfl) hs hd (by kernel_rfl) (agC e5 (agC e9 (agC e11 (agC e12 agN)))) (by simp only [List.append_eq, List.cons_append, List.nil_append, List.map_cons, List.map_nil, reOper, reOp, reO, reC, reK, Option.map_some, Option.map_none, fS_ite, ix_ite, Nat.reduceLeDiff, Nat.reduceEqDiff, if_true, if_false, ↓reduceIte, List.length_cons, List.length_nil, Nat.reduceAdd, Nat.reduceSub, List.map_toArray]; rfl) (any_class (fun w' => Below w11.heap.size w11 w') (by kernel_rfl) ((Below.refl _ _).drew) ?_)
            simp only [List.replicate_succ, List.replicate_zero, List.cons_append, List.nil_append, List.drop_succ_cons, List.drop_zero, List.take_succ_cons, List.take_zero]
            repeat (first | (with_reducible (refine wpQuiet_skip ?_ ?_); (first | exact wanted_off rfl rfl rfl rfl | exact wanted_off2 rfl rfl rfl); simp only [Act.put, List.setIfInBounds_toArray, List.set_cons_zero, List.set_cons_succ]) | (refine wpQuiet_val (v := .agg #[.int .i64 x.1, .int .i64 x.2]) ?_ (fun w' hw' => run_load_cells_d 52 (.tmp 7) rfl (ad9.add ((j) * 2)) rfl (#[.int .i64 x.1, .int .i64 x.2]) (HC9.out w' hw') Try.underlying52 rfl (by kernel_rfl)) ?_; (first | exact wanted_none rfl | exact wanted_on rfl rfl rfl); simp only [Act.put, List.setIfInBounds_toArray, List.set_cons_zero, List.set_cons_succ]) | (refine wpQuiet_val (v := .agg #[.int .i64 x.1, .int .i64 x.2]) ?_ (fun w' hw' => run_load_cells_d 52 (.tmp 12) rfl (ad5.add ((j) * 2)) rfl (#[.int .i64 x.1, .int .i64 x.2]) (HC5.out w' hw') Try.underlying52 rfl (by kernel_rfl)) ?_; (first | exact wanted_none rfl | exact wanted_on rfl rfl rfl); simp only [Act.put, List.setIfInBounds_toArray, List.set_cons_zero, List.set_cons_succ]) | (with_reducible (refine wpQuiet_val (v := ?_) ?_ ?_ ?_); rotate_left; (first | exact wanted_none rfl | exact wanted_on rfl rfl rfl); (intro w' hw'; obtain ⟨hc, hf⟩ := bcell hw'; go_simp; with_reducible rfl); simp only [Act.put, List.setIfInBounds_toArray, List.set_cons_zero, List.set_cons_succ]))
            refine wpQuiet_nil ?_
            intro w12 hw6
            all_goals
              intro a' H
              refine HK a' _ H.size H.defers ((H.got rfl rfl).trans e5.symm) (H.out 7 rfl) ((H.got rfl rfl).trans e9.symm) (H.out 85 rfl) (H.out 86 rfl) ((H.got rfl rfl).trans e11.symm) ((H.got rfl rfl).trans e12.symm) ?_ ?_
              · exact H.got rfl rfl
              · exact hw6
          intro a' w12 g_s g_d g5 g7 g9 g85 g86 g11 g12 f105 hb12
          replace hs := g_s.trans hs
          replace hd := g_d
          replace e5 := g5.trans e5
          replace e7 := g7.trans e7
          replace e9 := g9.trans e9
          replace e85 := g85.trans e85
          replace e86 := g86.trans e86
          replace e11 := g11.trans e11
          replace e12 := g12.trans e12
          clear g_s g_d g5 g7 g9 g85 g86 g11 g12
          have e105 := f105
          clear f105
          clear a
          obtain ⟨a, rfl⟩ : ∃ a, a = a' := ⟨_, rfl⟩
          refine hKq24 _ _ ?_
          clear hKq24 Kq24
          refine wp_cond_false (slotE e105) ?_
          clear e105
          refine wp_skip ?_
          refine hKq19 _ _ ?_
          clear hKq19 Kq19
          clear e11
          clear e12
          refine sm_list [86] 106 1 hs hd (by kernel_rfl) (agC e86 agN) (by simp only [List.append_eq, List.cons_append, List.nil_append, List.map_cons, List.map_nil, reOper, reOp, reO, reC, reK, Option.map_some, Option.map_none, fS_ite, ix_ite, Nat.reduceLeDiff, Nat.reduceEqDiff, if_true, if_false, ↓reduceIte, List.length_cons, List.length_nil, Nat.reduceAdd, Nat.reduceSub, List.map_toArray]; rfl) ?_
          simp only [List.replicate_succ, List.replicate_zero, List.cons_append, List.nil_append, List.drop_succ_cons, List.drop_zero, List.take_succ_cons, List.take_zero]
          go_wp2_with fail
          intro a H
          replace hs := H.size.trans hs
          replace hd : a.defers = [] := H.defers
          replace e5 : a.tmps[5]? = some _ := H.keep e5 rfl
          replace e7 : a.tmps[7]? = some _ := H.keep e7 rfl
          replace e9 : a.tmps[9]? = some _ := H.keep e9 rfl
          replace e85 : a.tmps[85]? = some _ := H.keep e85 rfl
          replace e86 : a.tmps[86]? = some _ := H.got rfl rfl
          clear H
          exact ⟨⟨j + 1, by omega, hs, hd, e5, e7, e9, e85, e86, hb11.trans (hb12.mono hszz)⟩, by first | (simp only [hm, slot e86, intOf]; omega) | (simp [e86, intOf]; omega)⟩
      · obtain rfl : j = k := by omega
        have dj : decide ((j : Int) < (j : Int)) = false := decide_eq_false (by omega)
        clear hlt hm
        refine sm_list [85, 86] 87 1 hs hd (by kernel_rfl) (agC e85 (agC e86 agN)) (by simp only [List.append_eq, List.cons_append, List.nil_append, List.map_cons, List.map_nil, reOper, reOp, reO, reC, reK, Option.map_some, Option.map_none, fS_ite, ix_ite, Nat.reduceLeDiff, Nat.reduceEqDiff, if_true, if_false, ↓reduceIte, List.length_cons, List.length_nil, Nat.reduceAdd, Nat.reduceSub, List.map_toArray]; rfl) ?_
        simp only [List.replicate_succ, List.replicate_zero, List.cons_append, List.nil_append, List.drop_succ_cons, List.drop_zero, List.take_succ_cons, List.take_zero]
        go_wp2_with fail
        intro a H
        replace hs := H.size.trans hs
        replace hd : a.defers = [] := H.defers
        replace e5 : a.tmps[5]? = some _ := H.keep e5 rfl
        replace e7 : a.tmps[7]? = some _ := H.keep e7 rfl
        replace e9 : a.tmps[9]? = some _ := H.keep e9 rfl
        replace e85 : a.tmps[85]? = some _ := H.got rfl rfl
        replace e86 : a.tmps[86]? = some _ := H.got rfl rfl
        have e87 : a.tmps[87]? = some _ := H.got rfl rfl
        clear H
        refine hKq17 _ _ ?_
        clear hKq17 Kq17
        refine wp_seq_k fun Kq18 hKq18 => ?_
        refine wp_cond_false (slotE e87) ?_
        clear e87
        refine wp_exit ?_
        refine exit_then rfl ?_
        clear hKq18 Kq18
        refine exit_then rfl ?_
        refine exit_hit ?_
        refine hKq15 _ _ ?_
        clear hKq15 Kq15
        refine wp_seq_k fun Kq19 hKq19 => ?_
        refine sm_list [] 4 1 hs hd (by kernel_rfl) agN (by simp only [List.append_eq, List.cons_append, List.nil_append, List.map_cons, List.map_nil, reOper, reOp, reO, reC, reK, Option.map_some, Option.map_none, fS_ite, ix_ite, Nat.reduceLeDiff, Nat.reduceEqDiff, if_true, if_false, ↓reduceIte, List.length_cons, List.length_nil, Nat.reduceAdd, Nat.reduceSub, List.map_toArray]; rfl) ?_
        simp only [List.replicate_succ, List.replicate_zero, List.cons_append, List.nil_append, List.drop_succ_cons, List.drop_zero, List.take_succ_cons, List.take_zero]
        go_wp2_with fail
        intro a H
        replace hs := H.size.trans hs
        replace hd : a.defers = [] := H.defers
        replace e5 : a.tmps[5]? = some _ := H.keep e5 rfl
        replace e7 : a.tmps[7]? = some _ := H.keep e7 rfl
        replace e9 : a.tmps[9]? = some _ := H.keep e9 rfl
        replace e85 : a.tmps[85]? = some _ := H.keep e85 rfl
        replace e86 : a.tmps[86]? = some _ := H.keep e86 rfl
        have e4 : a.tmps[4]? = some _ := H.got rfl rfl
        clear H
        refine hKq19 _ _ ?_
        clear hKq19 Kq19
        refine wp_ret ?_
        exact sm_ret rfl hd e4 ⟨rfl, by rw [← HG.out]; exact L10.trans (hb11.mono (Nat.le_of_lt (Nat.lt_of_lt_of_le hgz9 hbb.size)))⟩
end Go.Proofs.Ytaegngcbiefckaa
