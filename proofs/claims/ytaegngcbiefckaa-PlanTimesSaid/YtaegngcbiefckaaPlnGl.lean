/-
  Lists of gates: Check, phase, slot.
-/
import Derived.Test.YtaegngcbiefckaaPlnTp
namespace Go.Proofs.Ytaegngcbiefckaa
set_option linter.unusedSimpArgs false
set_option linter.unusedVariables false
open Go.RowKit Go.WideShapes Go.ChangeShapes
attribute [local go_sem ↓] Go.wp_at_zero Go.wp_at_succ

set_option maxRecDepth 100000 in
set_option maxHeartbeats 4000000 in
theorem check_l (t : List (Int × Int)) (cyc : Int) (A : Option Addr) (c : Nat) (w : World) (hr : Reads w w.heap.size 2 A t.length (t.flatMap spc)) (hG : Gd t cyc) :
    Calls Try.prog 30 #[.agg #[.int .i64 0, .int .i64 cyc, .slice A t.length c]] w fun e w' => e = .returned (.int .i64 0) ∧ Below w.heap.size w w' := by
  have HGD := Lib.hid hG
  have hc1 := hG.c1
  have hc2 := hG.c2
  have hl1 := hG.l1
  have hl2 := hG.l2
  clear hG
  refine calls_sm (N := 70) Try.func30 rfl (by kernel_rfl) ?_
  intro a hs hd ha
  have e0 : a.tmps[0]? = some (.agg #[.int .i64 0, .int .i64 cyc, .slice A t.length c]) := ha 0 _ rfl
  clear ha
  conv => arg 2; whnf
  refine wp_seq_k fun Kq1 hKq1 => ?_
  refine sm_list [0] 1 2 hs hd (by kernel_rfl) (agC e0 agN) (by simp only [List.append_eq, List.cons_append, List.nil_append, List.map_cons, List.map_nil, reOper, reOp, reO, reC, reK, Option.map_some, Option.map_none, fS_ite, ix_ite, Nat.reduceLeDiff, Nat.reduceEqDiff, if_true, if_false, ↓reduceIte, List.length_cons, List.length_nil, Nat.reduceAdd, Nat.reduceSub, List.map_toArray]; rfl) ?_
  simp only [List.replicate_succ, List.replicate_zero, List.cons_append, List.nil_append, List.drop_succ_cons, List.drop_zero, List.take_succ_cons, List.take_zero]
  go_wp2_with fail
  intro a H
  replace hs := H.size.trans hs
  replace hd : a.defers = [] := H.defers
  clear e0
  have e1 : a.tmps[1]? = some _ := H.got rfl rfl
  clear H
  refine hKq1 _ _ ?_
  clear hKq1 Kq1
  refine wp_seq_k fun Kq2 hKq2 => ?_
  refine wp_block ?_
  refine wp_seq_k fun Kq3 hKq3 => ?_
  have BL := Blk.new w 58 #[.int .i64 0, .int .i64 cyc, .slice A t.length c]
  have L1 : Below w.heap.size w (w.alloc (.cells #[.int .i64 0, .int .i64 cyc, .slice A t.length c] 58)) := (Below.refl _ _).alloc (Nat.le_refl _) _
  have hr1 := (hr.below L1)
  have hz1 : w.heap.size < (w.alloc (.cells #[.int .i64 0, .int .i64 cyc, .slice A t.length c] 58)).heap.size := by simp
  generalize (w.alloc (.cells #[.int .i64 0, .int .i64 cyc, .slice A t.length c] 58)) = w1 at *
  obtain ⟨g, hg⟩ : ∃ q, q = w.heap.size := ⟨_, rfl⟩
  rw [← hg] at BL L1 hr1 hz1 e1
  have HG := Lib.hid hg
  clear hg hr
  have k2 := BL.cellOf (v := .slice A t.length c) 2 rfl
  have k1 := BL.cellOf (v := .int .i64 cyc) 1 rfl
  have k0 := BL.cellOf (v := .int .i64 0) 0 rfl
  have d1 : decide ((64 : Int) < (t.length : Int)) = false := decide_eq_false (by omega)
  have d1n : decide (64 < t.length) = false := decide_eq_false (by omega)
  have d2 : ((t.length : Int) == 0) = false := beq_eq_false_iff_ne.2 (by omega)
  have d2n : ¬ (t.length = 0) := by omega
  have d3 : decide (cyc < 1) = false := decide_eq_false (by omega)
  have d4 : decide (1073741824 < cyc) = false := decide_eq_false (by omega)
  refine sm_list [1] 6 5 hs hd (by kernel_rfl) (agC e1 agN) (by simp only [List.append_eq, List.cons_append, List.nil_append, List.map_cons, List.map_nil, reOper, reOp, reO, reC, reK, Option.map_some, Option.map_none, fS_ite, ix_ite, Nat.reduceLeDiff, Nat.reduceEqDiff, if_true, if_false, ↓reduceIte, List.length_cons, List.length_nil, Nat.reduceAdd, Nat.reduceSub, List.map_toArray]; rfl) ?_
  simp only [List.replicate_succ, List.replicate_zero, List.cons_append, List.nil_append, List.drop_succ_cons, List.drop_zero, List.take_succ_cons, List.take_zero]
  go_wp2_with fail
  intro a H
  replace hs := H.size.trans hs
  replace hd : a.defers = [] := H.defers
  replace e1 : a.tmps[1]? = some _ := H.got rfl rfl
  have e6 : a.tmps[6]? = some _ := H.got rfl rfl
  clear H
  refine hKq3 _ _ ?_
  clear hKq3 Kq3
  refine wp_cond_false (slotE e6) ?_
  clear e6
  refine wp_seq_k fun Kq4 hKq4 => ?_
  refine sm_list [1] 11 25 hs hd (by kernel_rfl) (agC e1 agN) (by simp only [List.append_eq, List.cons_append, List.nil_append, List.map_cons, List.map_nil, reOper, reOp, reO, reC, reK, Option.map_some, Option.map_none, fS_ite, ix_ite, Nat.reduceLeDiff, Nat.reduceEqDiff, if_true, if_false, ↓reduceIte, List.length_cons, List.length_nil, Nat.reduceAdd, Nat.reduceSub, List.map_toArray]; rfl) ?_
  simp only [List.replicate_succ, List.replicate_zero, List.cons_append, List.nil_append, List.drop_succ_cons, List.drop_zero, List.take_succ_cons, List.take_zero]
  go_wp2_with fail
  intro a H
  replace hs := H.size.trans hs
  replace hd : a.defers = [] := H.defers
  replace e1 : a.tmps[1]? = some _ := H.got rfl rfl
  have e11 : a.tmps[11]? = some _ := H.got rfl rfl
  clear H
  refine hKq4 _ _ ?_
  clear hKq4 Kq4
  refine wp_cond_false (slotE e11) ?_
  clear e11
  refine wp_skip ?_
  refine hKq2 _ _ ?_
  clear hKq2 Kq2
  refine wp_seq_k fun Kq5 hKq5 => ?_
  clear d1 d1n d2 d2n d3 d4 k1 k0
  refine sm_list [] 3 1 hs hd (by kernel_rfl) agN (by simp only [List.append_eq, List.cons_append, List.nil_append, List.map_cons, List.map_nil, reOper, reOp, reO, reC, reK, Option.map_some, Option.map_none, fS_ite, ix_ite, Nat.reduceLeDiff, Nat.reduceEqDiff, if_true, if_false, ↓reduceIte, List.length_cons, List.length_nil, Nat.reduceAdd, Nat.reduceSub, List.map_toArray]; rfl) ?_
  simp only [List.replicate_succ, List.replicate_zero, List.cons_append, List.nil_append, List.drop_succ_cons, List.drop_zero, List.take_succ_cons, List.take_zero]
  go_wp2_with fail
  intro a H
  replace hs := H.size.trans hs
  replace hd : a.defers = [] := H.defers
  replace e1 : a.tmps[1]? = some _ := H.keep e1 rfl
  have e3 : a.tmps[3]? = some _ := H.got rfl rfl
  clear H
  refine hKq5 _ _ ?_
  clear hKq5 Kq5
  refine wp_seq_k fun Kq6 hKq6 => ?_
  refine wp_seq_k fun Kq7 hKq7 => ?_
  refine sm_list [1] 36 4 hs hd (by kernel_rfl) (agC e1 agN) (by simp only [List.append_eq, List.cons_append, List.nil_append, List.map_cons, List.map_nil, reOper, reOp, reO, reC, reK, Option.map_some, Option.map_none, fS_ite, ix_ite, Nat.reduceLeDiff, Nat.reduceEqDiff, if_true, if_false, ↓reduceIte, List.length_cons, List.length_nil, Nat.reduceAdd, Nat.reduceSub, List.map_toArray]; rfl) ?_
  simp only [List.replicate_succ, List.replicate_zero, List.cons_append, List.nil_append, List.drop_succ_cons, List.drop_zero, List.take_succ_cons, List.take_zero]
  go_wp2_with fail
  intro a H
  replace hs := H.size.trans hs
  replace hd : a.defers = [] := H.defers
  replace e1 : a.tmps[1]? = some _ := H.got rfl rfl
  replace e3 : a.tmps[3]? = some _ := H.keep e3 rfl
  have e37 : a.tmps[37]? = some _ := H.got rfl rfl
  have e38 : a.tmps[38]? = some _ := H.got rfl rfl
  have e39 : a.tmps[39]? = some _ := H.got rfl rfl
  clear H
  refine hKq7 _ _ ?_
  clear hKq7 Kq7
  refine wp_block ?_
  clear k2
  refine wp_loop (fun a w' => ∃ j : Nat, j ≤ t.length ∧ a.tmps.size = 70 ∧ a.defers = [] ∧ a.tmps[1]? = some (.pointer (some ⟨g, 0, none⟩)) ∧ a.tmps[37]? = some (.slice A t.length c) ∧ a.tmps[38]? = some (.int .i64 (t.length : Int)) ∧ a.tmps[39]? = some (.int .i64 (j : Int)) ∧ a.tmps[3]? = some (.int .i64 (preS t j)) ∧ Below w1.heap.size w1 w') (fun a _ => t.length - (intOf (a.tmps.getD 39 undef)).toNat) ?_ ?_
  · exact ⟨0, Nat.zero_le _, hs, hd, e1, e37, e38, e39, e3, Below.refl _ _⟩
  clear hs hd e39 e3 e1 e37 e38 a
  rintro a w3 ⟨j, hj, hs, hd, e1, e37, e38, e39, e3, hb⟩
  have hm := slot e39
  refine wp_seq_k fun Kq8 hKq8 => ?_
  by_cases hlt : j < t.length
  ·
    have dj : decide ((j : Int) < (t.length : Int)) = true := decide_eq_true (by omega)
    obtain ⟨s, hsx⟩ : ∃ s, t[j]? = some s := ⟨_, List.getElem?_eq_getElem hlt⟩
    obtain ⟨ho, hl⟩ := HGD.out.o s (List.mem_of_getElem? hsx)
    have hps := preS_succ hsx
    have hpb := HGD.out.pre (i := j + 1) (by omega)
    have hp0 := HGD.out.pre (i := j) (by omega)
    obtain ⟨q, hq⟩ : ∃ q, q = preS t j := ⟨_, rfl⟩
    rw [← hq] at e3 hps hp0
    rw [hps] at hpb
    have HPS := Lib.hid hps
    clear hq hps
    obtain ⟨ad, hA, hadb, hcl⟩ := reads_at spc_len (hr1.below (hb.mono (Nat.le_of_lt hz1))) hsx hlt
    have HA := Lib.hid hA
    have HCL := Lib.hid hcl
    clear hA hcl hsx
    rw [HA.out] at e37
    have B5 := Blk.new w3 67 #[.int .i64 s.1, .int .i64 s.2]
    have hb4 := hb.alloc hb.size (.cells #[.int .i64 s.1, .int .i64 s.2] 67)
    have BL4 := (BL.below hb hz1).alloc (.cells #[.int .i64 s.1, .int .i64 s.2] 67)
    refine sm_list [38, 39] 40 1 hs hd (by kernel_rfl) (agC e38 (agC e39 agN)) (by simp only [List.append_eq, List.cons_append, List.nil_append, List.map_cons, List.map_nil, reOper, reOp, reO, reC, reK, Option.map_some, Option.map_none, fS_ite, ix_ite, Nat.reduceLeDiff, Nat.reduceEqDiff, if_true, if_false, ↓reduceIte, List.length_cons, List.length_nil, Nat.reduceAdd, Nat.reduceSub, List.map_toArray]; rfl) ?_
    simp only [List.replicate_succ, List.replicate_zero, List.cons_append, List.nil_append, List.drop_succ_cons, List.drop_zero, List.take_succ_cons, List.take_zero]
    go_wp2_with fail
    intro a H
    replace hs := H.size.trans hs
    replace hd : a.defers = [] := H.defers
    replace e1 : a.tmps[1]? = some _ := H.keep e1 rfl
    replace e37 : a.tmps[37]? = some _ := H.keep e37 rfl
    replace e38 : a.tmps[38]? = some _ := H.got rfl rfl
    replace e39 : a.tmps[39]? = some _ := H.got rfl rfl
    replace e3 : a.tmps[3]? = some _ := H.keep e3 rfl
    have e40 : a.tmps[40]? = some _ := H.got rfl rfl
    clear H
    refine hKq8 _ _ ?_
    clear hKq8 Kq8
    refine wp_seq_k fun Kq9 hKq9 => ?_
    refine wp_cond_true (slotE e40) ?_
    clear e40
    refine wp_skip ?_
    refine hKq9 _ _ ?_
    clear hKq9 Kq9
    refine wp_seq_k fun Kq10 hKq10 => ?_
    refine wp_block ?_
    refine wp_seq_k fun Kq11 hKq11 => ?_
    refine sm_list [5, 37, 39] 41 2 hs hd (by kernel_rfl) (agU (agC e37 (agC e39 agN))) (by simp only [List.append_eq, List.cons_append, List.nil_append, List.map_cons, List.map_nil, reOper, reOp, reO, reC, reK, Option.map_some, Option.map_none, fS_ite, ix_ite, Nat.reduceLeDiff, Nat.reduceEqDiff, if_true, if_false, ↓reduceIte, List.length_cons, List.length_nil, Nat.reduceAdd, Nat.reduceSub, List.map_toArray]; rfl) ?_
    simp only [List.replicate_succ, List.replicate_zero, List.cons_append, List.nil_append, List.drop_succ_cons, List.drop_zero, List.take_succ_cons, List.take_zero]
    go_wp2_with (first | (refine wpList_load_any_d rfl 67 (.tmp 3) rfl (ad.add (j * 2)) rfl (#[.int .i64 s.1, .int .i64 s.2]) _ (fun i u hu => HCL.out i u hu) Try.underlying67 rfl (by kernel_rfl) ?_) | (refine wpList_store_new rfl 67 (.tmp 0) (.tmp 4) rfl rfl rfl rfl rfl (by kernel_rfl) (by rw [← Array.all_toList]; rfl) ?_) | fail)
    intro a H
    replace hs := H.size.trans hs
    replace hd : a.defers = [] := H.defers
    replace e1 : a.tmps[1]? = some _ := H.keep e1 rfl
    replace e37 : a.tmps[37]? = some _ := H.got rfl rfl
    replace e38 : a.tmps[38]? = some _ := H.keep e38 rfl
    replace e39 : a.tmps[39]? = some _ := H.got rfl rfl
    replace e3 : a.tmps[3]? = some _ := H.keep e3 rfl
    have e5 : a.tmps[5]? = some _ := H.got rfl rfl
    clear H
    refine hKq11 _ _ ?_
    clear hKq11 Kq11
    refine wp_seq_k fun Kq12 hKq12 => ?_
    refine wp_seq_k fun Kq13 hKq13 => ?_
    rw [← HA.out] at e37
    obtain ⟨g5, hg5⟩ : ∃ q, q = w3.heap.size := ⟨_, rfl⟩
    rw [← hg5] at B5 e5
    generalize w3.alloc (.cells #[.int .i64 s.1, .int .i64 s.2] 67) = w4 at *
    clear hg5
    have y0 := B5.cellOf (v := .int .i64 s.1) 0 rfl
    have y1 := B5.cellOf (v := .int .i64 s.2) 1 rfl
    have k1 := BL4.cellOf (v := .int .i64 cyc) 1 rfl
    have d1 : decide (s.1 < 0) = false := decide_eq_false (by omega)
    have d2 : decide (255 < s.1) = false := decide_eq_false (by omega)
    have d3 : decide (s.2 < 1) = false := decide_eq_false (by omega)
    have d4 : decide (1073741824 < s.2) = false := decide_eq_false (by omega)
    have d5 : decide (cyc < q + s.2) = false := decide_eq_false (by omega)
    refine sm_list [5] 43 18 hs hd (by kernel_rfl) (agC e5 agN) (by simp only [List.append_eq, List.cons_append, List.nil_append, List.map_cons, List.map_nil, reOper, reOp, reO, reC, reK, Option.map_some, Option.map_none, fS_ite, ix_ite, Nat.reduceLeDiff, Nat.reduceEqDiff, if_true, if_false, ↓reduceIte, List.length_cons, List.length_nil, Nat.reduceAdd, Nat.reduceSub, List.map_toArray]; rfl) ?_
    simp only [List.replicate_succ, List.replicate_zero, List.cons_append, List.nil_append, List.drop_succ_cons, List.drop_zero, List.take_succ_cons, List.take_zero]
    go_wp2_with fail
    intro a H
    replace hs := H.size.trans hs
    replace hd : a.defers = [] := H.defers
    replace e1 : a.tmps[1]? = some _ := H.keep e1 rfl
    replace e37 : a.tmps[37]? = some _ := H.keep e37 rfl
    replace e38 : a.tmps[38]? = some _ := H.keep e38 rfl
    replace e39 : a.tmps[39]? = some _ := H.keep e39 rfl
    replace e3 : a.tmps[3]? = some _ := H.keep e3 rfl
    replace e5 : a.tmps[5]? = some _ := H.got rfl rfl
    have e60 : a.tmps[60]? = some _ := H.got rfl rfl
    clear H
    refine hKq13 _ _ ?_
    clear hKq13 Kq13
    refine wp_cond_false (slotE e60) ?_
    clear e60
    refine wp_skip ?_
    refine hKq12 _ _ ?_
    clear hKq12 Kq12
    refine wp_seq_k fun Kq14 hKq14 => ?_
    refine sm_list [3, 5] 61 4 hs hd (by kernel_rfl) (agC e3 (agC e5 agN)) (by simp only [List.append_eq, List.cons_append, List.nil_append, List.map_cons, List.map_nil, reOper, reOp, reO, reC, reK, Option.map_some, Option.map_none, fS_ite, ix_ite, Nat.reduceLeDiff, Nat.reduceEqDiff, if_true, if_false, ↓reduceIte, List.length_cons, List.length_nil, Nat.reduceAdd, Nat.reduceSub, List.map_toArray]; rfl) ?_
    simp only [List.replicate_succ, List.replicate_zero, List.cons_append, List.nil_append, List.drop_succ_cons, List.drop_zero, List.take_succ_cons, List.take_zero]
    go_wp2_with fail
    intro a H
    replace hs := H.size.trans hs
    replace hd : a.defers = [] := H.defers
    replace e1 : a.tmps[1]? = some _ := H.keep e1 rfl
    replace e37 : a.tmps[37]? = some _ := H.keep e37 rfl
    replace e38 : a.tmps[38]? = some _ := H.keep e38 rfl
    replace e39 : a.tmps[39]? = some _ := H.keep e39 rfl
    replace e5 : a.tmps[5]? = some _ := H.got rfl rfl
    replace e3 : a.tmps[3]? = some _ := H.got rfl rfl
    clear H
    refine hKq14 _ _ ?_
    clear hKq14 Kq14
    refine wp_seq_k fun Kq15 hKq15 => ?_
    refine sm_list [1, 3] 65 4 hs hd (by kernel_rfl) (agC e1 (agC e3 agN)) (by simp only [List.append_eq, List.cons_append, List.nil_append, List.map_cons, List.map_nil, reOper, reOp, reO, reC, reK, Option.map_some, Option.map_none, fS_ite, ix_ite, Nat.reduceLeDiff, Nat.reduceEqDiff, if_true, if_false, ↓reduceIte, List.length_cons, List.length_nil, Nat.reduceAdd, Nat.reduceSub, List.map_toArray]; rfl) ?_
    simp only [List.replicate_succ, List.replicate_zero, List.cons_append, List.nil_append, List.drop_succ_cons, List.drop_zero, List.take_succ_cons, List.take_zero]
    go_wp2_with fail
    intro a H
    replace hs := H.size.trans hs
    replace hd : a.defers = [] := H.defers
    replace e1 : a.tmps[1]? = some _ := H.got rfl rfl
    replace e37 : a.tmps[37]? = some _ := H.keep e37 rfl
    replace e38 : a.tmps[38]? = some _ := H.keep e38 rfl
    replace e39 : a.tmps[39]? = some _ := H.keep e39 rfl
    replace e5 : a.tmps[5]? = some _ := H.keep e5 rfl
    replace e3 : a.tmps[3]? = some _ := H.got rfl rfl
    have e68 : a.tmps[68]? = some _ := H.got rfl rfl
    clear H
    refine hKq15 _ _ ?_
    clear hKq15 Kq15
    refine wp_cond_false (slotE e68) ?_
    clear e68
    refine wp_skip ?_
    refine hKq10 _ _ ?_
    clear hKq10 Kq10
    clear d1 d2 d3 d4 d5 y0 y1 k1
    rw [← HPS.out] at e3
    clear e5
    refine sm_list [39] 69 1 hs hd (by kernel_rfl) (agC e39 agN) (by simp only [List.append_eq, List.cons_append, List.nil_append, List.map_cons, List.map_nil, reOper, reOp, reO, reC, reK, Option.map_some, Option.map_none, fS_ite, ix_ite, Nat.reduceLeDiff, Nat.reduceEqDiff, if_true, if_false, ↓reduceIte, List.length_cons, List.length_nil, Nat.reduceAdd, Nat.reduceSub, List.map_toArray]; rfl) ?_
    simp only [List.replicate_succ, List.replicate_zero, List.cons_append, List.nil_append, List.drop_succ_cons, List.drop_zero, List.take_succ_cons, List.take_zero]
    go_wp2_with fail
    intro a H
    replace hs := H.size.trans hs
    replace hd : a.defers = [] := H.defers
    replace e1 : a.tmps[1]? = some _ := H.keep e1 rfl
    replace e37 : a.tmps[37]? = some _ := H.keep e37 rfl
    replace e38 : a.tmps[38]? = some _ := H.keep e38 rfl
    replace e3 : a.tmps[3]? = some _ := H.keep e3 rfl
    replace e39 : a.tmps[39]? = some _ := H.got rfl rfl
    clear H
    exact ⟨⟨j + 1, by omega, hs, hd, e1, e37, e38, e39, e3, hb4⟩, by first | (simp only [hm, slot e39, intOf]; omega) | (simp [e39, intOf]; omega)⟩
  · obtain rfl : j = t.length := by omega
    have dj : decide ((t.length : Int) < (t.length : Int)) = false := decide_eq_false (by omega)
    clear hlt hm
    refine sm_list [38, 39] 40 1 hs hd (by kernel_rfl) (agC e38 (agC e39 agN)) (by simp only [List.append_eq, List.cons_append, List.nil_append, List.map_cons, List.map_nil, reOper, reOp, reO, reC, reK, Option.map_some, Option.map_none, fS_ite, ix_ite, Nat.reduceLeDiff, Nat.reduceEqDiff, if_true, if_false, ↓reduceIte, List.length_cons, List.length_nil, Nat.reduceAdd, Nat.reduceSub, List.map_toArray]; rfl) ?_
    simp only [List.replicate_succ, List.replicate_zero, List.cons_append, List.nil_append, List.drop_succ_cons, List.drop_zero, List.take_succ_cons, List.take_zero]
    go_wp2_with fail
    intro a H
    replace hs := H.size.trans hs
    replace hd : a.defers = [] := H.defers
    replace e1 : a.tmps[1]? = some _ := H.keep e1 rfl
    replace e37 : a.tmps[37]? = some _ := H.keep e37 rfl
    replace e38 : a.tmps[38]? = some _ := H.got rfl rfl
    replace e39 : a.tmps[39]? = some _ := H.got rfl rfl
    replace e3 : a.tmps[3]? = some _ := H.keep e3 rfl
    have e40 : a.tmps[40]? = some _ := H.got rfl rfl
    clear H
    refine hKq8 _ _ ?_
    clear hKq8 Kq8
    refine wp_seq_k fun Kq9 hKq9 => ?_
    refine wp_cond_false (slotE e40) ?_
    clear e40
    refine wp_exit ?_
    refine exit_then rfl ?_
    clear hKq9 Kq9
    refine exit_then rfl ?_
    refine exit_hit ?_
    refine hKq6 _ _ ?_
    clear hKq6 Kq6
    refine wp_seq_k fun Kq10 hKq10 => ?_
    refine sm_list [] 2 1 hs hd (by kernel_rfl) agN (by simp only [List.append_eq, List.cons_append, List.nil_append, List.map_cons, List.map_nil, reOper, reOp, reO, reC, reK, Option.map_some, Option.map_none, fS_ite, ix_ite, Nat.reduceLeDiff, Nat.reduceEqDiff, if_true, if_false, ↓reduceIte, List.length_cons, List.length_nil, Nat.reduceAdd, Nat.reduceSub, List.map_toArray]; rfl) ?_
    simp only [List.replicate_succ, List.replicate_zero, List.cons_append, List.nil_append, List.drop_succ_cons, List.drop_zero, List.take_succ_cons, List.take_zero]
    go_wp2_with fail
    intro a H
    replace hs := H.size.trans hs
    replace hd : a.defers = [] := H.defers
    replace e1 : a.tmps[1]? = some _ := H.keep e1 rfl
    replace e37 : a.tmps[37]? = some _ := H.keep e37 rfl
    replace e38 : a.tmps[38]? = some _ := H.keep e38 rfl
    replace e39 : a.tmps[39]? = some _ := H.keep e39 rfl
    replace e3 : a.tmps[3]? = some _ := H.keep e3 rfl
    have e2 : a.tmps[2]? = some _ := H.got rfl rfl
    clear H
    refine hKq10 _ _ ?_
    clear hKq10 Kq10
    refine wp_ret ?_
    exact sm_ret rfl hd e2 ⟨rfl, by rw [← HG.out]; exact L1.trans (hb.mono (Nat.le_of_lt hz1))⟩
set_option maxRecDepth 100000 in
set_option maxHeartbeats 4000000 in
theorem slot_l (t : List (Int × Int)) (cyc : Int) (A : Option Addr) (c : Nat) (p : Int) (w : World) (hr : Reads w w.heap.size 2 A t.length (t.flatMap spc)) (hG : Gd t cyc) (hp : 0 ≤ p ∧ p < cyc) :
    Calls Try.prog 33 #[.agg #[.int .i64 0, .int .i64 cyc, .slice A t.length c], .int .i64 p] w fun e w' => (∃ (i : Nat) (s : Int × Int), e = .returned (.tuple #[.int .i64 (i : Int), .int .i64 (preS t (i + 1))]) ∧ t[i]? = some s ∧ preS t i ≤ p ∧ p < preS t (i + 1)) ∧ Below w.heap.size w w' := by
  have HGD := Lib.hid hG
  have hc1 := hG.c1
  have hc2 := hG.c2
  have hl1 := hG.l1
  have hl2 := hG.l2
  clear hG
  refine calls_sm (N := 42) Try.func33 rfl (by kernel_rfl) ?_
  intro a hs hd ha
  have e0 : a.tmps[0]? = some (.agg #[.int .i64 0, .int .i64 cyc, .slice A t.length c]) := ha 0 _ rfl
  have e1 : a.tmps[1]? = some (.int .i64 p) := ha 1 _ rfl
  clear ha
  conv => arg 2; whnf
  refine wp_seq_k fun Kq1 hKq1 => ?_
  obtain ⟨hp0, hp1⟩ := hp
  refine sm_list [0, 2] 4 2 hs hd (by kernel_rfl) (agC e0 (agU agN)) (by simp only [List.append_eq, List.cons_append, List.nil_append, List.map_cons, List.map_nil, reOper, reOp, reO, reC, reK, Option.map_some, Option.map_none, fS_ite, ix_ite, Nat.reduceLeDiff, Nat.reduceEqDiff, if_true, if_false, ↓reduceIte, List.length_cons, List.length_nil, Nat.reduceAdd, Nat.reduceSub, List.map_toArray]; rfl) ?_
  simp only [List.replicate_succ, List.replicate_zero, List.cons_append, List.nil_append, List.drop_succ_cons, List.drop_zero, List.take_succ_cons, List.take_zero]
  go_wp2_with fail
  intro a H
  replace hs := H.size.trans hs
  replace hd : a.defers = [] := H.defers
  replace e1 : a.tmps[1]? = some _ := H.keep e1 rfl
  clear e0
  have e2 : a.tmps[2]? = some _ := H.got rfl rfl
  clear H
  refine hKq1 _ _ ?_
  clear hKq1 Kq1
  refine wp_seq_k fun Kq2 hKq2 => ?_
  have BL := Blk.new w 58 #[.int .i64 0, .int .i64 cyc, .slice A t.length c]
  have L1 : Below w.heap.size w (w.alloc (.cells #[.int .i64 0, .int .i64 cyc, .slice A t.length c] 58)) := (Below.refl _ _).alloc (Nat.le_refl _) _
  have hr1 := (hr.below L1)
  have hz1 : w.heap.size < (w.alloc (.cells #[.int .i64 0, .int .i64 cyc, .slice A t.length c] 58)).heap.size := by simp
  generalize (w.alloc (.cells #[.int .i64 0, .int .i64 cyc, .slice A t.length c] 58)) = w1 at *
  obtain ⟨g, hg⟩ : ∃ q, q = w.heap.size := ⟨_, rfl⟩
  rw [← hg] at BL L1 hr1 hz1 e2
  have HG := Lib.hid hg
  clear hg hr
  refine sm_list [] 6 1 hs hd (by kernel_rfl) agN (by simp only [List.append_eq, List.cons_append, List.nil_append, List.map_cons, List.map_nil, reOper, reOp, reO, reC, reK, Option.map_some, Option.map_none, fS_ite, ix_ite, Nat.reduceLeDiff, Nat.reduceEqDiff, if_true, if_false, ↓reduceIte, List.length_cons, List.length_nil, Nat.reduceAdd, Nat.reduceSub, List.map_toArray]; rfl) ?_
  simp only [List.replicate_succ, List.replicate_zero, List.cons_append, List.nil_append, List.drop_succ_cons, List.drop_zero, List.take_succ_cons, List.take_zero]
  go_wp2_with fail
  intro a H
  replace hs := H.size.trans hs
  replace hd : a.defers = [] := H.defers
  replace e1 : a.tmps[1]? = some _ := H.keep e1 rfl
  replace e2 : a.tmps[2]? = some _ := H.keep e2 rfl
  have e6 : a.tmps[6]? = some _ := H.got rfl rfl
  clear H
  refine hKq2 _ _ ?_
  clear hKq2 Kq2
  refine wp_seq_k fun Kq3 hKq3 => ?_
  refine wp_seq_k fun Kq4 hKq4 => ?_
  have k2 := BL.cellOf (v := .slice A t.length c) 2 rfl
  refine sm_list [2] 9 4 hs hd (by kernel_rfl) (agC e2 agN) (by simp only [List.append_eq, List.cons_append, List.nil_append, List.map_cons, List.map_nil, reOper, reOp, reO, reC, reK, Option.map_some, Option.map_none, fS_ite, ix_ite, Nat.reduceLeDiff, Nat.reduceEqDiff, if_true, if_false, ↓reduceIte, List.length_cons, List.length_nil, Nat.reduceAdd, Nat.reduceSub, List.map_toArray]; rfl) ?_
  simp only [List.replicate_succ, List.replicate_zero, List.cons_append, List.nil_append, List.drop_succ_cons, List.drop_zero, List.take_succ_cons, List.take_zero]
  go_wp2_with fail
  intro a H
  replace hs := H.size.trans hs
  replace hd : a.defers = [] := H.defers
  replace e1 : a.tmps[1]? = some _ := H.keep e1 rfl
  replace e2 : a.tmps[2]? = some _ := H.got rfl rfl
  replace e6 : a.tmps[6]? = some _ := H.keep e6 rfl
  have e10 : a.tmps[10]? = some _ := H.got rfl rfl
  have e11 : a.tmps[11]? = some _ := H.got rfl rfl
  have e12 : a.tmps[12]? = some _ := H.got rfl rfl
  clear H
  refine hKq4 _ _ ?_
  clear hKq4 Kq4
  refine wp_block ?_
  clear k2
  refine wp_loop (fun a w' => ∃ j : Nat, j ≤ t.length ∧ a.tmps.size = 42 ∧ a.defers = [] ∧ a.tmps[1]? = some (.int .i64 p) ∧ a.tmps[2]? = some (.pointer (some ⟨g, 0, none⟩)) ∧ a.tmps[10]? = some (.slice A t.length c) ∧ a.tmps[11]? = some (.int .i64 (t.length : Int)) ∧ a.tmps[12]? = some (.int .i64 (j : Int)) ∧ a.tmps[6]? = some (.int .i64 (preS t j)) ∧ preS t j ≤ p ∧ Below w1.heap.size w1 w') (fun a _ => t.length - (intOf (a.tmps.getD 12 undef)).toNat) ?_ ?_
  · exact ⟨0, Nat.zero_le _, hs, hd, e1, e2, e10, e11, e12, e6, hp0, Below.refl _ _⟩
  clear hs hd e12 e6 e1 e2 e10 e11 a
  rintro a w3 ⟨j, hj, hs, hd, e1, e2, e10, e11, e12, e6, hpj, hb⟩
  have hm := slot e12
  refine wp_seq_k fun Kq5 hKq5 => ?_
  by_cases hlt : j < t.length
  ·
    have dj : decide ((j : Int) < (t.length : Int)) = true := decide_eq_true (by omega)
    obtain ⟨s, hsx⟩ : ∃ s, t[j]? = some s := ⟨_, List.getElem?_eq_getElem hlt⟩
    obtain ⟨ho, hl⟩ := HGD.out.o s (List.mem_of_getElem? hsx)
    have hps := preS_succ hsx
    have hpb := HGD.out.pre (i := j + 1) (by omega)
    have hpz := HGD.out.pre (i := j) (by omega)
    obtain ⟨q, hq⟩ : ∃ q, q = preS t j := ⟨_, rfl⟩
    have hpjr := hpj
    rw [← hq] at e6 hps hpz hpj
    rw [hps] at hpb
    have HPS := Lib.hid (And.intro hps (And.intro hpjr hsx))
    clear hq hps hpjr
    obtain ⟨ad, hA, hadb, hcl⟩ := reads_at spc_len (hr1.below (hb.mono (Nat.le_of_lt hz1))) hsx hlt
    have HA := Lib.hid hA
    have HCL := Lib.hid hcl
    clear hA hcl hsx
    rw [HA.out] at e10
    have B8 := Blk.new w3 67 #[.int .i64 s.1, .int .i64 s.2]
    have hb4 := hb.alloc hb.size (.cells #[.int .i64 s.1, .int .i64 s.2] 67)
    have BL4 := (BL.below hb hz1).alloc (.cells #[.int .i64 s.1, .int .i64 s.2] 67)
    refine sm_list [11, 12] 13 1 hs hd (by kernel_rfl) (agC e11 (agC e12 agN)) (by simp only [List.append_eq, List.cons_append, List.nil_append, List.map_cons, List.map_nil, reOper, reOp, reO, reC, reK, Option.map_some, Option.map_none, fS_ite, ix_ite, Nat.reduceLeDiff, Nat.reduceEqDiff, if_true, if_false, ↓reduceIte, List.length_cons, List.length_nil, Nat.reduceAdd, Nat.reduceSub, List.map_toArray]; rfl) ?_
    simp only [List.replicate_succ, List.replicate_zero, List.cons_append, List.nil_append, List.drop_succ_cons, List.drop_zero, List.take_succ_cons, List.take_zero]
    go_wp2_with fail
    intro a H
    replace hs := H.size.trans hs
    replace hd : a.defers = [] := H.defers
    replace e1 : a.tmps[1]? = some _ := H.keep e1 rfl
    replace e2 : a.tmps[2]? = some _ := H.keep e2 rfl
    replace e10 : a.tmps[10]? = some _ := H.keep e10 rfl
    replace e11 : a.tmps[11]? = some _ := H.got rfl rfl
    replace e12 : a.tmps[12]? = some _ := H.got rfl rfl
    replace e6 : a.tmps[6]? = some _ := H.keep e6 rfl
    have e13 : a.tmps[13]? = some _ := H.got rfl rfl
    clear H
    refine hKq5 _ _ ?_
    clear hKq5 Kq5
    refine wp_seq_k fun Kq6 hKq6 => ?_
    refine wp_cond_true (slotE e13) ?_
    clear e13
    refine wp_skip ?_
    refine hKq6 _ _ ?_
    clear hKq6 Kq6
    refine wp_seq_k fun Kq7 hKq7 => ?_
    refine wp_block ?_
    refine wp_seq_k fun Kq8 hKq8 => ?_
    refine sm_list [7, 8, 10, 12] 14 3 hs hd (by kernel_rfl) (agU (agU (agC e10 (agC e12 agN)))) (by simp only [List.append_eq, List.cons_append, List.nil_append, List.map_cons, List.map_nil, reOper, reOp, reO, reC, reK, Option.map_some, Option.map_none, fS_ite, ix_ite, Nat.reduceLeDiff, Nat.reduceEqDiff, if_true, if_false, ↓reduceIte, List.length_cons, List.length_nil, Nat.reduceAdd, Nat.reduceSub, List.map_toArray]; rfl) ?_
    simp only [List.replicate_succ, List.replicate_zero, List.cons_append, List.nil_append, List.drop_succ_cons, List.drop_zero, List.take_succ_cons, List.take_zero]
    go_wp2_with (first | (refine wpList_load_any_d rfl 67 (.tmp 5) rfl (ad.add (j * 2)) rfl (#[.int .i64 s.1, .int .i64 s.2]) _ (fun i u hu => HCL.out i u hu) Try.underlying67 rfl (by kernel_rfl) ?_) | (refine wpList_store_new rfl 67 (.tmp 1) (.tmp 6) rfl rfl rfl rfl rfl (by kernel_rfl) (by rw [← Array.all_toList]; rfl) ?_) | fail)
    intro a H
    replace hs := H.size.trans hs
    replace hd : a.defers = [] := H.defers
    replace e1 : a.tmps[1]? = some _ := H.keep e1 rfl
    replace e2 : a.tmps[2]? = some _ := H.keep e2 rfl
    replace e10 : a.tmps[10]? = some _ := H.got rfl rfl
    replace e11 : a.tmps[11]? = some _ := H.keep e11 rfl
    replace e12 : a.tmps[12]? = some _ := H.got rfl rfl
    replace e6 : a.tmps[6]? = some _ := H.keep e6 rfl
    have e7 : a.tmps[7]? = some _ := H.got rfl rfl
    have e8 : a.tmps[8]? = some _ := H.got rfl rfl
    clear H
    refine hKq8 _ _ ?_
    clear hKq8 Kq8
    refine wp_seq_k fun Kq9 hKq9 => ?_
    rw [← HA.out] at e10
    obtain ⟨g8, hg8⟩ : ∃ q, q = w3.heap.size := ⟨_, rfl⟩
    rw [← hg8] at B8 e8
    generalize w3.alloc (.cells #[.int .i64 s.1, .int .i64 s.2] 67) = w4 at *
    clear hg8
    have y1 := B8.cellOf (v := .int .i64 s.2) 1 rfl
    have k1 := BL4.cellOf (v := .int .i64 cyc) 1 rfl
    have k2 := BL4.cellOf (v := .slice A t.length c) 2 rfl
    refine sm_list [6, 8] 17 4 hs hd (by kernel_rfl) (agC e6 (agC e8 agN)) (by simp only [List.append_eq, List.cons_append, List.nil_append, List.map_cons, List.map_nil, reOper, reOp, reO, reC, reK, Option.map_some, Option.map_none, fS_ite, ix_ite, Nat.reduceLeDiff, Nat.reduceEqDiff, if_true, if_false, ↓reduceIte, List.length_cons, List.length_nil, Nat.reduceAdd, Nat.reduceSub, List.map_toArray]; rfl) ?_
    simp only [List.replicate_succ, List.replicate_zero, List.cons_append, List.nil_append, List.drop_succ_cons, List.drop_zero, List.take_succ_cons, List.take_zero]
    go_wp2_with fail
    intro a H
    replace hs := H.size.trans hs
    replace hd : a.defers = [] := H.defers
    replace e1 : a.tmps[1]? = some _ := H.keep e1 rfl
    replace e2 : a.tmps[2]? = some _ := H.keep e2 rfl
    replace e10 : a.tmps[10]? = some _ := H.keep e10 rfl
    replace e11 : a.tmps[11]? = some _ := H.keep e11 rfl
    replace e12 : a.tmps[12]? = some _ := H.keep e12 rfl
    replace e7 : a.tmps[7]? = some _ := H.keep e7 rfl
    replace e8 : a.tmps[8]? = some _ := H.got rfl rfl
    replace e6 : a.tmps[6]? = some _ := H.got rfl rfl
    clear H
    refine hKq9 _ _ ?_
    clear hKq9 Kq9
    refine wp_seq_k fun Kq10 hKq10 => ?_
    clear e8
    clear y1
    by_cases hpq : p < q + s.2
    · have dq : decide (p < q + s.2) = true := decide_eq_true hpq
      refine sm_list [1, 6] 21 3 hs hd (by kernel_rfl) (agC e1 (agC e6 agN)) (by simp only [List.append_eq, List.cons_append, List.nil_append, List.map_cons, List.map_nil, reOper, reOp, reO, reC, reK, Option.map_some, Option.map_none, fS_ite, ix_ite, Nat.reduceLeDiff, Nat.reduceEqDiff, if_true, if_false, ↓reduceIte, List.length_cons, List.length_nil, Nat.reduceAdd, Nat.reduceSub, List.map_toArray]; rfl) ?_
      simp only [List.replicate_succ, List.replicate_zero, List.cons_append, List.nil_append, List.drop_succ_cons, List.drop_zero, List.take_succ_cons, List.take_zero]
      go_wp2_with fail
      intro a H
      replace hs := H.size.trans hs
      replace hd : a.defers = [] := H.defers
      replace e1 : a.tmps[1]? = some _ := H.got rfl rfl
      replace e2 : a.tmps[2]? = some _ := H.keep e2 rfl
      replace e10 : a.tmps[10]? = some _ := H.keep e10 rfl
      replace e11 : a.tmps[11]? = some _ := H.keep e11 rfl
      replace e12 : a.tmps[12]? = some _ := H.keep e12 rfl
      replace e7 : a.tmps[7]? = some _ := H.keep e7 rfl
      replace e6 : a.tmps[6]? = some _ := H.got rfl rfl
      have e23 : a.tmps[23]? = some _ := H.got rfl rfl
      clear H
      refine hKq10 _ _ ?_
      clear hKq10 Kq10
      refine wp_cond_true (slotE e23) ?_
      clear e23
      refine wp_seq_k fun Kq11 hKq11 => ?_
      refine wp_seq_k fun Kq12 hKq12 => ?_
      have hfin : t[j]? = some s ∧ preS t j ≤ p ∧ p < preS t (j + 1) := ⟨HPS.out.2.2, HPS.out.2.1, by rw [HPS.out.1]; exact hpq⟩
      have HFIN := Lib.hid hfin
      clear hfin dq
      have hlow : Below g w w4 := L1.trans (hb4.mono (Nat.le_of_lt hz1))
      by_cases hlast : j + 1 = t.length
      · have dl : ((j : Int) == (t.length : Int) - 1) = true := by rw [beq_iff_eq]; omega
        have hcy : cyc = q + s.2 := by rw [← HGD.out.sum, ← HPS.out.1, hlast]
        have HCY := Lib.hid hcy
        clear hcy hlast
        refine sm_list [2, 7] 24 6 hs hd (by kernel_rfl) (agC e2 (agC e7 agN)) (by simp only [List.append_eq, List.cons_append, List.nil_append, List.map_cons, List.map_nil, reOper, reOp, reO, reC, reK, Option.map_some, Option.map_none, fS_ite, ix_ite, Nat.reduceLeDiff, Nat.reduceEqDiff, if_true, if_false, ↓reduceIte, List.length_cons, List.length_nil, Nat.reduceAdd, Nat.reduceSub, List.map_toArray]; rfl) ?_
        simp only [List.replicate_succ, List.replicate_zero, List.cons_append, List.nil_append, List.drop_succ_cons, List.drop_zero, List.take_succ_cons, List.take_zero]
        go_wp2_with fail
        intro a H
        replace hs := H.size.trans hs
        replace hd : a.defers = [] := H.defers
        replace e1 : a.tmps[1]? = some _ := H.keep e1 rfl
        replace e2 : a.tmps[2]? = some _ := H.got rfl rfl
        replace e10 : a.tmps[10]? = some _ := H.keep e10 rfl
        replace e11 : a.tmps[11]? = some _ := H.keep e11 rfl
        replace e12 : a.tmps[12]? = some _ := H.keep e12 rfl
        replace e7 : a.tmps[7]? = some _ := H.got rfl rfl
        replace e6 : a.tmps[6]? = some _ := H.keep e6 rfl
        have e29 : a.tmps[29]? = some _ := H.got rfl rfl
        clear H
        refine hKq12 _ _ ?_
        clear hKq12 Kq12
        refine wp_cond_true (slotE e29) ?_
        clear e29
        refine wp_seq_k fun Kq13 hKq13 => ?_
        have hg4 : g < w4.heap.size := BL4.lt
        suffices HK : ∀ (a' : Act) (w5 : World), a'.tmps.size = a.tmps.size → a'.defers = [] → a'.tmps[1]? = a.tmps[1]? → a'.tmps[2]? = a.tmps[2]? → a'.tmps[10]? = a.tmps[10]? → a'.tmps[11]? = a.tmps[11]? → a'.tmps[12]? = a.tmps[12]? → a'.tmps[7]? = a.tmps[7]? → a'.tmps[6]? = a.tmps[6]? → a'.tmps[4]? = some (.int .i64 (j : Int)) → a'.tmps[5]? = some (.int .i64 cyc) → Below w4.heap.size w4 w5 → Kq13 a' w5 by
          refine sm_any [2, 4, 5, 7] 30 3 (by kernel_rfl) hs hd (by kernel_rfl) (agC e2 (agU (agU (agC e7 agN)))) (by simp only [List.append_eq, List.cons_append, List.nil_append, List.map_cons, List.map_nil, reOper, reOp, reO, reC, reK, Option.map_some, Option.map_none, fS_ite, ix_ite, Nat.reduceLeDiff, Nat.reduceEqDiff, if_true, if_false, ↓reduceIte, List.length_cons, List.length_nil, Nat.reduceAdd, Nat.reduceSub, List.map_toArray]; rfl) (any_class (fun w' => Below w4.heap.size w4 w') (by kernel_rfl) ((Below.refl _ _).drew) ?_)
          simp only [List.replicate_succ, List.replicate_zero, List.cons_append, List.nil_append, List.drop_succ_cons, List.drop_zero, List.take_succ_cons, List.take_zero]
          repeat (first | (with_reducible (refine wpQuiet_skip ?_ ?_); (first | exact wanted_off rfl rfl rfl rfl | exact wanted_off2 rfl rfl rfl); simp only [Act.put, List.setIfInBounds_toArray, List.set_cons_zero, List.set_cons_succ]) | (with_reducible (refine wpQuiet_val (v := ?_) ?_ ?_ ?_); rotate_left; (first | exact wanted_none rfl | exact wanted_on rfl rfl rfl); (intro w' hw'; obtain ⟨hc, hf⟩ := bcell hw'; go_simp; with_reducible rfl); simp only [Act.put, List.setIfInBounds_toArray, List.set_cons_zero, List.set_cons_succ]))
          refine wpQuiet_nil ?_
          intro w5 hw6
          all_goals
            intro a' H
            refine HK a' _ H.size H.defers (H.out 1 rfl) ((H.got rfl rfl).trans e2.symm) (H.out 10 rfl) (H.out 11 rfl) (H.out 12 rfl) ((H.got rfl rfl).trans e7.symm) (H.out 6 rfl) ?_ ?_ ?_
            · exact H.got rfl rfl
            · exact H.got rfl rfl
            · exact hw6
        intro a' w5 g_s g_d g1 g2 g10 g11 g12 g7 g6 f4 f5 hb5
        replace hs := g_s.trans hs
        replace hd := g_d
        replace e1 := g1.trans e1
        replace e2 := g2.trans e2
        replace e10 := g10.trans e10
        replace e11 := g11.trans e11
        replace e12 := g12.trans e12
        replace e7 := g7.trans e7
        replace e6 := g6.trans e6
        clear g_s g_d g1 g2 g10 g11 g12 g7 g6
        have e4 := f4
        clear f4
        have e5 := f5
        clear f5
        clear a
        obtain ⟨a, rfl⟩ : ∃ a, a = a' := ⟨_, rfl⟩
        refine hKq13 _ _ ?_
        clear hKq13 Kq13
        refine wp_ret ?_
        refine exit_then rfl ?_
        refine ret_block ?_
        refine exit_then rfl ?_
        refine exit_then rfl ?_
        refine ret_block ?_
        refine exit_then rfl ?_
        exact sm_ret2 rfl hd e4 e5 ⟨⟨j, s, by rw [HCY.out, HPS.out.1], HFIN.out⟩, by rw [← HG.out]; exact hlow.trans (hb5.mono (Nat.le_of_lt hg4))⟩
      · have dl : ((j : Int) == (t.length : Int) - 1) = false := beq_eq_false_iff_ne.2 (by omega)
        refine sm_list [2, 7] 24 6 hs hd (by kernel_rfl) (agC e2 (agC e7 agN)) (by simp only [List.append_eq, List.cons_append, List.nil_append, List.map_cons, List.map_nil, reOper, reOp, reO, reC, reK, Option.map_some, Option.map_none, fS_ite, ix_ite, Nat.reduceLeDiff, Nat.reduceEqDiff, if_true, if_false, ↓reduceIte, List.length_cons, List.length_nil, Nat.reduceAdd, Nat.reduceSub, List.map_toArray]; rfl) ?_
        simp only [List.replicate_succ, List.replicate_zero, List.cons_append, List.nil_append, List.drop_succ_cons, List.drop_zero, List.take_succ_cons, List.take_zero]
        go_wp2_with fail
        intro a H
        replace hs := H.size.trans hs
        replace hd : a.defers = [] := H.defers
        replace e1 : a.tmps[1]? = some _ := H.keep e1 rfl
        replace e2 : a.tmps[2]? = some _ := H.got rfl rfl
        replace e10 : a.tmps[10]? = some _ := H.keep e10 rfl
        replace e11 : a.tmps[11]? = some _ := H.keep e11 rfl
        replace e12 : a.tmps[12]? = some _ := H.keep e12 rfl
        replace e7 : a.tmps[7]? = some _ := H.got rfl rfl
        replace e6 : a.tmps[6]? = some _ := H.keep e6 rfl
        have e29 : a.tmps[29]? = some _ := H.got rfl rfl
        clear H
        refine hKq12 _ _ ?_
        clear hKq12 Kq12
        refine wp_cond_false (slotE e29) ?_
        clear e29
        refine wp_skip ?_
        refine hKq11 _ _ ?_
        clear hKq11 Kq11
        refine wp_seq_k fun Kq13 hKq13 => ?_
        refine sm_list [4, 5, 6, 7] 33 2 hs hd (by kernel_rfl) (agU (agU (agC e6 (agC e7 agN)))) (by simp only [List.append_eq, List.cons_append, List.nil_append, List.map_cons, List.map_nil, reOper, reOp, reO, reC, reK, Option.map_some, Option.map_none, fS_ite, ix_ite, Nat.reduceLeDiff, Nat.reduceEqDiff, if_true, if_false, ↓reduceIte, List.length_cons, List.length_nil, Nat.reduceAdd, Nat.reduceSub, List.map_toArray]; rfl) ?_
        simp only [List.replicate_succ, List.replicate_zero, List.cons_append, List.nil_append, List.drop_succ_cons, List.drop_zero, List.take_succ_cons, List.take_zero]
        go_wp2_with fail
        intro a H
        replace hs := H.size.trans hs
        replace hd : a.defers = [] := H.defers
        replace e1 : a.tmps[1]? = some _ := H.keep e1 rfl
        replace e2 : a.tmps[2]? = some _ := H.keep e2 rfl
        replace e10 : a.tmps[10]? = some _ := H.keep e10 rfl
        replace e11 : a.tmps[11]? = some _ := H.keep e11 rfl
        replace e12 : a.tmps[12]? = some _ := H.keep e12 rfl
        replace e7 : a.tmps[7]? = some _ := H.got rfl rfl
        replace e6 : a.tmps[6]? = some _ := H.got rfl rfl
        have e4 : a.tmps[4]? = some _ := H.got rfl rfl
        have e5 : a.tmps[5]? = some _ := H.got rfl rfl
        clear H
        refine hKq13 _ _ ?_
        clear hKq13 Kq13
        refine wp_ret ?_
        refine ret_block ?_
        refine exit_then rfl ?_
        refine exit_then rfl ?_
        refine ret_block ?_
        refine exit_then rfl ?_
        exact sm_ret2 rfl hd e4 e5 ⟨⟨j, s, by rw [HPS.out.1], HFIN.out⟩, by rw [← HG.out]; exact hlow⟩
    · have dq : decide (p < q + s.2) = false := decide_eq_false hpq
      refine sm_list [1, 6] 21 3 hs hd (by kernel_rfl) (agC e1 (agC e6 agN)) (by simp only [List.append_eq, List.cons_append, List.nil_append, List.map_cons, List.map_nil, reOper, reOp, reO, reC, reK, Option.map_some, Option.map_none, fS_ite, ix_ite, Nat.reduceLeDiff, Nat.reduceEqDiff, if_true, if_false, ↓reduceIte, List.length_cons, List.length_nil, Nat.reduceAdd, Nat.reduceSub, List.map_toArray]; rfl) ?_
      simp only [List.replicate_succ, List.replicate_zero, List.cons_append, List.nil_append, List.drop_succ_cons, List.drop_zero, List.take_succ_cons, List.take_zero]
      go_wp2_with fail
      intro a H
      replace hs := H.size.trans hs
      replace hd : a.defers = [] := H.defers
      replace e1 : a.tmps[1]? = some _ := H.got rfl rfl
      replace e2 : a.tmps[2]? = some _ := H.keep e2 rfl
      replace e10 : a.tmps[10]? = some _ := H.keep e10 rfl
      replace e11 : a.tmps[11]? = some _ := H.keep e11 rfl
      replace e12 : a.tmps[12]? = some _ := H.keep e12 rfl
      replace e7 : a.tmps[7]? = some _ := H.keep e7 rfl
      replace e6 : a.tmps[6]? = some _ := H.got rfl rfl
      have e23 : a.tmps[23]? = some _ := H.got rfl rfl
      clear H
      refine hKq10 _ _ ?_
      clear hKq10 Kq10
      refine wp_cond_false (slotE e23) ?_
      clear e23
      refine wp_skip ?_
      refine hKq7 _ _ ?_
      clear hKq7 Kq7
      have hpn : preS t (j + 1) ≤ p := by rw [HPS.out.1]; omega
      rw [← HPS.out.1] at e6
      clear dq k1 k2
      clear e7
      refine sm_list [12] 35 1 hs hd (by kernel_rfl) (agC e12 agN) (by simp only [List.append_eq, List.cons_append, List.nil_append, List.map_cons, List.map_nil, reOper, reOp, reO, reC, reK, Option.map_some, Option.map_none, fS_ite, ix_ite, Nat.reduceLeDiff, Nat.reduceEqDiff, if_true, if_false, ↓reduceIte, List.length_cons, List.length_nil, Nat.reduceAdd, Nat.reduceSub, List.map_toArray]; rfl) ?_
      simp only [List.replicate_succ, List.replicate_zero, List.cons_append, List.nil_append, List.drop_succ_cons, List.drop_zero, List.take_succ_cons, List.take_zero]
      go_wp2_with fail
      intro a H
      replace hs := H.size.trans hs
      replace hd : a.defers = [] := H.defers
      replace e1 : a.tmps[1]? = some _ := H.keep e1 rfl
      replace e2 : a.tmps[2]? = some _ := H.keep e2 rfl
      replace e10 : a.tmps[10]? = some _ := H.keep e10 rfl
      replace e11 : a.tmps[11]? = some _ := H.keep e11 rfl
      replace e6 : a.tmps[6]? = some _ := H.keep e6 rfl
      replace e12 : a.tmps[12]? = some _ := H.got rfl rfl
      clear H
      exact ⟨⟨j + 1, by omega, hs, hd, e1, e2, e10, e11, e12, e6, hpn, hb4⟩, by first | (simp only [hm, slot e12, intOf]; omega) | (simp [e12, intOf]; omega)⟩
  · obtain rfl : j = t.length := by omega
    rw [HGD.out.sum] at hpj
    omega
set_option maxRecDepth 100000 in
set_option maxHeartbeats 4000000 in
theorem phase_l (t : List (Int × Int)) (cyc : Int) (A : Option Addr) (c : Nat) (p : Int) (w : World) (hr : Reads w w.heap.size 2 A t.length (t.flatMap spc)) (hG : Gd t cyc) (hp : 0 ≤ p ∧ p < cyc) :
    Calls Try.prog 32 #[.agg #[.int .i64 0, .int .i64 cyc, .slice A t.length c], .int .i64 p] w fun e w' => e = .returned (.int .i64 p) ∧ Below w.heap.size w w' := by
  have HGD := Lib.hid hG
  have hc1 := hG.c1
  have hc2 := hG.c2
  have hl1 := hG.l1
  have hl2 := hG.l2
  clear hG
  refine calls_sm (N := 20) Try.func32 rfl (by kernel_rfl) ?_
  intro a hs hd ha
  have e0 : a.tmps[0]? = some (.agg #[.int .i64 0, .int .i64 cyc, .slice A t.length c]) := ha 0 _ rfl
  have e1 : a.tmps[1]? = some (.int .i64 p) := ha 1 _ rfl
  clear ha
  conv => arg 2; whnf
  refine wp_seq_k fun Kq1 hKq1 => ?_
  obtain ⟨hp0, hp1⟩ := hp
  refine sm_list [0, 2] 4 1 hs hd (by kernel_rfl) (agC e0 (agU agN)) (by simp only [List.append_eq, List.cons_append, List.nil_append, List.map_cons, List.map_nil, reOper, reOp, reO, reC, reK, Option.map_some, Option.map_none, fS_ite, ix_ite, Nat.reduceLeDiff, Nat.reduceEqDiff, if_true, if_false, ↓reduceIte, List.length_cons, List.length_nil, Nat.reduceAdd, Nat.reduceSub, List.map_toArray]; rfl) ?_
  simp only [List.replicate_succ, List.replicate_zero, List.cons_append, List.nil_append, List.drop_succ_cons, List.drop_zero, List.take_succ_cons, List.take_zero]
  go_wp2_with fail
  intro a H
  replace hs := H.size.trans hs
  replace hd : a.defers = [] := H.defers
  replace e1 : a.tmps[1]? = some _ := H.keep e1 rfl
  clear e0
  have e2 : a.tmps[2]? = some _ := H.got rfl rfl
  clear H
  refine hKq1 _ _ ?_
  clear hKq1 Kq1
  refine wp_seq_k fun Kq2 hKq2 => ?_
  have BL := Blk.new w 58 #[.int .i64 0, .int .i64 cyc, .slice A t.length c]
  have L1 : Below w.heap.size w (w.alloc (.cells #[.int .i64 0, .int .i64 cyc, .slice A t.length c] 58)) := (Below.refl _ _).alloc (Nat.le_refl _) _
  have hr1 := (hr.below L1)
  have hz1 : w.heap.size < (w.alloc (.cells #[.int .i64 0, .int .i64 cyc, .slice A t.length c] 58)).heap.size := by simp
  generalize (w.alloc (.cells #[.int .i64 0, .int .i64 cyc, .slice A t.length c] 58)) = w1 at *
  obtain ⟨g, hg⟩ : ∃ q, q = w.heap.size := ⟨_, rfl⟩
  rw [← hg] at BL L1 hr1 hz1 e2
  have HG := Lib.hid hg
  clear hg hr
  have k0 := BL.cellOf (v := .int .i64 0) 0 rfl
  have k1 := BL.cellOf (v := .int .i64 cyc) 1 rfl
  have hcz : cyc ≠ 0 := by omega
  have htm : p.tmod cyc = p := Int.tmod_eq_of_lt hp0 hp1
  have htm2 : (p - 0).tmod cyc = p := by rw [Int.sub_zero]; exact htm
  have dn : decide (p < 0) = false := decide_eq_false (by omega)
  refine sm_list [1, 2] 5 8 hs hd (by kernel_rfl) (agC e1 (agC e2 agN)) (by simp only [List.append_eq, List.cons_append, List.nil_append, List.map_cons, List.map_nil, reOper, reOp, reO, reC, reK, Option.map_some, Option.map_none, fS_ite, ix_ite, Nat.reduceLeDiff, Nat.reduceEqDiff, if_true, if_false, ↓reduceIte, List.length_cons, List.length_nil, Nat.reduceAdd, Nat.reduceSub, List.map_toArray]; rfl) ?_
  simp only [List.replicate_succ, List.replicate_zero, List.cons_append, List.nil_append, List.drop_succ_cons, List.drop_zero, List.take_succ_cons, List.take_zero]
  go_wp2_with fail
  intro a H
  replace hs := H.size.trans hs
  replace hd : a.defers = [] := H.defers
  replace e1 : a.tmps[1]? = some _ := H.got rfl rfl
  replace e2 : a.tmps[2]? = some _ := H.got rfl rfl
  have e5 : a.tmps[5]? = some _ := H.got rfl rfl
  clear H
  refine hKq2 _ _ ?_
  clear hKq2 Kq2
  refine wp_seq_k fun Kq3 hKq3 => ?_
  refine wp_seq_k fun Kq4 hKq4 => ?_
  refine sm_list [5] 13 2 hs hd (by kernel_rfl) (agC e5 agN) (by simp only [List.append_eq, List.cons_append, List.nil_append, List.map_cons, List.map_nil, reOper, reOp, reO, reC, reK, Option.map_some, Option.map_none, fS_ite, ix_ite, Nat.reduceLeDiff, Nat.reduceEqDiff, if_true, if_false, ↓reduceIte, List.length_cons, List.length_nil, Nat.reduceAdd, Nat.reduceSub, List.map_toArray]; rfl) ?_
  simp only [List.replicate_succ, List.replicate_zero, List.cons_append, List.nil_append, List.drop_succ_cons, List.drop_zero, List.take_succ_cons, List.take_zero]
  go_wp2_with fail
  intro a H
  replace hs := H.size.trans hs
  replace hd : a.defers = [] := H.defers
  replace e1 : a.tmps[1]? = some _ := H.keep e1 rfl
  replace e2 : a.tmps[2]? = some _ := H.keep e2 rfl
  replace e5 : a.tmps[5]? = some _ := H.got rfl rfl
  have e14 : a.tmps[14]? = some _ := H.got rfl rfl
  clear H
  refine hKq4 _ _ ?_
  clear hKq4 Kq4
  refine wp_cond_false (slotE e14) ?_
  clear e14
  refine wp_skip ?_
  refine hKq3 _ _ ?_
  clear hKq3 Kq3
  refine wp_seq_k fun Kq5 hKq5 => ?_
  refine sm_list [4, 5] 19 1 hs hd (by kernel_rfl) (agU (agC e5 agN)) (by simp only [List.append_eq, List.cons_append, List.nil_append, List.map_cons, List.map_nil, reOper, reOp, reO, reC, reK, Option.map_some, Option.map_none, fS_ite, ix_ite, Nat.reduceLeDiff, Nat.reduceEqDiff, if_true, if_false, ↓reduceIte, List.length_cons, List.length_nil, Nat.reduceAdd, Nat.reduceSub, List.map_toArray]; rfl) ?_
  simp only [List.replicate_succ, List.replicate_zero, List.cons_append, List.nil_append, List.drop_succ_cons, List.drop_zero, List.take_succ_cons, List.take_zero]
  go_wp2_with fail
  intro a H
  replace hs := H.size.trans hs
  replace hd : a.defers = [] := H.defers
  replace e1 : a.tmps[1]? = some _ := H.keep e1 rfl
  replace e2 : a.tmps[2]? = some _ := H.keep e2 rfl
  replace e5 : a.tmps[5]? = some _ := H.got rfl rfl
  have e4 : a.tmps[4]? = some _ := H.got rfl rfl
  clear H
  refine hKq5 _ _ ?_
  clear hKq5 Kq5
  refine wp_ret ?_
  exact sm_ret rfl hd e4 ⟨rfl, by rw [← HG.out]; exact L1⟩
end Go.Proofs.Ytaegngcbiefckaa
