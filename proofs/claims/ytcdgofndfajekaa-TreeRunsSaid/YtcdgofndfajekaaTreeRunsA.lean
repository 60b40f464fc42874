/-
  TreeRuns, the entry.
-/
import Derived.Test.YtcdgofndfajekaaTreeR
namespace Go.Proofs.Ytcdgofndfajekaa
set_option linter.unusedSimpArgs false
set_option linter.unusedVariables false
open Go.RowKit Go.WideShapes Go.ChangeShapes
attribute [local go_sem ↓] Go.wp_at_zero Go.wp_at_succ

set_option maxRecDepth 100000 in
set_option maxHeartbeats 4000000 in
theorem tr_bad (dom ports most : Int) (own : Pr) (A : Option Addr) (n c : Nat) (w : World) (hbad : BadN dom own ports most) :
    Calls Try.prog 3 #[.int .i64 dom, .agg #[.int .i64 own.one, .int .i64 own.cls, .int .i64 own.two, .int .i64 own.id], .int .i64 ports, .int .i64 most, .slice A n c] w fun e w' => e = .returned (.bool true) ∧ Below w.heap.size w w' := by
  refine calls_sm (N := 593) Try.func3 rfl (by kernel_rfl) ?_
  intro a hs hd ha
  have e0 : a.tmps[0]? = some (.int .i64 dom) := ha 0 _ rfl
  have e1 : a.tmps[1]? = some (.agg #[.int .i64 own.one, .int .i64 own.cls, .int .i64 own.two, .int .i64 own.id]) := ha 1 _ rfl
  have e2 : a.tmps[2]? = some (.int .i64 ports) := ha 2 _ rfl
  have e3 : a.tmps[3]? = some (.int .i64 most) := ha 3 _ rfl
  have e4 : a.tmps[4]? = some (.slice A n c) := ha 4 _ rfl
  clear ha
  conv => arg 2; whnf
  refine wp_seq_k fun Kq1 hKq1 => ?_
  have HB := Lib.hid hbad
  clear hbad
  refine sm_list [1, 6] 10 1 hs hd (by kernel_rfl) (agC e1 (agU agN)) (by simp only [List.map_cons, List.map_nil, reOper, reOp, reO, reC, reK, Option.map_some, Option.map_none, fS_ite, ix_ite, Nat.reduceLeDiff, Nat.reduceEqDiff, if_true, if_false, ↓reduceIte, List.length_cons, List.length_nil, Nat.reduceAdd, Nat.reduceSub, List.map_toArray]; rfl) ?_
  simp only [List.replicate_succ, List.replicate_zero, List.cons_append, List.nil_append, List.drop_succ_cons, List.drop_zero, List.take_succ_cons, List.take_zero]
  go_wp2_with fail
  intro a H
  replace hs := H.size.trans hs
  replace hd : a.defers = [] := H.defers
  replace e0 : a.tmps[0]? = some _ := H.keep e0 rfl
  replace e2 : a.tmps[2]? = some _ := H.keep e2 rfl
  replace e3 : a.tmps[3]? = some _ := H.keep e3 rfl
  clear e1
  clear e4
  have e6 : a.tmps[6]? = some _ := H.got rfl rfl
  have e10 : a.tmps[10]? = some _ := H.got rfl rfl
  clear H
  refine hKq1 _ _ ?_
  clear hKq1 Kq1
  refine wp_seq_k fun Kq2 hKq2 => ?_
  refine wp_seq_k fun Kq3 hKq3 => ?_
  have B6 := Blk.new w 23 #[.int .i64 own.one, .int .i64 own.cls, .int .i64 own.two, .int .i64 own.id]
  have L0 : Below w.heap.size w (w.alloc (.cells #[.int .i64 own.one, .int .i64 own.cls, .int .i64 own.two, .int .i64 own.id] 23)) := (Below.refl _ _).alloc (Nat.le_refl _) _
  generalize w.alloc (.cells #[.int .i64 own.one, .int .i64 own.cls, .int .i64 own.two, .int .i64 own.id] 23) = w1 at *
  refine sm_list [] 38 2 hs hd (by kernel_rfl) agN (by simp only [List.map_cons, List.map_nil, reOper, reOp, reO, reC, reK, Option.map_some, Option.map_none, fS_ite, ix_ite, Nat.reduceLeDiff, Nat.reduceEqDiff, if_true, if_false, ↓reduceIte, List.length_cons, List.length_nil, Nat.reduceAdd, Nat.reduceSub, List.map_toArray]; rfl) ?_
  simp only [List.replicate_succ, List.replicate_zero, List.cons_append, List.nil_append, List.drop_succ_cons, List.drop_zero, List.take_succ_cons, List.take_zero]
  go_wp2_with fail
  refine (head_any _).mono ?_
  rintro e w2 ⟨rfl, b2⟩
  have L2 := L0.trans (b2.mono L0.size)
  replace B6 := B6.kept b2
  clear L0 b2
  go_wp2_with fail
  intro a H
  replace hs := H.size.trans hs
  replace hd : a.defers = [] := H.defers
  replace e0 : a.tmps[0]? = some _ := H.keep e0 rfl
  replace e2 : a.tmps[2]? = some _ := H.keep e2 rfl
  replace e3 : a.tmps[3]? = some _ := H.keep e3 rfl
  replace e6 : a.tmps[6]? = some _ := H.keep e6 rfl
  replace e10 : a.tmps[10]? = some _ := H.keep e10 rfl
  have e39 : a.tmps[39]? = some _ := H.got rfl rfl
  clear H
  refine hKq3 _ _ ?_
  clear hKq3 Kq3
  refine wp_cond_false (slotE e39) ?_
  clear e39
  refine wp_skip ?_
  refine hKq2 _ _ ?_
  clear hKq2 Kq2
  refine wp_seq_k fun Kq4 hKq4 => ?_
  obtain ⟨g6, hg6⟩ : ∃ g6, g6 = w.heap.size := ⟨_, rfl⟩
  rw [← hg6] at B6 e6
  have HG6 := Lib.hid (Nat.le_of_eq hg6.symm)
  clear hg6
  have c60 := B6.cellOf (v := .int .i64 own.one) 0 rfl
  have c61 := B6.cellOf (v := .int .i64 own.cls) 1 rfl
  have c62 := B6.cellOf (v := .int .i64 own.two) 2 rfl
  have c63 := B6.cellOf (v := .int .i64 own.id) 3 rfl
  refine sm_list [0, 2, 3, 6, 11, 12] 40 8 hs hd (by kernel_rfl) (agC e0 (agC e2 (agC e3 (agC e6 (agU (agU agN)))))) (by simp only [List.map_cons, List.map_nil, reOper, reOp, reO, reC, reK, Option.map_some, Option.map_none, fS_ite, ix_ite, Nat.reduceLeDiff, Nat.reduceEqDiff, if_true, if_false, ↓reduceIte, List.length_cons, List.length_nil, Nat.reduceAdd, Nat.reduceSub, List.map_toArray]; rfl) ?_
  simp only [List.replicate_succ, List.replicate_zero, List.cons_append, List.nil_append, List.drop_succ_cons, List.drop_zero, List.take_succ_cons, List.take_zero]
  go_wp2_with fail
  refine (new_bad dom own ports most _ HB.out).mono ?_
  rintro e w3 ⟨rfl, b3⟩
  have L3 := L2.trans (b3.mono L2.size)
  replace B6 := B6.kept b3
  clear c60 c61 c62 c63 L2 b3
  go_wp2_with fail
  intro a H
  replace hs := H.size.trans hs
  replace hd : a.defers = [] := H.defers
  replace e0 : a.tmps[0]? = some _ := H.got rfl rfl
  replace e2 : a.tmps[2]? = some _ := H.got rfl rfl
  replace e3 : a.tmps[3]? = some _ := H.got rfl rfl
  replace e6 : a.tmps[6]? = some _ := H.got rfl rfl
  replace e10 : a.tmps[10]? = some _ := H.keep e10 rfl
  have e11 : a.tmps[11]? = some _ := H.got rfl rfl
  have e12 : a.tmps[12]? = some _ := H.got rfl rfl
  clear H
  refine hKq4 _ _ ?_
  clear hKq4 Kq4
  refine wp_seq_k fun Kq5 hKq5 => ?_
  have c60 := B6.cellOf (v := .int .i64 own.one) 0 rfl
  have c61 := B6.cellOf (v := .int .i64 own.cls) 1 rfl
  have c62 := B6.cellOf (v := .int .i64 own.two) 2 rfl
  have c63 := B6.cellOf (v := .int .i64 own.id) 3 rfl
  obtain ⟨R, hR⟩ : ∃ R, R = decide (RightP own) := ⟨_, rfl⟩
  have HR := Lib.hid hR
  clear hR
  suffices HK : ∀ (a' : Act), a'.tmps.size = a.tmps.size → a'.defers = [] → a'.tmps[0]? = a.tmps[0]? → a'.tmps[2]? = a.tmps[2]? → a'.tmps[3]? = a.tmps[3]? → a'.tmps[6]? = a.tmps[6]? → a'.tmps[10]? = a.tmps[10]? → a'.tmps[11]? = a.tmps[11]? → a'.tmps[12]? = a.tmps[12]? → a'.tmps[13]? = some (.bool R) → Kq5 a' w3 by
    refine sm_list [6, 13] 48 38 hs hd (by kernel_rfl) (agC e6 (agU agN)) (by simp only [List.map_cons, List.map_nil, reOper, reOp, reO, reC, reK, Option.map_some, Option.map_none, fS_ite, ix_ite, Nat.reduceLeDiff, Nat.reduceEqDiff, if_true, if_false, ↓reduceIte, List.length_cons, List.length_nil, Nat.reduceAdd, Nat.reduceSub, List.map_toArray]; rfl) ?_
    simp only [List.replicate_succ, List.replicate_zero, List.cons_append, List.nil_append, List.drop_succ_cons, List.drop_zero, List.take_succ_cons, List.take_zero]
    go_wp2_with fail
    all_goals
      intro a' H
      refine HK a' H.size H.defers (H.out 0 rfl) (H.out 2 rfl) (H.out 3 rfl) ((H.got rfl rfl).trans e6.symm) (H.out 10 rfl) (H.out 11 rfl) (H.out 12 rfl) ?_
      · (refine (H.got (t := 13) rfl rfl).trans (congrArg some ?_); refine congrArg Value.bool ?_; rw [HR.out]; first | exact (decide_eq_false (by unfold RightP; omega)).symm | exact decide_eq_decide.2 (by unfold RightP; omega))
  intro a' g_s g_d g0 g2 g3 g6 g10 g11 g12 f13
  replace hs := g_s.trans hs
  replace hd := g_d
  replace e0 := g0.trans e0
  replace e2 := g2.trans e2
  replace e3 := g3.trans e3
  replace e6 := g6.trans e6
  replace e10 := g10.trans e10
  replace e11 := g11.trans e11
  replace e12 := g12.trans e12
  clear g_s g_d g0 g2 g3 g6 g10 g11 g12
  have e13 := f13
  clear f13
  clear a
  obtain ⟨a, rfl⟩ : ∃ a, a = a' := ⟨_, rfl⟩
  refine hKq5 _ _ ?_
  clear hKq5 Kq5
  refine wp_seq_k fun Kq6 hKq6 => ?_
  refine wp_seq_k fun Kq7 hKq7 => ?_
  clear c60 c61 c62 c63
  suffices HK : ∀ (a' : Act), a'.tmps.size = a.tmps.size → a'.defers = [] → a'.tmps[0]? = a.tmps[0]? → a'.tmps[2]? = a.tmps[2]? → a'.tmps[3]? = a.tmps[3]? → a'.tmps[6]? = a.tmps[6]? → a'.tmps[10]? = a.tmps[10]? → a'.tmps[11]? = a.tmps[11]? → a'.tmps[12]? = a.tmps[12]? → a'.tmps[13]? = a.tmps[13]? → a'.tmps[111]? = some (.bool true) → Kq7 a' w3 by
    refine sm_list [0, 2, 3, 13] 86 26 hs hd (by kernel_rfl) (agC e0 (agC e2 (agC e3 (agC e13 agN)))) (by simp only [List.map_cons, List.map_nil, reOper, reOp, reO, reC, reK, Option.map_some, Option.map_none, fS_ite, ix_ite, Nat.reduceLeDiff, Nat.reduceEqDiff, if_true, if_false, ↓reduceIte, List.length_cons, List.length_nil, Nat.reduceAdd, Nat.reduceSub, List.map_toArray]; rfl) ?_
    simp only [List.replicate_succ, List.replicate_zero, List.cons_append, List.nil_append, List.drop_succ_cons, List.drop_zero, List.take_succ_cons, List.take_zero]
    go_wp2_with fail
    all_goals
      intro a' H
      refine HK a' H.size H.defers ((H.got rfl rfl).trans e0.symm) ((H.got rfl rfl).trans e2.symm) ((H.got rfl rfl).trans e3.symm) (H.out 6 rfl) (H.out 10 rfl) (H.out 11 rfl) (H.out 12 rfl) ((H.got rfl rfl).trans e13.symm) ?_
      · (refine (H.got (t := 111) rfl rfl).trans (congrArg some ?_); refine congrArg Value.bool ?_; first | rfl | (rw [HR.out]; exact bad_or HB.out) | (rw [HR.out]; have hb := bad_or HB.out; rw [decide_eq_false (show ¬ dom < 0 by omega)] at hb; exact hb))
  intro a' g_s g_d g0 g2 g3 g6 g10 g11 g12 g13 f111
  replace hs := g_s.trans hs
  replace hd := g_d
  replace e0 := g0.trans e0
  replace e2 := g2.trans e2
  replace e3 := g3.trans e3
  replace e6 := g6.trans e6
  replace e10 := g10.trans e10
  replace e11 := g11.trans e11
  replace e12 := g12.trans e12
  replace e13 := g13.trans e13
  clear g_s g_d g0 g2 g3 g6 g10 g11 g12 g13
  have e111 := f111
  clear f111
  clear a
  obtain ⟨a, rfl⟩ : ∃ a, a = a' := ⟨_, rfl⟩
  refine hKq7 _ _ ?_
  clear hKq7 Kq7
  clear e0
  clear e2
  clear e3
  clear e13
  clear HR R
  refine wp_cond_true (slotE e111) ?_
  clear e111
  refine wp_seq_k fun Kq8 hKq8 => ?_
  have s3 : w.heap.size ≤ w3.heap.size := L3.size
  refine sm_list [11, 14, 15] 112 5 hs hd (by kernel_rfl) (agC e11 (agU (agU agN))) (by simp only [List.map_cons, List.map_nil, reOper, reOp, reO, reC, reK, Option.map_some, Option.map_none, fS_ite, ix_ite, Nat.reduceLeDiff, Nat.reduceEqDiff, if_true, if_false, ↓reduceIte, List.length_cons, List.length_nil, Nat.reduceAdd, Nat.reduceSub, List.map_toArray]; rfl) ?_
  simp only [List.replicate_succ, List.replicate_zero, List.cons_append, List.nil_append, List.drop_succ_cons, List.drop_zero, List.take_succ_cons, List.take_zero]
  go_wp2_with fail
  refine (best_nil 0 w3).mono ?_
  rintro e w4 ⟨rfl, b4⟩
  rw [show Vc.val ⟨⟨0, 0, 0, 0⟩, 0, 0, 0, -1⟩ = .agg #[.int .i64 0, .int .i64 0, .int .i64 0, .int .i64 0, .int .i64 0, .int .i64 0, .int .i64 0, .int .i64 (-1)] from rfl]
  go_wp2_with fail
  intro a H
  replace hs := H.size.trans hs
  replace hd : a.defers = [] := H.defers
  replace e6 : a.tmps[6]? = some _ := H.keep e6 rfl
  replace e10 : a.tmps[10]? = some _ := H.keep e10 rfl
  replace e11 : a.tmps[11]? = some _ := H.got rfl rfl
  replace e12 : a.tmps[12]? = some _ := H.keep e12 rfl
  have e14 : a.tmps[14]? = some _ := H.got rfl rfl
  have e15 : a.tmps[15]? = some _ := H.got rfl rfl
  clear H
  refine hKq8 _ _ ?_
  clear hKq8 Kq8
  refine wp_seq_k fun Kq9 hKq9 => ?_
  have B14 := Blk.new w4 31 #[.int .i64 0, .int .i64 0, .int .i64 0, .int .i64 0, .int .i64 0, .int .i64 0, .int .i64 0, .int .i64 (-1)]
  have L4 := L3.trans (b4.mono L3.size)
  have L5 := L4.alloc L4.size (.cells #[.int .i64 0, .int .i64 0, .int .i64 0, .int .i64 0, .int .i64 0, .int .i64 0, .int .i64 0, .int .i64 (-1)] 31)
  generalize w4.alloc (.cells #[.int .i64 0, .int .i64 0, .int .i64 0, .int .i64 0, .int .i64 0, .int .i64 0, .int .i64 0, .int .i64 (-1)] 31) = w5 at *
  clear b4 L3 L4 B6 s3
  refine sm_list [11, 16, 17] 117 5 hs hd (by kernel_rfl) (agC e11 (agU (agU agN))) (by simp only [List.map_cons, List.map_nil, reOper, reOp, reO, reC, reK, Option.map_some, Option.map_none, fS_ite, ix_ite, Nat.reduceLeDiff, Nat.reduceEqDiff, if_true, if_false, ↓reduceIte, List.length_cons, List.length_nil, Nat.reduceAdd, Nat.reduceSub, List.map_toArray]; rfl) ?_
  simp only [List.replicate_succ, List.replicate_zero, List.cons_append, List.nil_append, List.drop_succ_cons, List.drop_zero, List.take_succ_cons, List.take_zero]
  go_wp2_with fail
  refine (out_nil 0 0 0 w5).mono ?_
  rintro e w6 ⟨rfl, b6⟩
  replace B14 := B14.kept b6
  have L6 := L5.trans (b6.mono L5.size)
  have L7 := L6.alloc L6.size (.cells (mcells zeroM none 0 0) 38)
  replace B14 := B14.alloc (.cells (mcells zeroM none 0 0) 38)
  clear b6 L5 L6
  go_wp2_with (refine wpList_store_new rfl 38 (.tmp 1) (.tmp 6) rfl rfl rfl rfl rfl (by kernel_rfl) (by rw [← Array.all_toList]; rfl) ?_)
  intro a H
  replace hs := H.size.trans hs
  replace hd : a.defers = [] := H.defers
  replace e6 : a.tmps[6]? = some _ := H.keep e6 rfl
  replace e10 : a.tmps[10]? = some _ := H.keep e10 rfl
  replace e11 : a.tmps[11]? = some _ := H.got rfl rfl
  replace e12 : a.tmps[12]? = some _ := H.keep e12 rfl
  replace e14 : a.tmps[14]? = some _ := H.keep e14 rfl
  replace e15 : a.tmps[15]? = some _ := H.keep e15 rfl
  have e17 : a.tmps[17]? = some _ := H.got rfl rfl
  clear H
  refine hKq9 _ _ ?_
  clear hKq9 Kq9
  refine wp_seq_k fun Kq10 hKq10 => ?_
  generalize w6.alloc (.cells (mcells zeroM none 0 0) 38) = w7 at *
  refine sm_list [11] 122 2 hs hd (by kernel_rfl) (agC e11 agN) (by simp only [List.map_cons, List.map_nil, reOper, reOp, reO, reC, reK, Option.map_some, Option.map_none, fS_ite, ix_ite, Nat.reduceLeDiff, Nat.reduceEqDiff, if_true, if_false, ↓reduceIte, List.length_cons, List.length_nil, Nat.reduceAdd, Nat.reduceSub, List.map_toArray]; rfl) ?_
  simp only [List.replicate_succ, List.replicate_zero, List.cons_append, List.nil_append, List.drop_succ_cons, List.drop_zero, List.take_succ_cons, List.take_zero]
  go_wp2_with fail
  refine (up_nil 0 true w7).mono ?_
  rintro e wx ⟨rfl, rfl⟩
  go_wp2_with fail
  intro a H
  replace hs := H.size.trans hs
  replace hd : a.defers = [] := H.defers
  replace e6 : a.tmps[6]? = some _ := H.keep e6 rfl
  replace e10 : a.tmps[10]? = some _ := H.keep e10 rfl
  replace e11 : a.tmps[11]? = some _ := H.got rfl rfl
  replace e12 : a.tmps[12]? = some _ := H.keep e12 rfl
  replace e14 : a.tmps[14]? = some _ := H.keep e14 rfl
  replace e15 : a.tmps[15]? = some _ := H.keep e15 rfl
  replace e17 : a.tmps[17]? = some _ := H.keep e17 rfl
  clear H
  refine hKq10 _ _ ?_
  clear hKq10 Kq10
  refine wp_seq_k fun Kq11 hKq11 => ?_
  have v0 := B14.cellOf (v := .int .i64 0) 0 rfl
  have v1 := B14.cellOf (v := .int .i64 0) 1 rfl
  have v2 := B14.cellOf (v := .int .i64 0) 2 rfl
  have v3 := B14.cellOf (v := .int .i64 0) 3 rfl
  have v4 := B14.cellOf (v := .int .i64 0) 4 rfl
  have v5 := B14.cellOf (v := .int .i64 0) 5 rfl
  have v6 := B14.cellOf (v := .int .i64 0) 6 rfl
  have v7 := B14.cellOf (v := .int .i64 (-1)) 7 rfl
  have hr := fun W => root_nil 0 W
  have hi := fun W => in_nil 0 0 zeroM none 0 0 W
  rw [show mcells zeroM none 0 0 = #[.int .i64 0, .int .i64 0, .int .i64 0, .int .i64 0, .int .i64 0, .int .i64 0, .int .i64 0, .int .i64 0, .int .i64 0, .int .i64 0, .int .i64 0, .int .i64 0, .int .i64 0, .int .i64 0, .int .i64 0, .slice none 0 0] from rfl] at hi
  have HR := Lib.hid (And.intro hr hi)
  clear hr hi
  refine sm_list [10, 11, 12, 14, 15, 17] 124 31 hs hd (by kernel_rfl) (agC e10 (agC e11 (agC e12 (agC e14 (agC e15 (agC e17 agN)))))) (by simp only [List.map_cons, List.map_nil, reOper, reOp, reO, reC, reK, Option.map_some, Option.map_none, fS_ite, ix_ite, Nat.reduceLeDiff, Nat.reduceEqDiff, if_true, if_false, ↓reduceIte, List.length_cons, List.length_nil, Nat.reduceAdd, Nat.reduceSub, List.map_toArray]; rfl) ?_
  simp only [List.replicate_succ, List.replicate_zero, List.cons_append, List.nil_append, List.drop_succ_cons, List.drop_zero, List.take_succ_cons, List.take_zero]
  go_wp2_with fail
  refine (HR.out.1 _).mono ?_
  rintro e w8 ⟨rfl, b8⟩
  have L8 := L7.trans (b8.mono L7.size)
  clear L7 b8 v0 v1 v2 v3 v4 v5 v6 v7
  go_wp2_with fail
  refine (HR.out.2 _).mono ?_
  rintro e w9 ⟨rfl, b9⟩
  have L9 := L8.trans (b9.mono L8.size)
  clear L8 b9
  go_wp2_with fail
  intro a H
  replace hs := H.size.trans hs
  replace hd : a.defers = [] := H.defers
  replace e6 : a.tmps[6]? = some _ := H.keep e6 rfl
  replace e11 : a.tmps[11]? = some _ := H.got rfl rfl
  replace e12 : a.tmps[12]? = some _ := H.got rfl rfl
  replace e14 : a.tmps[14]? = some _ := H.got rfl rfl
  replace e15 : a.tmps[15]? = some _ := H.got rfl rfl
  replace e17 : a.tmps[17]? = some _ := H.got rfl rfl
  replace e10 : a.tmps[10]? = some _ := H.got rfl rfl
  clear H
  refine hKq11 _ _ ?_
  clear hKq11 Kq11
  refine wp_ret ?_
  refine exit_then rfl ?_
  exact sm_ret rfl hd e10 ⟨rfl, L9⟩
end Go.Proofs.Ytcdgofndfajekaa
