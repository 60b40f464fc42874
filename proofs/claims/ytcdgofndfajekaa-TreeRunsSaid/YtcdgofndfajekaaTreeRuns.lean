/-
  TreeRuns: whatever is heard when, the law returns true. No condition.
-/
import Derived.Test.YtcdgofndfajekaaTreeRunsH
import Derived.Test.YtcdgofndfajekaaTreeRunsA
namespace Go.Proofs.Ytcdgofndfajekaa
set_option linter.unusedSimpArgs false
set_option linter.unusedVariables false
open Go.RowKit Go.WideShapes Go.ChangeShapes
attribute [local go_sem ↓] Go.wp_at_zero Go.wp_at_succ

set_option maxRecDepth 100000 in
set_option maxHeartbeats 4000000 in
theorem tr_good (dom most : Int) (own : Pr) (N : Nat) (A : Option Addr) (n c : Nat) (xs : List Value) (w : World) (hdom : 0 ≤ dom ∧ dom ≤ 127) (hN : N ≤ 8) (hmost : 1 ≤ most ∧ most ≤ 1099511627776) (hown : RightP own)
    (hn : n ≤ maxLen) (hr : Reads w w.heap.size 21 A n xs) (hst : ∀ i, i < n → ∃ s : S20, (s20c s).toList = (xs.drop (i * 21)).take 21 ∧ MsgIn w w.heap.size s.m s.A s.n) :
    Calls Try.prog 3 #[.int .i64 dom, .agg #[.int .i64 own.one, .int .i64 own.cls, .int .i64 own.two, .int .i64 own.id], .int .i64 (N : Int), .int .i64 most, .slice A n c] w fun e w' => e = .returned (.bool true) ∧ Below w.heap.size w w' := by
  refine calls_sm (N := 593) Try.func3 rfl (by kernel_rfl) ?_
  intro a hs hd ha
  have e0 : a.tmps[0]? = some (.int .i64 dom) := ha 0 _ rfl
  have e1 : a.tmps[1]? = some (.agg #[.int .i64 own.one, .int .i64 own.cls, .int .i64 own.two, .int .i64 own.id]) := ha 1 _ rfl
  have e2 : a.tmps[2]? = some (.int .i64 (N : Int)) := ha 2 _ rfl
  have e3 : a.tmps[3]? = some (.int .i64 most) := ha 3 _ rfl
  have e4 : a.tmps[4]? = some (.slice A n c) := ha 4 _ rfl
  clear ha
  conv => arg 2; whnf
  refine wp_seq_k fun Kq1 hKq1 => ?_
  obtain ⟨⟨ro1, ro2⟩, ⟨rc1, rc2⟩, ⟨rt1, rt2⟩, ri1, ri2⟩ := hown
  have HRO : Hid (RightP own) := Lib.hid ⟨⟨ro1, ro2⟩, ⟨rc1, rc2⟩, ⟨rt1, rt2⟩, ri1, ri2⟩
  have HNW := Lib.hid (fun W => new_right dom own N most W hdom hN hmost (okN_more ⟨ro1, ro2⟩ (okN_more ⟨rc1, rc2⟩ (okN_more ⟨rt1, rt2⟩ (okN_one (by decide))))) (okN_one (by unfold ids; omega)))
  have HDM := Lib.hid (And.intro hdom hmost)
  have HST := Lib.hid (And.intro hr hst)
  clear hr hst
  have p1 : decide (0 ≤ own.one) = true := decide_eq_true (by omega)
  have p2 : decide (own.one ≤ 255) = true := decide_eq_true (by omega)
  have p3 : decide (0 ≤ own.cls) = true := decide_eq_true (by omega)
  have p4 : decide (own.cls ≤ 255) = true := decide_eq_true (by omega)
  have p5 : decide (0 ≤ own.two) = true := decide_eq_true (by omega)
  have p6 : decide (own.two ≤ 255) = true := decide_eq_true (by omega)
  have p7 : decide (0 ≤ own.id) = true := decide_eq_true (by omega)
  have p8 : decide (own.id < 281474976710656) = true := decide_eq_true (by omega)
  have u1 : decide (dom < 0) = false := decide_eq_false (by omega)
  have u2 : decide (127 < dom) = false := decide_eq_false (by omega)
  have u3 : decide ((N : Int) < 0) = false := decide_eq_false (by omega)
  have u4 : decide (8 < (N : Int)) = false := decide_eq_false (by omega)
  have u5 : decide (most < 1) = false := decide_eq_false (by omega)
  have u6 : decide (1099511627776 < most) = false := decide_eq_false (by omega)
  clear ro1 ro2 rc1 rc2 rt1 rt2 ri1 ri2 hdom hmost
  refine sm_list [1, 6] 10 1 hs hd (by kernel_rfl) (agC e1 (agU agN)) (by simp only [List.map_cons, List.map_nil, reOper, reOp, reO, reC, reK, Option.map_some, Option.map_none, fS_ite, ix_ite, Nat.reduceLeDiff, Nat.reduceEqDiff, if_true, if_false, ↓reduceIte, List.length_cons, List.length_nil, Nat.reduceAdd, Nat.reduceSub, List.map_toArray]; rfl) ?_
  simp only [List.replicate_succ, List.replicate_zero, List.cons_append, List.nil_append, List.drop_succ_cons, List.drop_zero, List.take_succ_cons, List.take_zero]
  go_wp2_with fail
  intro a H
  replace hs := H.size.trans hs
  replace hd : a.defers = [] := H.defers
  replace e0 : a.tmps[0]? = some _ := H.keep e0 rfl
  replace e2 : a.tmps[2]? = some _ := H.keep e2 rfl
  replace e3 : a.tmps[3]? = some _ := H.keep e3 rfl
  replace e4 : a.tmps[4]? = some _ := H.keep e4 rfl
  clear e1
  have e6 : a.tmps[6]? = some _ := H.got rfl rfl
  have e10 : a.tmps[10]? = some _ := H.got rfl rfl
  clear H
  refine hKq1 _ _ ?_
  clear hKq1 Kq1
  refine wp_seq_k fun Kq2 hKq2 => ?_
  refine wp_seq_k fun Kq3 hKq3 => ?_
  have B6 := Blk.new w 23 #[.int .i64 own.one, .int .i64 own.cls, .int .i64 own.two, .int .i64 own.id]
  have L0 : Below w.heap.size w (w.alloc (.cells #[.int .i64 own.one, .int .i64 own.cls, .int .i64 own.two, .int .i64 own.id] 23)) := (Below.refl _ _).alloc (Nat.le_refl _) _
  generalize w.alloc (.cells #[.int .i64 own.one, .int .i64 own.cls, .int .i64 own.two, .int .i64 own.id] 23) = w1 at *
  refine sm_list [] 38 2 hs hd (by kernel_rfl) agN (by simp only [List.map_cons, List.map_nil, reOper, reOp, reO, reC, reK, Option.map_some, Option.map_none, fS_ite, ix_ite, Nat.reduceLeDiff, Nat.reduceEqDiff, if_true, if_false, ↓reduceIte, List.length_cons, List.length_nil, Nat.reduceAdd, Nat.reduceSub, List.map_toArray]; rfl) ?_
  simp only [List.replicate_succ, List.replicate_zero, List.cons_append, List.nil_append, List.drop_succ_cons, List.drop_zero, List.take_succ_cons, List.take_zero]
  go_wp2_with fail
  refine (head_any _).mono ?_
  rintro e w2 ⟨rfl, b2⟩
  have L2 := L0.trans (b2.mono L0.size)
  replace B6 := B6.kept b2
  clear L0 b2
  go_wp2_with fail
  intro a H
  replace hs := H.size.trans hs
  replace hd : a.defers = [] := H.defers
  replace e0 : a.tmps[0]? = some _ := H.keep e0 rfl
  replace e2 : a.tmps[2]? = some _ := H.keep e2 rfl
  replace e3 : a.tmps[3]? = some _ := H.keep e3 rfl
  replace e4 : a.tmps[4]? = some _ := H.keep e4 rfl
  replace e6 : a.tmps[6]? = some _ := H.keep e6 rfl
  replace e10 : a.tmps[10]? = some _ := H.keep e10 rfl
  have e39 : a.tmps[39]? = some _ := H.got rfl rfl
  clear H
  refine hKq3 _ _ ?_
  clear hKq3 Kq3
  refine wp_cond_false (slotE e39) ?_
  clear e39
  refine wp_skip ?_
  refine hKq2 _ _ ?_
  clear hKq2 Kq2
  refine wp_seq_k fun Kq4 hKq4 => ?_
  obtain ⟨g6, hg6⟩ : ∃ g6, g6 = w.heap.size := ⟨_, rfl⟩
  rw [← hg6] at B6 e6
  have HG6 := Lib.hid (Nat.le_of_eq hg6.symm)
  clear hg6
  have c60 := B6.cellOf (v := .int .i64 own.one) 0 rfl
  have c61 := B6.cellOf (v := .int .i64 own.cls) 1 rfl
  have c62 := B6.cellOf (v := .int .i64 own.two) 2 rfl
  have c63 := B6.cellOf (v := .int .i64 own.id) 3 rfl
  refine sm_list [0, 2, 3, 6, 11, 12] 40 8 hs hd (by kernel_rfl) (agC e0 (agC e2 (agC e3 (agC e6 (agU (agU agN)))))) (by simp only [List.map_cons, List.map_nil, reOper, reOp, reO, reC, reK, Option.map_some, Option.map_none, fS_ite, ix_ite, Nat.reduceLeDiff, Nat.reduceEqDiff, if_true, if_false, ↓reduceIte, List.length_cons, List.length_nil, Nat.reduceAdd, Nat.reduceSub, List.map_toArray]; rfl) ?_
  simp only [List.replicate_succ, List.replicate_zero, List.cons_append, List.nil_append, List.drop_succ_cons, List.drop_zero, List.take_succ_cons, List.take_zero]
  go_wp2_with fail
  refine (HNW.out _).mono ?_
  rintro e w3 ⟨b, ps, rfl, tat, hbn, b3⟩
  have L3 := L2.trans (b3.mono L2.size)
  have hb0 : ∀ g ∈ b.all, w.heap.size ≤ g := fun g hg => Nat.le_trans L2.size (hbn g hg)
  have hap : g6 ∉ b.all := fun h => by have := hbn g6 h; have := B6.lt; omega
  replace B6 := B6.kept b3
  clear c60 c61 c62 c63 L2 b3 hbn
  have HX := Lib.hid (And.intro tat (And.intro hb0 hap))
  clear tat hb0 hap HNW
  go_wp2_with fail
  intro a H
  replace hs := H.size.trans hs
  replace hd : a.defers = [] := H.defers
  replace e0 : a.tmps[0]? = some _ := H.got rfl rfl
  replace e2 : a.tmps[2]? = some _ := H.got rfl rfl
  replace e3 : a.tmps[3]? = some _ := H.got rfl rfl
  replace e4 : a.tmps[4]? = some _ := H.keep e4 rfl
  replace e6 : a.tmps[6]? = some _ := H.got rfl rfl
  replace e10 : a.tmps[10]? = some _ := H.keep e10 rfl
  have e11 : a.tmps[11]? = some _ := H.got rfl rfl
  have e12 : a.tmps[12]? = some _ := H.got rfl rfl
  clear H
  refine hKq4 _ _ ?_
  clear hKq4 Kq4
  refine wp_seq_k fun Kq5 hKq5 => ?_
  have c60 := B6.cellOf (v := .int .i64 own.one) 0 rfl
  have c61 := B6.cellOf (v := .int .i64 own.cls) 1 rfl
  have c62 := B6.cellOf (v := .int .i64 own.two) 2 rfl
  have c63 := B6.cellOf (v := .int .i64 own.id) 3 rfl
  refine sm_list [6, 13] 48 38 hs hd (by kernel_rfl) (agC e6 (agU agN)) (by simp only [List.map_cons, List.map_nil, reOper, reOp, reO, reC, reK, Option.map_some, Option.map_none, fS_ite, ix_ite, Nat.reduceLeDiff, Nat.reduceEqDiff, if_true, if_false, ↓reduceIte, List.length_cons, List.length_nil, Nat.reduceAdd, Nat.reduceSub, List.map_toArray]; rfl) ?_
  simp only [List.replicate_succ, List.replicate_zero, List.cons_append, List.nil_append, List.drop_succ_cons, List.drop_zero, List.take_succ_cons, List.take_zero]
  go_wp2_with fail
  intro a H
  replace hs := H.size.trans hs
  replace hd : a.defers = [] := H.defers
  replace e0 : a.tmps[0]? = some _ := H.keep e0 rfl
  replace e2 : a.tmps[2]? = some _ := H.keep e2 rfl
  replace e3 : a.tmps[3]? = some _ := H.keep e3 rfl
  replace e4 : a.tmps[4]? = some _ := H.keep e4 rfl
  replace e6 : a.tmps[6]? = some _ := H.got rfl rfl
  replace e10 : a.tmps[10]? = some _ := H.keep e10 rfl
  replace e11 : a.tmps[11]? = some _ := H.keep e11 rfl
  replace e12 : a.tmps[12]? = some _ := H.keep e12 rfl
  have e13 : a.tmps[13]? = some _ := H.got rfl rfl
  clear H
  refine hKq5 _ _ ?_
  clear hKq5 Kq5
  refine wp_seq_k fun Kq6 hKq6 => ?_
  refine wp_seq_k fun Kq7 hKq7 => ?_
  refine sm_list [0, 2, 3, 13] 86 26 hs hd (by kernel_rfl) (agC e0 (agC e2 (agC e3 (agC e13 agN)))) (by simp only [List.map_cons, List.map_nil, reOper, reOp, reO, reC, reK, Option.map_some, Option.map_none, fS_ite, ix_ite, Nat.reduceLeDiff, Nat.reduceEqDiff, if_true, if_false, ↓reduceIte, List.length_cons, List.length_nil, Nat.reduceAdd, Nat.reduceSub, List.map_toArray]; rfl) ?_
  simp only [List.replicate_succ, List.replicate_zero, List.cons_append, List.nil_append, List.drop_succ_cons, List.drop_zero, List.take_succ_cons, List.take_zero]
  go_wp2_with fail
  intro a H
  replace hs := H.size.trans hs
  replace hd : a.defers = [] := H.defers
  replace e0 : a.tmps[0]? = some _ := H.got rfl rfl
  replace e2 : a.tmps[2]? = some _ := H.got rfl rfl
  replace e3 : a.tmps[3]? = some _ := H.got rfl rfl
  replace e4 : a.tmps[4]? = some _ := H.keep e4 rfl
  replace e6 : a.tmps[6]? = some _ := H.keep e6 rfl
  replace e10 : a.tmps[10]? = some _ := H.keep e10 rfl
  replace e11 : a.tmps[11]? = some _ := H.keep e11 rfl
  replace e12 : a.tmps[12]? = some _ := H.keep e12 rfl
  replace e13 : a.tmps[13]? = some _ := H.got rfl rfl
  have e111 : a.tmps[111]? = some _ := H.got rfl rfl
  clear H
  refine hKq7 _ _ ?_
  clear hKq7 Kq7
  clear p1 p2 p3 p4 p5 p6 p7 p8 u1 u2 u3 u4 u5 u6
  clear e13
  refine wp_cond_false (slotE e111) ?_
  clear e111
  refine wp_skip ?_
  refine hKq6 _ _ ?_
  clear hKq6 Kq6
  refine wp_seq_k fun Kq8 hKq8 => ?_
  refine wp_seq_k fun Kq9 hKq9 => ?_
  refine sm_list [12] 155 2 hs hd (by kernel_rfl) (agC e12 agN) (by simp only [List.map_cons, List.map_nil, reOper, reOp, reO, reC, reK, Option.map_some, Option.map_none, fS_ite, ix_ite, Nat.reduceLeDiff, Nat.reduceEqDiff, if_true, if_false, ↓reduceIte, List.length_cons, List.length_nil, Nat.reduceAdd, Nat.reduceSub, List.map_toArray]; rfl) ?_
  simp only [List.replicate_succ, List.replicate_zero, List.cons_append, List.nil_append, List.drop_succ_cons, List.drop_zero, List.take_succ_cons, List.take_zero]
  go_wp2_with fail
  intro a H
  replace hs := H.size.trans hs
  replace hd : a.defers = [] := H.defers
  replace e0 : a.tmps[0]? = some _ := H.keep e0 rfl
  replace e2 : a.tmps[2]? = some _ := H.keep e2 rfl
  replace e3 : a.tmps[3]? = some _ := H.keep e3 rfl
  replace e4 : a.tmps[4]? = some _ := H.keep e4 rfl
  replace e6 : a.tmps[6]? = some _ := H.keep e6 rfl
  replace e10 : a.tmps[10]? = some _ := H.keep e10 rfl
  replace e11 : a.tmps[11]? = some _ := H.keep e11 rfl
  replace e12 : a.tmps[12]? = some _ := H.got rfl rfl
  have e156 : a.tmps[156]? = some _ := H.got rfl rfl
  clear H
  refine hKq9 _ _ ?_
  clear hKq9 Kq9
  refine wp_cond_false (slotE e156) ?_
  clear e156
  refine wp_skip ?_
  refine hKq8 _ _ ?_
  clear hKq8 Kq8
  refine wp_seq_k fun Kq10 hKq10 => ?_
  clear e12
  have mk : ∀ W, (Instr.makeSlice 44 (.int .i64 (N : Int)) (.int .i64 (N : Int))).run Try.prog W = .ok (.slice (some ⟨W.heap.size, 0, none⟩) N N) (W.alloc (.cells (madeCells zk (N * 12)) 51)) := fun W => mk_kept N hN W
  refine sm_list [2, 18] 157 2 hs hd (by kernel_rfl) (agC e2 (agU agN)) (by simp only [List.map_cons, List.map_nil, reOper, reOp, reO, reC, reK, Option.map_some, Option.map_none, fS_ite, ix_ite, Nat.reduceLeDiff, Nat.reduceEqDiff, if_true, if_false, ↓reduceIte, List.length_cons, List.length_nil, Nat.reduceAdd, Nat.reduceSub, List.map_toArray]; rfl) ?_
  simp only [List.replicate_succ, List.replicate_zero, List.cons_append, List.nil_append, List.drop_succ_cons, List.drop_zero, List.take_succ_cons, List.take_zero]
  go_wp2_with fail
  intro a H
  replace hs := H.size.trans hs
  replace hd : a.defers = [] := H.defers
  replace e0 : a.tmps[0]? = some _ := H.keep e0 rfl
  replace e2 : a.tmps[2]? = some _ := H.got rfl rfl
  replace e3 : a.tmps[3]? = some _ := H.keep e3 rfl
  replace e4 : a.tmps[4]? = some _ := H.keep e4 rfl
  replace e6 : a.tmps[6]? = some _ := H.keep e6 rfl
  replace e10 : a.tmps[10]? = some _ := H.keep e10 rfl
  replace e11 : a.tmps[11]? = some _ := H.keep e11 rfl
  have e18 : a.tmps[18]? = some _ := H.got rfl rfl
  clear H
  refine hKq10 _ _ ?_
  clear hKq10 Kq10
  refine wp_seq_k fun Kq11 hKq11 => ?_
  clear mk
  have KB := Blk.new w3 51 (madeCells zk (N * 12))
  rw [made_kept] at KB ⊢
  obtain ⟨w4, hw4⟩ : ∃ w4, w4 = w3.alloc (.cells (kcells (List.replicate N En.new) (List.replicate N (.slice none 0 0))).toArray 51) := ⟨_, rfl⟩
  rw [← hw4] at KB ⊢
  have LL : Below w3.heap.size w3 w4 := by rw [hw4]; exact (Below.refl _ _).alloc (Nat.le_refl _) _
  clear hw4 c60 c61 c62 c63
  obtain ⟨gk, hgk⟩ : ∃ gk, gk = w3.heap.size := ⟨_, rfl⟩
  rw [← hgk] at KB e18
  have B64 := B6.kept LL
  have L4 := L3.trans (LL.mono L3.size)
  have T4 := HX.out.1.kept LL
  have HK3 : Hid (gk = w3.heap.size ∧ g6 < w3.heap.size ∧ (∀ g ∈ b.all, g < w3.heap.size) ∧ w.heap.size ≤ w3.heap.size) := Lib.hid ⟨hgk, B6.lt, HX.out.1.lt, L3.size⟩
  clear hgk LL B6 L3
  have c60 := B64.cellOf (v := .int .i64 own.one) 0 rfl
  have c61 := B64.cellOf (v := .int .i64 own.cls) 1 rfl
  have c62 := B64.cellOf (v := .int .i64 own.two) 2 rfl
  have c63 := B64.cellOf (v := .int .i64 own.id) 3 rfl
  refine sm_list [6, 19] 159 9 hs hd (by kernel_rfl) (agC e6 (agU agN)) (by simp only [List.map_cons, List.map_nil, reOper, reOp, reO, reC, reK, Option.map_some, Option.map_none, fS_ite, ix_ite, Nat.reduceLeDiff, Nat.reduceEqDiff, if_true, if_false, ↓reduceIte, List.length_cons, List.length_nil, Nat.reduceAdd, Nat.reduceSub, List.map_toArray]; rfl) ?_
  simp only [List.replicate_succ, List.replicate_zero, List.cons_append, List.nil_append, List.drop_succ_cons, List.drop_zero, List.take_succ_cons, List.take_zero]
  go_wp2_with fail
  intro a H
  replace hs := H.size.trans hs
  replace hd : a.defers = [] := H.defers
  replace e0 : a.tmps[0]? = some _ := H.keep e0 rfl
  replace e2 : a.tmps[2]? = some _ := H.keep e2 rfl
  replace e3 : a.tmps[3]? = some _ := H.keep e3 rfl
  replace e4 : a.tmps[4]? = some _ := H.keep e4 rfl
  replace e6 : a.tmps[6]? = some _ := H.got rfl rfl
  replace e10 : a.tmps[10]? = some _ := H.keep e10 rfl
  replace e11 : a.tmps[11]? = some _ := H.keep e11 rfl
  replace e18 : a.tmps[18]? = some _ := H.keep e18 rfl
  have e19 : a.tmps[19]? = some _ := H.got rfl rfl
  clear H
  refine hKq11 _ _ ?_
  clear hKq11 Kq11
  refine wp_seq_k fun Kq12 hKq12 => ?_
  refine wp_seq_k fun Kq13 hKq13 => ?_
  clear c60 c61 c62 c63
  have BM := Blk.new w4 46 #[.int .i64 own.one, .int .i64 own.cls, .int .i64 own.two, .int .i64 own.id, .int .i64 0, .int .i64 0, .int .i64 0, .int .i64 0]
  have LL := (Below.refl w4.heap.size w4).alloc (Nat.le_refl _) (.cells #[.int .i64 own.one, .int .i64 own.cls, .int .i64 own.two, .int .i64 own.id, .int .i64 0, .int .i64 0, .int .i64 0, .int .i64 0] 46)
  have hgm : gk < w4.heap.size := KB.lt
  have KB5 := KB.kept LL
  have B65 := B64.kept LL
  have T5 := T4.kept LL
  have L5 := L4.trans (LL.mono L4.size)
  obtain ⟨gm, hgm2⟩ : ∃ gm, gm = w4.heap.size := ⟨_, rfl⟩
  rw [← hgm2] at BM e19 hgm
  have HM4 : Hid (∀ g ∈ b.all, g < gm) := Lib.hid (by rw [hgm2]; exact T4.lt)
  clear hgm2 LL KB B64 T4 L4
  generalize w4.alloc (.cells #[.int .i64 own.one, .int .i64 own.cls, .int .i64 own.two, .int .i64 own.id, .int .i64 0, .int .i64 0, .int .i64 0, .int .i64 0] 46) = w5 at *
  have hTI : TI w w5 b g6 gm gk own (Tre.new dom own most N) (Tre.new dom own most N).es ps (List.replicate N (.slice none 0 0)) := by
      obtain ⟨k1, k2, k3, k4⟩ := HK3.out
      have k5 := HM4.out
      refine ⟨T5, fun j A n c hj h0 ad hA => ?_, ⟨KB5, by simp [Tre.new], fun k e he => ?_⟩, B65, BM, L5, ⟨HG6.out, by omega, by omega, HX.out.2.1⟩, ⟨HX.out.2.2, fun h => by have := k5 gm h; omega, fun h => by have := k3 gk h; omega, by omega, by omega⟩⟩
      · obtain ⟨e, he⟩ : ∃ e, (Tre.new dom own most N).es[j]? = some e := by
          refine ⟨_, List.getElem?_eq_getElem ?_⟩
          have := T5.len
          have := (List.getElem?_eq_some_iff.1 hj).1
          omega
        obtain ⟨A2, c2, h1, h2, h3⟩ := T5.pth j e he
        have hp : e = En.new := by
          have he2 : (List.replicate N En.new)[j]? = some e := he
          rw [List.getElem?_replicate] at he2
          split at he2
          · injection he2 with he2; exact he2.symm
          · cases he2
        rw [hj, hp] at h1
        injection h1 with h1
        injection h1 with h1 h2 h3
        have h2 : n = 0 := h2
        omega
      · have he2 : (List.replicate N En.new)[k]? = some e := he
        rw [List.getElem?_replicate] at he2
        split at he2
        · rename_i hk
          injection he2 with he2
          subst he2
          exact ⟨none, 0, by rw [List.getElem?_replicate, if_pos hk]; rfl, Nat.le_refl _, Path.nil _ _ _⟩
        · cases he2
  have HTI := Lib.hid hTI
  have hOK : TOk own dom most N (Tre.new dom own most N) := ⟨rfl, rfl, rfl, by simp [Tre.new], fun e he => by unfold Tre.new at he; rw [List.eq_of_mem_replicate he]; exact EOk.new⟩
  have HOK := Lib.hid hOK
  clear hTI hOK KB5 B65 BM T5 L5 hgm
  refine sm_list [] 20 1 hs hd (by kernel_rfl) agN (by simp only [List.map_cons, List.map_nil, reOper, reOp, reO, reC, reK, Option.map_some, Option.map_none, fS_ite, ix_ite, Nat.reduceLeDiff, Nat.reduceEqDiff, if_true, if_false, ↓reduceIte, List.length_cons, List.length_nil, Nat.reduceAdd, Nat.reduceSub, List.map_toArray]; rfl) ?_
  simp only [List.replicate_succ, List.replicate_zero, List.cons_append, List.nil_append, List.drop_succ_cons, List.drop_zero, List.take_succ_cons, List.take_zero]
  go_wp2_with fail
  intro a H
  replace hs := H.size.trans hs
  replace hd : a.defers = [] := H.defers
  replace e0 : a.tmps[0]? = some _ := H.keep e0 rfl
  replace e2 : a.tmps[2]? = some _ := H.keep e2 rfl
  replace e3 : a.tmps[3]? = some _ := H.keep e3 rfl
  replace e4 : a.tmps[4]? = some _ := H.keep e4 rfl
  replace e6 : a.tmps[6]? = some _ := H.keep e6 rfl
  replace e10 : a.tmps[10]? = some _ := H.keep e10 rfl
  replace e11 : a.tmps[11]? = some _ := H.keep e11 rfl
  replace e18 : a.tmps[18]? = some _ := H.keep e18 rfl
  replace e19 : a.tmps[19]? = some _ := H.keep e19 rfl
  have e20 : a.tmps[20]? = some _ := H.got rfl rfl
  clear H
  refine hKq13 _ _ ?_
  clear hKq13 Kq13
  refine wp_block ?_
  clear e10
  refine wp_loop (fun a w' => ∃ (i : Nat) (t : Tre) (ps qs : List Value), i ≤ n ∧ a.tmps.size = 593 ∧ a.defers = [] ∧ a.tmps[0]? = some (.int .i64 dom) ∧ a.tmps[2]? = some (.int .i64 (N : Int)) ∧ a.tmps[3]? = some (.int .i64 most) ∧ a.tmps[4]? = some (.slice A n c) ∧ a.tmps[6]? = some (.pointer (some ⟨g6, 0, none⟩)) ∧ a.tmps[11]? = some (.pointer (some ⟨b.g, 0, none⟩)) ∧ a.tmps[18]? = some (.slice (some ⟨gk, 0, none⟩) N N) ∧ a.tmps[19]? = some (.pointer (some ⟨gm, 0, none⟩)) ∧ a.tmps[20]? = some (.int .i64 (i : Int)) ∧ Hid (TI w w' b g6 gm gk own t t.es ps qs ∧ TOk own dom most N t)) (fun a _ => n - (intOf (a.tmps.getD 20 undef)).toNat) ?_ ?_
  · exact ⟨0, _, _, _, Nat.zero_le _, hs, hd, e0, e2, e3, e4, e6, e11, e18, e19, e20, Lib.hid ⟨HTI.out, HOK.out⟩⟩
  clear hs hd e0 e2 e3 e4 e6 e11 e18 e19 e20 HTI HOK HX HM4 HK3 HG6 a ps
  rintro a w6 ⟨i, t, ps, qs, hi, hs, hd, e0, e2, e3, e4, e6, e11, e18, e19, e20, hI⟩
  have hm := slot e20
  by_cases hlt3 : i < n
  ·
    by_cases h60 : i < 60
    · obtain ⟨s, hs1, hs2⟩ := HST.out.2 i hlt3
      refine tr_round dom most own b g6 gm gk N A n c i s xs t ps qs a w w6 _ hs hd e0 e2 e3 e4 e6 e11 e18 e19 e20 hI.out.1 hI.out.2 hN HDM.out.2 HRO.out HDM.out.1 HST.out.1 hn hlt3 h60 hs1 hs2 ?_
      clear e0 e2 e3 e4 e6 e11 e18 e19 e20 hs hd
      intro a w7 t7 ps7 qs7 hs hd e0 e2 e3 e4 e6 e11 e18 e19 e20 T7 O7
      refine ⟨⟨i + 1, t7, ps7, qs7, by omega, hs, hd, e0, e2, e3, e4, e6, e11, e18, e19, e20, Lib.hid ⟨T7, O7⟩⟩, ?_⟩
      simp only [hm, slot e20, intOf]
      omega
    refine wp_seq_k fun Kq14 hKq14 => ?_
    refine wp_seq_k fun Kq15 hKq15 => ?_
    have d1 : decide ((i : Int) < (n : Int)) = true := decide_eq_true (by omega)
    have d2 : decide ((i : Int) < 60) = false := decide_eq_false (by omega)
    clear hm
    refine sm_list [4, 20] 168 8 hs hd (by kernel_rfl) (agC e4 (agC e20 agN)) (by simp only [List.map_cons, List.map_nil, reOper, reOp, reO, reC, reK, Option.map_some, Option.map_none, fS_ite, ix_ite, Nat.reduceLeDiff, Nat.reduceEqDiff, if_true, if_false, ↓reduceIte, List.length_cons, List.length_nil, Nat.reduceAdd, Nat.reduceSub, List.map_toArray]; rfl) ?_
    simp only [List.replicate_succ, List.replicate_zero, List.cons_append, List.nil_append, List.drop_succ_cons, List.drop_zero, List.take_succ_cons, List.take_zero]
    go_wp2_with fail
    intro a H
    replace hs := H.size.trans hs
    replace hd : a.defers = [] := H.defers
    replace e0 : a.tmps[0]? = some _ := H.keep e0 rfl
    replace e2 : a.tmps[2]? = some _ := H.keep e2 rfl
    replace e3 : a.tmps[3]? = some _ := H.keep e3 rfl
    replace e4 : a.tmps[4]? = some _ := H.got rfl rfl
    replace e6 : a.tmps[6]? = some _ := H.keep e6 rfl
    replace e11 : a.tmps[11]? = some _ := H.keep e11 rfl
    replace e18 : a.tmps[18]? = some _ := H.keep e18 rfl
    replace e19 : a.tmps[19]? = some _ := H.keep e19 rfl
    replace e20 : a.tmps[20]? = some _ := H.got rfl rfl
    have e175 : a.tmps[175]? = some _ := H.got rfl rfl
    clear H
    refine hKq15 _ _ ?_
    clear hKq15 Kq15
    refine wp_cond_false (slotE e175) ?_
    clear e175
    refine wp_exit ?_
    refine exit_then rfl ?_
    clear hKq14 Kq14
    refine exit_then rfl ?_
    refine exit_hit ?_
    refine hKq12 _ _ ?_
    clear hKq12 Kq12
    refine wp_seq_k fun Kq16 hKq16 => ?_
    have L6 := hI.out.1.below
    clear hI
    refine sm_list [] 10 1 hs hd (by kernel_rfl) agN (by simp only [List.map_cons, List.map_nil, reOper, reOp, reO, reC, reK, Option.map_some, Option.map_none, fS_ite, ix_ite, Nat.reduceLeDiff, Nat.reduceEqDiff, if_true, if_false, ↓reduceIte, List.length_cons, List.length_nil, Nat.reduceAdd, Nat.reduceSub, List.map_toArray]; rfl) ?_
    simp only [List.replicate_succ, List.replicate_zero, List.cons_append, List.nil_append, List.drop_succ_cons, List.drop_zero, List.take_succ_cons, List.take_zero]
    go_wp2_with fail
    intro a H
    replace hs := H.size.trans hs
    replace hd : a.defers = [] := H.defers
    replace e0 : a.tmps[0]? = some _ := H.keep e0 rfl
    replace e2 : a.tmps[2]? = some _ := H.keep e2 rfl
    replace e3 : a.tmps[3]? = some _ := H.keep e3 rfl
    replace e4 : a.tmps[4]? = some _ := H.keep e4 rfl
    replace e6 : a.tmps[6]? = some _ := H.keep e6 rfl
    replace e11 : a.tmps[11]? = some _ := H.keep e11 rfl
    replace e18 : a.tmps[18]? = some _ := H.keep e18 rfl
    replace e19 : a.tmps[19]? = some _ := H.keep e19 rfl
    replace e20 : a.tmps[20]? = some _ := H.keep e20 rfl
    have e10 : a.tmps[10]? = some _ := H.got rfl rfl
    clear H
    refine hKq16 _ _ ?_
    clear hKq16 Kq16
    refine wp_ret ?_
    exact sm_ret rfl hd e10 ⟨rfl, L6⟩
  · refine wp_seq_k fun Kq14 hKq14 => ?_
    refine wp_seq_k fun Kq15 hKq15 => ?_
    have d1 : decide ((i : Int) < (n : Int)) = false := decide_eq_false (by omega)
    clear hm
    refine sm_list [4, 20] 168 8 hs hd (by kernel_rfl) (agC e4 (agC e20 agN)) (by simp only [List.map_cons, List.map_nil, reOper, reOp, reO, reC, reK, Option.map_some, Option.map_none, fS_ite, ix_ite, Nat.reduceLeDiff, Nat.reduceEqDiff, if_true, if_false, ↓reduceIte, List.length_cons, List.length_nil, Nat.reduceAdd, Nat.reduceSub, List.map_toArray]; rfl) ?_
    simp only [List.replicate_succ, List.replicate_zero, List.cons_append, List.nil_append, List.drop_succ_cons, List.drop_zero, List.take_succ_cons, List.take_zero]
    go_wp2_with fail
    intro a H
    replace hs := H.size.trans hs
    replace hd : a.defers = [] := H.defers
    replace e0 : a.tmps[0]? = some _ := H.keep e0 rfl
    replace e2 : a.tmps[2]? = some _ := H.keep e2 rfl
    replace e3 : a.tmps[3]? = some _ := H.keep e3 rfl
    replace e4 : a.tmps[4]? = some _ := H.got rfl rfl
    replace e6 : a.tmps[6]? = some _ := H.keep e6 rfl
    replace e11 : a.tmps[11]? = some _ := H.keep e11 rfl
    replace e18 : a.tmps[18]? = some _ := H.keep e18 rfl
    replace e19 : a.tmps[19]? = some _ := H.keep e19 rfl
    replace e20 : a.tmps[20]? = some _ := H.got rfl rfl
    have e175 : a.tmps[175]? = some _ := H.got rfl rfl
    clear H
    refine hKq15 _ _ ?_
    clear hKq15 Kq15
    refine wp_cond_false (slotE e175) ?_
    clear e175
    refine wp_exit ?_
    refine exit_then rfl ?_
    clear hKq14 Kq14
    refine exit_then rfl ?_
    refine exit_hit ?_
    refine hKq12 _ _ ?_
    clear hKq12 Kq12
    refine wp_seq_k fun Kq16 hKq16 => ?_
    have L6 := hI.out.1.below
    clear hI
    refine sm_list [] 10 1 hs hd (by kernel_rfl) agN (by simp only [List.map_cons, List.map_nil, reOper, reOp, reO, reC, reK, Option.map_some, Option.map_none, fS_ite, ix_ite, Nat.reduceLeDiff, Nat.reduceEqDiff, if_true, if_false, ↓reduceIte, List.length_cons, List.length_nil, Nat.reduceAdd, Nat.reduceSub, List.map_toArray]; rfl) ?_
    simp only [List.replicate_succ, List.replicate_zero, List.cons_append, List.nil_append, List.drop_succ_cons, List.drop_zero, List.take_succ_cons, List.take_zero]
    go_wp2_with fail
    intro a H
    replace hs := H.size.trans hs
    replace hd : a.defers = [] := H.defers
    replace e0 : a.tmps[0]? = some _ := H.keep e0 rfl
    replace e2 : a.tmps[2]? = some _ := H.keep e2 rfl
    replace e3 : a.tmps[3]? = some _ := H.keep e3 rfl
    replace e4 : a.tmps[4]? = some _ := H.keep e4 rfl
    replace e6 : a.tmps[6]? = some _ := H.keep e6 rfl
    replace e11 : a.tmps[11]? = some _ := H.keep e11 rfl
    replace e18 : a.tmps[18]? = some _ := H.keep e18 rfl
    replace e19 : a.tmps[19]? = some _ := H.keep e19 rfl
    replace e20 : a.tmps[20]? = some _ := H.keep e20 rfl
    have e10 : a.tmps[10]? = some _ := H.got rfl rfl
    clear H
    refine hKq16 _ _ ?_
    clear hKq16 Kq16
    refine wp_ret ?_
    exact sm_ret rfl hd e10 ⟨rfl, L6⟩
theorem trodAll_five {H : Type} {enc : TypeId × Value → H} {P : Program} {w : World} {base : Nat} {spare : Nat → Bool} {held : Bool} {t0 t1 t2 t3 t4 : TypeId} {args : Array Value} {ds : List (DataW H)} {ps : List MemPlace} (h : DataW.TrodAll enc P w base spare held [t0, t1, t2, t3, t4] args.toList ds ps) :
    ∃ v0 v1 v2 v3 v4 d0 d1 d2 d3 d4 p0 p1 p2 p3 p4, args = #[v0, v1, v2, v3, v4] ∧ ds = [d0, d1, d2, d3, d4] ∧ ps = p0 ++ p1 ++ p2 ++ p3 ++ p4 ∧ DataW.Trod enc P w base spare held t0 v0 d0 p0 ∧ DataW.Trod enc P w base spare held t1 v1 d1 p1 ∧ DataW.Trod enc P w base spare held t2 v2 d2 p2 ∧ DataW.Trod enc P w base spare held t3 v3 d3 p3 ∧ DataW.Trod enc P w base spare held t4 v4 d4 p4 := by
  obtain ⟨v0, vs0, d0, ds0, p0, q0, hargs, rfl, rfl, hd0, hr0⟩ := trodAll_cons h
  obtain ⟨v1, vs1, d1, ds1, p1, q1, rfl, rfl, rfl, hd1, hr1⟩ := trodAll_cons hr0
  obtain ⟨v2, vs2, d2, ds2, p2, q2, rfl, rfl, rfl, hd2, hr2⟩ := trodAll_cons hr1
  obtain ⟨v3, vs3, d3, ds3, p3, q3, rfl, rfl, rfl, hd3, hr3⟩ := trodAll_cons hr2
  obtain ⟨v4, vs4, d4, ds4, p4, q4, rfl, rfl, rfl, hd4, hr4⟩ := trodAll_cons hr3
  obtain ⟨rfl, rfl, rfl⟩ := trodAll_nil hr4
  exact ⟨v0, v1, v2, v3, v4, d0, d1, d2, d3, d4, p0, p1, p2, p3, p4, by cases args; simp_all, rfl, by simp, hd0, hd1, hd2, hd3, hd4⟩
theorem treeRuns_calls (dom ports most : Int) (own : Pr) (A : Option Addr) (n c : Nat) (xs : List Value) (w : World) (hn : n ≤ maxLen) (hr : Reads w w.heap.size 21 A n xs) (hst : ∀ i, i < n → ∃ s : S20, (s20c s).toList = (xs.drop (i * 21)).take 21 ∧ MsgIn w w.heap.size s.m s.A s.n) :
    Calls Try.prog 3 #[.int .i64 dom, .agg #[.int .i64 own.one, .int .i64 own.cls, .int .i64 own.two, .int .i64 own.id], .int .i64 ports, .int .i64 most, .slice A n c] w fun e w' => e = .returned (.bool true) ∧ Below w.heap.size w w' := by
  by_cases hb : BadN dom own ports most
  · exact tr_bad dom ports most own A n c w hb
  · unfold BadN at hb
    simp only [not_or, Decidable.not_not] at hb
    obtain ⟨h1, h2, h3, h4, h5, h6, h7⟩ := hb
    obtain ⟨N, rfl⟩ : ∃ N : Nat, ports = (N : Int) := ⟨ports.toNat, by omega⟩
    exact tr_good dom most own N A n c xs w ⟨by omega, by omega⟩ (by omega) ⟨by omega, by omega⟩ h7 hn hr hst

/-! ### The row's step -/
set_option maxRecDepth 100000 in
theorem treeRuns_lifted (os : Os) (started : os.Started) (H : Type) (enc : TypeId × Value → H) :
    ReturnsInHanded {} Try.checked os 3 .any (Rows.treeRunsSpec.pre6 enc Try.prog Try.f3 Rows.treeRunsRow.domain false) (Rows.treeRunsSpec.post enc Try.prog Try.f3 false true false false) := by
  refine returnsInHanded_of_change (C := Try.checked) own started (by kernel_rfl) Try.func3
    (ChangeSpec.witness6 (enc := enc) (C := Try.checked) false ⟨#[], #[.int .i64 0, .agg #[.int .i64 0, .int .i64 0, .int .i64 0, .int .i64 0], .int .i64 0, .int .i64 0, .slice none 0 0], []⟩ 8 (by kernel_rfl) (by kernel_rfl) (by kernel_rfl) (by kernel_rfl)) ?_
  intro W base args ds gs before hval0 hW _ _
  have hval : ∀ (j : Nat) t v, Try.f3.params[j]? = some t → args[j]? = some v → Value.okWide Try.prog W .any base t v := hval0
  have hW' := hW
  obtain ⟨p, q, hA0, hV, rfl, hfz, hnd⟩ := hW
  have hA : DataW.TrodAll enc Try.prog W 0 (fun _ => true) true Try.f3.params.toList args.toList ds p := hA0
  rw [Try.params3] at hA hval
  obtain ⟨v0, v1, v2, v3, v4, d0, d1, d2, d3, d4, p0, p1, p2, p3, p4, rfl, rfl, rfl, h0, h1, h2, h3, h4⟩ := trodAll_five hA
  obtain ⟨dom, rfl⟩ := okWide_int Try.underlying3 (hval 0 3 v0 rfl rfl)
  obtain ⟨own, rfl⟩ := open_prior (hval 1 23 v1 rfl rfl) h1
  obtain ⟨ports, rfl⟩ := okWide_int Try.underlying3 (hval 2 3 v2 rfl rfl)
  obtain ⟨most, rfl⟩ := okWide_int Try.underlying3 (hval 3 3 v3 rfl rfl)
  obtain ⟨A, n, c, xs, rfl, hn, hr, hst⟩ := open_s20 (hval 4 24 v4 rfl rfl) h4 (fun x hx => hW'.lt x (by simp [hx]))
  exact law_post laidOut (by kernel_rfl) rfl (by kernel_rfl) Try.underlying4 rfl hW' (treeRuns_calls dom ports most own A n c xs W hn hr hst)

theorem treeRuns_holds : Rows.TreeRunsSaid :=
  OpenClaim.holds_of_wide 3 Try.f3 rfl rfl rfl rfl rfl rfl rfl ⟨rfl, rfl, rfl, rfl, rfl⟩ rfl rfl rfl rfl rfl (by kernel_rfl) Try.func3 (by kernel_rfl)
    (of_decide_eq_true (by kernel_rfl)) (by unfold Func.isWrapper; first | (rw [if_pos (by decide +kernel)]; kernel_rfl) | (rw [if_neg (by decide +kernel)]; exact ⟨rfl, rfl⟩))
    (fun os started H enc _ => treeRuns_lifted os started H enc)

#print axioms treeRuns_holds
end Go.Proofs.Ytcdgofndfajekaa
