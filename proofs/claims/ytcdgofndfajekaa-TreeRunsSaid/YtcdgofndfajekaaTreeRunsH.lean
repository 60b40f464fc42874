/-
  TreeRuns: a round.
-/
import Derived.Test.YtcdgofndfajekaaTreeRunsG
import Derived.Test.YtcdgofndfajekaaTreeRunsB
import Derived.Test.YtcdgofndfajekaaTreeRunsC
import Derived.Test.YtcdgofndfajekaaTreeRunsD
import Derived.Test.YtcdgofndfajekaaTreeRunsE
namespace Go.Proofs.Ytcdgofndfajekaa
set_option linter.unusedSimpArgs false
set_option linter.unusedVariables false
open Go.RowKit Go.WideShapes Go.ChangeShapes
attribute [local go_sem ↓] Go.wp_at_zero Go.wp_at_succ

set_option maxRecDepth 100000 in
set_option maxHeartbeats 4000000 in
theorem tr_round (dom most : Int) (own : Pr) (b : Bks) (g6 gm gk N : Nat) (A : Option Addr) (n c i : Nat) (s : S20) (xs : List Value) (t : Tre) (ps qs : List Value) (a : Act) (w0 w : World) (Q : Exit → Act → World → Prop)
    (hs : a.tmps.size = 593) (hd : a.defers = []) (e0 : a.tmps[0]? = some (.int .i64 dom)) (e2 : a.tmps[2]? = some (.int .i64 (N : Int))) (e3 : a.tmps[3]? = some (.int .i64 most)) (e4 : a.tmps[4]? = some (.slice A n c)) (e6 : a.tmps[6]? = some (.pointer (some ⟨g6, 0, none⟩))) (e11 : a.tmps[11]? = some (.pointer (some ⟨b.g, 0, none⟩))) (e18 : a.tmps[18]? = some (.slice (some ⟨gk, 0, none⟩) N N)) (e19 : a.tmps[19]? = some (.pointer (some ⟨gm, 0, none⟩))) (e20 : a.tmps[20]? = some (.int .i64 (i : Int)))
    (ti : TI w0 w b g6 gm gk own t t.es ps qs) (hok : TOk own dom most N t) (hN : N ≤ 8) (hmost : 1 ≤ most ∧ most ≤ 1099511627776) (hown : RightP own) (hdom : 0 ≤ dom ∧ dom ≤ 127)
    (hr : Reads w0 w0.heap.size 21 A n xs) (hn : n ≤ maxLen) (hi : i < n) (h60 : i < 60) (hst : (s20c s).toList = (xs.drop (i * 21)).take 21) (hmsg : MsgIn w0 w0.heap.size s.m s.A s.n) (hend : ∀ (a : Act) (w' : World) (t' : Tre) (ps' qs' : List Value), a.tmps.size = 593 → a.defers = [] → a.tmps[0]? = some (.int .i64 dom) → a.tmps[2]? = some (.int .i64 (N : Int)) → a.tmps[3]? = some (.int .i64 most) → a.tmps[4]? = some (.slice A n c) → a.tmps[6]? = some (.pointer (some ⟨g6, 0, none⟩)) → a.tmps[11]? = some (.pointer (some ⟨b.g, 0, none⟩)) → a.tmps[18]? = some (.slice (some ⟨gk, 0, none⟩) N N) → a.tmps[19]? = some (.pointer (some ⟨gm, 0, none⟩)) → a.tmps[20]? = some (.int .i64 ((i + 1 : Nat) : Int)) → TI w0 w' b g6 gm gk own t' t'.es ps' qs' → TOk own dom most N t' → Q .normal a w') :
    Code.wp Try.prog (sub [true, true, true, true, true, true, true, true, false, true, false, false] (bodyOf Try.f3)) Q a w := by
  conv => arg 2; whnf
  have HEND := Lib.hid hend
  have HOK := Lib.hid hok
  have HM := Lib.hid hmsg
  have HTI := Lib.hid ti
  have HD := Lib.hid (And.intro hmost (And.intro hown hdom))
  have c60 : (i : Int) < 60 := by omega
  obtain ⟨ad, rfl, hadl, hc⟩ := (hr.below ti.below).2 (by omega)
  have hcell : ∀ (j : Nat) (v : Value), (s20c s).toList[j]? = some v → w.cell? ((ad.add (i * 21)).add j) = some v := fun j v hv => by
      rw [hst] at hv
      rw [add_of_add]
      refine hc _ _ ?_
      rw [List.getElem?_take] at hv
      split at hv
      · rwa [List.getElem?_drop] at hv
      · cases hv
  have HC := Lib.hid hcell
  have hmx : (n : Int) ≤ 9223372036854775807 := by unfold maxLen at hn; omega
  have HI := Lib.hid (And.intro hi h60)
  clear hend hok hmsg ti hc hcell hst hr hmost hown hdom h60
  refine wp_seq_k fun Kq1 hKq1 => ?_
  refine wp_seq_k fun Kq2 hKq2 => ?_
  refine sm_list [4, 20] 168 8 hs hd (by kernel_rfl) (agC e4 (agC e20 agN)) (by simp only [List.map_cons, List.map_nil, reOper, reOp, reO, reC, reK, Option.map_some, Option.map_none, fS_ite, ix_ite, Nat.reduceLeDiff, Nat.reduceEqDiff, if_true, if_false, ↓reduceIte, List.length_cons, List.length_nil, Nat.reduceAdd, Nat.reduceSub, List.map_toArray]; rfl) ?_
  simp only [List.replicate_succ, List.replicate_zero, List.cons_append, List.nil_append, List.drop_succ_cons, List.drop_zero, List.take_succ_cons, List.take_zero]
  go_wp2_with fail
  intro a H
  replace hs := H.size.trans hs
  replace hd : a.defers = [] := H.defers
  replace e0 : a.tmps[0]? = some _ := H.keep e0 rfl
  replace e2 : a.tmps[2]? = some _ := H.keep e2 rfl
  replace e3 : a.tmps[3]? = some _ := H.keep e3 rfl
  replace e4 : a.tmps[4]? = some _ := H.got rfl rfl
  replace e6 : a.tmps[6]? = some _ := H.keep e6 rfl
  replace e11 : a.tmps[11]? = some _ := H.keep e11 rfl
  replace e18 : a.tmps[18]? = some _ := H.keep e18 rfl
  replace e19 : a.tmps[19]? = some _ := H.keep e19 rfl
  replace e20 : a.tmps[20]? = some _ := H.got rfl rfl
  have e175 : a.tmps[175]? = some _ := H.got rfl rfl
  clear H
  refine hKq2 _ _ ?_
  clear hKq2 Kq2
  refine wp_cond_true (slotE e175) ?_
  clear e175
  refine wp_skip ?_
  refine hKq1 _ _ ?_
  clear hKq1 Kq1
  refine wp_seq_k fun Kq3 hKq3 => ?_
  refine wp_block ?_
  refine wp_seq_k fun Kq4 hKq4 => ?_
  have S1 := Blk.new w 48 (s20c s)
  have LL := (Below.refl w.heap.size w).alloc (Nat.le_refl _) (.cells (s20c s) 48)
  refine sm_list [4, 20, 21] 178 4 hs hd (by kernel_rfl) (agC e4 (agC e20 (agU agN))) (by simp only [List.map_cons, List.map_nil, reOper, reOp, reO, reC, reK, Option.map_some, Option.map_none, fS_ite, ix_ite, Nat.reduceLeDiff, Nat.reduceEqDiff, if_true, if_false, ↓reduceIte, List.length_cons, List.length_nil, Nat.reduceAdd, Nat.reduceSub, List.map_toArray]; rfl) ?_
  simp only [List.replicate_succ, List.replicate_zero, List.cons_append, List.nil_append, List.drop_succ_cons, List.drop_zero, List.take_succ_cons, List.take_zero]
  go_wp2_with (first | (refine wpList_load_any_d rfl 48 (.tmp 5) rfl (ad.add (i * 21)) rfl (s20c s) _ HC.out Try.underlying48 rfl (by kernel_rfl) ?_) | (refine wpList_store_new rfl 48 (.tmp 2) (.tmp 6) rfl rfl rfl rfl rfl (by kernel_rfl) (by rw [← Array.all_toList]; rfl) ?_) | fail)
  intro a H
  replace hs := H.size.trans hs
  replace hd : a.defers = [] := H.defers
  replace e0 : a.tmps[0]? = some _ := H.keep e0 rfl
  replace e2 : a.tmps[2]? = some _ := H.keep e2 rfl
  replace e3 : a.tmps[3]? = some _ := H.keep e3 rfl
  replace e4 : a.tmps[4]? = some _ := H.got rfl rfl
  replace e6 : a.tmps[6]? = some _ := H.keep e6 rfl
  replace e11 : a.tmps[11]? = some _ := H.keep e11 rfl
  replace e18 : a.tmps[18]? = some _ := H.keep e18 rfl
  replace e19 : a.tmps[19]? = some _ := H.keep e19 rfl
  replace e20 : a.tmps[20]? = some _ := H.got rfl rfl
  have e21 : a.tmps[21]? = some _ := H.got rfl rfl
  clear H
  refine hKq4 _ _ ?_
  clear hKq4 Kq4
  refine wp_seq_k fun Kq5 hKq5 => ?_
  refine wp_seq_k fun Kq6 hKq6 => ?_
  have TI1 := HTI.out.kept LL
  obtain ⟨g21, hg21⟩ : ∃ g21, g21 = w.heap.size := ⟨_, rfl⟩
  rw [← hg21] at S1 e21
  have HG : Hid ((∀ g ∈ gk :: b.all, g < g21)) := Lib.hid (by
      rw [hg21]; intro g hg
      rcases List.mem_cons.1 hg with h | h
      · rw [h]; exact HTI.out.ks.box.lt
      · exact HTI.out.tat.lt g h)
  clear hg21 LL HTI HC hadl
  generalize w.alloc (.cells (s20c s) 48) = w1 at *
  have HT1 := Lib.hid TI1
  have c17 := S1.cellOf (v := .slice s.A s.n s.c) 17 rfl
  have y18 := S1.cellOf (v := .int .i64 s.now) 18 rfl
  obtain ⟨B, hB⟩ : ∃ B, B = decide (40 < s.n ∨ s.now < -1125899906842624 ∨ 1125899906842624 < s.now) := ⟨_, rfl⟩
  have hcase : (decide ((40 : Int) < (s.n : Int)) = true ∧ B = true) ∨ (decide ((40 : Int) < (s.n : Int)) = false ∧ decide (s.now < -1125899906842624) = true ∧ B = true) ∨ (decide ((40 : Int) < (s.n : Int)) = false ∧ decide (s.now < -1125899906842624) = false ∧ decide (1125899906842624 < s.now) = true ∧ B = true) ∨ (decide ((40 : Int) < (s.n : Int)) = false ∧ decide (s.now < -1125899906842624) = false ∧ decide (1125899906842624 < s.now) = false ∧ B = false) := by
      have e1 : decide ((40 : Int) < (s.n : Int)) = decide (40 < s.n) := decide_eq_decide.2 (by omega)
      rw [hB, e1]; by_cases a1 : 40 < s.n <;> by_cases a2 : s.now < -1125899906842624 <;> by_cases a3 : 1125899906842624 < s.now <;> simp [a1, a2, a3]
  have HB := Lib.hid hB
  clear hB TI1 hmx
  suffices HK : ∀ (a' : Act), a'.tmps.size = a.tmps.size → a'.defers = [] → a'.tmps[0]? = a.tmps[0]? → a'.tmps[2]? = a.tmps[2]? → a'.tmps[3]? = a.tmps[3]? → a'.tmps[4]? = a.tmps[4]? → a'.tmps[6]? = a.tmps[6]? → a'.tmps[11]? = a.tmps[11]? → a'.tmps[18]? = a.tmps[18]? → a'.tmps[19]? = a.tmps[19]? → a'.tmps[20]? = a.tmps[20]? → a'.tmps[21]? = a.tmps[21]? → a'.tmps[196]? = some (.bool B) → Kq6 a' w1 by
    rcases hcase with ⟨k1, rfl⟩ | ⟨k1, k2, rfl⟩ | ⟨k1, k2, k3, rfl⟩ | ⟨k1, k2, k3, rfl⟩
    all_goals
      refine sm_list [21] 182 15 hs hd (by kernel_rfl) (agC e21 agN) (by simp only [List.map_cons, List.map_nil, reOper, reOp, reO, reC, reK, Option.map_some, Option.map_none, fS_ite, ix_ite, Nat.reduceLeDiff, Nat.reduceEqDiff, if_true, if_false, ↓reduceIte, List.length_cons, List.length_nil, Nat.reduceAdd, Nat.reduceSub, List.map_toArray]; rfl) ?_
      simp only [List.replicate_succ, List.replicate_zero, List.cons_append, List.nil_append, List.drop_succ_cons, List.drop_zero, List.take_succ_cons, List.take_zero]
      go_wp2_with fail
      intro a' H
      refine HK a' H.size H.defers (H.out 0 rfl) (H.out 2 rfl) (H.out 3 rfl) (H.out 4 rfl) (H.out 6 rfl) (H.out 11 rfl) (H.out 18 rfl) (H.out 19 rfl) (H.out 20 rfl) ((H.got rfl rfl).trans e21.symm) ?_
      · exact H.got rfl rfl
  intro a' g_s g_d g0 g2 g3 g4 g6 g11 g18 g19 g20 g21 f196
  replace hs := g_s.trans hs
  replace hd := g_d
  replace e0 := g0.trans e0
  replace e2 := g2.trans e2
  replace e3 := g3.trans e3
  replace e4 := g4.trans e4
  replace e6 := g6.trans e6
  replace e11 := g11.trans e11
  replace e18 := g18.trans e18
  replace e19 := g19.trans e19
  replace e20 := g20.trans e20
  replace e21 := g21.trans e21
  clear g_s g_d g0 g2 g3 g4 g6 g11 g18 g19 g20 g21
  have e196 := f196
  clear f196
  clear a
  obtain ⟨a, rfl⟩ : ∃ a, a = a' := ⟨_, rfl⟩
  refine hKq6 _ _ ?_
  clear hKq6 Kq6
  clear c17 y18
  by_cases hsk : 40 < s.n ∨ s.now < -1125899906842624 ∨ 1125899906842624 < s.now
  · obtain rfl : B = true := HB.out.trans (decide_eq_true hsk)
    clear HB hsk
    refine wp_cond_true (slotE e196) ?_
    clear e196
    clear e21
    refine wp_exit ?_
    refine exit_then rfl ?_
    clear hKq5 Kq5
    refine exit_hit ?_
    refine hKq3 _ _ ?_
    clear hKq3 Kq3
    have ci0 : (0 : Int) ≤ (i : Int) := by omega
    refine sm_list [20] 176 2 hs hd (by kernel_rfl) (agC e20 agN) (by simp only [List.map_cons, List.map_nil, reOper, reOp, reO, reC, reK, Option.map_some, Option.map_none, fS_ite, ix_ite, Nat.reduceLeDiff, Nat.reduceEqDiff, if_true, if_false, ↓reduceIte, List.length_cons, List.length_nil, Nat.reduceAdd, Nat.reduceSub, List.map_toArray]; rfl) ?_
    simp only [List.replicate_succ, List.replicate_zero, List.cons_append, List.nil_append, List.drop_succ_cons, List.drop_zero, List.take_succ_cons, List.take_zero]
    go_wp2_with fail
    intro a H
    replace hs := H.size.trans hs
    replace hd : a.defers = [] := H.defers
    replace e0 : a.tmps[0]? = some _ := H.keep e0 rfl
    replace e2 : a.tmps[2]? = some _ := H.keep e2 rfl
    replace e3 : a.tmps[3]? = some _ := H.keep e3 rfl
    replace e4 : a.tmps[4]? = some _ := H.keep e4 rfl
    replace e6 : a.tmps[6]? = some _ := H.keep e6 rfl
    replace e11 : a.tmps[11]? = some _ := H.keep e11 rfl
    replace e18 : a.tmps[18]? = some _ := H.keep e18 rfl
    replace e19 : a.tmps[19]? = some _ := H.keep e19 rfl
    replace e20 : a.tmps[20]? = some _ := H.got rfl rfl
    clear H
    exact HEND.out a _ _ _ _ hs hd e0 e2 e3 e4 e6 e11 e18 e19 e20 HT1.out HOK.out
  obtain rfl : B = false := HB.out.trans (decide_eq_false hsk)
  have hnow : -1125899906842624 ≤ s.now ∧ s.now ≤ 1125899906842624 := by omega
  clear HB hsk
  refine wp_cond_false (slotE e196) ?_
  clear e196
  refine wp_skip ?_
  refine hKq5 _ _ ?_
  clear hKq5 Kq5
  refine wp_seq_k fun Kq7 hKq7 => ?_
  refine sm_list [22] 197 1 hs hd (by kernel_rfl) (agU agN) (by simp only [List.map_cons, List.map_nil, reOper, reOp, reO, reC, reK, Option.map_some, Option.map_none, fS_ite, ix_ite, Nat.reduceLeDiff, Nat.reduceEqDiff, if_true, if_false, ↓reduceIte, List.length_cons, List.length_nil, Nat.reduceAdd, Nat.reduceSub, List.map_toArray]; rfl) ?_
  simp only [List.replicate_succ, List.replicate_zero, List.cons_append, List.nil_append, List.drop_succ_cons, List.drop_zero, List.take_succ_cons, List.take_zero]
  go_wp2_with fail
  intro a H
  replace hs := H.size.trans hs
  replace hd : a.defers = [] := H.defers
  replace e0 : a.tmps[0]? = some _ := H.keep e0 rfl
  replace e2 : a.tmps[2]? = some _ := H.keep e2 rfl
  replace e3 : a.tmps[3]? = some _ := H.keep e3 rfl
  replace e4 : a.tmps[4]? = some _ := H.keep e4 rfl
  replace e6 : a.tmps[6]? = some _ := H.keep e6 rfl
  replace e11 : a.tmps[11]? = some _ := H.keep e11 rfl
  replace e18 : a.tmps[18]? = some _ := H.keep e18 rfl
  replace e19 : a.tmps[19]? = some _ := H.keep e19 rfl
  replace e20 : a.tmps[20]? = some _ := H.keep e20 rfl
  replace e21 : a.tmps[21]? = some _ := H.keep e21 rfl
  have e22 : a.tmps[22]? = some _ := H.got rfl rfl
  clear H
  refine hKq7 _ _ ?_
  clear hKq7 Kq7
  refine wp_seq_k fun Kq8 hKq8 => ?_
  refine wp_seq_k fun Kq9 hKq9 => ?_
  obtain ⟨w2, hw2⟩ : ∃ w2, w2 = w1.alloc (.cells #[] 53) := ⟨_, rfl⟩
  have LL : Below w1.heap.size w1 w2 := by rw [hw2]; exact (Below.refl _ _).alloc (Nat.le_refl _) _
  have O2 : w2.ownsRow w1.heap.size 53 10 (.slice (some ⟨w1.heap.size, 0, none⟩) 0 0) 0 [] := by rw [hw2]; exact ownsRow_new w1 (base := w1.heap.size) (n := 0) (size := 10) (cs := #[]) (Nat.le_refl _) rfl (Nat.zero_le _)
  have hlt : gk < w1.heap.size ∧ g21 < w1.heap.size ∧ w1.heap.size < w2.heap.size := ⟨HT1.out.ks.box.lt, S1.lt, by rw [hw2]; simp⟩
  rw [← hw2]
  have T2 := HT1.out.kept LL
  have S2 := S1.kept LL
  have HS1 := Lib.hid S1
  clear hw2 S1 hcase
  obtain ⟨g22, hg22⟩ : ∃ g22, g22 = w1.heap.size := ⟨_, rfl⟩
  rw [← hg22] at O2 hlt e22 LL
  have HW2 := Lib.hid (And.intro LL hg22)
  clear hg22 LL
  refine sm_list [18] 198 3 hs hd (by kernel_rfl) (agC e18 agN) (by simp only [List.map_cons, List.map_nil, reOper, reOp, reO, reC, reK, Option.map_some, Option.map_none, fS_ite, ix_ite, Nat.reduceLeDiff, Nat.reduceEqDiff, if_true, if_false, ↓reduceIte, List.length_cons, List.length_nil, Nat.reduceAdd, Nat.reduceSub, List.map_toArray]; rfl) ?_
  simp only [List.replicate_succ, List.replicate_zero, List.cons_append, List.nil_append, List.drop_succ_cons, List.drop_zero, List.take_succ_cons, List.take_zero]
  go_wp2_with fail
  intro a H
  replace hs := H.size.trans hs
  replace hd : a.defers = [] := H.defers
  replace e0 : a.tmps[0]? = some _ := H.keep e0 rfl
  replace e2 : a.tmps[2]? = some _ := H.keep e2 rfl
  replace e3 : a.tmps[3]? = some _ := H.keep e3 rfl
  replace e4 : a.tmps[4]? = some _ := H.keep e4 rfl
  replace e6 : a.tmps[6]? = some _ := H.keep e6 rfl
  replace e11 : a.tmps[11]? = some _ := H.keep e11 rfl
  replace e18 : a.tmps[18]? = some _ := H.got rfl rfl
  replace e19 : a.tmps[19]? = some _ := H.keep e19 rfl
  replace e20 : a.tmps[20]? = some _ := H.keep e20 rfl
  replace e21 : a.tmps[21]? = some _ := H.keep e21 rfl
  replace e22 : a.tmps[22]? = some _ := H.keep e22 rfl
  have e198 : a.tmps[198]? = some _ := H.got rfl rfl
  have e199 : a.tmps[199]? = some _ := H.got rfl rfl
  have e200 : a.tmps[200]? = some _ := H.got rfl rfl
  clear H
  refine hKq9 _ _ ?_
  clear hKq9 Kq9
  refine tr_hs (g22 := g22) dom most own b g6 gm gk N (some ad) n c i g21 s t.es qs a w2 _ hs hd e0 e2 e3 e4 e6 e11 e18 e19 e20 e21 e198 e199 e22 e200 hN HOK.out.len O2 T2.ks S2 hlt hnow (fun e he => (HOK.out.all e he).1) ?_
  clear hs hd e0 e2 e3 e4 e6 e11 e18 e19 e20 e21 e198 e199 e22 e200 T2 S2 O2 hlt a
  intro a w3 v22 hs hd e0 e2 e3 e4 e6 e11 e18 e19 e20 e21 e22 own3 b3
  refine hKq8 _ _ ?_
  clear hKq8 Kq8
  refine wp_seq_k fun Kq10 hKq10 => ?_
  have hts : (t.es.map fun e => (⟨e.up, e.live most s.now, e.vec⟩ : Hd)) = t.hs s.now := by unfold Tre.hs; rw [HOK.out.most]
  rw [hts] at own3
  have L13 : Below w1.heap.size w1 w3 := by
      have h := HW2.out.1.trans b3
      rw [HW2.out.2] at h; exact h
  have T3 := HT1.out.kept L13
  have S3 := HS1.out.kept L13
  clear hts b3 L13 HT1 HS1 HW2
  obtain ⟨A22, c22, rfl, _, hr22⟩ := ownsRow_reads own3
  have hch := refChoose_any ⟨own, 0, 0, 0, 0⟩ A22 N c22 (t.hs s.now) w3 hr22 (by unfold Tre.hs; rw [List.length_map, HOK.out.len]) (by omega)
  unfold RefRet at hch
  rw [show topOf (⟨own, 0, 0, 0, 0⟩ : Vc).root (t.hs s.now) = t.top s.now by unfold Tre.top; rw [HOK.out.own_]] at hch
  obtain ⟨rl, hrl⟩ : ∃ rl, rl = refRoles own (t.top s.now) 0 (t.hs s.now) := ⟨_, rfl⟩
  rw [show (⟨own, 0, 0, 0, 0⟩ : Vc).root = own from rfl, ← hrl] at hch
  have hRL : (rl.map fun x => Value.int .i64 x) = (List.range N).map fun j => .int .i64 (roleAt own (t.top s.now) (t.hs s.now) j) := by
      have h := roles_same own (t.hs s.now) (fun h hh => by
        unfold Tre.hs at hh
        obtain ⟨e, he, rfl⟩ := List.mem_map.1 hh
        obtain ⟨_, _, _, h4, _⟩ := HOK.out.all e he
        have ha := okN_mem h4
        simp only [List.mem_cons, List.not_mem_nil, or_false, forall_eq_or_imp, forall_eq] at ha
        unfold Fit; show -1099511627776 ≤ e.vec.steps ∧ e.vec.steps ≤ 1099511627776; omega)
      have hl : (t.hs s.now).length = N := by unfold Tre.hs; rw [List.length_map, HOK.out.len]
      have ht : topOf own (t.hs s.now) = t.top s.now := by unfold Tre.top; rw [HOK.out.own_]
      rw [hl, ht] at h; rw [hrl]; exact h
  have HRL := Lib.hid hRL
  obtain ⟨T, hT⟩ : ∃ T, T = t.top s.now := ⟨_, rfl⟩
  rw [← hT] at hch
  have HTT := Lib.hid hT
  unfold Vc.val Vc.cells Pr.cells iz at hch
  simp only [List.cons_append, List.nil_append] at hch
  have HCH := Lib.hid hch
  have mi := T3.mine
  clear hch hrl hRL hT hr22 own3
  have m0 := mi.cellOf (v := .int .i64 own.one) 0 rfl
  have m1 := mi.cellOf (v := .int .i64 own.cls) 1 rfl
  have m2 := mi.cellOf (v := .int .i64 own.two) 2 rfl
  have m3 := mi.cellOf (v := .int .i64 own.id) 3 rfl
  have m4 := mi.cellOf (v := .int .i64 0) 4 rfl
  have m5 := mi.cellOf (v := .int .i64 0) 5 rfl
  have m6 := mi.cellOf (v := .int .i64 0) 6 rfl
  have m7 := mi.cellOf (v := .int .i64 0) 7 rfl
  refine sm_list [19, 22, 25, 26] 231 6 hs hd (by kernel_rfl) (agC e19 (agC e22 (agU (agU agN)))) (by simp only [List.map_cons, List.map_nil, reOper, reOp, reO, reC, reK, Option.map_some, Option.map_none, fS_ite, ix_ite, Nat.reduceLeDiff, Nat.reduceEqDiff, if_true, if_false, ↓reduceIte, List.length_cons, List.length_nil, Nat.reduceAdd, Nat.reduceSub, List.map_toArray]; rfl) ?_
  simp only [List.replicate_succ, List.replicate_zero, List.cons_append, List.nil_append, List.drop_succ_cons, List.drop_zero, List.take_succ_cons, List.take_zero]
  go_wp2_with fail
  refine HCH.out.mono ?_
  rintro e w4 ⟨v26, rfl, own4, b4⟩
  have T4 := T3.kept b4
  have S4 := S3.kept b4
  clear m0 m1 m2 m3 m4 m5 m6 m7 mi HCH b4
  go_wp2_with fail
  intro a H
  replace hs := H.size.trans hs
  replace hd : a.defers = [] := H.defers
  replace e0 : a.tmps[0]? = some _ := H.keep e0 rfl
  replace e2 : a.tmps[2]? = some _ := H.keep e2 rfl
  replace e3 : a.tmps[3]? = some _ := H.keep e3 rfl
  replace e4 : a.tmps[4]? = some _ := H.keep e4 rfl
  replace e6 : a.tmps[6]? = some _ := H.keep e6 rfl
  replace e11 : a.tmps[11]? = some _ := H.keep e11 rfl
  replace e18 : a.tmps[18]? = some _ := H.keep e18 rfl
  replace e19 : a.tmps[19]? = some _ := H.got rfl rfl
  replace e20 : a.tmps[20]? = some _ := H.keep e20 rfl
  replace e21 : a.tmps[21]? = some _ := H.keep e21 rfl
  clear e22
  have e25 : a.tmps[25]? = some _ := H.got rfl rfl
  have e26 : a.tmps[26]? = some _ := H.got rfl rfl
  clear H
  refine hKq10 _ _ ?_
  clear hKq10 Kq10
  refine wp_seq_k fun Kq11 hKq11 => ?_
  have B25 := Blk.new w4 46 #[.int .i64 T.root.one, .int .i64 T.root.cls, .int .i64 T.root.two, .int .i64 T.root.id, .int .i64 T.steps, .int .i64 T.src, .int .i64 T.port, .int .i64 T.at_]
  have LL := (Below.refl w4.heap.size w4).alloc (Nat.le_refl _) (.cells #[.int .i64 T.root.one, .int .i64 T.root.cls, .int .i64 T.root.two, .int .i64 T.root.id, .int .i64 T.steps, .int .i64 T.src, .int .i64 T.port, .int .i64 T.at_] 46)
  have T5 := T4.kept LL
  have S5 := S4.kept LL
  have own5 := own4.alloc (.cells #[.int .i64 T.root.one, .int .i64 T.root.cls, .int .i64 T.root.two, .int .i64 T.root.id, .int .i64 T.steps, .int .i64 T.src, .int .i64 T.port, .int .i64 T.at_] 46)
  obtain ⟨g25, hg25⟩ : ∃ g25, g25 = w4.heap.size := ⟨_, rfl⟩
  rw [← hg25] at B25 e25
  have hap : g21 ∉ b.all ∧ g25 ∉ b.all ∧ g21 ≠ gk ∧ g25 ≠ gk ∧ ∀ k, v26.ownBlock = some k → k ∉ b.all ∧ k ≠ gk := by
      have h1 := HG.out
      have h2 := T3.tat.lt
      have h3 := T3.ks.box.lt
      have h4 := T4.tat.lt
      have h5 := T4.ks.box.lt
      have a1 : g21 ∉ b.all := fun h => absurd (h1 g21 (List.mem_cons_of_mem _ h)) (Nat.lt_irrefl _)
      have a2 : g25 ∉ b.all := fun h => by have := h4 g25 h; omega
      have a3 : g21 ≠ gk := fun h => by have := h1 gk (List.mem_cons_self ..); omega
      have a4 : g25 ≠ gk := by omega
      refine ⟨a1, a2, a3, a4, fun k hk => ?_⟩
      have h6 := (ownsRow_lt own4 k hk).1
      exact ⟨fun h => by have := h2 k h; omega, by omega⟩
  have RD : Rd w0 (w4.alloc (.cells #[.int .i64 T.root.one, .int .i64 T.root.cls, .int .i64 T.root.two, .int .i64 T.root.id, .int .i64 T.steps, .int .i64 T.src, .int .i64 T.port, .int .i64 T.at_] 46)) b g6 gm gk own t t.es ps qs g21 g25 w3.heap.size N s v26 (t.top s.now) rl := ⟨T5, S5, by rw [← HTT.out]; exact B25, own5, hap⟩
  have HRD := Lib.hid RD
  clear hg25 T3 S3 T4 S4 LL T5 own4 own5 hap RD B25 HTT HG
  generalize w4.alloc (.cells #[.int .i64 T.root.one, .int .i64 T.root.cls, .int .i64 T.root.two, .int .i64 T.root.id, .int .i64 T.steps, .int .i64 T.src, .int .i64 T.port, .int .i64 T.at_] 46) = w5 at *
  have y1 := S5.cellOf (v := .int .i64 s.at_) 1 rfl
  have y0 := S5.cellOf (v := .int .i64 s.k) 0 rfl
  have hth : (decide (0 ≤ s.at_) = true ∧ decide (s.at_ < (N : Int)) = true ∧ decide (0 ≤ s.at_ ∧ s.at_ < (N : Int)) = true) ∨ (decide (0 ≤ s.at_) = true ∧ decide (s.at_ < (N : Int)) = false ∧ decide (0 ≤ s.at_ ∧ s.at_ < (N : Int)) = false) ∨ (decide (0 ≤ s.at_) = false ∧ decide (0 ≤ s.at_ ∧ s.at_ < (N : Int)) = false) := by
      by_cases a1 : 0 ≤ s.at_ <;> by_cases a2 : s.at_ < (N : Int) <;> simp [a1, a2]
  obtain ⟨D, hD⟩ : ∃ D, D = decide (0 ≤ s.at_ ∧ s.at_ < (N : Int)) := ⟨_, rfl⟩
  rw [← hD] at hth
  have HD2 := Lib.hid hD
  clear hD
  suffices HK : ∀ (a' : Act), a'.tmps.size = a.tmps.size → a'.defers = [] → a'.tmps[0]? = a.tmps[0]? → a'.tmps[2]? = a.tmps[2]? → a'.tmps[3]? = a.tmps[3]? → a'.tmps[4]? = a.tmps[4]? → a'.tmps[6]? = a.tmps[6]? → a'.tmps[11]? = a.tmps[11]? → a'.tmps[18]? = a.tmps[18]? → a'.tmps[19]? = a.tmps[19]? → a'.tmps[20]? = a.tmps[20]? → a'.tmps[21]? = a.tmps[21]? → a'.tmps[25]? = a.tmps[25]? → a'.tmps[26]? = a.tmps[26]? → a'.tmps[27]? = some (.bool D) → Kq11 a' w5 by
    rcases hth with ⟨k1, k2, rfl⟩ | ⟨k1, k2, rfl⟩ | ⟨k1, rfl⟩
    all_goals
      refine sm_list [2, 21, 27] 237 9 hs hd (by kernel_rfl) (agC e2 (agC e21 (agU agN))) (by simp only [List.map_cons, List.map_nil, reOper, reOp, reO, reC, reK, Option.map_some, Option.map_none, fS_ite, ix_ite, Nat.reduceLeDiff, Nat.reduceEqDiff, if_true, if_false, ↓reduceIte, List.length_cons, List.length_nil, Nat.reduceAdd, Nat.reduceSub, List.map_toArray]; rfl) ?_
      simp only [List.replicate_succ, List.replicate_zero, List.cons_append, List.nil_append, List.drop_succ_cons, List.drop_zero, List.take_succ_cons, List.take_zero]
      go_wp2_with fail
      intro a' H
      refine HK a' H.size H.defers (H.out 0 rfl) ((H.got rfl rfl).trans e2.symm) (H.out 3 rfl) (H.out 4 rfl) (H.out 6 rfl) (H.out 11 rfl) (H.out 18 rfl) (H.out 19 rfl) (H.out 20 rfl) ((H.got rfl rfl).trans e21.symm) (H.out 25 rfl) (H.out 26 rfl) ?_
      · exact H.got rfl rfl
  intro a' g_s g_d g0 g2 g3 g4 g6 g11 g18 g19 g20 g21 g25 g26 f27
  replace hs := g_s.trans hs
  replace hd := g_d
  replace e0 := g0.trans e0
  replace e2 := g2.trans e2
  replace e3 := g3.trans e3
  replace e4 := g4.trans e4
  replace e6 := g6.trans e6
  replace e11 := g11.trans e11
  replace e18 := g18.trans e18
  replace e19 := g19.trans e19
  replace e20 := g20.trans e20
  replace e21 := g21.trans e21
  replace e25 := g25.trans e25
  replace e26 := g26.trans e26
  clear g_s g_d g0 g2 g3 g4 g6 g11 g18 g19 g20 g21 g25 g26
  have e27 := f27
  clear f27
  clear a
  obtain ⟨a, rfl⟩ : ∃ a, a = a' := ⟨_, rfl⟩
  refine hKq11 _ _ ?_
  clear hKq11 Kq11
  refine wp_seq_k fun Kq12 hKq12 => ?_
  rw [HD2.out] at e27
  clear HD2 hth
  refine sm_list [21] 246 2 hs hd (by kernel_rfl) (agC e21 agN) (by simp only [List.map_cons, List.map_nil, reOper, reOp, reO, reC, reK, Option.map_some, Option.map_none, fS_ite, ix_ite, Nat.reduceLeDiff, Nat.reduceEqDiff, if_true, if_false, ↓reduceIte, List.length_cons, List.length_nil, Nat.reduceAdd, Nat.reduceSub, List.map_toArray]; rfl) ?_
  simp only [List.replicate_succ, List.replicate_zero, List.cons_append, List.nil_append, List.drop_succ_cons, List.drop_zero, List.take_succ_cons, List.take_zero]
  go_wp2_with fail
  intro a H
  replace hs := H.size.trans hs
  replace hd : a.defers = [] := H.defers
  replace e0 : a.tmps[0]? = some _ := H.keep e0 rfl
  replace e2 : a.tmps[2]? = some _ := H.keep e2 rfl
  replace e3 : a.tmps[3]? = some _ := H.keep e3 rfl
  replace e4 : a.tmps[4]? = some _ := H.keep e4 rfl
  replace e6 : a.tmps[6]? = some _ := H.keep e6 rfl
  replace e11 : a.tmps[11]? = some _ := H.keep e11 rfl
  replace e18 : a.tmps[18]? = some _ := H.keep e18 rfl
  replace e19 : a.tmps[19]? = some _ := H.keep e19 rfl
  replace e20 : a.tmps[20]? = some _ := H.keep e20 rfl
  replace e21 : a.tmps[21]? = some _ := H.got rfl rfl
  replace e25 : a.tmps[25]? = some _ := H.keep e25 rfl
  replace e26 : a.tmps[26]? = some _ := H.keep e26 rfl
  replace e27 : a.tmps[27]? = some _ := H.keep e27 rfl
  have e247 : a.tmps[247]? = some _ := H.got rfl rfl
  clear H
  refine hKq12 _ _ ?_
  clear hKq12 Kq12
  refine wp_block ?_
  refine wp_seq_k fun Kq13 hKq13 => ?_
  clear y1 y0 S5
  by_cases hk0 : s.k = 0
  · have dk : (s.k == 0) = true := beq_iff_eq.2 hk0
    refine sm_list [247] 248 2 hs hd (by kernel_rfl) (agC e247 agN) (by simp only [List.map_cons, List.map_nil, reOper, reOp, reO, reC, reK, Option.map_some, Option.map_none, fS_ite, ix_ite, Nat.reduceLeDiff, Nat.reduceEqDiff, if_true, if_false, ↓reduceIte, List.length_cons, List.length_nil, Nat.reduceAdd, Nat.reduceSub, List.map_toArray]; rfl) ?_
    simp only [List.replicate_succ, List.replicate_zero, List.cons_append, List.nil_append, List.drop_succ_cons, List.drop_zero, List.take_succ_cons, List.take_zero]
    go_wp2_with fail
    intro a H
    replace hs := H.size.trans hs
    replace hd : a.defers = [] := H.defers
    replace e0 : a.tmps[0]? = some _ := H.keep e0 rfl
    replace e2 : a.tmps[2]? = some _ := H.keep e2 rfl
    replace e3 : a.tmps[3]? = some _ := H.keep e3 rfl
    replace e4 : a.tmps[4]? = some _ := H.keep e4 rfl
    replace e6 : a.tmps[6]? = some _ := H.keep e6 rfl
    replace e11 : a.tmps[11]? = some _ := H.keep e11 rfl
    replace e18 : a.tmps[18]? = some _ := H.keep e18 rfl
    replace e19 : a.tmps[19]? = some _ := H.keep e19 rfl
    replace e20 : a.tmps[20]? = some _ := H.keep e20 rfl
    replace e21 : a.tmps[21]? = some _ := H.keep e21 rfl
    replace e25 : a.tmps[25]? = some _ := H.keep e25 rfl
    replace e26 : a.tmps[26]? = some _ := H.keep e26 rfl
    replace e27 : a.tmps[27]? = some _ := H.keep e27 rfl
    replace e247 : a.tmps[247]? = some _ := H.got rfl rfl
    have e248 : a.tmps[248]? = some _ := H.got rfl rfl
    clear H
    refine hKq13 _ _ ?_
    clear hKq13 Kq13
    refine wp_cond_true (slotE e248) ?_
    clear e248
    clear e247
    refine tr_in dom most own b g6 gm gk N (some ad) n c i g21 g25 w3.heap.size s v26 rl t ps qs a w0 w5 _ hs hd e0 e2 e3 e4 e6 e11 e18 e19 e20 e21 e25 e26 e27 HRD.out HOK.out HM.out hN hnow ?_
    clear hs hd e0 e2 e3 e4 e6 e11 e18 e19 e20 e21 e25 e26 e27 a
    intro a w6 t6 ps6 qs6 hs hd e0 e2 e3 e4 e6 e11 e18 e19 e20 T6 O6
    refine hKq3 _ _ ?_
    clear hKq3 Kq3
    have ci0 : (0 : Int) ≤ (i : Int) := by omega
    refine sm_list [20] 176 2 hs hd (by kernel_rfl) (agC e20 agN) (by simp only [List.map_cons, List.map_nil, reOper, reOp, reO, reC, reK, Option.map_some, Option.map_none, fS_ite, ix_ite, Nat.reduceLeDiff, Nat.reduceEqDiff, if_true, if_false, ↓reduceIte, List.length_cons, List.length_nil, Nat.reduceAdd, Nat.reduceSub, List.map_toArray]; rfl) ?_
    simp only [List.replicate_succ, List.replicate_zero, List.cons_append, List.nil_append, List.drop_succ_cons, List.drop_zero, List.take_succ_cons, List.take_zero]
    go_wp2_with fail
    intro a H
    replace hs := H.size.trans hs
    replace hd : a.defers = [] := H.defers
    replace e0 : a.tmps[0]? = some _ := H.keep e0 rfl
    replace e2 : a.tmps[2]? = some _ := H.keep e2 rfl
    replace e3 : a.tmps[3]? = some _ := H.keep e3 rfl
    replace e4 : a.tmps[4]? = some _ := H.keep e4 rfl
    replace e6 : a.tmps[6]? = some _ := H.keep e6 rfl
    replace e11 : a.tmps[11]? = some _ := H.keep e11 rfl
    replace e18 : a.tmps[18]? = some _ := H.keep e18 rfl
    replace e19 : a.tmps[19]? = some _ := H.keep e19 rfl
    replace e20 : a.tmps[20]? = some _ := H.got rfl rfl
    clear H
    exact HEND.out a _ _ _ _ hs hd e0 e2 e3 e4 e6 e11 e18 e19 e20 T6 O6
  have dk0 : (s.k == 0) = false := beq_eq_false_iff_ne.2 hk0
  refine sm_list [247] 248 2 hs hd (by kernel_rfl) (agC e247 agN) (by simp only [List.map_cons, List.map_nil, reOper, reOp, reO, reC, reK, Option.map_some, Option.map_none, fS_ite, ix_ite, Nat.reduceLeDiff, Nat.reduceEqDiff, if_true, if_false, ↓reduceIte, List.length_cons, List.length_nil, Nat.reduceAdd, Nat.reduceSub, List.map_toArray]; rfl) ?_
  simp only [List.replicate_succ, List.replicate_zero, List.cons_append, List.nil_append, List.drop_succ_cons, List.drop_zero, List.take_succ_cons, List.take_zero]
  go_wp2_with fail
  intro a H
  replace hs := H.size.trans hs
  replace hd : a.defers = [] := H.defers
  replace e0 : a.tmps[0]? = some _ := H.keep e0 rfl
  replace e2 : a.tmps[2]? = some _ := H.keep e2 rfl
  replace e3 : a.tmps[3]? = some _ := H.keep e3 rfl
  replace e4 : a.tmps[4]? = some _ := H.keep e4 rfl
  replace e6 : a.tmps[6]? = some _ := H.keep e6 rfl
  replace e11 : a.tmps[11]? = some _ := H.keep e11 rfl
  replace e18 : a.tmps[18]? = some _ := H.keep e18 rfl
  replace e19 : a.tmps[19]? = some _ := H.keep e19 rfl
  replace e20 : a.tmps[20]? = some _ := H.keep e20 rfl
  replace e21 : a.tmps[21]? = some _ := H.keep e21 rfl
  replace e25 : a.tmps[25]? = some _ := H.keep e25 rfl
  replace e26 : a.tmps[26]? = some _ := H.keep e26 rfl
  replace e27 : a.tmps[27]? = some _ := H.keep e27 rfl
  replace e247 : a.tmps[247]? = some _ := H.got rfl rfl
  have e248 : a.tmps[248]? = some _ := H.got rfl rfl
  clear H
  refine hKq13 _ _ ?_
  clear hKq13 Kq13
  refine wp_cond_false (slotE e248) ?_
  clear e248
  refine wp_seq_k fun Kq14 hKq14 => ?_
  by_cases hk1 : s.k = 1
  · have dk : (s.k == 1) = true := beq_iff_eq.2 hk1
    refine sm_list [247] 364 2 hs hd (by kernel_rfl) (agC e247 agN) (by simp only [List.map_cons, List.map_nil, reOper, reOp, reO, reC, reK, Option.map_some, Option.map_none, fS_ite, ix_ite, Nat.reduceLeDiff, Nat.reduceEqDiff, if_true, if_false, ↓reduceIte, List.length_cons, List.length_nil, Nat.reduceAdd, Nat.reduceSub, List.map_toArray]; rfl) ?_
    simp only [List.replicate_succ, List.replicate_zero, List.cons_append, List.nil_append, List.drop_succ_cons, List.drop_zero, List.take_succ_cons, List.take_zero]
    go_wp2_with fail
    intro a H
    replace hs := H.size.trans hs
    replace hd : a.defers = [] := H.defers
    replace e0 : a.tmps[0]? = some _ := H.keep e0 rfl
    replace e2 : a.tmps[2]? = some _ := H.keep e2 rfl
    replace e3 : a.tmps[3]? = some _ := H.keep e3 rfl
    replace e4 : a.tmps[4]? = some _ := H.keep e4 rfl
    replace e6 : a.tmps[6]? = some _ := H.keep e6 rfl
    replace e11 : a.tmps[11]? = some _ := H.keep e11 rfl
    replace e18 : a.tmps[18]? = some _ := H.keep e18 rfl
    replace e19 : a.tmps[19]? = some _ := H.keep e19 rfl
    replace e20 : a.tmps[20]? = some _ := H.keep e20 rfl
    replace e21 : a.tmps[21]? = some _ := H.keep e21 rfl
    replace e25 : a.tmps[25]? = some _ := H.keep e25 rfl
    replace e26 : a.tmps[26]? = some _ := H.keep e26 rfl
    replace e27 : a.tmps[27]? = some _ := H.keep e27 rfl
    replace e247 : a.tmps[247]? = some _ := H.got rfl rfl
    have e364 : a.tmps[364]? = some _ := H.got rfl rfl
    clear H
    refine hKq14 _ _ ?_
    clear hKq14 Kq14
    refine wp_cond_true (slotE e364) ?_
    clear e364
    clear e247
    refine tr_up dom most own b g6 gm gk N (some ad) n c i g21 g25 w3.heap.size s v26 rl t ps qs a w0 w5 _ hs hd e0 e2 e3 e4 e6 e11 e18 e19 e20 e21 e25 e26 e27 HRD.out HOK.out HM.out hN hnow ?_
    clear hs hd e0 e2 e3 e4 e6 e11 e18 e19 e20 e21 e25 e26 e27 a
    intro a w6 t6 ps6 qs6 hs hd e0 e2 e3 e4 e6 e11 e18 e19 e20 T6 O6
    refine hKq3 _ _ ?_
    clear hKq3 Kq3
    have ci0 : (0 : Int) ≤ (i : Int) := by omega
    refine sm_list [20] 176 2 hs hd (by kernel_rfl) (agC e20 agN) (by simp only [List.map_cons, List.map_nil, reOper, reOp, reO, reC, reK, Option.map_some, Option.map_none, fS_ite, ix_ite, Nat.reduceLeDiff, Nat.reduceEqDiff, if_true, if_false, ↓reduceIte, List.length_cons, List.length_nil, Nat.reduceAdd, Nat.reduceSub, List.map_toArray]; rfl) ?_
    simp only [List.replicate_succ, List.replicate_zero, List.cons_append, List.nil_append, List.drop_succ_cons, List.drop_zero, List.take_succ_cons, List.take_zero]
    go_wp2_with fail
    intro a H
    replace hs := H.size.trans hs
    replace hd : a.defers = [] := H.defers
    replace e0 : a.tmps[0]? = some _ := H.keep e0 rfl
    replace e2 : a.tmps[2]? = some _ := H.keep e2 rfl
    replace e3 : a.tmps[3]? = some _ := H.keep e3 rfl
    replace e4 : a.tmps[4]? = some _ := H.keep e4 rfl
    replace e6 : a.tmps[6]? = some _ := H.keep e6 rfl
    replace e11 : a.tmps[11]? = some _ := H.keep e11 rfl
    replace e18 : a.tmps[18]? = some _ := H.keep e18 rfl
    replace e19 : a.tmps[19]? = some _ := H.keep e19 rfl
    replace e20 : a.tmps[20]? = some _ := H.got rfl rfl
    clear H
    exact HEND.out a _ _ _ _ hs hd e0 e2 e3 e4 e6 e11 e18 e19 e20 T6 O6
  have dk1 : (s.k == 1) = false := beq_eq_false_iff_ne.2 hk1
  refine sm_list [247] 364 2 hs hd (by kernel_rfl) (agC e247 agN) (by simp only [List.map_cons, List.map_nil, reOper, reOp, reO, reC, reK, Option.map_some, Option.map_none, fS_ite, ix_ite, Nat.reduceLeDiff, Nat.reduceEqDiff, if_true, if_false, ↓reduceIte, List.length_cons, List.length_nil, Nat.reduceAdd, Nat.reduceSub, List.map_toArray]; rfl) ?_
  simp only [List.replicate_succ, List.replicate_zero, List.cons_append, List.nil_append, List.drop_succ_cons, List.drop_zero, List.take_succ_cons, List.take_zero]
  go_wp2_with fail
  intro a H
  replace hs := H.size.trans hs
  replace hd : a.defers = [] := H.defers
  replace e0 : a.tmps[0]? = some _ := H.keep e0 rfl
  replace e2 : a.tmps[2]? = some _ := H.keep e2 rfl
  replace e3 : a.tmps[3]? = some _ := H.keep e3 rfl
  replace e4 : a.tmps[4]? = some _ := H.keep e4 rfl
  replace e6 : a.tmps[6]? = some _ := H.keep e6 rfl
  replace e11 : a.tmps[11]? = some _ := H.keep e11 rfl
  replace e18 : a.tmps[18]? = some _ := H.keep e18 rfl
  replace e19 : a.tmps[19]? = some _ := H.keep e19 rfl
  replace e20 : a.tmps[20]? = some _ := H.keep e20 rfl
  replace e21 : a.tmps[21]? = some _ := H.keep e21 rfl
  replace e25 : a.tmps[25]? = some _ := H.keep e25 rfl
  replace e26 : a.tmps[26]? = some _ := H.keep e26 rfl
  replace e27 : a.tmps[27]? = some _ := H.keep e27 rfl
  replace e247 : a.tmps[247]? = some _ := H.got rfl rfl
  have e364 : a.tmps[364]? = some _ := H.got rfl rfl
  clear H
  refine hKq14 _ _ ?_
  clear hKq14 Kq14
  refine wp_cond_false (slotE e364) ?_
  clear e364
  refine wp_seq_k fun Kq15 hKq15 => ?_
  by_cases hk2 : s.k = 2
  · have dk : (s.k == 2) = true := beq_iff_eq.2 hk2
    refine sm_list [247] 397 2 hs hd (by kernel_rfl) (agC e247 agN) (by simp only [List.map_cons, List.map_nil, reOper, reOp, reO, reC, reK, Option.map_some, Option.map_none, fS_ite, ix_ite, Nat.reduceLeDiff, Nat.reduceEqDiff, if_true, if_false, ↓reduceIte, List.length_cons, List.length_nil, Nat.reduceAdd, Nat.reduceSub, List.map_toArray]; rfl) ?_
    simp only [List.replicate_succ, List.replicate_zero, List.cons_append, List.nil_append, List.drop_succ_cons, List.drop_zero, List.take_succ_cons, List.take_zero]
    go_wp2_with fail
    intro a H
    replace hs := H.size.trans hs
    replace hd : a.defers = [] := H.defers
    replace e0 : a.tmps[0]? = some _ := H.keep e0 rfl
    replace e2 : a.tmps[2]? = some _ := H.keep e2 rfl
    replace e3 : a.tmps[3]? = some _ := H.keep e3 rfl
    replace e4 : a.tmps[4]? = some _ := H.keep e4 rfl
    replace e6 : a.tmps[6]? = some _ := H.keep e6 rfl
    replace e11 : a.tmps[11]? = some _ := H.keep e11 rfl
    replace e18 : a.tmps[18]? = some _ := H.keep e18 rfl
    replace e19 : a.tmps[19]? = some _ := H.keep e19 rfl
    replace e20 : a.tmps[20]? = some _ := H.keep e20 rfl
    replace e21 : a.tmps[21]? = some _ := H.keep e21 rfl
    replace e25 : a.tmps[25]? = some _ := H.keep e25 rfl
    replace e26 : a.tmps[26]? = some _ := H.keep e26 rfl
    replace e27 : a.tmps[27]? = some _ := H.keep e27 rfl
    replace e247 : a.tmps[247]? = some _ := H.got rfl rfl
    have e397 : a.tmps[397]? = some _ := H.got rfl rfl
    clear H
    refine hKq15 _ _ ?_
    clear hKq15 Kq15
    refine wp_cond_true (slotE e397) ?_
    clear e397
    clear e247
    refine tr_best dom most own b g6 gm gk N (some ad) n c i g21 g25 w3.heap.size s v26 rl t ps qs a w0 w5 _ hs hd e0 e2 e3 e4 e6 e11 e18 e19 e20 e21 e25 e26 e27 HD.out.1 HRL.out HRD.out HOK.out HM.out hN hnow ?_
    clear hs hd e0 e2 e3 e4 e6 e11 e18 e19 e20 e21 e25 e26 e27 a
    intro a w6 t6 ps6 qs6 hs hd e0 e2 e3 e4 e6 e11 e18 e19 e20 T6 O6
    refine hKq3 _ _ ?_
    clear hKq3 Kq3
    have ci0 : (0 : Int) ≤ (i : Int) := by omega
    refine sm_list [20] 176 2 hs hd (by kernel_rfl) (agC e20 agN) (by simp only [List.map_cons, List.map_nil, reOper, reOp, reO, reC, reK, Option.map_some, Option.map_none, fS_ite, ix_ite, Nat.reduceLeDiff, Nat.reduceEqDiff, if_true, if_false, ↓reduceIte, List.length_cons, List.length_nil, Nat.reduceAdd, Nat.reduceSub, List.map_toArray]; rfl) ?_
    simp only [List.replicate_succ, List.replicate_zero, List.cons_append, List.nil_append, List.drop_succ_cons, List.drop_zero, List.take_succ_cons, List.take_zero]
    go_wp2_with fail
    intro a H
    replace hs := H.size.trans hs
    replace hd : a.defers = [] := H.defers
    replace e0 : a.tmps[0]? = some _ := H.keep e0 rfl
    replace e2 : a.tmps[2]? = some _ := H.keep e2 rfl
    replace e3 : a.tmps[3]? = some _ := H.keep e3 rfl
    replace e4 : a.tmps[4]? = some _ := H.keep e4 rfl
    replace e6 : a.tmps[6]? = some _ := H.keep e6 rfl
    replace e11 : a.tmps[11]? = some _ := H.keep e11 rfl
    replace e18 : a.tmps[18]? = some _ := H.keep e18 rfl
    replace e19 : a.tmps[19]? = some _ := H.keep e19 rfl
    replace e20 : a.tmps[20]? = some _ := H.got rfl rfl
    clear H
    exact HEND.out a _ _ _ _ hs hd e0 e2 e3 e4 e6 e11 e18 e19 e20 T6 O6
  have dk2 : (s.k == 2) = false := beq_eq_false_iff_ne.2 hk2
  refine sm_list [247] 397 2 hs hd (by kernel_rfl) (agC e247 agN) (by simp only [List.map_cons, List.map_nil, reOper, reOp, reO, reC, reK, Option.map_some, Option.map_none, fS_ite, ix_ite, Nat.reduceLeDiff, Nat.reduceEqDiff, if_true, if_false, ↓reduceIte, List.length_cons, List.length_nil, Nat.reduceAdd, Nat.reduceSub, List.map_toArray]; rfl) ?_
  simp only [List.replicate_succ, List.replicate_zero, List.cons_append, List.nil_append, List.drop_succ_cons, List.drop_zero, List.take_succ_cons, List.take_zero]
  go_wp2_with fail
  intro a H
  replace hs := H.size.trans hs
  replace hd : a.defers = [] := H.defers
  replace e0 : a.tmps[0]? = some _ := H.keep e0 rfl
  replace e2 : a.tmps[2]? = some _ := H.keep e2 rfl
  replace e3 : a.tmps[3]? = some _ := H.keep e3 rfl
  replace e4 : a.tmps[4]? = some _ := H.keep e4 rfl
  replace e6 : a.tmps[6]? = some _ := H.keep e6 rfl
  replace e11 : a.tmps[11]? = some _ := H.keep e11 rfl
  replace e18 : a.tmps[18]? = some _ := H.keep e18 rfl
  replace e19 : a.tmps[19]? = some _ := H.keep e19 rfl
  replace e20 : a.tmps[20]? = some _ := H.keep e20 rfl
  replace e21 : a.tmps[21]? = some _ := H.keep e21 rfl
  replace e25 : a.tmps[25]? = some _ := H.keep e25 rfl
  replace e26 : a.tmps[26]? = some _ := H.keep e26 rfl
  replace e27 : a.tmps[27]? = some _ := H.keep e27 rfl
  replace e247 : a.tmps[247]? = some _ := H.got rfl rfl
  have e397 : a.tmps[397]? = some _ := H.got rfl rfl
  clear H
  refine hKq15 _ _ ?_
  clear hKq15 Kq15
  refine wp_cond_false (slotE e397) ?_
  clear e397
  refine wp_seq_k fun Kq16 hKq16 => ?_
  by_cases hk3 : s.k = 3
  · have dk : (s.k == 3) = true := beq_iff_eq.2 hk3
    refine sm_list [247] 460 2 hs hd (by kernel_rfl) (agC e247 agN) (by simp only [List.map_cons, List.map_nil, reOper, reOp, reO, reC, reK, Option.map_some, Option.map_none, fS_ite, ix_ite, Nat.reduceLeDiff, Nat.reduceEqDiff, if_true, if_false, ↓reduceIte, List.length_cons, List.length_nil, Nat.reduceAdd, Nat.reduceSub, List.map_toArray]; rfl) ?_
    simp only [List.replicate_succ, List.replicate_zero, List.cons_append, List.nil_append, List.drop_succ_cons, List.drop_zero, List.take_succ_cons, List.take_zero]
    go_wp2_with fail
    intro a H
    replace hs := H.size.trans hs
    replace hd : a.defers = [] := H.defers
    replace e0 : a.tmps[0]? = some _ := H.keep e0 rfl
    replace e2 : a.tmps[2]? = some _ := H.keep e2 rfl
    replace e3 : a.tmps[3]? = some _ := H.keep e3 rfl
    replace e4 : a.tmps[4]? = some _ := H.keep e4 rfl
    replace e6 : a.tmps[6]? = some _ := H.keep e6 rfl
    replace e11 : a.tmps[11]? = some _ := H.keep e11 rfl
    replace e18 : a.tmps[18]? = some _ := H.keep e18 rfl
    replace e19 : a.tmps[19]? = some _ := H.keep e19 rfl
    replace e20 : a.tmps[20]? = some _ := H.keep e20 rfl
    replace e21 : a.tmps[21]? = some _ := H.keep e21 rfl
    replace e25 : a.tmps[25]? = some _ := H.keep e25 rfl
    replace e26 : a.tmps[26]? = some _ := H.keep e26 rfl
    replace e27 : a.tmps[27]? = some _ := H.keep e27 rfl
    replace e247 : a.tmps[247]? = some _ := H.got rfl rfl
    have e460 : a.tmps[460]? = some _ := H.got rfl rfl
    clear H
    refine hKq16 _ _ ?_
    clear hKq16 Kq16
    refine wp_cond_true (slotE e460) ?_
    clear e460
    clear e247
    suffices hfin : ∀ (a : Act) (w6 : World) (t6 : Tre) (ps6 qs6 : List Value), a.tmps.size = 593 → a.defers = [] → a.tmps[0]? = some (.int .i64 dom) → a.tmps[2]? = some (.int .i64 (N : Int)) → a.tmps[3]? = some (.int .i64 most) → a.tmps[4]? = some (.slice (some ad) n c) → a.tmps[6]? = some (.pointer (some ⟨g6, 0, none⟩)) → a.tmps[11]? = some (.pointer (some ⟨b.g, 0, none⟩)) → a.tmps[18]? = some (.slice (some ⟨gk, 0, none⟩) N N) → a.tmps[19]? = some (.pointer (some ⟨gm, 0, none⟩)) → a.tmps[20]? = some (.int .i64 (i : Int)) → TI w0 w6 b g6 gm gk own t6 t6.es ps6 qs6 → TOk own dom most N t6 → Kq3 a w6 by
      refine tr_out dom most own b g6 gm gk N (some ad) n c i g21 g25 w3.heap.size s v26 rl t ps qs a w0 w5 _ hs hd e0 e2 e3 e4 e6 e11 e18 e19 e20 e21 e25 e26 e27 HD.out.1 HRL.out HD.out.2.1 HD.out.2.2 ?_ HRD.out HOK.out HM.out hN hnow ?_
      · intro a w6 t6 ps6 qs6 hs hd e0 e2 e3 e4 e6 e11 e18 e19 e20 T6 O6
        refine exit_hit ?_
        exact hfin a w6 t6 ps6 qs6 hs hd e0 e2 e3 e4 e6 e11 e18 e19 e20 T6 O6
      · intro a w6 t6 ps6 qs6 hs hd e0 e2 e3 e4 e6 e11 e18 e19 e20 T6 O6
        exact hfin a w6 t6 ps6 qs6 hs hd e0 e2 e3 e4 e6 e11 e18 e19 e20 T6 O6
    clear hs hd e0 e2 e3 e4 e6 e11 e18 e19 e20 e21 e25 e26 e27 a
    intro a w6 t6 ps6 qs6 hs hd e0 e2 e3 e4 e6 e11 e18 e19 e20 T6 O6
    refine hKq3 _ _ ?_
    clear hKq3 Kq3
    have ci0 : (0 : Int) ≤ (i : Int) := by omega
    refine sm_list [20] 176 2 hs hd (by kernel_rfl) (agC e20 agN) (by simp only [List.map_cons, List.map_nil, reOper, reOp, reO, reC, reK, Option.map_some, Option.map_none, fS_ite, ix_ite, Nat.reduceLeDiff, Nat.reduceEqDiff, if_true, if_false, ↓reduceIte, List.length_cons, List.length_nil, Nat.reduceAdd, Nat.reduceSub, List.map_toArray]; rfl) ?_
    simp only [List.replicate_succ, List.replicate_zero, List.cons_append, List.nil_append, List.drop_succ_cons, List.drop_zero, List.take_succ_cons, List.take_zero]
    go_wp2_with fail
    intro a H
    replace hs := H.size.trans hs
    replace hd : a.defers = [] := H.defers
    replace e0 : a.tmps[0]? = some _ := H.keep e0 rfl
    replace e2 : a.tmps[2]? = some _ := H.keep e2 rfl
    replace e3 : a.tmps[3]? = some _ := H.keep e3 rfl
    replace e4 : a.tmps[4]? = some _ := H.keep e4 rfl
    replace e6 : a.tmps[6]? = some _ := H.keep e6 rfl
    replace e11 : a.tmps[11]? = some _ := H.keep e11 rfl
    replace e18 : a.tmps[18]? = some _ := H.keep e18 rfl
    replace e19 : a.tmps[19]? = some _ := H.keep e19 rfl
    replace e20 : a.tmps[20]? = some _ := H.got rfl rfl
    clear H
    exact HEND.out a _ _ _ _ hs hd e0 e2 e3 e4 e6 e11 e18 e19 e20 T6 O6
  have dk3 : (s.k == 3) = false := beq_eq_false_iff_ne.2 hk3
  refine sm_list [247] 460 2 hs hd (by kernel_rfl) (agC e247 agN) (by simp only [List.map_cons, List.map_nil, reOper, reOp, reO, reC, reK, Option.map_some, Option.map_none, fS_ite, ix_ite, Nat.reduceLeDiff, Nat.reduceEqDiff, if_true, if_false, ↓reduceIte, List.length_cons, List.length_nil, Nat.reduceAdd, Nat.reduceSub, List.map_toArray]; rfl) ?_
  simp only [List.replicate_succ, List.replicate_zero, List.cons_append, List.nil_append, List.drop_succ_cons, List.drop_zero, List.take_succ_cons, List.take_zero]
  go_wp2_with fail
  intro a H
  replace hs := H.size.trans hs
  replace hd : a.defers = [] := H.defers
  replace e0 : a.tmps[0]? = some _ := H.keep e0 rfl
  replace e2 : a.tmps[2]? = some _ := H.keep e2 rfl
  replace e3 : a.tmps[3]? = some _ := H.keep e3 rfl
  replace e4 : a.tmps[4]? = some _ := H.keep e4 rfl
  replace e6 : a.tmps[6]? = some _ := H.keep e6 rfl
  replace e11 : a.tmps[11]? = some _ := H.keep e11 rfl
  replace e18 : a.tmps[18]? = some _ := H.keep e18 rfl
  replace e19 : a.tmps[19]? = some _ := H.keep e19 rfl
  replace e20 : a.tmps[20]? = some _ := H.keep e20 rfl
  replace e21 : a.tmps[21]? = some _ := H.keep e21 rfl
  replace e25 : a.tmps[25]? = some _ := H.keep e25 rfl
  replace e26 : a.tmps[26]? = some _ := H.keep e26 rfl
  replace e27 : a.tmps[27]? = some _ := H.keep e27 rfl
  replace e247 : a.tmps[247]? = some _ := H.got rfl rfl
  have e460 : a.tmps[460]? = some _ := H.got rfl rfl
  clear H
  refine hKq16 _ _ ?_
  clear hKq16 Kq16
  refine wp_cond_false (slotE e460) ?_
  clear e460
  refine wp_skip ?_
  refine hKq3 _ _ ?_
  clear hKq3 Kq3
  clear e21
  clear e25
  clear e26
  clear e27
  clear e247
  have ci0 : (0 : Int) ≤ (i : Int) := by omega
  refine sm_list [20] 176 2 hs hd (by kernel_rfl) (agC e20 agN) (by simp only [List.map_cons, List.map_nil, reOper, reOp, reO, reC, reK, Option.map_some, Option.map_none, fS_ite, ix_ite, Nat.reduceLeDiff, Nat.reduceEqDiff, if_true, if_false, ↓reduceIte, List.length_cons, List.length_nil, Nat.reduceAdd, Nat.reduceSub, List.map_toArray]; rfl) ?_
  simp only [List.replicate_succ, List.replicate_zero, List.cons_append, List.nil_append, List.drop_succ_cons, List.drop_zero, List.take_succ_cons, List.take_zero]
  go_wp2_with fail
  intro a H
  replace hs := H.size.trans hs
  replace hd : a.defers = [] := H.defers
  replace e0 : a.tmps[0]? = some _ := H.keep e0 rfl
  replace e2 : a.tmps[2]? = some _ := H.keep e2 rfl
  replace e3 : a.tmps[3]? = some _ := H.keep e3 rfl
  replace e4 : a.tmps[4]? = some _ := H.keep e4 rfl
  replace e6 : a.tmps[6]? = some _ := H.keep e6 rfl
  replace e11 : a.tmps[11]? = some _ := H.keep e11 rfl
  replace e18 : a.tmps[18]? = some _ := H.keep e18 rfl
  replace e19 : a.tmps[19]? = some _ := H.keep e19 rfl
  replace e20 : a.tmps[20]? = some _ := H.got rfl rfl
  clear H
  exact HEND.out a _ _ _ _ hs hd e0 e2 e3 e4 e6 e11 e18 e19 e20 HRD.out.ti HOK.out
end Go.Proofs.Ytcdgofndfajekaa
