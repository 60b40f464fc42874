/-
  TreeRuns: the list of what counts.
-/
import Derived.Test.YtcdgofndfajekaaTreeR
namespace Go.Proofs.Ytcdgofndfajekaa
set_option linter.unusedSimpArgs false
set_option linter.unusedVariables false
open Go.RowKit Go.WideShapes Go.ChangeShapes
attribute [local go_sem ↓] Go.wp_at_zero Go.wp_at_succ

set_option maxRecDepth 100000 in
set_option maxHeartbeats 4000000 in
theorem tr_hs {g22 : Nat} (dom most : Int) (own : Pr) (b : Bks) (g6 gm gk N : Nat) (A : Option Addr) (n c i : Nat) (g21 : Nat) (s : S20) (es : List En) (qs : List Value) (a : Act) (w : World) (Q : Exit → Act → World → Prop)
    (hs : a.tmps.size = 593) (hd : a.defers = []) (e0 : a.tmps[0]? = some (.int .i64 dom)) (e2 : a.tmps[2]? = some (.int .i64 (N : Int))) (e3 : a.tmps[3]? = some (.int .i64 most)) (e4 : a.tmps[4]? = some (.slice A n c)) (e6 : a.tmps[6]? = some (.pointer (some ⟨g6, 0, none⟩))) (e11 : a.tmps[11]? = some (.pointer (some ⟨b.g, 0, none⟩))) (e18 : a.tmps[18]? = some (.slice (some ⟨gk, 0, none⟩) N N)) (e19 : a.tmps[19]? = some (.pointer (some ⟨gm, 0, none⟩))) (e20 : a.tmps[20]? = some (.int .i64 (i : Int))) (e21 : a.tmps[21]? = some (.pointer (some ⟨g21, 0, none⟩))) (e198 : a.tmps[198]? = some (.slice (some ⟨gk, 0, none⟩) N N)) (e199 : a.tmps[199]? = some (.int .i64 (N : Int))) (e22 : a.tmps[22]? = some (.slice (some ⟨g22, 0, none⟩) 0 0)) (e200 : a.tmps[200]? = some (.int .i64 0))
    (hN : N ≤ 8) (hl : es.length = N) (ho : w.ownsRow g22 53 10 (.slice (some ⟨g22, 0, none⟩) 0 0) 0 [])
    (hk : KsAt w (gk :: b.all) gk es qs) (hS : Blk w g21 48 (s20c s)) (hlt : gk < g22 ∧ g21 < g22 ∧ g22 < w.heap.size) (hnow : -1125899906842624 ≤ s.now ∧ s.now ≤ 1125899906842624) (hes : ∀ e ∈ es, -1125899906842624 ≤ e.at_ ∧ e.at_ ≤ 1125899906842624)
    (hend : ∀ (a : Act) (w' : World) (v : Value), a.tmps.size = 593 → a.defers = [] → a.tmps[0]? = some (.int .i64 dom) → a.tmps[2]? = some (.int .i64 (N : Int)) → a.tmps[3]? = some (.int .i64 most) → a.tmps[4]? = some (.slice A n c) → a.tmps[6]? = some (.pointer (some ⟨g6, 0, none⟩)) → a.tmps[11]? = some (.pointer (some ⟨b.g, 0, none⟩)) → a.tmps[18]? = some (.slice (some ⟨gk, 0, none⟩) N N) → a.tmps[19]? = some (.pointer (some ⟨gm, 0, none⟩)) → a.tmps[20]? = some (.int .i64 (i : Int)) → a.tmps[21]? = some (.pointer (some ⟨g21, 0, none⟩)) → a.tmps[22]? = some v → w'.ownsRow g22 53 10 v N (hcells (es.map fun e => ⟨e.up, e.live most s.now, e.vec⟩)) → Below g22 w w' → Q .normal a w') :
    Code.wp Try.prog (sub [true, true, true, true, true, true, true, true, false, true, false, false, true, false, false, true, true, true, false, true] (bodyOf Try.f3)) Q a w := by
  conv => arg 2; whnf
  have HEND := Lib.hid hend
  have HES := Lib.hid hes
  have HL := Lib.hid hl
  clear hend hes hl
  refine wp_block ?_
  refine wp_loop (fun a w' => ∃ (j : Nat) (v : Value), j ≤ N ∧ a.tmps.size = 593 ∧ a.defers = [] ∧ a.tmps[0]? = some (.int .i64 dom) ∧ a.tmps[2]? = some (.int .i64 (N : Int)) ∧ a.tmps[3]? = some (.int .i64 most) ∧ a.tmps[4]? = some (.slice A n c) ∧ a.tmps[6]? = some (.pointer (some ⟨g6, 0, none⟩)) ∧ a.tmps[11]? = some (.pointer (some ⟨b.g, 0, none⟩)) ∧ a.tmps[18]? = some (.slice (some ⟨gk, 0, none⟩) N N) ∧ a.tmps[19]? = some (.pointer (some ⟨gm, 0, none⟩)) ∧ a.tmps[20]? = some (.int .i64 (i : Int)) ∧ a.tmps[21]? = some (.pointer (some ⟨g21, 0, none⟩)) ∧ a.tmps[198]? = some (.slice (some ⟨gk, 0, none⟩) N N) ∧ a.tmps[199]? = some (.int .i64 (N : Int)) ∧ a.tmps[200]? = some (.int .i64 (j : Int)) ∧ a.tmps[22]? = some v ∧ w'.ownsRow g22 53 10 v j (hcells ((es.map fun e => (⟨e.up, e.live most s.now, e.vec⟩ : Hd)).take j)) ∧ Below g22 w w') (fun a _ => N - (intOf (a.tmps.getD 200 undef)).toNat) ?_ ?_
  · exact ⟨0, _, Nat.zero_le _, hs, hd, e0, e2, e3, e4, e6, e11, e18, e19, e20, e21, e198, e199, e200, e22, ho, Below.refl _ _⟩
  clear hs hd ho e22 e200 e0 e2 e3 e4 e6 e11 e18 e19 e20 e21 e198 e199 a
  rintro a w3 ⟨j, v, hj, hs, hd, e0, e2, e3, e4, e6, e11, e18, e19, e20, e21, e198, e199, e200, e22, hown, hb⟩
  have hm := slot e200
  refine wp_seq_k fun Kq1 hKq1 => ?_
  by_cases hlt3 : j < N
  ·
    have dj : decide ((j : Int) < (N : Int)) = true := decide_eq_true (by omega)
    have hN8 : (N : Int) ≤ 8 := by omega
    have hj0 : (0 : Int) ≤ (j : Int) := by omega
    obtain ⟨e, he⟩ : ∃ e, es[j]? = some e := ⟨_, List.getElem?_eq_getElem (by rw [HL.out]; exact hlt3)⟩
    have HE := Lib.hid he
    obtain ⟨A5, c5, hq, _, _⟩ := hk.pth j e he
    have HQ := Lib.hid hq
    clear he hq
    refine sm_list [199, 200] 201 1 hs hd (by kernel_rfl) (agC e199 (agC e200 agN)) (by simp only [List.map_cons, List.map_nil, reOper, reOp, reO, reC, reK, Option.map_some, Option.map_none, fS_ite, ix_ite, Nat.reduceLeDiff, Nat.reduceEqDiff, if_true, if_false, ↓reduceIte, List.length_cons, List.length_nil, Nat.reduceAdd, Nat.reduceSub, List.map_toArray]; rfl) ?_
    simp only [List.replicate_succ, List.replicate_zero, List.cons_append, List.nil_append, List.drop_succ_cons, List.drop_zero, List.take_succ_cons, List.take_zero]
    go_wp2_with fail
    intro a H
    replace hs := H.size.trans hs
    replace hd : a.defers = [] := H.defers
    replace e0 : a.tmps[0]? = some _ := H.keep e0 rfl
    replace e2 : a.tmps[2]? = some _ := H.keep e2 rfl
    replace e3 : a.tmps[3]? = some _ := H.keep e3 rfl
    replace e4 : a.tmps[4]? = some _ := H.keep e4 rfl
    replace e6 : a.tmps[6]? = some _ := H.keep e6 rfl
    replace e11 : a.tmps[11]? = some _ := H.keep e11 rfl
    replace e18 : a.tmps[18]? = some _ := H.keep e18 rfl
    replace e19 : a.tmps[19]? = some _ := H.keep e19 rfl
    replace e20 : a.tmps[20]? = some _ := H.keep e20 rfl
    replace e21 : a.tmps[21]? = some _ := H.keep e21 rfl
    replace e198 : a.tmps[198]? = some _ := H.keep e198 rfl
    replace e199 : a.tmps[199]? = some _ := H.got rfl rfl
    replace e22 : a.tmps[22]? = some _ := H.keep e22 rfl
    replace e200 : a.tmps[200]? = some _ := H.got rfl rfl
    have e201 : a.tmps[201]? = some _ := H.got rfl rfl
    clear H
    refine hKq1 _ _ ?_
    clear hKq1 Kq1
    refine wp_seq_k fun Kq2 hKq2 => ?_
    refine wp_cond_true (slotE e201) ?_
    clear e201
    refine wp_skip ?_
    refine hKq2 _ _ ?_
    clear hKq2 Kq2
    refine wp_seq_k fun Kq3 hKq3 => ?_
    refine wp_block ?_
    refine wp_seq_k fun Kq4 hKq4 => ?_
    have K3 : Blk w3 gk 51 (kcells es qs).toArray := hk.box.below hb hlt.1
    have S3 : Blk w3 g21 48 (s20c s) := hS.below hb hlt.2.1
    have hc : ∀ (r : Nat) (u : Value), (kc e (.slice A5 e.path.length c5)).toArray.toList[r]? = some u → w3.cell? ((⟨gk, j * 12, none⟩ : Addr).add r) = some u := fun r u hu => by
        have hr : r < 12 := (List.getElem?_eq_some_iff.1 hu).1
        have e1 : (⟨gk, j * 12, none⟩ : Addr).add r = ⟨gk, j * 12 + r, none⟩ := by unfold Addr.add; split <;> simp_all
        rw [e1, K3.cell, List.getElem?_toArray, kcells_at HE.out HQ.out hr]; simpa using hu
    have HC := Lib.hid hc
    clear hc
    have B24 := Blk.new w3 51 (kc e (.slice A5 e.path.length c5)).toArray
    have S4 := S3.alloc (.cells (kc e (.slice A5 e.path.length c5)).toArray 51)
    have L4 := hb.alloc (by have := hb.size; omega) (.cells (kc e (.slice A5 e.path.length c5)).toArray 51)
    have O4 := hown.alloc (.cells (kc e (.slice A5 e.path.length c5)).toArray 51)
    refine sm_list [24, 198, 200] 202 2 hs hd (by kernel_rfl) (agU (agC e198 (agC e200 agN))) (by simp only [List.map_cons, List.map_nil, reOper, reOp, reO, reC, reK, Option.map_some, Option.map_none, fS_ite, ix_ite, Nat.reduceLeDiff, Nat.reduceEqDiff, if_true, if_false, ↓reduceIte, List.length_cons, List.length_nil, Nat.reduceAdd, Nat.reduceSub, List.map_toArray]; rfl) ?_
    simp only [List.replicate_succ, List.replicate_zero, List.cons_append, List.nil_append, List.drop_succ_cons, List.drop_zero, List.take_succ_cons, List.take_zero]
    go_wp2_with (first | (refine wpList_load_any_d rfl 51 (.tmp 3) rfl ⟨gk, j * 12, none⟩ rfl (kc e (.slice A5 e.path.length c5)).toArray _ HC.out Try.underlying51 rfl (by kernel_rfl) ?_) | (refine wpList_store_new rfl 51 (.tmp 0) (.tmp 4) rfl rfl rfl rfl rfl (by kernel_rfl) (by rw [← Array.all_toList]; rfl) ?_) | fail)
    intro a H
    replace hs := H.size.trans hs
    replace hd : a.defers = [] := H.defers
    replace e0 : a.tmps[0]? = some _ := H.keep e0 rfl
    replace e2 : a.tmps[2]? = some _ := H.keep e2 rfl
    replace e3 : a.tmps[3]? = some _ := H.keep e3 rfl
    replace e4 : a.tmps[4]? = some _ := H.keep e4 rfl
    replace e6 : a.tmps[6]? = some _ := H.keep e6 rfl
    replace e11 : a.tmps[11]? = some _ := H.keep e11 rfl
    replace e18 : a.tmps[18]? = some _ := H.keep e18 rfl
    replace e19 : a.tmps[19]? = some _ := H.keep e19 rfl
    replace e20 : a.tmps[20]? = some _ := H.keep e20 rfl
    replace e21 : a.tmps[21]? = some _ := H.keep e21 rfl
    replace e198 : a.tmps[198]? = some _ := H.got rfl rfl
    replace e199 : a.tmps[199]? = some _ := H.keep e199 rfl
    replace e22 : a.tmps[22]? = some _ := H.keep e22 rfl
    replace e200 : a.tmps[200]? = some _ := H.got rfl rfl
    have e24 : a.tmps[24]? = some _ := H.got rfl rfl
    clear H
    refine hKq4 _ _ ?_
    clear hKq4 Kq4
    have hz3 : g22 < w3.heap.size := Nat.lt_of_lt_of_le hlt.2.2 (Nat.le_trans (Nat.le_refl _) hb.size)
    have hz4 : g22 < (w3.alloc (.cells (kc e (.slice A5 e.path.length c5)).toArray 51)).heap.size := by simp; omega
    obtain ⟨g24, hg24⟩ : ∃ g24, g24 = w3.heap.size := ⟨_, rfl⟩
    rw [← hg24] at B24 e24
    clear hg24 hz3
    generalize w3.alloc (.cells (kc e (.slice A5 e.path.length c5)).toArray 51) = w4 at *
    clear K3 S3 hown hb HC
    have x0 := B24.cellOf (v := .bool e.up) 0 rfl
    have x1 := B24.cellOf (v := .bool e.ok) 1 rfl
    have x2 := B24.cellOf (v := .int .i64 e.vec.root.one) 2 rfl
    have x3 := B24.cellOf (v := .int .i64 e.vec.root.cls) 3 rfl
    have x4 := B24.cellOf (v := .int .i64 e.vec.root.two) 4 rfl
    have x5 := B24.cellOf (v := .int .i64 e.vec.root.id) 5 rfl
    have x6 := B24.cellOf (v := .int .i64 e.vec.steps) 6 rfl
    have x7 := B24.cellOf (v := .int .i64 e.vec.src) 7 rfl
    have x8 := B24.cellOf (v := .int .i64 e.vec.port) 8 rfl
    have x9 := B24.cellOf (v := .int .i64 e.vec.at_) 9 rfl
    have x11 := B24.cellOf (v := .int .i64 e.at_) 11 rfl
    have y18 := S4.cellOf (v := .int .i64 s.now) 18 rfl
    obtain ⟨hat1, hat2⟩ := HES.out e (List.mem_of_getElem? HE.out)
    obtain ⟨hn1, hn2⟩ := hnow
    obtain ⟨lv, hlv⟩ : ∃ lv, lv = e.live most s.now := ⟨_, rfl⟩
    have hcase : (e.ok = false ∧ lv = false) ∨ (e.ok = true ∧ decide (e.at_ ≤ s.now) = false ∧ lv = false) ∨ (e.ok = true ∧ decide (e.at_ ≤ s.now) = true ∧ decide (s.now - e.at_ ≤ most) = false ∧ lv = false) ∨ (e.ok = true ∧ decide (e.at_ ≤ s.now) = true ∧ decide (s.now - e.at_ ≤ most) = true ∧ lv = true) := by
        rw [hlv]; unfold En.live; cases e.ok <;> cases decide (e.at_ ≤ s.now) <;> cases decide (s.now - e.at_ ≤ most) <;> simp
    have HLV := Lib.hid hlv
    clear hlv
    have hsn : hcells ((es.map fun e => (⟨e.up, e.live most s.now, e.vec⟩ : Hd)).take (j + 1)) = hcells ((es.map fun e => (⟨e.up, e.live most s.now, e.vec⟩ : Hd)).take j) ++ #[.bool e.up, .bool lv, .int .i64 e.vec.root.one, .int .i64 e.vec.root.cls, .int .i64 e.vec.root.two, .int .i64 e.vec.root.id, .int .i64 e.vec.steps, .int .i64 e.vec.src, .int .i64 e.vec.port, .int .i64 e.vec.at_].toList := by
        rw [HLV.out, List.take_add_one, List.getElem?_map, HE.out, show ∀ a b, hcells (a ++ b) = hcells a ++ hcells b from fun a b => by simp [hcells]]
        rfl
    have HSN := Lib.hid hsn
    clear hsn
    have hone : ∀ u ∈ (#[.bool e.up, .bool lv, .int .i64 e.vec.root.one, .int .i64 e.vec.root.cls, .int .i64 e.vec.root.two, .int .i64 e.vec.root.id, .int .i64 e.vec.steps, .int .i64 e.vec.src, .int .i64 e.vec.port, .int .i64 e.vec.at_] : Array Value).toList, u.oneCell' = true := by intro u hu; simp at hu; rcases hu with rfl | rfl | rfl | rfl | rfl | rfl | rfl | rfl | rfl | rfl <;> rfl
    have HONE := Lib.hid hone
    clear hone
    have hj8 : (j + 1) * 72 ≤ 140737488355328 := by omega
    rcases hcase with ⟨k1, rfl⟩ | ⟨k1, k2, rfl⟩ | ⟨k1, k2, k3, rfl⟩ | ⟨k1, k2, k3, rfl⟩
    all_goals
      rw [k1] at x1
      refine sm_list [3, 21, 22, 24] 204 26 hs hd (by kernel_rfl) (agC e3 (agC e21 (agC e22 (agC e24 agN)))) (by simp only [List.map_cons, List.map_nil, reOper, reOp, reO, reC, reK, Option.map_some, Option.map_none, fS_ite, ix_ite, Nat.reduceLeDiff, Nat.reduceEqDiff, if_true, if_false, ↓reduceIte, List.length_cons, List.length_nil, Nat.reduceAdd, Nat.reduceSub, List.map_toArray]; rfl) ?_
      simp only [List.replicate_succ, List.replicate_zero, List.cons_append, List.nil_append, List.drop_succ_cons, List.drop_zero, List.take_succ_cons, List.take_zero]
      go_wp2_with (at_builtin; (first | refine wpList_push rfl (.tmp 4) (.tmp 28) 49 rfl styR (cs := #[.bool e.up, .bool false, .int .i64 e.vec.root.one, .int .i64 e.vec.root.cls, .int .i64 e.vec.root.two, .int .i64 e.vec.root.id, .int .i64 e.vec.steps, .int .i64 e.vec.src, .int .i64 e.vec.port, .int .i64 e.vec.at_]) rfl HONE.out rfl O4 rfl (by omega) (by omega) ?_ | refine wpList_push rfl (.tmp 4) (.tmp 28) 49 rfl styR (cs := #[.bool e.up, .bool true, .int .i64 e.vec.root.one, .int .i64 e.vec.root.cls, .int .i64 e.vec.root.two, .int .i64 e.vec.root.id, .int .i64 e.vec.steps, .int .i64 e.vec.src, .int .i64 e.vec.port, .int .i64 e.vec.at_]) rfl HONE.out rfl O4 rfl (by omega) (by omega) ?_); intro v5 w5 hown5 hb5)
      intro a H
      replace hs := H.size.trans hs
      replace hd : a.defers = [] := H.defers
      replace e0 : a.tmps[0]? = some _ := H.keep e0 rfl
      replace e2 : a.tmps[2]? = some _ := H.keep e2 rfl
      replace e3 : a.tmps[3]? = some _ := H.got rfl rfl
      replace e4 : a.tmps[4]? = some _ := H.keep e4 rfl
      replace e6 : a.tmps[6]? = some _ := H.keep e6 rfl
      replace e11 : a.tmps[11]? = some _ := H.keep e11 rfl
      replace e18 : a.tmps[18]? = some _ := H.keep e18 rfl
      replace e19 : a.tmps[19]? = some _ := H.keep e19 rfl
      replace e20 : a.tmps[20]? = some _ := H.keep e20 rfl
      replace e21 : a.tmps[21]? = some _ := H.got rfl rfl
      replace e198 : a.tmps[198]? = some _ := H.keep e198 rfl
      replace e199 : a.tmps[199]? = some _ := H.keep e199 rfl
      replace e200 : a.tmps[200]? = some _ := H.keep e200 rfl
      clear e24
      replace e22 : a.tmps[22]? = some _ := H.got rfl rfl
      clear H
      refine hKq3 _ _ ?_
      clear hKq3 Kq3
      rw [← HSN.out] at hown5
      have L5 := L4.trans hb5
      clear O4 L4 hb5 x0 x1 x2 x3 x4 x5 x6 x7 x8 x9 x11 y18 B24 S4
      refine sm_list [200] 230 1 hs hd (by kernel_rfl) (agC e200 agN) (by simp only [List.map_cons, List.map_nil, reOper, reOp, reO, reC, reK, Option.map_some, Option.map_none, fS_ite, ix_ite, Nat.reduceLeDiff, Nat.reduceEqDiff, if_true, if_false, ↓reduceIte, List.length_cons, List.length_nil, Nat.reduceAdd, Nat.reduceSub, List.map_toArray]; rfl) ?_
      simp only [List.replicate_succ, List.replicate_zero, List.cons_append, List.nil_append, List.drop_succ_cons, List.drop_zero, List.take_succ_cons, List.take_zero]
      go_wp2_with fail
      intro a H
      replace hs := H.size.trans hs
      replace hd : a.defers = [] := H.defers
      replace e0 : a.tmps[0]? = some _ := H.keep e0 rfl
      replace e2 : a.tmps[2]? = some _ := H.keep e2 rfl
      replace e3 : a.tmps[3]? = some _ := H.keep e3 rfl
      replace e4 : a.tmps[4]? = some _ := H.keep e4 rfl
      replace e6 : a.tmps[6]? = some _ := H.keep e6 rfl
      replace e11 : a.tmps[11]? = some _ := H.keep e11 rfl
      replace e18 : a.tmps[18]? = some _ := H.keep e18 rfl
      replace e19 : a.tmps[19]? = some _ := H.keep e19 rfl
      replace e20 : a.tmps[20]? = some _ := H.keep e20 rfl
      replace e21 : a.tmps[21]? = some _ := H.keep e21 rfl
      replace e198 : a.tmps[198]? = some _ := H.keep e198 rfl
      replace e199 : a.tmps[199]? = some _ := H.keep e199 rfl
      replace e22 : a.tmps[22]? = some _ := H.keep e22 rfl
      replace e200 : a.tmps[200]? = some _ := H.got rfl rfl
      clear H
      refine ⟨⟨j + 1, v5, by omega, hs, hd, e0, e2, e3, e4, e6, e11, e18, e19, e20, e21, e198, e199, e200, e22, hown5, L5⟩, ?_⟩
      simp only [hm, slot e200, intOf]
      omega
  · obtain rfl : j = N := by omega
    have dj : decide ((j : Int) < (j : Int)) = false := decide_eq_false (by omega)
    clear hlt3 hm
    refine sm_list [199, 200] 201 1 hs hd (by kernel_rfl) (agC e199 (agC e200 agN)) (by simp only [List.map_cons, List.map_nil, reOper, reOp, reO, reC, reK, Option.map_some, Option.map_none, fS_ite, ix_ite, Nat.reduceLeDiff, Nat.reduceEqDiff, if_true, if_false, ↓reduceIte, List.length_cons, List.length_nil, Nat.reduceAdd, Nat.reduceSub, List.map_toArray]; rfl) ?_
    simp only [List.replicate_succ, List.replicate_zero, List.cons_append, List.nil_append, List.drop_succ_cons, List.drop_zero, List.take_succ_cons, List.take_zero]
    go_wp2_with fail
    intro a H
    replace hs := H.size.trans hs
    replace hd : a.defers = [] := H.defers
    replace e0 : a.tmps[0]? = some _ := H.keep e0 rfl
    replace e2 : a.tmps[2]? = some _ := H.keep e2 rfl
    replace e3 : a.tmps[3]? = some _ := H.keep e3 rfl
    replace e4 : a.tmps[4]? = some _ := H.keep e4 rfl
    replace e6 : a.tmps[6]? = some _ := H.keep e6 rfl
    replace e11 : a.tmps[11]? = some _ := H.keep e11 rfl
    replace e18 : a.tmps[18]? = some _ := H.keep e18 rfl
    replace e19 : a.tmps[19]? = some _ := H.keep e19 rfl
    replace e20 : a.tmps[20]? = some _ := H.keep e20 rfl
    replace e21 : a.tmps[21]? = some _ := H.keep e21 rfl
    replace e198 : a.tmps[198]? = some _ := H.keep e198 rfl
    replace e199 : a.tmps[199]? = some _ := H.got rfl rfl
    replace e22 : a.tmps[22]? = some _ := H.keep e22 rfl
    replace e200 : a.tmps[200]? = some _ := H.got rfl rfl
    have e201 : a.tmps[201]? = some _ := H.got rfl rfl
    clear H
    refine hKq1 _ _ ?_
    clear hKq1 Kq1
    refine wp_seq_k fun Kq2 hKq2 => ?_
    refine wp_cond_false (slotE e201) ?_
    clear e201
    refine wp_exit ?_
    refine exit_then rfl ?_
    clear hKq2 Kq2
    refine exit_then rfl ?_
    refine exit_hit ?_
    rw [List.take_of_length_le (by rw [List.length_map, HL.out]; exact Nat.le_refl _)] at hown
    exact HEND.out a w3 v hs hd e0 e2 e3 e4 e6 e11 e18 e19 e20 e21 e22 hown hb
end Go.Proofs.Ytcdgofndfajekaa
