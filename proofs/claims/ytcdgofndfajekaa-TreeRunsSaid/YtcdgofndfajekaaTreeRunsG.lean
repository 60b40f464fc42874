/-
  TreeRuns: what goes out.
-/
import Derived.Test.YtcdgofndfajekaaTreeRunsF
namespace Go.Proofs.Ytcdgofndfajekaa
set_option linter.unusedSimpArgs false
set_option linter.unusedVariables false
open Go.RowKit Go.WideShapes Go.ChangeShapes
attribute [local go_sem ↓] Go.wp_at_zero Go.wp_at_succ

set_option maxRecDepth 100000 in
set_option maxHeartbeats 4000000 in
theorem tr_out (dom most : Int) (own : Pr) (b : Bks) (g6 gm gk N : Nat) (A : Option Addr) (n c i : Nat) (g21 g25 gx : Nat) (s : S20) (v26 : Value) (rl : List Int) (t : Tre) (ps qs : List Value)  (a : Act) (w0 w : World) (Q : Exit → Act → World → Prop)
    (hs : a.tmps.size = 593) (hd : a.defers = []) (e0 : a.tmps[0]? = some (.int .i64 dom)) (e2 : a.tmps[2]? = some (.int .i64 (N : Int))) (e3 : a.tmps[3]? = some (.int .i64 most)) (e4 : a.tmps[4]? = some (.slice A n c)) (e6 : a.tmps[6]? = some (.pointer (some ⟨g6, 0, none⟩))) (e11 : a.tmps[11]? = some (.pointer (some ⟨b.g, 0, none⟩))) (e18 : a.tmps[18]? = some (.slice (some ⟨gk, 0, none⟩) N N)) (e19 : a.tmps[19]? = some (.pointer (some ⟨gm, 0, none⟩))) (e20 : a.tmps[20]? = some (.int .i64 (i : Int))) (e21 : a.tmps[21]? = some (.pointer (some ⟨g21, 0, none⟩))) (e25 : a.tmps[25]? = some (.pointer (some ⟨g25, 0, none⟩))) (e26 : a.tmps[26]? = some (v26)) (e27 : a.tmps[27]? = some (.bool (decide (0 ≤ s.at_ ∧ s.at_ < (N : Int))))) (hmost : 1 ≤ most ∧ most ≤ 1099511627776) (hrl : (rl.map fun x => Value.int .i64 x) = (List.range N).map fun j => .int .i64 (roleAt own (t.top s.now) (t.hs s.now) j)) (hown : RightP own) (hdom : 0 ≤ dom ∧ dom ≤ 127) (hend4 : ∀ (a : Act) (w' : World) (t' : Tre) (ps' qs' : List Value), a.tmps.size = 593 → a.defers = [] → a.tmps[0]? = some (.int .i64 dom) → a.tmps[2]? = some (.int .i64 (N : Int)) → a.tmps[3]? = some (.int .i64 most) → a.tmps[4]? = some (.slice A n c) → a.tmps[6]? = some (.pointer (some ⟨g6, 0, none⟩)) → a.tmps[11]? = some (.pointer (some ⟨b.g, 0, none⟩)) → a.tmps[18]? = some (.slice (some ⟨gk, 0, none⟩) N N) → a.tmps[19]? = some (.pointer (some ⟨gm, 0, none⟩)) → a.tmps[20]? = some (.int .i64 (i : Int)) → TI w0 w' b g6 gm gk own t' t'.es ps' qs' → TOk own dom most N t' → Q (.exit 4) a w')
    (R : Rd w0 w b g6 gm gk own t t.es ps qs g21 g25 gx N s v26 (t.top s.now) rl) (hok : TOk own dom most N t) (hmsg : MsgIn w0 w0.heap.size s.m s.A s.n) (hN : N ≤ 8) (hnow : -1125899906842624 ≤ s.now ∧ s.now ≤ 1125899906842624)
    (hend : ∀ (a : Act) (w' : World) (t' : Tre) (ps' qs' : List Value), a.tmps.size = 593 → a.defers = [] → a.tmps[0]? = some (.int .i64 dom) → a.tmps[2]? = some (.int .i64 (N : Int)) → a.tmps[3]? = some (.int .i64 most) → a.tmps[4]? = some (.slice A n c) → a.tmps[6]? = some (.pointer (some ⟨g6, 0, none⟩)) → a.tmps[11]? = some (.pointer (some ⟨b.g, 0, none⟩)) → a.tmps[18]? = some (.slice (some ⟨gk, 0, none⟩) N N) → a.tmps[19]? = some (.pointer (some ⟨gm, 0, none⟩)) → a.tmps[20]? = some (.int .i64 (i : Int)) → TI w0 w' b g6 gm gk own t' t'.es ps' qs' → TOk own dom most N t' → Q .normal a w') :
    Code.wp Try.prog (sub [true, true, true, true, true, true, true, true, false, true, false, false, true, false, false, true, true, true, true, true, true, true, false, true, true, true, true, true, true, true, false] (bodyOf Try.f3)) Q a w := by
  conv => arg 2; whnf
  have HEND := Lib.hid hend
  have HOK := Lib.hid hok
  have HM := Lib.hid hmsg
  clear hend hok hmsg
  refine wp_seq_k fun Kq1 hKq1 => ?_
  have HE4 := Lib.hid hend4
  have HRO := Lib.hid (And.intro hown hdom)
  clear hend4 hown hdom
  have y1 := R.st.cellOf (v := .int .i64 s.at_) 1 rfl
  have y18 := R.st.cellOf (v := .int .i64 s.now) 18 rfl
  have y20 := R.st.cellOf (v := .int .i64 s.nn) 20 rfl
  have hr : R64 s.now := by unfold R64; omega
  have hat : ∀ e ∈ t.es, R64 e.at_ := fun e he => by have := (HOK.out.all e he).1; unfold R64; omega
  have hpl : ∀ e ∈ t.es, e.path.length ≤ 31 := fun e he => (HOK.out.all e he).2.1
  have hm0 : 0 ≤ t.most := by rw [HOK.out.most]; omega
  have hm1 : t.most ≤ 9223372036854775807 := by rw [HOK.out.most]; omega
  have hZ := fun hn => out_else b t ps s.at_ s.nn s.now w R.ti.tat hr hat hm0 hm1 hpl hn
  have hM := fun hn => out_master b t ps s.at_ s.nn s.now w R.ti.tat hr hat hm0 hm1 hpl hn
  have HZM := Lib.hid (And.intro hZ hM)
  have HRD := Lib.hid R
  have HRL := Lib.hid hrl
  clear hZ hM hr hat hpl hm0 hm1 R hrl hmost
  by_cases hth : 0 ≤ s.at_ ∧ s.at_ < (N : Int)
  rotate_left
  · have hno : ¬ (0 ≤ s.at_ ∧ s.at_ < (t.es.length : Int) ∧ roleAt t.own (t.top s.now) (t.hs s.now) s.at_.toNat = 1) := fun h => hth ⟨h.1, by rw [HOK.out.len] at h; exact h.2.1⟩
    rw [decide_eq_false hth] at e27
    clear hth
    refine sm_list [11, 21, 33, 34] 462 11 hs hd (by kernel_rfl) (agC e11 (agC e21 (agU (agU agN)))) (by simp only [List.map_cons, List.map_nil, reOper, reOp, reO, reC, reK, Option.map_some, Option.map_none, fS_ite, ix_ite, Nat.reduceLeDiff, Nat.reduceEqDiff, if_true, if_false, ↓reduceIte, List.length_cons, List.length_nil, Nat.reduceAdd, Nat.reduceSub, List.map_toArray]; rfl) ?_
    simp only [List.replicate_succ, List.replicate_zero, List.cons_append, List.nil_append, List.drop_succ_cons, List.drop_zero, List.take_succ_cons, List.take_zero]
    go_wp2_with fail
    refine (HZM.out.1 hno).mono ?_
    rintro e w2 ⟨rfl, b2⟩
    clear y1 y18 y20
    go_wp2_with (refine wpList_store_new rfl 38 (.tmp 2) (.tmp 13) rfl rfl rfl rfl rfl (by kernel_rfl) (by rw [← Array.all_toList]; rfl) ?_)
    intro a H
    replace hs := H.size.trans hs
    replace hd : a.defers = [] := H.defers
    replace e0 : a.tmps[0]? = some _ := H.keep e0 rfl
    replace e2 : a.tmps[2]? = some _ := H.keep e2 rfl
    replace e3 : a.tmps[3]? = some _ := H.keep e3 rfl
    replace e4 : a.tmps[4]? = some _ := H.keep e4 rfl
    replace e6 : a.tmps[6]? = some _ := H.keep e6 rfl
    replace e11 : a.tmps[11]? = some _ := H.got rfl rfl
    replace e18 : a.tmps[18]? = some _ := H.keep e18 rfl
    replace e19 : a.tmps[19]? = some _ := H.keep e19 rfl
    replace e20 : a.tmps[20]? = some _ := H.keep e20 rfl
    replace e21 : a.tmps[21]? = some _ := H.got rfl rfl
    replace e25 : a.tmps[25]? = some _ := H.keep e25 rfl
    replace e26 : a.tmps[26]? = some _ := H.keep e26 rfl
    replace e27 : a.tmps[27]? = some _ := H.keep e27 rfl
    have e34 : a.tmps[34]? = some _ := H.got rfl rfl
    clear H
    refine hKq1 _ _ ?_
    clear hKq1 Kq1
    refine wp_seq_k fun Kq2 hKq2 => ?_
    refine wp_seq_k fun Kq3 hKq3 => ?_
    have L3 := b2.alloc b2.size (.cells (mcells zeroM none 0 0) 38)
    have R3 := HRD.out.kept L3
    have HR3 := Lib.hid R3
    clear b2 L3
    generalize w2.alloc (.cells (mcells zeroM none 0 0) 38) = w3 at *
    have y1 := R3.st.cellOf (v := .int .i64 s.at_) 1 rfl
    have y20 := R3.st.cellOf (v := .int .i64 s.nn) 20 rfl
    clear R3
    refine sm_list [21, 26, 27] 473 20 hs hd (by kernel_rfl) (agC e21 (agC e26 (agC e27 agN))) (by simp only [List.map_cons, List.map_nil, reOper, reOp, reO, reC, reK, Option.map_some, Option.map_none, fS_ite, ix_ite, Nat.reduceLeDiff, Nat.reduceEqDiff, if_true, if_false, ↓reduceIte, List.length_cons, List.length_nil, Nat.reduceAdd, Nat.reduceSub, List.map_toArray]; rfl) ?_
    simp only [List.replicate_succ, List.replicate_zero, List.cons_append, List.nil_append, List.drop_succ_cons, List.drop_zero, List.take_succ_cons, List.take_zero]
    go_wp2_with fail
    intro a H
    replace hs := H.size.trans hs
    replace hd : a.defers = [] := H.defers
    replace e0 : a.tmps[0]? = some _ := H.keep e0 rfl
    replace e2 : a.tmps[2]? = some _ := H.keep e2 rfl
    replace e3 : a.tmps[3]? = some _ := H.keep e3 rfl
    replace e4 : a.tmps[4]? = some _ := H.keep e4 rfl
    replace e6 : a.tmps[6]? = some _ := H.keep e6 rfl
    replace e11 : a.tmps[11]? = some _ := H.keep e11 rfl
    replace e18 : a.tmps[18]? = some _ := H.keep e18 rfl
    replace e19 : a.tmps[19]? = some _ := H.keep e19 rfl
    replace e20 : a.tmps[20]? = some _ := H.keep e20 rfl
    replace e21 : a.tmps[21]? = some _ := H.got rfl rfl
    replace e25 : a.tmps[25]? = some _ := H.keep e25 rfl
    replace e26 : a.tmps[26]? = some _ := H.got rfl rfl
    replace e27 : a.tmps[27]? = some _ := H.got rfl rfl
    replace e34 : a.tmps[34]? = some _ := H.keep e34 rfl
    have e492 : a.tmps[492]? = some _ := H.got rfl rfl
    clear H
    refine hKq3 _ _ ?_
    clear hKq3 Kq3
    refine wp_cond_true (slotE e492) ?_
    clear e492
    refine wp_seq_k fun Kq4 hKq4 => ?_
    refine wp_seq_k fun Kq5 hKq5 => ?_
    refine sm_list [34] 493 1 hs hd (by kernel_rfl) (agC e34 agN) (by simp only [List.map_cons, List.map_nil, reOper, reOp, reO, reC, reK, Option.map_some, Option.map_none, fS_ite, ix_ite, Nat.reduceLeDiff, Nat.reduceEqDiff, if_true, if_false, ↓reduceIte, List.length_cons, List.length_nil, Nat.reduceAdd, Nat.reduceSub, List.map_toArray]; rfl) ?_
    simp only [List.replicate_succ, List.replicate_zero, List.cons_append, List.nil_append, List.drop_succ_cons, List.drop_zero, List.take_succ_cons, List.take_zero]
    go_wp2_with fail
    intro a H
    replace hs := H.size.trans hs
    replace hd : a.defers = [] := H.defers
    replace e0 : a.tmps[0]? = some _ := H.keep e0 rfl
    replace e2 : a.tmps[2]? = some _ := H.keep e2 rfl
    replace e3 : a.tmps[3]? = some _ := H.keep e3 rfl
    replace e4 : a.tmps[4]? = some _ := H.keep e4 rfl
    replace e6 : a.tmps[6]? = some _ := H.keep e6 rfl
    replace e11 : a.tmps[11]? = some _ := H.keep e11 rfl
    replace e18 : a.tmps[18]? = some _ := H.keep e18 rfl
    replace e19 : a.tmps[19]? = some _ := H.keep e19 rfl
    replace e20 : a.tmps[20]? = some _ := H.keep e20 rfl
    replace e21 : a.tmps[21]? = some _ := H.keep e21 rfl
    replace e25 : a.tmps[25]? = some _ := H.keep e25 rfl
    replace e26 : a.tmps[26]? = some _ := H.keep e26 rfl
    replace e27 : a.tmps[27]? = some _ := H.keep e27 rfl
    replace e34 : a.tmps[34]? = some _ := H.got rfl rfl
    have e493 : a.tmps[493]? = some _ := H.got rfl rfl
    clear H
    refine hKq5 _ _ ?_
    clear hKq5 Kq5
    refine wp_cond_false (slotE e493) ?_
    clear e493
    refine wp_skip ?_
    refine hKq4 _ _ ?_
    clear hKq4 Kq4
    refine wp_exit ?_
    refine exit_then rfl ?_
    clear hKq2 Kq2
    exact HE4.out a _ _ _ _ hs hd e0 e2 e3 e4 e6 e11 e18 e19 e20 HR3.out.ti HOK.out
  rw [decide_eq_true hth] at e27
  obtain ⟨k, hk⟩ : ∃ k : Nat, s.at_ = (k : Int) := ⟨s.at_.toNat, by omega⟩
  have hkN : k < N := by omega
  have hk0 : (0 : Int) ≤ (k : Int) := by omega
  have hk1 : (k : Int) < (N : Int) := by omega
  have HK := Lib.hid hk
  have hrk : (rl.map fun x => Value.int .i64 x)[k]? = some (.int .i64 (roleAt own (t.top s.now) (t.hs s.now) k)) := by rw [HRL.out, List.getElem?_map, List.getElem?_range hkN]; rfl
  have HRK := Lib.hid hrk
  clear hk hrk hth
  by_cases hrole : roleAt own (t.top s.now) (t.hs s.now) k = 1
  rotate_left
  · have hno : ¬ (0 ≤ s.at_ ∧ s.at_ < (t.es.length : Int) ∧ roleAt t.own (t.top s.now) (t.hs s.now) s.at_.toNat = 1) := fun h => hrole (by have := h.2.2; rw [HK.out, Int.toNat_natCast, HOK.out.own_] at this; exact this)
    skip
    refine sm_list [11, 21, 33, 34] 462 11 hs hd (by kernel_rfl) (agC e11 (agC e21 (agU (agU agN)))) (by simp only [List.map_cons, List.map_nil, reOper, reOp, reO, reC, reK, Option.map_some, Option.map_none, fS_ite, ix_ite, Nat.reduceLeDiff, Nat.reduceEqDiff, if_true, if_false, ↓reduceIte, List.length_cons, List.length_nil, Nat.reduceAdd, Nat.reduceSub, List.map_toArray]; rfl) ?_
    simp only [List.replicate_succ, List.replicate_zero, List.cons_append, List.nil_append, List.drop_succ_cons, List.drop_zero, List.take_succ_cons, List.take_zero]
    go_wp2_with fail
    refine (HZM.out.1 hno).mono ?_
    rintro e w2 ⟨rfl, b2⟩
    clear y1 y18 y20
    go_wp2_with (refine wpList_store_new rfl 38 (.tmp 2) (.tmp 13) rfl rfl rfl rfl rfl (by kernel_rfl) (by rw [← Array.all_toList]; rfl) ?_)
    intro a H
    replace hs := H.size.trans hs
    replace hd : a.defers = [] := H.defers
    replace e0 : a.tmps[0]? = some _ := H.keep e0 rfl
    replace e2 : a.tmps[2]? = some _ := H.keep e2 rfl
    replace e3 : a.tmps[3]? = some _ := H.keep e3 rfl
    replace e4 : a.tmps[4]? = some _ := H.keep e4 rfl
    replace e6 : a.tmps[6]? = some _ := H.keep e6 rfl
    replace e11 : a.tmps[11]? = some _ := H.got rfl rfl
    replace e18 : a.tmps[18]? = some _ := H.keep e18 rfl
    replace e19 : a.tmps[19]? = some _ := H.keep e19 rfl
    replace e20 : a.tmps[20]? = some _ := H.keep e20 rfl
    replace e21 : a.tmps[21]? = some _ := H.got rfl rfl
    replace e25 : a.tmps[25]? = some _ := H.keep e25 rfl
    replace e26 : a.tmps[26]? = some _ := H.keep e26 rfl
    replace e27 : a.tmps[27]? = some _ := H.keep e27 rfl
    have e34 : a.tmps[34]? = some _ := H.got rfl rfl
    clear H
    refine hKq1 _ _ ?_
    clear hKq1 Kq1
    refine wp_seq_k fun Kq2 hKq2 => ?_
    refine wp_seq_k fun Kq3 hKq3 => ?_
    have L3 := b2.alloc b2.size (.cells (mcells zeroM none 0 0) 38)
    have R3 := HRD.out.kept L3
    have HR3 := Lib.hid R3
    clear b2 L3
    generalize w2.alloc (.cells (mcells zeroM none 0 0) 38) = w3 at *
    have y1 := R3.st.cellOf (v := .int .i64 s.at_) 1 rfl
    have y20 := R3.st.cellOf (v := .int .i64 s.nn) 20 rfl
    rw [HK.out] at y1
    obtain ⟨gw, cw, uw, hvw, _, lw, hxw, zw⟩ := own_cell R3.wn hkN
    rw [HRK.out] at hxw
    injection hxw with hxw
    subst hxw
    rw [hvw] at e26
    clear hvw
    have dr : (roleAt own (t.top s.now) (t.hs s.now) k != 1) = true := bne_iff_ne.2 hrole
    clear hrole hno
    clear R3
    refine sm_list [21, 26, 27] 473 20 hs hd (by kernel_rfl) (agC e21 (agC e26 (agC e27 agN))) (by simp only [List.map_cons, List.map_nil, reOper, reOp, reO, reC, reK, Option.map_some, Option.map_none, fS_ite, ix_ite, Nat.reduceLeDiff, Nat.reduceEqDiff, if_true, if_false, ↓reduceIte, List.length_cons, List.length_nil, Nat.reduceAdd, Nat.reduceSub, List.map_toArray]; rfl) ?_
    simp only [List.replicate_succ, List.replicate_zero, List.cons_append, List.nil_append, List.drop_succ_cons, List.drop_zero, List.take_succ_cons, List.take_zero]
    go_wp2_with fail
    intro a H
    replace hs := H.size.trans hs
    replace hd : a.defers = [] := H.defers
    replace e0 : a.tmps[0]? = some _ := H.keep e0 rfl
    replace e2 : a.tmps[2]? = some _ := H.keep e2 rfl
    replace e3 : a.tmps[3]? = some _ := H.keep e3 rfl
    replace e4 : a.tmps[4]? = some _ := H.keep e4 rfl
    replace e6 : a.tmps[6]? = some _ := H.keep e6 rfl
    replace e11 : a.tmps[11]? = some _ := H.keep e11 rfl
    replace e18 : a.tmps[18]? = some _ := H.keep e18 rfl
    replace e19 : a.tmps[19]? = some _ := H.keep e19 rfl
    replace e20 : a.tmps[20]? = some _ := H.keep e20 rfl
    replace e21 : a.tmps[21]? = some _ := H.got rfl rfl
    replace e25 : a.tmps[25]? = some _ := H.keep e25 rfl
    replace e26 : a.tmps[26]? = some _ := H.got rfl rfl
    replace e27 : a.tmps[27]? = some _ := H.got rfl rfl
    replace e34 : a.tmps[34]? = some _ := H.keep e34 rfl
    have e492 : a.tmps[492]? = some _ := H.got rfl rfl
    clear H
    refine hKq3 _ _ ?_
    clear hKq3 Kq3
    refine wp_cond_true (slotE e492) ?_
    clear e492
    refine wp_seq_k fun Kq4 hKq4 => ?_
    refine wp_seq_k fun Kq5 hKq5 => ?_
    refine sm_list [34] 493 1 hs hd (by kernel_rfl) (agC e34 agN) (by simp only [List.map_cons, List.map_nil, reOper, reOp, reO, reC, reK, Option.map_some, Option.map_none, fS_ite, ix_ite, Nat.reduceLeDiff, Nat.reduceEqDiff, if_true, if_false, ↓reduceIte, List.length_cons, List.length_nil, Nat.reduceAdd, Nat.reduceSub, List.map_toArray]; rfl) ?_
    simp only [List.replicate_succ, List.replicate_zero, List.cons_append, List.nil_append, List.drop_succ_cons, List.drop_zero, List.take_succ_cons, List.take_zero]
    go_wp2_with fail
    intro a H
    replace hs := H.size.trans hs
    replace hd : a.defers = [] := H.defers
    replace e0 : a.tmps[0]? = some _ := H.keep e0 rfl
    replace e2 : a.tmps[2]? = some _ := H.keep e2 rfl
    replace e3 : a.tmps[3]? = some _ := H.keep e3 rfl
    replace e4 : a.tmps[4]? = some _ := H.keep e4 rfl
    replace e6 : a.tmps[6]? = some _ := H.keep e6 rfl
    replace e11 : a.tmps[11]? = some _ := H.keep e11 rfl
    replace e18 : a.tmps[18]? = some _ := H.keep e18 rfl
    replace e19 : a.tmps[19]? = some _ := H.keep e19 rfl
    replace e20 : a.tmps[20]? = some _ := H.keep e20 rfl
    replace e21 : a.tmps[21]? = some _ := H.keep e21 rfl
    replace e25 : a.tmps[25]? = some _ := H.keep e25 rfl
    replace e26 : a.tmps[26]? = some _ := H.keep e26 rfl
    replace e27 : a.tmps[27]? = some _ := H.keep e27 rfl
    replace e34 : a.tmps[34]? = some _ := H.got rfl rfl
    have e493 : a.tmps[493]? = some _ := H.got rfl rfl
    clear H
    refine hKq5 _ _ ?_
    clear hKq5 Kq5
    refine wp_cond_false (slotE e493) ?_
    clear e493
    refine wp_skip ?_
    refine hKq4 _ _ ?_
    clear hKq4 Kq4
    refine wp_exit ?_
    refine exit_then rfl ?_
    clear hKq2 Kq2
    exact HE4.out a _ _ _ _ hs hd e0 e2 e3 e4 e6 e11 e18 e19 e20 HR3.out.ti HOK.out
  have hyes : 0 ≤ s.at_ ∧ s.at_ < (t.es.length : Int) ∧ roleAt t.own (t.top s.now) (t.hs s.now) s.at_.toNat = 1 := by rw [HK.out, Int.toNat_natCast, HOK.out.own_, HOK.out.len]; exact ⟨hk0, hk1, hrole⟩
  obtain ⟨M, hM⟩ : ∃ M, t.outM s.at_.toNat s.nn s.now = M := ⟨_, rfl⟩
  have HM2 := Lib.hid hM
  clear hM
  by_cases hseq : 0 ≤ s.nn ∧ s.nn ≤ 65535
  rotate_left
  · have hck : (checkV M == 0) = false := by rw [← HM2.out]; exact out_seq hseq
    refine sm_list [11, 21, 33, 34] 462 11 hs hd (by kernel_rfl) (agC e11 (agC e21 (agU (agU agN)))) (by simp only [List.map_cons, List.map_nil, reOper, reOp, reO, reC, reK, Option.map_some, Option.map_none, fS_ite, ix_ite, Nat.reduceLeDiff, Nat.reduceEqDiff, if_true, if_false, ↓reduceIte, List.length_cons, List.length_nil, Nat.reduceAdd, Nat.reduceSub, List.map_toArray]; rfl) ?_
    simp only [List.replicate_succ, List.replicate_zero, List.cons_append, List.nil_append, List.drop_succ_cons, List.drop_zero, List.take_succ_cons, List.take_zero]
    go_wp2_with fail
    refine (HZM.out.2 hyes).mono ?_
    rintro e w2 ⟨A2, n2, c2, rfl, hn2, P2, hc2, _, b2⟩
    rw [HM2.out] at P2 hn2 hc2 ⊢
    subst hn2
    clear y1 y18 y20
    go_wp2_with (refine wpList_store_new rfl 38 (.tmp 2) (.tmp 13) rfl rfl rfl rfl rfl (by kernel_rfl) (by rw [← Array.all_toList]; rfl) ?_)
    intro a H
    replace hs := H.size.trans hs
    replace hd : a.defers = [] := H.defers
    replace e0 : a.tmps[0]? = some _ := H.keep e0 rfl
    replace e2 : a.tmps[2]? = some _ := H.keep e2 rfl
    replace e3 : a.tmps[3]? = some _ := H.keep e3 rfl
    replace e4 : a.tmps[4]? = some _ := H.keep e4 rfl
    replace e6 : a.tmps[6]? = some _ := H.keep e6 rfl
    replace e11 : a.tmps[11]? = some _ := H.got rfl rfl
    replace e18 : a.tmps[18]? = some _ := H.keep e18 rfl
    replace e19 : a.tmps[19]? = some _ := H.keep e19 rfl
    replace e20 : a.tmps[20]? = some _ := H.keep e20 rfl
    replace e21 : a.tmps[21]? = some _ := H.got rfl rfl
    replace e25 : a.tmps[25]? = some _ := H.keep e25 rfl
    replace e26 : a.tmps[26]? = some _ := H.keep e26 rfl
    replace e27 : a.tmps[27]? = some _ := H.keep e27 rfl
    have e33 : a.tmps[33]? = some _ := H.got rfl rfl
    have e34 : a.tmps[34]? = some _ := H.got rfl rfl
    clear H
    refine hKq1 _ _ ?_
    clear hKq1 Kq1
    refine wp_seq_k fun Kq2 hKq2 => ?_
    refine wp_seq_k fun Kq3 hKq3 => ?_
    have L3 := b2.alloc b2.size (.cells (mcells M A2 M.path.length c2) 38)
    have R3 := HRD.out.kept L3
    have B33 := Blk.new w2 38 (mcells M A2 M.path.length c2)
    have P3 := P2.fr (S' := []) (Fr.be ((Below.refl w2.heap.size w2).alloc (Nat.le_refl _) (.cells (mcells M A2 M.path.length c2) 38))) (by simp)
    have HR3 := Lib.hid R3
    obtain ⟨g33, hg33⟩ : ∃ g33, g33 = w2.heap.size := ⟨_, rfl⟩
    rw [← hg33] at B33 e33
    clear b2 L3 P2 hg33
    generalize w2.alloc (.cells (mcells M A2 M.path.length c2) 38) = w3 at *
    have y1 := R3.st.cellOf (v := .int .i64 s.at_) 1 rfl
    have y20 := R3.st.cellOf (v := .int .i64 s.nn) 20 rfl
    rw [HK.out] at y1
    obtain ⟨gw, cw, uw, hvw, _, lw, hxw, zw⟩ := own_cell R3.wn hkN
    rw [HRK.out] at hxw
    injection hxw with hxw
    subst hxw
    rw [hvw] at e26
    clear hvw
    have dr : (roleAt own (t.top s.now) (t.hs s.now) k != 1) = false := by rw [hrole]; rfl
    first | rw [hck] at e34 | skip
    clear hck hrole hyes B33 P3
    by_cases hs0 : s.nn < 0
    · clear hseq
      clear R3
      refine sm_list [21, 26, 27] 473 20 hs hd (by kernel_rfl) (agC e21 (agC e26 (agC e27 agN))) (by simp only [List.map_cons, List.map_nil, reOper, reOp, reO, reC, reK, Option.map_some, Option.map_none, fS_ite, ix_ite, Nat.reduceLeDiff, Nat.reduceEqDiff, if_true, if_false, ↓reduceIte, List.length_cons, List.length_nil, Nat.reduceAdd, Nat.reduceSub, List.map_toArray]; rfl) ?_
      simp only [List.replicate_succ, List.replicate_zero, List.cons_append, List.nil_append, List.drop_succ_cons, List.drop_zero, List.take_succ_cons, List.take_zero]
      go_wp2_with fail
      intro a H
      replace hs := H.size.trans hs
      replace hd : a.defers = [] := H.defers
      replace e0 : a.tmps[0]? = some _ := H.keep e0 rfl
      replace e2 : a.tmps[2]? = some _ := H.keep e2 rfl
      replace e3 : a.tmps[3]? = some _ := H.keep e3 rfl
      replace e4 : a.tmps[4]? = some _ := H.keep e4 rfl
      replace e6 : a.tmps[6]? = some _ := H.keep e6 rfl
      replace e11 : a.tmps[11]? = some _ := H.keep e11 rfl
      replace e18 : a.tmps[18]? = some _ := H.keep e18 rfl
      replace e19 : a.tmps[19]? = some _ := H.keep e19 rfl
      replace e20 : a.tmps[20]? = some _ := H.keep e20 rfl
      replace e21 : a.tmps[21]? = some _ := H.got rfl rfl
      replace e25 : a.tmps[25]? = some _ := H.keep e25 rfl
      replace e26 : a.tmps[26]? = some _ := H.got rfl rfl
      replace e27 : a.tmps[27]? = some _ := H.got rfl rfl
      replace e33 : a.tmps[33]? = some _ := H.keep e33 rfl
      replace e34 : a.tmps[34]? = some _ := H.keep e34 rfl
      have e492 : a.tmps[492]? = some _ := H.got rfl rfl
      clear H
      refine hKq3 _ _ ?_
      clear hKq3 Kq3
      refine wp_cond_true (slotE e492) ?_
      clear e492
      refine wp_seq_k fun Kq4 hKq4 => ?_
      refine wp_seq_k fun Kq5 hKq5 => ?_
      refine sm_list [34] 493 1 hs hd (by kernel_rfl) (agC e34 agN) (by simp only [List.map_cons, List.map_nil, reOper, reOp, reO, reC, reK, Option.map_some, Option.map_none, fS_ite, ix_ite, Nat.reduceLeDiff, Nat.reduceEqDiff, if_true, if_false, ↓reduceIte, List.length_cons, List.length_nil, Nat.reduceAdd, Nat.reduceSub, List.map_toArray]; rfl) ?_
      simp only [List.replicate_succ, List.replicate_zero, List.cons_append, List.nil_append, List.drop_succ_cons, List.drop_zero, List.take_succ_cons, List.take_zero]
      go_wp2_with fail
      intro a H
      replace hs := H.size.trans hs
      replace hd : a.defers = [] := H.defers
      replace e0 : a.tmps[0]? = some _ := H.keep e0 rfl
      replace e2 : a.tmps[2]? = some _ := H.keep e2 rfl
      replace e3 : a.tmps[3]? = some _ := H.keep e3 rfl
      replace e4 : a.tmps[4]? = some _ := H.keep e4 rfl
      replace e6 : a.tmps[6]? = some _ := H.keep e6 rfl
      replace e11 : a.tmps[11]? = some _ := H.keep e11 rfl
      replace e18 : a.tmps[18]? = some _ := H.keep e18 rfl
      replace e19 : a.tmps[19]? = some _ := H.keep e19 rfl
      replace e20 : a.tmps[20]? = some _ := H.keep e20 rfl
      replace e21 : a.tmps[21]? = some _ := H.keep e21 rfl
      replace e25 : a.tmps[25]? = some _ := H.keep e25 rfl
      replace e26 : a.tmps[26]? = some _ := H.keep e26 rfl
      replace e27 : a.tmps[27]? = some _ := H.keep e27 rfl
      replace e33 : a.tmps[33]? = some _ := H.keep e33 rfl
      replace e34 : a.tmps[34]? = some _ := H.got rfl rfl
      have e493 : a.tmps[493]? = some _ := H.got rfl rfl
      clear H
      refine hKq5 _ _ ?_
      clear hKq5 Kq5
      refine wp_cond_false (slotE e493) ?_
      clear e493
      refine wp_skip ?_
      refine hKq4 _ _ ?_
      clear hKq4 Kq4
      refine wp_exit ?_
      refine exit_then rfl ?_
      clear hKq2 Kq2
      exact HE4.out a _ _ _ _ hs hd e0 e2 e3 e4 e6 e11 e18 e19 e20 HR3.out.ti HOK.out
    have hs1 : 65535 < s.nn := by omega
    clear hseq
    clear R3
    refine sm_list [21, 26, 27] 473 20 hs hd (by kernel_rfl) (agC e21 (agC e26 (agC e27 agN))) (by simp only [List.map_cons, List.map_nil, reOper, reOp, reO, reC, reK, Option.map_some, Option.map_none, fS_ite, ix_ite, Nat.reduceLeDiff, Nat.reduceEqDiff, if_true, if_false, ↓reduceIte, List.length_cons, List.length_nil, Nat.reduceAdd, Nat.reduceSub, List.map_toArray]; rfl) ?_
    simp only [List.replicate_succ, List.replicate_zero, List.cons_append, List.nil_append, List.drop_succ_cons, List.drop_zero, List.take_succ_cons, List.take_zero]
    go_wp2_with fail
    intro a H
    replace hs := H.size.trans hs
    replace hd : a.defers = [] := H.defers
    replace e0 : a.tmps[0]? = some _ := H.keep e0 rfl
    replace e2 : a.tmps[2]? = some _ := H.keep e2 rfl
    replace e3 : a.tmps[3]? = some _ := H.keep e3 rfl
    replace e4 : a.tmps[4]? = some _ := H.keep e4 rfl
    replace e6 : a.tmps[6]? = some _ := H.keep e6 rfl
    replace e11 : a.tmps[11]? = some _ := H.keep e11 rfl
    replace e18 : a.tmps[18]? = some _ := H.keep e18 rfl
    replace e19 : a.tmps[19]? = some _ := H.keep e19 rfl
    replace e20 : a.tmps[20]? = some _ := H.keep e20 rfl
    replace e21 : a.tmps[21]? = some _ := H.got rfl rfl
    replace e25 : a.tmps[25]? = some _ := H.keep e25 rfl
    replace e26 : a.tmps[26]? = some _ := H.got rfl rfl
    replace e27 : a.tmps[27]? = some _ := H.got rfl rfl
    replace e33 : a.tmps[33]? = some _ := H.keep e33 rfl
    replace e34 : a.tmps[34]? = some _ := H.keep e34 rfl
    have e492 : a.tmps[492]? = some _ := H.got rfl rfl
    clear H
    refine hKq3 _ _ ?_
    clear hKq3 Kq3
    refine wp_cond_true (slotE e492) ?_
    clear e492
    refine wp_seq_k fun Kq4 hKq4 => ?_
    refine wp_seq_k fun Kq5 hKq5 => ?_
    refine sm_list [34] 493 1 hs hd (by kernel_rfl) (agC e34 agN) (by simp only [List.map_cons, List.map_nil, reOper, reOp, reO, reC, reK, Option.map_some, Option.map_none, fS_ite, ix_ite, Nat.reduceLeDiff, Nat.reduceEqDiff, if_true, if_false, ↓reduceIte, List.length_cons, List.length_nil, Nat.reduceAdd, Nat.reduceSub, List.map_toArray]; rfl) ?_
    simp only [List.replicate_succ, List.replicate_zero, List.cons_append, List.nil_append, List.drop_succ_cons, List.drop_zero, List.take_succ_cons, List.take_zero]
    go_wp2_with fail
    intro a H
    replace hs := H.size.trans hs
    replace hd : a.defers = [] := H.defers
    replace e0 : a.tmps[0]? = some _ := H.keep e0 rfl
    replace e2 : a.tmps[2]? = some _ := H.keep e2 rfl
    replace e3 : a.tmps[3]? = some _ := H.keep e3 rfl
    replace e4 : a.tmps[4]? = some _ := H.keep e4 rfl
    replace e6 : a.tmps[6]? = some _ := H.keep e6 rfl
    replace e11 : a.tmps[11]? = some _ := H.keep e11 rfl
    replace e18 : a.tmps[18]? = some _ := H.keep e18 rfl
    replace e19 : a.tmps[19]? = some _ := H.keep e19 rfl
    replace e20 : a.tmps[20]? = some _ := H.keep e20 rfl
    replace e21 : a.tmps[21]? = some _ := H.keep e21 rfl
    replace e25 : a.tmps[25]? = some _ := H.keep e25 rfl
    replace e26 : a.tmps[26]? = some _ := H.keep e26 rfl
    replace e27 : a.tmps[27]? = some _ := H.keep e27 rfl
    replace e33 : a.tmps[33]? = some _ := H.keep e33 rfl
    replace e34 : a.tmps[34]? = some _ := H.got rfl rfl
    have e493 : a.tmps[493]? = some _ := H.got rfl rfl
    clear H
    refine hKq5 _ _ ?_
    clear hKq5 Kq5
    refine wp_cond_false (slotE e493) ?_
    clear e493
    refine wp_skip ?_
    refine hKq4 _ _ ?_
    clear hKq4 Kq4
    refine wp_exit ?_
    refine exit_then rfl ?_
    clear hKq2 Kq2
    exact HE4.out a _ _ _ _ hs hd e0 e2 e3 e4 e6 e11 e18 e19 e20 HR3.out.ti HOK.out
  refine sm_list [11, 21, 33, 34] 462 11 hs hd (by kernel_rfl) (agC e11 (agC e21 (agU (agU agN)))) (by simp only [List.map_cons, List.map_nil, reOper, reOp, reO, reC, reK, Option.map_some, Option.map_none, fS_ite, ix_ite, Nat.reduceLeDiff, Nat.reduceEqDiff, if_true, if_false, ↓reduceIte, List.length_cons, List.length_nil, Nat.reduceAdd, Nat.reduceSub, List.map_toArray]; rfl) ?_
  simp only [List.replicate_succ, List.replicate_zero, List.cons_append, List.nil_append, List.drop_succ_cons, List.drop_zero, List.take_succ_cons, List.take_zero]
  go_wp2_with fail
  refine (HZM.out.2 hyes).mono ?_
  rintro e w2 ⟨A2, n2, c2, rfl, hn2, P2, hc2, _, b2⟩
  rw [HM2.out] at P2 hn2 hc2 ⊢
  subst hn2
  clear y1 y18 y20
  go_wp2_with (refine wpList_store_new rfl 38 (.tmp 2) (.tmp 13) rfl rfl rfl rfl rfl (by kernel_rfl) (by rw [← Array.all_toList]; rfl) ?_)
  intro a H
  replace hs := H.size.trans hs
  replace hd : a.defers = [] := H.defers
  replace e0 : a.tmps[0]? = some _ := H.keep e0 rfl
  replace e2 : a.tmps[2]? = some _ := H.keep e2 rfl
  replace e3 : a.tmps[3]? = some _ := H.keep e3 rfl
  replace e4 : a.tmps[4]? = some _ := H.keep e4 rfl
  replace e6 : a.tmps[6]? = some _ := H.keep e6 rfl
  replace e11 : a.tmps[11]? = some _ := H.got rfl rfl
  replace e18 : a.tmps[18]? = some _ := H.keep e18 rfl
  replace e19 : a.tmps[19]? = some _ := H.keep e19 rfl
  replace e20 : a.tmps[20]? = some _ := H.keep e20 rfl
  replace e21 : a.tmps[21]? = some _ := H.got rfl rfl
  replace e25 : a.tmps[25]? = some _ := H.keep e25 rfl
  replace e26 : a.tmps[26]? = some _ := H.keep e26 rfl
  replace e27 : a.tmps[27]? = some _ := H.keep e27 rfl
  have e33 : a.tmps[33]? = some _ := H.got rfl rfl
  have e34 : a.tmps[34]? = some _ := H.got rfl rfl
  clear H
  refine hKq1 _ _ ?_
  clear hKq1 Kq1
  refine wp_seq_k fun Kq2 hKq2 => ?_
  refine wp_seq_k fun Kq3 hKq3 => ?_
  have L3 := b2.alloc b2.size (.cells (mcells M A2 M.path.length c2) 38)
  have R3 := HRD.out.kept L3
  have B33 := Blk.new w2 38 (mcells M A2 M.path.length c2)
  have P3 := P2.fr (S' := []) (Fr.be ((Below.refl w2.heap.size w2).alloc (Nat.le_refl _) (.cells (mcells M A2 M.path.length c2) 38))) (by simp)
  have HR3 := Lib.hid R3
  obtain ⟨g33, hg33⟩ : ∃ g33, g33 = w2.heap.size := ⟨_, rfl⟩
  rw [← hg33] at B33 e33
  clear b2 L3 P2 hg33
  generalize w2.alloc (.cells (mcells M A2 M.path.length c2) 38) = w3 at *
  have y1 := R3.st.cellOf (v := .int .i64 s.at_) 1 rfl
  have y20 := R3.st.cellOf (v := .int .i64 s.nn) 20 rfl
  rw [HK.out] at y1
  obtain ⟨gw, cw, uw, hvw, _, lw, hxw, zw⟩ := own_cell R3.wn hkN
  rw [HRK.out] at hxw
  injection hxw with hxw
  subst hxw
  rw [hvw] at e26
  clear hvw
  have dr : (roleAt own (t.top s.now) (t.hs s.now) k != 1) = false := by rw [hrole]; rfl
  obtain ⟨hs0, hs1⟩ := hseq
  have ds0 : decide (s.nn < 0) = false := decide_eq_false (by omega)
  have ds1 : decide (65535 < s.nn) = false := decide_eq_false (by omega)
  clear hyes R3
  refine sm_list [21, 26, 27] 473 20 hs hd (by kernel_rfl) (agC e21 (agC e26 (agC e27 agN))) (by simp only [List.map_cons, List.map_nil, reOper, reOp, reO, reC, reK, Option.map_some, Option.map_none, fS_ite, ix_ite, Nat.reduceLeDiff, Nat.reduceEqDiff, if_true, if_false, ↓reduceIte, List.length_cons, List.length_nil, Nat.reduceAdd, Nat.reduceSub, List.map_toArray]; rfl) ?_
  simp only [List.replicate_succ, List.replicate_zero, List.cons_append, List.nil_append, List.drop_succ_cons, List.drop_zero, List.take_succ_cons, List.take_zero]
  go_wp2_with fail
  intro a H
  replace hs := H.size.trans hs
  replace hd : a.defers = [] := H.defers
  replace e0 : a.tmps[0]? = some _ := H.keep e0 rfl
  replace e2 : a.tmps[2]? = some _ := H.keep e2 rfl
  replace e3 : a.tmps[3]? = some _ := H.keep e3 rfl
  replace e4 : a.tmps[4]? = some _ := H.keep e4 rfl
  replace e6 : a.tmps[6]? = some _ := H.keep e6 rfl
  replace e11 : a.tmps[11]? = some _ := H.keep e11 rfl
  replace e18 : a.tmps[18]? = some _ := H.keep e18 rfl
  replace e19 : a.tmps[19]? = some _ := H.keep e19 rfl
  replace e20 : a.tmps[20]? = some _ := H.keep e20 rfl
  replace e21 : a.tmps[21]? = some _ := H.got rfl rfl
  replace e25 : a.tmps[25]? = some _ := H.keep e25 rfl
  replace e26 : a.tmps[26]? = some _ := H.got rfl rfl
  replace e27 : a.tmps[27]? = some _ := H.got rfl rfl
  replace e33 : a.tmps[33]? = some _ := H.keep e33 rfl
  replace e34 : a.tmps[34]? = some _ := H.keep e34 rfl
  have e492 : a.tmps[492]? = some _ := H.got rfl rfl
  clear H
  refine hKq3 _ _ ?_
  clear hKq3 Kq3
  refine wp_cond_false (slotE e492) ?_
  clear e492
  refine wp_skip ?_
  refine hKq2 _ _ ?_
  clear hKq2 Kq2
  refine wp_seq_k fun Kq4 hKq4 => ?_
  clear dr zw lw hrole
  have hM2 := HM2.out
  rw [HK.out, Int.toNat_natCast] at hM2
  have R3 := HR3.out
  have z3 := R3.ti.own_.cellOf (v := .int .i64 own.id) 3 rfl
  obtain ⟨⟨ro1, ro2⟩, ⟨rc1, rc2⟩, ⟨rt1, rt2⟩, ri1, ri2⟩ := HRO.out.1
  have hid : 0 ≤ t.own.id ∧ t.own.id ≤ ids := by rw [HOK.out.own_]; unfold ids; omega
  have hdm : 0 ≤ t.dom ∧ t.dom ≤ 127 := by rw [HOK.out.dom]; exact HRO.out.2
  have hk8 : k < 8 := by omega
  by_cases hlow : (t.top s.now).at_ < 0
  · unfold Tre.outM at hM2
    rw [if_pos hlow] at hM2
    have hTo : t.top s.now = ownVec own := by
            unfold Tre.top at hlow ⊢; rw [top_low hlow, HOK.out.own_]
    rw [hTo] at hM2 hlow
    have hck : checkV M = 0 := by
            rw [← hM2]; refine om_right hdm hk8 ⟨hs0, hs1⟩ hid ?_ ?_ (by simp) ?_
            · exact okN_more ⟨ro1, ro2⟩ (okN_more ⟨rc1, rc2⟩ (okN_more ⟨rt1, rt2⟩ (okN_one (by decide))))
            · refine okN_one ?_; unfold ids; show 0 ≤ own.id ∧ own.id ≤ 281474976710655; omega
            · exact okN_one hid
    have hMx : M = (⟨11, dom, s.nn, own.id, (k : Int), 0, 0, 0, 0, 0, (ownVec own).root.one, (ownVec own).root.cls, (ownVec own).root.two, (ownVec own).root.id, 0, [own.id]⟩ : Mg) := by
            rw [← hM2]; unfold om; rw [HOK.out.dom, HOK.out.own_]
    rw [hck] at e34
    subst hMx
    clear hck hM2 HM2 hid hdm
    refine sm_list [6, 35] 494 3 hs hd (by kernel_rfl) (agC e6 (agU agN)) (by simp only [List.map_cons, List.map_nil, reOper, reOp, reO, reC, reK, Option.map_some, Option.map_none, fS_ite, ix_ite, Nat.reduceLeDiff, Nat.reduceEqDiff, if_true, if_false, ↓reduceIte, List.length_cons, List.length_nil, Nat.reduceAdd, Nat.reduceSub, List.map_toArray]; rfl) ?_
    simp only [List.replicate_succ, List.replicate_zero, List.cons_append, List.nil_append, List.drop_succ_cons, List.drop_zero, List.take_succ_cons, List.take_zero]
    go_wp2_with fail
    intro a H
    replace hs := H.size.trans hs
    replace hd : a.defers = [] := H.defers
    replace e0 : a.tmps[0]? = some _ := H.keep e0 rfl
    replace e2 : a.tmps[2]? = some _ := H.keep e2 rfl
    replace e3 : a.tmps[3]? = some _ := H.keep e3 rfl
    replace e4 : a.tmps[4]? = some _ := H.keep e4 rfl
    replace e6 : a.tmps[6]? = some _ := H.got rfl rfl
    replace e11 : a.tmps[11]? = some _ := H.keep e11 rfl
    replace e18 : a.tmps[18]? = some _ := H.keep e18 rfl
    replace e19 : a.tmps[19]? = some _ := H.keep e19 rfl
    replace e20 : a.tmps[20]? = some _ := H.keep e20 rfl
    replace e21 : a.tmps[21]? = some _ := H.keep e21 rfl
    replace e25 : a.tmps[25]? = some _ := H.keep e25 rfl
    replace e26 : a.tmps[26]? = some _ := H.keep e26 rfl
    replace e27 : a.tmps[27]? = some _ := H.keep e27 rfl
    replace e33 : a.tmps[33]? = some _ := H.keep e33 rfl
    replace e34 : a.tmps[34]? = some _ := H.keep e34 rfl
    have e35 : a.tmps[35]? = some _ := H.got rfl rfl
    clear H
    refine hKq4 _ _ ?_
    clear hKq4 Kq4
    refine wp_seq_k fun Kq5 hKq5 => ?_
    obtain ⟨w4, hw4⟩ : ∃ w4, w4 = w3.alloc (.cells #[.int .i64 own.id] 3) := ⟨_, rfl⟩
    have LL : Below w3.heap.size w3 w4 := by rw [hw4]; exact (Below.refl _ _).alloc (Nat.le_refl _) _
    have own4 : w4.ownsRow w3.heap.size 3 1 (.slice (some ⟨w3.heap.size, 0, none⟩) 1 1) 1 [.int .i64 own.id] := by rw [hw4]; exact ownsRow_new (e := 3) (size := 1) (n := 1) (cs := #[.int .i64 own.id]) w3 (base := w3.heap.size) (Nat.le_refl _) rfl (by simp [maxLen])
    have R4 := R3.kept LL
    have B4 := B33.kept LL
    have P4 := P3.fr (S' := []) (Fr.be LL) (by simp)
    have HW4 := Lib.hid (And.intro R4 (And.intro B4 (And.intro P4 own4)))
    rw [← hw4]
    clear hw4 LL own4 R4 B4 P4 z3 B33 P3 R3
    refine sm_list [] 36 1 hs hd (by kernel_rfl) agN (by simp only [List.map_cons, List.map_nil, reOper, reOp, reO, reC, reK, Option.map_some, Option.map_none, fS_ite, ix_ite, Nat.reduceLeDiff, Nat.reduceEqDiff, if_true, if_false, ↓reduceIte, List.length_cons, List.length_nil, Nat.reduceAdd, Nat.reduceSub, List.map_toArray]; rfl) ?_
    simp only [List.replicate_succ, List.replicate_zero, List.cons_append, List.nil_append, List.drop_succ_cons, List.drop_zero, List.take_succ_cons, List.take_zero]
    go_wp2_with fail
    intro a H
    replace hs := H.size.trans hs
    replace hd : a.defers = [] := H.defers
    replace e0 : a.tmps[0]? = some _ := H.keep e0 rfl
    replace e2 : a.tmps[2]? = some _ := H.keep e2 rfl
    replace e3 : a.tmps[3]? = some _ := H.keep e3 rfl
    replace e4 : a.tmps[4]? = some _ := H.keep e4 rfl
    replace e6 : a.tmps[6]? = some _ := H.keep e6 rfl
    replace e11 : a.tmps[11]? = some _ := H.keep e11 rfl
    replace e18 : a.tmps[18]? = some _ := H.keep e18 rfl
    replace e19 : a.tmps[19]? = some _ := H.keep e19 rfl
    replace e20 : a.tmps[20]? = some _ := H.keep e20 rfl
    replace e21 : a.tmps[21]? = some _ := H.keep e21 rfl
    replace e25 : a.tmps[25]? = some _ := H.keep e25 rfl
    replace e26 : a.tmps[26]? = some _ := H.keep e26 rfl
    replace e27 : a.tmps[27]? = some _ := H.keep e27 rfl
    replace e33 : a.tmps[33]? = some _ := H.keep e33 rfl
    replace e34 : a.tmps[34]? = some _ := H.keep e34 rfl
    replace e35 : a.tmps[35]? = some _ := H.keep e35 rfl
    have e36 : a.tmps[36]? = some _ := H.got rfl rfl
    clear H
    refine hKq5 _ _ ?_
    clear hKq5 Kq5
    refine wp_seq_k fun Kq6 hKq6 => ?_
    refine wp_seq_k fun Kq7 hKq7 => ?_
    have tp4 := HW4.out.1.tp
    rw [hTo] at tp4
    have t7 := tp4.cellOf (v := .int .i64 (-1)) 7 rfl
    refine sm_list [25] 497 3 hs hd (by kernel_rfl) (agC e25 agN) (by simp only [List.map_cons, List.map_nil, reOper, reOp, reO, reC, reK, Option.map_some, Option.map_none, fS_ite, ix_ite, Nat.reduceLeDiff, Nat.reduceEqDiff, if_true, if_false, ↓reduceIte, List.length_cons, List.length_nil, Nat.reduceAdd, Nat.reduceSub, List.map_toArray]; rfl) ?_
    simp only [List.replicate_succ, List.replicate_zero, List.cons_append, List.nil_append, List.drop_succ_cons, List.drop_zero, List.take_succ_cons, List.take_zero]
    go_wp2_with fail
    intro a H
    replace hs := H.size.trans hs
    replace hd : a.defers = [] := H.defers
    replace e0 : a.tmps[0]? = some _ := H.keep e0 rfl
    replace e2 : a.tmps[2]? = some _ := H.keep e2 rfl
    replace e3 : a.tmps[3]? = some _ := H.keep e3 rfl
    replace e4 : a.tmps[4]? = some _ := H.keep e4 rfl
    replace e6 : a.tmps[6]? = some _ := H.keep e6 rfl
    replace e11 : a.tmps[11]? = some _ := H.keep e11 rfl
    replace e18 : a.tmps[18]? = some _ := H.keep e18 rfl
    replace e19 : a.tmps[19]? = some _ := H.keep e19 rfl
    replace e20 : a.tmps[20]? = some _ := H.keep e20 rfl
    replace e21 : a.tmps[21]? = some _ := H.keep e21 rfl
    replace e25 : a.tmps[25]? = some _ := H.got rfl rfl
    replace e26 : a.tmps[26]? = some _ := H.keep e26 rfl
    replace e27 : a.tmps[27]? = some _ := H.keep e27 rfl
    replace e33 : a.tmps[33]? = some _ := H.keep e33 rfl
    replace e34 : a.tmps[34]? = some _ := H.keep e34 rfl
    replace e35 : a.tmps[35]? = some _ := H.keep e35 rfl
    replace e36 : a.tmps[36]? = some _ := H.keep e36 rfl
    have e499 : a.tmps[499]? = some _ := H.got rfl rfl
    clear H
    refine hKq7 _ _ ?_
    clear hKq7 Kq7
    refine wp_cond_false (slotE e499) ?_
    clear e499
    refine wp_skip ?_
    refine hKq6 _ _ ?_
    clear hKq6 Kq6
    clear t7
    have hP32 : ([own.id] : List Int).length ≤ 32 := by simp
    exact tr_cmp dom most own b g6 gm gk N A n c i g21 g25 g33 w3.heap.size k c2 s (ownVec own) 0 [own.id] A2 _ t ps qs a w0 w4 Q hs hd e0 e2 e3 e4 e6 e11 e18 e19 e20 e21 e25 e33 e34 e35 e36 HW4.out.1.ti HOK.out HW4.out.1.st tp4 HW4.out.2.1 HW4.out.2.2.1 HW4.out.2.2.2 HK.out hP32 HEND.out
  obtain ⟨j, e, he, hj, hTe⟩ := tre_high HOK.out (now := s.now) (by omega)
  unfold Tre.outM at hM2
  rw [if_neg hlow] at hM2
  rw [hTe] at hM2
  simp only [Int.toNat_natCast, he] at hM2
  have hE := HOK.out.all e (List.mem_of_getElem? he)
  obtain ⟨hE1, hE2, hE3, hE4, hE5, hE6, hE7⟩ := hE
  have hst := okN_mem hE4
  simp only [List.mem_cons, List.not_mem_nil, or_false, forall_eq_or_imp, forall_eq] at hst
  have hwr : wrap64 (e.vec.steps + 1) = e.vec.steps + 1 := IntWalk.wrap64_in _ ⟨by omega, by omega⟩
  rw [hwr] at hM2
  have hck : checkV M = 0 := by
      rw [← hM2]; refine om_right hdm hk8 ⟨hs0, hs1⟩ hid ?_ ?_ (by simp; omega) ?_
      · exact okN_more hst.1 (okN_more hst.2.1 (okN_more hst.2.2.1 (okN_one (by omega))))
      · exact hE6
      · exact okN_app hE3 (okN_one hid)
  have hMx : M = (⟨11, dom, s.nn, own.id, (k : Int), 0, 0, 0, 0, 0, e.vec.root.one, e.vec.root.cls, e.vec.root.two, e.vec.root.id, (e.vec.steps + 1), (e.path ++ [own.id])⟩ : Mg) := by
      rw [← hM2]; unfold om; rw [HOK.out.dom, HOK.out.own_]
  rw [hck] at e34
  subst hMx
  have hP32 : (e.path ++ [own.id]).length ≤ 32 := by simp; omega
  have hs4 := hst.2.2.2
  have HEJ := Lib.hid he
  have HTE := Lib.hid hTe
  clear hck hM2 HM2 hid hdm hE1 hE3 hE4 hE6 hE7 hst hwr he hTe hlow ro1 ro2 rc1 rc2 rt1 rt2 ri1 ri2
  refine sm_list [6, 35] 494 3 hs hd (by kernel_rfl) (agC e6 (agU agN)) (by simp only [List.map_cons, List.map_nil, reOper, reOp, reO, reC, reK, Option.map_some, Option.map_none, fS_ite, ix_ite, Nat.reduceLeDiff, Nat.reduceEqDiff, if_true, if_false, ↓reduceIte, List.length_cons, List.length_nil, Nat.reduceAdd, Nat.reduceSub, List.map_toArray]; rfl) ?_
  simp only [List.replicate_succ, List.replicate_zero, List.cons_append, List.nil_append, List.drop_succ_cons, List.drop_zero, List.take_succ_cons, List.take_zero]
  go_wp2_with fail
  intro a H
  replace hs := H.size.trans hs
  replace hd : a.defers = [] := H.defers
  replace e0 : a.tmps[0]? = some _ := H.keep e0 rfl
  replace e2 : a.tmps[2]? = some _ := H.keep e2 rfl
  replace e3 : a.tmps[3]? = some _ := H.keep e3 rfl
  replace e4 : a.tmps[4]? = some _ := H.keep e4 rfl
  replace e6 : a.tmps[6]? = some _ := H.got rfl rfl
  replace e11 : a.tmps[11]? = some _ := H.keep e11 rfl
  replace e18 : a.tmps[18]? = some _ := H.keep e18 rfl
  replace e19 : a.tmps[19]? = some _ := H.keep e19 rfl
  replace e20 : a.tmps[20]? = some _ := H.keep e20 rfl
  replace e21 : a.tmps[21]? = some _ := H.keep e21 rfl
  replace e25 : a.tmps[25]? = some _ := H.keep e25 rfl
  replace e26 : a.tmps[26]? = some _ := H.keep e26 rfl
  replace e27 : a.tmps[27]? = some _ := H.keep e27 rfl
  replace e33 : a.tmps[33]? = some _ := H.keep e33 rfl
  replace e34 : a.tmps[34]? = some _ := H.keep e34 rfl
  have e35 : a.tmps[35]? = some _ := H.got rfl rfl
  clear H
  refine hKq4 _ _ ?_
  clear hKq4 Kq4
  refine wp_seq_k fun Kq5 hKq5 => ?_
  obtain ⟨w4, hw4⟩ : ∃ w4, w4 = w3.alloc (.cells #[.int .i64 own.id] 3) := ⟨_, rfl⟩
  have LL : Below w3.heap.size w3 w4 := by rw [hw4]; exact (Below.refl _ _).alloc (Nat.le_refl _) _
  have own4 : w4.ownsRow w3.heap.size 3 1 (.slice (some ⟨w3.heap.size, 0, none⟩) 1 1) 1 [.int .i64 own.id] := by rw [hw4]; exact ownsRow_new (e := 3) (size := 1) (n := 1) (cs := #[.int .i64 own.id]) w3 (base := w3.heap.size) (Nat.le_refl _) rfl (by simp [maxLen])
  have R4 := R3.kept LL
  have B4 := B33.kept LL
  have P4 := P3.fr (S' := []) (Fr.be LL) (by simp)
  have HW4 := Lib.hid (And.intro R4 (And.intro B4 (And.intro P4 own4)))
  rw [← hw4]
  clear hw4 LL own4 R4 B4 P4 z3 B33 P3 R3
  refine sm_list [] 36 1 hs hd (by kernel_rfl) agN (by simp only [List.map_cons, List.map_nil, reOper, reOp, reO, reC, reK, Option.map_some, Option.map_none, fS_ite, ix_ite, Nat.reduceLeDiff, Nat.reduceEqDiff, if_true, if_false, ↓reduceIte, List.length_cons, List.length_nil, Nat.reduceAdd, Nat.reduceSub, List.map_toArray]; rfl) ?_
  simp only [List.replicate_succ, List.replicate_zero, List.cons_append, List.nil_append, List.drop_succ_cons, List.drop_zero, List.take_succ_cons, List.take_zero]
  go_wp2_with fail
  intro a H
  replace hs := H.size.trans hs
  replace hd : a.defers = [] := H.defers
  replace e0 : a.tmps[0]? = some _ := H.keep e0 rfl
  replace e2 : a.tmps[2]? = some _ := H.keep e2 rfl
  replace e3 : a.tmps[3]? = some _ := H.keep e3 rfl
  replace e4 : a.tmps[4]? = some _ := H.keep e4 rfl
  replace e6 : a.tmps[6]? = some _ := H.keep e6 rfl
  replace e11 : a.tmps[11]? = some _ := H.keep e11 rfl
  replace e18 : a.tmps[18]? = some _ := H.keep e18 rfl
  replace e19 : a.tmps[19]? = some _ := H.keep e19 rfl
  replace e20 : a.tmps[20]? = some _ := H.keep e20 rfl
  replace e21 : a.tmps[21]? = some _ := H.keep e21 rfl
  replace e25 : a.tmps[25]? = some _ := H.keep e25 rfl
  replace e26 : a.tmps[26]? = some _ := H.keep e26 rfl
  replace e27 : a.tmps[27]? = some _ := H.keep e27 rfl
  replace e33 : a.tmps[33]? = some _ := H.keep e33 rfl
  replace e34 : a.tmps[34]? = some _ := H.keep e34 rfl
  replace e35 : a.tmps[35]? = some _ := H.keep e35 rfl
  have e36 : a.tmps[36]? = some _ := H.got rfl rfl
  clear H
  refine hKq5 _ _ ?_
  clear hKq5 Kq5
  refine wp_seq_k fun Kq6 hKq6 => ?_
  refine wp_seq_k fun Kq7 hKq7 => ?_
  have tp4 := HW4.out.1.tp
  rw [HTE.out] at tp4
  have t7 := tp4.cellOf (v := .int .i64 (j : Int)) 7 rfl
  have t4 := tp4.cellOf (v := .int .i64 e.vec.steps) 4 rfl
  have hj0 : (0 : Int) ≤ (j : Int) := by omega
  have hj1 : (j : Int) < (N : Int) := by omega
  refine sm_list [25] 497 3 hs hd (by kernel_rfl) (agC e25 agN) (by simp only [List.map_cons, List.map_nil, reOper, reOp, reO, reC, reK, Option.map_some, Option.map_none, fS_ite, ix_ite, Nat.reduceLeDiff, Nat.reduceEqDiff, if_true, if_false, ↓reduceIte, List.length_cons, List.length_nil, Nat.reduceAdd, Nat.reduceSub, List.map_toArray]; rfl) ?_
  simp only [List.replicate_succ, List.replicate_zero, List.cons_append, List.nil_append, List.drop_succ_cons, List.drop_zero, List.take_succ_cons, List.take_zero]
  go_wp2_with fail
  intro a H
  replace hs := H.size.trans hs
  replace hd : a.defers = [] := H.defers
  replace e0 : a.tmps[0]? = some _ := H.keep e0 rfl
  replace e2 : a.tmps[2]? = some _ := H.keep e2 rfl
  replace e3 : a.tmps[3]? = some _ := H.keep e3 rfl
  replace e4 : a.tmps[4]? = some _ := H.keep e4 rfl
  replace e6 : a.tmps[6]? = some _ := H.keep e6 rfl
  replace e11 : a.tmps[11]? = some _ := H.keep e11 rfl
  replace e18 : a.tmps[18]? = some _ := H.keep e18 rfl
  replace e19 : a.tmps[19]? = some _ := H.keep e19 rfl
  replace e20 : a.tmps[20]? = some _ := H.keep e20 rfl
  replace e21 : a.tmps[21]? = some _ := H.keep e21 rfl
  replace e25 : a.tmps[25]? = some _ := H.got rfl rfl
  replace e26 : a.tmps[26]? = some _ := H.keep e26 rfl
  replace e27 : a.tmps[27]? = some _ := H.keep e27 rfl
  replace e33 : a.tmps[33]? = some _ := H.keep e33 rfl
  replace e34 : a.tmps[34]? = some _ := H.keep e34 rfl
  replace e35 : a.tmps[35]? = some _ := H.keep e35 rfl
  replace e36 : a.tmps[36]? = some _ := H.keep e36 rfl
  have e499 : a.tmps[499]? = some _ := H.got rfl rfl
  clear H
  refine hKq7 _ _ ?_
  clear hKq7 Kq7
  refine wp_cond_true (slotE e499) ?_
  clear e499
  refine wp_seq_k fun Kq8 hKq8 => ?_
  obtain ⟨A5, c5, hq, hc5, hp5⟩ := HW4.out.1.ti.ks.pth j e HEJ.out
  have q10 := HW4.out.1.ti.ks.box.cellOf (v := .slice A5 e.path.length c5) (j * 12 + 10) (by rw [List.getElem?_toArray, kcells_at HEJ.out hq (by omega)]; rfl)
  have z3 := HW4.out.1.ti.own_.cellOf (v := .int .i64 own.id) 3 rfl
  have l25 := tp4.lt
  have lk := HW4.out.1.ti.ks.box.lt
  have l6 := HW4.out.1.ti.own_.lt
  have HR5 := Lib.hid hp5.reads
  clear hp5 hq hc5
  have hc31 : (0 + e.path.length) * 8 ≤ 140737488355328 := by omega
  have hc32 : (0 + e.path.length + 1) * 8 ≤ 140737488355328 := by omega
  suffices HK : ∀ (a' : Act) (w8 : World) (v8 : Value), a'.tmps.size = a.tmps.size → a'.defers = [] → a'.tmps[0]? = a.tmps[0]? → a'.tmps[2]? = a.tmps[2]? → a'.tmps[3]? = a.tmps[3]? → a'.tmps[4]? = a.tmps[4]? → a'.tmps[6]? = a.tmps[6]? → a'.tmps[11]? = a.tmps[11]? → a'.tmps[18]? = a.tmps[18]? → a'.tmps[19]? = a.tmps[19]? → a'.tmps[20]? = a.tmps[20]? → a'.tmps[21]? = a.tmps[21]? → a'.tmps[25]? = a.tmps[25]? → a'.tmps[26]? = a.tmps[26]? → a'.tmps[27]? = a.tmps[27]? → a'.tmps[33]? = a.tmps[33]? → a'.tmps[34]? = a.tmps[34]? → a'.tmps[36]? = a.tmps[36]? → a'.tmps[35]? = some (v8) → Below w4.heap.size w4 w8 → w8.ownsRow w4.heap.size 3 1 v8 (e.path ++ [own.id]).length (vs (e.path ++ [own.id])) → Kq8 a' w8 by
    refine sm_any [6, 18, 25, 35] 500 12 (by kernel_rfl) hs hd (by kernel_rfl) (agC e6 (agC e18 (agC e25 (agC e35 agN)))) (by simp only [List.map_cons, List.map_nil, reOper, reOp, reO, reC, reK, Option.map_some, Option.map_none, fS_ite, ix_ite, Nat.reduceLeDiff, Nat.reduceEqDiff, if_true, if_false, ↓reduceIte, List.length_cons, List.length_nil, Nat.reduceAdd, Nat.reduceSub, List.map_toArray]; rfl) (any_tree [] (.take 1 (.take 2 (.take 3 (.take 4 (.take 5 (.take 6 (.take 8 (.take 9 (.two 0 10 (.two 7 10 (.one 10 (.one 11 (.take 12 .nil))) (.one 7 (.one 11 (.take 12 .nil)))) (.one 0 (.one 7 (.one 11 (.take 12 .nil))))))))))))) (fun w' => Below w4.heap.size w4 w') (by kernel_rfl) (fun _ _ _ _ _ h => h) ((Below.refl _ _).drew) ?_)
    simp only [List.replicate_succ, List.replicate_zero, List.cons_append, List.nil_append, List.drop_succ_cons, List.drop_zero, List.take_succ_cons, List.take_zero]
    have Ld : Below w4.heap.size w4 w4.drew := (Below.refl _ _).drew
    obtain ⟨wd, hwd⟩ : ∃ wd, wd = w4.drew := ⟨_, rfl⟩
    rw [← hwd] at Ld ⊢
    clear hwd
    iterate 8 (with_reducible (refine tr_take (v := ?_) rfl ?_ ?_ ?_); rotate_left; (first | exact wanted_none rfl | exact wanted_on rfl rfl rfl); (rintro w' hw'; obtain ⟨hc, hf⟩ := bcell hw'; go_simp; with_reducible rfl); simp only [Act.put, List.setIfInBounds_toArray, List.set_cons_zero, List.set_cons_succ])
    have SA := Ld.alloc Ld.size (.cells #[] 3)
    have OA := ownsRow_new (e := 3) (size := 1) (n := 0) (cs := #[]) wd (base := wd.heap.size) (Nat.le_refl _) rfl (Nat.zero_le _)
    have RA := HR5.out.below SA
    refine tr_two ?_ ?_
    (with_reducible (refine tr_run (v := ?_) (w' := ?_) rfl ?_ ?_ ?_ ?_); rotate_left 2; (first | exact wanted_none rfl | exact wanted_on rfl rfl rfl); (go_simp; refine ⟨?_, ?_⟩ <;> with_reducible rfl); (exact SA); simp only [Act.put, List.setIfInBounds_toArray, List.set_cons_zero, List.set_cons_succ])
    refine tr_two ?_ ?_
    refine tr_pushR rfl rfl (.tmp 4) (.tmp 10) 32 rfl styN rfl RA (vs_one e.path) rfl OA (by omega) (by first | (simp; done) | (simp; omega)) ?_
    intro v7 w7 own7 gr7
    have hz7 : wd.heap.size ≤ w7.heap.size := by have h7 := gr7.size; simp at h7; omega
    have S7 : Below w4.heap.size w4 w7 := SA.trans ((below_of_grown gr7 OA (by first | (simp; done) | (simp; omega))).mono Ld.size)
    refine ⟨S7, ?_⟩
    simp only [Act.put, List.setIfInBounds_toArray, List.set_cons_zero, List.set_cons_succ]
    have S10 := S7.alloc S7.size (.cells #[.int .i64 own.id] 3)
    have O10 := own7.alloc (.cells #[.int .i64 own.id] 3)
    have B10 := Blk.new w7 3 #[.int .i64 own.id]
    (with_reducible (refine tr_run (v := ?_) (w' := ?_) rfl ?_ ?_ ?_ ?_); rotate_left 2; (first | exact wanted_none rfl | exact wanted_on rfl rfl rfl); (go_simp; refine ⟨?_, ?_⟩ <;> with_reducible rfl); (exact S10); simp only [Act.put, List.setIfInBounds_toArray, List.set_cons_zero, List.set_cons_succ])
    refine tr_pushes_at 1 rfl rfl (.tmp 11) (.tmp 14) 32 rfl styN (cs := #[.int .i64 own.id]) rfl (by intro u hu; simp at hu; rw [hu]; rfl) rfl O10 rfl B10 (by omega) (by first | omega | (simp; omega)) ?_
    intro v8 w8 own8 b11 gr11
    have b8 : Below w4.heap.size w4 w8 := S10.trans (b11.mono Ld.size)
    replace own8 : w8.ownsRow w4.heap.size 3 1 v8 (e.path ++ [own.id]).length (vs (e.path ++ [own.id])) := by
      have h := ownsRow_mono_base own8 Ld.size
      have e1 : vs (e.path ++ [own.id]) = ((#[] : Array Value).toList ++ vs e.path) ++ (#[.int .i64 own.id] : Array Value).toList := by simp [vs]
      have e2 : (e.path ++ [own.id]).length = 0 + e.path.length + 1 := by simp
      rw [e1, e2]; exact h
    refine ⟨b8, ?_⟩
    simp only [Act.put, List.setIfInBounds_toArray, List.set_cons_zero, List.set_cons_succ]
    (with_reducible (refine tr_take (v := ?_) rfl ?_ ?_ ?_); rotate_left; (first | exact wanted_none rfl | exact wanted_on rfl rfl rfl); (rintro w' hw'; obtain ⟨hc, hf⟩ := bcell hw'; go_simp; with_reducible rfl); simp only [Act.put, List.setIfInBounds_toArray, List.set_cons_zero, List.set_cons_succ])
    refine tr_nil ?_
    rotate_left
    have SB := SA.alloc SA.size (.cells #[.int .i64 own.id] 3)
    have OB := OA.alloc (.cells #[.int .i64 own.id] 3)
    have RB := HR5.out.below SB
    have B10 : Blk ((wd.alloc (.cells #[] 3)).alloc (.cells #[.int .i64 own.id] 3)) (wd.heap.size + 1) 3 #[.int .i64 own.id] := Blk.at_new _ _ _ (by simp)
    (with_reducible (refine tr_run (v := ?_) (w' := ?_) rfl ?_ ?_ ?_ ?_); rotate_left 2; (first | exact wanted_none rfl | exact wanted_on rfl rfl rfl); (go_simp; refine ⟨?_, ?_⟩ <;> with_reducible rfl); (exact SB); simp only [Act.put, List.setIfInBounds_toArray, List.set_cons_zero, List.set_cons_succ])
    refine tr_pushR rfl rfl (.tmp 4) (.tmp 10) 32 rfl styN rfl RB (vs_one e.path) rfl OB (by omega) (by first | (simp; done) | (simp; omega)) ?_
    intro v7 w7 own7 gr7
    have hz7 : wd.heap.size ≤ w7.heap.size := by have h7 := gr7.size; simp at h7; omega
    have S7 : Below w4.heap.size w4 w7 := SB.trans ((below_of_grown gr7 OB (by first | (simp; done) | (simp; omega))).mono Ld.size)
    refine ⟨S7, ?_⟩
    simp only [Act.put, List.setIfInBounds_toArray, List.set_cons_zero, List.set_cons_succ]
    have gr7b : World.grownBy _ w7 (some wd.heap.size) := gr7
    have B11 := B10.grown gr7b (by simp)
    refine tr_pushes_at 1 rfl rfl (.tmp 11) (.tmp 14) 32 rfl styN (cs := #[.int .i64 own.id]) rfl (by intro u hu; simp at hu; rw [hu]; rfl) rfl own7 rfl B11 (by omega) (by first | omega | (simp; omega)) ?_
    intro v8 w8 own8 b11 gr11
    have b8 : Below w4.heap.size w4 w8 := S7.trans (b11.mono Ld.size)
    replace own8 : w8.ownsRow w4.heap.size 3 1 v8 (e.path ++ [own.id]).length (vs (e.path ++ [own.id])) := by
      have h := ownsRow_mono_base own8 Ld.size
      have e1 : vs (e.path ++ [own.id]) = ((#[] : Array Value).toList ++ vs e.path) ++ (#[.int .i64 own.id] : Array Value).toList := by simp [vs]
      have e2 : (e.path ++ [own.id]).length = 0 + e.path.length + 1 := by simp
      rw [e1, e2]; exact h
    refine ⟨b8, ?_⟩
    simp only [Act.put, List.setIfInBounds_toArray, List.set_cons_zero, List.set_cons_succ]
    (with_reducible (refine tr_take (v := ?_) rfl ?_ ?_ ?_); rotate_left; (first | exact wanted_none rfl | exact wanted_on rfl rfl rfl); (rintro w' hw'; obtain ⟨hc, hf⟩ := bcell hw'; go_simp; with_reducible rfl); simp only [Act.put, List.setIfInBounds_toArray, List.set_cons_zero, List.set_cons_succ])
    refine tr_nil ?_
    rotate_left
    have SC := Ld.alloc Ld.size (.cells #[.int .i64 own.id] 3)
    have B9 := Blk.new wd 3 #[.int .i64 own.id]
    (with_reducible (refine tr_run (v := ?_) (w' := ?_) rfl ?_ ?_ ?_ ?_); rotate_left 2; (first | exact wanted_none rfl | exact wanted_on rfl rfl rfl); (go_simp; refine ⟨?_, ?_⟩ <;> with_reducible rfl); (exact SC); simp only [Act.put, List.setIfInBounds_toArray, List.set_cons_zero, List.set_cons_succ])
    have SB := SC.alloc SC.size (.cells #[] 3)
    have OB : ((wd.alloc (.cells #[.int .i64 own.id] 3)).alloc (.cells #[] 3)).ownsRow wd.heap.size 3 1 (.slice (some ⟨wd.heap.size + 1, 0, none⟩) 0 0) 0 [] := by
      have h := ownsRow_new (e := 3) (size := 1) (n := 0) (cs := #[]) (wd.alloc (.cells #[.int .i64 own.id] 3)) (base := wd.heap.size) (by simp) rfl (Nat.zero_le _)
      simpa using h
    have B10 := B9.alloc (.cells #[] 3)
    have RB := HR5.out.below SB
    (with_reducible (refine tr_run (v := ?_) (w' := ?_) rfl ?_ ?_ ?_ ?_); rotate_left 2; (first | exact wanted_none rfl | exact wanted_on rfl rfl rfl); (go_simp; refine ⟨?_, ?_⟩ <;> with_reducible rfl); (exact SB); simp only [Act.put, List.setIfInBounds_toArray, List.set_cons_zero, List.set_cons_succ])
    refine tr_pushR rfl rfl (.tmp 4) (.tmp 10) 32 rfl styN rfl RB (vs_one e.path) rfl OB (by omega) (by first | (simp; done) | (simp; omega)) ?_
    intro v7 w7 own7 gr7
    have hz7 : wd.heap.size ≤ w7.heap.size := by have h7 := gr7.size; simp at h7; omega
    have S7 : Below w4.heap.size w4 w7 := SB.trans ((below_of_grown gr7 OB (by first | (simp; done) | (simp; omega))).mono Ld.size)
    refine ⟨S7, ?_⟩
    simp only [Act.put, List.setIfInBounds_toArray, List.set_cons_zero, List.set_cons_succ]
    have gr7b : World.grownBy _ w7 (some (wd.heap.size + 1)) := gr7
    have B11 := B10.grown gr7b (by simp)
    refine tr_pushes_at 1 rfl rfl (.tmp 11) (.tmp 14) 32 rfl styN (cs := #[.int .i64 own.id]) rfl (by intro u hu; simp at hu; rw [hu]; rfl) rfl own7 rfl B11 (by omega) (by first | omega | (simp; omega)) ?_
    intro v8 w8 own8 b11 gr11
    have b8 : Below w4.heap.size w4 w8 := S7.trans (b11.mono Ld.size)
    replace own8 : w8.ownsRow w4.heap.size 3 1 v8 (e.path ++ [own.id]).length (vs (e.path ++ [own.id])) := by
      have h := ownsRow_mono_base own8 Ld.size
      have e1 : vs (e.path ++ [own.id]) = ((#[] : Array Value).toList ++ vs e.path) ++ (#[.int .i64 own.id] : Array Value).toList := by simp [vs]
      have e2 : (e.path ++ [own.id]).length = 0 + e.path.length + 1 := by simp
      rw [e1, e2]; exact h
    refine ⟨b8, ?_⟩
    simp only [Act.put, List.setIfInBounds_toArray, List.set_cons_zero, List.set_cons_succ]
    (with_reducible (refine tr_take (v := ?_) rfl ?_ ?_ ?_); rotate_left; (first | exact wanted_none rfl | exact wanted_on rfl rfl rfl); (rintro w' hw'; obtain ⟨hc, hf⟩ := bcell hw'; go_simp; with_reducible rfl); simp only [Act.put, List.setIfInBounds_toArray, List.set_cons_zero, List.set_cons_succ])
    refine tr_nil ?_
    all_goals
      intro a' H
      refine HK a' _ v8 H.size H.defers (H.out 0 rfl) (H.out 2 rfl) (H.out 3 rfl) (H.out 4 rfl) ((H.got rfl rfl).trans e6.symm) (H.out 11 rfl) ((H.got rfl rfl).trans e18.symm) (H.out 19 rfl) (H.out 20 rfl) (H.out 21 rfl) ((H.got rfl rfl).trans e25.symm) (H.out 26 rfl) (H.out 27 rfl) (H.out 33 rfl) (H.out 34 rfl) (H.out 36 rfl) ?_ ?_ ?_
      · exact H.got rfl rfl
      · exact b8
      · exact own8
  intro a' w8 v8 g_s g_d g0 g2 g3 g4 g6 g11 g18 g19 g20 g21 g25 g26 g27 g33 g34 g36 f35 b8 own8
  replace hs := g_s.trans hs
  replace hd := g_d
  replace e0 := g0.trans e0
  replace e2 := g2.trans e2
  replace e3 := g3.trans e3
  replace e4 := g4.trans e4
  replace e6 := g6.trans e6
  replace e11 := g11.trans e11
  replace e18 := g18.trans e18
  replace e19 := g19.trans e19
  replace e20 := g20.trans e20
  replace e21 := g21.trans e21
  replace e25 := g25.trans e25
  replace e26 := g26.trans e26
  replace e27 := g27.trans e27
  replace e33 := g33.trans e33
  replace e34 := g34.trans e34
  replace e36 := g36.trans e36
  clear e35
  clear g_s g_d g0 g2 g3 g4 g6 g11 g18 g19 g20 g21 g25 g26 g27 g33 g34 g36
  have e35 := f35
  clear f35
  clear a
  obtain ⟨a, rfl⟩ : ∃ a, a = a' := ⟨_, rfl⟩
  refine hKq8 _ _ ?_
  clear hKq8 Kq8
  have R8 := HW4.out.1.kept b8
  have B8 := HW4.out.2.1.kept b8
  have P8 := HW4.out.2.2.1.fr (S' := []) (Fr.be b8) (by simp)
  have tp8 := tp4.kept b8
  have t4 := tp8.cellOf (v := .int .i64 e.vec.steps) 4 rfl
  have HF := Lib.hid (And.intro R8 (And.intro B8 (And.intro P8 (And.intro tp8 own8))))
  clear R8 B8 P8 tp8 own8 tp4 t7 q10 z3 l25 lk l6 HR5 HW4 b8 hc31 hc32
  refine sm_list [25, 36] 512 3 hs hd (by kernel_rfl) (agC e25 (agC e36 agN)) (by simp only [List.map_cons, List.map_nil, reOper, reOp, reO, reC, reK, Option.map_some, Option.map_none, fS_ite, ix_ite, Nat.reduceLeDiff, Nat.reduceEqDiff, if_true, if_false, ↓reduceIte, List.length_cons, List.length_nil, Nat.reduceAdd, Nat.reduceSub, List.map_toArray]; rfl) ?_
  simp only [List.replicate_succ, List.replicate_zero, List.cons_append, List.nil_append, List.drop_succ_cons, List.drop_zero, List.take_succ_cons, List.take_zero]
  go_wp2_with fail
  intro a H
  replace hs := H.size.trans hs
  replace hd : a.defers = [] := H.defers
  replace e0 : a.tmps[0]? = some _ := H.keep e0 rfl
  replace e2 : a.tmps[2]? = some _ := H.keep e2 rfl
  replace e3 : a.tmps[3]? = some _ := H.keep e3 rfl
  replace e4 : a.tmps[4]? = some _ := H.keep e4 rfl
  replace e6 : a.tmps[6]? = some _ := H.keep e6 rfl
  replace e11 : a.tmps[11]? = some _ := H.keep e11 rfl
  replace e18 : a.tmps[18]? = some _ := H.keep e18 rfl
  replace e19 : a.tmps[19]? = some _ := H.keep e19 rfl
  replace e20 : a.tmps[20]? = some _ := H.keep e20 rfl
  replace e21 : a.tmps[21]? = some _ := H.keep e21 rfl
  replace e25 : a.tmps[25]? = some _ := H.got rfl rfl
  replace e26 : a.tmps[26]? = some _ := H.keep e26 rfl
  replace e27 : a.tmps[27]? = some _ := H.keep e27 rfl
  replace e33 : a.tmps[33]? = some _ := H.keep e33 rfl
  replace e34 : a.tmps[34]? = some _ := H.keep e34 rfl
  replace e35 : a.tmps[35]? = some _ := H.keep e35 rfl
  replace e36 : a.tmps[36]? = some _ := H.got rfl rfl
  clear H
  refine hKq6 _ _ ?_
  clear hKq6 Kq6
  exact tr_cmp dom most own b g6 gm gk N A n c i g21 g25 g33 w4.heap.size k c2 s { e.vec with at_ := (j : Int) } (e.vec.steps + 1) (e.path ++ [own.id]) A2 v8 t ps qs a w0 w8 Q hs hd e0 e2 e3 e4 e6 e11 e18 e19 e20 e21 e25 e33 e34 e35 e36 HF.out.1.ti HOK.out HF.out.1.st HF.out.2.2.2.1 HF.out.2.1 HF.out.2.2.1 HF.out.2.2.2.2 HK.out hP32 HEND.out
end Go.Proofs.Ytcdgofndfajekaa
