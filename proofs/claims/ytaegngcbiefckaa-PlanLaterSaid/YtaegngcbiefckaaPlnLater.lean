/-
  With all flows as much later: the walk.
-/
import Derived.Test.YtaegngcbiefckaaPlnLs
namespace Go.Proofs.Ytaegngcbiefckaa
set_option linter.unusedSimpArgs false
set_option linter.unusedVariables false
open Go.RowKit Go.WideShapes Go.ChangeShapes
attribute [local go_sem ↓] Go.wp_at_zero Go.wp_at_succ

def shS (x : Int) (f : Fw) : Fw := { f with start := f.start + x }
def shX (x : Int) (p : Fx) : Fx := (shS x p.1, p.2)
def shF (x : Int) (j : Nat) (L : List Fx) : List Fx := (L.take j).map (shX x) ++ L.drop j
theorem shF_len (x : Int) (j : Nat) (L : List Fx) : (shF x j L).length = L.length := by
  simp [shF]; omega
theorem shF_get {x : Int} {j : Nat} {L : List Fx} {p : Fx} (h : L[j]? = some p) : (shF x j L)[j]? = some p := by
  have hj := (List.getElem?_eq_some_iff.1 h).1
  have e : ((L.take j).map (shX x)).length = j := by rw [List.length_map, List.length_take]; omega
  rw [shF, List.getElem?_append_right (by omega), e, Nat.sub_self, List.getElem?_drop]
  exact h
theorem shF_set {x : Int} {j : Nat} {L : List Fx} {p : Fx} (h : L[j]? = some p) : (shF x j L).set j (shX x p) = shF x (j + 1) L := by
  have hj := (List.getElem?_eq_some_iff.1 h).1
  have e : ((L.take j).map (shX x)).length = j := by rw [List.length_map, List.length_take]; omega
  rw [shF, List.set_append, if_neg (by omega), e, Nat.sub_self, drop_get h, List.set_cons_zero, shF, List.take_add_one, h, List.map_append, List.append_assoc]
  rfl
theorem shF_all (x : Int) (L : List Fx) : shF x L.length L = L.map (shX x) := by
  simp [shF]
theorem good_of {C : Cf} {S : List Sp} {W : List (Int × Int)} (h : makeV C = .ok (S, W)) : checkV C = 0 ∧ ∀ f ∈ C.flows, ¬ badFlow C f := by
  obtain ⟨h0, _, rs, h1, _, _⟩ := makeV_ok.1 h
  exact ⟨h0, h1.good⟩
theorem ways_sh {w : World} {B : Nat} {x : Int} {L : List Fx} (h : ∀ p ∈ L, WayR w B p) : ∀ p ∈ L.map (shX x), WayR w B p := by
  intro p hp
  obtain ⟨q, hq, rfl⟩ := List.mem_map.1 hp
  exact h q hq
set_option maxRecDepth 100000 in
set_option maxHeartbeats 4000000 in
theorem later_any (C : Cf) (Y : Lay) (by_ ev : Int) (w : World) (hC : CfAt w w.heap.size C Y) (hFit : Fits C Y) : Calls Try.prog 7 #[.agg (cfc C Y), .int .i64 by_, .int .i64 ev] w fun e w' => e = .returned (.bool true) ∧ Below w.heap.size w w' := by
  have HFIT := Lib.hid hFit
  clear hFit
  refine calls_sm (N := 109) Try.func7 rfl (by kernel_rfl) ?_
  intro a hs hd ha
  have e0 : a.tmps[0]? = some (.agg (cfc C Y)) := ha 0 _ rfl
  have e1 : a.tmps[1]? = some (.int .i64 by_) := ha 1 _ rfl
  have e2 : a.tmps[2]? = some (.int .i64 ev) := ha 2 _ rfl
  clear ha
  conv => arg 2; whnf
  refine wp_seq_k fun Kq1 hKq1 => ?_
  refine sm_list [0, 3] 6 1 hs hd (by kernel_rfl) (agC e0 (agU agN)) (by simp only [List.append_eq, List.cons_append, List.nil_append, List.map_cons, List.map_nil, reOper, reOp, reO, reC, reK, Option.map_some, Option.map_none, fS_ite, ix_ite, Nat.reduceLeDiff, Nat.reduceEqDiff, if_true, if_false, ↓reduceIte, List.length_cons, List.length_nil, Nat.reduceAdd, Nat.reduceSub, List.map_toArray]; rfl) ?_
  simp only [List.replicate_succ, List.replicate_zero, List.cons_append, List.nil_append, List.drop_succ_cons, List.drop_zero, List.take_succ_cons, List.take_zero]
  go_wp2_with fail
  intro a H
  replace hs := H.size.trans hs
  replace hd : a.defers = [] := H.defers
  replace e1 : a.tmps[1]? = some _ := H.keep e1 rfl
  replace e2 : a.tmps[2]? = some _ := H.keep e2 rfl
  clear e0
  have e3 : a.tmps[3]? = some _ := H.got rfl rfl
  clear H
  refine hKq1 _ _ ?_
  clear hKq1 Kq1
  refine wp_seq_k fun Kq2 hKq2 => ?_
  refine wp_seq_k fun Kq3 hKq3 => ?_
  have BC := Blk.new w 26 (cfc C Y)
  have L0 : Below w.heap.size w (w.alloc (.cells (cfc C Y) 26)) := (Below.refl _ _).alloc (Nat.le_refl _) _
  have hz1 : w.heap.size < (w.alloc (.cells (cfc C Y) 26)).heap.size := by simp
  replace hC := (hC.below L0)
  generalize w.alloc (.cells (cfc C Y) 26) = w1 at *
  obtain ⟨g, hg⟩ : ∃ g, g = w.heap.size := ⟨_, rfl⟩
  rw [← hg] at BC hz1 hC e3 L0
  have HG := Lib.hid hg
  clear hg
  have HH := Lib.hid (head_any w1)
  have hgz1 : g < w1.heap.size := BC.lt
  refine sm_list [] 15 2 hs hd (by kernel_rfl) agN (by simp only [List.append_eq, List.cons_append, List.nil_append, List.map_cons, List.map_nil, reOper, reOp, reO, reC, reK, Option.map_some, Option.map_none, fS_ite, ix_ite, Nat.reduceLeDiff, Nat.reduceEqDiff, if_true, if_false, ↓reduceIte, List.length_cons, List.length_nil, Nat.reduceAdd, Nat.reduceSub, List.map_toArray]; rfl) ?_
  simp only [List.replicate_succ, List.replicate_zero, List.cons_append, List.nil_append, List.drop_succ_cons, List.drop_zero, List.take_succ_cons, List.take_zero]
  go_wp2_with fail
  refine HH.out.mono ?_
  rintro e w2 ⟨rfl, hb2⟩
  go_wp2_with fail
  intro a H
  replace hs := H.size.trans hs
  replace hd : a.defers = [] := H.defers
  replace e1 : a.tmps[1]? = some _ := H.keep e1 rfl
  replace e2 : a.tmps[2]? = some _ := H.keep e2 rfl
  replace e3 : a.tmps[3]? = some _ := H.keep e3 rfl
  have e16 : a.tmps[16]? = some _ := H.got rfl rfl
  clear H
  refine hKq3 _ _ ?_
  clear hKq3 Kq3
  refine wp_cond_false (slotE e16) ?_
  clear e16
  refine wp_skip ?_
  refine hKq2 _ _ ?_
  clear hKq2 Kq2
  refine wp_seq_k fun Kq4 hKq4 => ?_
  refine wp_seq_k fun Kq5 hKq5 => ?_
  clear HH
  have L2 : Below g w w2 := L0.trans (hb2.mono (Nat.le_of_lt hgz1))
  have BC2 := BC.kept hb2
  have hC2 := hC.below (hb2.mono (Nat.le_of_lt hgz1))
  have hgz2 : g < w2.heap.size := BC2.lt
  clear BC hC L0 hb2
  have HBG := Lib.hid (big_any C Y w2 (hC2.more (Nat.le_of_lt hgz2)))
  obtain ⟨B, hB⟩ : ∃ B, B = bigV C := ⟨_, rfl⟩
  rw [← hB] at HBG
  have HB := Lib.hid hB
  clear hB
  obtain ⟨R, hR⟩ : ∃ R, R = B := ⟨_, rfl⟩
  have HR := Lib.hid hR
  clear hR
  suffices HK : ∀ (a' : Act) (w3 : World), a'.tmps.size = a.tmps.size → a'.defers = [] → a'.tmps[1]? = a.tmps[1]? → a'.tmps[2]? = a.tmps[2]? → a'.tmps[3]? = a.tmps[3]? → a'.tmps[18]? = some (.bool R) → Below w2.heap.size w2 w3 → Kq5 a' w3 by
    refine sm_list [3] 17 2 hs hd (by kernel_rfl) (agC e3 agN) (by simp only [List.append_eq, List.cons_append, List.nil_append, List.map_cons, List.map_nil, reOper, reOp, reO, reC, reK, Option.map_some, Option.map_none, fS_ite, ix_ite, Nat.reduceLeDiff, Nat.reduceEqDiff, if_true, if_false, ↓reduceIte, List.length_cons, List.length_nil, Nat.reduceAdd, Nat.reduceSub, List.map_toArray]; rfl) ?_
    simp only [List.replicate_succ, List.replicate_zero, List.cons_append, List.nil_append, List.drop_succ_cons, List.drop_zero, List.take_succ_cons, List.take_zero]
    go_wp2_with (first | (refine wpList_load_any_d rfl 26 (.tmp 0) rfl ⟨g, 0, none⟩ rfl (cfc C Y) _ (blk_cells BC2) Try.underlying26 rfl (by kernel_rfl) ?_) | fail)
    refine HBG.out.mono ?_
    rintro e w3 ⟨rfl, hb3⟩
    go_wp2_with fail
    all_goals
      intro a' H
      refine HK a' _ H.size H.defers (H.out 1 rfl) (H.out 2 rfl) ((H.got rfl rfl).trans e3.symm) ?_ ?_
      · (refine (H.got (t := 18) rfl rfl).trans (congrArg some ?_); rw [HR.out])
      · exact hb3
  intro a' w3 g_s g_d g1 g2 g3 f18 hb3
  replace hs := g_s.trans hs
  replace hd := g_d
  replace e1 := g1.trans e1
  replace e2 := g2.trans e2
  replace e3 := g3.trans e3
  clear g_s g_d g1 g2 g3
  have e18 := f18
  clear f18
  clear a
  obtain ⟨a, rfl⟩ : ∃ a, a = a' := ⟨_, rfl⟩
  refine hKq5 _ _ ?_
  clear hKq5 Kq5
  have L3 : Below g w w3 := L2.trans (hb3.mono (Nat.le_of_lt hgz2))
  have BC3 := BC2.kept hb3
  have hC3 := hC2.below (hb3.mono (Nat.le_of_lt hgz2))
  have hgz3 : g < w3.heap.size := BC3.lt
  clear BC2 hC2 L2 hb3 HBG
  rcases (by cases R <;> simp : R = true ∨ R = false) with rfl | rfl
  ·
    refine wp_cond_true (slotE e18) ?_
    clear e18
    refine wp_seq_k fun Kq6 hKq6 => ?_
    refine sm_list [] 6 1 hs hd (by kernel_rfl) agN (by simp only [List.append_eq, List.cons_append, List.nil_append, List.map_cons, List.map_nil, reOper, reOp, reO, reC, reK, Option.map_some, Option.map_none, fS_ite, ix_ite, Nat.reduceLeDiff, Nat.reduceEqDiff, if_true, if_false, ↓reduceIte, List.length_cons, List.length_nil, Nat.reduceAdd, Nat.reduceSub, List.map_toArray]; rfl) ?_
    simp only [List.replicate_succ, List.replicate_zero, List.cons_append, List.nil_append, List.drop_succ_cons, List.drop_zero, List.take_succ_cons, List.take_zero]
    go_wp2_with fail
    intro a H
    replace hs := H.size.trans hs
    replace hd : a.defers = [] := H.defers
    replace e1 : a.tmps[1]? = some _ := H.keep e1 rfl
    replace e2 : a.tmps[2]? = some _ := H.keep e2 rfl
    replace e3 : a.tmps[3]? = some _ := H.keep e3 rfl
    have e6 : a.tmps[6]? = some _ := H.got rfl rfl
    clear H
    refine hKq6 _ _ ?_
    clear hKq6 Kq6
    refine wp_ret ?_
    refine exit_then rfl ?_
    exact sm_ret rfl hd e6 ⟨rfl, by rw [← HG.out]; exact L3⟩
  · have hbf1 : B = false := HR.out.symm
    have hbig : bigV C = false := HB.out.symm.trans hbf1
    have HBIG := Lib.hid hbig
    have hfl20 : C.flows.length ≤ 20 := by
      have h := hbig
      unfold bigV at h
      simp only [Bool.or_eq_false_iff, decide_eq_false_iff_not] at h
      omega
    clear hbf1 hbig HR HB B
    refine wp_cond_false (slotE e18) ?_
    clear e18
    refine wp_skip ?_
    refine hKq4 _ _ ?_
    clear hKq4 Kq4
    refine wp_seq_k fun Kq6 hKq6 => ?_
    have HM := Lib.hid (make_any C Y w3 (hC3.more (Nat.le_of_lt hgz3)))
    refine sm_list [3, 7, 8] 19 5 hs hd (by kernel_rfl) (agC e3 (agU (agU agN))) (by simp only [List.append_eq, List.cons_append, List.nil_append, List.map_cons, List.map_nil, reOper, reOp, reO, reC, reK, Option.map_some, Option.map_none, fS_ite, ix_ite, Nat.reduceLeDiff, Nat.reduceEqDiff, if_true, if_false, ↓reduceIte, List.length_cons, List.length_nil, Nat.reduceAdd, Nat.reduceSub, List.map_toArray]; rfl) ?_
    simp only [List.replicate_succ, List.replicate_zero, List.cons_append, List.nil_append, List.drop_succ_cons, List.drop_zero, List.take_succ_cons, List.take_zero]
    go_wp2_with (first | (refine wpList_load_any_d rfl 26 (.tmp 0) rfl ⟨g, 0, none⟩ rfl (cfc C Y) _ (blk_cells BC3) Try.underlying26 rfl (by kernel_rfl) ?_) | fail)
    refine HM.out.mono ?_
    intro e wx hmade
    obtain ⟨ka, offa, wva, mva, rfl, hbx, h1c, hpa⟩ := hmade.two
    have HPa := Lib.hid hpa
    have HBX := Lib.hid hbx
    clear hmade hpa hbx
    go_wp2_with (first | (refine wpList_store_new rfl 32 (.tmp 1) (.tmp 6) rfl rfl rfl rfl rfl (by kernel_rfl) h1c ?_) | fail)
    intro a H
    replace hs := H.size.trans hs
    replace hd : a.defers = [] := H.defers
    replace e1 : a.tmps[1]? = some _ := H.keep e1 rfl
    replace e2 : a.tmps[2]? = some _ := H.keep e2 rfl
    replace e3 : a.tmps[3]? = some _ := H.got rfl rfl
    have e7 : a.tmps[7]? = some _ := H.got rfl rfl
    have e8 : a.tmps[8]? = some _ := H.got rfl rfl
    clear H
    refine hKq6 _ _ ?_
    clear hKq6 Kq6
    refine wp_seq_k fun Kq7 hKq7 => ?_
    refine wp_seq_k fun Kq8 hKq8 => ?_
    have Bpa := Blk.new wx 32 #[.int .i64 offa, wva, mva]
    have hba : Below w3.heap.size w3 (wx.alloc (.cells #[.int .i64 offa, wva, mva] 32)) := HBX.out.alloc HBX.out.size _
    have Lxa : Below wx.heap.size wx (wx.alloc (.cells #[.int .i64 offa, wva, mva] 32)) := (Below.refl _ _).alloc (Nat.le_refl _) _
    have hzxa : w3.heap.size ≤ wx.heap.size := HBX.out.size
    obtain ⟨g5, hgg5⟩ : ∃ q, q = wx.heap.size := ⟨_, rfl⟩
    rw [← hgg5] at Bpa e7
    have hzg5 : w3.heap.size ≤ g5 := by rw [hgg5]; exact HBX.out.size
    generalize (wx.alloc (.cells #[.int .i64 offa, wva, mva] 32)) = w4 at *
    obtain ⟨wXa, hwXa⟩ : ∃ q, q = wx := ⟨_, rfl⟩
    rw [← hwXa] at HPa Lxa
    clear hwXa hgg5 HM HBX h1c hzxa
    have L4 : Below g w w4 := L3.trans (hba.mono (Nat.le_of_lt hgz3))
    have BC4 := BC3.kept hba
    have hC4 := hC3.below (hba.mono (Nat.le_of_lt hgz3))
    have hgz4 : g < w4.heap.size := BC4.lt
    rcases HPa.out with ⟨hk, hm, _⟩ | ⟨hk, rfl, Sa, Wa, B1a, gGa, mga, fga, hm, rfl, hGa, GTa, OWa, hgda⟩
    · have dn : (ka != 0) = true := bne_iff_ne.2 hk
      refine sm_list [8] 24 2 hs hd (by kernel_rfl) (agC e8 agN) (by simp only [List.append_eq, List.cons_append, List.nil_append, List.map_cons, List.map_nil, reOper, reOp, reO, reC, reK, Option.map_some, Option.map_none, fS_ite, ix_ite, Nat.reduceLeDiff, Nat.reduceEqDiff, if_true, if_false, ↓reduceIte, List.length_cons, List.length_nil, Nat.reduceAdd, Nat.reduceSub, List.map_toArray]; rfl) ?_
      simp only [List.replicate_succ, List.replicate_zero, List.cons_append, List.nil_append, List.drop_succ_cons, List.drop_zero, List.take_succ_cons, List.take_zero]
      go_wp2_with fail
      intro a H
      replace hs := H.size.trans hs
      replace hd : a.defers = [] := H.defers
      replace e1 : a.tmps[1]? = some _ := H.keep e1 rfl
      replace e2 : a.tmps[2]? = some _ := H.keep e2 rfl
      replace e3 : a.tmps[3]? = some _ := H.keep e3 rfl
      replace e7 : a.tmps[7]? = some _ := H.keep e7 rfl
      replace e8 : a.tmps[8]? = some _ := H.got rfl rfl
      have e25 : a.tmps[25]? = some _ := H.got rfl rfl
      clear H
      refine hKq8 _ _ ?_
      clear hKq8 Kq8
      refine wp_cond_true (slotE e25) ?_
      clear e25
      refine wp_seq_k fun Kq9 hKq9 => ?_
      refine sm_list [] 6 1 hs hd (by kernel_rfl) agN (by simp only [List.append_eq, List.cons_append, List.nil_append, List.map_cons, List.map_nil, reOper, reOp, reO, reC, reK, Option.map_some, Option.map_none, fS_ite, ix_ite, Nat.reduceLeDiff, Nat.reduceEqDiff, if_true, if_false, ↓reduceIte, List.length_cons, List.length_nil, Nat.reduceAdd, Nat.reduceSub, List.map_toArray]; rfl) ?_
      simp only [List.replicate_succ, List.replicate_zero, List.cons_append, List.nil_append, List.drop_succ_cons, List.drop_zero, List.take_succ_cons, List.take_zero]
      go_wp2_with fail
      intro a H
      replace hs := H.size.trans hs
      replace hd : a.defers = [] := H.defers
      replace e1 : a.tmps[1]? = some _ := H.keep e1 rfl
      replace e2 : a.tmps[2]? = some _ := H.keep e2 rfl
      replace e3 : a.tmps[3]? = some _ := H.keep e3 rfl
      replace e7 : a.tmps[7]? = some _ := H.keep e7 rfl
      replace e8 : a.tmps[8]? = some _ := H.keep e8 rfl
      have e6 : a.tmps[6]? = some _ := H.got rfl rfl
      clear H
      refine hKq9 _ _ ?_
      clear hKq9 Kq9
      refine wp_ret ?_
      refine exit_then rfl ?_
      exact sm_ret rfl hd e6 ⟨rfl, by rw [← HG.out]; exact L4⟩
    · subst hk
      have HMKa := Lib.hid hm
      clear hm HPa
      refine sm_list [8] 24 2 hs hd (by kernel_rfl) (agC e8 agN) (by simp only [List.append_eq, List.cons_append, List.nil_append, List.map_cons, List.map_nil, reOper, reOp, reO, reC, reK, Option.map_some, Option.map_none, fS_ite, ix_ite, Nat.reduceLeDiff, Nat.reduceEqDiff, if_true, if_false, ↓reduceIte, List.length_cons, List.length_nil, Nat.reduceAdd, Nat.reduceSub, List.map_toArray]; rfl) ?_
      simp only [List.replicate_succ, List.replicate_zero, List.cons_append, List.nil_append, List.drop_succ_cons, List.drop_zero, List.take_succ_cons, List.take_zero]
      go_wp2_with fail
      intro a H
      replace hs := H.size.trans hs
      replace hd : a.defers = [] := H.defers
      replace e1 : a.tmps[1]? = some _ := H.keep e1 rfl
      replace e2 : a.tmps[2]? = some _ := H.keep e2 rfl
      replace e3 : a.tmps[3]? = some _ := H.keep e3 rfl
      replace e7 : a.tmps[7]? = some _ := H.keep e7 rfl
      replace e8 : a.tmps[8]? = some _ := H.got rfl rfl
      have e25 : a.tmps[25]? = some _ := H.got rfl rfl
      clear H
      refine hKq8 _ _ ?_
      clear hKq8 Kq8
      refine wp_cond_false (slotE e25) ?_
      clear e25
      refine wp_skip ?_
      refine hKq7 _ _ ?_
      clear hKq7 Kq7
      refine wp_seq_k fun Kq9 hKq9 => ?_
      have OW4 := ownsRow_keep OWa Lxa
      clear BC3 hC3 L3 hba GTa Lxa hgda
      have hmx5 : g5 < w4.heap.size := Bpa.lt
      obtain ⟨x, hx, hx0, hx1⟩ := and_mask by_ 24 16777215 rfl (by omega)
      refine sm_list [1] 26 2 hs hd (by kernel_rfl) (agC e1 agN) (by simp only [List.append_eq, List.cons_append, List.nil_append, List.map_cons, List.map_nil, reOper, reOp, reO, reC, reK, Option.map_some, Option.map_none, fS_ite, ix_ite, Nat.reduceLeDiff, Nat.reduceEqDiff, if_true, if_false, ↓reduceIte, List.length_cons, List.length_nil, Nat.reduceAdd, Nat.reduceSub, List.map_toArray]; rfl) ?_
      simp only [List.replicate_succ, List.replicate_zero, List.cons_append, List.nil_append, List.drop_succ_cons, List.drop_zero, List.take_succ_cons, List.take_zero]
      go_wp2_with fail
      intro a H
      replace hs := H.size.trans hs
      replace hd : a.defers = [] := H.defers
      replace e2 : a.tmps[2]? = some _ := H.keep e2 rfl
      replace e3 : a.tmps[3]? = some _ := H.keep e3 rfl
      replace e7 : a.tmps[7]? = some _ := H.keep e7 rfl
      replace e8 : a.tmps[8]? = some _ := H.keep e8 rfl
      replace e1 : a.tmps[1]? = some _ := H.got rfl rfl
      clear H
      refine hKq9 _ _ ?_
      clear hKq9 Kq9
      refine wp_seq_k fun Kq10 hKq10 => ?_
      clear hx
      refine sm_list [3, 9] 28 1 hs hd (by kernel_rfl) (agC e3 (agU agN)) (by simp only [List.append_eq, List.cons_append, List.nil_append, List.map_cons, List.map_nil, reOper, reOp, reO, reC, reK, Option.map_some, Option.map_none, fS_ite, ix_ite, Nat.reduceLeDiff, Nat.reduceEqDiff, if_true, if_false, ↓reduceIte, List.length_cons, List.length_nil, Nat.reduceAdd, Nat.reduceSub, List.map_toArray]; rfl) ?_
      simp only [List.replicate_succ, List.replicate_zero, List.cons_append, List.nil_append, List.drop_succ_cons, List.drop_zero, List.take_succ_cons, List.take_zero]
      go_wp2_with (first | (refine wpList_load_any_d rfl 26 (.tmp 0) rfl ⟨g, 0, none⟩ rfl (cfc C Y) _ (blk_cells BC4) Try.underlying26 rfl (by kernel_rfl) ?_) | (refine wpList_store_new rfl 26 (.tmp 1) (.tmp 2) rfl rfl rfl rfl rfl (by kernel_rfl) (by rw [← Array.all_toList]; rfl) ?_) | fail)
      intro a H
      replace hs := H.size.trans hs
      replace hd : a.defers = [] := H.defers
      replace e2 : a.tmps[2]? = some _ := H.keep e2 rfl
      replace e3 : a.tmps[3]? = some _ := H.got rfl rfl
      replace e7 : a.tmps[7]? = some _ := H.keep e7 rfl
      replace e8 : a.tmps[8]? = some _ := H.keep e8 rfl
      replace e1 : a.tmps[1]? = some _ := H.keep e1 rfl
      have e9 : a.tmps[9]? = some _ := H.got rfl rfl
      clear H
      refine hKq10 _ _ ?_
      clear hKq10 Kq10
      refine wp_seq_k fun Kq11 hKq11 => ?_
      have G8B := Blk.new w4 26 (cfc C Y)
      have Lc : Below w4.heap.size w4 (w4.alloc (.cells (cfc C Y) 26)) := (Below.refl _ _).alloc (Nat.le_refl _) _
      obtain ⟨g8, hg8⟩ : ∃ q, q = w4.heap.size := ⟨_, rfl⟩
      rw [← hg8] at G8B e9
      have hzg8 : w4.heap.size ≤ g8 := Nat.le_of_eq hg8.symm
      generalize (w4.alloc (.cells (cfc C Y) 26)) = w5 at *
      clear hg8
      have L5 : Below g w w5 := L4.trans (Lc.mono (Nat.le_of_lt hgz4))
      have BC5 := BC4.kept Lc
      have hC5 := hC4.below (Lc.mono (Nat.le_of_lt hgz4))
      have hgz5 : g < w5.heap.size := BC5.lt
      have Bp5 := Bpa.kept Lc
      have OW5 := ownsRow_keep OW4 Lc
      have hz8 : g8 < w5.heap.size := G8B.lt
      have hg8g : g < g8 := by omega
      have hg58 : g5 < g8 := by omega
      clear BC4 hC4 L4 Lc Bpa OW4
      have hzl := hC5.zlen
      have HZL := Lib.hid hzl
      obtain ⟨hfc, hfm⟩ := HFIT.out.fc
      unfold maxLen at hfm
      have hfl16 : C.flows.length ≤ 1000 := by omega
      have LE : Below w5.heap.size w5 (w5.alloc (.cells #[] 74)) := (Below.refl _ _).alloc (Nat.le_refl _) _
      have OA : (w5.alloc (.cells #[] 74)).ownsRow w5.heap.size 74 8 (.slice (some ⟨w5.heap.size, 0, none⟩) 0 0) 0 [] := ownsRow_new (size := 8) (n := 0) (cs := #[]) w5 (Nat.le_refl _) rfl (Nat.zero_le _)
      have hrf : Reads (w5.alloc (.cells #[] 74)) g 8 Y.F.A C.flows.length ((C.flows.zip Y.ws).flatMap fxc) := hC5.flows.below (LE.mono (Nat.le_of_lt hgz5))
      have BCa := BC5.kept LE
      have q2 := BCa.cellOf (v := .slice Y.F.A C.flows.length Y.F.c) 2 rfl
      have HOA := Lib.hid OA
      have HRF := Lib.hid hrf
      have hzA : w5.heap.size ≤ (w5.alloc (.cells #[] 74)).heap.size := LE.size
      have HLE := Lib.hid LE
      clear OA hrf LE BCa hzl
      refine sm_list [3, 9] 29 5 hs hd (by kernel_rfl) (agC e3 (agC e9 agN)) (by simp only [List.append_eq, List.cons_append, List.nil_append, List.map_cons, List.map_nil, reOper, reOp, reO, reC, reK, Option.map_some, Option.map_none, fS_ite, ix_ite, Nat.reduceLeDiff, Nat.reduceEqDiff, if_true, if_false, ↓reduceIte, List.length_cons, List.length_nil, Nat.reduceAdd, Nat.reduceSub, List.map_toArray]; rfl) ?_
      simp only [List.replicate_succ, List.replicate_zero, List.cons_append, List.nil_append, List.drop_succ_cons, List.drop_zero, List.take_succ_cons, List.take_zero]
      go_wp2_with (first | (at_builtin; refine wpList_pushR rfl (.tmp 2) (.tmp 4) 24 rfl sty_flow rfl HRF.out (fxc_one _) rfl HOA.out (by omega) hzA ?_; intro v8 w8 own8 gr8; have L8 : Below w5.heap.size w5 w8 := HLE.out.trans (below_of_grown gr8 HOA.out hzA); obtain ⟨m, hm⟩ : ∃ m, m = 0 + C.flows.length := ⟨_, rfl⟩; rw [← hm] at own8; have HM := Lib.hid hm; clear hm; obtain ⟨Av, cv, rfl, _, _⟩ := ownsRow_reads own8; have B88 := G8B.below L8 hz8; have fz := B88.frozen; have xl := B88.lt; have xc := B88.cellOf (v := .slice Y.F.A C.flows.length Y.F.c) 2 rfl; have HO8 := Lib.hid own8; have HL8 := Lib.hid L8; clear own8 gr8 L8) | fail)
      intro a H
      replace hs := H.size.trans hs
      replace hd : a.defers = [] := H.defers
      replace e2 : a.tmps[2]? = some _ := H.keep e2 rfl
      replace e3 : a.tmps[3]? = some _ := H.got rfl rfl
      replace e7 : a.tmps[7]? = some _ := H.keep e7 rfl
      replace e8 : a.tmps[8]? = some _ := H.keep e8 rfl
      replace e1 : a.tmps[1]? = some _ := H.keep e1 rfl
      replace e9 : a.tmps[9]? = some _ := H.got rfl rfl
      clear H
      refine hKq11 _ _ ?_
      clear hKq11 Kq11
      refine wp_seq_k fun Kq12 hKq12 => ?_
      refine wp_seq_k fun Kq13 hKq13 => ?_
      clear HOA HRF hzA HLE q2
      obtain ⟨L, hLe⟩ : ∃ L : List Fx, L = (C.flows.zip Y.ws) := ⟨_, rfl⟩
      have hLl : L.length = m := by rw [hLe]; rw [HZL.out, HM.out]; omega
      have hO : w8.ownsRow w5.heap.size 74 8 (.slice Av m cv) m (L.flatMap fxc) := by
        have h := HO8.out
        rw [hLe]
        simpa [List.flatMap_append] using h
      have gs : w8.grownBy (w8.setCell ⟨g8, 2, none⟩ (.slice Av m cv)) (some g8) := gr_set (grownBy_refl w8 _) 2 _
      have hO9 := own_kept hO gs (fun k hk e => by have := (ownsRow_lt hO k hk).1; injection e with e; omega)
      have B9 : Blk (w8.setCell ⟨g8, 2, none⟩ (.slice Av m cv)) g8 26 (cfc { C with flows := L.map (·.1) } { Y with F := ⟨Av, cv⟩, ws := L.map (·.2) }) := by
        have h := B88.set_ 2 (.slice Av m cv)
        have e : cfc { C with flows := L.map (·.1) } { Y with F := ⟨Av, cv⟩, ws := L.map (·.2) } = (cfc C Y).setIfInBounds 2 (.slice Av m cv) := by simp [cfc, hLl]
        rw [e]
        exact h
      have BC9 := (BC5.below HL8.out hgz5).grown gs (fun e => by injection e with e; omega)
      have B59 := (Bp5.below HL8.out Bp5.lt).grown gs (fun e => by injection e with e; omega)
      have OW8 := ownsRow_keep OW5 HL8.out
      have OW9 := own_kept OW8 gs (fun k hk e => by injection e with e; subst e; exact own_blk_ne OW8 B88 (by decide) hk)
      have hgg : g ≤ w8.heap.size := Nat.le_of_lt (Nat.lt_of_lt_of_le hgz5 HL8.out.size)
      have L59 : Below g w5 (w8.setCell ⟨g8, 2, none⟩ (.slice Av m cv)) := (HL8.out.mono (Nat.le_of_lt hgz5)).grown gs hgg (fun k hk => by cases hk; omega)
      have L9 := L5.trans L59
      have hsz9 : w8.heap.size ≤ (w8.setCell ⟨g8, 2, none⟩ (.slice Av m cv)).heap.size := gs.size
      generalize (w8.setCell ⟨g8, 2, none⟩ (.slice Av m cv)) = w9 at *
      have hgz9 : g < w9.heap.size := BC9.lt
      have hC9g := hC5.below L59
      have hz59 : w5.heap.size ≤ w9.heap.size := Nat.le_trans HL8.out.size hsz9
      have hC9b := hC9g.more (Nat.le_of_lt hgz9)
      have hway : ∀ x ∈ L, WayR w9 w9.heap.size x := fun x hx => hC9b.way x (by rw [hLe] at hx; exact hx)
      have hC9 : CfAt w9 w9.heap.size { C with flows := L.map (·.1) } { Y with F := ⟨Av, cv⟩, ws := L.map (·.2) } := hC9b.swap cv (by rw [hLl]; exact Reads.of_own hO9) hway
      have HLL := Lib.hid hLe
      have HLM := Lib.hid hLl
      clear hLe hLl hO gs hgg L59 hC9b hway OW8 B88 xc xl fz HO8 HM HL8 hsz9
      obtain ⟨hck, hgf⟩ := good_of HMKa.out
      have HCK := Lib.hid hck
      have HGF := Lib.hid hgf
      have hcy := (well hck).c2
      clear hck hgf
      have k2 := B9.cellOf (v := .slice Av m cv) 2 (by simp [cfc, HLM.out])
      refine sm_list [9] 34 4 hs hd (by kernel_rfl) (agC e9 agN) (by simp only [List.append_eq, List.cons_append, List.nil_append, List.map_cons, List.map_nil, reOper, reOp, reO, reC, reK, Option.map_some, Option.map_none, fS_ite, ix_ite, Nat.reduceLeDiff, Nat.reduceEqDiff, if_true, if_false, ↓reduceIte, List.length_cons, List.length_nil, Nat.reduceAdd, Nat.reduceSub, List.map_toArray]; rfl) ?_
      simp only [List.replicate_succ, List.replicate_zero, List.cons_append, List.nil_append, List.drop_succ_cons, List.drop_zero, List.take_succ_cons, List.take_zero]
      go_wp2_with fail
      intro a H
      replace hs := H.size.trans hs
      replace hd : a.defers = [] := H.defers
      replace e2 : a.tmps[2]? = some _ := H.keep e2 rfl
      replace e3 : a.tmps[3]? = some _ := H.keep e3 rfl
      replace e7 : a.tmps[7]? = some _ := H.keep e7 rfl
      replace e8 : a.tmps[8]? = some _ := H.keep e8 rfl
      replace e1 : a.tmps[1]? = some _ := H.keep e1 rfl
      replace e9 : a.tmps[9]? = some _ := H.got rfl rfl
      have e36 : a.tmps[36]? = some _ := H.got rfl rfl
      have e37 : a.tmps[37]? = some _ := H.got rfl rfl
      clear H
      refine hKq13 _ _ ?_
      clear hKq13 Kq13
      refine wp_block ?_
      clear k2
      have hfl16b : m ≤ 1000 := by rw [← HLM.out, HLL.out, HZL.out]; omega
      clear e8
      refine wp_loop (fun a w' => ∃ j : Nat, j ≤ m ∧ a.tmps.size = 109 ∧ a.defers = [] ∧ a.tmps[1]? = some (.int .i64 x) ∧ a.tmps[2]? = some (.int .i64 ev) ∧ a.tmps[3]? = some (.pointer (some ⟨g, 0, none⟩)) ∧ a.tmps[7]? = some (.pointer (some ⟨g5, 0, none⟩)) ∧ a.tmps[9]? = some (.pointer (some ⟨g8, 0, none⟩)) ∧ a.tmps[36]? = some (.int .i64 (m : Int)) ∧ a.tmps[37]? = some (.int .i64 (j : Int)) ∧ Below w5.heap.size w9 w' ∧ w'.ownsRow w5.heap.size 74 8 (.slice Av m cv) m ((shF x j L).flatMap fxc)) (fun a _ => m - (intOf (a.tmps.getD 37 undef)).toNat) ?_ ?_
      · exact ⟨0, Nat.zero_le _, hs, hd, e1, e2, e3, e7, e9, e36, e37, Below.refl _ _, hO9⟩
      clear hs hd e37 e1 e2 e3 e7 e9 e36 a hO9
      rintro a w10 ⟨j, hj, hs, hd, e1, e2, e3, e7, e9, e36, e37, hb10, hO10⟩
      have hm := slot e37
      refine wp_seq_k fun Kq14 hKq14 => ?_
      have B10 := B9.below hb10 hz8
      by_cases hlt : j < m
      ·
        have dj : decide ((j : Int) < (m : Int)) = true := decide_eq_true (by omega)
        obtain ⟨p, hp⟩ : ∃ p, L[j]? = some p := ⟨_, List.getElem?_eq_getElem (by rw [HLM.out]; exact hlt)⟩
        have hpf : p.1 ∈ C.flows := by
          have h1 : p ∈ C.flows.zip Y.ws := by rw [← HLL.out]; exact List.mem_of_getElem? hp
          exact (List.of_mem_zip (a := p.1) (b := p.2) h1).1
        have hpg := HGF.out p.1 hpf
        unfold badFlow at hpg
        have hps : 0 ≤ p.1.start ∧ p.1.start ≤ 1073741824 := by omega
        clear hpg hpf
        obtain ⟨s, hsv⟩ : ∃ s, s = p.1.start := ⟨_, rfl⟩
        rw [← hsv] at hps
        obtain ⟨gR, cap, cur, hv, hgR, hnc, BR, hcell⟩ := row_cell fxc_len hO10 (shF_get (x := x) hp) (j := 4) (by omega)
        injection hv with hvA _ hvc
        subst hvA
        subst hvc
        have hce : cur[j * 8 + 4]? = some (.int .i64 s) := hcell.trans (by rw [hsv]; rfl)
        obtain ⟨hO11, gr11⟩ := row_put (x' := shX x p) (u := .int .i64 (s + x)) fxc_len hO10 (shF_get (x := x) hp) (j := 4) (by omega) (by rw [hsv]; rfl)
        rw [shF_set hp] at hO11
        have k2 := B10.cellOf (v := .slice (some ⟨gR, 0, none⟩) m cv) 2 (by simp [cfc, HLM.out])
        have kc := BR.cellOf (v := .int .i64 s) (j * 8 + 4) hce
        have fz := BR.frozen
        have xl := BR.lt
        have HO11 := Lib.hid hO11
        have HG11 := Lib.hid gr11
        clear hO11 gr11 hcell hce hsv hO10 hp
        have hj0 : (0 : Int) ≤ (j : Int) := by omega
        have hj1 : (j : Int) < (m : Int) := by omega
        refine sm_list [36, 37] 38 1 hs hd (by kernel_rfl) (agC e36 (agC e37 agN)) (by simp only [List.append_eq, List.cons_append, List.nil_append, List.map_cons, List.map_nil, reOper, reOp, reO, reC, reK, Option.map_some, Option.map_none, fS_ite, ix_ite, Nat.reduceLeDiff, Nat.reduceEqDiff, if_true, if_false, ↓reduceIte, List.length_cons, List.length_nil, Nat.reduceAdd, Nat.reduceSub, List.map_toArray]; rfl) ?_
        simp only [List.replicate_succ, List.replicate_zero, List.cons_append, List.nil_append, List.drop_succ_cons, List.drop_zero, List.take_succ_cons, List.take_zero]
        go_wp2_with fail
        intro a H
        replace hs := H.size.trans hs
        replace hd : a.defers = [] := H.defers
        replace e1 : a.tmps[1]? = some _ := H.keep e1 rfl
        replace e2 : a.tmps[2]? = some _ := H.keep e2 rfl
        replace e3 : a.tmps[3]? = some _ := H.keep e3 rfl
        replace e7 : a.tmps[7]? = some _ := H.keep e7 rfl
        replace e9 : a.tmps[9]? = some _ := H.keep e9 rfl
        replace e36 : a.tmps[36]? = some _ := H.got rfl rfl
        replace e37 : a.tmps[37]? = some _ := H.got rfl rfl
        have e38 : a.tmps[38]? = some _ := H.got rfl rfl
        clear H
        refine hKq14 _ _ ?_
        clear hKq14 Kq14
        refine wp_seq_k fun Kq15 hKq15 => ?_
        refine wp_cond_true (slotE e38) ?_
        clear e38
        refine wp_skip ?_
        refine hKq15 _ _ ?_
        clear hKq15 Kq15
        refine wp_seq_k fun Kq16 hKq16 => ?_
        refine wp_block ?_
        refine wp_seq_k fun Kq17 hKq17 => ?_
        refine sm_list [10, 37] 39 1 hs hd (by kernel_rfl) (agU (agC e37 agN)) (by simp only [List.append_eq, List.cons_append, List.nil_append, List.map_cons, List.map_nil, reOper, reOp, reO, reC, reK, Option.map_some, Option.map_none, fS_ite, ix_ite, Nat.reduceLeDiff, Nat.reduceEqDiff, if_true, if_false, ↓reduceIte, List.length_cons, List.length_nil, Nat.reduceAdd, Nat.reduceSub, List.map_toArray]; rfl) ?_
        simp only [List.replicate_succ, List.replicate_zero, List.cons_append, List.nil_append, List.drop_succ_cons, List.drop_zero, List.take_succ_cons, List.take_zero]
        go_wp2_with fail
        intro a H
        replace hs := H.size.trans hs
        replace hd : a.defers = [] := H.defers
        replace e1 : a.tmps[1]? = some _ := H.keep e1 rfl
        replace e2 : a.tmps[2]? = some _ := H.keep e2 rfl
        replace e3 : a.tmps[3]? = some _ := H.keep e3 rfl
        replace e7 : a.tmps[7]? = some _ := H.keep e7 rfl
        replace e9 : a.tmps[9]? = some _ := H.keep e9 rfl
        replace e36 : a.tmps[36]? = some _ := H.keep e36 rfl
        replace e37 : a.tmps[37]? = some _ := H.got rfl rfl
        have e10 : a.tmps[10]? = some _ := H.got rfl rfl
        clear H
        refine hKq17 _ _ ?_
        clear hKq17 Kq17
        refine sm_list [1, 9, 10] 40 10 hs hd (by kernel_rfl) (agC e1 (agC e9 (agC e10 agN))) (by simp only [List.append_eq, List.cons_append, List.nil_append, List.map_cons, List.map_nil, reOper, reOp, reO, reC, reK, Option.map_some, Option.map_none, fS_ite, ix_ite, Nat.reduceLeDiff, Nat.reduceEqDiff, if_true, if_false, ↓reduceIte, List.length_cons, List.length_nil, Nat.reduceAdd, Nat.reduceSub, List.map_toArray]; rfl) ?_
        simp only [List.replicate_succ, List.replicate_zero, List.cons_append, List.nil_append, List.drop_succ_cons, List.drop_zero, List.take_succ_cons, List.take_zero]
        go_wp2_with fail
        intro a H
        replace hs := H.size.trans hs
        replace hd : a.defers = [] := H.defers
        replace e1 : a.tmps[1]? = some _ := H.got rfl rfl
        replace e2 : a.tmps[2]? = some _ := H.keep e2 rfl
        replace e3 : a.tmps[3]? = some _ := H.keep e3 rfl
        replace e7 : a.tmps[7]? = some _ := H.keep e7 rfl
        replace e9 : a.tmps[9]? = some _ := H.got rfl rfl
        replace e36 : a.tmps[36]? = some _ := H.keep e36 rfl
        replace e37 : a.tmps[37]? = some _ := H.keep e37 rfl
        replace e10 : a.tmps[10]? = some _ := H.got rfl rfl
        clear H
        refine hKq16 _ _ ?_
        clear hKq16 Kq16
        have hb11 := hb10.grown HG11.out (Nat.le_trans hz59 hb10.size) (fun k hk => by cases hk; exact hgR)
        have hO12 := HO11.out
        generalize w10.setCell ⟨gR, j * 8 + 4, none⟩ (.int .i64 (s + x)) = w11 at *
        clear HO11 HG11 k2 kc fz xl BR
        clear e10
        refine sm_list [37] 50 1 hs hd (by kernel_rfl) (agC e37 agN) (by simp only [List.append_eq, List.cons_append, List.nil_append, List.map_cons, List.map_nil, reOper, reOp, reO, reC, reK, Option.map_some, Option.map_none, fS_ite, ix_ite, Nat.reduceLeDiff, Nat.reduceEqDiff, if_true, if_false, ↓reduceIte, List.length_cons, List.length_nil, Nat.reduceAdd, Nat.reduceSub, List.map_toArray]; rfl) ?_
        simp only [List.replicate_succ, List.replicate_zero, List.cons_append, List.nil_append, List.drop_succ_cons, List.drop_zero, List.take_succ_cons, List.take_zero]
        go_wp2_with fail
        intro a H
        replace hs := H.size.trans hs
        replace hd : a.defers = [] := H.defers
        replace e1 : a.tmps[1]? = some _ := H.keep e1 rfl
        replace e2 : a.tmps[2]? = some _ := H.keep e2 rfl
        replace e3 : a.tmps[3]? = some _ := H.keep e3 rfl
        replace e7 : a.tmps[7]? = some _ := H.keep e7 rfl
        replace e9 : a.tmps[9]? = some _ := H.keep e9 rfl
        replace e36 : a.tmps[36]? = some _ := H.keep e36 rfl
        replace e37 : a.tmps[37]? = some _ := H.got rfl rfl
        clear H
        exact ⟨⟨j + 1, by omega, hs, hd, e1, e2, e3, e7, e9, e36, e37, hb11, hO12⟩, by first | (simp only [hm, slot e37, intOf]; omega) | (simp [e37, intOf]; omega)⟩
      · obtain rfl : j = m := by omega
        have dj : decide ((j : Int) < (j : Int)) = false := decide_eq_false (by omega)
        clear hlt hm
        refine sm_list [36, 37] 38 1 hs hd (by kernel_rfl) (agC e36 (agC e37 agN)) (by simp only [List.append_eq, List.cons_append, List.nil_append, List.map_cons, List.map_nil, reOper, reOp, reO, reC, reK, Option.map_some, Option.map_none, fS_ite, ix_ite, Nat.reduceLeDiff, Nat.reduceEqDiff, if_true, if_false, ↓reduceIte, List.length_cons, List.length_nil, Nat.reduceAdd, Nat.reduceSub, List.map_toArray]; rfl) ?_
        simp only [List.replicate_succ, List.replicate_zero, List.cons_append, List.nil_append, List.drop_succ_cons, List.drop_zero, List.take_succ_cons, List.take_zero]
        go_wp2_with fail
        intro a H
        replace hs := H.size.trans hs
        replace hd : a.defers = [] := H.defers
        replace e1 : a.tmps[1]? = some _ := H.keep e1 rfl
        replace e2 : a.tmps[2]? = some _ := H.keep e2 rfl
        replace e3 : a.tmps[3]? = some _ := H.keep e3 rfl
        replace e7 : a.tmps[7]? = some _ := H.keep e7 rfl
        replace e9 : a.tmps[9]? = some _ := H.keep e9 rfl
        replace e36 : a.tmps[36]? = some _ := H.got rfl rfl
        replace e37 : a.tmps[37]? = some _ := H.got rfl rfl
        have e38 : a.tmps[38]? = some _ := H.got rfl rfl
        clear H
        refine hKq14 _ _ ?_
        clear hKq14 Kq14
        refine wp_seq_k fun Kq15 hKq15 => ?_
        refine wp_cond_false (slotE e38) ?_
        clear e38
        refine wp_exit ?_
        refine exit_then rfl ?_
        clear hKq15 Kq15
        refine exit_then rfl ?_
        refine exit_hit ?_
        refine hKq12 _ _ ?_
        clear hKq12 Kq12
        refine wp_seq_k fun Kq16 hKq16 => ?_
        clear e36
        clear e37
        have hO10b : w10.ownsRow w5.heap.size 74 8 (.slice Av j cv) j ((L.map (shX x)).flatMap fxc) := by
          have h := hO10
          rw [show j = L.length from HLM.out.symm] at h
          rw [show j = L.length from HLM.out.symm]
          rw [shF_all] at h
          exact h
        have L10 := L9.trans (hb10.mono (Nat.le_of_lt hgz5))
        have BC10 := BC9.below hb10 hgz5
        have B510 := B59.below hb10 (by omega)
        have OW10 := ownsRow_below OW9 hb10 (fun k hk => (ownsRow_lt OW5 k hk).2)
        have hgz10 : g < w10.heap.size := BC10.lt
        have hC10b := (hC9g.below (hb10.mono (Nat.le_of_lt hgz5))).more (Nat.le_of_lt hgz10)
        have hway0 : ∀ p ∈ L.map (shX x), WayR w10 w10.heap.size p := ways_sh fun p hp => hC10b.way p (by rw [HLL.out] at hp; exact hp)
        have hfl0 : (L.map (shX x)).map (·.1) = C.flows.map fun f => { f with start := f.start + x } := by
          rw [List.map_map, ← hC10b.fst, List.map_map, HLL.out]; rfl
        obtain ⟨M, hM⟩ : ∃ M : List Fx, M = L.map (shX x) := ⟨_, rfl⟩
        have hMl : M.length = L.length := by rw [hM, List.length_map]
        rw [← hM] at hO10b hway0 hfl0
        clear hM
        have hway := hway0
        have hfl := hfl0
        have hC10 : CfAt w10 w10.heap.size { C with flows := M.map (·.1) } { Y with F := ⟨Av, cv⟩, ws := M.map (·.2) } := hC10b.swap cv (by rw [hMl, HLM.out]; exact Reads.of_own hO10b) hway
        have B10c : Blk w10 g8 26 (cfc { C with flows := M.map (·.1) } { Y with F := ⟨Av, cv⟩, ws := M.map (·.2) }) := by
          have e : cfc { C with flows := M.map (·.1) } { Y with F := ⟨Av, cv⟩, ws := M.map (·.2) } = cfc { C with flows := L.map (·.1) } { Y with F := ⟨Av, cv⟩, ws := L.map (·.2) } := by simp [cfc, hMl]
          rw [e]; exact B10
        have hlk := make_like HMKa.out (Likes.later x C.flows)
        rw [← hfl] at hlk
        have HLK := Lib.hid hlk
        clear hlk hfl hway B10 hway0 hfl0 hMl hO10b hO10
        have HM := Lib.hid (make_any { C with flows := M.map (·.1) } { Y with F := ⟨Av, cv⟩, ws := M.map (·.2) } w10 hC10)
        refine sm_list [9, 11, 12] 51 5 hs hd (by kernel_rfl) (agC e9 (agU (agU agN))) (by simp only [List.append_eq, List.cons_append, List.nil_append, List.map_cons, List.map_nil, reOper, reOp, reO, reC, reK, Option.map_some, Option.map_none, fS_ite, ix_ite, Nat.reduceLeDiff, Nat.reduceEqDiff, if_true, if_false, ↓reduceIte, List.length_cons, List.length_nil, Nat.reduceAdd, Nat.reduceSub, List.map_toArray]; rfl) ?_
        simp only [List.replicate_succ, List.replicate_zero, List.cons_append, List.nil_append, List.drop_succ_cons, List.drop_zero, List.take_succ_cons, List.take_zero]
        go_wp2_with (first | (refine wpList_load_any_d rfl 26 (.tmp 0) rfl ⟨g8, 0, none⟩ rfl (cfc { C with flows := M.map (·.1) } { Y with F := ⟨Av, cv⟩, ws := M.map (·.2) }) _ (blk_cells B10c) Try.underlying26 rfl (by kernel_rfl) ?_) | fail)
        refine HM.out.mono ?_
        intro e wx hmade
        obtain ⟨kb, offb, wvb, mvb, rfl, hbx, h1c, hpb⟩ := hmade.two
        have HPb := Lib.hid hpb
        have HBX := Lib.hid hbx
        clear hmade hpb hbx
        go_wp2_with (first | (refine wpList_store_new rfl 32 (.tmp 1) (.tmp 6) rfl rfl rfl rfl rfl (by kernel_rfl) h1c ?_) | fail)
        intro a H
        replace hs := H.size.trans hs
        replace hd : a.defers = [] := H.defers
        replace e1 : a.tmps[1]? = some _ := H.keep e1 rfl
        replace e2 : a.tmps[2]? = some _ := H.keep e2 rfl
        replace e3 : a.tmps[3]? = some _ := H.keep e3 rfl
        replace e7 : a.tmps[7]? = some _ := H.keep e7 rfl
        replace e9 : a.tmps[9]? = some _ := H.got rfl rfl
        have e11 : a.tmps[11]? = some _ := H.got rfl rfl
        have e12 : a.tmps[12]? = some _ := H.got rfl rfl
        clear H
        refine hKq16 _ _ ?_
        clear hKq16 Kq16
        refine wp_seq_k fun Kq17 hKq17 => ?_
        refine wp_seq_k fun Kq18 hKq18 => ?_
        have Bpb := Blk.new wx 32 #[.int .i64 offb, wvb, mvb]
        have hbb : Below w10.heap.size w10 (wx.alloc (.cells #[.int .i64 offb, wvb, mvb] 32)) := HBX.out.alloc HBX.out.size _
        have Lxb : Below wx.heap.size wx (wx.alloc (.cells #[.int .i64 offb, wvb, mvb] 32)) := (Below.refl _ _).alloc (Nat.le_refl _) _
        have hzxb : w10.heap.size ≤ wx.heap.size := HBX.out.size
        obtain ⟨g9, hgg9⟩ : ∃ q, q = wx.heap.size := ⟨_, rfl⟩
        rw [← hgg9] at Bpb e11
        have hzg9 : w10.heap.size ≤ g9 := by rw [hgg9]; exact HBX.out.size
        generalize (wx.alloc (.cells #[.int .i64 offb, wvb, mvb] 32)) = w11 at *
        obtain ⟨wXb, hwXb⟩ : ∃ q, q = wx := ⟨_, rfl⟩
        rw [← hwXb] at HPb Lxb
        clear hwXb hgg9 HM HBX h1c hzxb
        have L11 : Below g w w11 := L10.trans (hbb.mono (Nat.le_of_lt hgz10))
        have BC11 := BC10.kept hbb
        have hC11 : CfAt w11 g C Y := ((hC9g.below (hb10.mono (Nat.le_of_lt hgz5))).below (hbb.mono (Nat.le_of_lt hgz10)))
        have hgz11 : g < w11.heap.size := BC11.lt
        have HOFF := Lib.hid (well HCK.out).off
        have hev1 := HOFF.out.e1
        have hev2 := HOFF.out.e2
        rcases HPb.out with ⟨hk, hm, _⟩ | ⟨hk, hofb, Sb, Wb, B1b, gGb, mgb, fgb, hm, rfl, hGb, GTb, OWb, hgdb⟩
        · have hk2 : kb = 61 ∨ kb = 1 := by
            rcases HLK.out with ⟨S9, h⟩ | h | ⟨h, _⟩
            · rw [h] at hm; cases hm
            · rw [h] at hm; cases hm; exact .inl rfl
            · rw [h] at hm; cases hm; exact .inr rfl
          clear hk hm HPb
          rcases hk2 with rfl | rfl
          ·
            refine sm_list [12] 56 2 hs hd (by kernel_rfl) (agC e12 agN) (by simp only [List.append_eq, List.cons_append, List.nil_append, List.map_cons, List.map_nil, reOper, reOp, reO, reC, reK, Option.map_some, Option.map_none, fS_ite, ix_ite, Nat.reduceLeDiff, Nat.reduceEqDiff, if_true, if_false, ↓reduceIte, List.length_cons, List.length_nil, Nat.reduceAdd, Nat.reduceSub, List.map_toArray]; rfl) ?_
            simp only [List.replicate_succ, List.replicate_zero, List.cons_append, List.nil_append, List.drop_succ_cons, List.drop_zero, List.take_succ_cons, List.take_zero]
            go_wp2_with fail
            intro a H
            replace hs := H.size.trans hs
            replace hd : a.defers = [] := H.defers
            replace e1 : a.tmps[1]? = some _ := H.keep e1 rfl
            replace e2 : a.tmps[2]? = some _ := H.keep e2 rfl
            replace e3 : a.tmps[3]? = some _ := H.keep e3 rfl
            replace e7 : a.tmps[7]? = some _ := H.keep e7 rfl
            replace e9 : a.tmps[9]? = some _ := H.keep e9 rfl
            replace e11 : a.tmps[11]? = some _ := H.keep e11 rfl
            replace e12 : a.tmps[12]? = some _ := H.got rfl rfl
            have e57 : a.tmps[57]? = some _ := H.got rfl rfl
            clear H
            refine hKq18 _ _ ?_
            clear hKq18 Kq18
            refine wp_cond_false (slotE e57) ?_
            clear e57
            refine wp_seq_k fun Kq19 hKq19 => ?_
            refine sm_list [12] 90 6 hs hd (by kernel_rfl) (agC e12 agN) (by simp only [List.append_eq, List.cons_append, List.nil_append, List.map_cons, List.map_nil, reOper, reOp, reO, reC, reK, Option.map_some, Option.map_none, fS_ite, ix_ite, Nat.reduceLeDiff, Nat.reduceEqDiff, if_true, if_false, ↓reduceIte, List.length_cons, List.length_nil, Nat.reduceAdd, Nat.reduceSub, List.map_toArray]; rfl) ?_
            simp only [List.replicate_succ, List.replicate_zero, List.cons_append, List.nil_append, List.drop_succ_cons, List.drop_zero, List.take_succ_cons, List.take_zero]
            go_wp2_with fail
            intro a H
            replace hs := H.size.trans hs
            replace hd : a.defers = [] := H.defers
            replace e1 : a.tmps[1]? = some _ := H.keep e1 rfl
            replace e2 : a.tmps[2]? = some _ := H.keep e2 rfl
            replace e3 : a.tmps[3]? = some _ := H.keep e3 rfl
            replace e7 : a.tmps[7]? = some _ := H.keep e7 rfl
            replace e9 : a.tmps[9]? = some _ := H.keep e9 rfl
            replace e11 : a.tmps[11]? = some _ := H.keep e11 rfl
            replace e12 : a.tmps[12]? = some _ := H.got rfl rfl
            have e95 : a.tmps[95]? = some _ := H.got rfl rfl
            clear H
            refine hKq19 _ _ ?_
            clear hKq19 Kq19
            refine wp_cond_false (slotE e95) ?_
            clear e95
            refine wp_skip ?_
            refine hKq17 _ _ ?_
            clear hKq17 Kq17
            refine wp_seq_k fun Kq20 hKq20 => ?_
            clear e1
            clear e7
            clear e9
            clear e11
            clear e12
            refine sm_list [3, 14] 96 1 hs hd (by kernel_rfl) (agC e3 (agU agN)) (by simp only [List.append_eq, List.cons_append, List.nil_append, List.map_cons, List.map_nil, reOper, reOp, reO, reC, reK, Option.map_some, Option.map_none, fS_ite, ix_ite, Nat.reduceLeDiff, Nat.reduceEqDiff, if_true, if_false, ↓reduceIte, List.length_cons, List.length_nil, Nat.reduceAdd, Nat.reduceSub, List.map_toArray]; rfl) ?_
            simp only [List.replicate_succ, List.replicate_zero, List.cons_append, List.nil_append, List.drop_succ_cons, List.drop_zero, List.take_succ_cons, List.take_zero]
            go_wp2_with (first | (refine wpList_load_any_d rfl 26 (.tmp 0) rfl ⟨g, 0, none⟩ rfl (cfc C Y) _ (blk_cells BC11) Try.underlying26 rfl (by kernel_rfl) ?_) | (refine wpList_store_new rfl 26 (.tmp 1) (.tmp 2) rfl rfl rfl rfl rfl (by kernel_rfl) (by rw [← Array.all_toList]; rfl) ?_) | fail)
            intro a H
            replace hs := H.size.trans hs
            replace hd : a.defers = [] := H.defers
            replace e2 : a.tmps[2]? = some _ := H.keep e2 rfl
            replace e3 : a.tmps[3]? = some _ := H.got rfl rfl
            have e14 : a.tmps[14]? = some _ := H.got rfl rfl
            clear H
            refine hKq20 _ _ ?_
            clear hKq20 Kq20
            refine wp_seq_k fun Kq21 hKq21 => ?_
            have B14 := Blk.new w11 26 (cfc C Y)
            have Lt : Below w11.heap.size w11 (w11.alloc (.cells (cfc C Y) 26)) := (Below.refl _ _).alloc (Nat.le_refl _) _
            have BCt := BC11.kept Lt
            have hCt := hC11.below (Lt.mono (Nat.le_of_lt hgz11))
            have Ltw := L11.trans (Lt.mono (Nat.le_of_lt hgz11))
            obtain ⟨g14, hg14⟩ : ∃ q, q = w11.heap.size := ⟨_, rfl⟩
            rw [← hg14] at B14 e14
            have hgg14 : g < g14 := by rw [hg14]; exact hgz11
            generalize (w11.alloc (.cells (cfc C Y) 26)) = wt at *
            clear hg14 Lt
            obtain ⟨y, hy, hy0, hy1⟩ := and_mask ev 20 1048575 rfl (by omega)
            have c4 := BCt.cellOf (v := .int .i64 C.every) 4 rfl
            have d4 := B14.cellOf (v := .int .i64 C.every) 4 rfl
            have fz := B14.frozen
            have xl := B14.lt
            obtain ⟨G, hG⟩ : ∃ G, G = min (C.every + y) 1073741824 := ⟨_, rfl⟩
            have hGe : C.every ≤ G ∧ G ≤ 1073741824 := by rw [hG]; omega
            have HGM := Lib.hid hG
            clear hG
            suffices HK : ∀ (a' : Act) (wu : World), a'.tmps.size = a.tmps.size → a'.defers = [] → a'.tmps[2]? = a.tmps[2]? → a'.tmps[3]? = a.tmps[3]? → a'.tmps[14]? = a.tmps[14]? → Blk wu g14 26 (cfc { C with every := G } Y) → wt.grownBy wu (some g14) → Kq21 a' wu by
              refine sm_list [2, 3, 14] 97 7 hs hd (by kernel_rfl) (agC e2 (agC e3 (agC e14 agN))) (by simp only [List.append_eq, List.cons_append, List.nil_append, List.map_cons, List.map_nil, reOper, reOp, reO, reC, reK, Option.map_some, Option.map_none, fS_ite, ix_ite, Nat.reduceLeDiff, Nat.reduceEqDiff, if_true, if_false, ↓reduceIte, List.length_cons, List.length_nil, Nat.reduceAdd, Nat.reduceSub, List.map_toArray]; rfl) ?_
              simp only [List.replicate_succ, List.replicate_zero, List.cons_append, List.nil_append, List.drop_succ_cons, List.drop_zero, List.take_succ_cons, List.take_zero]
              go_wp2_with fail
              all_goals
                intro a' H
                refine HK a' _ H.size H.defers ((H.got rfl rfl).trans e2.symm) ((H.got rfl rfl).trans e3.symm) ((H.got rfl rfl).trans e14.symm) ?_ ?_
                · have h := B14.set_ 4 (.int .i64 G); have e : cfc { C with every := G } Y = (cfc C Y).setIfInBounds 4 (.int .i64 G) := (by simp [cfc]); rw [e, ← HGM.out]; exact h
                · exact gr_set (grownBy_refl wt _) 4 _
            intro a' wu g_s g_d g2 g3 g14 B14u gru
            replace hs := g_s.trans hs
            replace hd := g_d
            replace e2 := g2.trans e2
            replace e3 := g3.trans e3
            replace e14 := g14.trans e14
            clear g_s g_d g2 g3 g14
            clear a
            obtain ⟨a, rfl⟩ : ∃ a, a = a' := ⟨_, rfl⟩
            refine hKq21 _ _ ?_
            clear hKq21 Kq21
            refine wp_seq_k fun Kq22 hKq22 => ?_
            clear c4 d4 fz xl hy
            have hlw : g ≤ wt.heap.size := Nat.le_of_lt BCt.lt
            have Lu := Ltw.grown gru hlw (fun k hk => by cases hk; exact Nat.le_of_lt hgg14)
            have BCu := BCt.grown gru (fun e => by injection e with e; omega)
            have hCu : CfAt wu g C Y := hCt.below ((Below.refl g wt).grown gru hlw (fun k hk => by cases hk; exact Nat.le_of_lt hgg14))
            have hgzu : g < wu.heap.size := BCu.lt
            have hCg : CfAt wu g { C with every := G } Y := ⟨hCu.nodes, hCu.links, hCu.wslen, hCu.flows, hCu.ways⟩
            have hoG : OffOk { C with every := G } := ⟨HOFF.out.n1, HOFF.out.n2, HOFF.out.l1, HOFF.out.l, by show 1000 ≤ G; omega, hGe.2, HOFF.out.p1, HOFF.out.p2, HOFF.out.g1, HOFF.out.g2⟩
            have hle := offV_every HOFF.out hGe.1
            obtain ⟨o1, ho1⟩ : ∃ o, o = offV { C with every := G } := ⟨_, rfl⟩
            obtain ⟨o0, ho0⟩ : ∃ o, o = offV C := ⟨_, rfl⟩
            rw [← ho1, ← ho0] at hle
            have dle : decide (o0 ≤ o1) = true := decide_eq_true hle
            have H1 : Hid (∀ w', Below wu.heap.size wu w' → Calls Try.prog 14 #[.agg (cfc { C with every := G } Y)] w' fun e w2 => e = .returned (.int .i64 o1) ∧ Below w'.heap.size w' w2) := Lib.hid fun w' hw' => by rw [ho1]; exact off_any _ Y w' ((hCg.below (hw'.mono (Nat.le_of_lt hgzu))).more (Nat.le_trans (Nat.le_of_lt hgzu) hw'.size)) hoG
            have H0 : Hid (∀ w', Below wu.heap.size wu w' → Calls Try.prog 14 #[.agg (cfc C Y)] w' fun e w2 => e = .returned (.int .i64 o0) ∧ Below w'.heap.size w' w2) := Lib.hid fun w' hw' => by rw [ho0]; exact off_any _ Y w' ((hCu.below (hw'.mono (Nat.le_of_lt hgzu))).more (Nat.le_trans (Nat.le_of_lt hgzu) hw'.size)) HOFF.out
            clear ho1 ho0 hle hoG
            have B14l := B14u.lt
            suffices HK : ∀ (a' : Act) (wv : World), a'.tmps.size = a.tmps.size → a'.defers = [] → a'.tmps[2]? = a.tmps[2]? → a'.tmps[3]? = a.tmps[3]? → a'.tmps[14]? = a.tmps[14]? → a'.tmps[6]? = some (.bool true) → Below wu.heap.size wu wv → Kq22 a' wv by
              refine sm_any [3, 6, 14] 104 5 (by kernel_rfl) hs hd (by kernel_rfl) (agC e3 (agU (agC e14 agN))) (by simp only [List.append_eq, List.cons_append, List.nil_append, List.map_cons, List.map_nil, reOper, reOp, reO, reC, reK, Option.map_some, Option.map_none, fS_ite, ix_ite, Nat.reduceLeDiff, Nat.reduceEqDiff, if_true, if_false, ↓reduceIte, List.length_cons, List.length_nil, Nat.reduceAdd, Nat.reduceSub, List.map_toArray]; rfl) (any_class (fun w' => Below wu.heap.size wu w') (by kernel_rfl) ((Below.refl _ _).drew) ?_)
              simp only [List.replicate_succ, List.replicate_zero, List.cons_append, List.nil_append, List.drop_succ_cons, List.drop_zero, List.take_succ_cons, List.take_zero]
              repeat (first | (refine wpQuiet_val (v := .agg (cfc { C with every := G } Y)) ?_ (fun w' hw' => run_load_whole_d 26 (.tmp 2) rfl rfl (B14u.kept hw') Try.underlying26 rfl (by kernel_rfl)) ?_; (first | exact wanted_none rfl | exact wanted_on rfl rfl rfl); simp only [Act.put, List.setIfInBounds_toArray, List.set_cons_zero, List.set_cons_succ]) | (refine wpQuiet_val (v := .agg (cfc C Y)) ?_ (fun w' hw' => run_load_whole_d 26 (.tmp 0) rfl rfl (BCu.kept hw') Try.underlying26 rfl (by kernel_rfl)) ?_; (first | exact wanted_none rfl | exact wanted_on rfl rfl rfl); simp only [Act.put, List.setIfInBounds_toArray, List.set_cons_zero, List.set_cons_succ]) | (with_reducible (refine wpQuiet_call (v := ?_) 14 ?_ ?_ ?_ ?_ ?_); rotate_left 2; (first | exact wanted_none rfl | exact wanted_on rfl rfl rfl); (intro w' hw'; obtain ⟨hc, hf⟩ := bcell hw'; go_simp; with_reducible rfl); (intro w' hw'; (with_reducible refine (H1.out w' hw').mono ?_); rintro e w2 ⟨rfl, hb⟩; refine ⟨?_, hw'.trans (hb.mono (by have h0 := hw'.size; first | omega | (simp at h0; omega)))⟩; with_reducible rfl); simp only [Act.put, List.setIfInBounds_toArray, List.set_cons_zero, List.set_cons_succ]) | (with_reducible (refine wpQuiet_call (v := ?_) 14 ?_ ?_ ?_ ?_ ?_); rotate_left 2; (first | exact wanted_none rfl | exact wanted_on rfl rfl rfl); (intro w' hw'; obtain ⟨hc, hf⟩ := bcell hw'; go_simp; with_reducible rfl); (intro w' hw'; (with_reducible refine (H0.out w' hw').mono ?_); rintro e w2 ⟨rfl, hb⟩; refine ⟨?_, hw'.trans (hb.mono (by have h0 := hw'.size; first | omega | (simp at h0; omega)))⟩; with_reducible rfl); simp only [Act.put, List.setIfInBounds_toArray, List.set_cons_zero, List.set_cons_succ]) | (with_reducible (refine wpQuiet_val (v := ?_) ?_ ?_ ?_); rotate_left; (first | exact wanted_none rfl | exact wanted_on rfl rfl rfl); (intro w' hw'; obtain ⟨hc, hf⟩ := bcell hw'; go_simp; with_reducible rfl); simp only [Act.put, List.setIfInBounds_toArray, List.set_cons_zero, List.set_cons_succ]))
              refine wpQuiet_nil ?_
              intro wv hw6
              all_goals
                intro a' H
                refine HK a' _ H.size H.defers (H.out 2 rfl) ((H.got rfl rfl).trans e3.symm) ((H.got rfl rfl).trans e14.symm) ?_ ?_
                · exact H.got rfl rfl
                · exact hw6
            intro a' wv g_s g_d g2 g3 g14 f6 hbv
            replace hs := g_s.trans hs
            replace hd := g_d
            replace e2 := g2.trans e2
            replace e3 := g3.trans e3
            replace e14 := g14.trans e14
            clear g_s g_d g2 g3 g14
            have e6 := f6
            clear f6
            clear a
            obtain ⟨a, rfl⟩ : ∃ a, a = a' := ⟨_, rfl⟩
            refine hKq22 _ _ ?_
            clear hKq22 Kq22
            refine wp_ret ?_
            exact sm_ret rfl hd e6 ⟨rfl, by rw [← HG.out]; exact Lu.trans (hbv.mono (Nat.le_of_lt hgzu))⟩
          ·
            refine sm_list [12] 56 2 hs hd (by kernel_rfl) (agC e12 agN) (by simp only [List.append_eq, List.cons_append, List.nil_append, List.map_cons, List.map_nil, reOper, reOp, reO, reC, reK, Option.map_some, Option.map_none, fS_ite, ix_ite, Nat.reduceLeDiff, Nat.reduceEqDiff, if_true, if_false, ↓reduceIte, List.length_cons, List.length_nil, Nat.reduceAdd, Nat.reduceSub, List.map_toArray]; rfl) ?_
            simp only [List.replicate_succ, List.replicate_zero, List.cons_append, List.nil_append, List.drop_succ_cons, List.drop_zero, List.take_succ_cons, List.take_zero]
            go_wp2_with fail
            intro a H
            replace hs := H.size.trans hs
            replace hd : a.defers = [] := H.defers
            replace e1 : a.tmps[1]? = some _ := H.keep e1 rfl
            replace e2 : a.tmps[2]? = some _ := H.keep e2 rfl
            replace e3 : a.tmps[3]? = some _ := H.keep e3 rfl
            replace e7 : a.tmps[7]? = some _ := H.keep e7 rfl
            replace e9 : a.tmps[9]? = some _ := H.keep e9 rfl
            replace e11 : a.tmps[11]? = some _ := H.keep e11 rfl
            replace e12 : a.tmps[12]? = some _ := H.got rfl rfl
            have e57 : a.tmps[57]? = some _ := H.got rfl rfl
            clear H
            refine hKq18 _ _ ?_
            clear hKq18 Kq18
            refine wp_cond_false (slotE e57) ?_
            clear e57
            refine wp_seq_k fun Kq19 hKq19 => ?_
            refine sm_list [12] 90 6 hs hd (by kernel_rfl) (agC e12 agN) (by simp only [List.append_eq, List.cons_append, List.nil_append, List.map_cons, List.map_nil, reOper, reOp, reO, reC, reK, Option.map_some, Option.map_none, fS_ite, ix_ite, Nat.reduceLeDiff, Nat.reduceEqDiff, if_true, if_false, ↓reduceIte, List.length_cons, List.length_nil, Nat.reduceAdd, Nat.reduceSub, List.map_toArray]; rfl) ?_
            simp only [List.replicate_succ, List.replicate_zero, List.cons_append, List.nil_append, List.drop_succ_cons, List.drop_zero, List.take_succ_cons, List.take_zero]
            go_wp2_with fail
            intro a H
            replace hs := H.size.trans hs
            replace hd : a.defers = [] := H.defers
            replace e1 : a.tmps[1]? = some _ := H.keep e1 rfl
            replace e2 : a.tmps[2]? = some _ := H.keep e2 rfl
            replace e3 : a.tmps[3]? = some _ := H.keep e3 rfl
            replace e7 : a.tmps[7]? = some _ := H.keep e7 rfl
            replace e9 : a.tmps[9]? = some _ := H.keep e9 rfl
            replace e11 : a.tmps[11]? = some _ := H.keep e11 rfl
            replace e12 : a.tmps[12]? = some _ := H.got rfl rfl
            have e95 : a.tmps[95]? = some _ := H.got rfl rfl
            clear H
            refine hKq19 _ _ ?_
            clear hKq19 Kq19
            refine wp_cond_false (slotE e95) ?_
            clear e95
            refine wp_skip ?_
            refine hKq17 _ _ ?_
            clear hKq17 Kq17
            refine wp_seq_k fun Kq20 hKq20 => ?_
            clear e1
            clear e7
            clear e9
            clear e11
            clear e12
            refine sm_list [3, 14] 96 1 hs hd (by kernel_rfl) (agC e3 (agU agN)) (by simp only [List.append_eq, List.cons_append, List.nil_append, List.map_cons, List.map_nil, reOper, reOp, reO, reC, reK, Option.map_some, Option.map_none, fS_ite, ix_ite, Nat.reduceLeDiff, Nat.reduceEqDiff, if_true, if_false, ↓reduceIte, List.length_cons, List.length_nil, Nat.reduceAdd, Nat.reduceSub, List.map_toArray]; rfl) ?_
            simp only [List.replicate_succ, List.replicate_zero, List.cons_append, List.nil_append, List.drop_succ_cons, List.drop_zero, List.take_succ_cons, List.take_zero]
            go_wp2_with (first | (refine wpList_load_any_d rfl 26 (.tmp 0) rfl ⟨g, 0, none⟩ rfl (cfc C Y) _ (blk_cells BC11) Try.underlying26 rfl (by kernel_rfl) ?_) | (refine wpList_store_new rfl 26 (.tmp 1) (.tmp 2) rfl rfl rfl rfl rfl (by kernel_rfl) (by rw [← Array.all_toList]; rfl) ?_) | fail)
            intro a H
            replace hs := H.size.trans hs
            replace hd : a.defers = [] := H.defers
            replace e2 : a.tmps[2]? = some _ := H.keep e2 rfl
            replace e3 : a.tmps[3]? = some _ := H.got rfl rfl
            have e14 : a.tmps[14]? = some _ := H.got rfl rfl
            clear H
            refine hKq20 _ _ ?_
            clear hKq20 Kq20
            refine wp_seq_k fun Kq21 hKq21 => ?_
            have B14 := Blk.new w11 26 (cfc C Y)
            have Lt : Below w11.heap.size w11 (w11.alloc (.cells (cfc C Y) 26)) := (Below.refl _ _).alloc (Nat.le_refl _) _
            have BCt := BC11.kept Lt
            have hCt := hC11.below (Lt.mono (Nat.le_of_lt hgz11))
            have Ltw := L11.trans (Lt.mono (Nat.le_of_lt hgz11))
            obtain ⟨g14, hg14⟩ : ∃ q, q = w11.heap.size := ⟨_, rfl⟩
            rw [← hg14] at B14 e14
            have hgg14 : g < g14 := by rw [hg14]; exact hgz11
            generalize (w11.alloc (.cells (cfc C Y) 26)) = wt at *
            clear hg14 Lt
            obtain ⟨y, hy, hy0, hy1⟩ := and_mask ev 20 1048575 rfl (by omega)
            have c4 := BCt.cellOf (v := .int .i64 C.every) 4 rfl
            have d4 := B14.cellOf (v := .int .i64 C.every) 4 rfl
            have fz := B14.frozen
            have xl := B14.lt
            obtain ⟨G, hG⟩ : ∃ G, G = min (C.every + y) 1073741824 := ⟨_, rfl⟩
            have hGe : C.every ≤ G ∧ G ≤ 1073741824 := by rw [hG]; omega
            have HGM := Lib.hid hG
            clear hG
            suffices HK : ∀ (a' : Act) (wu : World), a'.tmps.size = a.tmps.size → a'.defers = [] → a'.tmps[2]? = a.tmps[2]? → a'.tmps[3]? = a.tmps[3]? → a'.tmps[14]? = a.tmps[14]? → Blk wu g14 26 (cfc { C with every := G } Y) → wt.grownBy wu (some g14) → Kq21 a' wu by
              refine sm_list [2, 3, 14] 97 7 hs hd (by kernel_rfl) (agC e2 (agC e3 (agC e14 agN))) (by simp only [List.append_eq, List.cons_append, List.nil_append, List.map_cons, List.map_nil, reOper, reOp, reO, reC, reK, Option.map_some, Option.map_none, fS_ite, ix_ite, Nat.reduceLeDiff, Nat.reduceEqDiff, if_true, if_false, ↓reduceIte, List.length_cons, List.length_nil, Nat.reduceAdd, Nat.reduceSub, List.map_toArray]; rfl) ?_
              simp only [List.replicate_succ, List.replicate_zero, List.cons_append, List.nil_append, List.drop_succ_cons, List.drop_zero, List.take_succ_cons, List.take_zero]
              go_wp2_with fail
              all_goals
                intro a' H
                refine HK a' _ H.size H.defers ((H.got rfl rfl).trans e2.symm) ((H.got rfl rfl).trans e3.symm) ((H.got rfl rfl).trans e14.symm) ?_ ?_
                · have h := B14.set_ 4 (.int .i64 G); have e : cfc { C with every := G } Y = (cfc C Y).setIfInBounds 4 (.int .i64 G) := (by simp [cfc]); rw [e, ← HGM.out]; exact h
                · exact gr_set (grownBy_refl wt _) 4 _
            intro a' wu g_s g_d g2 g3 g14 B14u gru
            replace hs := g_s.trans hs
            replace hd := g_d
            replace e2 := g2.trans e2
            replace e3 := g3.trans e3
            replace e14 := g14.trans e14
            clear g_s g_d g2 g3 g14
            clear a
            obtain ⟨a, rfl⟩ : ∃ a, a = a' := ⟨_, rfl⟩
            refine hKq21 _ _ ?_
            clear hKq21 Kq21
            refine wp_seq_k fun Kq22 hKq22 => ?_
            clear c4 d4 fz xl hy
            have hlw : g ≤ wt.heap.size := Nat.le_of_lt BCt.lt
            have Lu := Ltw.grown gru hlw (fun k hk => by cases hk; exact Nat.le_of_lt hgg14)
            have BCu := BCt.grown gru (fun e => by injection e with e; omega)
            have hCu : CfAt wu g C Y := hCt.below ((Below.refl g wt).grown gru hlw (fun k hk => by cases hk; exact Nat.le_of_lt hgg14))
            have hgzu : g < wu.heap.size := BCu.lt
            have hCg : CfAt wu g { C with every := G } Y := ⟨hCu.nodes, hCu.links, hCu.wslen, hCu.flows, hCu.ways⟩
            have hoG : OffOk { C with every := G } := ⟨HOFF.out.n1, HOFF.out.n2, HOFF.out.l1, HOFF.out.l, by show 1000 ≤ G; omega, hGe.2, HOFF.out.p1, HOFF.out.p2, HOFF.out.g1, HOFF.out.g2⟩
            have hle := offV_every HOFF.out hGe.1
            obtain ⟨o1, ho1⟩ : ∃ o, o = offV { C with every := G } := ⟨_, rfl⟩
            obtain ⟨o0, ho0⟩ : ∃ o, o = offV C := ⟨_, rfl⟩
            rw [← ho1, ← ho0] at hle
            have dle : decide (o0 ≤ o1) = true := decide_eq_true hle
            have H1 : Hid (∀ w', Below wu.heap.size wu w' → Calls Try.prog 14 #[.agg (cfc { C with every := G } Y)] w' fun e w2 => e = .returned (.int .i64 o1) ∧ Below w'.heap.size w' w2) := Lib.hid fun w' hw' => by rw [ho1]; exact off_any _ Y w' ((hCg.below (hw'.mono (Nat.le_of_lt hgzu))).more (Nat.le_trans (Nat.le_of_lt hgzu) hw'.size)) hoG
            have H0 : Hid (∀ w', Below wu.heap.size wu w' → Calls Try.prog 14 #[.agg (cfc C Y)] w' fun e w2 => e = .returned (.int .i64 o0) ∧ Below w'.heap.size w' w2) := Lib.hid fun w' hw' => by rw [ho0]; exact off_any _ Y w' ((hCu.below (hw'.mono (Nat.le_of_lt hgzu))).more (Nat.le_trans (Nat.le_of_lt hgzu) hw'.size)) HOFF.out
            clear ho1 ho0 hle hoG
            have B14l := B14u.lt
            suffices HK : ∀ (a' : Act) (wv : World), a'.tmps.size = a.tmps.size → a'.defers = [] → a'.tmps[2]? = a.tmps[2]? → a'.tmps[3]? = a.tmps[3]? → a'.tmps[14]? = a.tmps[14]? → a'.tmps[6]? = some (.bool true) → Below wu.heap.size wu wv → Kq22 a' wv by
              refine sm_any [3, 6, 14] 104 5 (by kernel_rfl) hs hd (by kernel_rfl) (agC e3 (agU (agC e14 agN))) (by simp only [List.append_eq, List.cons_append, List.nil_append, List.map_cons, List.map_nil, reOper, reOp, reO, reC, reK, Option.map_some, Option.map_none, fS_ite, ix_ite, Nat.reduceLeDiff, Nat.reduceEqDiff, if_true, if_false, ↓reduceIte, List.length_cons, List.length_nil, Nat.reduceAdd, Nat.reduceSub, List.map_toArray]; rfl) (any_class (fun w' => Below wu.heap.size wu w') (by kernel_rfl) ((Below.refl _ _).drew) ?_)
              simp only [List.replicate_succ, List.replicate_zero, List.cons_append, List.nil_append, List.drop_succ_cons, List.drop_zero, List.take_succ_cons, List.take_zero]
              repeat (first | (refine wpQuiet_val (v := .agg (cfc { C with every := G } Y)) ?_ (fun w' hw' => run_load_whole_d 26 (.tmp 2) rfl rfl (B14u.kept hw') Try.underlying26 rfl (by kernel_rfl)) ?_; (first | exact wanted_none rfl | exact wanted_on rfl rfl rfl); simp only [Act.put, List.setIfInBounds_toArray, List.set_cons_zero, List.set_cons_succ]) | (refine wpQuiet_val (v := .agg (cfc C Y)) ?_ (fun w' hw' => run_load_whole_d 26 (.tmp 0) rfl rfl (BCu.kept hw') Try.underlying26 rfl (by kernel_rfl)) ?_; (first | exact wanted_none rfl | exact wanted_on rfl rfl rfl); simp only [Act.put, List.setIfInBounds_toArray, List.set_cons_zero, List.set_cons_succ]) | (with_reducible (refine wpQuiet_call (v := ?_) 14 ?_ ?_ ?_ ?_ ?_); rotate_left 2; (first | exact wanted_none rfl | exact wanted_on rfl rfl rfl); (intro w' hw'; obtain ⟨hc, hf⟩ := bcell hw'; go_simp; with_reducible rfl); (intro w' hw'; (with_reducible refine (H1.out w' hw').mono ?_); rintro e w2 ⟨rfl, hb⟩; refine ⟨?_, hw'.trans (hb.mono (by have h0 := hw'.size; first | omega | (simp at h0; omega)))⟩; with_reducible rfl); simp only [Act.put, List.setIfInBounds_toArray, List.set_cons_zero, List.set_cons_succ]) | (with_reducible (refine wpQuiet_call (v := ?_) 14 ?_ ?_ ?_ ?_ ?_); rotate_left 2; (first | exact wanted_none rfl | exact wanted_on rfl rfl rfl); (intro w' hw'; obtain ⟨hc, hf⟩ := bcell hw'; go_simp; with_reducible rfl); (intro w' hw'; (with_reducible refine (H0.out w' hw').mono ?_); rintro e w2 ⟨rfl, hb⟩; refine ⟨?_, hw'.trans (hb.mono (by have h0 := hw'.size; first | omega | (simp at h0; omega)))⟩; with_reducible rfl); simp only [Act.put, List.setIfInBounds_toArray, List.set_cons_zero, List.set_cons_succ]) | (with_reducible (refine wpQuiet_val (v := ?_) ?_ ?_ ?_); rotate_left; (first | exact wanted_none rfl | exact wanted_on rfl rfl rfl); (intro w' hw'; obtain ⟨hc, hf⟩ := bcell hw'; go_simp; with_reducible rfl); simp only [Act.put, List.setIfInBounds_toArray, List.set_cons_zero, List.set_cons_succ]))
              refine wpQuiet_nil ?_
              intro wv hw6
              all_goals
                intro a' H
                refine HK a' _ H.size H.defers (H.out 2 rfl) ((H.got rfl rfl).trans e3.symm) ((H.got rfl rfl).trans e14.symm) ?_ ?_
                · exact H.got rfl rfl
                · exact hw6
            intro a' wv g_s g_d g2 g3 g14 f6 hbv
            replace hs := g_s.trans hs
            replace hd := g_d
            replace e2 := g2.trans e2
            replace e3 := g3.trans e3
            replace e14 := g14.trans e14
            clear g_s g_d g2 g3 g14
            have e6 := f6
            clear f6
            clear a
            obtain ⟨a, rfl⟩ : ∃ a, a = a' := ⟨_, rfl⟩
            refine hKq22 _ _ ?_
            clear hKq22 Kq22
            refine wp_ret ?_
            exact sm_ret rfl hd e6 ⟨rfl, by rw [← HG.out]; exact Lu.trans (hbv.mono (Nat.le_of_lt hgzu))⟩
        · subst hk
          have hwe : Wb = Wa := by
            rcases HLK.out with ⟨S9, h⟩ | h | ⟨h, _⟩
            · rw [h] at hm; cases hm; rfl
            · rw [h] at hm; cases hm
            · rw [h] at hm; cases hm
          subst hwe
          clear hm HPb
          refine sm_list [12] 56 2 hs hd (by kernel_rfl) (agC e12 agN) (by simp only [List.append_eq, List.cons_append, List.nil_append, List.map_cons, List.map_nil, reOper, reOp, reO, reC, reK, Option.map_some, Option.map_none, fS_ite, ix_ite, Nat.reduceLeDiff, Nat.reduceEqDiff, if_true, if_false, ↓reduceIte, List.length_cons, List.length_nil, Nat.reduceAdd, Nat.reduceSub, List.map_toArray]; rfl) ?_
          simp only [List.replicate_succ, List.replicate_zero, List.cons_append, List.nil_append, List.drop_succ_cons, List.drop_zero, List.take_succ_cons, List.take_zero]
          go_wp2_with fail
          intro a H
          replace hs := H.size.trans hs
          replace hd : a.defers = [] := H.defers
          replace e1 : a.tmps[1]? = some _ := H.keep e1 rfl
          replace e2 : a.tmps[2]? = some _ := H.keep e2 rfl
          replace e3 : a.tmps[3]? = some _ := H.keep e3 rfl
          replace e7 : a.tmps[7]? = some _ := H.keep e7 rfl
          replace e9 : a.tmps[9]? = some _ := H.keep e9 rfl
          replace e11 : a.tmps[11]? = some _ := H.keep e11 rfl
          replace e12 : a.tmps[12]? = some _ := H.got rfl rfl
          have e57 : a.tmps[57]? = some _ := H.got rfl rfl
          clear H
          refine hKq18 _ _ ?_
          clear hKq18 Kq18
          refine wp_cond_true (slotE e57) ?_
          clear e57
          refine wp_seq_k fun Kq19 hKq19 => ?_
          refine wp_seq_k fun Kq20 hKq20 => ?_
          obtain ⟨ow, how⟩ : ∃ o, o = offV C := ⟨_, rfl⟩
          have hofb2 : offb = ow := hofb.trans how.symm
          subst hofb2
          have B5z := B510.kept hbb
          rw [← how] at B5z
          obtain ⟨A5, c5, rfl, _, hr5⟩ := ownsRow_reads OW10
          obtain ⟨A9, c9, rfl, _, hr9⟩ := ownsRow_reads OWb
          have hr5y := (hr5.below hbb).more hbb.size
          have hr9y := (hr9.below Lxb).more Lxb.size
          obtain ⟨k, hk⟩ : ∃ k, k = Wb.length := ⟨_, rfl⟩
          rw [← hk] at Bpb hr9y B5z hr5y
          have HK := Lib.hid hk
          have hk16 : k ≤ 1000 := by rw [hk, (make_less HMKa.out 0).1]; omega
          clear hk
          have y0 := B5z.cellOf (v := .int .i64 offb) 0 rfl
          have y1 := B5z.cellOf (v := .slice A5 k c5) 1 rfl
          have z0 := Bpb.cellOf (v := .int .i64 offb) 0 rfl
          have z1 := Bpb.cellOf (v := .slice A9 k c9) 1 rfl
          refine sm_list [7, 11] 58 14 hs hd (by kernel_rfl) (agC e7 (agC e11 agN)) (by simp only [List.append_eq, List.cons_append, List.nil_append, List.map_cons, List.map_nil, reOper, reOp, reO, reC, reK, Option.map_some, Option.map_none, fS_ite, ix_ite, Nat.reduceLeDiff, Nat.reduceEqDiff, if_true, if_false, ↓reduceIte, List.length_cons, List.length_nil, Nat.reduceAdd, Nat.reduceSub, List.map_toArray]; rfl) ?_
          simp only [List.replicate_succ, List.replicate_zero, List.cons_append, List.nil_append, List.drop_succ_cons, List.drop_zero, List.take_succ_cons, List.take_zero]
          go_wp2_with fail
          intro a H
          replace hs := H.size.trans hs
          replace hd : a.defers = [] := H.defers
          replace e1 : a.tmps[1]? = some _ := H.keep e1 rfl
          replace e2 : a.tmps[2]? = some _ := H.keep e2 rfl
          replace e3 : a.tmps[3]? = some _ := H.keep e3 rfl
          replace e7 : a.tmps[7]? = some _ := H.got rfl rfl
          replace e9 : a.tmps[9]? = some _ := H.keep e9 rfl
          replace e11 : a.tmps[11]? = some _ := H.got rfl rfl
          replace e12 : a.tmps[12]? = some _ := H.keep e12 rfl
          have e71 : a.tmps[71]? = some _ := H.got rfl rfl
          clear H
          refine hKq20 _ _ ?_
          clear hKq20 Kq20
          refine wp_cond_false (slotE e71) ?_
          clear e71
          refine wp_skip ?_
          refine hKq19 _ _ ?_
          clear hKq19 Kq19
          refine wp_seq_k fun Kq21 hKq21 => ?_
          clear y0 z0
          refine sm_list [7] 72 4 hs hd (by kernel_rfl) (agC e7 agN) (by simp only [List.append_eq, List.cons_append, List.nil_append, List.map_cons, List.map_nil, reOper, reOp, reO, reC, reK, Option.map_some, Option.map_none, fS_ite, ix_ite, Nat.reduceLeDiff, Nat.reduceEqDiff, if_true, if_false, ↓reduceIte, List.length_cons, List.length_nil, Nat.reduceAdd, Nat.reduceSub, List.map_toArray]; rfl) ?_
          simp only [List.replicate_succ, List.replicate_zero, List.cons_append, List.nil_append, List.drop_succ_cons, List.drop_zero, List.take_succ_cons, List.take_zero]
          go_wp2_with fail
          intro a H
          replace hs := H.size.trans hs
          replace hd : a.defers = [] := H.defers
          replace e1 : a.tmps[1]? = some _ := H.keep e1 rfl
          replace e2 : a.tmps[2]? = some _ := H.keep e2 rfl
          replace e3 : a.tmps[3]? = some _ := H.keep e3 rfl
          replace e7 : a.tmps[7]? = some _ := H.got rfl rfl
          replace e9 : a.tmps[9]? = some _ := H.keep e9 rfl
          replace e11 : a.tmps[11]? = some _ := H.keep e11 rfl
          replace e12 : a.tmps[12]? = some _ := H.keep e12 rfl
          have e74 : a.tmps[74]? = some _ := H.got rfl rfl
          have e75 : a.tmps[75]? = some _ := H.got rfl rfl
          clear H
          refine hKq21 _ _ ?_
          clear hKq21 Kq21
          refine wp_block ?_
          clear e1
          clear e9
          clear e12
          have hg5z : g5 < w11.heap.size := B5z.lt
          have hg9z : g9 < w11.heap.size := Bpb.lt
          refine wp_loop (fun a w' => ∃ j : Nat, j ≤ k ∧ a.tmps.size = 109 ∧ a.defers = [] ∧ a.tmps[2]? = some (.int .i64 ev) ∧ a.tmps[3]? = some (.pointer (some ⟨g, 0, none⟩)) ∧ a.tmps[7]? = some (.pointer (some ⟨g5, 0, none⟩)) ∧ a.tmps[11]? = some (.pointer (some ⟨g9, 0, none⟩)) ∧ a.tmps[74]? = some (.int .i64 (k : Int)) ∧ a.tmps[75]? = some (.int .i64 (j : Int)) ∧ Below w11.heap.size w11 w') (fun a _ => k - (intOf (a.tmps.getD 75 undef)).toNat) ?_ ?_
          · exact ⟨0, Nat.zero_le _, hs, hd, e2, e3, e7, e11, e74, e75, Below.refl _ _⟩
          clear hs hd e75 e2 e3 e7 e11 e74 a
          rintro a w12 ⟨j, hj, hs, hd, e2, e3, e7, e11, e74, e75, hb12⟩
          have hm := slot e75
          refine wp_seq_k fun Kq22 hKq22 => ?_
          by_cases hlt : j < k
          ·
            have dj : decide ((j : Int) < (k : Int)) = true := decide_eq_true (by omega)
            obtain ⟨x9, hx9⟩ : ∃ x, Wb[j]? = some x := ⟨_, List.getElem?_eq_getElem (by rw [← HK.out]; exact hlt)⟩
            obtain ⟨x5, hx5⟩ : ∃ x, Wb[j]? = some x := ⟨_, hx9⟩
            obtain rfl : x9 = x5 := by rw [hx9] at hx5; exact Option.some.inj hx5
            refine sm_list [74, 75] 76 1 hs hd (by kernel_rfl) (agC e74 (agC e75 agN)) (by simp only [List.append_eq, List.cons_append, List.nil_append, List.map_cons, List.map_nil, reOper, reOp, reO, reC, reK, Option.map_some, Option.map_none, fS_ite, ix_ite, Nat.reduceLeDiff, Nat.reduceEqDiff, if_true, if_false, ↓reduceIte, List.length_cons, List.length_nil, Nat.reduceAdd, Nat.reduceSub, List.map_toArray]; rfl) ?_
            simp only [List.replicate_succ, List.replicate_zero, List.cons_append, List.nil_append, List.drop_succ_cons, List.drop_zero, List.take_succ_cons, List.take_zero]
            go_wp2_with fail
            intro a H
            replace hs := H.size.trans hs
            replace hd : a.defers = [] := H.defers
            replace e2 : a.tmps[2]? = some _ := H.keep e2 rfl
            replace e3 : a.tmps[3]? = some _ := H.keep e3 rfl
            replace e7 : a.tmps[7]? = some _ := H.keep e7 rfl
            replace e11 : a.tmps[11]? = some _ := H.keep e11 rfl
            replace e74 : a.tmps[74]? = some _ := H.got rfl rfl
            replace e75 : a.tmps[75]? = some _ := H.got rfl rfl
            have e76 : a.tmps[76]? = some _ := H.got rfl rfl
            clear H
            refine hKq22 _ _ ?_
            clear hKq22 Kq22
            refine wp_seq_k fun Kq23 hKq23 => ?_
            refine wp_cond_true (slotE e76) ?_
            clear e76
            refine wp_skip ?_
            refine hKq23 _ _ ?_
            clear hKq23 Kq23
            refine wp_seq_k fun Kq24 hKq24 => ?_
            refine wp_block ?_
            refine wp_seq_k fun Kq25 hKq25 => ?_
            refine sm_list [13, 75] 77 1 hs hd (by kernel_rfl) (agU (agC e75 agN)) (by simp only [List.append_eq, List.cons_append, List.nil_append, List.map_cons, List.map_nil, reOper, reOp, reO, reC, reK, Option.map_some, Option.map_none, fS_ite, ix_ite, Nat.reduceLeDiff, Nat.reduceEqDiff, if_true, if_false, ↓reduceIte, List.length_cons, List.length_nil, Nat.reduceAdd, Nat.reduceSub, List.map_toArray]; rfl) ?_
            simp only [List.replicate_succ, List.replicate_zero, List.cons_append, List.nil_append, List.drop_succ_cons, List.drop_zero, List.take_succ_cons, List.take_zero]
            go_wp2_with fail
            intro a H
            replace hs := H.size.trans hs
            replace hd : a.defers = [] := H.defers
            replace e2 : a.tmps[2]? = some _ := H.keep e2 rfl
            replace e3 : a.tmps[3]? = some _ := H.keep e3 rfl
            replace e7 : a.tmps[7]? = some _ := H.keep e7 rfl
            replace e11 : a.tmps[11]? = some _ := H.keep e11 rfl
            replace e74 : a.tmps[74]? = some _ := H.keep e74 rfl
            replace e75 : a.tmps[75]? = some _ := H.got rfl rfl
            have e13 : a.tmps[13]? = some _ := H.got rfl rfl
            clear H
            refine hKq25 _ _ ?_
            clear hKq25 Kq25
            refine wp_seq_k fun Kq26 hKq26 => ?_
            obtain ⟨ad9, h9, hb9, hc9⟩ := reads_at spc_len (hr9y.below hb12) hx9 hlt
            obtain ⟨ad5, h5, hb5, hc5⟩ := reads_at spc_len (hr5y.below hb12) hx5 hlt
            have z1x := (hb12.cell (p := ⟨g9, 1, none⟩) hg9z).trans z1
            have y1x := (hb12.cell (p := ⟨g5, 1, none⟩) hg5z).trans y1
            rw [h9] at z1x
            rw [h5] at y1x
            have hg5w : g5 < w12.heap.size := Nat.lt_of_lt_of_le hg5z hb12.size
            have hg9w : g9 < w12.heap.size := Nat.lt_of_lt_of_le hg9z hb12.size
            have hszz := hb12.size
            have hneq := fun W => run_neq_win x9 x9 W
            have hneq2 := fun W => run_neq_win x9 x9 W
            simp only [decide_true, Bool.not_true] at hneq hneq2
            have HC9 : Hid (∀ w', Below w12.heap.size w12 w' → ∀ q v, (#[.int .i64 x9.1, .int .i64 x9.2] : Array Value).toList[q]? = some v → w'.cell? ((ad9.add (j * 2)).add q) = some v) := Lib.hid fun w' hw' q v hv => (hw'.cell (p := (ad9.add (j * 2)).add q) (by rw [add_blk, add_blk]; omega)).trans (hc9 q v hv)
            have HC5 : Hid (∀ w', Below w12.heap.size w12 w' → ∀ q v, (#[.int .i64 x9.1, .int .i64 x9.2] : Array Value).toList[q]? = some v → w'.cell? ((ad5.add (j * 2)).add q) = some v) := Lib.hid fun w' hw' q v hv => (hw'.cell (p := (ad5.add (j * 2)).add q) (by rw [add_blk, add_blk]; omega)).trans (hc5 q v hv)
            clear hc9 hc5 hx9 hx5 h9 h5
            suffices HK : ∀ (a' : Act) (w13 : World), a'.tmps.size = a.tmps.size → a'.defers = [] → a'.tmps[2]? = a.tmps[2]? → a'.tmps[3]? = a.tmps[3]? → a'.tmps[7]? = a.tmps[7]? → a'.tmps[11]? = a.tmps[11]? → a'.tmps[74]? = a.tmps[74]? → a'.tmps[75]? = a.tmps[75]? → a'.tmps[13]? = a.tmps[13]? → a'.tmps[88]? = some (.bool false) → Below w12.heap.size w12 w13 → Kq26 a' w13 by
              refine sm_any [7, 11, 13] 78 11 (by kernel_rfl) hs hd (by kernel_rfl) (agC e7 (agC e11 (agC e13 agN))) (by simp only [List.append_eq, List.cons_append, List.nil_append, List.map_cons, List.map_nil, reOper, reOp, reO, reC, reK, Option.map_some, Option.map_none, fS_ite, ix_ite, Nat.reduceLeDiff, Nat.reduceEqDiff, if_true, if_false, ↓reduceIte, List.length_cons, List.length_nil, Nat.reduceAdd, Nat.reduceSub, List.map_toArray]; rfl) (any_class (fun w' => Below w12.heap.size w12 w') (by kernel_rfl) ((Below.refl _ _).drew) ?_)
              simp only [List.replicate_succ, List.replicate_zero, List.cons_append, List.nil_append, List.drop_succ_cons, List.drop_zero, List.take_succ_cons, List.take_zero]
              repeat (first | (with_reducible (refine wpQuiet_skip ?_ ?_); (first | exact wanted_off rfl rfl rfl rfl | exact wanted_off2 rfl rfl rfl); simp only [Act.put, List.setIfInBounds_toArray, List.set_cons_zero, List.set_cons_succ]) | (refine wpQuiet_val (v := .agg #[.int .i64 x9.1, .int .i64 x9.2]) ?_ (fun w' hw' => run_load_cells_d 52 (.tmp 11) rfl (ad9.add (j * 2)) rfl (#[.int .i64 x9.1, .int .i64 x9.2]) (HC9.out w' hw') Try.underlying52 rfl (by kernel_rfl)) ?_; (first | exact wanted_none rfl | exact wanted_on rfl rfl rfl); simp only [Act.put, List.setIfInBounds_toArray, List.set_cons_zero, List.set_cons_succ]) | (refine wpQuiet_val (v := .agg #[.int .i64 x9.1, .int .i64 x9.2]) ?_ (fun w' hw' => run_load_cells_d 52 (.tmp 6) rfl (ad5.add (j * 2)) rfl (#[.int .i64 x9.1, .int .i64 x9.2]) (HC5.out w' hw') Try.underlying52 rfl (by kernel_rfl)) ?_; (first | exact wanted_none rfl | exact wanted_on rfl rfl rfl); simp only [Act.put, List.setIfInBounds_toArray, List.set_cons_zero, List.set_cons_succ]) | (with_reducible (refine wpQuiet_val (v := ?_) ?_ ?_ ?_); rotate_left; (first | exact wanted_none rfl | exact wanted_on rfl rfl rfl); (intro w' hw'; obtain ⟨hc, hf⟩ := bcell hw'; go_simp; with_reducible rfl); simp only [Act.put, List.setIfInBounds_toArray, List.set_cons_zero, List.set_cons_succ]))
              refine wpQuiet_nil ?_
              intro w13 hw6
              all_goals
                intro a' H
                refine HK a' _ H.size H.defers (H.out 2 rfl) (H.out 3 rfl) ((H.got rfl rfl).trans e7.symm) ((H.got rfl rfl).trans e11.symm) (H.out 74 rfl) (H.out 75 rfl) ((H.got rfl rfl).trans e13.symm) ?_ ?_
                · exact H.got rfl rfl
                · exact hw6
            intro a' w13 g_s g_d g2 g3 g7 g11 g74 g75 g13 f88 hb13
            replace hs := g_s.trans hs
            replace hd := g_d
            replace e2 := g2.trans e2
            replace e3 := g3.trans e3
            replace e7 := g7.trans e7
            replace e11 := g11.trans e11
            replace e74 := g74.trans e74
            replace e75 := g75.trans e75
            replace e13 := g13.trans e13
            clear g_s g_d g2 g3 g7 g11 g74 g75 g13
            have e88 := f88
            clear f88
            clear a
            obtain ⟨a, rfl⟩ : ∃ a, a = a' := ⟨_, rfl⟩
            refine hKq26 _ _ ?_
            clear hKq26 Kq26
            refine wp_cond_false (slotE e88) ?_
            clear e88
            refine wp_skip ?_
            refine hKq24 _ _ ?_
            clear hKq24 Kq24
            clear e13
            refine sm_list [75] 89 1 hs hd (by kernel_rfl) (agC e75 agN) (by simp only [List.append_eq, List.cons_append, List.nil_append, List.map_cons, List.map_nil, reOper, reOp, reO, reC, reK, Option.map_some, Option.map_none, fS_ite, ix_ite, Nat.reduceLeDiff, Nat.reduceEqDiff, if_true, if_false, ↓reduceIte, List.length_cons, List.length_nil, Nat.reduceAdd, Nat.reduceSub, List.map_toArray]; rfl) ?_
            simp only [List.replicate_succ, List.replicate_zero, List.cons_append, List.nil_append, List.drop_succ_cons, List.drop_zero, List.take_succ_cons, List.take_zero]
            go_wp2_with fail
            intro a H
            replace hs := H.size.trans hs
            replace hd : a.defers = [] := H.defers
            replace e2 : a.tmps[2]? = some _ := H.keep e2 rfl
            replace e3 : a.tmps[3]? = some _ := H.keep e3 rfl
            replace e7 : a.tmps[7]? = some _ := H.keep e7 rfl
            replace e11 : a.tmps[11]? = some _ := H.keep e11 rfl
            replace e74 : a.tmps[74]? = some _ := H.keep e74 rfl
            replace e75 : a.tmps[75]? = some _ := H.got rfl rfl
            clear H
            exact ⟨⟨j + 1, by omega, hs, hd, e2, e3, e7, e11, e74, e75, hb12.trans (hb13.mono hszz)⟩, by first | (simp only [hm, slot e75, intOf]; omega) | (simp [e75, intOf]; omega)⟩
          · obtain rfl : j = k := by omega
            have dj : decide ((j : Int) < (j : Int)) = false := decide_eq_false (by omega)
            clear hlt hm
            refine sm_list [74, 75] 76 1 hs hd (by kernel_rfl) (agC e74 (agC e75 agN)) (by simp only [List.append_eq, List.cons_append, List.nil_append, List.map_cons, List.map_nil, reOper, reOp, reO, reC, reK, Option.map_some, Option.map_none, fS_ite, ix_ite, Nat.reduceLeDiff, Nat.reduceEqDiff, if_true, if_false, ↓reduceIte, List.length_cons, List.length_nil, Nat.reduceAdd, Nat.reduceSub, List.map_toArray]; rfl) ?_
            simp only [List.replicate_succ, List.replicate_zero, List.cons_append, List.nil_append, List.drop_succ_cons, List.drop_zero, List.take_succ_cons, List.take_zero]
            go_wp2_with fail
            intro a H
            replace hs := H.size.trans hs
            replace hd : a.defers = [] := H.defers
            replace e2 : a.tmps[2]? = some _ := H.keep e2 rfl
            replace e3 : a.tmps[3]? = some _ := H.keep e3 rfl
            replace e7 : a.tmps[7]? = some _ := H.keep e7 rfl
            replace e11 : a.tmps[11]? = some _ := H.keep e11 rfl
            replace e74 : a.tmps[74]? = some _ := H.got rfl rfl
            replace e75 : a.tmps[75]? = some _ := H.got rfl rfl
            have e76 : a.tmps[76]? = some _ := H.got rfl rfl
            clear H
            refine hKq22 _ _ ?_
            clear hKq22 Kq22
            refine wp_seq_k fun Kq23 hKq23 => ?_
            refine wp_cond_false (slotE e76) ?_
            clear e76
            refine wp_exit ?_
            refine exit_then rfl ?_
            clear hKq23 Kq23
            refine exit_then rfl ?_
            refine exit_hit ?_
            refine hKq17 _ _ ?_
            clear hKq17 Kq17
            refine wp_seq_k fun Kq24 hKq24 => ?_
            clear e75
            have L12 := L11.trans (hb12.mono (Nat.le_of_lt hgz11))
            have BC12 := BC11.kept hb12
            have hC12 := hC11.below (hb12.mono (Nat.le_of_lt hgz11))
            have hgz12 : g < w12.heap.size := BC12.lt
            clear e7
            clear e11
            clear e74
            refine sm_list [3, 14] 96 1 hs hd (by kernel_rfl) (agC e3 (agU agN)) (by simp only [List.append_eq, List.cons_append, List.nil_append, List.map_cons, List.map_nil, reOper, reOp, reO, reC, reK, Option.map_some, Option.map_none, fS_ite, ix_ite, Nat.reduceLeDiff, Nat.reduceEqDiff, if_true, if_false, ↓reduceIte, List.length_cons, List.length_nil, Nat.reduceAdd, Nat.reduceSub, List.map_toArray]; rfl) ?_
            simp only [List.replicate_succ, List.replicate_zero, List.cons_append, List.nil_append, List.drop_succ_cons, List.drop_zero, List.take_succ_cons, List.take_zero]
            go_wp2_with (first | (refine wpList_load_any_d rfl 26 (.tmp 0) rfl ⟨g, 0, none⟩ rfl (cfc C Y) _ (blk_cells BC12) Try.underlying26 rfl (by kernel_rfl) ?_) | (refine wpList_store_new rfl 26 (.tmp 1) (.tmp 2) rfl rfl rfl rfl rfl (by kernel_rfl) (by rw [← Array.all_toList]; rfl) ?_) | fail)
            intro a H
            replace hs := H.size.trans hs
            replace hd : a.defers = [] := H.defers
            replace e2 : a.tmps[2]? = some _ := H.keep e2 rfl
            replace e3 : a.tmps[3]? = some _ := H.got rfl rfl
            have e14 : a.tmps[14]? = some _ := H.got rfl rfl
            clear H
            refine hKq24 _ _ ?_
            clear hKq24 Kq24
            refine wp_seq_k fun Kq25 hKq25 => ?_
            have B14 := Blk.new w12 26 (cfc C Y)
            have Lt : Below w12.heap.size w12 (w12.alloc (.cells (cfc C Y) 26)) := (Below.refl _ _).alloc (Nat.le_refl _) _
            have BCt := BC12.kept Lt
            have hCt := hC12.below (Lt.mono (Nat.le_of_lt hgz12))
            have Ltw := L12.trans (Lt.mono (Nat.le_of_lt hgz12))
            obtain ⟨g14, hg14⟩ : ∃ q, q = w12.heap.size := ⟨_, rfl⟩
            rw [← hg14] at B14 e14
            have hgg14 : g < g14 := by rw [hg14]; exact hgz12
            generalize (w12.alloc (.cells (cfc C Y) 26)) = wt at *
            clear hg14 Lt
            obtain ⟨y, hy, hy0, hy1⟩ := and_mask ev 20 1048575 rfl (by omega)
            have c4 := BCt.cellOf (v := .int .i64 C.every) 4 rfl
            have d4 := B14.cellOf (v := .int .i64 C.every) 4 rfl
            have fz := B14.frozen
            have xl := B14.lt
            obtain ⟨G, hG⟩ : ∃ G, G = min (C.every + y) 1073741824 := ⟨_, rfl⟩
            have hGe : C.every ≤ G ∧ G ≤ 1073741824 := by rw [hG]; omega
            have HGM := Lib.hid hG
            clear hG
            suffices HK : ∀ (a' : Act) (wu : World), a'.tmps.size = a.tmps.size → a'.defers = [] → a'.tmps[2]? = a.tmps[2]? → a'.tmps[3]? = a.tmps[3]? → a'.tmps[14]? = a.tmps[14]? → Blk wu g14 26 (cfc { C with every := G } Y) → wt.grownBy wu (some g14) → Kq25 a' wu by
              refine sm_list [2, 3, 14] 97 7 hs hd (by kernel_rfl) (agC e2 (agC e3 (agC e14 agN))) (by simp only [List.append_eq, List.cons_append, List.nil_append, List.map_cons, List.map_nil, reOper, reOp, reO, reC, reK, Option.map_some, Option.map_none, fS_ite, ix_ite, Nat.reduceLeDiff, Nat.reduceEqDiff, if_true, if_false, ↓reduceIte, List.length_cons, List.length_nil, Nat.reduceAdd, Nat.reduceSub, List.map_toArray]; rfl) ?_
              simp only [List.replicate_succ, List.replicate_zero, List.cons_append, List.nil_append, List.drop_succ_cons, List.drop_zero, List.take_succ_cons, List.take_zero]
              go_wp2_with fail
              all_goals
                intro a' H
                refine HK a' _ H.size H.defers ((H.got rfl rfl).trans e2.symm) ((H.got rfl rfl).trans e3.symm) ((H.got rfl rfl).trans e14.symm) ?_ ?_
                · have h := B14.set_ 4 (.int .i64 G); have e : cfc { C with every := G } Y = (cfc C Y).setIfInBounds 4 (.int .i64 G) := (by simp [cfc]); rw [e, ← HGM.out]; exact h
                · exact gr_set (grownBy_refl wt _) 4 _
            intro a' wu g_s g_d g2 g3 g14 B14u gru
            replace hs := g_s.trans hs
            replace hd := g_d
            replace e2 := g2.trans e2
            replace e3 := g3.trans e3
            replace e14 := g14.trans e14
            clear g_s g_d g2 g3 g14
            clear a
            obtain ⟨a, rfl⟩ : ∃ a, a = a' := ⟨_, rfl⟩
            refine hKq25 _ _ ?_
            clear hKq25 Kq25
            refine wp_seq_k fun Kq26 hKq26 => ?_
            clear c4 d4 fz xl hy
            have hlw : g ≤ wt.heap.size := Nat.le_of_lt BCt.lt
            have Lu := Ltw.grown gru hlw (fun k hk => by cases hk; exact Nat.le_of_lt hgg14)
            have BCu := BCt.grown gru (fun e => by injection e with e; omega)
            have hCu : CfAt wu g C Y := hCt.below ((Below.refl g wt).grown gru hlw (fun k hk => by cases hk; exact Nat.le_of_lt hgg14))
            have hgzu : g < wu.heap.size := BCu.lt
            have hCg : CfAt wu g { C with every := G } Y := ⟨hCu.nodes, hCu.links, hCu.wslen, hCu.flows, hCu.ways⟩
            have hoG : OffOk { C with every := G } := ⟨HOFF.out.n1, HOFF.out.n2, HOFF.out.l1, HOFF.out.l, by show 1000 ≤ G; omega, hGe.2, HOFF.out.p1, HOFF.out.p2, HOFF.out.g1, HOFF.out.g2⟩
            have hle := offV_every HOFF.out hGe.1
            obtain ⟨o1, ho1⟩ : ∃ o, o = offV { C with every := G } := ⟨_, rfl⟩
            obtain ⟨o0, ho0⟩ : ∃ o, o = offV C := ⟨_, rfl⟩
            rw [← ho1, ← ho0] at hle
            have dle : decide (o0 ≤ o1) = true := decide_eq_true hle
            have H1 : Hid (∀ w', Below wu.heap.size wu w' → Calls Try.prog 14 #[.agg (cfc { C with every := G } Y)] w' fun e w2 => e = .returned (.int .i64 o1) ∧ Below w'.heap.size w' w2) := Lib.hid fun w' hw' => by rw [ho1]; exact off_any _ Y w' ((hCg.below (hw'.mono (Nat.le_of_lt hgzu))).more (Nat.le_trans (Nat.le_of_lt hgzu) hw'.size)) hoG
            have H0 : Hid (∀ w', Below wu.heap.size wu w' → Calls Try.prog 14 #[.agg (cfc C Y)] w' fun e w2 => e = .returned (.int .i64 o0) ∧ Below w'.heap.size w' w2) := Lib.hid fun w' hw' => by rw [ho0]; exact off_any _ Y w' ((hCu.below (hw'.mono (Nat.le_of_lt hgzu))).more (Nat.le_trans (Nat.le_of_lt hgzu) hw'.size)) HOFF.out
            clear ho1 ho0 hle hoG
            have B14l := B14u.lt
            suffices HK : ∀ (a' : Act) (wv : World), a'.tmps.size = a.tmps.size → a'.defers = [] → a'.tmps[2]? = a.tmps[2]? → a'.tmps[3]? = a.tmps[3]? → a'.tmps[14]? = a.tmps[14]? → a'.tmps[6]? = some (.bool true) → Below wu.heap.size wu wv → Kq26 a' wv by
              refine sm_any [3, 6, 14] 104 5 (by kernel_rfl) hs hd (by kernel_rfl) (agC e3 (agU (agC e14 agN))) (by simp only [List.append_eq, List.cons_append, List.nil_append, List.map_cons, List.map_nil, reOper, reOp, reO, reC, reK, Option.map_some, Option.map_none, fS_ite, ix_ite, Nat.reduceLeDiff, Nat.reduceEqDiff, if_true, if_false, ↓reduceIte, List.length_cons, List.length_nil, Nat.reduceAdd, Nat.reduceSub, List.map_toArray]; rfl) (any_class (fun w' => Below wu.heap.size wu w') (by kernel_rfl) ((Below.refl _ _).drew) ?_)
              simp only [List.replicate_succ, List.replicate_zero, List.cons_append, List.nil_append, List.drop_succ_cons, List.drop_zero, List.take_succ_cons, List.take_zero]
              repeat (first | (refine wpQuiet_val (v := .agg (cfc { C with every := G } Y)) ?_ (fun w' hw' => run_load_whole_d 26 (.tmp 2) rfl rfl (B14u.kept hw') Try.underlying26 rfl (by kernel_rfl)) ?_; (first | exact wanted_none rfl | exact wanted_on rfl rfl rfl); simp only [Act.put, List.setIfInBounds_toArray, List.set_cons_zero, List.set_cons_succ]) | (refine wpQuiet_val (v := .agg (cfc C Y)) ?_ (fun w' hw' => run_load_whole_d 26 (.tmp 0) rfl rfl (BCu.kept hw') Try.underlying26 rfl (by kernel_rfl)) ?_; (first | exact wanted_none rfl | exact wanted_on rfl rfl rfl); simp only [Act.put, List.setIfInBounds_toArray, List.set_cons_zero, List.set_cons_succ]) | (with_reducible (refine wpQuiet_call (v := ?_) 14 ?_ ?_ ?_ ?_ ?_); rotate_left 2; (first | exact wanted_none rfl | exact wanted_on rfl rfl rfl); (intro w' hw'; obtain ⟨hc, hf⟩ := bcell hw'; go_simp; with_reducible rfl); (intro w' hw'; (with_reducible refine (H1.out w' hw').mono ?_); rintro e w2 ⟨rfl, hb⟩; refine ⟨?_, hw'.trans (hb.mono (by have h0 := hw'.size; first | omega | (simp at h0; omega)))⟩; with_reducible rfl); simp only [Act.put, List.setIfInBounds_toArray, List.set_cons_zero, List.set_cons_succ]) | (with_reducible (refine wpQuiet_call (v := ?_) 14 ?_ ?_ ?_ ?_ ?_); rotate_left 2; (first | exact wanted_none rfl | exact wanted_on rfl rfl rfl); (intro w' hw'; obtain ⟨hc, hf⟩ := bcell hw'; go_simp; with_reducible rfl); (intro w' hw'; (with_reducible refine (H0.out w' hw').mono ?_); rintro e w2 ⟨rfl, hb⟩; refine ⟨?_, hw'.trans (hb.mono (by have h0 := hw'.size; first | omega | (simp at h0; omega)))⟩; with_reducible rfl); simp only [Act.put, List.setIfInBounds_toArray, List.set_cons_zero, List.set_cons_succ]) | (with_reducible (refine wpQuiet_val (v := ?_) ?_ ?_ ?_); rotate_left; (first | exact wanted_none rfl | exact wanted_on rfl rfl rfl); (intro w' hw'; obtain ⟨hc, hf⟩ := bcell hw'; go_simp; with_reducible rfl); simp only [Act.put, List.setIfInBounds_toArray, List.set_cons_zero, List.set_cons_succ]))
              refine wpQuiet_nil ?_
              intro wv hw6
              all_goals
                intro a' H
                refine HK a' _ H.size H.defers (H.out 2 rfl) ((H.got rfl rfl).trans e3.symm) ((H.got rfl rfl).trans e14.symm) ?_ ?_
                · exact H.got rfl rfl
                · exact hw6
            intro a' wv g_s g_d g2 g3 g14 f6 hbv
            replace hs := g_s.trans hs
            replace hd := g_d
            replace e2 := g2.trans e2
            replace e3 := g3.trans e3
            replace e14 := g14.trans e14
            clear g_s g_d g2 g3 g14
            have e6 := f6
            clear f6
            clear a
            obtain ⟨a, rfl⟩ : ∃ a, a = a' := ⟨_, rfl⟩
            refine hKq26 _ _ ?_
            clear hKq26 Kq26
            refine wp_ret ?_
            exact sm_ret rfl hd e6 ⟨rfl, by rw [← HG.out]; exact Lu.trans (hbv.mono (Nat.le_of_lt hgzu))⟩
end Go.Proofs.Ytaegngcbiefckaa
