/-
  A frame on its way.
-/
import Derived.Test.YtaegngcbiefckaaPlnTm
namespace Go.Proofs.Ytaegngcbiefckaa
set_option linter.unusedSimpArgs false
set_option linter.unusedVariables false
open Go.RowKit Go.WideShapes Go.ChangeShapes
attribute [local go_sem ↓] Go.wp_at_zero Go.wp_at_succ

theorem two_len {C : Cf} {S : List Sp} {W : List (Int × Int)} (h : makeV C = .ok (S, W)) {i : Nat} {f : Fw} (hf : C.flows[i]? = some f) {q : Nat} (hq : q < 2) : (two f.w0 f.w1 q).length ≤ 16 := by
  have key : ¬ (16 < f.w0.length ∨ 16 < f.w1.length) := by
    obtain ⟨_, _, rs, h1, _, _⟩ := makeV_ok.1 h
    have go : ∀ (fs : List Fw) (rs : List (List Sp × (Int × Int))) (j : Nat), FlowsOk C (offV C) fs rs → fs[j]? = some f → ¬ (16 < f.w0.length ∨ 16 < f.w1.length) := by
      intro fs
      induction fs with
      | nil => intro rs j _ hj; simp at hj
      | cons g fs ih =>
        intro rs j hok hj
        cases rs with
        | nil => exact hok.elim
        | cons r rs =>
          cases j with
          | zero =>
            simp at hj
            subst hj
            intro hb
            have h2 := hok.1
            unfold flowGo at h2
            split at h2
            · cases h2
            · first | cases h2 | (rw [if_pos hb] at h2; cases h2)
          | succ j => exact ih rs j hok.2 (by simpa using hj)
    exact go _ rs i h1 hf
  rcases (by omega : q = 0 ∨ q = 1) with rfl | rfl
  · show f.w0.length ≤ 16
    omega
  · show f.w1.length ≤ 16
    omega
set_option maxRecDepth 100000 in
set_option maxHeartbeats 4000000 in
theorem times_any (C : Cf) (Y : Lay) (flow way hop late oa : Int) (w : World) (hC : CfAt w w.heap.size C Y) (hFit : Fits C Y) : Calls Try.prog 8 #[.agg (cfc C Y), .int .i64 flow, .int .i64 way, .int .i64 hop, .int .i64 late, .int .i64 oa] w fun e w' => e = .returned (.bool true) ∧ Below w.heap.size w w' := by
  have HFIT := Lib.hid hFit
  clear hFit
  refine calls_sm (N := 173) Try.func8 rfl (by kernel_rfl) ?_
  intro a hs hd ha
  have e0 : a.tmps[0]? = some (.agg (cfc C Y)) := ha 0 _ rfl
  have e1 : a.tmps[1]? = some (.int .i64 flow) := ha 1 _ rfl
  have e2 : a.tmps[2]? = some (.int .i64 way) := ha 2 _ rfl
  have e3 : a.tmps[3]? = some (.int .i64 hop) := ha 3 _ rfl
  have e4 : a.tmps[4]? = some (.int .i64 late) := ha 4 _ rfl
  have e5 : a.tmps[5]? = some (.int .i64 oa) := ha 5 _ rfl
  clear ha
  conv => arg 2; whnf
  refine wp_seq_k fun Kq1 hKq1 => ?_
  refine sm_list [0, 6] 12 1 hs hd (by kernel_rfl) (agC e0 (agU agN)) (by simp only [List.append_eq, List.cons_append, List.nil_append, List.map_cons, List.map_nil, reOper, reOp, reO, reC, reK, Option.map_some, Option.map_none, fS_ite, ix_ite, Nat.reduceLeDiff, Nat.reduceEqDiff, if_true, if_false, ↓reduceIte, List.length_cons, List.length_nil, Nat.reduceAdd, Nat.reduceSub, List.map_toArray]; rfl) ?_
  simp only [List.replicate_succ, List.replicate_zero, List.cons_append, List.nil_append, List.drop_succ_cons, List.drop_zero, List.take_succ_cons, List.take_zero]
  go_wp2_with fail
  intro a H
  replace hs := H.size.trans hs
  replace hd : a.defers = [] := H.defers
  replace e1 : a.tmps[1]? = some _ := H.keep e1 rfl
  replace e2 : a.tmps[2]? = some _ := H.keep e2 rfl
  replace e3 : a.tmps[3]? = some _ := H.keep e3 rfl
  replace e4 : a.tmps[4]? = some _ := H.keep e4 rfl
  replace e5 : a.tmps[5]? = some _ := H.keep e5 rfl
  clear e0
  have e6 : a.tmps[6]? = some _ := H.got rfl rfl
  clear H
  refine hKq1 _ _ ?_
  clear hKq1 Kq1
  refine wp_seq_k fun Kq2 hKq2 => ?_
  refine wp_seq_k fun Kq3 hKq3 => ?_
  have BC := Blk.new w 26 (cfc C Y)
  have L0 : Below w.heap.size w (w.alloc (.cells (cfc C Y) 26)) := (Below.refl _ _).alloc (Nat.le_refl _) _
  have hz1 : w.heap.size < (w.alloc (.cells (cfc C Y) 26)).heap.size := by simp
  replace hC := (hC.below L0)
  generalize w.alloc (.cells (cfc C Y) 26) = w1 at *
  obtain ⟨g, hg⟩ : ∃ g, g = w.heap.size := ⟨_, rfl⟩
  rw [← hg] at BC hz1 hC e6 L0
  have HG := Lib.hid hg
  clear hg
  have HH := Lib.hid (head_any w1)
  have hgz1 : g < w1.heap.size := BC.lt
  refine sm_list [] 24 2 hs hd (by kernel_rfl) agN (by simp only [List.append_eq, List.cons_append, List.nil_append, List.map_cons, List.map_nil, reOper, reOp, reO, reC, reK, Option.map_some, Option.map_none, fS_ite, ix_ite, Nat.reduceLeDiff, Nat.reduceEqDiff, if_true, if_false, ↓reduceIte, List.length_cons, List.length_nil, Nat.reduceAdd, Nat.reduceSub, List.map_toArray]; rfl) ?_
  simp only [List.replicate_succ, List.replicate_zero, List.cons_append, List.nil_append, List.drop_succ_cons, List.drop_zero, List.take_succ_cons, List.take_zero]
  go_wp2_with fail
  refine HH.out.mono ?_
  rintro e w2 ⟨rfl, hb2⟩
  go_wp2_with fail
  intro a H
  replace hs := H.size.trans hs
  replace hd : a.defers = [] := H.defers
  replace e1 : a.tmps[1]? = some _ := H.keep e1 rfl
  replace e2 : a.tmps[2]? = some _ := H.keep e2 rfl
  replace e3 : a.tmps[3]? = some _ := H.keep e3 rfl
  replace e4 : a.tmps[4]? = some _ := H.keep e4 rfl
  replace e5 : a.tmps[5]? = some _ := H.keep e5 rfl
  replace e6 : a.tmps[6]? = some _ := H.keep e6 rfl
  have e25 : a.tmps[25]? = some _ := H.got rfl rfl
  clear H
  refine hKq3 _ _ ?_
  clear hKq3 Kq3
  refine wp_cond_false (slotE e25) ?_
  clear e25
  refine wp_skip ?_
  refine hKq2 _ _ ?_
  clear hKq2 Kq2
  refine wp_seq_k fun Kq4 hKq4 => ?_
  refine wp_seq_k fun Kq5 hKq5 => ?_
  clear HH
  have L2 : Below g w w2 := L0.trans (hb2.mono (Nat.le_of_lt hgz1))
  have BC2 := BC.kept hb2
  have hC2 := hC.below (hb2.mono (Nat.le_of_lt hgz1))
  have hgz2 : g < w2.heap.size := BC2.lt
  clear BC hC L0 hb2
  have HBG := Lib.hid (big_any C Y w2 (hC2.more (Nat.le_of_lt hgz2)))
  obtain ⟨B, hB⟩ : ∃ B, B = bigV C := ⟨_, rfl⟩
  rw [← hB] at HBG
  have HB := Lib.hid hB
  clear hB
  obtain ⟨R, hR⟩ : ∃ R, R = (B || decide (C.flows.length = 0)) := ⟨_, rfl⟩
  have HR := Lib.hid hR
  clear hR
  suffices HK : ∀ (a' : Act) (w3 : World), a'.tmps.size = a.tmps.size → a'.defers = [] → a'.tmps[1]? = a.tmps[1]? → a'.tmps[2]? = a.tmps[2]? → a'.tmps[3]? = a.tmps[3]? → a'.tmps[4]? = a.tmps[4]? → a'.tmps[5]? = a.tmps[5]? → a'.tmps[6]? = a.tmps[6]? → a'.tmps[33]? = some (.bool R) → Below w2.heap.size w2 w3 → Kq5 a' w3 by
    rcases (by cases B <;> simp : B = true ∨ B = false) with rfl | rfl
    all_goals
      refine sm_list [6] 26 8 hs hd (by kernel_rfl) (agC e6 agN) (by simp only [List.append_eq, List.cons_append, List.nil_append, List.map_cons, List.map_nil, reOper, reOp, reO, reC, reK, Option.map_some, Option.map_none, fS_ite, ix_ite, Nat.reduceLeDiff, Nat.reduceEqDiff, if_true, if_false, ↓reduceIte, List.length_cons, List.length_nil, Nat.reduceAdd, Nat.reduceSub, List.map_toArray]; rfl) ?_
      simp only [List.replicate_succ, List.replicate_zero, List.cons_append, List.nil_append, List.drop_succ_cons, List.drop_zero, List.take_succ_cons, List.take_zero]
      go_wp2_with (first | (refine wpList_load_any_d rfl 26 (.tmp 0) rfl ⟨g, 0, none⟩ rfl (cfc C Y) _ (blk_cells BC2) Try.underlying26 rfl (by kernel_rfl) ?_) | fail)
      refine HBG.out.mono ?_
      rintro e w3 ⟨rfl, hb3⟩
      have BC3 := BC2.kept hb3
      have c2 := BC3.cellOf (v := .slice Y.F.A C.flows.length Y.F.c) 2 rfl
      go_wp2_with fail
      all_goals
        intro a' H
        refine HK a' _ H.size H.defers (H.out 1 rfl) (H.out 2 rfl) (H.out 3 rfl) (H.out 4 rfl) (H.out 5 rfl) ((H.got rfl rfl).trans e6.symm) ?_ ?_
        · (refine (H.got (t := 33) rfl rfl).trans (congrArg some ?_); rw [HR.out]; first | rfl | (refine congrArg Value.bool ?_; rw [Bool.false_or, Bool.eq_iff_iff]; simp) | simp)
        · exact hb3
  intro a' w3 g_s g_d g1 g2 g3 g4 g5 g6 f33 hb3
  replace hs := g_s.trans hs
  replace hd := g_d
  replace e1 := g1.trans e1
  replace e2 := g2.trans e2
  replace e3 := g3.trans e3
  replace e4 := g4.trans e4
  replace e5 := g5.trans e5
  replace e6 := g6.trans e6
  clear g_s g_d g1 g2 g3 g4 g5 g6
  have e33 := f33
  clear f33
  clear a
  obtain ⟨a, rfl⟩ : ∃ a, a = a' := ⟨_, rfl⟩
  refine hKq5 _ _ ?_
  clear hKq5 Kq5
  have L3 : Below g w w3 := L2.trans (hb3.mono (Nat.le_of_lt hgz2))
  have BC3 := BC2.kept hb3
  have hC3 := hC2.below (hb3.mono (Nat.le_of_lt hgz2))
  have hgz3 : g < w3.heap.size := BC3.lt
  clear BC2 hC2 L2 hb3 HBG
  rcases (by cases R <;> simp : R = true ∨ R = false) with rfl | rfl
  ·
    refine wp_cond_true (slotE e33) ?_
    clear e33
    refine wp_seq_k fun Kq6 hKq6 => ?_
    refine sm_list [] 12 1 hs hd (by kernel_rfl) agN (by simp only [List.append_eq, List.cons_append, List.nil_append, List.map_cons, List.map_nil, reOper, reOp, reO, reC, reK, Option.map_some, Option.map_none, fS_ite, ix_ite, Nat.reduceLeDiff, Nat.reduceEqDiff, if_true, if_false, ↓reduceIte, List.length_cons, List.length_nil, Nat.reduceAdd, Nat.reduceSub, List.map_toArray]; rfl) ?_
    simp only [List.replicate_succ, List.replicate_zero, List.cons_append, List.nil_append, List.drop_succ_cons, List.drop_zero, List.take_succ_cons, List.take_zero]
    go_wp2_with fail
    intro a H
    replace hs := H.size.trans hs
    replace hd : a.defers = [] := H.defers
    replace e1 : a.tmps[1]? = some _ := H.keep e1 rfl
    replace e2 : a.tmps[2]? = some _ := H.keep e2 rfl
    replace e3 : a.tmps[3]? = some _ := H.keep e3 rfl
    replace e4 : a.tmps[4]? = some _ := H.keep e4 rfl
    replace e5 : a.tmps[5]? = some _ := H.keep e5 rfl
    replace e6 : a.tmps[6]? = some _ := H.keep e6 rfl
    have e12 : a.tmps[12]? = some _ := H.got rfl rfl
    clear H
    refine hKq6 _ _ ?_
    clear hKq6 Kq6
    refine wp_ret ?_
    refine exit_then rfl ?_
    exact sm_ret rfl hd e12 ⟨rfl, by rw [← HG.out]; exact L3⟩
  · have hbf : B = false ∧ C.flows.length ≠ 0 := by have := HR.out; cases B <;> simp at this ⊢; exact fun h => by simp [h] at this
    obtain ⟨hbf1, hfl0⟩ := hbf
    have hbig : bigV C = false := HB.out.symm.trans hbf1
    have HBIG := Lib.hid hbig
    have hfl20 : C.flows.length ≤ 20 := by
      have h := hbig
      unfold bigV at h
      simp only [Bool.or_eq_false_iff, decide_eq_false_iff_not] at h
      omega
    clear hbf1 hbig HR HB B
    refine wp_cond_false (slotE e33) ?_
    clear e33
    refine wp_skip ?_
    refine hKq4 _ _ ?_
    clear hKq4 Kq4
    refine wp_seq_k fun Kq6 hKq6 => ?_
    have HM := Lib.hid (make_any C Y w3 (hC3.more (Nat.le_of_lt hgz3)))
    refine sm_list [6, 13, 14] 34 5 hs hd (by kernel_rfl) (agC e6 (agU (agU agN))) (by simp only [List.append_eq, List.cons_append, List.nil_append, List.map_cons, List.map_nil, reOper, reOp, reO, reC, reK, Option.map_some, Option.map_none, fS_ite, ix_ite, Nat.reduceLeDiff, Nat.reduceEqDiff, if_true, if_false, ↓reduceIte, List.length_cons, List.length_nil, Nat.reduceAdd, Nat.reduceSub, List.map_toArray]; rfl) ?_
    simp only [List.replicate_succ, List.replicate_zero, List.cons_append, List.nil_append, List.drop_succ_cons, List.drop_zero, List.take_succ_cons, List.take_zero]
    go_wp2_with (first | (refine wpList_load_any_d rfl 26 (.tmp 0) rfl ⟨g, 0, none⟩ rfl (cfc C Y) _ (blk_cells BC3) Try.underlying26 rfl (by kernel_rfl) ?_) | fail)
    refine HM.out.mono ?_
    intro e wx hmade
    obtain ⟨ka, offa, wva, mva, rfl, hbx, h1c, hpa⟩ := hmade.two
    have HPa := Lib.hid hpa
    have HBX := Lib.hid hbx
    clear hmade hpa hbx
    go_wp2_with (first | (refine wpList_store_new rfl 32 (.tmp 1) (.tmp 6) rfl rfl rfl rfl rfl (by kernel_rfl) h1c ?_) | fail)
    intro a H
    replace hs := H.size.trans hs
    replace hd : a.defers = [] := H.defers
    replace e1 : a.tmps[1]? = some _ := H.keep e1 rfl
    replace e2 : a.tmps[2]? = some _ := H.keep e2 rfl
    replace e3 : a.tmps[3]? = some _ := H.keep e3 rfl
    replace e4 : a.tmps[4]? = some _ := H.keep e4 rfl
    replace e5 : a.tmps[5]? = some _ := H.keep e5 rfl
    replace e6 : a.tmps[6]? = some _ := H.got rfl rfl
    have e13 : a.tmps[13]? = some _ := H.got rfl rfl
    have e14 : a.tmps[14]? = some _ := H.got rfl rfl
    clear H
    refine hKq6 _ _ ?_
    clear hKq6 Kq6
    refine wp_seq_k fun Kq7 hKq7 => ?_
    refine wp_seq_k fun Kq8 hKq8 => ?_
    have Bpa := Blk.new wx 32 #[.int .i64 offa, wva, mva]
    have hba : Below w3.heap.size w3 (wx.alloc (.cells #[.int .i64 offa, wva, mva] 32)) := HBX.out.alloc HBX.out.size _
    have Lxa : Below wx.heap.size wx (wx.alloc (.cells #[.int .i64 offa, wva, mva] 32)) := (Below.refl _ _).alloc (Nat.le_refl _) _
    have hzxa : w3.heap.size ≤ wx.heap.size := HBX.out.size
    obtain ⟨g13, hgg13⟩ : ∃ q, q = wx.heap.size := ⟨_, rfl⟩
    rw [← hgg13] at Bpa e13
    have hzg13 : w3.heap.size ≤ g13 := by rw [hgg13]; exact HBX.out.size
    generalize (wx.alloc (.cells #[.int .i64 offa, wva, mva] 32)) = w4 at *
    obtain ⟨wXa, hwXa⟩ : ∃ q, q = wx := ⟨_, rfl⟩
    rw [← hwXa] at HPa Lxa
    clear hwXa hgg13 HM HBX h1c hzxa
    have L4 : Below g w w4 := L3.trans (hba.mono (Nat.le_of_lt hgz3))
    have BC4 := BC3.kept hba
    have hC4 := hC3.below (hba.mono (Nat.le_of_lt hgz3))
    have hgz4 : g < w4.heap.size := BC4.lt
    rcases HPa.out with ⟨hk, hm, _⟩ | ⟨hk, rfl, Sa, Wa, B1a, gGa, mga, fga, hm, rfl, hGa, GTa, OWa, hgda⟩
    · have dn : (ka != 0) = true := bne_iff_ne.2 hk
      refine sm_list [14] 39 2 hs hd (by kernel_rfl) (agC e14 agN) (by simp only [List.append_eq, List.cons_append, List.nil_append, List.map_cons, List.map_nil, reOper, reOp, reO, reC, reK, Option.map_some, Option.map_none, fS_ite, ix_ite, Nat.reduceLeDiff, Nat.reduceEqDiff, if_true, if_false, ↓reduceIte, List.length_cons, List.length_nil, Nat.reduceAdd, Nat.reduceSub, List.map_toArray]; rfl) ?_
      simp only [List.replicate_succ, List.replicate_zero, List.cons_append, List.nil_append, List.drop_succ_cons, List.drop_zero, List.take_succ_cons, List.take_zero]
      go_wp2_with fail
      intro a H
      replace hs := H.size.trans hs
      replace hd : a.defers = [] := H.defers
      replace e1 : a.tmps[1]? = some _ := H.keep e1 rfl
      replace e2 : a.tmps[2]? = some _ := H.keep e2 rfl
      replace e3 : a.tmps[3]? = some _ := H.keep e3 rfl
      replace e4 : a.tmps[4]? = some _ := H.keep e4 rfl
      replace e5 : a.tmps[5]? = some _ := H.keep e5 rfl
      replace e6 : a.tmps[6]? = some _ := H.keep e6 rfl
      replace e13 : a.tmps[13]? = some _ := H.keep e13 rfl
      replace e14 : a.tmps[14]? = some _ := H.got rfl rfl
      have e40 : a.tmps[40]? = some _ := H.got rfl rfl
      clear H
      refine hKq8 _ _ ?_
      clear hKq8 Kq8
      refine wp_cond_true (slotE e40) ?_
      clear e40
      refine wp_seq_k fun Kq9 hKq9 => ?_
      refine sm_list [] 12 1 hs hd (by kernel_rfl) agN (by simp only [List.append_eq, List.cons_append, List.nil_append, List.map_cons, List.map_nil, reOper, reOp, reO, reC, reK, Option.map_some, Option.map_none, fS_ite, ix_ite, Nat.reduceLeDiff, Nat.reduceEqDiff, if_true, if_false, ↓reduceIte, List.length_cons, List.length_nil, Nat.reduceAdd, Nat.reduceSub, List.map_toArray]; rfl) ?_
      simp only [List.replicate_succ, List.replicate_zero, List.cons_append, List.nil_append, List.drop_succ_cons, List.drop_zero, List.take_succ_cons, List.take_zero]
      go_wp2_with fail
      intro a H
      replace hs := H.size.trans hs
      replace hd : a.defers = [] := H.defers
      replace e1 : a.tmps[1]? = some _ := H.keep e1 rfl
      replace e2 : a.tmps[2]? = some _ := H.keep e2 rfl
      replace e3 : a.tmps[3]? = some _ := H.keep e3 rfl
      replace e4 : a.tmps[4]? = some _ := H.keep e4 rfl
      replace e5 : a.tmps[5]? = some _ := H.keep e5 rfl
      replace e6 : a.tmps[6]? = some _ := H.keep e6 rfl
      replace e13 : a.tmps[13]? = some _ := H.keep e13 rfl
      replace e14 : a.tmps[14]? = some _ := H.keep e14 rfl
      have e12 : a.tmps[12]? = some _ := H.got rfl rfl
      clear H
      refine hKq9 _ _ ?_
      clear hKq9 Kq9
      refine wp_ret ?_
      refine exit_then rfl ?_
      exact sm_ret rfl hd e12 ⟨rfl, by rw [← HG.out]; exact L4⟩
    · subst hk
      have HMKa := Lib.hid hm
      clear hm HPa
      refine sm_list [14] 39 2 hs hd (by kernel_rfl) (agC e14 agN) (by simp only [List.append_eq, List.cons_append, List.nil_append, List.map_cons, List.map_nil, reOper, reOp, reO, reC, reK, Option.map_some, Option.map_none, fS_ite, ix_ite, Nat.reduceLeDiff, Nat.reduceEqDiff, if_true, if_false, ↓reduceIte, List.length_cons, List.length_nil, Nat.reduceAdd, Nat.reduceSub, List.map_toArray]; rfl) ?_
      simp only [List.replicate_succ, List.replicate_zero, List.cons_append, List.nil_append, List.drop_succ_cons, List.drop_zero, List.take_succ_cons, List.take_zero]
      go_wp2_with fail
      intro a H
      replace hs := H.size.trans hs
      replace hd : a.defers = [] := H.defers
      replace e1 : a.tmps[1]? = some _ := H.keep e1 rfl
      replace e2 : a.tmps[2]? = some _ := H.keep e2 rfl
      replace e3 : a.tmps[3]? = some _ := H.keep e3 rfl
      replace e4 : a.tmps[4]? = some _ := H.keep e4 rfl
      replace e5 : a.tmps[5]? = some _ := H.keep e5 rfl
      replace e6 : a.tmps[6]? = some _ := H.keep e6 rfl
      replace e13 : a.tmps[13]? = some _ := H.keep e13 rfl
      replace e14 : a.tmps[14]? = some _ := H.got rfl rfl
      have e40 : a.tmps[40]? = some _ := H.got rfl rfl
      clear H
      refine hKq8 _ _ ?_
      clear hKq8 Kq8
      refine wp_cond_false (slotE e40) ?_
      clear e40
      refine wp_skip ?_
      refine hKq7 _ _ ?_
      clear hKq7 Kq7
      refine wp_seq_k fun Kq9 hKq9 => ?_
      have GT4 := GTa.keep Lxa
      have HGDa := Lib.hid hgda
      clear BC3 hC3 L3 hba GTa Lxa hgda OWa
      have hg13z : g13 < w4.heap.size := Bpa.lt
      have hnzI : (C.flows.length : Int) ≠ 0 := by omega
      have hnzN : ¬ (C.flows.length = 0) := hfl0
      obtain ⟨x, hx, hx0, hx1⟩ := and_mask flow 10 1023 rfl (by omega)
      obtain ⟨i, hi⟩ : ∃ i : Nat, x.tmod (C.flows.length : Int) = (i : Int) := ⟨(x.tmod (C.flows.length : Int)).toNat, (Int.toNat_of_nonneg (Int.tmod_nonneg _ hx0)).symm⟩
      have hin : i < C.flows.length := by
        have h1 : x.tmod (C.flows.length : Int) < (C.flows.length : Int) := Int.tmod_lt_of_pos _ (by omega)
        omega
      have c2 := BC4.cellOf (v := .slice Y.F.A C.flows.length Y.F.c) 2 rfl
      obtain ⟨⟨f, sl⟩, hzz⟩ : ∃ z, (C.flows.zip Y.ws)[i]? = some z := ⟨_, List.getElem?_eq_getElem (by rw [hC4.zlen]; exact hin)⟩
      have hfi := (List.getElem?_zip_eq_some.1 hzz).1
      have hsi := (List.getElem?_zip_eq_some.1 hzz).2
      simp only at hfi hsi
      obtain ⟨bd, hD, hbdb, hcd⟩ := reads_at (f := fun x : Fw × (Sl × Sl) => fwc x.1 x.2) fwc_len hC4.flows hzz hin
      have hflow : ∀ w', Below w4.heap.size w4 w' → ∀ j v, (fwc f sl).toArray.toList[j]? = some v → w'.cell? ((bd.add (i * 8)).add j) = some v := fun w' hw' j v hv => (hw'.cell (p := (bd.add (i * 8)).add j) (by rw [add_blk, add_blk]; omega)).trans (hcd j v (by simpa using hv))
      have HFLOW := Lib.hid hflow
      rw [hD] at c2
      have HFI := Lib.hid (And.intro hfi hsi)
      clear hflow hcd hzz hfi hsi hD
      have hi0 : (0 : Int) ≤ (i : Int) := by omega
      have hi1 : (i : Int) < (C.flows.length : Int) := by omega
      suffices HK : ∀ (a' : Act) (w8 : World), a'.tmps.size = a.tmps.size → a'.defers = [] → a'.tmps[1]? = a.tmps[1]? → a'.tmps[2]? = a.tmps[2]? → a'.tmps[3]? = a.tmps[3]? → a'.tmps[4]? = a.tmps[4]? → a'.tmps[5]? = a.tmps[5]? → a'.tmps[6]? = a.tmps[6]? → a'.tmps[13]? = a.tmps[13]? → a'.tmps[14]? = a.tmps[14]? → a'.tmps[15]? = some (.pointer (some ⟨w4.heap.size, 0, none⟩)) → Blk w8 w4.heap.size 74 (fwc f sl).toArray → Below w4.heap.size w4 w8 → Kq9 a' w8 by
        refine sm_any [1, 6, 15] 41 10 (by kernel_rfl) hs hd (by kernel_rfl) (agC e1 (agC e6 (agU agN))) (by simp only [List.append_eq, List.cons_append, List.nil_append, List.map_cons, List.map_nil, reOper, reOp, reO, reC, reK, Option.map_some, Option.map_none, fS_ite, ix_ite, Nat.reduceLeDiff, Nat.reduceEqDiff, if_true, if_false, ↓reduceIte, List.length_cons, List.length_nil, Nat.reduceAdd, Nat.reduceSub, List.map_toArray]; rfl) (any_script [(0, true), (1, true), (2, true), (3, true), (4, true), (5, true), (6, true), (7, true), (8, true), (9, true), (10, false), (11, false)] (fun w' => Below w4.heap.size w4 w') (by kernel_rfl) (fun _ _ _ _ _ h => h) ((Below.refl _ _).drew) ?_)
        simp only [List.replicate_succ, List.replicate_zero, List.cons_append, List.nil_append, List.drop_succ_cons, List.drop_zero, List.take_succ_cons, List.take_zero]
        obtain ⟨we, hwe⟩ : ∃ we, we = w4.drew := ⟨_, rfl⟩
        have hLe : Below w4.heap.size w4 we := by rw [hwe]; exact (Below.refl _ _).drew
        have hze : we.heap.size = w4.heap.size := by rw [hwe]; rfl
        rw [← hwe]
        have HWE := Lib.hid hwe
        clear hwe
        repeat (first | (refine script_take (v := .agg ((fwc f sl).toArray)) rfl ?_ (fun w' hw' => run_load_cells_d 74 (.tmp 11) rfl (bd.add (i * 8)) rfl ((fwc f sl).toArray) (HFLOW.out w' hw') Try.underlying74 rfl (by kernel_rfl)) ?_; (first | exact wanted_none rfl | exact wanted_on rfl rfl rfl); simp only [Act.put, List.setIfInBounds_toArray, List.set_cons_zero, List.set_cons_succ]) | (with_reducible (refine script_take (v := ?_) rfl ?_ ?_ ?_); rotate_left; (first | exact wanted_none rfl | exact wanted_on rfl rfl rfl); (rintro w' hw'; obtain ⟨hc, hf⟩ := bcell hw'; go_simp; with_reducible rfl); simp only [Act.put, List.setIfInBounds_toArray, List.set_cons_zero, List.set_cons_succ]))
        have hLf : Below w4.heap.size w4 (we.alloc (.cells (fwc f sl).toArray 74)) := hLe.alloc (Nat.le_of_eq hze.symm) _
        have hLz0 : Below w4.heap.size w4 (we.alloc (.cells #[.int .i64 0, .int .i64 0, .slice none 0 0, .slice none 0 0, .int .i64 0, .int .i64 0, .int .i64 0, .int .i64 0] 74)) := hLe.alloc (Nat.le_of_eq hze.symm) _
        (refine script_run (v := ?_) (w' := ?_) rfl ?_ ?_ ?_ ?_; rotate_left 2; (first | rfl | (go_simp; done)); (go_simp; refine ⟨?_, ?_⟩ <;> with_reducible rfl); (exact hLz0); simp only [Act.put, List.setIfInBounds_toArray, List.set_cons_zero, List.set_cons_succ])
        refine script_store_new rfl rfl 74 (.tmp 2) (.tmp 12) rfl rfl hze.symm rfl rfl (by kernel_rfl) (by rw [← Array.all_toList]; rfl) ⟨hLf, ?_⟩
        simp only [Act.put, List.setIfInBounds_toArray, List.set_cons_zero, List.set_cons_succ]
        refine script_nil ?_
        all_goals
          intro a' H
          refine HK a' _ H.size H.defers ((H.got rfl rfl).trans e1.symm) (H.out 2 rfl) (H.out 3 rfl) (H.out 4 rfl) (H.out 5 rfl) ((H.got rfl rfl).trans e6.symm) (H.out 13 rfl) (H.out 14 rfl) ?_ ?_ ?_
          · (refine (H.got (t := 15) rfl rfl).trans (congrArg some ?_); simp [hze])
          · exact Blk.at_new _ _ _ hze.symm
          · exact hLf
      intro a' w8 g_s g_d g1 g2 g3 g4 g5 g6 g13 g14 f15 B15 b8
      replace hs := g_s.trans hs
      replace hd := g_d
      replace e1 := g1.trans e1
      replace e2 := g2.trans e2
      replace e3 := g3.trans e3
      replace e4 := g4.trans e4
      replace e5 := g5.trans e5
      replace e6 := g6.trans e6
      replace e13 := g13.trans e13
      replace e14 := g14.trans e14
      clear g_s g_d g1 g2 g3 g4 g5 g6 g13 g14
      have e15 := f15
      clear f15
      clear a
      obtain ⟨a, rfl⟩ : ∃ a, a = a' := ⟨_, rfl⟩
      refine hKq9 _ _ ?_
      clear hKq9 Kq9
      refine wp_seq_k fun Kq10 hKq10 => ?_
      clear e1
      obtain ⟨g15, hg15⟩ : ∃ q, q = w4.heap.size := ⟨_, rfl⟩
      rw [← hg15] at B15 e15
      have hgz15 : g < g15 := by rw [hg15]; exact hgz4
      have hz15 : w4.heap.size ≤ g15 := Nat.le_of_eq hg15.symm
      clear hx hi hnzI hnzN c2 HFLOW hx0 hx1 x hg15
      have L8 := L4.trans (b8.mono (Nat.le_of_lt hgz4))
      have BC8 := BC4.kept b8
      have hC8 := hC4.below (b8.mono (Nat.le_of_lt hgz4))
      have Bp8 := Bpa.kept b8
      have GT8 := GT4.keep b8
      clear BC4 hC4 L4 Bpa GT4 b8
      obtain ⟨y, hy, hy0, hy1⟩ := and_mask way 1 1 rfl (by omega)
      obtain ⟨q, rfl⟩ : ∃ q : Nat, y = (q : Int) := ⟨y.toNat, by omega⟩
      have hq2 : q < 2 := by omega
      obtain ⟨hbad, es, r, hway, hops, hsub⟩ := plan_way HMKa.out HFI.out.1 q hq2
      obtain ⟨hel, hel0, hst, _⟩ := wayV_steps hway
      obtain ⟨hk0, hk1⟩ := hC8.ways i f sl HFI.out.1 HFI.out.2
      have hcellq : (fwc f sl).toArray[2 + q]? = some (.slice (two sl.1.A sl.2.A q) (two f.w0 f.w1 q).length (two sl.1.c sl.2.c q)) := by rcases (by omega : q = 0 ∨ q = 1) with rfl | rfl <;> rfl
      have hkq : Reads w8 g 1 (two sl.1.A sl.2.A q) (two f.w0 f.w1 q).length ((two f.w0 f.w1 q).map (Value.int .i64)) := by
        rcases (by omega : q = 0 ∨ q = 1) with rfl | rfl
        · exact hk0
        · exact hk1
      have hlen16 : (two f.w0 f.w1 q).length ≤ 16 := two_len HMKa.out HFI.out.1 hq2
      obtain ⟨ks, hks⟩ : ∃ k, k = two f.w0 f.w1 q := ⟨_, rfl⟩
      obtain ⟨Aq, hAq⟩ : ∃ k, k = two sl.1.A sl.2.A q := ⟨_, rfl⟩
      obtain ⟨cq, hcq⟩ : ∃ k, k = two sl.1.c sl.2.c q := ⟨_, rfl⟩
      rw [← hks] at hel hst hops hkq hcellq hlen16
      rw [← hAq] at hkq hcellq
      rw [← hcq] at hcellq
      clear hks hAq hcq hk0 hk1 hway
      have f2 := B15.cellOf (2 + q) hcellq
      have hqI0 : (0 : Int) ≤ (q : Int) := by omega
      have hqI1 : (q : Int) < 2 := by omega
      have HPL := Lib.hid (And.intro hbad (And.intro hst (And.intro hel (And.intro hops hsub))))
      have hkl : 1 ≤ ks.length := by omega
      clear hbad hst hops hsub hcellq
      refine sm_list [2, 15, 16] 51 5 hs hd (by kernel_rfl) (agC e2 (agC e15 (agU agN))) (by simp only [List.append_eq, List.cons_append, List.nil_append, List.map_cons, List.map_nil, reOper, reOp, reO, reC, reK, Option.map_some, Option.map_none, fS_ite, ix_ite, Nat.reduceLeDiff, Nat.reduceEqDiff, if_true, if_false, ↓reduceIte, List.length_cons, List.length_nil, Nat.reduceAdd, Nat.reduceSub, List.map_toArray]; rfl) ?_
      simp only [List.replicate_succ, List.replicate_zero, List.cons_append, List.nil_append, List.drop_succ_cons, List.drop_zero, List.take_succ_cons, List.take_zero]
      go_wp2_with fail
      intro a H
      replace hs := H.size.trans hs
      replace hd : a.defers = [] := H.defers
      replace e2 : a.tmps[2]? = some _ := H.got rfl rfl
      replace e3 : a.tmps[3]? = some _ := H.keep e3 rfl
      replace e4 : a.tmps[4]? = some _ := H.keep e4 rfl
      replace e5 : a.tmps[5]? = some _ := H.keep e5 rfl
      replace e6 : a.tmps[6]? = some _ := H.keep e6 rfl
      replace e13 : a.tmps[13]? = some _ := H.keep e13 rfl
      replace e14 : a.tmps[14]? = some _ := H.keep e14 rfl
      replace e15 : a.tmps[15]? = some _ := H.got rfl rfl
      have e16 : a.tmps[16]? = some _ := H.got rfl rfl
      clear H
      refine hKq10 _ _ ?_
      clear hKq10 Kq10
      refine wp_seq_k fun Kq11 hKq11 => ?_
      refine wp_seq_k fun Kq12 hKq12 => ?_
      clear f2 hy
      have d0 : ((ks.length : Int) == 0) = false := beq_eq_false_iff_ne.2 (by omega)
      have d0n : ¬ (ks.length = 0) := by omega
      clear e2
      refine sm_list [16] 56 3 hs hd (by kernel_rfl) (agC e16 agN) (by simp only [List.append_eq, List.cons_append, List.nil_append, List.map_cons, List.map_nil, reOper, reOp, reO, reC, reK, Option.map_some, Option.map_none, fS_ite, ix_ite, Nat.reduceLeDiff, Nat.reduceEqDiff, if_true, if_false, ↓reduceIte, List.length_cons, List.length_nil, Nat.reduceAdd, Nat.reduceSub, List.map_toArray]; rfl) ?_
      simp only [List.replicate_succ, List.replicate_zero, List.cons_append, List.nil_append, List.drop_succ_cons, List.drop_zero, List.take_succ_cons, List.take_zero]
      go_wp2_with fail
      intro a H
      replace hs := H.size.trans hs
      replace hd : a.defers = [] := H.defers
      replace e3 : a.tmps[3]? = some _ := H.keep e3 rfl
      replace e4 : a.tmps[4]? = some _ := H.keep e4 rfl
      replace e5 : a.tmps[5]? = some _ := H.keep e5 rfl
      replace e6 : a.tmps[6]? = some _ := H.keep e6 rfl
      replace e13 : a.tmps[13]? = some _ := H.keep e13 rfl
      replace e14 : a.tmps[14]? = some _ := H.keep e14 rfl
      replace e15 : a.tmps[15]? = some _ := H.keep e15 rfl
      replace e16 : a.tmps[16]? = some _ := H.got rfl rfl
      have e58 : a.tmps[58]? = some _ := H.got rfl rfl
      clear H
      refine hKq12 _ _ ?_
      clear hKq12 Kq12
      refine wp_cond_false (slotE e58) ?_
      clear e58
      refine wp_skip ?_
      refine hKq11 _ _ ?_
      clear hKq11 Kq11
      refine wp_seq_k fun Kq13 hKq13 => ?_
      clear d0 d0n
      have hnzI : (ks.length : Int) ≠ 0 := by omega
      have hnzN : ¬ (ks.length = 0) := by omega
      obtain ⟨x, hx, hx0, hx1⟩ := and_mask hop 10 1023 rfl (by omega)
      obtain ⟨h, hh⟩ : ∃ i : Nat, x.tmod (ks.length : Int) = (i : Int) := ⟨(x.tmod (ks.length : Int)).toNat, (Int.toNat_of_nonneg (Int.tmod_nonneg _ hx0)).symm⟩
      have hhn : h < ks.length := by
        have h1 : x.tmod (ks.length : Int) < (ks.length : Int) := Int.tmod_lt_of_pos _ (by omega)
        omega
      refine sm_list [3, 16] 59 5 hs hd (by kernel_rfl) (agC e3 (agC e16 agN)) (by simp only [List.append_eq, List.cons_append, List.nil_append, List.map_cons, List.map_nil, reOper, reOp, reO, reC, reK, Option.map_some, Option.map_none, fS_ite, ix_ite, Nat.reduceLeDiff, Nat.reduceEqDiff, if_true, if_false, ↓reduceIte, List.length_cons, List.length_nil, Nat.reduceAdd, Nat.reduceSub, List.map_toArray]; rfl) ?_
      simp only [List.replicate_succ, List.replicate_zero, List.cons_append, List.nil_append, List.drop_succ_cons, List.drop_zero, List.take_succ_cons, List.take_zero]
      go_wp2_with fail
      intro a H
      replace hs := H.size.trans hs
      replace hd : a.defers = [] := H.defers
      replace e4 : a.tmps[4]? = some _ := H.keep e4 rfl
      replace e5 : a.tmps[5]? = some _ := H.keep e5 rfl
      replace e6 : a.tmps[6]? = some _ := H.keep e6 rfl
      replace e13 : a.tmps[13]? = some _ := H.keep e13 rfl
      replace e14 : a.tmps[14]? = some _ := H.keep e14 rfl
      replace e15 : a.tmps[15]? = some _ := H.keep e15 rfl
      replace e16 : a.tmps[16]? = some _ := H.got rfl rfl
      replace e3 : a.tmps[3]? = some _ := H.got rfl rfl
      clear H
      refine hKq13 _ _ ?_
      clear hKq13 Kq13
      refine wp_seq_k fun Kq14 hKq14 => ?_
      clear hx hh hnzI hnzN hx0 hx1 x
      have hbb := HPL.out.1
      unfold badFlow at hbb
      have hfs : 0 ≤ f.start ∧ f.start ≤ 1073741824 ∧ 0 ≤ f.len ∧ f.len ≤ 1073741824 := by have := (well (makeV_ok.1 HMKa.out).1).c2; omega
      obtain ⟨hf1, hf2, hf3, hf4⟩ := hfs
      clear hbb
      have y0 := B15.cellOf (v := .int .i64 f.src) 0 rfl
      have y4 := B15.cellOf (v := .int .i64 f.start) 4 rfl
      have y5 := B15.cellOf (v := .int .i64 f.len) 5 rfl
      refine sm_list [15, 17] 64 2 hs hd (by kernel_rfl) (agC e15 (agU agN)) (by simp only [List.append_eq, List.cons_append, List.nil_append, List.map_cons, List.map_nil, reOper, reOp, reO, reC, reK, Option.map_some, Option.map_none, fS_ite, ix_ite, Nat.reduceLeDiff, Nat.reduceEqDiff, if_true, if_false, ↓reduceIte, List.length_cons, List.length_nil, Nat.reduceAdd, Nat.reduceSub, List.map_toArray]; rfl) ?_
      simp only [List.replicate_succ, List.replicate_zero, List.cons_append, List.nil_append, List.drop_succ_cons, List.drop_zero, List.take_succ_cons, List.take_zero]
      go_wp2_with fail
      intro a H
      replace hs := H.size.trans hs
      replace hd : a.defers = [] := H.defers
      replace e4 : a.tmps[4]? = some _ := H.keep e4 rfl
      replace e5 : a.tmps[5]? = some _ := H.keep e5 rfl
      replace e6 : a.tmps[6]? = some _ := H.keep e6 rfl
      replace e13 : a.tmps[13]? = some _ := H.keep e13 rfl
      replace e14 : a.tmps[14]? = some _ := H.keep e14 rfl
      replace e15 : a.tmps[15]? = some _ := H.got rfl rfl
      replace e16 : a.tmps[16]? = some _ := H.keep e16 rfl
      replace e3 : a.tmps[3]? = some _ := H.keep e3 rfl
      have e17 : a.tmps[17]? = some _ := H.got rfl rfl
      clear H
      refine hKq14 _ _ ?_
      clear hKq14 Kq14
      refine wp_seq_k fun Kq15 hKq15 => ?_
      refine sm_list [15, 18] 66 2 hs hd (by kernel_rfl) (agC e15 (agU agN)) (by simp only [List.append_eq, List.cons_append, List.nil_append, List.map_cons, List.map_nil, reOper, reOp, reO, reC, reK, Option.map_some, Option.map_none, fS_ite, ix_ite, Nat.reduceLeDiff, Nat.reduceEqDiff, if_true, if_false, ↓reduceIte, List.length_cons, List.length_nil, Nat.reduceAdd, Nat.reduceSub, List.map_toArray]; rfl) ?_
      simp only [List.replicate_succ, List.replicate_zero, List.cons_append, List.nil_append, List.drop_succ_cons, List.drop_zero, List.take_succ_cons, List.take_zero]
      go_wp2_with fail
      intro a H
      replace hs := H.size.trans hs
      replace hd : a.defers = [] := H.defers
      replace e4 : a.tmps[4]? = some _ := H.keep e4 rfl
      replace e5 : a.tmps[5]? = some _ := H.keep e5 rfl
      replace e6 : a.tmps[6]? = some _ := H.keep e6 rfl
      replace e13 : a.tmps[13]? = some _ := H.keep e13 rfl
      replace e14 : a.tmps[14]? = some _ := H.keep e14 rfl
      replace e15 : a.tmps[15]? = some _ := H.got rfl rfl
      replace e16 : a.tmps[16]? = some _ := H.keep e16 rfl
      replace e3 : a.tmps[3]? = some _ := H.keep e3 rfl
      replace e17 : a.tmps[17]? = some _ := H.keep e17 rfl
      have e18 : a.tmps[18]? = some _ := H.got rfl rfl
      clear H
      refine hKq15 _ _ ?_
      clear hKq15 Kq15
      refine wp_seq_k fun Kq16 hKq16 => ?_
      refine wp_seq_k fun Kq17 hKq17 => ?_
      by_cases hlen : 0 < f.len
      · have dl : decide (0 < f.len) = true := decide_eq_true hlen
        refine sm_list [15] 68 3 hs hd (by kernel_rfl) (agC e15 agN) (by simp only [List.append_eq, List.cons_append, List.nil_append, List.map_cons, List.map_nil, reOper, reOp, reO, reC, reK, Option.map_some, Option.map_none, fS_ite, ix_ite, Nat.reduceLeDiff, Nat.reduceEqDiff, if_true, if_false, ↓reduceIte, List.length_cons, List.length_nil, Nat.reduceAdd, Nat.reduceSub, List.map_toArray]; rfl) ?_
        simp only [List.replicate_succ, List.replicate_zero, List.cons_append, List.nil_append, List.drop_succ_cons, List.drop_zero, List.take_succ_cons, List.take_zero]
        go_wp2_with fail
        intro a H
        replace hs := H.size.trans hs
        replace hd : a.defers = [] := H.defers
        replace e4 : a.tmps[4]? = some _ := H.keep e4 rfl
        replace e5 : a.tmps[5]? = some _ := H.keep e5 rfl
        replace e6 : a.tmps[6]? = some _ := H.keep e6 rfl
        replace e13 : a.tmps[13]? = some _ := H.keep e13 rfl
        replace e14 : a.tmps[14]? = some _ := H.keep e14 rfl
        replace e15 : a.tmps[15]? = some _ := H.got rfl rfl
        replace e16 : a.tmps[16]? = some _ := H.keep e16 rfl
        replace e3 : a.tmps[3]? = some _ := H.keep e3 rfl
        replace e17 : a.tmps[17]? = some _ := H.keep e17 rfl
        replace e18 : a.tmps[18]? = some _ := H.keep e18 rfl
        have e70 : a.tmps[70]? = some _ := H.got rfl rfl
        clear H
        refine hKq17 _ _ ?_
        clear hKq17 Kq17
        refine wp_cond_true (slotE e70) ?_
        clear e70
        obtain ⟨x, hx, hx0, hx1⟩ := and_mask late 24 16777215 rfl (by omega)
        obtain ⟨rr, hrr⟩ : ∃ z, x.tmod (f.len + 1) = z := ⟨_, rfl⟩
        have hrb : 0 ≤ rr ∧ rr ≤ f.len := by rw [← hrr]; exact ⟨Int.tmod_nonneg _ hx0, by have := Int.tmod_lt_of_pos x (show 0 < f.len + 1 by omega); omega⟩
        have hdz : f.len + 1 ≠ 0 := by omega
        have hw1 : IntKind.i64.wrap (f.len + 1) = f.len + 1 := wrap64 (by omega) (by omega)
        refine sm_list [4, 15, 18] 71 8 hs hd (by kernel_rfl) (agC e4 (agC e15 (agC e18 agN))) (by simp only [List.append_eq, List.cons_append, List.nil_append, List.map_cons, List.map_nil, reOper, reOp, reO, reC, reK, Option.map_some, Option.map_none, fS_ite, ix_ite, Nat.reduceLeDiff, Nat.reduceEqDiff, if_true, if_false, ↓reduceIte, List.length_cons, List.length_nil, Nat.reduceAdd, Nat.reduceSub, List.map_toArray]; rfl) ?_
        simp only [List.replicate_succ, List.replicate_zero, List.cons_append, List.nil_append, List.drop_succ_cons, List.drop_zero, List.take_succ_cons, List.take_zero]
        go_wp2_with fail
        intro a H
        replace hs := H.size.trans hs
        replace hd : a.defers = [] := H.defers
        replace e4 : a.tmps[4]? = some _ := H.got rfl rfl
        replace e5 : a.tmps[5]? = some _ := H.keep e5 rfl
        replace e6 : a.tmps[6]? = some _ := H.keep e6 rfl
        replace e13 : a.tmps[13]? = some _ := H.keep e13 rfl
        replace e14 : a.tmps[14]? = some _ := H.keep e14 rfl
        replace e15 : a.tmps[15]? = some _ := H.got rfl rfl
        replace e16 : a.tmps[16]? = some _ := H.keep e16 rfl
        replace e3 : a.tmps[3]? = some _ := H.keep e3 rfl
        replace e17 : a.tmps[17]? = some _ := H.keep e17 rfl
        replace e18 : a.tmps[18]? = some _ := H.got rfl rfl
        clear H
        refine hKq16 _ _ ?_
        clear hKq16 Kq16
        clear hx hrr hw1 dl y0 y4 y5 hdz
        have hgz8 : g < w8.heap.size := BC8.lt
        obtain ⟨hbad, hst, hel2, hops, hsub⟩ := HPL.out
        refine times_tail C Y f sl (offV C) late oa (f.start + rr) i q h cq g g13 g15 gGa B1a mga Aq es Sa Wa wva ks r fga a w8 _ hs hd e3 e4 e5 e6 e13 e15 e16 e17 e18 hC8 BC8 Bp8 B15 hkq hgz8 GT8 HMKa.out HGDa.out rfl hbad hst hel2 hops hsub (by rw [hel2]; exact hhn) (by rw [hel2]; exact hlen16) (by omega) (by omega) ?_
        clear hs hd e3 e4 e5 e6 e13 e15 e16 e17 e18 hC8 BC8 Bp8 B15 GT8
        intro a w9 hs hd e12 hb9
        exact sm_ret rfl hd e12 ⟨rfl, by rw [← HG.out]; exact L8.trans (hb9.mono (Nat.le_of_lt hgz8))⟩
      · have dl : decide (0 < f.len) = false := decide_eq_false hlen
        refine sm_list [15] 68 3 hs hd (by kernel_rfl) (agC e15 agN) (by simp only [List.append_eq, List.cons_append, List.nil_append, List.map_cons, List.map_nil, reOper, reOp, reO, reC, reK, Option.map_some, Option.map_none, fS_ite, ix_ite, Nat.reduceLeDiff, Nat.reduceEqDiff, if_true, if_false, ↓reduceIte, List.length_cons, List.length_nil, Nat.reduceAdd, Nat.reduceSub, List.map_toArray]; rfl) ?_
        simp only [List.replicate_succ, List.replicate_zero, List.cons_append, List.nil_append, List.drop_succ_cons, List.drop_zero, List.take_succ_cons, List.take_zero]
        go_wp2_with fail
        intro a H
        replace hs := H.size.trans hs
        replace hd : a.defers = [] := H.defers
        replace e4 : a.tmps[4]? = some _ := H.keep e4 rfl
        replace e5 : a.tmps[5]? = some _ := H.keep e5 rfl
        replace e6 : a.tmps[6]? = some _ := H.keep e6 rfl
        replace e13 : a.tmps[13]? = some _ := H.keep e13 rfl
        replace e14 : a.tmps[14]? = some _ := H.keep e14 rfl
        replace e15 : a.tmps[15]? = some _ := H.got rfl rfl
        replace e16 : a.tmps[16]? = some _ := H.keep e16 rfl
        replace e3 : a.tmps[3]? = some _ := H.keep e3 rfl
        replace e17 : a.tmps[17]? = some _ := H.keep e17 rfl
        replace e18 : a.tmps[18]? = some _ := H.keep e18 rfl
        have e70 : a.tmps[70]? = some _ := H.got rfl rfl
        clear H
        refine hKq17 _ _ ?_
        clear hKq17 Kq17
        refine wp_cond_false (slotE e70) ?_
        clear e70
        refine wp_skip ?_
        refine hKq16 _ _ ?_
        clear hKq16 Kq16
        clear dl y0 y4 y5
        have hgz8 : g < w8.heap.size := BC8.lt
        obtain ⟨hbad, hst, hel2, hops, hsub⟩ := HPL.out
        refine times_tail C Y f sl (offV C) late oa f.start i q h cq g g13 g15 gGa B1a mga Aq es Sa Wa wva ks r fga a w8 _ hs hd e3 e4 e5 e6 e13 e15 e16 e17 e18 hC8 BC8 Bp8 B15 hkq hgz8 GT8 HMKa.out HGDa.out rfl hbad hst hel2 hops hsub (by rw [hel2]; exact hhn) (by rw [hel2]; exact hlen16) (Int.le_refl _) (by omega) ?_
        clear hs hd e3 e4 e5 e6 e13 e15 e16 e17 e18 hC8 BC8 Bp8 B15 GT8
        intro a w9 hs hd e12 hb9
        exact sm_ret rfl hd e12 ⟨rfl, by rw [← HG.out]; exact L8.trans (hb9.mono (Nat.le_of_lt hgz8))⟩
end Go.Proofs.Ytaegngcbiefckaa
