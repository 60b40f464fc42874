/-
  Layer 22: the example; what is too big.
-/
import Derived.Test.YtaegngcbiefckaaPlnMk
import Derived.Test.YtaegngcbiefckaaPlnN2
import Derived.Test.YtaegngcbiefckaaPlnHd
namespace Go.Proofs.Ytaegngcbiefckaa
set_option linter.unusedSimpArgs false
set_option linter.unusedVariables false
open Go.RowKit Go.WideShapes Go.ChangeShapes
attribute [local go_sem ↓] Go.wp_at_zero Go.wp_at_succ

theorem row_lit {w : World} {B : Nat} {e : TypeId} {v : Value} {n k : Nat} {W : List (Int × Int)} {x : Int × Int} (h : w.ownsRow B e 2 v n (W.flatMap spc)) (hk : W[k]? = some x) :
    ∃ g cap, v = .slice (some ⟨g, 0, none⟩) n cap ∧ w.cell? ⟨g, k * 2, none⟩ = some (.int .i64 x.1) ∧ w.cell? ⟨g, k * 2 + 1, none⟩ = some (.int .i64 x.2) := by
  have hlen := h.1
  rw [flatMap_length spc_len] at hlen
  have hkl := (List.getElem?_eq_some_iff.1 hk).1
  rcases h.2 with ⟨_, hn⟩ | ⟨g, cap, cur, hv, _, hh, hnc, _, hsz, htk⟩
  · omega
  · refine ⟨g, cap, hv, ?_, ?_⟩
    · have h1 := flatMap_get spc_len hk 0 (by omega)
      rw [← htk, List.getElem?_take, if_pos (by omega)] at h1
      rw [(show Blk w g e cur from hh).cell]
      simpa [spc] using h1
    · have h1 := flatMap_get spc_len hk 1 (by omega)
      rw [← htk, List.getElem?_take, if_pos (by omega)] at h1
      rw [(show Blk w g e cur from hh).cell]
      simpa [spc] using h1
theorem run_neq_win (p q : Int × Int) (w : World) : (binOp .neq 52 (.agg #[.int .i64 p.1, .int .i64 p.2]) (.agg #[.int .i64 q.1, .int .i64 q.2])).run Try.prog w = .ok (.bool (!decide (p = q))) w := by
  obtain ⟨a, b⟩ := p
  obtain ⟨c, d⟩ := q
  by_cases h1 : a = c <;> by_cases h2 : b = d <;> simp [go_sem, h1, h2]
set_option maxRecDepth 100000 in
set_option maxHeartbeats 4000000 in
theorem head_any (w : World) : Calls Try.prog 9 #[] w fun e w' => e = .returned (.bool true) ∧ Below w.heap.size w w' := by
  obtain ⟨hl0, hl1, hl2⟩ := hd_lens
  obtain ⟨S, W, hmk, hw8, hw0⟩ := hd_ok
  have hn : Calls Try.prog 16 #[.int .i64 2, .int .i64 2] w _ := named_two 2 w ⟨by omega, by omega⟩
  obtain ⟨C, hC⟩ : ∃ C, C = fl2 2 8 := ⟨_, rfl⟩
  rw [← hC] at hl0 hl1 hl2 hmk hn
  clear hC
  have HN := Lib.hid hn
  have HMK := Lib.hid hmk
  have HLN := Lib.hid (And.intro hl0 (And.intro hl1 hl2))
  have HWW := Lib.hid (And.intro hw8 hw0)
  clear hn hmk hl0 hl1 hl2 hw8 hw0
  refine calls_sm (N := 50) Try.func9 rfl (by kernel_rfl) ?_
  intro a hs hd ha
  clear ha
  conv => arg 2; whnf
  refine wp_seq_k fun Kq1 hKq1 => ?_
  refine sm_list [] 0 1 hs hd (by kernel_rfl) agN rfl ?_
  simp only [seval]
  go_wp2_with fail
  intro a H; replace hs := H.s hs; replace hd := H.d rfl; have e0 := H.g 0 rfl rfl; clear H; refine hKq1 _ _ ?_; clear hKq1 Kq1; refine wp_seq_k fun Kq2 hKq2 => ?_
  refine sm_list [1, 2] 5 4 hs hd (by kernel_rfl) (agU (agU agN)) rfl ?_
  simp only [seval]
  go_wp2_with fail
  refine HN.out.mono ?_
  rintro e w1 ⟨⟨Y, rfl, hat⟩, hb1⟩
  have HAT := Lib.hid hat
  have HB1 := Lib.hid hb1
  clear hat hb1
  go_wp2_with (first | (refine wpList_store_new rfl 26 (.tmp 0) (.tmp 4) rfl rfl rfl rfl rfl (by kernel_rfl) (by rw [← Array.all_toList]; rfl) ?_) | fail)
  intro a H; replace hs := H.s hs; replace hd := H.d rfl; replace e0 := H.k e0 rfl; have e1 := H.g 1 rfl rfl; have e2 := H.g 2 rfl rfl; clear H; refine hKq2 _ _ ?_; clear hKq2 Kq2; refine wp_seq_k fun Kq3 hKq3 => ?_; refine wp_seq_k fun Kq4 hKq4 => ?_
  have B1 := Blk.new w1 26 (cfc C Y)
  have L1 : Below w1.heap.size w1 (w1.alloc (.cells (cfc C Y) 26)) := (Below.refl _ _).alloc (Nat.le_refl _) _
  have hat := (HAT.out.below L1).more L1.size
  have hb := HB1.out.trans (L1.mono HB1.out.size)
  generalize (w1.alloc (.cells (cfc C Y) 26)) = w2 at *
  obtain ⟨g1, hg1⟩ : ∃ g, g = w1.heap.size := ⟨_, rfl⟩
  rw [← hg1] at B1 e1
  clear hg1 HN L1 HAT HB1
  have HAT := Lib.hid hat
  clear hat
  have y0 := B1.cellOf (v := .slice Y.N.A 4 Y.N.c) 0 (by simp [cfc, HLN.out.1])
  have y1 := B1.cellOf (v := .slice Y.L.A 4 Y.L.c) 1 (by simp [cfc, HLN.out.2.1])
  have y2 := B1.cellOf (v := .slice Y.F.A 8 Y.F.c) 2 (by simp [cfc, HLN.out.2.2])
  refine sm_list [1, 2] 9 20 hs hd (by kernel_rfl) (agC e1 (agC e2 agN)) rfl ?_
  simp only [seval]
  go_wp2_with fail
  intro a H; replace hs := H.s hs; replace hd := H.d rfl; replace e1 := H.g 1 rfl rfl; replace e2 := H.g 2 rfl rfl; replace e0 := H.k e0 rfl; have e28 := H.g 28 rfl rfl; clear H; refine hKq4 _ _ ?_; clear hKq4 Kq4
  refine wp_cond_false (slotE e28) ?_
  clear e28; refine wp_skip ?_; refine hKq3 _ _ ?_; clear hKq3 Kq3; refine wp_seq_k fun Kq5 hKq5 => ?_; clear y0 y1 y2
  have HM := Lib.hid (make_any C Y w2 HAT.out)
  refine sm_list [1, 3, 4] 29 5 hs hd (by kernel_rfl) (agC e1 (agU (agU agN))) rfl ?_
  simp only [seval]
  go_wp2_with (first | (refine wpList_load_any_d rfl 26 (.tmp 0) rfl ⟨g1, 0, none⟩ rfl (cfc C Y) _ (blk_cells B1) Try.underlying26 rfl (by kernel_rfl) ?_) | fail)
  refine HM.out.mono ?_
  rintro e w3 ⟨hb3, hm⟩
  rcases hm with ⟨k, hk, rfl⟩ | ⟨S', W', wv, B0, gG, mg, fg, hk, rfl, hG, GT3, OW, hgd⟩
  · rw [HMK.out] at hk; cases hk
  rw [HMK.out] at hk
  cases hk
  obtain ⟨gw, cap, rfl, c0, c1⟩ := row_lit OW HWW.out.2
  have HC0 := Lib.hid c0
  have HC1 := Lib.hid c1
  have HB3 := Lib.hid hb3
  have HOW := Lib.hid OW
  clear c0 c1 hb3 OW GT3 hgd hG
  go_wp2_with (first | (refine wpList_store_new rfl 32 (.tmp 1) (.tmp 6) rfl rfl rfl rfl rfl (by kernel_rfl) (by rw [← Array.all_toList]; rfl) ?_) | fail)
  intro a H; replace hs := H.s hs; replace hd := H.d rfl; replace e1 := H.g 1 rfl rfl; replace e0 := H.k e0 rfl; replace e2 := H.k e2 rfl; have e3 := H.g 3 rfl rfl; have e4 := H.g 4 rfl rfl; clear H; refine hKq5 _ _ ?_; clear hKq5 Kq5; refine wp_seq_k fun Kq6 hKq6 => ?_
  have B3 := Blk.new w3 32 #[.int .i64 (offV C), .slice (some ⟨gw, 0, none⟩) W.length cap, .map (some gG)]
  have L3 : Below w3.heap.size w3 (w3.alloc (.cells #[.int .i64 (offV C), .slice (some ⟨gw, 0, none⟩) W.length cap, .map (some gG)] 32)) := (Below.refl _ _).alloc (Nat.le_refl _) _
  have hgw : gw < w3.heap.size := (ownsRow_lt HOW.out gw rfl).2
  have k0 := (L3.cell (p := ⟨gw, 0 * 2, none⟩) hgw).trans HC0.out
  have k1 := (L3.cell (p := ⟨gw, 0 * 2 + 1, none⟩) hgw).trans HC1.out
  simp only [Nat.zero_mul, Nat.zero_add] at k0 k1
  have hbz := hb.trans ((HB3.out.mono hb.size).trans (L3.mono (Nat.le_trans hb.size HB3.out.size)))
  generalize (w3.alloc (.cells #[.int .i64 (offV C), .slice (some ⟨gw, 0, none⟩) W.length cap, .map (some gG)] 32)) = w4 at *
  have y1 := B3.cellOf (v := .slice (some ⟨gw, 0, none⟩) 8 cap) 1 (by simp [HWW.out.1])
  refine sm_list [0, 3, 4] 34 16 hs hd (by kernel_rfl) (agC e0 (agC e3 (agC e4 agN))) rfl ?_
  simp only [seval]
  go_wp2_with fail
  intro a H; replace hs := H.s hs; replace hd := H.d rfl; replace e3 := H.g 3 rfl rfl; replace e4 := H.g 4 rfl rfl; replace e1 := H.k e1 rfl; replace e2 := H.k e2 rfl; replace e0 := H.g 0 rfl rfl; clear H; refine hKq6 _ _ ?_; clear hKq6 Kq6; refine wp_ret ?_
  exact sm_ret rfl hd e0 ⟨rfl, hbz⟩
def manyF (f : Fw) : Bool := decide (20 < f.w0.length) || decide (20 < f.w1.length)
def bigV (C : Cf) : Bool := (decide (20 < C.nodes.length) || decide (70 < C.links.length) || decide (20 < C.flows.length)) || C.flows.any manyF
theorem any_take_succ {α : Type} {p : α → Bool} {l : List α} {k : Nat} {x : α} (h : l[k]? = some x) : (l.take (k + 1)).any p = ((l.take k).any p || p x) := by
  rw [List.take_add_one, h]
  simp
set_option maxRecDepth 100000 in
set_option maxHeartbeats 4000000 in
theorem big_any (C : Cf) (Y : Lay) (w : World) (hC : CfAt w w.heap.size C Y) : Calls Try.prog 10 #[.agg (cfc C Y)] w fun e w' => e = .returned (.bool (bigV C)) ∧ Below w.heap.size w w' := by
  refine calls_sm (N := 41) Try.func10 rfl (by kernel_rfl) ?_
  intro a hs hd ha
  have e0 : a.tmps[0]? = some (.agg (cfc C Y)) := ha 0 _ rfl
  clear ha
  conv => arg 2; whnf
  refine wp_seq_k fun Kq1 hKq1 => ?_
  refine sm_list [0] 1 2 hs hd (by kernel_rfl) (agC e0 agN) rfl ?_
  simp only [seval]
  go_wp2_with fail
  intro a H; replace hs := H.s hs; replace hd := H.d rfl; clear e0; have e1 := H.g 1 rfl rfl; clear H; refine hKq1 _ _ ?_; clear hKq1 Kq1; refine wp_seq_k fun Kq2 hKq2 => ?_; refine wp_seq_k fun Kq3 hKq3 => ?_
  have BC := Blk.new w 26 (cfc C Y)
  have L0 : Below w.heap.size w (w.alloc (.cells (cfc C Y) 26)) := (Below.refl _ _).alloc (Nat.le_refl _) _
  have hz1 : w.heap.size < (w.alloc (.cells (cfc C Y) 26)).heap.size := by simp
  replace hC := (hC.below L0)
  generalize w.alloc (.cells (cfc C Y) 26) = w1 at *
  obtain ⟨g, hg⟩ : ∃ g, g = w.heap.size := ⟨_, rfl⟩
  rw [← hg] at BC hz1 hC e1 L0
  have HG := Lib.hid hg
  clear hg
  have c0 := BC.cellOf (v := .slice Y.N.A C.nodes.length Y.N.c) 0 rfl
  have c1 := BC.cellOf (v := .slice Y.L.A C.links.length Y.L.c) 1 rfl
  have c2 := BC.cellOf (v := .slice Y.F.A C.flows.length Y.F.c) 2 rfl
  obtain ⟨R, hR⟩ : ∃ R, R = (decide (20 < C.nodes.length) || decide (70 < C.links.length) || decide (20 < C.flows.length)) := ⟨_, rfl⟩
  have HR := Lib.hid hR
  clear hR
  suffices HK : ∀ (a' : Act), a'.tmps.size = a.tmps.size → a'.defers = [] → a'.tmps[1]? = a.tmps[1]? → a'.tmps[20]? = some (.bool R) → Kq3 a' w1 by
    refine sm_list [1] 5 16 hs hd (by kernel_rfl) (agC e1 agN) rfl ?_
    simp only [seval]
    go_wp2_with fail
    all_goals
      intro a' H
      refine HK a' H.size H.defers ((H.got rfl rfl).trans e1.symm) ?_
      · (refine (H.got (t := 20) rfl rfl).trans (congrArg some ?_); rw [HR.out]; refine congrArg Value.bool ?_; rw [Bool.eq_iff_iff]; simp only [Bool.or_eq_true, decide_eq_true_eq, true_iff, Bool.false_eq_true, false_iff] <;> omega)
  intro a' g_s g_d g1 f20
  replace hs := g_s.trans hs; replace hd := g_d; replace e1 := g1.trans e1; clear g_s g_d g1
  have e20 := f20
  clear f20; clear a
  obtain ⟨a, rfl⟩ : ∃ a, a = a' := ⟨_, rfl⟩
  refine hKq3 _ _ ?_; clear hKq3 Kq3; clear c0 c1 c2
  have hcase : R = true ∨ R = false := by cases R <;> simp
  rcases hcase with rfl | rfl
  · have hv : bigV C = true := by unfold bigV; rw [← HR.out]; rfl
    have HV := Lib.hid hv
    clear hv
    refine wp_cond_true (slotE e20) ?_
    clear e20; refine wp_seq_k fun Kq4 hKq4 => ?_
    refine sm_list [] 2 1 hs hd (by kernel_rfl) agN rfl ?_
    simp only [seval]
    go_wp2_with fail
    intro a H; replace hs := H.s hs; replace hd := H.d rfl; replace e1 := H.k e1 rfl; have e2 := H.g 2 rfl rfl; clear H; refine hKq4 _ _ ?_; clear hKq4 Kq4; refine wp_ret ?_; refine exit_then rfl ?_
    exact sm_ret rfl hd e2 ⟨by rw [HV.out], by rw [← HG.out]; exact L0⟩
  · have hv : bigV C = C.flows.any manyF := by unfold bigV; rw [← HR.out]; rfl
    have HV := Lib.hid hv
    clear hv
    have hfl : C.flows.length ≤ 20 := by
      have h := HR.out.symm
      simp only [Bool.or_eq_false_iff, decide_eq_false_iff_not] at h
      omega
    refine wp_cond_false (slotE e20) ?_
    clear e20; refine wp_skip ?_; refine hKq2 _ _ ?_; clear hKq2 Kq2; refine wp_seq_k fun Kq4 hKq4 => ?_; refine wp_seq_k fun Kq5 hKq5 => ?_
    have c2 := BC.cellOf (v := .slice Y.F.A C.flows.length Y.F.c) 2 rfl
    refine sm_list [1] 21 4 hs hd (by kernel_rfl) (agC e1 agN) rfl ?_
    simp only [seval]
    go_wp2_with fail
    intro a H; replace hs := H.s hs; replace hd := H.d rfl; replace e1 := H.g 1 rfl rfl; have e22 := H.g 22 rfl rfl; have e23 := H.g 23 rfl rfl; have e24 := H.g 24 rfl rfl; clear H; refine hKq5 _ _ ?_; clear hKq5 Kq5; refine wp_block ?_; clear c2
    have hzf : (C.flows.zip Y.ws).length = C.flows.length := by rw [List.length_zip, hC.wslen, Nat.min_self]
    have HZF := Lib.hid hzf
    clear hzf
    refine wp_loop (fun a w' => ∃ j : Nat, j ≤ C.flows.length ∧ a.tmps.size = 41 ∧ a.defers = [] ∧ a.tmps[1]? = some (.pointer (some ⟨g, 0, none⟩)) ∧ a.tmps[22]? = some (.slice Y.F.A C.flows.length Y.F.c) ∧ a.tmps[23]? = some (.int .i64 (C.flows.length : Int)) ∧ a.tmps[24]? = some (.int .i64 (j : Int)) ∧ Below w1.heap.size w1 w' ∧ Hid ((C.flows.take j).any manyF = false)) (fun a _ => C.flows.length - (intOf (a.tmps.getD 24 undef)).toNat) ?_ ?_
    · exact ⟨0, Nat.zero_le _, hs, hd, e1, e22, e23, e24, Below.refl _ _, Lib.hid rfl⟩
    clear hs hd e24 e1 e22 e23 a
    rintro a w3 ⟨j, hj, hs, hd, e1, e22, e23, e24, hb, hA⟩
    have hm := slot e24
    refine wp_seq_k fun Kq6 hKq6 => ?_
    by_cases hlt : j < C.flows.length
    ·
      have dj : decide ((j : Int) < (C.flows.length : Int)) = true := decide_eq_true (by omega)
      obtain ⟨⟨f, sl⟩, hz⟩ : ∃ x, (C.flows.zip Y.ws)[j]? = some x := ⟨_, List.getElem?_eq_getElem (by rw [HZF.out]; exact hlt)⟩
      have hfj := (List.getElem?_zip_eq_some.1 hz).1
      obtain ⟨ad, hA0, hadb, hcl⟩ := reads_at (f := fun x : Fw × (Sl × Sl) => fwc x.1 x.2) fwc_len (hC.flows.below (hb.mono (Nat.le_of_lt hz1))) hz hlt
      have HA0 := Lib.hid hA0
      have HCL := Lib.hid hcl
      have HFJ := Lib.hid hfj
      clear hA0 hcl hz hfj
      rw [HA0.out] at e22
      refine sm_list [23, 24] 25 1 hs hd (by kernel_rfl) (agC e23 (agC e24 agN)) rfl ?_
      simp only [seval]
      go_wp2_with fail
      intro a H; replace hs := H.s hs; replace hd := H.d rfl; replace e23 := H.g 23 rfl rfl; replace e24 := H.g 24 rfl rfl; replace e1 := H.k e1 rfl; replace e22 := H.k e22 rfl; have e25 := H.g 25 rfl rfl; clear H; refine hKq6 _ _ ?_; clear hKq6 Kq6; refine wp_seq_k fun Kq7 hKq7 => ?_
      refine wp_cond_true (slotE e25) ?_
      clear e25; refine wp_skip ?_; refine hKq7 _ _ ?_; clear hKq7 Kq7; refine wp_seq_k fun Kq8 hKq8 => ?_; refine wp_block ?_; refine wp_seq_k fun Kq9 hKq9 => ?_
      have B4 := Blk.new w3 74 (fwc f sl).toArray
      have hb4 := hb.alloc hb.size (.cells (fwc f sl).toArray 74)
      refine sm_list [4, 22, 24] 26 2 hs hd (by kernel_rfl) (agU (agC e22 (agC e24 agN))) rfl ?_
      simp only [seval]
      go_wp2_with (first | (refine wpList_load_any_d rfl 74 (.tmp 3) rfl (ad.add (j * 8)) rfl ((fwc f sl).toArray) _ (fun i u hu => HCL.out i u (by simpa using hu)) Try.underlying74 rfl (by kernel_rfl) ?_) | (refine wpList_store_new rfl 74 (.tmp 0) (.tmp 4) rfl rfl rfl rfl rfl (by kernel_rfl) (by rw [← Array.all_toList]; rfl) ?_) | fail)
      intro a H; replace hs := H.s hs; replace hd := H.d rfl; replace e22 := H.g 22 rfl rfl; replace e24 := H.g 24 rfl rfl; replace e1 := H.k e1 rfl; replace e23 := H.k e23 rfl; have e4 := H.g 4 rfl rfl; clear H; refine hKq9 _ _ ?_; clear hKq9 Kq9; refine wp_seq_k fun Kq10 hKq10 => ?_
      rw [← HA0.out] at e22
      obtain ⟨g4, hg4⟩ : ∃ g, g = w3.heap.size := ⟨_, rfl⟩
      rw [← hg4] at B4 e4
      generalize (w3.alloc (.cells (fwc f sl).toArray 74)) = w4 at *
      clear hg4
      have y2 := B4.cellOf (v := .slice sl.1.A f.w0.length sl.1.c) 2 rfl
      have y3 := B4.cellOf (v := .slice sl.2.A f.w1.length sl.2.c) 3 rfl
      obtain ⟨T, hT⟩ : ∃ T, T = manyF f := ⟨_, rfl⟩
      have HT := Lib.hid hT
      clear hT
      suffices HK : ∀ (a' : Act), a'.tmps.size = a.tmps.size → a'.defers = [] → a'.tmps[1]? = a.tmps[1]? → a'.tmps[22]? = a.tmps[22]? → a'.tmps[23]? = a.tmps[23]? → a'.tmps[24]? = a.tmps[24]? → a'.tmps[4]? = a.tmps[4]? → a'.tmps[39]? = some (.bool T) → Kq10 a' w4 by
        refine sm_list [4] 28 12 hs hd (by kernel_rfl) (agC e4 agN) rfl ?_
        simp only [seval]
        go_wp2_with fail
        all_goals
          intro a' H
          refine HK a' H.size H.defers (H.out 1 rfl) (H.out 22 rfl) (H.out 23 rfl) (H.out 24 rfl) ((H.got rfl rfl).trans e4.symm) ?_
          · (refine (H.got (t := 39) rfl rfl).trans (congrArg some ?_); rw [HT.out]; unfold manyF; refine congrArg Value.bool ?_; rw [Bool.eq_iff_iff]; simp only [Bool.or_eq_true, decide_eq_true_eq, true_iff, Bool.false_eq_true, false_iff] <;> omega)
      intro a' g_s g_d g1 g22 g23 g24 g4 f39
      replace hs := g_s.trans hs; replace hd := g_d; replace e1 := g1.trans e1; replace e22 := g22.trans e22; replace e23 := g23.trans e23; replace e24 := g24.trans e24; replace e4 := g4.trans e4; clear g_s g_d g1 g22 g23 g24 g4
      have e39 := f39
      clear f39; clear a
      obtain ⟨a, rfl⟩ : ∃ a, a = a' := ⟨_, rfl⟩
      refine hKq10 _ _ ?_; clear hKq10 Kq10; clear e4; clear y2 y3
      have hnext := any_take_succ (p := manyF) HFJ.out
      rw [hA.out, ← HT.out, Bool.false_or] at hnext
      have HX := Lib.hid hnext
      clear hnext
      have hcT : T = true ∨ T = false := by cases T <;> simp
      rcases hcT with rfl | rfl
      · have hv : C.flows.any manyF = true := List.any_eq_true.2 ⟨f, List.mem_of_getElem? HFJ.out, HT.out.symm⟩
        have HV2 := Lib.hid (HV.out.trans hv)
        clear hv
        refine wp_cond_true (slotE e39) ?_
        clear e39; refine wp_seq_k fun Kq11 hKq11 => ?_
        refine sm_list [] 2 1 hs hd (by kernel_rfl) agN rfl ?_
        simp only [seval]
        go_wp2_with fail
        intro a H; replace hs := H.s hs; replace hd := H.d rfl; replace e1 := H.k e1 rfl; replace e22 := H.k e22 rfl; replace e23 := H.k e23 rfl; replace e24 := H.k e24 rfl; have e2 := H.g 2 rfl rfl; clear H; refine hKq11 _ _ ?_; clear hKq11 Kq11; refine wp_ret ?_; refine ret_block ?_; refine exit_then rfl ?_; refine exit_then rfl ?_; refine ret_block ?_; refine exit_then rfl ?_
        exact sm_ret rfl hd e2 ⟨by rw [HV2.out], by rw [← HG.out]; exact L0.trans (hb4.mono (Nat.le_of_lt hz1))⟩
      ·
        refine wp_cond_false (slotE e39) ?_
        clear e39; refine wp_skip ?_; refine hKq8 _ _ ?_; clear hKq8 Kq8
        refine sm_list [24] 40 1 hs hd (by kernel_rfl) (agC e24 agN) rfl ?_
        simp only [seval]
        go_wp2_with fail
        intro a H; replace hs := H.s hs; replace hd := H.d rfl; replace e1 := H.k e1 rfl; replace e22 := H.k e22 rfl; replace e23 := H.k e23 rfl; replace e24 := H.g 24 rfl rfl; clear H
        exact ⟨⟨j + 1, by omega, hs, hd, e1, e22, e23, e24, hb4, HX⟩, by first | (simp only [hm, slot e24, intOf]; omega) | (simp [e24, intOf]; omega)⟩
    · obtain rfl : j = C.flows.length := by omega
      have dj : decide ((C.flows.length : Int) < (C.flows.length : Int)) = false := decide_eq_false (by omega)
      clear hlt hm
      have hv : C.flows.any manyF = false := by have := hA.out; rwa [List.take_length] at this
      have HV2 := Lib.hid (HV.out.trans hv)
      clear hv
      refine sm_list [23, 24] 25 1 hs hd (by kernel_rfl) (agC e23 (agC e24 agN)) rfl ?_
      simp only [seval]
      go_wp2_with fail
      intro a H; replace hs := H.s hs; replace hd := H.d rfl; replace e23 := H.g 23 rfl rfl; replace e24 := H.g 24 rfl rfl; replace e1 := H.k e1 rfl; replace e22 := H.k e22 rfl; have e25 := H.g 25 rfl rfl; clear H; refine hKq6 _ _ ?_; clear hKq6 Kq6; refine wp_seq_k fun Kq7 hKq7 => ?_
      refine wp_cond_false (slotE e25) ?_
      clear e25; refine wp_exit ?_; refine exit_then rfl ?_; clear hKq7 Kq7; refine exit_then rfl ?_; refine exit_hit ?_; refine hKq4 _ _ ?_; clear hKq4 Kq4; refine wp_seq_k fun Kq8 hKq8 => ?_
      refine sm_list [] 2 1 hs hd (by kernel_rfl) agN rfl ?_
      simp only [seval]
      go_wp2_with fail
      intro a H; replace hs := H.s hs; replace hd := H.d rfl; replace e1 := H.k e1 rfl; replace e22 := H.k e22 rfl; replace e23 := H.k e23 rfl; replace e24 := H.k e24 rfl; have e2 := H.g 2 rfl rfl; clear H; refine hKq8 _ _ ?_; clear hKq8 Kq8; refine wp_ret ?_
      exact sm_ret rfl hd e2 ⟨by rw [HV2.out], by rw [← HG.out]; exact L0.trans (hb.mono (Nat.le_of_lt hz1))⟩
end Go.Proofs.Ytaegngcbiefckaa
