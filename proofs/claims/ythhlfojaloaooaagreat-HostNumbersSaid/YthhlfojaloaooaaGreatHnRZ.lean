/-
  fdb: the ports of a VLAN are set.
-/
import Derived.Test.YthhlfojaloaooaaGreatRows
import Derived.Test.YthhlfojaloaooaaGreatHnQZ
import Derived.WalkKit
import Derived.ProofKit
import Derived.OpenShut
import Derived.LoopTactic
import Derived.WalkLawsBesides
import Derived.WalkSpells
import Derived.Outline
import Derived.Lib.Hide
import Derived.Deep.DrawnRows
import Derived.Laws.CopyOwn
import Derived.MapKept
namespace Go.Proofs.YthhlfojaloaooaaGreat
set_option linter.unusedSimpArgs false
set_option linter.unusedVariables false
open Go.RowKit Go.WideShapes Go.ChangeShapes
attribute [local go_sem ↓] Go.wp_at_zero Go.wp_at_succ

/-- So many ports, and the bits of all of them. -/
def Mask (n p : Int) : Prop := (n = 1 ∧ p = 1) ∨ (n = 2 ∧ p = 3) ∨ (n = 3 ∧ p = 7) ∨ (n = 4 ∧ p = 15) ∨ (n = 5 ∧ p = 31) ∨ (n = 6 ∧ p = 63) ∨ (n = 7 ∧ p = 127) ∨ (n = 8 ∧ p = 255)
set_option maxRecDepth 100000 in
set_option maxHeartbeats 4000000 in
theorem fdSet_any (n p : Int) (hn : Mask n p) (g m : Nat) (w : World) (h : FdAt w g m n) : Calls Tryz.prog 34 #[.pointer (some ⟨g, 0, none⟩), .int .i64 1, .agg #[.int .i64 p, .int .i64 p]] w fun e w' => e = .returned (.int .i64 0) ∧ Fr [m] w w' := by
  refine calls_sm (N := 43) Tryz.func34 rfl (by kernel_rfl) ?_
  intro a hs hd ha
  have e0 : a.tmps[0]? = some (.pointer (some ⟨g, 0, none⟩)) := ha 0 _ rfl
  have e1 : a.tmps[1]? = some (.int .i64 1) := ha 1 _ rfl
  have e2 : a.tmps[2]? = some (.agg #[.int .i64 p, .int .i64 p]) := ha 2 _ rfl
  clear ha
  conv => arg 2; whnf
  refine wp_seq_k fun Kq1 hKq1 => ?_
  refine sm_list [2] 5 2 hs hd (by kernel_rfl) (agC e2 agN) rfl ?_
  simp only [seval]
  go_wp2_with fail
  intro a H; replace hs := H.s hs; replace hd := H.d rfl; replace e2 := H.g 2 rfl rfl; replace e0 := H.k e0 rfl; replace e1 := H.k e1 rfl; have e5 := H.g 5 rfl rfl; have e6 := H.g 6 rfl rfl; clear H; refine hKq1 _ _ ?_; clear hKq1 Kq1; refine wp_seq_k fun Kq2 hKq2 => ?_; refine wp_seq_k fun Kq3 hKq3 => ?_
  have hal := (Below.refl w.heap.size w).alloc (Nat.le_refl _) (.cells #[.int .i64 p, .int .i64 p] 116)
  have BV := Blk.new w 116 #[.int .i64 p, .int .i64 p]
  obtain ⟨v, m2, B0, M0⟩ := h
  have B1 := B0.kept hal
  have M1 := (hal.block m (Array.getElem?_eq_some_iff.1 M0).1).trans M0
  generalize w.alloc (.cells #[.int .i64 p, .int .i64 p] 116) = w1 at hal BV B1 M1 ⊢
  obtain ⟨q, hq⟩ : ∃ q, q = w.heap.size := ⟨_, rfl⟩
  rw [← hq] at BV e5
  have HX := Lib.hid (And.intro hal (And.intro B1 (And.intro M1 BV)))
  have q0 := B1.cellOf (v := .int .i64 n) 0 rfl
  have q2 := B1.cellOf (v := .map (some m)) 2 rfl
  have k0 := BV.cellOf (v := .int .i64 p) 0 rfl
  have k1 := BV.cellOf (v := .int .i64 p) 1 rfl
  have lz := B1.lt
  have lv := BV.lt
  clear hal BV B0 M0 B1 M1 hq
  have hsplit : ∀ (a : Act), a = a := fun _ => rfl
  have hrun : Hid (Mask n p) := Lib.hid hn
  clear hsplit
  rcases hn with ⟨rfl, rfl⟩ | ⟨rfl, rfl⟩ | ⟨rfl, rfl⟩ | ⟨rfl, rfl⟩ | ⟨rfl, rfl⟩ | ⟨rfl, rfl⟩ | ⟨rfl, rfl⟩ | ⟨rfl, rfl⟩
  all_goals
    refine sm_any [0, 1, 5] 7 30 (by kernel_rfl) hs hd (by kernel_rfl) (agC e0 (agC e1 (agC e5 agN))) rfl (any_class (fun w' => Below w1.heap.size w1 w') (by kernel_rfl) ((Below.refl _ _).drew) ?_)
    simp only [seval]
    repeat (first | (with_reducible (refine wpQuiet_call (v := ?_) 51 ?_ ?_ ?_ ?_ ?_); rotate_left 2; (first | exact wanted_none rfl | exact wanted_on rfl rfl rfl); (intro w' hw'; obtain ⟨hc, hf⟩ := bcell hw'; go_simp; with_reducible rfl); (intro w' hw'; (with_reducible refine (fdVid_one w').mono ?_); rintro e w2 ⟨rfl, hb⟩; refine ⟨?_, hw'.trans (hb.mono (by have h0 := hw'.size; first | omega | (simp at h0; omega)))⟩; with_reducible rfl); simp only [Act.put, List.setIfInBounds_toArray, List.set_cons_zero, List.set_cons_succ]) | (with_reducible (refine wpQuiet_skip ?_ ?_); (first | exact wanted_off rfl rfl rfl rfl | exact wanted_off2 rfl rfl rfl); simp only [Act.put, List.setIfInBounds_toArray, List.set_cons_zero, List.set_cons_succ]) | (with_reducible (refine wpQuiet_val (v := ?_) ?_ ?_ ?_); rotate_left; (first | exact wanted_none rfl | exact wanted_on rfl rfl rfl); (intro w' hw'; obtain ⟨hc, hf⟩ := bcell hw'; go_simp; with_reducible rfl); simp only [Act.put, List.setIfInBounds_toArray, List.set_cons_zero, List.set_cons_succ]))
    refine wpQuiet_nil ?_
    intro w3 hw3
    intro a H; replace hs := H.s hs; replace hd := H.d rfl; replace e0 := H.g 0 rfl rfl; replace e1 := H.g 1 rfl rfl; replace e5 := H.g 5 rfl rfl; replace e2 := H.k e2 rfl; replace e6 := H.k e6 rfl; have e36 := H.g 36 rfl rfl; clear H; refine hKq3 _ _ ?_; clear hKq3 Kq3
    refine wp_cond_false (slotE e36) ?_
    clear e36; refine wp_skip ?_; refine hKq2 _ _ ?_; clear hKq2 Kq2; refine wp_seq_k fun Kq4 hKq4 => ?_; have B3 := HX.out.2.1.kept hw3
    have M3 := (hw3.block m (Array.getElem?_eq_some_iff.1 HX.out.2.2.1).1).trans HX.out.2.2.1
    have BV3 := HX.out.2.2.2.kept hw3; have L3 := HX.out.1.trans (hw3.mono HX.out.1.size)
    have H3 := Lib.hid (And.intro B3 (And.intro M3 (And.intro BV3 L3)))
    clear q0 q2 k0 k1 lz lv B3 M3 BV3 L3 HX; have q2 := H3.out.1.cellOf (v := .map (some m)) 2 rfl; have lz := H3.out.1.lt
    refine sm_any [0, 1, 5] 37 6 (by kernel_rfl) hs hd (by kernel_rfl) (agC e0 (agC e1 (agC e5 agN))) rfl (any_tree [6] (.take 0 (.take 1 (.take 2 (.take 3 (.take 4 (.take 5 (.wr 6 .nil))))))) (fun (w' : World) => Below w3.heap.size w3 w') (by kernel_rfl) (fun _ _ _ _ _ h => h) ((Below.refl _ _).drew) ?_)
    simp only [seval]
    have hwd : Below w3.heap.size w3 w3.drew := (Below.refl _ _).drew
    obtain ⟨wd, hwde⟩ : ∃ wd, wd = w3.drew := ⟨_, rfl⟩
    rw [← hwde] at hwd ⊢
    clear hwde
    have Md := (hwd.block m (Array.getElem?_eq_some_iff.1 H3.out.2.1).1).trans H3.out.2.1
    have hmu := fun x => run_mapUpdate_int1 (P := Tryz.prog) wd 151 3 116 m 0 .i64 1 x Tryz.underlying151 Tryz.underlying3 Md
    have HWD := Lib.hid hwd
    clear Md hwd
    iterate 5 (with_reducible (refine tr_take (v := ?_) rfl ?_ ?_ ?_); rotate_left; (first | exact wanted_none rfl | exact wanted_on rfl rfl rfl); (rintro w' hw'; obtain ⟨hc, hf⟩ := bcell hw'; go_simp; with_reducible rfl); simp only [Act.put, List.setIfInBounds_toArray, List.set_cons_zero, List.set_cons_succ])
    (first | (refine tr_take (v := .agg #[.int .i64 1, .int .i64 1]) rfl ?_ (fun w' hw' => run_load_cells_d 116 (.tmp 2) rfl ⟨q, 0, none⟩ rfl #[.int .i64 1, .int .i64 1] (blk_cells (H3.out.2.2.1.kept hw')) Tryz.underlying116 rfl (by kernel_rfl)) ?_; (first | exact wanted_none rfl | exact wanted_on rfl rfl rfl); simp only [Act.put, List.setIfInBounds_toArray, List.set_cons_zero, List.set_cons_succ]) | (refine tr_take (v := .agg #[.int .i64 3, .int .i64 3]) rfl ?_ (fun w' hw' => run_load_cells_d 116 (.tmp 2) rfl ⟨q, 0, none⟩ rfl #[.int .i64 3, .int .i64 3] (blk_cells (H3.out.2.2.1.kept hw')) Tryz.underlying116 rfl (by kernel_rfl)) ?_; (first | exact wanted_none rfl | exact wanted_on rfl rfl rfl); simp only [Act.put, List.setIfInBounds_toArray, List.set_cons_zero, List.set_cons_succ]) | (refine tr_take (v := .agg #[.int .i64 7, .int .i64 7]) rfl ?_ (fun w' hw' => run_load_cells_d 116 (.tmp 2) rfl ⟨q, 0, none⟩ rfl #[.int .i64 7, .int .i64 7] (blk_cells (H3.out.2.2.1.kept hw')) Tryz.underlying116 rfl (by kernel_rfl)) ?_; (first | exact wanted_none rfl | exact wanted_on rfl rfl rfl); simp only [Act.put, List.setIfInBounds_toArray, List.set_cons_zero, List.set_cons_succ]) | (refine tr_take (v := .agg #[.int .i64 15, .int .i64 15]) rfl ?_ (fun w' hw' => run_load_cells_d 116 (.tmp 2) rfl ⟨q, 0, none⟩ rfl #[.int .i64 15, .int .i64 15] (blk_cells (H3.out.2.2.1.kept hw')) Tryz.underlying116 rfl (by kernel_rfl)) ?_; (first | exact wanted_none rfl | exact wanted_on rfl rfl rfl); simp only [Act.put, List.setIfInBounds_toArray, List.set_cons_zero, List.set_cons_succ]) | (refine tr_take (v := .agg #[.int .i64 31, .int .i64 31]) rfl ?_ (fun w' hw' => run_load_cells_d 116 (.tmp 2) rfl ⟨q, 0, none⟩ rfl #[.int .i64 31, .int .i64 31] (blk_cells (H3.out.2.2.1.kept hw')) Tryz.underlying116 rfl (by kernel_rfl)) ?_; (first | exact wanted_none rfl | exact wanted_on rfl rfl rfl); simp only [Act.put, List.setIfInBounds_toArray, List.set_cons_zero, List.set_cons_succ]) | (refine tr_take (v := .agg #[.int .i64 63, .int .i64 63]) rfl ?_ (fun w' hw' => run_load_cells_d 116 (.tmp 2) rfl ⟨q, 0, none⟩ rfl #[.int .i64 63, .int .i64 63] (blk_cells (H3.out.2.2.1.kept hw')) Tryz.underlying116 rfl (by kernel_rfl)) ?_; (first | exact wanted_none rfl | exact wanted_on rfl rfl rfl); simp only [Act.put, List.setIfInBounds_toArray, List.set_cons_zero, List.set_cons_succ]) | (refine tr_take (v := .agg #[.int .i64 127, .int .i64 127]) rfl ?_ (fun w' hw' => run_load_cells_d 116 (.tmp 2) rfl ⟨q, 0, none⟩ rfl #[.int .i64 127, .int .i64 127] (blk_cells (H3.out.2.2.1.kept hw')) Tryz.underlying116 rfl (by kernel_rfl)) ?_; (first | exact wanted_none rfl | exact wanted_on rfl rfl rfl); simp only [Act.put, List.setIfInBounds_toArray, List.set_cons_zero, List.set_cons_succ]) | (refine tr_take (v := .agg #[.int .i64 255, .int .i64 255]) rfl ?_ (fun w' hw' => run_load_cells_d 116 (.tmp 2) rfl ⟨q, 0, none⟩ rfl #[.int .i64 255, .int .i64 255] (blk_cells (H3.out.2.2.1.kept hw')) Tryz.underlying116 rfl (by kernel_rfl)) ?_; (first | exact wanted_none rfl | exact wanted_on rfl rfl rfl); simp only [Act.put, List.setIfInBounds_toArray, List.set_cons_zero, List.set_cons_succ]))
    (with_reducible (refine tr_wr (w' := ?_) rfl ?_ ?_ ?_); rotate_left; (first | exact wanted_none rfl | exact wanted_on rfl rfl rfl); (go_simp; with_reducible rfl); simp only [Act.put, List.setIfInBounds_toArray, List.set_cons_zero, List.set_cons_succ])
    refine tr_nil ?_
    intro a H; replace hs := H.s hs; replace hd := H.d rfl; replace e0 := H.g 0 rfl rfl; replace e1 := H.g 1 rfl rfl; replace e5 := H.g 5 rfl rfl; replace e2 := H.k e2 rfl; replace e6 := H.k e6 rfl; clear H; refine hKq4 _ _ ?_; clear hKq4 Kq4; refine wp_seq_k fun Kq5 hKq5 => ?_; clear hmu q2 lz
    refine sm_list [] 6 1 hs hd (by kernel_rfl) agN rfl ?_
    simp only [seval]
    go_wp2_with fail
    intro a H; replace hs := H.s hs; replace hd := H.d rfl; replace e0 := H.k e0 rfl; replace e1 := H.k e1 rfl; replace e2 := H.k e2 rfl; replace e5 := H.k e5 rfl; replace e6 := H.g 6 rfl rfl; clear H; refine hKq5 _ _ ?_; clear hKq5 Kq5; refine wp_ret ?_
    refine sm_ret rfl hd e6 ⟨rfl, ?_⟩
    exact (Fr.be (H3.out.2.2.2.trans (HWD.out.mono H3.out.2.2.2.size))).trans (Fr.gr (gr_mapSet _ _ _ _) (by simp))
end Go.Proofs.YthhlfojaloaooaaGreat
