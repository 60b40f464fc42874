/-
  PtpWrites: for any message the law returns true: its bytes, or why it has none, are the document's; read again they are it. No condition.
-/
import Derived.Test.YtlhaloabophliaaRefE
import Derived.Test.YtlhaloabophliaaPtpUnlike
import Derived.Test.YtlhaloabophliaaKitD
namespace Go.Proofs.Ytlhaloabophliaa
set_option linter.unusedSimpArgs false
set_option linter.unusedVariables false
open Go.RowKit Go.WideShapes Go.ChangeShapes
attribute [local go_sem ↓] Go.wp_at_zero Go.wp_at_succ

set_option maxRecDepth 100000 in
set_option maxHeartbeats 8000000 in
theorem ptpWrites_calls (m : Mg) (A : Option Addr) (n c : Nat) (w : World) (hr : Reads w w.heap.size 1 A n (vs m.path)) (hl : m.path.length = n) (hn : n ≤ maxLen) (hw : m.Wf) :
    Calls Try.prog 5 #[.agg (mcells m A n c)] w fun e w' => e = .returned (.bool true) ∧ Below w.heap.size w w' := by
  have M0 := Blk.new w 28 (mcells m A n c)
  have L0 := (Below.refl w.heap.size w).alloc (Nat.le_refl _) (.cells (mcells m A n c) 28)
  have HH := Lib.hid (And.intro hr (And.intro hl (And.intro hn hw)))
  have HM0 := Lib.hid (And.intro M0 L0)
  clear hr hl hn hw M0 L0
  go_enter Try.func5, Try.ntmps5
  go_wp2_with fail
  generalize w.alloc (.cells (mcells m A n c) 28) = w0 at *
  refine (head_any _).mono ?_
  rintro e w1 ⟨rfl, b1⟩
  have M1 := HM0.out.1.kept b1
  have L1 := HM0.out.2.trans (b1.mono HM0.out.2.size)
  have x15 := M1.cellOf (v := .slice A n c) 15 rfl
  clear b1 HM0
  by_cases h60 : 60 < n
  · have HW := Lib.hid L1
    clear L1 M1
    go_wp2_with fail
    go_ret
    exact ⟨rfl, HW.out⟩
  have d60 : decide ((60 : Int) < (n : Int)) = false := decide_eq_false (by omega)
  have hn60 : n ≤ 60 := by omega
  obtain ⟨hr, hl, hn, hw⟩ := HH.out
  have R1 := (hr.below L1).more L1.size
  clear hr h60
  by_cases hck : checkV m = 0
  · have hR := check_zero.1 hck
    have HE := Lib.hid (enc_right m A n c w1 R1 hl hR)
    have HX := Lib.hid (And.intro hR (And.intro hck (And.intro L1 hn60)))
    have HMM := Lib.hid M1
    clear hck hR hl hn hw R1 L1 hn60
    go_wp2_with (refine wpList_load_row_g (by first | rfl | (go_simp; done)) 28 (.tmp 1) rfl (w.heap.size) rfl 28 (mcells m A n c) (0, 0) _ HMM.out Try.underlying28 rfl (by kernel_rfl) ?_)
    clear x15
    refine HE.out.mono ?_
    rintro e w2 ⟨v, rfl, hown, hb2⟩
    obtain ⟨B, d, rfl, hc21, hc22, RB⟩ := own_reads hown
    have M2 := HMM.out.kept hb2
    have L2 := HX.out.2.2.1.trans (hb2.mono HX.out.2.2.1.size)
    have HB2 := Lib.hid (And.intro RB (And.intro hc21 (And.intro hc22 L2)))
    clear hown hc21 hc22 RB hb2 L2 HMM HE
    go_wp2_with (refine wpList_load_row_g (by first | rfl | (go_simp; done)) 28 (.tmp 1) rfl (w.heap.size) rfl 28 (mcells m A n c) (0, 0) _ M2 Try.underlying28 rfl (by kernel_rfl) ?_)
    refine (plain_any m A n c w2).mono ?_
    rintro e w3 ⟨rfl, hb3⟩
    have L3 := HB2.out.2.2.2.trans (hb3.mono HB2.out.2.2.2.size)
    have R3 := (HH.out.1.below L3).more L3.size
    have M3 := M2.kept hb3
    have RB3 := (HB2.out.1.below hb3).more hb3.size
    have HN := Lib.hid (renc_any m A n c w3 R3 HH.out.2.1 (by have := HX.out.2.2.2; omega))
    have HB3 := Lib.hid (And.intro L3 (And.intro R3 (And.intro M3 RB3)))
    clear L3 R3 M3 RB3 hb3 M2
    go_wp2_with fail
    refine HN.out.mono ?_
    rintro e w4 ⟨B4, k4, d4, rfl, _, hb4, hX4, _⟩
    obtain ⟨RB4, hk4⟩ := hX4.out HX.out.1
    subst hk4
    rw [HX.out.2.1]
    have L4 := HB3.out.1.trans (hb4.mono HB3.out.1.size)
    have M4 := HB3.out.2.2.1.kept hb4
    have R4 := (HH.out.1.below L4).more L4.size
    have RA4 := (HB3.out.2.2.2.below hb4).more hb4.size
    have HC := Lib.hid (check_any m A n c w4 R4 HH.out.2.1 HH.out.2.2.1)
    have HB4 := Lib.hid (And.intro L4 (And.intro R4 (And.intro RA4 RB4)))
    clear L4 R4 RA4 RB4 hb4 hX4 HN
    rw [HX.out.2.1] at HC
    go_wp2_with (refine wpList_load_row_g (by first | rfl | (go_simp; done)) 28 (.tmp 1) rfl (w.heap.size) rfl 28 (mcells m A n c) (0, 0) _ M4 Try.underlying28 rfl (by kernel_rfl) ?_)
    refine HC.out.mono ?_
    rintro e w5 ⟨rfl, hb5⟩
    have L5 := HB4.out.1.trans (hb5.mono HB4.out.1.size)
    have M5 := M4.kept hb5
    have RA5 := HB4.out.2.2.1.below hb5
    have RB5 := HB4.out.2.2.2.below hb5
    have z5 := hb5.size
    clear hb5 HC M4
    go_wp2_with fail
    refine (same_any B B4 _ d _ d4 (encB m) (encB m) w5 _ _ RA5 RB5 encB_bytes encB_bytes).mono ?_
    rintro e w6 ⟨rfl, rfl⟩
    rw [show decide (encB m = encB m) = true from by simp]
    have HD := Lib.hid (dec_any B _ d (encB m) w5 (RA5.more z5) rfl encB_bytes HB2.out.2.1 HB2.out.2.2.1)
    have H5 := Lib.hid (And.intro L5 M5)
    clear RA5 RB5 z5 L5 M5
    go_wp2_with fail
    refine HD.out.mono ?_
    rintro e w7 ⟨m', A7, n7, c7, x7, rfl, hl7, hn7, hr7, hb7, HDq⟩
    have e1 := HDq.out
    rw [dec_encB HX.out.1 HH.out.2.2.2] at e1
    injection e1 with e1 e2
    subst e1
    subst e2
    have L7 := H5.out.1.trans (hb7.mono H5.out.1.size)
    have M7 := (H5.out.2.kept hb7).alloc (.cells (mcells m A7 n7 c7) 28)
    have Bm := Blk.new w7 28 (mcells m A7 n7 c7)
    have L8 := L7.alloc L7.size (.cells (mcells m A7 n7 c7) 28)
    have z8 : w7.heap.size + 1 = (w7.alloc (.cells (mcells m A7 n7 c7) 28)).heap.size := by simp
    have R7 := hr7.alloc (Nat.le_refl _) (.cells (mcells m A7 n7 c7) 28)
    clear hb7 HDq hr7 HD L7
    go_wp2_with (refine wpList_store_new rfl 28 (.tmp 7) (.tmp 46) rfl rfl rfl rfl rfl (by kernel_rfl) (by rw [← Array.all_toList]; rfl) ?_; generalize w7.alloc (.cells (mcells m A7 n7 c7) 28) = w8 at *)
    have s7 : w7.heap.size < w8.heap.size := by omega
    have s1 : w.heap.size < w8.heap.size := M7.lt
    have R8 := (HH.out.1.below L8).more L8.size
    have R7' := R7.more (show w7.heap.size ≤ w8.heap.size by omega)
    have hp1 : ∀ W, Calls Try.prog 13 #[.agg (mcells m A7 n7 c7)] W fun e w' => e = .returned (.agg (mcells m A7 n7 c7)) ∧ Below W.heap.size W w' := fun W => plain_any m A7 n7 c7 W
    have hp2 : ∀ W, Calls Try.prog 13 #[.agg (mcells m A n c)] W fun e w' => e = .returned (.agg (mcells m A n c)) ∧ Below W.heap.size W w' := fun W => plain_any m A n c W
    have hs : ∀ W, Below w8.heap.size w8 W → Calls Try.prog 12 #[.agg (mcells m A7 n7 c7), .agg (mcells m A n c)] W fun e w' => e = .returned (.bool true) ∧ Below W.heap.size W w' := fun W hb => by
      have := refSame_any m m A7 A n7 c7 n c W ((R7'.below hb).more hb.size) ((R8.below hb).more hb.size) hl7 HH.out.2.1 (by omega) (by have := HX.out.2.2.2; omega)
      rw [show decide (m = m) = true from by simp] at this
      exact this
    have HP := Lib.hid (And.intro hp1 (And.intro hp2 hs))
    clear hp1 hp2 hs R7 R7' R8
    refine wp_region_class (fun w' => Below w8.heap.size w8 w') (by kernel_rfl) (by kernel_rfl) (Below.refl _ _).drew ?_
    repeat (first | (with_reducible (refine wpQuiet_skip ?_ ?_); (first | exact wanted_off rfl rfl rfl rfl | exact wanted_off2 rfl rfl rfl); simp only [Act.put, List.setIfInBounds_toArray, List.set_cons_zero, List.set_cons_succ]) | (refine wpQuiet_val (v := .agg (mcells m A7 n7 c7)) ?_ (fun w' hw' => run_load_whole_d 28 (.tmp 7) rfl rfl (Bm.below hw' s7) Try.underlying28 rfl (by kernel_rfl)) ?_; (first | exact wanted_none rfl | exact wanted_on rfl rfl rfl); simp only [Act.put, List.setIfInBounds_toArray, List.set_cons_zero, List.set_cons_succ]) | (refine wpQuiet_val (v := .agg (mcells m A n c)) ?_ (fun w' hw' => run_load_whole_d 28 (.tmp 1) rfl rfl (M7.below hw' s1) Try.underlying28 rfl (by kernel_rfl)) ?_; (first | exact wanted_none rfl | exact wanted_on rfl rfl rfl); simp only [Act.put, List.setIfInBounds_toArray, List.set_cons_zero, List.set_cons_succ]) | (with_reducible (refine wpQuiet_val (v := ?_) ?_ ?_ ?_); rotate_left; (first | exact wanted_none rfl | exact wanted_on rfl rfl rfl); (intro w' hw'; obtain ⟨hc, hf⟩ := bcell hw'; go_simp; with_reducible rfl); simp only [Act.put, List.setIfInBounds_toArray, List.set_cons_zero, List.set_cons_succ]) | (with_reducible (refine wpQuiet_call (v := ?_) 13 ?_ ?_ ?_ ?_ ?_); rotate_left 2; (first | exact wanted_none rfl | exact wanted_on rfl rfl rfl); (intro w' hw'; obtain ⟨hc, hf⟩ := bcell hw'; go_simp; with_reducible rfl); (intro w' hw'; (with_reducible refine (HP.out.1 _).mono ?_); rintro e w2 ⟨rfl, hb⟩; refine ⟨?_, hw'.trans (hb.mono (by have h0 := hw'.size; first | omega | (simp at h0; omega)))⟩; with_reducible rfl); simp only [Act.put, List.setIfInBounds_toArray, List.set_cons_zero, List.set_cons_succ]) | (with_reducible (refine wpQuiet_call (v := ?_) 13 ?_ ?_ ?_ ?_ ?_); rotate_left 2; (first | exact wanted_none rfl | exact wanted_on rfl rfl rfl); (intro w' hw'; obtain ⟨hc, hf⟩ := bcell hw'; go_simp; with_reducible rfl); (intro w' hw'; (with_reducible refine (HP.out.2.1 _).mono ?_); rintro e w2 ⟨rfl, hb⟩; refine ⟨?_, hw'.trans (hb.mono (by have h0 := hw'.size; first | omega | (simp at h0; omega)))⟩; with_reducible rfl); simp only [Act.put, List.setIfInBounds_toArray, List.set_cons_zero, List.set_cons_succ]) | (with_reducible (refine wpQuiet_call (v := ?_) 12 ?_ ?_ ?_ ?_ ?_); rotate_left 2; (first | exact wanted_none rfl | exact wanted_on rfl rfl rfl); (intro w' hw'; obtain ⟨hc, hf⟩ := bcell hw'; go_simp; with_reducible rfl); (intro w' hw'; (with_reducible refine (HP.out.2.2 _ hw').mono ?_); rintro e w2 ⟨rfl, hb⟩; refine ⟨?_, hw'.trans (hb.mono (by have h0 := hw'.size; first | omega | (simp at h0; omega)))⟩; with_reducible rfl); simp only [Act.put, List.setIfInBounds_toArray, List.set_cons_zero, List.set_cons_succ]))
    refine wpQuiet_nil ?_
    intro w9 hw9
    have HW := Lib.hid (L8.trans (hw9.mono L8.size))
    clear hw9 L8 M7 Bm
    go_wp2_with fail
    go_ret
    exact ⟨rfl, HW.out⟩
  · have HE := Lib.hid (enc_bad m A n c w1 R1 hl hn hck)
    have b1 : (checkV m != 0) = true := bne_iff_ne.2 hck
    have HX := Lib.hid (And.intro hck (And.intro L1 hn60))
    have HMM := Lib.hid M1
    have HC0 := fun W hr => check_any m A n c W hr hl hn
    have HN0 := fun W hr => renc_any m A n c W hr hl (by omega)
    unfold REnc at HN0
    have hck' := hck
    clear hck hl hn hw R1 L1 hn60
    generalize checkV m = x at *
    have HC0 := Lib.hid HC0
    have HN0 := Lib.hid HN0
    clear hck'
    go_wp2_with (refine wpList_load_row_g (by first | rfl | (go_simp; done)) 28 (.tmp 1) rfl (w.heap.size) rfl 28 (mcells m A n c) (0, 0) _ HMM.out Try.underlying28 rfl (by kernel_rfl) ?_)
    clear x15
    refine HE.out.mono ?_
    rintro e w2 ⟨rfl, hb2⟩
    have M2 := HMM.out.kept hb2
    have L2 := HX.out.2.1.trans (hb2.mono HX.out.2.1.size)
    clear hb2 HMM HE
    go_wp2_with (refine wpList_load_row_g (by first | rfl | (go_simp; done)) 28 (.tmp 1) rfl (w.heap.size) rfl 28 (mcells m A n c) (0, 0) _ M2 Try.underlying28 rfl (by kernel_rfl) ?_)
    refine (plain_any m A n c w2).mono ?_
    rintro e w3 ⟨rfl, hb3⟩
    have L3 := L2.trans (hb3.mono L2.size)
    have R3 := (HH.out.1.below L3).more L3.size
    have M3 := M2.kept hb3
    clear hb3 M2 L2
    go_wp2_with fail
    refine (HN0.out w3 R3).mono ?_
    rintro e w4 ⟨B4, k4, d4, rfl, _, hb4, _, hk4⟩
    obtain rfl : k4 = 0 := hk4 HX.out.1
    have L4 := L3.trans (hb4.mono L3.size)
    have M4 := M3.kept hb4
    have R4 := (HH.out.1.below L4).more L4.size
    clear hb4 hk4 L3 M3 R3
    go_wp2_with (refine wpList_load_row_g (by first | rfl | (go_simp; done)) 28 (.tmp 1) rfl (w.heap.size) rfl 28 (mcells m A n c) (0, 0) _ M4 Try.underlying28 rfl (by kernel_rfl) ?_)
    refine (HC0.out w4 R4).mono ?_
    rintro e w5 ⟨rfl, hb5⟩
    have HW := Lib.hid (L4.trans (hb5.mono L4.size))
    clear hb5 L4 M4 R4
    go_wp2_with fail
    refine (same_any none B4 0 0 0 d4 [] [] w5 0 0 Reads.none_ ⟨rfl, fun h => absurd h (Nat.lt_irrefl _)⟩ (by intro x hx; simp at hx) (by intro x hx; simp at hx)).mono ?_
    rintro e w6 ⟨rfl, rfl⟩
    rw [show decide (([] : List Int) = []) = true from rfl]
    go_wp2_with fail
    go_ret
    exact ⟨rfl, HW.out⟩

/-! ### The row's step -/
set_option maxRecDepth 100000 in
theorem ptpWrites_lifted (os : Os) (started : os.Started) (H : Type) (enc : TypeId × Value → H) :
    ReturnsInHanded {} Try.checked os 5 .any (Rows.ptpWritesSpec.pre6 enc Try.prog Try.f5 Rows.ptpWritesRow.domain false) (Rows.ptpWritesSpec.post enc Try.prog Try.f5 false true false false) := by
  refine returnsInHanded_of_change (C := Try.checked) own started (by kernel_rfl) Try.func5
    (ChangeSpec.witness6 (enc := enc) (C := Try.checked) false ⟨#[], #[.agg #[.int .i64 0, .int .i64 0, .int .i64 0, .int .i64 0, .int .i64 0, .int .i64 0, .int .i64 0, .int .i64 0, .int .i64 0, .int .i64 0, .int .i64 0, .int .i64 0, .int .i64 0, .int .i64 0, .int .i64 0, .slice none 0 0]], []⟩ 8 (by kernel_rfl) (by kernel_rfl) (by kernel_rfl) (by kernel_rfl)) ?_
  intro W base args ds gs before hval0 hW _ _
  have hval : ∀ (j : Nat) t v, Try.f5.params[j]? = some t → args[j]? = some v → Value.okWide Try.prog W .any base t v := hval0
  have hW' := hW
  obtain ⟨p, q, hA0, hV, rfl, hfz, hnd⟩ := hW
  have hA : DataW.TrodAll enc Try.prog W 0 (fun _ => true) true Try.f5.params.toList args.toList ds p := hA0
  rw [Try.params5] at hA hval
  obtain ⟨v0, d0, rfl, rfl, h0⟩ := trodAll_one hA
  obtain ⟨m, A, n, c, rfl, hn, hl, hr, hw⟩ := open_msg (hval 0 28 v0 rfl rfl) h0 (fun x hx => hW'.lt x (by simp [hx]))
  exact law_post laidOut (by kernel_rfl) rfl (by kernel_rfl) Try.underlying4 rfl hW' (ptpWrites_calls m A n c W hr hl hn hw)

theorem ptpWrites_holds : Rows.PtpWritesSaid :=
  OpenClaim.holds_of_wide 5 Try.f5 rfl rfl rfl rfl rfl rfl rfl ⟨rfl, rfl, rfl, rfl, rfl⟩ rfl rfl rfl rfl rfl (by kernel_rfl) Try.func5 (by kernel_rfl)
    (of_decide_eq_true (by kernel_rfl)) (by unfold Func.isWrapper; first | (rw [if_pos (by decide +kernel)]; kernel_rfl) | (rw [if_neg (by decide +kernel)]; exact ⟨rfl, rfl⟩))
    (fun os started H enc _ => ptpWrites_lifted os started H enc)

#print axioms ptpWrites_holds
end Go.Proofs.Ytlhaloabophliaa
