/-
  PtpReads: whatever the bytes, the law returns true: the message that they are, or why they are none, is the document's. No condition.
-/
import Derived.Test.YtlhaloabophliaaRefG
import Derived.Test.YtlhaloabophliaaPtpUnlike
import Derived.Test.YtlhaloabophliaaKitD
namespace Go.Proofs.Ytlhaloabophliaa
set_option linter.unusedSimpArgs false
set_option linter.unusedVariables false
open Go.RowKit Go.WideShapes Go.ChangeShapes
attribute [local go_sem ↓] Go.wp_at_zero Go.wp_at_succ

set_option maxRecDepth 100000 in
set_option maxHeartbeats 8000000 in
theorem ptpReads_calls (b : List Int) (A : Option Addr) (n c : Nat) (w : World) (hr : Reads w w.heap.size 1 A n (us b)) (hl : b.length = n) (hbt : Bytes b) (hnc : n ≤ c) (hc : c ≤ maxLen) :
    Calls Try.prog 6 #[.slice A n c] w fun e w' => e = .returned (.bool true) ∧ Below w.heap.size w w' := by
  have HR := Lib.hid (And.intro hr (And.intro hl (And.intro hbt (And.intro hnc hc))))
  clear hr hl hbt hnc hc
  go_enter Try.func6, Try.ntmps6
  go_wp2_with fail
  refine (head_any _).mono ?_
  rintro e w1 ⟨rfl, b1⟩
  by_cases h500 : 500 < n
  · have HW := Lib.hid b1
    have hi : (500 : Int) < (n : Int) := by omega
    clear b1
    go_wp2_with fail
    go_ret
    exact ⟨rfl, HW.out⟩
  have d500 : decide ((500 : Int) < (n : Int)) = false := decide_eq_false (by omega)
  have hn5 : n ≤ 500 := by omega
  have HN := Lib.hid (And.intro hn5 b1)
  have HCp := Lib.hid (copy_any A n c b w1 ((HR.out.1.below b1).more b1.size) (by omega))
  clear h500 hn5 b1
  go_wp2_with fail
  refine HCp.out.mono ?_
  rintro e w2 ⟨v, rfl, hown, hb2⟩
  obtain ⟨B, d, rfl, hd1, hd2, RB⟩ := own_reads hown
  have L2 := HN.out.2.trans (hb2.mono HN.out.2.size)
  have HB2 := Lib.hid (And.intro RB (And.intro hd1 (And.intro hd2 L2)))
  have HD := Lib.hid (dec_any B n d b w2 RB HR.out.2.1 HR.out.2.2.1 hd1 hd2)
  clear hown RB hd1 hd2 L2 hb2 HCp
  go_wp2_with fail
  refine HD.out.mono ?_
  rintro e w3 ⟨m, A7, n7, c7, x7, rfl, hl7, hn7, hr7, hb7, HDq⟩
  have L3 := HB2.out.2.2.2.trans (hb7.mono HB2.out.2.2.2.size)
  have RB3 := (HB2.out.1.below hb7).more hb7.size
  have Bm := Blk.new w3 28 (mcells m A7 n7 c7)
  have L4 := L3.alloc L3.size (.cells (mcells m A7 n7 c7) 28)
  have z4 : w3.heap.size + 1 = (w3.alloc (.cells (mcells m A7 n7 c7) 28)).heap.size := by simp
  have R7 := hr7.alloc (Nat.le_refl _) (.cells (mcells m A7 n7 c7) 28)
  have RB4 := RB3.alloc (Nat.le_refl _) (.cells (mcells m A7 n7 c7) 28)
  have H7 := Lib.hid (And.intro hl7 (And.intro hn7 HDq.out))
  clear hb7 HDq hr7 HD L3 RB3 hl7 hn7
  go_wp2_with (refine wpList_store_new rfl 28 (.tmp 4) (.tmp 18) rfl rfl rfl rfl rfl (by kernel_rfl) (by rw [← Array.all_toList]; rfl) ?_; generalize w3.alloc (.cells (mcells m A7 n7 c7) 28) = w4 at *)
  have s4 : w3.heap.size < w4.heap.size := by omega
  have HE := Lib.hid (rdec_any A n c b w4 ((HR.out.1.below L4).more L4.size) HR.out.2.1 HR.out.2.2.1 HR.out.2.2.2.1 HN.out.1)
  have H4 := Lib.hid (And.intro Bm (And.intro L4 (And.intro (R7.more (Nat.le_of_lt s4)) (RB4.more (Nat.le_of_lt s4)))))
  clear Bm L4 z4 R7 RB4
  refine HE.out.mono ?_
  rintro e w5 ⟨m2, A8, n8, c8, x8, rfl, hl8, hn8, hr8, hb8, HDq⟩
  have e1 := HDq.out
  rw [H7.out.2.2] at e1
  injection e1 with e1 e2
  subst e1
  subst e2
  have Bm5 := H4.out.1.kept hb8
  have L5 := H4.out.2.1.trans (hb8.mono H4.out.2.1.size)
  have R75 := (H4.out.2.2.1.below hb8).more hb8.size
  have RB5 := (H4.out.2.2.2.below hb8).more hb8.size
  have s5 : w3.heap.size < w5.heap.size := by have := hb8.size; omega
  have Bn := Blk.new w5 40 (mcells m A8 n8 c8)
  have Bm6 := Bm5.alloc (.cells (mcells m A8 n8 c8) 40)
  have L6 := L5.alloc L5.size (.cells (mcells m A8 n8 c8) 40)
  have z6 : w5.heap.size + 1 = (w5.alloc (.cells (mcells m A8 n8 c8) 40)).heap.size := by simp
  have R76 := R75.alloc (Nat.le_refl _) (.cells (mcells m A8 n8 c8) 40)
  have R86 := hr8.alloc (Nat.le_refl _) (.cells (mcells m A8 n8 c8) 40)
  have RB6 := RB5.alloc (Nat.le_refl _) (.cells (mcells m A8 n8 c8) 40)
  clear hb8 HDq hr8 HE Bm5 L5 R75 RB5 H4 s4
  go_wp2_with (refine wpList_store_new rfl 40 (.tmp 6) (.tmp 23) rfl rfl rfl rfl rfl (by kernel_rfl) (by rw [← Array.all_toList]; rfl) ?_; generalize w5.alloc (.cells (mcells m A8 n8 c8) 40) = w6 at *)
  have s6 : w5.heap.size < w6.heap.size := by omega
  have s36 : w3.heap.size < w6.heap.size := by omega
  have R6 := (HR.out.1.below L6).more L6.size
  have R76' := R76.more (Nat.le_of_lt s6)
  have R86' := R86.more (Nat.le_of_lt s6)
  have RB6' := RB6.more (Nat.le_of_lt s6)
  have hp : ∀ W, Calls Try.prog 13 #[.agg (mcells m A7 n7 c7)] W fun e w' => e = .returned (.agg (mcells m A7 n7 c7)) ∧ Below W.heap.size W w' := fun W => plain_any m A7 n7 c7 W
  have hs : ∀ W, Below w6.heap.size w6 W → Calls Try.prog 12 #[.agg (mcells m A7 n7 c7), .agg (mcells m A8 n8 c8)] W fun e w' => e = .returned (.bool true) ∧ Below W.heap.size W w' := fun W hb => by
    have := refSame_any m m A7 A8 n7 c7 n8 c8 W ((R76'.below hb).more hb.size) ((R86'.below hb).more hb.size) H7.out.1 hl8 (by have := H7.out.2.1; omega) (by omega)
    rw [show decide (m = m) = true from by simp] at this
    exact this
  have ht : ∀ W, Below w6.heap.size w6 W → Calls Try.prog 11 #[.slice B n d, .slice A n c] W fun e w' => e = .returned (.bool true) ∧ Below W.heap.size W w' := fun W hb => by
    refine (same_any B A n d n c b b W _ _ (RB6'.below hb) (R6.below hb) HR.out.2.2.1 HR.out.2.2.1).mono ?_
    rintro e w' ⟨rfl, rfl⟩
    exact ⟨by simp, Below.refl _ _⟩
  have HP := Lib.hid (And.intro hp (And.intro hs ht))
  clear hp hs ht R6 R76 R86 RB6 R76' R86' RB6' hl8 hn8
  refine wp_region_class (fun w' => Below w6.heap.size w6 w') (by kernel_rfl) (by kernel_rfl) (Below.refl _ _).drew ?_
  repeat (first | (with_reducible (refine wpQuiet_skip ?_ ?_); (first | exact wanted_off rfl rfl rfl rfl | exact wanted_off2 rfl rfl rfl); simp only [Act.put, List.setIfInBounds_toArray, List.set_cons_zero, List.set_cons_succ]) | (refine wpQuiet_val (v := .agg (mcells m A7 n7 c7)) ?_ (fun w' hw' => run_load_whole_d 28 (.tmp 4) rfl rfl (Bm6.below hw' s36) Try.underlying28 rfl (by kernel_rfl)) ?_; (first | exact wanted_none rfl | exact wanted_on rfl rfl rfl); simp only [Act.put, List.setIfInBounds_toArray, List.set_cons_zero, List.set_cons_succ]) | (refine wpQuiet_val (v := .agg (mcells m A8 n8 c8)) ?_ (fun w' hw' => run_load_whole_d 40 (.tmp 6) rfl rfl (Bn.below hw' s6) Try.underlying40 rfl (by kernel_rfl)) ?_; (first | exact wanted_none rfl | exact wanted_on rfl rfl rfl); simp only [Act.put, List.setIfInBounds_toArray, List.set_cons_zero, List.set_cons_succ]) | (with_reducible (refine wpQuiet_val (v := ?_) ?_ ?_ ?_); rotate_left; (first | exact wanted_none rfl | exact wanted_on rfl rfl rfl); (intro w' hw'; obtain ⟨hc, hf⟩ := bcell hw'; go_simp; with_reducible rfl); simp only [Act.put, List.setIfInBounds_toArray, List.set_cons_zero, List.set_cons_succ]) | (with_reducible (refine wpQuiet_call (v := ?_) 13 ?_ ?_ ?_ ?_ ?_); rotate_left 2; (first | exact wanted_none rfl | exact wanted_on rfl rfl rfl); (intro w' hw'; obtain ⟨hc, hf⟩ := bcell hw'; go_simp; with_reducible rfl); (intro w' hw'; (with_reducible refine (HP.out.1 _).mono ?_); rintro e w2 ⟨rfl, hb⟩; refine ⟨?_, hw'.trans (hb.mono (by have h0 := hw'.size; first | omega | (simp at h0; omega)))⟩; with_reducible rfl); simp only [Act.put, List.setIfInBounds_toArray, List.set_cons_zero, List.set_cons_succ]) | (with_reducible (refine wpQuiet_call (v := ?_) 12 ?_ ?_ ?_ ?_ ?_); rotate_left 2; (first | exact wanted_none rfl | exact wanted_on rfl rfl rfl); (intro w' hw'; obtain ⟨hc, hf⟩ := bcell hw'; go_simp; with_reducible rfl); (intro w' hw'; (with_reducible refine (HP.out.2.1 _ hw').mono ?_); rintro e w2 ⟨rfl, hb⟩; refine ⟨?_, hw'.trans (hb.mono (by have h0 := hw'.size; first | omega | (simp at h0; omega)))⟩; with_reducible rfl); simp only [Act.put, List.setIfInBounds_toArray, List.set_cons_zero, List.set_cons_succ]) | (with_reducible (refine wpQuiet_call (v := ?_) 11 ?_ ?_ ?_ ?_ ?_); rotate_left 2; (first | exact wanted_none rfl | exact wanted_on rfl rfl rfl); (intro w' hw'; obtain ⟨hc, hf⟩ := bcell hw'; go_simp; with_reducible rfl); (intro w' hw'; (with_reducible refine (HP.out.2.2 _ hw').mono ?_); rintro e w2 ⟨rfl, hb⟩; refine ⟨?_, hw'.trans (hb.mono (by have h0 := hw'.size; first | omega | (simp at h0; omega)))⟩; with_reducible rfl); simp only [Act.put, List.setIfInBounds_toArray, List.set_cons_zero, List.set_cons_succ]))
  refine wpQuiet_nil ?_
  intro w9 hw9
  have HW := Lib.hid (L6.trans (hw9.mono L6.size))
  clear hw9 L6 Bm6 Bn
  go_wp2_with fail
  go_ret
  exact ⟨rfl, HW.out⟩

/-! ### The row's step -/
set_option maxRecDepth 100000 in
theorem ptpReads_lifted (os : Os) (started : os.Started) (H : Type) (enc : TypeId × Value → H) :
    ReturnsInHanded {} Try.checked os 6 .any (Rows.ptpReadsSpec.pre6 enc Try.prog Try.f6 Rows.ptpReadsRow.domain false) (Rows.ptpReadsSpec.post enc Try.prog Try.f6 false true false false) := by
  refine returnsInHanded_of_change (C := Try.checked) own started (by kernel_rfl) Try.func6
    (ChangeSpec.witness6 (enc := enc) (C := Try.checked) false ⟨#[], #[.slice none 0 0], []⟩ 8 (by kernel_rfl) (by kernel_rfl) (by kernel_rfl) (by kernel_rfl)) ?_
  intro W base args ds gs before hval0 hW _ _
  have hval : ∀ (j : Nat) t v, Try.f6.params[j]? = some t → args[j]? = some v → Value.okWide Try.prog W .any base t v := hval0
  have hW' := hW
  obtain ⟨p, q, hA0, hV, rfl, hfz, hnd⟩ := hW
  have hA : DataW.TrodAll enc Try.prog W 0 (fun _ => true) true Try.f6.params.toList args.toList ds p := hA0
  rw [Try.params6] at hA hval
  obtain ⟨v0, d0, rfl, rfl, h0⟩ := trodAll_one hA
  obtain ⟨A, n, c, b, rfl, hnc, hc, hl, hr, hbt⟩ := open_bytes (hval 0 32 v0 rfl rfl) h0 (fun x hx => hW'.lt x (by simp [hx]))
  exact law_post laidOut (by kernel_rfl) rfl (by kernel_rfl) Try.underlying4 rfl hW' (ptpReads_calls b A n c W hr hl hbt hnc hc)

theorem ptpReads_holds : Rows.PtpReadsSaid :=
  OpenClaim.holds_of_wide 6 Try.f6 rfl rfl rfl rfl rfl rfl rfl ⟨rfl, rfl, rfl, rfl, rfl⟩ rfl rfl rfl rfl rfl (by kernel_rfl) Try.func6 (by kernel_rfl)
    (of_decide_eq_true (by kernel_rfl)) (by unfold Func.isWrapper; first | (rw [if_pos (by decide +kernel)]; kernel_rfl) | (rw [if_neg (by decide +kernel)]; exact ⟨rfl, rfl⟩))
    (fun os started H enc _ => ptpReads_lifted os started H enc)

#print axioms ptpReads_holds
end Go.Proofs.Ytlhaloabophliaa
