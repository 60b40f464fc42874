/-
  PtpForm: for any bytes, any number and any byte the law returns true: bytes that are taken for a message are just that message's, with one more or cut off they are none, and bytes that are refused give the message of nothing; the arguments read as they did. No condition.
-/
import Derived.Test.YtlhaloabophliaaPtpFormA
namespace Go.Proofs.Ytlhaloabophliaa
open Go.RowKit Go.WideShapes Go.ChangeShapes
attribute [local go_sem ↓] Go.wp_at_zero Go.wp_at_succ

set_option maxRecDepth 100000 in
set_option maxHeartbeats 8000000 in
theorem ptpForm_calls (b : List Int) (A : Option Addr) (n c : Nat) (pos more : Int) (w : World) (hr : Reads w w.heap.size 1 A n (us b)) (hl : b.length = n) (hbt : Bytes b) (hnc : n ≤ c) (hc : c ≤ maxLen) (hm : 0 ≤ more ∧ more < 256) :
    Calls Try.prog 7 #[.slice A n c, .int .i64 pos, .int .u8 more] w fun e w' => e = .returned (.bool true) ∧ Below w.heap.size w w' := by
  have HL := Lib.hid hl
  have HBT := Lib.hid hbt
  have HM := Lib.hid hm
  clear hl hbt hm
  go_enter Try.func7, Try.ntmps7
  go_wp2_with fail
  refine (head_any _).mono ?_
  rintro e w1 ⟨rfl, hb1⟩
  have BB := hb1
  have hz := hb1.size
  clear hb1
  by_cases h1 : 500 < n
  · go_wp2_with fail
    go_ret
    exact ⟨rfl, BB⟩
  · have d1 : decide (500 < n) = false := by simpa using h1
    go_wp2_with fail
    refine (copy_any A n c b w1 ((hr.below BB).more BB.size) (by omega)).mono ?_
    rintro e w2 ⟨v2, rfl, hown2, hb2⟩
    obtain ⟨A2, c2, rfl, hc21, hc22, hr2⟩ := own_reads hown2
    clear hown2
    have BB2 := BB.trans (hb2.mono hz)
    have hz2 := BB2.size
    clear hb2
    go_wp2_with fail
    refine (dec_any A2 n c2 b w2 hr2 HL.out HBT.out hc21 hc22).mono ?_
    rintro e w3 ⟨m, A3, n3, c3, x, rfl, hl3, hn3, hr3, hb3, HD⟩
    have BB3 := BB2.trans (hb3.mono hz2)
    have hz3 := BB3.size
    clear hb3 hr2 hc21 hc22
    have Bm := Blk.new w3 28 (mcells m A3 n3 c3)
    have hrm := hr3.alloc (Nat.le_refl _) (.cells (mcells m A3 n3 c3) 28)
    have BB4 := BB3.alloc hz3 (.cells (mcells m A3 n3 c3) 28)
    have hz4 : w3.heap.size + 1 = (w3.alloc (.cells (mcells m A3 n3 c3) 28)).heap.size := by simp
    clear hr3
    by_cases hx : x = 0
    · subst hx
      obtain ⟨he, hR, hW⟩ := dec_enc HBT.out HD.out
      have HE := Lib.hid (And.intro he (And.intro hR hW))
      have hck := check_zero.2 hR
      clear he hR hW
      go_wp2_with (first | (refine wpList_store_new rfl 28 (.tmp 7) (.tmp 24) rfl rfl rfl rfl rfl (by kernel_rfl) (by rw [← Array.all_toList]; rfl) ?_; generalize w3.alloc (.cells (mcells m A3 n3 c3) 28) = w4 at *) | (refine wpList_load_row_g (by first | rfl | (go_simp; done)) 28 (.tmp 7) rfl (w3.heap.size) rfl 28 (mcells m A3 n3 c3) (0, 0) _ Bm Try.underlying28 rfl (by kernel_rfl) ?_))
      refine (enc_all m A3 n3 c3 w4 (hrm.more (by omega)) hl3 (by simp only [maxLen]; omega)).mono ?_
      rintro e w5 ⟨B, k, d, rfl, hk, hb5, hX⟩
      obtain ⟨RB, lB⟩ := hX.out HE.out.2.1
      rw [HE.out.1] at RB lB
      rw [hck]
      have hkn : k = n := lB.trans HL.out
      subst hkn
      have BB5 := BB4.trans (hb5.mono (by omega))
      have hz5 := BB5.size
      clear hb5 hX lB hrm Bm BB4 BB3 BB2 BB hz3 hz2 hz hz4 hck
      go_wp2_with fail
      refine (copy_any A k c b w5 ((hr.below BB5).more hz5) (by omega)).mono ?_
      rintro e w6 ⟨v6, rfl, hown6, hb6⟩
      have BB6 := BB5.trans (hb6.mono hz5)
      have RB6 := RB.below hb6
      have hz6 := hb6.size
      clear hb6 RB
      go_wp2_with (at_builtin; refine wpList_push_at rfl (.tmp 39) (.tmp 41) 32 rfl styB (cs := #[.int .u8 more]) rfl (by intro u hu; simp at hu; subst hu; rfl) rfl hown6 rfl rfl (by omega) hz6 ?_; intro v7 w7 hown7 hb7)
      rw [us_app] at hown7
      obtain ⟨A7, c7, rfl, hc71, hc72, hr7⟩ := own_reads hown7
      have BB7 := BB6.trans (hb7.mono hz5)
      have RB7 := RB6.below hb7
      have hz7 := BB7.size
      have hz57 : w5.heap.size ≤ w7.heap.size := Nat.le_trans hz6 hb7.size
      clear hown7 hown6 hb7 RB6
      go_wp2_with fail
      refine (dec_any A7 (k + 1) c7 (b ++ [more]) w7 hr7 (by rw [List.length_append, HL.out]; rfl) (HBT.out.append (fun z hz => by simp at hz; subst hz; exact HM.out)) hc71 hc72).mono ?_
      rintro e w8 ⟨m8, A8, n8, c8, x8, rfl, _, _, _, hb8, HD8⟩
      obtain rfl : x8 = 24 := by
        have e1 := HD8.out
        have e2 := dec_more HE.out.2.1 more HM.out
        rw [HE.out.1, e1] at e2
        exact congrArg Prod.snd e2
      have BB8 := BB7.trans (hb8.mono hz7)
      have RB8 := (RB7.more hz57).below hb8
      have BB9 := BB8.alloc BB8.size (.cells (mcells m8 A8 n8 c8) 28)
      have RB9 := RB8.alloc hb8.size (.cells (mcells m8 A8 n8 c8) 28)
      clear BB8 RB8 hb8 RB7 hr7 HD8 BB7 BB6 BB5
      go_wp2_with (refine wpList_store_new rfl 28 (.tmp 11) (.tmp 44) rfl rfl rfl rfl rfl (by kernel_rfl) (by rw [← Array.all_toList]; rfl) ?_; generalize w8.alloc (.cells (mcells m8 A8 n8 c8) 28) = w9 at *)
      refine (same_any A B k c k d b b w9 w.heap.size w7.heap.size (hr.below BB9) RB9 HBT.out HBT.out).mono ?_
      rintro e w10 ⟨rfl, rfl⟩
      rw [show decide (b = b) = true from by simp]
      have hz9 := BB9.size
      clear RB9
      by_cases hp : pos < 0
      · go_wp2_with fail
        go_ret
        exact ⟨rfl, BB9⟩
      · obtain ⟨j, rfl⟩ : ∃ j : Nat, pos = j := ⟨pos.toNat, by omega⟩
        have hp0 : decide ((j : Int) < 0) = false := by simp
        by_cases hj : k ≤ j
        · have hj1 : decide (k ≤ j) = true := by simpa using hj
          go_wp2_with fail
          go_ret
          exact ⟨rfl, BB9⟩
        · have hj1 : decide (k ≤ j) = false := by simpa using hj
          have hjk : j < k := by omega
          have R9 := hr.below BB9
          obtain ⟨ad, rfl, _⟩ := hr.2 (by omega)
          go_wp2_with fail
          have R9t := R9.take_ (k := j) (by omega)
          rw [show (us b).take j = us (b.take j) from by simp [us, List.map_take]] at R9t
          refine (dec_any (some ad) j c (b.take j) w9 (R9t.more hz9) (by rw [List.length_take, HL.out]; omega) (HBT.out.take j) (by omega) hc).mono ?_
          rintro e w10 ⟨m11, A11, n11, c11, x11, rfl, _, _, _, hb11, HD11⟩
          obtain rfl : x11 = 20 := by
            have e1 := HD11.out
            have e2 := dec_less HE.out.2.1 (k := j) (by rw [HE.out.1, HL.out]; exact hjk)
            rw [HE.out.1, e1] at e2
            exact congrArg Prod.snd e2
          have BB11 := (BB9.trans (hb11.mono hz9)).alloc (Nat.le_trans hz9 hb11.size) (.cells (mcells m11 A11 n11 c11) 28)
          clear hb11 HD11 BB9 R9 R9t hr
          go_wp2_with (refine wpList_store_new rfl 28 (.tmp 13) (.tmp 71) rfl rfl rfl rfl rfl (by kernel_rfl) (by rw [← Array.all_toList]; rfl) ?_; generalize w10.alloc (.cells (mcells m11 A11 n11 c11) 28) = w11 at *)
          go_ret
          exact ⟨rfl, BB11⟩
    · have hzm := dec_zeroM HBT.out HD.out hx
      have b1 : (x != 0) = true := bne_iff_ne.2 hx
      clear hx HD
      subst hzm
      have hn0 : n3 = 0 := by rw [← hl3]; rfl
      subst hn0
      go_wp2_with (first | (refine wpList_store_new rfl 28 (.tmp 7) (.tmp 24) rfl rfl rfl rfl rfl (by kernel_rfl) (by rw [← Array.all_toList]; rfl) ?_; generalize w3.alloc (.cells (mcells zeroM A3 0 c3) 28) = w4 at *) | (refine wpList_load_row_g (by first | rfl | (go_simp; done)) 28 (.tmp 7) rfl (w3.heap.size) rfl 28 (mcells zeroM A3 0 c3) (0, 0) _ Bm Try.underlying28 rfl (by kernel_rfl) ?_))
      refine (plain_any zeroM A3 0 c3 w4).mono ?_
      rintro e w5 ⟨rfl, hb5⟩
      have hz5 := hb5.size
      have R5 := hrm.below (hb5.mono (by omega))
      have BB5 := BB4.trans (hb5.mono (by omega))
      go_wp2_with fail
      refine (refSame_any zeroM zeroM A3 none 0 c3 0 0 w5 (R5.more (by omega)) Reads.none_ rfl rfl (by omega) (by omega)).mono ?_
      rintro e w6 ⟨rfl, hb6⟩
      have BB6 := BB5.trans (hb6.mono (by have := BB5.size; omega))
      go_wp2_with fail
      go_ret
      exact ⟨ret_bool (by simp), BB6⟩

/-! ### The row's step -/
set_option maxRecDepth 100000 in
theorem ptpForm_lifted (os : Os) (started : os.Started) (H : Type) (enc : TypeId × Value → H) :
    ReturnsInHanded {} Try.checked os 7 .any (Rows.ptpFormSpec.pre6 enc Try.prog Try.f7 Rows.ptpFormRow.domain false) (Rows.ptpFormSpec.post enc Try.prog Try.f7 false true false false) := by
  refine returnsInHanded_of_change (C := Try.checked) own started (by kernel_rfl) Try.func7
    (ChangeSpec.witness6 (enc := enc) (C := Try.checked) false ⟨#[], #[.slice none 0 0, .int .i64 0, .int .u8 0], []⟩ 8 (by kernel_rfl) (by kernel_rfl) (by kernel_rfl) (by kernel_rfl)) ?_
  intro W base args ds gs before hval0 hW _ _
  have hval : ∀ (j : Nat) t v, Try.f7.params[j]? = some t → args[j]? = some v → Value.okWide Try.prog W .any base t v := hval0
  have hW' := hW
  obtain ⟨p, q, hA0, hV, rfl, hfz, hnd⟩ := hW
  have hA : DataW.TrodAll enc Try.prog W 0 (fun _ => true) true Try.f7.params.toList args.toList ds p := hA0
  rw [Try.params7] at hA hval
  obtain ⟨v0, v1, v2, d0, d1, d2, p0, p1, p2, rfl, rfl, rfl, h0, h1, h2⟩ := trodAll_three hA
  obtain ⟨A, n, c, b, rfl, hnc, hc, hl, hr, hbt⟩ := open_bytes (hval 0 32 v0 rfl rfl) h0 (fun x hx => hW'.lt x (by simp [hx]))
  obtain ⟨pos, rfl⟩ := okWide_int Try.underlying3 (hval 1 3 v1 rfl rfl)
  obtain ⟨more, rfl, hm⟩ := open_u8 (hval 2 5 v2 rfl rfl) h2 (fun x hx => hW'.lt x (by simp [hx]))
  exact law_post laidOut (by kernel_rfl) rfl (by kernel_rfl) Try.underlying4 rfl hW' (ptpForm_calls b A n c pos more W hr hl hbt hnc hc hm)

theorem ptpForm_holds : Rows.PtpFormSaid :=
  OpenClaim.holds_of_wide 7 Try.f7 rfl rfl rfl rfl rfl rfl rfl ⟨rfl, rfl, rfl, rfl, rfl⟩ rfl rfl rfl rfl rfl (by kernel_rfl) Try.func7 (by kernel_rfl)
    (of_decide_eq_true (by kernel_rfl)) (by unfold Func.isWrapper; first | (rw [if_pos (by decide +kernel)]; kernel_rfl) | (rw [if_neg (by decide +kernel)]; exact ⟨rfl, rfl⟩))
    (fun os started H enc _ => ptpForm_lifted os started H enc)

#print axioms ptpForm_holds
end Go.Proofs.Ytlhaloabophliaa
