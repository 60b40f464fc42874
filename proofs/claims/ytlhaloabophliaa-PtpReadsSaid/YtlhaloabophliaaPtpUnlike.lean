/-
  PtpUnlike: for any two messages the law returns true: their bytes are the same just if they are; the arguments read as they did. No condition.
-/
import Derived.Test.YtlhaloabophliaaPtpLaw0
namespace Go.Proofs.Ytlhaloabophliaa
open Go.RowKit Go.WideShapes Go.ChangeShapes
attribute [local go_sem ↓] Go.wp_at_zero Go.wp_at_succ

set_option maxRecDepth 100000 in
set_option maxHeartbeats 8000000 in
theorem ptpUnlike_calls (a b : Mg) (A A2 : Option Addr) (n c n2 c2 : Nat) (w : World) (hr : Reads w w.heap.size 1 A n (vs a.path)) (hr2 : Reads w w.heap.size 1 A2 n2 (vs b.path)) (hl : a.path.length = n) (hl2 : b.path.length = n2) (hn : n ≤ maxLen) (hn2 : n2 ≤ maxLen) (wa : a.Wf) (wb : b.Wf) :
    Calls Try.prog 4 #[.agg #[.int .i64 a.kind, .int .i64 a.domain, .int .i64 a.seq, .int .i64 a.src, .int .i64 a.port, .int .i64 a.corr, .int .i64 a.time, .int .i64 a.to, .int .i64 a.toPort, .int .i64 a.rate, .int .i64 a.one, .int .i64 a.cls, .int .i64 a.two, .int .i64 a.id, .int .i64 a.steps, .slice A n c], .agg #[.int .i64 b.kind, .int .i64 b.domain, .int .i64 b.seq, .int .i64 b.src, .int .i64 b.port, .int .i64 b.corr, .int .i64 b.time, .int .i64 b.to, .int .i64 b.toPort, .int .i64 b.rate, .int .i64 b.one, .int .i64 b.cls, .int .i64 b.two, .int .i64 b.id, .int .i64 b.steps, .slice A2 n2 c2]] w fun e w' => e = .returned (.bool true) ∧ Below w.heap.size w w' := by
  have HN := Lib.hid (And.intro hn hn2)
  have HL := Lib.hid (And.intro hl hl2)
  have HW := Lib.hid (And.intro wa wb)
  unfold maxLen at hn hn2
  clear hl hl2 wa wb
  go_enter Try.func4, Try.ntmps4
  go_wp2_with fail
  refine (head_any _).mono ?_
  rintro e w1 ⟨rfl, hb1⟩
  have C0 : Blk w1 w.heap.size 28 #[.int .i64 a.kind, .int .i64 a.domain, .int .i64 a.seq, .int .i64 a.src, .int .i64 a.port, .int .i64 a.corr, .int .i64 a.time, .int .i64 a.to, .int .i64 a.toPort, .int .i64 a.rate, .int .i64 a.one, .int .i64 a.cls, .int .i64 a.two, .int .i64 a.id, .int .i64 a.steps, .slice A n c] := ((Blk.new w 28 #[.int .i64 a.kind, .int .i64 a.domain, .int .i64 a.seq, .int .i64 a.src, .int .i64 a.port, .int .i64 a.corr, .int .i64 a.time, .int .i64 a.to, .int .i64 a.toPort, .int .i64 a.rate, .int .i64 a.one, .int .i64 a.cls, .int .i64 a.two, .int .i64 a.id, .int .i64 a.steps, .slice A n c]).alloc _).below hb1 (by simp; omega)
  have C1 : Blk w1 (w.heap.size + 1) 28 #[.int .i64 b.kind, .int .i64 b.domain, .int .i64 b.seq, .int .i64 b.src, .int .i64 b.port, .int .i64 b.corr, .int .i64 b.time, .int .i64 b.to, .int .i64 b.toPort, .int .i64 b.rate, .int .i64 b.one, .int .i64 b.cls, .int .i64 b.two, .int .i64 b.id, .int .i64 b.steps, .slice A2 n2 c2] := Blk.below (Blk.at_new _ _ _ (by simp)) hb1 (by simp)
  have BB : Below w.heap.size w w1 := (Below.alloc (Below.alloc (Below.refl _ _) (Nat.le_refl _) _) (by simp) _).trans (hb1.mono (by simp; omega))
  have hz := hb1.size
  simp only [World.size_alloc] at hz
  clear hb1
  have p0 := C0.cell 15
  have p1 := C1.cell 15
  simp at p0 p1
  by_cases h1 : 32 < n
  · go_wp2_with fail
    go_ret
    exact ⟨rfl, BB⟩
  · have d1 : decide (32 < n) = false := by simpa using h1
    by_cases h2 : 32 < n2
    · go_wp2_with fail
      go_ret
      exact ⟨rfl, BB⟩
    · have d2 : decide (32 < n2) = false := by simpa using h2
      have hcc := fun i => C0.cell i
      go_wp2_with fail
      clear hcc
      refine (enc_all a A n c w1 ((hr.below BB).more BB.size) HL.out.1 HN.out.1).mono ?_
      rintro e w2 ⟨X, kx, dx, rfl, hkx, hb2, hX⟩
      have D0 := C0.below hb2 (by omega)
      have D1 := C1.below hb2 (by omega)
      have BB2 := BB.trans (hb2.mono (by omega))
      have hz2 := hb2.size
      have hcc := fun i => D1.cell i
      go_wp2_with fail
      clear hcc
      refine (enc_all b A2 n2 c2 w2 ((hr2.below BB2).more BB2.size) HL.out.2 HN.out.2).mono ?_
      rintro e w3 ⟨Y, ky, dy, rfl, hky, hb3, hY⟩
      have E0 := D0.below hb3 (by omega)
      have E1 := D1.below hb3 (by omega)
      have BB3 := BB2.trans (hb3.mono (by omega))
      have hz3 := hb3.size
      have HB3 := Lib.hid hb3
      clear hb2 hb3 D0 D1 C0 C1 p0 p1 BB BB2 h1 h2
      by_cases ha : checkV a = 0
      · by_cases hb : checkV b = 0
        · have ra := check_zero.1 ha
          have rb := check_zero.1 hb
          obtain ⟨RX, lx⟩ := hX.out ra
          obtain ⟨RY, ly⟩ := hY.out rb
          have RX3 := (RX.below HB3.out).more hz3
          have R3a := (hr.below BB3).more BB3.size
          have R3b := (hr2.below BB3).more BB3.size
          have l1 : n ≤ 1000000 := by omega
          have l2 : n2 ≤ 1000000 := by omega
          have hsame := same_bytes ra rb HW.out.1 HW.out.2
          have HSB := Lib.hid hsame
          rw [ha, hb]
          have HXY := Lib.hid (And.intro ha hb)
          clear ha hb ra rb hX hY lx ly RX hsame HB3
          go_wp2_with fail
          have s0 : w.heap.size < w3.heap.size := by omega
          have s1 : w.heap.size + 1 < w3.heap.size := by omega
          have hcc := fun i => E0.cell i
          have hcc1 := fun i => E1.cell i
          refine wp_region_class (fun w' => Below w3.heap.size w3 w') (by kernel_rfl) (by kernel_rfl) (Below.refl _ _).drew ?_
          repeat (first | (refine wpQuiet_val (v := ?_) ?_ ?_ ?_; rotate_left; (first | rfl | (go_simp; done)); (intro w' hw'; obtain ⟨hc, hf⟩ := bcell hw'; go_simp; with_reducible rfl); simp only [Act.put, List.setIfInBounds_toArray, List.set_cons_zero, List.set_cons_succ]) | (refine wpQuiet_call (v := ?_) 11 ?_ ?_ ?_ ?_ ?_; rotate_left 2; (first | rfl | (go_simp; done)); (intro w' hw'; obtain ⟨hc, hf⟩ := bcell hw'; go_simp; with_reducible rfl); (intro w' hw'; (with_reducible refine (same_any _ _ _ _ _ _ _ _ _ _ _ (RX3.below hw') (RY.below hw') encB_bytes encB_bytes).mono ?_); rintro e w2 ⟨rfl, rfl⟩; refine ⟨?_, hw'⟩; with_reducible rfl); simp only [Act.put, List.setIfInBounds_toArray, List.set_cons_zero, List.set_cons_succ]) | (refine wpQuiet_call (v := ?_) 13 ?_ ?_ ?_ ?_ ?_; rotate_left 2; (first | rfl | (go_simp; done)); (intro w' hw'; obtain ⟨hc, hf⟩ := bcell hw'; go_simp; with_reducible rfl); (intro w' hw'; (with_reducible refine (plain_any _ _ _ _ _).mono ?_); rintro e w2 ⟨rfl, hb⟩; refine ⟨?_, hw'.trans (hb.mono (by have h0 := hw'.size; first | omega | (simp at h0; omega)))⟩; with_reducible rfl); simp only [Act.put, List.setIfInBounds_toArray, List.set_cons_zero, List.set_cons_succ]) | (refine wpQuiet_call (v := ?_) 12 ?_ ?_ ?_ ?_ ?_; rotate_left 2; (first | rfl | (go_simp; done)); (intro w' hw'; obtain ⟨hc, hf⟩ := bcell hw'; go_simp; with_reducible rfl); (intro w' hw'; (with_reducible refine (refSame_any a b _ _ _ _ _ _ _ ((R3a.below hw').more hw'.size) ((R3b.below hw').more hw'.size) HL.out.1 HL.out.2 l1 l2).mono ?_); rintro e w2 ⟨rfl, hb⟩; refine ⟨?_, hw'.trans (hb.mono (by have h0 := hw'.size; first | omega | (simp at h0; omega)))⟩; with_reducible rfl); simp only [Act.put, List.setIfInBounds_toArray, List.set_cons_zero, List.set_cons_succ]))
          refine wpQuiet_nil ?_
          intro w4 hw4
          have BB4 := BB3.trans (hw4.mono (by omega))
          clear hcc hcc1 hw4
          rw [HSB.out]
          go_wp2_with fail
          go_ret
          exact ⟨ret_bool (by simp), BB4⟩
        · have b1 : (checkV b != 0) = true := bne_iff_ne.2 hb
          rw [ha]
          generalize checkV b = y at *
          clear hX hY HB3 ha hb
          go_wp2_with fail
          go_ret
          exact ⟨rfl, BB3⟩
      · have b1 : (checkV a != 0) = true := bne_iff_ne.2 ha
        generalize checkV a = x at *
        generalize checkV b = y at *
        clear hX hY HB3 ha
        go_wp2_with fail
        go_ret
        exact ⟨rfl, BB3⟩

/-! ### The row's step -/
set_option maxRecDepth 100000 in
theorem ptpUnlike_lifted (os : Os) (started : os.Started) (H : Type) (enc : TypeId × Value → H) :
    ReturnsInHanded {} Try.checked os 4 .any (Rows.ptpUnlikeSpec.pre6 enc Try.prog Try.f4 Rows.ptpUnlikeRow.domain false) (Rows.ptpUnlikeSpec.post enc Try.prog Try.f4 false true false false) := by
  refine returnsInHanded_of_change (C := Try.checked) own started (by kernel_rfl) Try.func4
    (ChangeSpec.witness6 (enc := enc) (C := Try.checked) false ⟨#[], #[.agg #[.int .i64 0, .int .i64 0, .int .i64 0, .int .i64 0, .int .i64 0, .int .i64 0, .int .i64 0, .int .i64 0, .int .i64 0, .int .i64 0, .int .i64 0, .int .i64 0, .int .i64 0, .int .i64 0, .int .i64 0, .slice none 0 0], .agg #[.int .i64 0, .int .i64 0, .int .i64 0, .int .i64 0, .int .i64 0, .int .i64 0, .int .i64 0, .int .i64 0, .int .i64 0, .int .i64 0, .int .i64 0, .int .i64 0, .int .i64 0, .int .i64 0, .int .i64 0, .slice none 0 0]], []⟩ 8 (by kernel_rfl) (by kernel_rfl) (by kernel_rfl) (by kernel_rfl)) ?_
  intro W base args ds gs before hval0 hW _ _
  have hval : ∀ (j : Nat) t v, Try.f4.params[j]? = some t → args[j]? = some v → Value.okWide Try.prog W .any base t v := hval0
  have hW' := hW
  obtain ⟨p, q, hA0, hV, rfl, hfz, hnd⟩ := hW
  have hA : DataW.TrodAll enc Try.prog W 0 (fun _ => true) true Try.f4.params.toList args.toList ds p := hA0
  rw [Try.params4] at hA hval
  obtain ⟨v0, v1, d0, d1, p0, p1, rfl, rfl, rfl, h0, h1⟩ := trodAll_two hA
  obtain ⟨a, A, n, c, rfl, hn, hl, hr, wa⟩ := open_msg (hval 0 28 v0 rfl rfl) h0 (fun x hx => hW'.lt x (by simp [hx]))
  obtain ⟨b, A2, n2, c2, rfl, hn2, hl2, hr2, wb⟩ := open_msg (hval 1 28 v1 rfl rfl) h1 (fun x hx => hW'.lt x (by simp [hx]))
  exact law_post laidOut (by kernel_rfl) rfl (by kernel_rfl) Try.underlying4 rfl hW' (ptpUnlike_calls a b A A2 n c n2 c2 W hr hr2 hl hl2 hn hn2 wa wb)

theorem ptpUnlike_holds : Rows.PtpUnlikeSaid :=
  OpenClaim.holds_of_wide 4 Try.f4 rfl rfl rfl rfl rfl rfl rfl ⟨rfl, rfl, rfl, rfl, rfl⟩ rfl rfl rfl rfl rfl (by kernel_rfl) Try.func4 (by kernel_rfl)
    (of_decide_eq_true (by kernel_rfl)) (by unfold Func.isWrapper; first | (rw [if_pos (by decide +kernel)]; kernel_rfl) | (rw [if_neg (by decide +kernel)]; exact ⟨rfl, rfl⟩))
    (fun os started H enc _ => ptpUnlike_lifted os started H enc)

#print axioms ptpUnlike_holds
end Go.Proofs.Ytlhaloabophliaa
