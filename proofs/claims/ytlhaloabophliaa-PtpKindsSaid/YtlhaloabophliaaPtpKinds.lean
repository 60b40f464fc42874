/-
  PtpKinds: for any message and any number the law returns true: the message has just the bytes of its kind; the arguments read as they did. No condition.
-/
import Derived.Test.YtlhaloabophliaaPtpLaw0
import Derived.Deep.DeepCutAuto
import Derived.Deep.CutBlock
namespace Go.Proofs.Ytlhaloabophliaa
open Go.RowKit Go.WideShapes Go.ChangeShapes
attribute [local go_sem ↓] Go.wp_at_zero Go.wp_at_succ

def wantN (m : Mg) : Nat := if m.kind = 3 ∨ m.kind = 10 ∨ m.kind = 8 then 36 else if m.kind = 11 then 31 + 6 * m.path.length else 20
theorem enc_length {m : Mg} : (encB m).length = wantN m := by
  unfold encB wantN
  rw [List.length_append, headB_length, tailB_length]
  repeat' split
  all_goals omega
def withKind (m : Mg) (k : Int) : Mg := { m with kind := k }
theorem sync_bad {m : Mg} (h : m.Right) (ht : m.time ≠ 0) : checkV (withKind m 0) = 1 :=
  check_apt (.inl rfl) (fun ha => ht ((ha.1 (by simp [withKind]) (by simp [withKind])).2.2 (by simp [withKind])))

/-- A message's cells, under one name. -/
def mcells (m : Mg) (A : Option Addr) (n c : Nat) : Array Value := #[.int .i64 m.kind, .int .i64 m.domain, .int .i64 m.seq, .int .i64 m.src, .int .i64 m.port, .int .i64 m.corr, .int .i64 m.time, .int .i64 m.to, .int .i64 m.toPort, .int .i64 m.rate, .int .i64 m.one, .int .i64 m.cls, .int .i64 m.two, .int .i64 m.id, .int .i64 m.steps, .slice A n c]
theorem mcells_kind (m : Mg) (A : Option Addr) (n c : Nat) (k : Int) : (mcells m A n c).setIfInBounds 0 (.int .i64 k) = mcells (withKind m k) A n c := rfl
theorem check_m (m : Mg) (A : Option Addr) (n c : Nat) (M : Array Value) (hM : M = mcells m A n c) (w : World) (hr : Reads w w.heap.size 1 A n (vs m.path)) (hl : m.path.length = n) (hn : n ≤ maxLen) :
    Calls Try.prog 9 #[.agg M] w fun e w' => e = .returned (.int .i64 (checkV m)) ∧ Below w.heap.size w w' := by
  subst hM
  exact check_any m A n c w hr hl hn
theorem enc_m (m : Mg) (A : Option Addr) (n c : Nat) (M : Array Value) (hM : M = mcells m A n c) (w : World) (hr : Reads w w.heap.size 1 A n (vs m.path)) (hl : m.path.length = n) (hn : n ≤ maxLen) :
    Calls Try.prog 10 #[.agg M] w fun e w' => ∃ (B : Option Addr) (k d : Nat) (x : Int), e = .returned (.tuple #[.slice B k d, .int .i64 x]) ∧ Below w.heap.size w w' ∧ Hid (x = checkV m ∧ (m.Right → k = wantN m)) := by
  subst hM
  refine (enc_all m A n c w hr hl hn).mono ?_
  rintro e w' ⟨B, k, d, rfl, _, hb, hX⟩
  exact ⟨B, k, d, _, rfl, hb, rfl, fun h => (hX.out h).2.trans enc_length⟩

set_option maxRecDepth 100000 in
set_option maxHeartbeats 8000000 in
theorem ptpKinds_calls (m : Mg) (A : Option Addr) (n c : Nat) (M : Array Value) (hM : M = mcells m A n c) (kind : Int) (w : World) (hr : Reads w w.heap.size 1 A n (vs m.path)) (hl : m.path.length = n) (hn : n ≤ maxLen) :
    Calls Try.prog 3 #[.agg M, .int .i64 kind] w fun e w' => e = .returned (.bool true) ∧ Below w.heap.size w w' := by
  have HN := Lib.hid hn
  have HL := Lib.hid hl
  have HM1 := Lib.hid hM
  have hsz : M.size = 16 := by rw [hM]; rfl
  have g0 : M[0]? = some (.int .i64 m.kind) := by rw [hM]; rfl
  have g6 : M[6]? = some (.int .i64 m.time) := by rw [hM]; rfl
  have g15 : M[15]? = some (.slice A n c) := by rw [hM]; rfl
  have hall : M.all (·.oneCell') = true := by rw [hM, ← Array.all_toList]; rfl
  have hin : (Try.prog.info? 28).map (·.size) = some M.size := by rw [hsz]; kernel_rfl
  have HG := Lib.hid (And.intro hsz (And.intro hall hin))
  unfold maxLen at hn
  clear hl hM hsz hall hin
  have LOADARM : True := trivial
  go_enter Try.func3, Try.ntmps3
  go_wp2_with fail
  refine (head_any _).mono ?_
  rintro e w1 ⟨rfl, hb1⟩
  have C0 : Blk w1 w.heap.size 28 M := (Blk.new w 28 M).below hb1 (by simp)
  have BB : Below w.heap.size w w1 := (Below.alloc (Below.refl _ _) (Nat.le_refl _) _).trans (hb1.mono (by simp))
  have hz := hb1.size
  simp only [World.size_alloc] at hz
  clear hb1
  have p0 := C0.cellOf 15 g15
  by_cases h1 : 32 < n
  · go_wp2_with fail
    go_ret
    exact ⟨rfl, BB⟩
  · have d1 : decide (32 < n) = false := by simpa using h1
    have d1i : (n : Int) ≤ 32 := by omega
    go_wp2_with (refine wpList_load_row_g (by first | rfl | (go_simp; done)) 28 (.tmp 2) rfl (w.heap.size) rfl 28 (M) (0, 0) _ (C0) Try.underlying28 rfl (HG.out.2.2) ?_)
    refine (check_m m A n c M HM1.out w1 ((hr.below BB).more BB.size) HL.out HN.out).mono ?_
    rintro e w2 ⟨rfl, hb2⟩
    by_cases hm0 : checkV m = 0
    · have hm := check_zero.1 hm0
      have HM := Lib.hid hm
      rw [hm0]
      have D0 := C0.below hb2 (by omega)
      have BB2 := BB.trans (hb2.mono (by omega))
      have hz2 := hb2.size
      clear hm hm0 hb2 C0 BB p0 h1
      go_wp2_with (refine wpList_load_row_g (by first | rfl | (go_simp; done)) 28 (.tmp 2) rfl (w.heap.size) rfl 28 (M) (0, 0) _ (D0) Try.underlying28 rfl (HG.out.2.2) ?_)
      refine (enc_m m A n c M HM1.out w2 ((hr.below BB2).more BB2.size) HL.out HN.out).mono ?_
      rintro e w3 ⟨XA, kx, dx, x0, rfl, hb3, hX⟩
      obtain rfl : x0 = 0 := hX.out.1.trans (check_zero.2 HM.out)
      have HKX := Lib.hid (hX.out.2 HM.out)
      have E0 := D0.below hb3 (by omega)
      have BB3 := BB2.trans (hb3.mono (by omega))
      have s3 : w.heap.size < w3.heap.size := by have := hb3.size; omega
      clear hb3 D0 BB2 hX
      have c0 := E0.cellOf 0 g0
      have c15 := E0.cellOf 15 g15
      have R3 := (hr.below BB3).more BB3.size
      go_upto_block 0 with fail
      go_cut [7] (fun s7 wx => s7 = .int .i64 (kx : Int) ∧ w3 = wx)
      case first =>
        have hkm := HM.out.known
        unfold Known at hkm
        rcases hkm with hk | hk | hk | hk | hk | hk
        · have HW := Lib.hid (show wantN m = 20 by simp [wantN, hk])
          go_wp2_with fail
          go_meet
          exact ⟨by rw [HKX.out, HW.out]; rfl, rfl⟩
        · have HW := Lib.hid (show wantN m = 20 by simp [wantN, hk])
          go_wp2_with fail
          go_meet
          exact ⟨by rw [HKX.out, HW.out]; rfl, rfl⟩
        · have HW := Lib.hid (show wantN m = 36 by simp [wantN, hk])
          go_wp2_with fail
          go_meet
          exact ⟨by rw [HKX.out, HW.out]; rfl, rfl⟩
        · have HW := Lib.hid (show wantN m = 36 by simp [wantN, hk])
          go_wp2_with fail
          go_meet
          exact ⟨by rw [HKX.out, HW.out]; rfl, rfl⟩
        · have HW := Lib.hid (show wantN m = 36 by simp [wantN, hk])
          go_wp2_with fail
          go_meet
          exact ⟨by rw [HKX.out, HW.out]; rfl, rfl⟩
        · have HW := Lib.hid (show wantN m = 31 + 6 * n by simp [wantN, hk, show m.path.length = n from HL.out])
          go_wp2_with fail
          go_meet
          exact ⟨by rw [HKX.out, HW.out]; simp, rfl⟩
      case rest =>
        obtain ⟨rfl, rfl⟩ := hcut
        have nn : ((kx : Int) != (kx : Int)) = false := by simp
        have c6 := E0.cellOf 6 g6
        clear c0 c15
        go_upto_if 51 with fail
        go_cut [7] (fun _ wx => Blk wx w.heap.size 28 M ∧ Below w.heap.size w wx ∧ w.heap.size < wx.heap.size)
        case first =>
          by_cases ht : m.time = 0
          · have t0 : (m.time != 0) = false := by simp [ht]
            clear ht
            go_wp2_with fail
            go_meet
            exact ⟨E0, BB3, by omega⟩
          · have t0 : (m.time != 0) = true := by simp [ht]
            have HT := Lib.hid ht
            clear ht
            have hs0 : (M.setIfInBounds 0 (.int .i64 0)).size = 16 := by rw [Array.size_setIfInBounds]; exact HG.out.1
            have hi0 : (Try.prog.info? 28).map (·.size) = some (M.setIfInBounds 0 (.int .i64 0)).size := by rw [hs0]; kernel_rfl
            have B8 : Blk (w3.alloc (.cells (M.setIfInBounds 0 (.int .i64 0)) 28)) w3.heap.size 28 _ := Blk.new _ _ _
            have HB8 := Lib.hid (And.intro hi0 B8)
            clear hs0 hi0 B8
            have b8 := (Blk.new w3 28 M).cellOf 0 g0
            have f8 := (Blk.new w3 28 M).frozen 0
            go_wp2_with (first | (refine wpList_load_row_g (by first | rfl | (go_simp; done)) 28 (.tmp 2) rfl (w.heap.size) rfl 28 (M) (0, 0) _ (E0) Try.underlying28 rfl (HG.out.2.2) ?_) | (refine wpList_store_new rfl 28 (.tmp 8) (.tmp 52) rfl rfl rfl rfl HG.out.1.symm HG.out.2.2 HG.out.2.1 ?_) | (refine wpList_load_row_g (by first | rfl | (go_simp; done)) 28 (.tmp 8) rfl (w3.heap.size) rfl 28 (M.setIfInBounds 0 (.int .i64 0)) (0, 0) _ (HB8.out.2) Try.underlying28 rfl (HB8.out.1) ?_))
            refine (check_m (withKind m 0) A n c _ (by rw [HM1.out]; exact mcells_kind m A n c 0) _ ((R3.alloc (Nat.le_refl _) _).more (by simp)) HL.out HN.out).mono ?_
            rw [sync_bad HM.out HT.out]
            rintro e w4 ⟨rfl, hb4⟩
            have E4 : Blk w4 w.heap.size _ _ := (E0.alloc _).below hb4 (by simp; omega)
            have BB4 : Below w.heap.size w w4 := (BB3.alloc BB3.size _).trans (hb4.mono (by have := BB3.size; simp; omega))
            have s4 : w.heap.size < w4.heap.size := by have := hb4.size; simp at this; omega
            go_wp2_with fail
            go_meet
            exact ⟨E4, BB4, s4⟩
        case rest =>
          obtain ⟨E4, BB4, s4⟩ := hcut
          clear E0 BB3 R3 s3 c6 nn
          have hs0 : (M.setIfInBounds 0 (.int .i64 kind)).size = 16 := by rw [Array.size_setIfInBounds]; exact HG.out.1
          have hi0 : (Try.prog.info? 28).map (·.size) = some (M.setIfInBounds 0 (.int .i64 kind)).size := by rw [hs0]; kernel_rfl
          obtain ⟨w4, rfl⟩ : ∃ w4 : World, w4 = wc := ⟨_, rfl⟩
          have B9 : Blk (w4.alloc (.cells (M.setIfInBounds 0 (.int .i64 kind)) 28)) w4.heap.size 28 _ := Blk.new _ _ _
          have HB9 := Lib.hid (And.intro hi0 B9)
          clear hs0 hi0 B9
          have b8 := (Blk.new w4 28 M).cellOf 0 g0
          have f8 := (Blk.new w4 28 M).frozen 0
          have R4 := (hr.below BB4).more BB4.size
          go_wp2_with (first | (refine wpList_load_row_g (by first | rfl | (go_simp; done)) 28 (.tmp 2) rfl (w.heap.size) rfl 28 (M) (0, 0) _ (E4) Try.underlying28 rfl (HG.out.2.2) ?_) | (refine wpList_store_new rfl 28 (.tmp 9) (.tmp 57) rfl rfl rfl rfl HG.out.1.symm HG.out.2.2 HG.out.2.1 ?_) | (refine wpList_load_row_g (by first | rfl | (go_simp; done)) 28 (.tmp 9) rfl (w4.heap.size) rfl 28 (M.setIfInBounds 0 (.int .i64 kind)) (0, 0) _ (HB9.out.2) Try.underlying28 rfl (HB9.out.1) ?_))
          refine (enc_m (withKind m kind) A n c _ (by rw [HM1.out]; exact mcells_kind m A n c kind) _ ((R4.alloc (Nat.le_refl _) _).more (by simp)) HL.out HN.out).mono ?_
          rintro e w5 ⟨Y, ky, dy, x, rfl, hb5, hX⟩
          have hX2 : x = 23 ↔ ¬ Known kind := by rw [hX.out.1]; exact check_23
          have BB5 : Below w.heap.size w w5 := (BB4.alloc BB4.size _).trans (hb5.mono (by have := BB4.size; simp; omega))
          clear hb5 BB4 E4 s4 hX R4 b8 f8
          by_cases hkn : Known kind
          · have hx : x ≠ 23 := fun h => hX2.1 h hkn
            have hx1 : (x == 23) = false := beq_eq_false_iff_ne.2 hx
            have HX := Lib.hid hx
            clear hx hX2
            unfold Known at hkn
            rcases hkn with rfl | rfl | rfl | rfl | rfl | rfl
            all_goals
              go_wp2_with fail
              go_ret
              exact ⟨rfl, BB5⟩
          · obtain rfl := hX2.2 hkn
            have k0 : (kind != 0) = true := bne_iff_ne.2 (fun h => hkn (.inl h))
            have k2 : (kind != 2) = true := bne_iff_ne.2 (fun h => hkn (.inr (.inl h)))
            have k3 : (kind != 3) = true := bne_iff_ne.2 (fun h => hkn (.inr (.inr (.inl h))))
            have k8 : (kind != 8) = true := bne_iff_ne.2 (fun h => hkn (.inr (.inr (.inr (.inl h)))))
            have k10 : (kind != 10) = true := bne_iff_ne.2 (fun h => hkn (.inr (.inr (.inr (.inr (.inl h))))))
            have k11 : (kind != 11) = true := bne_iff_ne.2 (fun h => hkn (.inr (.inr (.inr (.inr (.inr h))))))
            have HKN := Lib.hid (And.intro hkn hX2)
            clear hkn hX2
            go_wp2_with fail
            go_ret
            exact ⟨rfl, BB5⟩
    · have b1 : (checkV m != 0) = true := bne_iff_ne.2 hm0
      have BB2 := BB.trans (hb2.mono (by omega))
      generalize checkV m = x at *
      clear hm0 hb2
      go_wp2_with fail
      go_ret
      exact ⟨rfl, BB2⟩

/-! ### The row's step -/
set_option maxRecDepth 100000 in
theorem ptpKinds_lifted (os : Os) (started : os.Started) (H : Type) (enc : TypeId × Value → H) :
    ReturnsInHanded {} Try.checked os 3 .any (Rows.ptpKindsSpec.pre6 enc Try.prog Try.f3 Rows.ptpKindsRow.domain false) (Rows.ptpKindsSpec.post enc Try.prog Try.f3 false true false false) := by
  refine returnsInHanded_of_change (C := Try.checked) own started (by kernel_rfl) Try.func3
    (ChangeSpec.witness6 (enc := enc) (C := Try.checked) false ⟨#[], #[.agg #[.int .i64 0, .int .i64 0, .int .i64 0, .int .i64 0, .int .i64 0, .int .i64 0, .int .i64 0, .int .i64 0, .int .i64 0, .int .i64 0, .int .i64 0, .int .i64 0, .int .i64 0, .int .i64 0, .int .i64 0, .slice none 0 0], .int .i64 0], []⟩ 8 (by kernel_rfl) (by kernel_rfl) (by kernel_rfl) (by kernel_rfl)) ?_
  intro W base args ds gs before hval0 hW _ _
  have hval : ∀ (j : Nat) t v, Try.f3.params[j]? = some t → args[j]? = some v → Value.okWide Try.prog W .any base t v := hval0
  have hW' := hW
  obtain ⟨p, q, hA0, hV, rfl, hfz, hnd⟩ := hW
  have hA : DataW.TrodAll enc Try.prog W 0 (fun _ => true) true Try.f3.params.toList args.toList ds p := hA0
  rw [Try.params3] at hA hval
  obtain ⟨v0, v1, d0, d1, p0, p1, rfl, rfl, rfl, h0, h1⟩ := trodAll_two hA
  obtain ⟨m, A, n, c, rfl, hn, hl, hr, _⟩ := open_msg (hval 0 28 v0 rfl rfl) h0 (fun x hx => hW'.lt x (by simp [hx]))
  obtain ⟨kind, rfl⟩ := okWide_int Try.underlying3 (hval 1 3 v1 rfl rfl)
  exact law_post laidOut (by kernel_rfl) rfl (by kernel_rfl) Try.underlying4 rfl hW' (ptpKinds_calls m A n c _ rfl kind W hr hl hn)

theorem ptpKinds_holds : Rows.PtpKindsSaid :=
  OpenClaim.holds_of_wide 3 Try.f3 rfl rfl rfl rfl rfl rfl rfl ⟨rfl, rfl, rfl, rfl, rfl⟩ rfl rfl rfl rfl rfl (by kernel_rfl) Try.func3 (by kernel_rfl)
    (of_decide_eq_true (by kernel_rfl)) (by unfold Func.isWrapper; first | (rw [if_pos (by decide +kernel)]; kernel_rfl) | (rw [if_neg (by decide +kernel)]; exact ⟨rfl, rfl⟩))
    (fun os started H enc _ => ptpKinds_lifted os started H enc)

#print axioms ptpKinds_holds
end Go.Proofs.Ytlhaloabophliaa
