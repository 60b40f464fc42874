/-
  SyncTells: for any numbers the law returns true: what one clock tells another one over no distance is its own time; the arguments read as they did. No condition.
-/
import Derived.Test.YtbkflmeijjcnhaaSyncH
namespace Go.Proofs.Ytbkflmeijjcnhaa
open Go.RowKit Go.WideShapes Go.ChangeShapes
attribute [local go_sem ↓] Go.wp_at_zero Go.wp_at_succ

set_option maxRecDepth 100000 in
set_option maxHeartbeats 8000000 in
theorem syncTells_calls (x1 x2 x3 x4 x5 : Int) (w : World) :
    Calls Try.prog 3 #[.int .i64 x1, .int .i64 x2, .int .i64 x3, .int .i64 x4, .int .i64 x5] w fun e w' => e = .returned (.bool true) ∧ Below w.heap.size w w' := by
  have e1 : bits .and .i64 x1 4294967295 = x1 % 4294967296 := andI x1 32 (by omega) _ rfl
  have e2 : bits .and .i64 x2 1099511627775 = x2 % 1099511627776 := andI x2 40 (by omega) _ rfl
  have e3 : bits .and .i64 x3 4294967295 = x3 % 4294967296 := andI x3 32 (by omega) _ rfl
  have e4 : bits .and .i64 x4 255 = x4 % 256 := andI x4 8 (by omega) _ rfl
  have e5 : bits .and .i64 x5 4294967295 = x5 % 4294967296 := andI x5 32 (by omega) _ rfl
  have a1 : 0 ≤ x1 % 4294967296 ∧ x1 % 4294967296 < 4294967296 := by omega
  have a2 : 0 ≤ x2 % 1099511627776 ∧ x2 % 1099511627776 < 1099511627776 := by omega
  have a3 : 0 ≤ x3 % 4294967296 ∧ x3 % 4294967296 < 4294967296 := by omega
  have a4 : 0 ≤ x4 % 256 ∧ x4 % 256 < 256 := by omega
  have a5 : 0 ≤ x5 % 4294967296 ∧ x5 % 4294967296 < 4294967296 := by omega
  generalize x1 % 4294967296 = a at *
  generalize x2 % 1099511627776 = T at *
  generalize x3 % 4294967296 = C at *
  generalize x4 % 256 = p at *
  generalize x5 % 4294967296 = q at *
  obtain ⟨W, hW⟩ : ∃ W, W = a + q := ⟨_, rfl⟩
  obtain ⟨s, hs⟩ : ∃ s, s = (p - 128) * 2199023 := ⟨_, rfl⟩
  obtain ⟨r, hr⟩ : ∃ r, r = 2199023255552 + s := ⟨_, rfl⟩
  have f1 : IntKind.i64.wrap (a + q) = W := by rw [hW]; exact wrap_of (by omega) (by omega)
  have f2 : IntKind.i64.wrap (p - 128) = p - 128 := wrap_of (by omega) (by omega)
  have f3 : IntKind.i64.wrap ((p - 128) * 2199023) = s := by rw [hs]; exact wrap_of (by omega) (by omega)
  have f4 : IntKind.i64.wrap (2199023255552 + s) = r := by rw [hr]; exact wrap_of (by omega) (by omega)
  have f5 : IntKind.i64.wrap (T + C) = T + C := wrap_of (by omega) (by omega)
  obtain ⟨c1, c2, d1, d2, m, x, h1, h2, h3, h4, h5, h6, h7, h8, h9, h10, h11, h12, h13⟩ := tells_plain (a := a) (T := T) (C := C) (W := W) (r := r) a1 a2 a3 (by omega) (by unfold Rg; omega)
  have i1 : I64 r := by unfold I64; omega
  have i2 : I64 W := by unfold I64; omega
  have i3 : I64 T ∧ I64 C := by unfold I64; omega
  have H := Lib.hid (And.intro h1 (And.intro h2 (And.intro h4 (And.intro h8 (And.intro h9 (And.intro h11 (And.intro h12 h13)))))))
  have HI := Lib.hid (And.intro i1 (And.intro i2 (And.intro i3 (And.intro h3 (And.intro h5 (And.intro h6 (And.intro h10 h7)))))))
  clear h1 h2 h3 h4 h5 h6 h7 h8 h9 h10 h11 h12 h13 a1 a2 a3 a4 a5 hW hs hr i1 i2 i3
  go_enter Try.func3, Try.ntmps3
  go_wp2_with fail
  refine (head18 w).mono ?_
  rintro e w1 ⟨rfl, BB1⟩
  go_wp2_with fail
  refine (new_run 2 w1).mono ?_
  rintro e w2 ⟨rfl, A2, z2, L2⟩
  have BB2 := BB1.trans (L2.mono BB1.size)
  clear L2
  go_wp2_with fail
  refine (new_run 2 w2).mono ?_
  rintro e w3 ⟨rfl, B3, z3, L3⟩
  have BB3 := BB2.trans (L3.mono BB2.size)
  have A3 : CkIn w3 w1.heap.size (ckNew 2) := A2.kept L3
  have b1 := BB1.size
  clear L3 A2 BB2 BB1
  go_wp2_with fail
  refine (sync_run H.out.1 rfl A3).mono ?_
  rintro e w4 ⟨rfl, A4, G4⟩
  have B4 := B3.keep G4 (by omega)
  have BB4 := BB3.trans (below_one G4 BB3.size b1)
  clear G4 A3 B3 BB3
  go_wp2_with fail
  refine (foll_run H.out.2.1 rfl ⟨HI.out.2.2.1.2, HI.out.2.2.1.1, HI.out.1⟩ i64_zero (i64_of (by simp) (by simp)) A4).mono ?_
  rintro e w5 ⟨rfl, A5, G5⟩
  have B5 := B4.keep G5 (by omega)
  have BB5 := BB4.trans (below_one G5 BB4.size b1)
  clear G5 A4 B4 BB4
  go_wp2_with fail
  refine (tell_run H.out.2.2.1 HI.out.2.2.2.1 HI.out.2.1 A5).mono ?_
  rintro e w6 ⟨rfl, A6, L6⟩
  have B6 : CkIn w6 w2.heap.size (ckNew 2) := B5.kept L6
  have BB6 := BB5.trans (L6.mono BB5.size)
  have z6 : w2.heap.size < w6.heap.size := B6.lt
  have A7 := A6.alloc (.cells (mcells m none 0 0) 33)
  have B7 := B6.alloc (.cells (mcells m none 0 0) 33)
  have BB7 := BB6.alloc BB6.size (.cells (mcells m none 0 0) 33)
  have M7 := Blk.new w6 33 (mcells m none 0 0)
  clear L6 A5 B5 BB5 A6 B6 BB6
  go_wp2_with (refine wpList_store_new rfl 33 (.tmp 14) (.tmp 57) rfl rfl rfl rfl rfl (by kernel_rfl) (by rw [← Array.all_toList]; rfl) ?_; generalize w6.alloc (.cells (mcells m none 0 0) 33) = w7 at *)
  refine (sync_run H.out.2.2.2.1 rfl B7).mono ?_
  rintro e w8 ⟨rfl, B8, G8⟩
  have A8 := A7.keep G8 (by omega)
  have M8 := M7.keep G8 (by omega)
  have BB8 := BB7.trans (below_one G8 BB7.size (by omega))
  clear G8 A7 B7 BB7 M7
  go_wp2_with (refine wpList_load_row_g (by first | rfl | (go_simp; done)) 33 (.tmp 14) rfl (w6.heap.size) rfl 33 (mcells m none 0 0) (0, 0) _ M8 Try.underlying33 rfl (by kernel_rfl) ?_)
  refine (foll_run H.out.2.2.2.2.1 HI.out.2.2.2.2.2.1 HI.out.2.2.2.2.1 i64_zero (i64_of (by simp) (by simp)) B8).mono ?_
  rintro e w9 ⟨rfl, B9, G9⟩
  have A9 := A8.keep G9 (by omega)
  have M9 := M8.keep G9 (by omega)
  have BB9 := BB8.trans (below_one G9 BB8.size (by omega))
  clear G9 A8 B8 BB8 M8
  go_wp2_with fail
  refine (at_run H.out.2.2.2.2.2.1 HI.out.2.2.2.1 HI.out.2.1 A9).mono ?_
  rintro e w10 ⟨rfl, A10, L10⟩
  have B10 : CkIn w10 w2.heap.size d2 := B9.kept L10
  have M10 := M9.kept L10
  have BB10 := BB9.trans (L10.mono BB9.size)
  clear L10 A9 B9 BB9 M9
  go_wp2_with fail
  refine (at_run H.out.2.2.2.2.2.2.1 HI.out.2.2.2.2.2.2.1 HI.out.2.1 B10).mono ?_
  rintro e w11 ⟨rfl, B11, L11⟩
  have A11 : CkIn w11 w1.heap.size c2 := A10.kept L11
  have M11 := M10.kept L11
  have BB11 := BB10.trans (L11.mono BB10.size)
  clear L11 A10 B10 BB10 M10
  go_wp2_with fail
  refine (rate_run H.out.2.2.2.2.2.2.2 B11).mono ?_
  rintro e w12 ⟨rfl, rfl⟩
  go_wp2_with fail
  refine (rate_run rfl A11).mono ?_
  rintro e w13 ⟨rfl, rfl⟩
  have c6 := M11.cellOf (v := .int .i64 m.time) 6 rfl
  rw [HI.out.2.2.2.2.2.2.2] at c6
  clear A11 B11 M11
  generalize nowV c2 = rr at *
  go_wp2_with fail
  go_ret
  exact ⟨ret_bool (by simp), BB11⟩

/-! ### The row's step -/
set_option maxRecDepth 100000 in
theorem syncTells_lifted (os : Os) (started : os.Started) (H : Type) (enc : TypeId × Value → H) :
    ReturnsInHanded {} Try.checked os 3 .any (Rows.syncTellsSpec.pre6 enc Try.prog Try.f3 Rows.syncTellsRow.domain false) (Rows.syncTellsSpec.post enc Try.prog Try.f3 false true false false) := by
  refine returnsInHanded_of_change (C := Try.checked) own started (by kernel_rfl) Try.func3
    (ChangeSpec.witness6 (enc := enc) (C := Try.checked) false ⟨#[], #[.int .i64 0, .int .i64 0, .int .i64 0, .int .i64 0, .int .i64 0], []⟩ 8 (by kernel_rfl) (by kernel_rfl) (by kernel_rfl) (by kernel_rfl)) ?_
  intro W base args ds gs before hval0 hW _ _
  have hval : ∀ (j : Nat) t v, Try.f3.params[j]? = some t → args[j]? = some v → Value.okWide Try.prog W .any base t v := hval0
  have hW' := hW
  obtain ⟨p, q, hA0, hV, rfl, hfz, hnd⟩ := hW
  have hA : DataW.TrodAll enc Try.prog W 0 (fun _ => true) true Try.f3.params.toList args.toList ds p := hA0
  rw [Try.params3] at hA hval
  obtain ⟨v0, v1, v2, v3, v4, d0, d1, d2, d3, d4, p0, p1, p2, p3, p4, rfl, rfl, rfl, h0, h1, h2, h3, h4⟩ := trodAll_five hA
  obtain ⟨x1, rfl⟩ := okWide_int Try.underlying3 (hval 0 3 v0 rfl rfl)
  obtain ⟨x2, rfl⟩ := okWide_int Try.underlying3 (hval 1 3 v1 rfl rfl)
  obtain ⟨x3, rfl⟩ := okWide_int Try.underlying3 (hval 2 3 v2 rfl rfl)
  obtain ⟨x4, rfl⟩ := okWide_int Try.underlying3 (hval 3 3 v3 rfl rfl)
  obtain ⟨x5, rfl⟩ := okWide_int Try.underlying3 (hval 4 3 v4 rfl rfl)
  exact law_post laidOut (by kernel_rfl) rfl (by kernel_rfl) Try.underlying4 rfl hW' (syncTells_calls x1 x2 x3 x4 x5 W)

theorem syncTells_holds : Rows.SyncTellsSaid :=
  OpenClaim.holds_of_wide 3 Try.f3 rfl rfl rfl rfl rfl rfl rfl ⟨rfl, rfl, rfl, rfl, rfl⟩ rfl rfl rfl rfl rfl (by kernel_rfl) Try.func3 (by kernel_rfl)
    (of_decide_eq_true (by kernel_rfl)) (by unfold Func.isWrapper; first | (rw [if_pos (by decide +kernel)]; kernel_rfl) | (rw [if_neg (by decide +kernel)]; exact ⟨rfl, rfl⟩))
    (fun os started H enc _ => syncTells_lifted os started H enc)

#print axioms syncTells_holds
end Go.Proofs.Ytbkflmeijjcnhaa
