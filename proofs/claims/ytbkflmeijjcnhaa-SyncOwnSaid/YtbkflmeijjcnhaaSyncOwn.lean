/-
  SyncOwn: for any numbers the law returns true: who becomes the domain's best clock goes on from the time that it was told, at its own rate, and tells that; the arguments read as they did. No condition.
-/
import Derived.Test.YtbkflmeijjcnhaaSyncH
namespace Go.Proofs.Ytbkflmeijjcnhaa
set_option linter.unusedSimpArgs false
set_option linter.unusedVariables false
open Go.RowKit Go.WideShapes Go.ChangeShapes
attribute [local go_sem ↓] Go.wp_at_zero Go.wp_at_succ

set_option maxRecDepth 100000 in
set_option maxHeartbeats 8000000 in
theorem syncOwn_calls (x1 x2 x3 x4 : Int) (w : World) :
    Calls Try.prog 5 #[.int .i64 x1, .int .i64 x2, .int .i64 x3, .int .i64 x4] w fun e w' => e = .returned (.bool true) ∧ Below w.heap.size w w' := by
  have e1 : bits .and .i64 x1 4294967295 = x1 % 4294967296 := andI x1 32 (by omega) _ rfl
  have e2 : bits .and .i64 x2 1099511627775 = x2 % 1099511627776 := andI x2 40 (by omega) _ rfl
  have e3 : bits .and .i64 x3 255 = x3 % 256 := andI x3 8 (by omega) _ rfl
  have e4 : bits .and .i64 x4 4294967295 = x4 % 4294967296 := andI x4 32 (by omega) _ rfl
  have a1 : 0 ≤ x1 % 4294967296 ∧ x1 % 4294967296 < 4294967296 := by omega
  have a2 : 0 ≤ x2 % 1099511627776 ∧ x2 % 1099511627776 < 1099511627776 := by omega
  have a3 : 0 ≤ x3 % 256 ∧ x3 % 256 < 256 := by omega
  have a4 : 0 ≤ x4 % 4294967296 ∧ x4 % 4294967296 < 4294967296 := by omega
  generalize x1 % 4294967296 = a at *
  generalize x2 % 1099511627776 = T at *
  generalize x3 % 256 = p at *
  generalize x4 % 4294967296 = L at *
  obtain ⟨s, hs⟩ : ∃ s, s = (p - 128) * 2199023 := ⟨_, rfl⟩
  obtain ⟨r, hr⟩ : ∃ r, r = 2199023255552 + s := ⟨_, rfl⟩
  obtain ⟨c1, c2, c3, m, x, h1, h2, h3, h4, h5, hx0, hx1, h6, h7, h8, h9, h10, h11, h12, h13, h14, h15⟩ := own_plain (a := a) (T := T) (L := L) (r := r) a1 a2 a4 (by unfold Rg; omega)
  obtain ⟨N, hN⟩ : ∃ N, N = a + 1073741824 := ⟨_, rfl⟩
  obtain ⟨Z, hZ⟩ : ∃ Z, Z = N + L := ⟨_, rfl⟩
  obtain ⟨F, hF⟩ : ∃ F, F = N + 1125899906842624 := ⟨_, rfl⟩
  obtain ⟨y, hy⟩ : ∃ y, y = x + L := ⟨_, rfl⟩
  rw [← hN] at h5 h6 h8 h9 h14 h15
  rw [← hZ] at h8 h9
  rw [← hF] at h14
  rw [← hy] at h8 h10
  have f1 : IntKind.i64.wrap (a + 1073741824) = N := by rw [hN]; exact wrap_of (by omega) (by omega)
  have f2 : IntKind.i64.wrap (p - 128) = p - 128 := wrap_of (by omega) (by omega)
  have f3 : IntKind.i64.wrap ((p - 128) * 2199023) = s := by rw [hs]; exact wrap_of (by omega) (by omega)
  have f4 : IntKind.i64.wrap (2199023255552 + s) = r := by rw [hr]; exact wrap_of (by omega) (by omega)
  have f5 : IntKind.i64.wrap (N + L) = Z := by rw [hZ]; exact wrap_of (by omega) (by omega)
  have f6 : IntKind.i64.wrap (N + 1125899906842624) = F := by rw [hF]; exact wrap_of (by omega) (by omega)
  have f7 : IntKind.i64.wrap (x + L) = y := by rw [hy]; exact wrap_of (by omega) (by omega)
  have i1 : I64 r ∧ I64 T ∧ I64 N ∧ I64 Z ∧ I64 F := by unfold I64; omega
  have H := Lib.hid (And.intro h1 (And.intro h2 (And.intro h4 (And.intro h5 (And.intro h6 (And.intro h8 (And.intro h9 (And.intro h13 (And.intro h14 h15)))))))))
  have HI := Lib.hid (And.intro i1 (And.intro h3 h7))
  have HM := Lib.hid (And.intro h10 (And.intro h11 h12))
  clear h1 h2 h3 h4 h5 h6 h7 h8 h9 h10 h11 h12 h13 h14 h15 a1 a2 a3 a4 hs hr hN hZ hF hy i1 hx0 hx1
  go_enter Try.func5, Try.ntmps5
  go_wp2_with fail
  refine (head18 w).mono ?_
  rintro e w1 ⟨rfl, BB1⟩
  go_wp2_with fail
  refine (new_run 0 w1).mono ?_
  rintro e w3 ⟨rfl, A3, z3, L3⟩
  have BB3 := BB1.trans (L3.mono BB1.size)
  have b1 := BB1.size
  clear L3 BB1
  go_wp2_with fail
  refine (sync_run H.out.1 rfl A3).mono ?_
  rintro e w4 ⟨rfl, A4, G4⟩
  have BB4 := BB3.trans (below_one G4 BB3.size b1)
  clear G4 A3 BB3
  go_wp2_with fail
  refine (foll_run H.out.2.1 rfl ⟨i64_zero, HI.out.1.2.1, HI.out.1.1⟩ i64_zero (i64_of (by simp) (by simp)) A4).mono ?_
  rintro e w5 ⟨rfl, A5, G5⟩
  have BB5 := BB4.trans (below_one G5 BB4.size b1)
  clear G5 A4 BB4
  go_wp2_with fail
  refine (rate_run H.out.2.2.1 A5).mono ?_
  rintro e w5' ⟨rfl, rfl⟩
  go_wp2_with fail
  refine (at_run H.out.2.2.2.1 HI.out.2.1 HI.out.1.2.2.1 A5).mono ?_
  rintro e w6 ⟨rfl, A6, L6⟩
  have BB6 := BB5.trans (L6.mono BB5.size)
  clear L6 A5 BB5
  go_wp2_with fail
  refine (own_run H.out.2.2.2.2.1 HI.out.2.1 HI.out.1.2.2.1 A6).mono ?_
  rintro e w7 ⟨rfl, A7, G7⟩
  have BB7 := BB6.trans (below_one G7 BB6.size b1)
  clear G7 A6 BB6
  go_wp2_with fail
  refine (at_run H.out.2.2.2.2.2.1 HI.out.2.2 HI.out.1.2.2.2.1 A7).mono ?_
  rintro e w8 ⟨rfl, A8, L8⟩
  have BB8 := BB7.trans (L8.mono BB7.size)
  clear L8 A7 BB7
  go_wp2_with fail
  refine (tell_run H.out.2.2.2.2.2.2.1 HI.out.2.2 HI.out.1.2.2.2.1 A8).mono ?_
  rintro e w9 ⟨rfl, A9, L9⟩
  have BB9 := BB8.trans (L9.mono BB8.size)
  have A10 := A9.alloc (.cells (mcells m none 0 0) 33)
  have BB10 := BB9.alloc BB9.size (.cells (mcells m none 0 0) 33)
  have M10 := Blk.new w9 33 (mcells m none 0 0)
  have m6 := M10.cellOf (v := .int .i64 m.time) 6 rfl
  have m5 := M10.cellOf (v := .int .i64 m.corr) 5 rfl
  have m9 := M10.cellOf (v := .int .i64 m.rate) 9 rfl
  rw [HM.out.1] at m6
  rw [HM.out.2.1] at m5
  rw [HM.out.2.2] at m9
  clear L9 A8 A9 BB8 BB9 M10
  go_wp2_with (refine wpList_store_new rfl 33 (.tmp 16) (.tmp 76) rfl rfl rfl rfl rfl (by kernel_rfl) (by rw [← Array.all_toList]; rfl) ?_; generalize w9.alloc (.cells (mcells m none 0 0) 33) = w10 at *)
  refine (rate_run H.out.2.2.2.2.2.2.2.1 A10).mono ?_
  rintro e w11 ⟨rfl, rfl⟩
  go_wp2_with fail
  refine (fresh_run H.out.2.2.2.2.2.2.2.2.1 HI.out.2.2 HI.out.1.2.2.2.2 A10).mono ?_
  rintro e w12 ⟨rfl, rfl⟩
  go_wp2_with fail
  refine (sync_run H.out.2.2.2.2.2.2.2.2.2 rfl A10).mono ?_
  rintro e w13 ⟨rfl, A13, G13⟩
  have BB13 := BB10.trans (below_one G13 BB10.size b1)
  clear G13 A10 BB10 m5 m6 m9
  go_wp2_with fail
  go_ret
  exact ⟨rfl, BB13⟩

/-! ### The row's step -/
set_option maxRecDepth 100000 in
theorem syncOwn_lifted (os : Os) (started : os.Started) (H : Type) (enc : TypeId × Value → H) :
    ReturnsInHanded {} Try.checked os 5 .any (Rows.syncOwnSpec.pre6 enc Try.prog Try.f5 Rows.syncOwnRow.domain false) (Rows.syncOwnSpec.post enc Try.prog Try.f5 false true false false) := by
  refine returnsInHanded_of_change (C := Try.checked) own started (by kernel_rfl) Try.func5
    (ChangeSpec.witness6 (enc := enc) (C := Try.checked) false ⟨#[], #[.int .i64 0, .int .i64 0, .int .i64 0, .int .i64 0], []⟩ 8 (by kernel_rfl) (by kernel_rfl) (by kernel_rfl) (by kernel_rfl)) ?_
  intro W base args ds gs before hval0 hW _ _
  have hval : ∀ (j : Nat) t v, Try.f5.params[j]? = some t → args[j]? = some v → Value.okWide Try.prog W .any base t v := hval0
  have hW' := hW
  obtain ⟨p, q, hA0, hV, rfl, hfz, hnd⟩ := hW
  have hA : DataW.TrodAll enc Try.prog W 0 (fun _ => true) true Try.f5.params.toList args.toList ds p := hA0
  rw [Try.params5] at hA hval
  obtain ⟨v0, v1, v2, v3, d0, d1, d2, d3, p0, p1, p2, p3, rfl, rfl, rfl, h0, h1, h2, h3⟩ := trodAll_four hA
  obtain ⟨x1, rfl⟩ := okWide_int Try.underlying3 (hval 0 3 v0 rfl rfl)
  obtain ⟨x2, rfl⟩ := okWide_int Try.underlying3 (hval 1 3 v1 rfl rfl)
  obtain ⟨x3, rfl⟩ := okWide_int Try.underlying3 (hval 2 3 v2 rfl rfl)
  obtain ⟨x4, rfl⟩ := okWide_int Try.underlying3 (hval 3 3 v3 rfl rfl)
  exact law_post laidOut (by kernel_rfl) rfl (by kernel_rfl) Try.underlying4 rfl hW' (syncOwn_calls x1 x2 x3 x4 W)

theorem syncOwn_holds : Rows.SyncOwnSaid :=
  OpenClaim.holds_of_wide 5 Try.f5 rfl rfl rfl rfl rfl rfl rfl ⟨rfl, rfl, rfl, rfl, rfl⟩ rfl rfl rfl rfl rfl (by kernel_rfl) Try.func5 (by kernel_rfl)
    (of_decide_eq_true (by kernel_rfl)) (by unfold Func.isWrapper; first | (rw [if_pos (by decide +kernel)]; kernel_rfl) | (rw [if_neg (by decide +kernel)]; exact ⟨rfl, rfl⟩))
    (fun os started H enc _ => syncOwn_lifted os started H enc)

#print axioms syncOwn_holds
end Go.Proofs.Ytbkflmeijjcnhaa
