/-
  PairSwitch: for any times and any number the law returns true: as long as the first domain's time is fresh it holds, then the second one's does, until the first one's is told again; the arguments read as they did. No condition.
-/
import Derived.Test.YtbkflmeijjcnhaaPairH
namespace Go.Proofs.Ytbkflmeijjcnhaa
set_option linter.unusedSimpArgs false
set_option linter.unusedVariables false
open Go.RowKit Go.WideShapes Go.ChangeShapes
attribute [local go_sem ↓] Go.wp_at_zero Go.wp_at_succ

set_option maxRecDepth 100000 in
set_option maxHeartbeats 8000000 in
theorem pairSwitch_calls (x1 x2 x3 : Int) (w : World) :
    Calls Try.prog 7 #[.int .i64 x1, .int .i64 x2, .int .i64 x3] w fun e w' => e = .returned (.bool true) ∧ Below w.heap.size w w' := by
  have e1 : bits .and .i64 x1 1099511627775 = x1 % 1099511627776 := andI x1 40 (by omega) _ rfl
  have e2 : bits .and .i64 x2 1099511627775 = x2 % 1099511627776 := andI x2 40 (by omega) _ rfl
  have e3 : bits .and .i64 x3 536870911 = x3 % 536870912 := andI x3 29 (by omega) _ rfl
  have a1 : 0 ≤ x1 % 1099511627776 ∧ x1 % 1099511627776 < 1099511627776 := by omega
  have a2 : 0 ≤ x2 % 1099511627776 ∧ x2 % 1099511627776 < 1099511627776 := by omega
  have a3 : 0 ≤ x3 % 536870912 ∧ x3 % 536870912 < 536870912 := by omega
  generalize x1 % 1099511627776 = a at *
  generalize x2 % 1099511627776 = b at *
  generalize x3 % 536870912 = q at *
  obtain ⟨G, hG⟩ : ∃ G, G = 1 + q := ⟨_, rfl⟩
  obtain ⟨T, hT⟩ : ∃ T, T = 5368709120 + G := ⟨_, rfl⟩
  obtain ⟨X, hX⟩ : ∃ X, X = a + 1073741824 := ⟨_, rfl⟩
  obtain ⟨Y, hY⟩ : ∃ Y, Y = b + 1073741825 - G := ⟨_, rfl⟩
  have f1 : IntKind.i64.wrap (1 + q) = G := by rw [hG]; exact wrap_of (by omega) (by omega)
  have f2 : IntKind.i64.wrap (5368709120 + G) = T := by rw [hT]; exact wrap_of (by omega) (by omega)
  have f3 : IntKind.i64.wrap (a + 1073741824) = X := by rw [hX]; exact wrap_of (by omega) (by omega)
  have f4 : IntKind.i64.wrap (b + 1073741824) = b + 1073741824 := wrap_of (by omega) (by omega)
  have f5 : IntKind.i64.wrap (b + 1073741824 + 1) = b + 1073741824 + 1 := wrap_of (by omega) (by omega)
  have f6 : IntKind.i64.wrap (b + 1073741824 + 1 - G) = Y := by rw [hY, show b + 1073741824 + 1 - G = b + 1073741825 - G by omega]; exact wrap_of (by omega) (by omega)
  obtain ⟨p2, hp2⟩ : ∃ p2 : Pr, p2 = { { prNew 1073741824 with c0 := toldC (ckNew 0) 5368709120 a } with c1 := toldC (ckNew 1) T b } := ⟨_, rfl⟩
  have hw2 : p2.Wf := by rw [hp2]; exact ⟨told_wf (i64_of (by omega) (by omega)) (i64_of (by omega) (by omega)), told_wf (i64_of (by omega) (by omega)) (i64_of (by omega) (by omega))⟩
  have k1 : pickV p2 6442450944 = 0 := by rw [hp2]; exact pick_first (fresh_yes rfl (by omega) (by omega) (by omega) (by show (6442450944 : Int) - 5368709120 ≤ 1073741824; omega))
  have l1 : lendV (lasts p2 0) 6442450944 = lasts p2 0 := lend_none (by rw [hp2]; rfl)
  have t1 : atV (lasts p2 0).c0 6442450944 = (X, true) := by
    rw [hp2, hX]
    have := at_told (c := ckNew 0) (at_ := 5368709120) (t := a) (now := 6442450944) rfl (i64_of (by omega) (by omega)) (i64_of (by omega) (by omega))
    rw [show a + (6442450944 - 5368709120) = a + 1073741824 by omega] at this
    exact this
  have k2 : pickV (lasts p2 0) 6442450945 = 1 := by rw [hp2]; exact pick_second (fresh_no rfl (by omega) (by omega) (by omega) (by show (1073741824 : Int) < 6442450945 - 5368709120; omega)) (fresh_yes rfl (by omega) (by omega) (by omega) (by show 6442450945 - T ≤ 1073741824; omega))
  have l2 : lendV (lasts (lasts p2 0) 1) 6442450945 = lasts (lasts p2 0) 1 := lend_none (by rw [hp2]; rfl)
  have t2 : atV (lasts (lasts p2 0) 1).c1 6442450945 = (Y, true) := by
    rw [hp2, hY]
    have := at_told (c := ckNew 1) (at_ := T) (t := b) (now := 6442450945) rfl (i64_of (by omega) (by omega)) (i64_of (by omega) (by omega))
    rw [show b + (6442450945 - T) = b + 1073741825 - G by omega] at this
    exact this
  obtain ⟨p3, hp3⟩ : ∃ p3 : Pr, p3 = { lasts (lasts p2 0) 1 with c0 := toldC (lasts (lasts p2 0) 1).c0 7516192768 a } := ⟨_, rfl⟩
  have ho : (lasts (lasts p2 0) 1).c0.own = false := by rw [hp2]; rfl
  have hd : (lasts (lasts p2 0) 1).c0.domain = 0 := by rw [hp2]; rfl
  have hw3 : p3.Wf := by rw [hp3]; exact ⟨told_wf (i64_of (by omega) (by omega)) (i64_of (by omega) (by omega)), hw2.w1⟩
  have hm3 : p3.most = 1073741824 := by rw [hp3, hp2]; rfl
  have k3 : pickV p3 7516192768 = 0 := pick_first (by rw [hm3, hp3]; exact fresh_yes ho (by omega) (by omega) (by omega) (by omega))
  have l3 : lendV (lasts p3 0) 7516192768 = lasts p3 0 := lend_none (by rw [hp3, hp2]; rfl)
  have t3 : atV (lasts p3 0).c0 7516192768 = (a, true) := by
    rw [hp3]
    have := at_told (c := (lasts (lasts p2 0) 1).c0) (at_ := 7516192768) (t := a) (now := 7516192768) ho (i64_of (by omega) (by omega)) (i64_of (by omega) (by omega))
    rw [show a + (7516192768 - 7516192768) = a by omega] at this
    exact this
  have k4 : pickV (lasts p3 0) 7516192768 = 0 := pick_first (by show freshV p3.c0 _ p3.most = true; rw [hm3, hp3]; exact fresh_yes ho (by omega) (by omega) (by omega) (by omega))
  have n1 : I64 a ∧ I64 b := by unfold I64; omega
  have HK := Lib.hid (And.intro k1 (And.intro l1 (And.intro t1 (And.intro k2 (And.intro l2 (And.intro t2 (And.intro k3 (And.intro l3 (And.intro t3 k4)))))))))
  have HW := Lib.hid (And.intro hw2 (And.intro hw3 (And.intro ho (And.intro hd n1))))
  have HP := Lib.hid (And.intro hp2 hp3)
  clear k1 l1 t1 k2 l2 t2 k3 l3 t3 k4 hw2 hw3 hm3 ho hd hp2 hp3 n1 hG hT hX hY a1 a2 a3
  go_enter Try.func7, Try.ntmps7
  go_wp2_with fail
  refine (head21 w).mono ?_
  rintro e w0 ⟨rfl, L0⟩
  go_wp2_with fail
  refine (pnew_any 1073741824 (by omega) w0).mono ?_
  rintro e w1 ⟨gp, g0, g1, rfl, P1, hgp, hg0, hg1, L1⟩
  have hz0 := L0.size
  have LL := L0.trans (L1.mono hz0)
  clear L0 L1
  go_wp2_with fail
  refine (ptold0 _ gp g0 g1 5368709120 a w1 P1 rfl rfl HW.out.2.2.2.2.1).mono ?_
  rintro e w2 ⟨rfl, P2, F2⟩
  go_wp2_with fail
  refine (ptold1 _ gp g0 g1 T b w2 P2 rfl rfl HW.out.2.2.2.2.2).mono ?_
  rintro e w3 ⟨rfl, P3, F3⟩
  replace P3 : PrIn w3 gp g0 g1 p2 := by rw [HP.out.1]; exact P3
  clear P1 P2
  go_wp2_with fail
  refine (pat0 p2 gp g0 g1 6442450944 X true w3 P3 HW.out.1 (by rw [HK.out.2.1]; exact ⟨HW.out.1.w0, HW.out.1.w1⟩) (i64_of (by omega) (by omega)) HK.out.1 (by rw [HK.out.2.1]; exact HK.out.2.2.1)).mono ?_
  rintro e w4 ⟨rfl, P4, F4⟩
  rw [HK.out.2.1] at P4
  clear P3
  go_wp2_with fail
  refine (pat1 (lasts p2 0) gp g0 g1 6442450945 Y true w4 P4 ⟨HW.out.1.w0, HW.out.1.w1⟩ (by rw [HK.out.2.2.2.2.1]; exact ⟨HW.out.1.w0, HW.out.1.w1⟩) (i64_of (by omega) (by omega)) HK.out.2.2.2.1 (by rw [HK.out.2.2.2.2.1]; exact HK.out.2.2.2.2.2.1)).mono ?_
  rintro e w5 ⟨rfl, P5, F5⟩
  rw [HK.out.2.2.2.2.1] at P5
  clear P4
  go_wp2_with fail
  refine (ptold0 _ gp g0 g1 7516192768 a w5 P5 HW.out.2.2.1 HW.out.2.2.2.1 HW.out.2.2.2.2.1).mono ?_
  rintro e w6 ⟨rfl, P6, F6⟩
  replace P6 : PrIn w6 gp g0 g1 p3 := by rw [HP.out.2]; exact P6
  clear P5
  go_wp2_with fail
  refine (pat0 p3 gp g0 g1 7516192768 a true w6 P6 HW.out.2.1 (by rw [HK.out.2.2.2.2.2.2.2.1]; exact ⟨HW.out.2.1.w0, HW.out.2.1.w1⟩) (i64_of (by omega) (by omega)) HK.out.2.2.2.2.2.2.1 (by rw [HK.out.2.2.2.2.2.2.2.1]; exact HK.out.2.2.2.2.2.2.2.2.1)).mono ?_
  rintro e w7 ⟨rfl, P7, F7⟩
  rw [HK.out.2.2.2.2.2.2.2.1] at P7
  clear P6
  go_wp2_with fail
  refine (pick_run HK.out.2.2.2.2.2.2.2.2.2 ⟨HW.out.2.1.w0, HW.out.2.1.w1⟩ (i64_of (by omega) (by omega)) P7).mono ?_
  rintro e w8 ⟨rfl, P8, F8⟩
  have L := LL.trans ((F2.trans (F3.trans (F4.trans (F5.trans (F6.trans (F7.trans F8)))))).below LL.size (by omega) (by omega) (by omega))
  clear P7 P8 F2 F3 F4 F5 F6 F7 F8 LL
  go_wp2_with fail
  go_ret
  exact ⟨rfl, L⟩

/-! ### The row's step -/
set_option maxRecDepth 100000 in
theorem pairSwitch_lifted (os : Os) (started : os.Started) (H : Type) (enc : TypeId × Value → H) :
    ReturnsInHanded {} Try.checked os 7 .any (Rows.pairSwitchSpec.pre6 enc Try.prog Try.f7 Rows.pairSwitchRow.domain false) (Rows.pairSwitchSpec.post enc Try.prog Try.f7 false true false false) := by
  refine returnsInHanded_of_change (C := Try.checked) own started (by kernel_rfl) Try.func7
    (ChangeSpec.witness6 (enc := enc) (C := Try.checked) false ⟨#[], #[.int .i64 0, .int .i64 0, .int .i64 0], []⟩ 8 (by kernel_rfl) (by kernel_rfl) (by kernel_rfl) (by kernel_rfl)) ?_
  intro W base args ds gs before hval0 hW _ _
  have hval : ∀ (j : Nat) t v, Try.f7.params[j]? = some t → args[j]? = some v → Value.okWide Try.prog W .any base t v := hval0
  have hW' := hW
  obtain ⟨p, q, hA0, hV, rfl, hfz, hnd⟩ := hW
  have hA : DataW.TrodAll enc Try.prog W 0 (fun _ => true) true Try.f7.params.toList args.toList ds p := hA0
  rw [Try.params7] at hA hval
  obtain ⟨v0, v1, v2, d0, d1, d2, p0, p1, p2, rfl, rfl, rfl, h0, h1, h2⟩ := trodAll_three hA
  obtain ⟨x1, rfl⟩ := okWide_int Try.underlying28 (hval 0 28 v0 rfl rfl)
  obtain ⟨x2, rfl⟩ := okWide_int Try.underlying28 (hval 1 28 v1 rfl rfl)
  obtain ⟨x3, rfl⟩ := okWide_int Try.underlying3 (hval 2 3 v2 rfl rfl)
  exact law_post laidOut (by kernel_rfl) rfl (by kernel_rfl) Try.underlying4 rfl hW' (pairSwitch_calls x1 x2 x3 W)

theorem pairSwitch_holds : Rows.PairSwitchSaid :=
  OpenClaim.holds_of_wide 7 Try.f7 rfl rfl rfl rfl rfl rfl rfl ⟨rfl, rfl, rfl, rfl, rfl⟩ rfl rfl rfl rfl rfl (by kernel_rfl) Try.func7 (by kernel_rfl)
    (of_decide_eq_true (by kernel_rfl)) (by unfold Func.isWrapper; first | (rw [if_pos (by decide +kernel)]; kernel_rfl) | (rw [if_neg (by decide +kernel)]; exact ⟨rfl, rfl⟩))
    (fun os started H enc _ => pairSwitch_lifted os started H enc)

#print axioms pairSwitch_holds
end Go.Proofs.Ytbkflmeijjcnhaa
