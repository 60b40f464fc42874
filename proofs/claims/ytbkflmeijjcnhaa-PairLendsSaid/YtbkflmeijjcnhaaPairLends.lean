/-
  PairLends: for any times the law returns true: who is the second domain's best clock tells the first one's time there, as long as it is told itself, and goes on from it, when it is told no more; the arguments read as they did. No condition.
-/
import Derived.Test.YtbkflmeijjcnhaaPairC
namespace Go.Proofs.Ytbkflmeijjcnhaa
set_option linter.unusedSimpArgs false
set_option linter.unusedVariables false
open Go.RowKit Go.WideShapes Go.ChangeShapes
attribute [local go_sem ↓] Go.wp_at_zero Go.wp_at_succ

theorem pfresh_run0 {p : Pr} {gp g0 g1 : Nat} {now : Int} {b : Bool} {w : World} (h : freshV p.c0 now p.most = b) (hw : p.c0.Wf) (hn : I64 now) (P : PrIn w gp g0 g1 p) :
    Calls Try.prog 35 #[.pointer (some ⟨gp, 0, none⟩), .int .i64 0, .int .i64 now] w fun e w' => e = .returned (.bool b) ∧ PrIn w' gp g0 g1 p ∧ Below w.heap.size w w' := by
  have := pfresh0 p gp g0 g1 now w P hw hn
  rw [h] at this
  exact this
theorem pfresh_run1 {p : Pr} {gp g0 g1 : Nat} {now : Int} {b : Bool} {w : World} (h : freshV p.c1 now p.most = b) (hw : p.c1.Wf) (hn : I64 now) (P : PrIn w gp g0 g1 p) :
    Calls Try.prog 35 #[.pointer (some ⟨gp, 0, none⟩), .int .i64 1, .int .i64 now] w fun e w' => e = .returned (.bool b) ∧ PrIn w' gp g0 g1 p ∧ Below w.heap.size w w' := by
  have := pfresh1 p gp g0 g1 now w P hw hn
  rw [h] at this
  exact this
set_option maxRecDepth 100000 in
set_option maxHeartbeats 8000000 in
theorem pairLends_calls (x1 x2 x3 : Int) (w : World) :
    Calls Try.prog 9 #[.int .i64 x1, .int .i64 x2, .int .i64 x3] w fun e w' => e = .returned (.bool true) ∧ Below w.heap.size w w' := by
  have e1 : bits .and .i64 x1 4294967295 = x1 % 4294967296 := andI x1 32 (by omega) _ rfl
  have e2 : bits .and .i64 x2 1099511627775 = x2 % 1099511627776 := andI x2 40 (by omega) _ rfl
  have e3 : bits .and .i64 x3 4294967295 = x3 % 4294967296 := andI x3 32 (by omega) _ rfl
  have a1 : 0 ≤ x1 % 4294967296 ∧ x1 % 4294967296 < 4294967296 := by omega
  have a2 : 0 ≤ x2 % 1099511627776 ∧ x2 % 1099511627776 < 1099511627776 := by omega
  have a3 : 0 ≤ x3 % 4294967296 ∧ x3 % 4294967296 < 4294967296 := by omega
  generalize x1 % 4294967296 = a at *
  generalize x2 % 1099511627776 = t at *
  generalize x3 % 4294967296 = l at *
  obtain ⟨N, hN⟩ : ∃ N, N = a + l := ⟨_, rfl⟩
  obtain ⟨T, hT⟩ : ∃ T, T = t + l := ⟨_, rfl⟩
  obtain ⟨F, hF⟩ : ∃ F, F = N + 1099511627776 := ⟨_, rfl⟩
  obtain ⟨U, hU⟩ : ∃ U, U = T + 1099511627776 := ⟨_, rfl⟩
  have f1 : IntKind.i64.wrap (a + l) = N := by rw [hN]; exact wrap_of (by omega) (by omega)
  have f2 : IntKind.i64.wrap (t + l) = T := by rw [hT]; exact wrap_of (by omega) (by omega)
  have f3 : IntKind.i64.wrap (N + 1099511627776) = F := by rw [hF]; exact wrap_of (by omega) (by omega)
  have f4 : IntKind.i64.wrap (T + 1099511627776) = U := by rw [hU]; exact wrap_of (by omega) (by omega)
  have f5 : IntKind.i64.wrap (T + 0) = T := by rw [Int.add_zero]; exact wrap_of (by omega) (by omega)
  have f6 : IntKind.i64.wrap T = T := wrap_of (by omega) (by omega)
  obtain ⟨k1, hk1⟩ : ∃ k1 : Ck, k1 = { ckNew 1 with own := true, opn := false } := ⟨_, rfl⟩
  have ho1 : ownV (ckNew 1) true 0 = k1 := by
    have hat : atV (ckNew 1) 0 = (0, false) := rfl
    unfold ownV
    rw [if_neg (by simp [ckNew]), hat, if_neg (by simp), hk1]
  obtain ⟨p1, hp1⟩ : ∃ p1 : Pr, p1 = { prNew 8589934592 with root1 := true, c1 := k1, c0 := toldC (ckNew 0) a t } := ⟨_, rfl⟩
  obtain ⟨q, hq⟩ : ∃ q : Pr, q = { p1 with c1 := holdV k1 N T } := ⟨_, rfl⟩
  have iN : I64 N ∧ I64 T ∧ I64 F ∧ I64 U ∧ I64 a ∧ I64 t := by unfold I64; omega
  have wk : k1.Wf := by rw [hk1]; exact ⟨i64_zero, i64_zero, i64_of (by show (0 : Int) ≤ 2199023255552; omega) (by show (2199023255552 : Int) < _; omega), i64_zero, i64_zero⟩
  have wh : (holdV k1 N T).Wf := ⟨iN.1, iN.2.1, wk.rate, iN.1, wk.at_⟩
  have w1 : p1.Wf := by rw [hp1]; exact ⟨told_wf iN.2.2.2.2.1 iN.2.2.2.2.2, wk⟩
  have wq : q.Wf := by rw [hq]; exact ⟨w1.w0, wh⟩
  have oh : (holdV k1 N T).own = true := by rw [hk1]; rfl
  have fr : freshV p1.c0 N p1.most = true := by rw [hp1]; exact fresh_yes rfl (by omega) (by omega) (by omega) (by show N - a ≤ 8589934592; omega)
  have ar : atV p1.c0 N = (T, true) := by
    rw [hp1]
    have := at_told (c := ckNew 0) (at_ := a) (t := t) (now := N) rfl (i64_of (by omega) (by omega)) (i64_of (by omega) (by omega))
    rw [show t + (N - a) = T by omega] at this
    exact this
  have l1 : lendV p1 N = q := by
    unfold lendV
    rw [if_pos ⟨by rw [hp1], fr, by rw [ar]⟩, ar, hq, show p1.c1 = k1 from by rw [hp1]]
  have nh : nowV (holdV k1 N T) = 2199023255552 := by unfold nowV; rw [if_pos oh]
  have a4 : atV q.c1 N = (T, true) := by
    rw [hq]
    exact at_known (x := 0) rfl (by show I64 (N - N); rw [Int.sub_self]; exact i64_zero) (by show mulDivV (N - N) (nowV (holdV k1 N T)) 2199023255552 2 = _; rw [Int.sub_self, nh]; exact by_zero (by omega)) iN.2.1 (by show T = T + 0; omega)
  have t4 : tellV q.c1 3 5 1 N = (⟨8, 1, 3, 5, 1, 0, T, 0, 0, 2199023255552, 0, 0, 0, 0, 0, []⟩, true) := by
    have := tell_own (c := q.c1) (seq := 3) (src := 5) (port := 1) (now := N) (t := T) (by rw [hq]; exact oh) a4 (by rw [hq]; show 0 ≤ k1.domain ∧ k1.domain ≤ 127; rw [hk1]; show (0 : Int) ≤ 1 ∧ (1 : Int) ≤ 127; omega) (by omega) (by omega) (by omega)
    rw [this, hq]
    show (Mg.mk 8 k1.domain _ _ _ _ _ _ _ _ _ _ _ _ _ _, true) = _
    rw [hk1]
    rfl
  have fq0 : freshV q.c0 F q.most = false := by rw [hq, hp1]; exact fresh_no rfl (by omega) (by omega) (by omega) (by show (8589934592 : Int) < F - a; omega)
  have fq1 : freshV q.c1 F q.most = true := by rw [hq]; unfold freshV; rw [if_pos oh]
  have k5 : pickV q F = 1 := pick_second fq0 fq1
  have l5 : lendV (lasts q 1) F = lasts q 1 := by
    unfold lendV
    rw [if_neg (fun h => by have := h.2.1; rw [show freshV (lasts q 1).c0 F (lasts q 1).most = false from fq0] at this; cases this)]
  have a5 : atV (lasts q 1).c1 F = (U, true) := by
    rw [hq]
    exact at_known (x := 1099511627776) rfl (i64_of (by show 0 ≤ F - N; omega) (by show F - N < _; omega)) (by show mulDivV (F - N) (nowV (holdV k1 N T)) 2199023255552 2 = _; rw [nh, show F - N = 1099511627776 by omega]; exact by_one (i64_of (by omega) (by omega))) iN.2.2.2.1 (by show U = T + 1099511627776; omega)
  have k6 : pickV (lasts q 1) F = 1 := pick_second fq0 fq1
  have HK := Lib.hid (And.intro ho1 (And.intro l1 (And.intro t4 (And.intro k5 (And.intro l5 (And.intro a5 (And.intro k6 (And.intro fq0 fq1))))))))
  have HW := Lib.hid (And.intro w1 (And.intro wq (And.intro wk iN)))
  have HP := Lib.hid hp1
  clear ho1 l1 t4 k5 l5 a5 k6 fq0 fq1 w1 wq wk iN hp1 hk1 hq wh oh fr ar nh a4 hN hT hF hU a1 a2 a3
  go_enter Try.func9, Try.ntmps9
  go_wp2_with fail
  refine (head21 w).mono ?_
  rintro e w0 ⟨rfl, L0⟩
  go_wp2_with fail
  refine (pnew_any 8589934592 (by omega) w0).mono ?_
  rintro e w1 ⟨gp, g0, g1, rfl, P1, hgp, hg0, hg1, L1⟩
  have hz0 := L0.size
  have LL := L0.trans (L1.mono hz0)
  clear L0 L1
  go_wp2_with fail
  refine (proot1 _ gp g0 g1 true 0 w1 P1 (ckNew_wf 1) i64_zero).mono ?_
  rintro e w2 ⟨rfl, P2, F2⟩
  go_wp2_with fail
  refine (ptold0 _ gp g0 g1 a t w2 P2 rfl rfl HW.out.2.2.2.2.2.2.2.2).mono ?_
  rintro e w3 ⟨rfl, P3, F3⟩
  replace P3 : PrIn w3 gp g0 g1 p1 := by rw [HP.out, ← HK.out.1]; exact P3
  clear P1 P2
  go_wp2_with fail
  refine (ptell1 p1 q gp g0 g1 3 5 1 N _ true w3 P3 HW.out.1 HW.out.2.1.w1 HW.out.2.2.2.1 HK.out.2.1 HK.out.2.2.1).mono ?_
  rintro e w4 ⟨rfl, P4, F4⟩
  have F24 := F2.trans (F3.trans F4)
  have z4 : w.heap.size ≤ w4.heap.size := Nat.le_trans LL.size F24.size
  have LL4 := LL.trans (F24.below LL.size (by omega) (by omega) (by omega))
  have n1 := P4.box.lt
  have n2 := P4.k0.lt
  have n3 := P4.k1.lt
  have M5 := Blk.new w4 33 (mcells ⟨8, 1, 3, 5, 1, 0, T, 0, 0, 2199023255552, 0, 0, 0, 0, 0, []⟩ none 0 0)
  have P5 := P4.kept ((Below.refl w4.heap.size w4).alloc (Nat.le_refl _) (.cells (mcells ⟨8, 1, 3, 5, 1, 0, T, 0, 0, 2199023255552, 0, 0, 0, 0, 0, []⟩ none 0 0) 33))
  have LL5 := LL4.alloc z4 (.cells (mcells ⟨8, 1, 3, 5, 1, 0, T, 0, 0, 2199023255552, 0, 0, 0, 0, 0, []⟩ none 0 0) 33)
  have c0 := M5.cellOf (v := .int .i64 8) 0 rfl
  have c1 := M5.cellOf (v := .int .i64 1) 1 rfl
  have c5 := M5.cellOf (v := .int .i64 0) 5 rfl
  have c6 := M5.cellOf (v := .int .i64 T) 6 rfl
  clear P3 P4 F2 F3 F4 F24 LL LL4 M5
  go_wp2_with (refine wpList_store_new (cs := mcells ⟨8, 1, 3, 5, 1, 0, T, 0, 0, 2199023255552, 0, 0, 0, 0, 0, []⟩ none 0 0) rfl 33 (.tmp 9) (.tmp 41) rfl rfl rfl rfl rfl (by kernel_rfl) (by rw [← Array.all_toList]; rfl) ?_; generalize w4.alloc (.cells (mcells ⟨8, 1, 3, 5, 1, 0, T, 0, 0, 2199023255552, 0, 0, 0, 0, 0, []⟩ none 0 0) 33) = w5 at *)
  refine (pat1 q gp g0 g1 F U true w5 P5 HW.out.2.1 (by rw [HK.out.2.2.2.2.1]; exact ⟨HW.out.2.1.w0, HW.out.2.1.w1⟩) HW.out.2.2.2.2.2.1 HK.out.2.2.2.1 (by rw [HK.out.2.2.2.2.1]; exact HK.out.2.2.2.2.2.1)).mono ?_
  rintro e w6 ⟨rfl, P6, F6⟩
  rw [HK.out.2.2.2.2.1] at P6
  clear c0 c1 c5 c6 P5
  go_wp2_with fail
  refine (pick_run HK.out.2.2.2.2.2.2.1 ⟨HW.out.2.1.w0, HW.out.2.1.w1⟩ HW.out.2.2.2.2.2.1 P6).mono ?_
  rintro e w7 ⟨rfl, P7, F7⟩
  go_wp2_with fail
  refine (pfresh_run0 (p := lasts (lasts q 1) 1) HK.out.2.2.2.2.2.2.2.1 HW.out.2.1.w0 HW.out.2.2.2.2.2.1 P7).mono ?_
  rintro e w8 ⟨rfl, P8, L8⟩
  go_wp2_with fail
  refine (pfresh_run1 (p := lasts (lasts q 1) 1) HK.out.2.2.2.2.2.2.2.2 HW.out.2.1.w1 HW.out.2.2.2.2.2.1 P8).mono ?_
  rintro e w9 ⟨rfl, P9, L9⟩
  have LE := LL5.trans ((((F6.trans F7).be L8).be L9).below LL5.size (by omega) (by omega) (by omega))
  clear P6 P7 P8 P9 F6 F7 L8 L9 LL5
  go_wp2_with fail
  go_ret
  exact ⟨rfl, LE⟩

/-! ### The row's step -/
set_option maxRecDepth 100000 in
theorem pairLends_lifted (os : Os) (started : os.Started) (H : Type) (enc : TypeId × Value → H) :
    ReturnsInHanded {} Try.checked os 9 .any (Rows.pairLendsSpec.pre6 enc Try.prog Try.f9 Rows.pairLendsRow.domain false) (Rows.pairLendsSpec.post enc Try.prog Try.f9 false true false false) := by
  refine returnsInHanded_of_change (C := Try.checked) own started (by kernel_rfl) Try.func9
    (ChangeSpec.witness6 (enc := enc) (C := Try.checked) false ⟨#[], #[.int .i64 0, .int .i64 0, .int .i64 0], []⟩ 8 (by kernel_rfl) (by kernel_rfl) (by kernel_rfl) (by kernel_rfl)) ?_
  intro W base args ds gs before hval0 hW _ _
  have hval : ∀ (j : Nat) t v, Try.f9.params[j]? = some t → args[j]? = some v → Value.okWide Try.prog W .any base t v := hval0
  have hW' := hW
  obtain ⟨p, q, hA0, hV, rfl, hfz, hnd⟩ := hW
  have hA : DataW.TrodAll enc Try.prog W 0 (fun _ => true) true Try.f9.params.toList args.toList ds p := hA0
  rw [Try.params9] at hA hval
  obtain ⟨v0, v1, v2, d0, d1, d2, p0, p1, p2, rfl, rfl, rfl, h0, h1, h2⟩ := trodAll_three hA
  obtain ⟨x1, rfl⟩ := okWide_int Try.underlying28 (hval 0 28 v0 rfl rfl)
  obtain ⟨x2, rfl⟩ := okWide_int Try.underlying28 (hval 1 28 v1 rfl rfl)
  obtain ⟨x3, rfl⟩ := okWide_int Try.underlying28 (hval 2 28 v2 rfl rfl)
  exact law_post laidOut (by kernel_rfl) rfl (by kernel_rfl) Try.underlying4 rfl hW' (pairLends_calls x1 x2 x3 W)

theorem pairLends_holds : Rows.PairLendsSaid :=
  OpenClaim.holds_of_wide 9 Try.f9 rfl rfl rfl rfl rfl rfl rfl ⟨rfl, rfl, rfl, rfl, rfl⟩ rfl rfl rfl rfl rfl (by kernel_rfl) Try.func9 (by kernel_rfl)
    (of_decide_eq_true (by kernel_rfl)) (by unfold Func.isWrapper; first | (rw [if_pos (by decide +kernel)]; kernel_rfl) | (rw [if_neg (by decide +kernel)]; exact ⟨rfl, rfl⟩))
    (fun os started H enc _ => pairLends_lifted os started H enc)

#print axioms pairLends_holds
end Go.Proofs.Ytbkflmeijjcnhaa
