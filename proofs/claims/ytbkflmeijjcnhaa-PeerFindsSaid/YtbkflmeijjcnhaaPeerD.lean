/-
  Layer 17: a link that is measured: reckon, where it takes the answer and its window is full.
-/
import Derived.Test.YtbkflmeijjcnhaaPeerH
import Derived.Deep.DeepCutAuto
import Derived.Deep.CutBlock
namespace Go.Proofs.Ytbkflmeijjcnhaa
set_option linter.unusedSimpArgs false
set_option linter.unusedVariables false
open Go.RowKit Go.WideShapes Go.ChangeShapes
attribute [local go_sem ↓] Go.wp_at_zero Go.wp_at_succ

set_option maxRecDepth 100000 in
set_option maxHeartbeats 8000000 in
theorem reckon_drop (p : Pe) (g : Nat) (t3 a0 b0 r tw : Int) (x0 : Int × Int) (T : List (Int × Int)) (w : World) (B : PeIn w g p) (M : Mk w g p.mA p.mn p.mc (x0 :: (a0, b0) :: T)) (hw : p.mn = p.cf.window + 1 ∧ p.cf.window ≤ 32) (R : Rk p t3 a0 b0 r tw) :
    Calls Try.prog 68 #[.pointer (some ⟨g, 0, none⟩), .int .i64 t3] w fun e w' => e = .returned (.int .i64 0) ∧ ∃ A c, PeIn w' g { p with mA := A, mn := p.mn, mc := c, rate := r, delay := max (tw.tdiv 2) 0 } ∧ Mk w' g A p.mn c ((a0, b0) :: T ++ [(t3, p.t4)]) ∧ w.grownBy w' (some g) := by
  have y13 := B.cellOf (v := .slice p.mA p.mn p.mc) 13 rfl
  have y12 := B.cellOf (v := .int .i64 p.t4) 12 rfl
  have S0 : w.drew.cell? ⟨g, 13, none⟩ = some (.slice p.mA p.mn p.mc) ∧ w.drew.cell? ⟨g, 12, none⟩ = some (.int .i64 p.t4) := ⟨y13, y12⟩
  have sg := B.lt
  have hcap := M.cap
  have hl := M.len
  have hfew : p.mn < 100 := by omega
  simp only [List.length_cons] at hl
  have HB := Lib.hid B
  have HM := Lib.hid M
  have HW := Lib.hid hw
  have HR := Lib.hid R
  have HL := Lib.hid hl
  have hA : ∃ ad0, p.mA = some ad0 := by obtain ⟨ad0, h, _⟩ := M.at_ (by omega); exact ⟨ad0, h⟩
  obtain ⟨ad0, hA⟩ := hA
  have HA := Lib.hid hA
  rw [hA] at y13 S0
  clear B M y13 y12 hw R hl hA
  go_enter Try.func68, Try.ntmps68
  go_wp2_with fail
  refine wp_region_script [(0, true), (1, true), (2, true), (3, true), (4, true), (5, true), (6, true), (7, true), (8, true), (9, true), (10, true), (11, true), (12, true), (13, true), (14, true), (15, true), (16, true), (17, true), (18, true), (19, true), (20, true), (21, false), (22, false), (23, true)] (fun w' => w'.cell? ⟨g, 13, none⟩ = some (.slice (some ad0) p.mn p.mc) ∧ w'.cell? ⟨g, 12, none⟩ = some (.int .i64 p.t4)) (by kernel_rfl) (by kernel_rfl) (fun _ _ _ _ _ h => h) S0 ?_
  iterate 21 (refine script_take (v := ?_) rfl ?_ ?_ ?_; rotate_left; (first | rfl | (go_simp; done)); (rintro w' ⟨c13, c12⟩;  go_simp; with_reducible rfl); simp only [Act.put, List.setIfInBounds_toArray, List.set_cons_zero, List.set_cons_succ])
  have B1 : PeIn w.drew g p := HB.out
  have M1 : Mk w.drew g (some ad0) p.mn p.mc (x0 :: (a0, b0) :: T) := HA.out ▸ HM.out.kept ((Below.refl _ _).drew)
  (refine script_run (v := ?_) (w' := ?_) rfl ?_ ?_ ?_ ?_; rotate_left 2; (first | rfl | (go_simp; done)); (go_simp; refine ⟨?_, ?_⟩ <;> with_reducible rfl); (exact ⟨(World.cell?_alloc_lt w _ _ sg).trans S0.1, (World.cell?_alloc_lt w _ _ sg).trans S0.2⟩); simp only [Act.put, List.setIfInBounds_toArray, List.set_cons_zero, List.set_cons_succ])
  refine script_mark rfl rfl (.tmp 29) (.tmp 36) rfl M1 hfew sg t3 p.t4 rfl rfl ?_
  intro ad c' w2 M2 L2
  have B2 : PeIn w2 g p := B1.kept L2
  have G2 : w.grownBy w2 (some g) := gr_trans (gr_drew (grownBy_refl w (some g))) (gr_below L2 (some g))
  refine ⟨⟨(L2.cell sg).trans S0.1, (L2.cell sg).trans S0.2⟩, ?_⟩
  simp only [Act.put, List.setIfInBounds_toArray, List.set_cons_zero, List.set_cons_succ]
  (refine script_take (v := ?_) rfl ?_ ?_ ?_; rotate_left; (first | rfl | (go_simp; done)); (rintro w' ⟨c13, c12⟩;  go_simp; with_reducible rfl); simp only [Act.put, List.setIfInBounds_toArray, List.set_cons_zero, List.set_cons_succ])
  refine script_nil ?_
  obtain ⟨m1, hm1⟩ : ∃ m1 : Nat, m1 = p.mn + 1 := ⟨_, rfl⟩
  rw [← hm1] at M2
  simp only [← hm1]
  have hcap2 := M2.cap
  have MT := M2.tail (by have := HL.out; omega)
  obtain ⟨ad1, had1⟩ : ∃ ad1, ad1 = ad.add 2 := ⟨_, rfl⟩
  rw [← had1] at MT
  obtain ⟨c1, hc1⟩ : ∃ c1, c1 = c' - 1 := ⟨_, rfl⟩
  rw [← hc1] at MT
  rw [show m1 - 1 = p.mn by omega] at MT
  replace MT : Mk w2 g (some ad1) p.mn c1 ((a0, b0) :: T ++ [(t3, p.t4)]) := MT
  obtain ⟨ad', e1, n1, l1, q0, q1⟩ := MT.mark (k := 0) (x := (a0, b0)) rfl
  injection e1 with e1
  subst e1
  obtain ⟨ad', e1, _, _, q2, q3⟩ := MT.mark (k := p.mn - 1) (x := (t3, p.t4)) (by have hL := HL.out; rw [show p.mn - 1 = T.length + 1 by omega]; rw [List.getElem?_append_right (by simp)]; simp)
  injection e1 with e1
  subst e1
  obtain ⟨k1, hk1⟩ : ∃ k1 : Nat, k1 = p.mn - 1 := ⟨_, rfl⟩
  rw [← hk1] at q2 q3
  have y4 := B2.cellOf (v := .int .i64 p.cf.window) 4 rfl
  have hw1 : IntKind.i64.wrap (p.cf.window + 1) = p.cf.window + 1 := wrap_of (by have := HW.out; omega) (by have := HW.out; omega)
  have d1 : p.cf.window + 1 < (m1 : Int) := by have := HW.out; omega
  have hw2 : IntKind.i64.wrap ((p.mn : Int) - 1) = (k1 : Int) := by rw [show (p.mn : Int) - 1 = (k1 : Int) by have := HL.out; omega]; exact wrap_of (by omega) (by omega)
  have d2 : ((k1 : Int) == 0) = false := beq_eq_false_iff_ne.2 (by have := HL.out; omega)
  have lt1 : k1 < p.mn := by have := HL.out; omega
  have lt0 : 0 < p.mn := by have := HL.out; omega
  have hne1 : c' ≠ 1 := by omega
  have hle1 : 1 ≤ m1 := by omega
  have hms : m1 - 1 = p.mn := by omega
  have hmsi : (m1 : Int) - 1 = (p.mn : Int) := by omega
  have HB2 := Lib.hid (And.intro B2 (And.intro MT G2))
  have HM1 := Lib.hid hm1
  clear M1 B1 HB HM S0 hcap hfew L2 M2 B2 G2 hm1 HW MT hk1
  go_wp2_with fail
  have hadr : (⟨ad.block, ad.off + 2, none⟩ : Addr) = ad1 := by rw [had1]; rfl
  simp only [hadr, ← hc1]
  clear hadr had1 hc1 hcap2 hne1 hle1 hms hmsi HM1
  simp only [Nat.zero_mul, addr_add_zero] at q0 q1
  obtain ⟨th, he, al, hd, inv, hd2, r1, r2, r3, r4, r5, r6, r7, r8, r9, r10, i1, i2, i3, i4, i5, i6⟩ := HR.out.run
  have C1 := Lib.hid (fun W => show Calls Try.prog 62 #[.int .i64 t3, .int .i64 a0] W fun e w' => e = .returned (.tuple #[.int .i64 th, .int .i64 0]) ∧ W = w' by have := sub_any t3 a0 HR.out.in_.1 HR.out.in_.2.1 W; rw [r1] at this; exact this)
  have C2 := Lib.hid (fun W => show Calls Try.prog 62 #[.int .i64 p.t4, .int .i64 b0] W fun e w' => e = .returned (.tuple #[.int .i64 he, .int .i64 0]) ∧ W = w' by have := sub_any p.t4 b0 HR.out.in_.2.2.2.1 HR.out.in_.2.2.1 W; rw [r2] at this; exact this)
  have C3 := Lib.hid (fun W => between_ok th he r i1 i2 r4 r5 r3 HR.out.rate W)
  have C4 := Lib.hid (fun W => show Calls Try.prog 62 #[.int .i64 p.t4, .int .i64 p.t1] W fun e w' => e = .returned (.tuple #[.int .i64 al, .int .i64 0]) ∧ W = w' by have := sub_any p.t4 p.t1 HR.out.in_.2.2.2.1 HR.out.in_.2.2.2.2.1 W; rw [r6] at this; exact this)
  have C5 := Lib.hid (fun W => show Calls Try.prog 62 #[.int .i64 t3, .int .i64 p.t2] W fun e w' => e = .returned (.tuple #[.int .i64 hd, .int .i64 0]) ∧ W = w' by have := sub_any t3 p.t2 HR.out.in_.1 HR.out.in_.2.2.2.2.2 W; rw [r7] at this; exact this)
  have C6 := Lib.hid (fun W => show Calls Try.prog 76 #[.int .i64 r] W fun e w' => e = .returned (.tuple #[.int .i64 inv, .int .i64 0]) ∧ Below W.heap.size W w' by have := inv_any r (by have := HR.out.rate; unfold Rg at this; unfold I64; omega) W; rw [r8] at this; exact this)
  have C7 := Lib.hid (fun W => show Calls Try.prog 23 #[.int .i64 hd, .int .i64 inv] W fun e w' => e = .returned (.tuple #[.int .i64 hd2, .int .i64 0]) ∧ Below W.heap.size W w' by have := by_any hd inv i4 i5 W; rw [r9] at this; exact this)
  have C8 := Lib.hid (fun W => show Calls Try.prog 62 #[.int .i64 al, .int .i64 hd2] W fun e w' => e = .returned (.tuple #[.int .i64 tw, .int .i64 0]) ∧ W = w' by have := sub_any al hd2 i3 i6 W; rw [r10] at this; exact this)
  clear r1 r2 r3 r4 r5 r6 r7 r8 r9 r10 i1 i2 i3 i4 i5 i6
  have S8 : w2.drew.cell? ad1 = some (.int .i64 a0) ∧ w2.drew.cell? (ad1.add (k1 * 2)) = some (.int .i64 t3) := ⟨q0, q2⟩
  refine wp_region_script [(0, true), (1, true), (2, true), (3, true), (4, true), (5, true), (6, true), (7, true), (8, true), (9, false), (10, true), (11, true), (12, true), (13, true), (14, true)] (fun w' => w'.cell? ad1 = some (.int .i64 a0) ∧ w'.cell? (ad1.add (k1 * 2)) = some (.int .i64 t3)) (by kernel_rfl) (by kernel_rfl) (fun _ _ _ _ _ h => h) S8 ?_
  iterate 9 (refine script_take (v := ?_) rfl ?_ ?_ ?_; rotate_left; (first | rfl | (go_simp; done)); (rintro w' ⟨c0, c2⟩;  go_simp; with_reducible rfl); simp only [Act.put, List.setIfInBounds_toArray, List.set_cons_zero, List.set_cons_succ])
  (refine script_call 62 ?_ rfl ?_ ?_ ?_; rotate_left; (first | rfl | (go_simp; done)); (go_simp; with_reducible rfl))
  refine (C1.out _).mono ?_
  rintro e w3 ⟨rfl, rfl⟩
  refine ⟨_, rfl, S8, ?_⟩
  simp only [Act.put, List.setIfInBounds_toArray, List.set_cons_zero, List.set_cons_succ]
  iterate 5 (refine script_take (v := ?_) rfl ?_ ?_ ?_; rotate_left; (first | rfl | (go_simp; done)); (rintro w' ⟨c0, c2⟩;  go_simp; with_reducible rfl); simp only [Act.put, List.setIfInBounds_toArray, List.set_cons_zero, List.set_cons_succ])
  refine script_nil ?_
  go_wp2_with fail
  have S11 : w2.drew.drew.cell? ⟨ad1.block, ad1.off + 1, none⟩ = some (.int .i64 b0) ∧ w2.drew.drew.cell? ⟨(ad1.add (k1 * 2)).block, (ad1.add (k1 * 2)).off + 1, none⟩ = some (.int .i64 p.t4) := ⟨q1, q3⟩
  refine wp_region_script [(0, true), (1, true), (2, true), (3, true), (4, true), (5, true), (6, true), (7, true), (8, true), (9, false), (10, true), (11, true), (12, true), (13, true), (14, true)] (fun w' => w'.cell? ⟨ad1.block, ad1.off + 1, none⟩ = some (.int .i64 b0) ∧ w'.cell? ⟨(ad1.add (k1 * 2)).block, (ad1.add (k1 * 2)).off + 1, none⟩ = some (.int .i64 p.t4)) (by kernel_rfl) (by kernel_rfl) (fun _ _ _ _ _ h => h) S11 ?_
  iterate 9 (refine script_take (v := ?_) rfl ?_ ?_ ?_; rotate_left; (first | rfl | (go_simp; done)); (rintro w' ⟨c0, c2⟩;  go_simp; with_reducible rfl); simp only [Act.put, List.setIfInBounds_toArray, List.set_cons_zero, List.set_cons_succ])
  (refine script_call 62 ?_ rfl ?_ ?_ ?_; rotate_left; (first | rfl | (go_simp; done)); (go_simp; with_reducible rfl))
  refine (C2.out _).mono ?_
  rintro e w3 ⟨rfl, rfl⟩
  refine ⟨_, rfl, S11, ?_⟩
  simp only [Act.put, List.setIfInBounds_toArray, List.set_cons_zero, List.set_cons_succ]
  iterate 5 (refine script_take (v := ?_) rfl ?_ ?_ ?_; rotate_left; (first | rfl | (go_simp; done)); (rintro w' ⟨c0, c2⟩;  go_simp; with_reducible rfl); simp only [Act.put, List.setIfInBounds_toArray, List.set_cons_zero, List.set_cons_succ])
  refine script_nil ?_
  clear q0 q1 q2 q3 S8 S11 C1 C2
  go_wp2_with fail
  refine (C3.out _).mono ?_
  rintro e w3 ⟨rfl, L3⟩
  have L3' : Below w2.heap.size w2 w3 := ((Below.refl _ _).drew.drew).trans L3
  have B3 : PeIn w3 g p := HB2.out.1.kept L3'
  have S17 : w3.drew.cell? ⟨g, 12, none⟩ = some (.int .i64 p.t4) ∧ w3.drew.cell? ⟨g, 9, none⟩ = some (.int .i64 p.t1) := ⟨B3.cellOf 12 rfl, B3.cellOf 9 rfl⟩
  clear C3 y4 hw1 hw2 d1 d2 L3
  go_wp2_with fail
  refine wp_region_script [(0, true), (1, true), (2, true), (3, true), (4, true), (5, true), (6, true), (7, true), (8, false), (9, true), (10, true), (11, true), (12, true), (13, true)] (fun w' => w'.cell? ⟨g, 12, none⟩ = some (.int .i64 p.t4) ∧ w'.cell? ⟨g, 9, none⟩ = some (.int .i64 p.t1)) (by kernel_rfl) (by kernel_rfl) (fun _ _ _ _ _ h => h) S17 ?_
  iterate 8 (refine script_take (v := ?_) rfl ?_ ?_ ?_; rotate_left; (first | rfl | (go_simp; done)); (rintro w' ⟨c0, c2⟩;  go_simp; with_reducible rfl); simp only [Act.put, List.setIfInBounds_toArray, List.set_cons_zero, List.set_cons_succ])
  (refine script_call 62 ?_ rfl ?_ ?_ ?_; rotate_left; (first | rfl | (go_simp; done)); (go_simp; with_reducible rfl))
  refine (C4.out _).mono ?_
  rintro e w4 ⟨rfl, rfl⟩
  refine ⟨_, rfl, S17, ?_⟩
  simp only [Act.put, List.setIfInBounds_toArray, List.set_cons_zero, List.set_cons_succ]
  iterate 5 (refine script_take (v := ?_) rfl ?_ ?_ ?_; rotate_left; (first | rfl | (go_simp; done)); (rintro w' ⟨c0, c2⟩;  go_simp; with_reducible rfl); simp only [Act.put, List.setIfInBounds_toArray, List.set_cons_zero, List.set_cons_succ])
  refine script_nil ?_
  have B4 : PeIn w3.drew g p := B3
  have L4 : Below w2.heap.size w2 w3.drew := L3'.drew
  have y11 := B4.cellOf (v := .int .i64 p.t2) 11 rfl
  clear S17 L3' B3 C4
  go_wp2_with fail
  refine (C5.out _).mono ?_
  rintro e w4 ⟨rfl, rfl⟩
  go_wp2_with fail
  refine (C6.out _).mono ?_
  rintro e w5 ⟨rfl, L5⟩
  have LL5 := L4.trans (L5.mono L4.size)
  clear y11 B4 L4 L5 C5 C6
  go_wp2_with fail
  refine (C7.out _).mono ?_
  rintro e w6 ⟨rfl, L6⟩
  have LL6 := LL5.trans (L6.mono LL5.size)
  clear LL5 L6 C7
  go_wp2_with fail
  refine (C8.out _).mono ?_
  rintro e w7 ⟨rfl, rfl⟩
  have B6 : PeIn w6 g p := HB2.out.1.kept LL6
  have y3 := B6.cellOf (v := .int .i64 p.cf.slack) 3 rfl
  have y2 := B6.cellOf (v := .int .i64 p.cf.most) 2 rfl
  have hn1 : IntKind.i64.wrap (-p.cf.slack) = -p.cf.slack := wrap_of (by have := HR.out.slack; omega) (by have := HR.out.slack; omega)
  have d3 : decide (tw < -p.cf.slack) = false := by have := HR.out.low; simp; omega
  obtain ⟨tq, htq⟩ : ∃ tq, tq = tw.tdiv 2 := ⟨_, rfl⟩
  have hq : IntKind.i64.wrap (tw.tdiv 2) = tq := by rw [htq]; have := HR.out.two; unfold I64 at this; exact wrap_of (by omega) (by omega)
  have d4 : decide (p.cf.most < tq) = false := by have := HR.out.high; rw [← htq] at this; simp; omega
  have y13 := B6.cellOf (v := .slice p.mA p.mn p.mc) 13 rfl
  have y14 := B6.cellOf (v := .int .i64 p.rate) 14 rfl
  have y15 := B6.cellOf (v := .int .i64 p.delay) 15 rfl
  have fz := B6.frozen
  have B9 : PeIn (((w6.setCell ⟨g, 13, none⟩ (.slice (some ad1) p.mn c1)).setCell ⟨g, 14, none⟩ (.int .i64 r)).setCell ⟨g, 15, none⟩ (.int .i64 (max tq 0))) g { p with mA := some ad1, mn := p.mn, mc := c1, rate := r, delay := max tq 0 } := ((B6.set_ 13 (.slice (some ad1) p.mn c1)).set_ 14 (.int .i64 r)).set_ 15 (.int .i64 (max tq 0))
  have gg := gr_set (gr_set (gr_set (grownBy_refl w6 (some g)) 13 (.slice (some ad1) p.mn c1)) 14 (.int .i64 r)) 15 (.int .i64 (max tq 0))
  have M9 := (HB2.out.2.1.kept (LL6.mono (Nat.le_refl _))).keep gg
  have G9 := gr_trans (gr_trans HB2.out.2.2 (gr_below LL6 (some g))) gg
  have HB9 := Lib.hid (And.intro B9 (And.intro M9 G9))
  have HQ := Lib.hid htq
  clear C8 htq B9 gg M9 G9 LL6 B6 HB2 HR
  go_wp2_with fail
  go_ret
  refine ⟨rfl, some ad1, c1, ?_⟩
  rw [← HQ.out]
  exact HB9.out
end Go.Proofs.Ytbkflmeijjcnhaa
