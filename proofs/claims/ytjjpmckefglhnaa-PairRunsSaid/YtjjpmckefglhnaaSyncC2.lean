/-
  Layer 18: a clock of a domain: Follow, where it takes the message.
-/
import Derived.Test.YtjjpmckefglhnaaSyncC0
namespace Go.Proofs.Ytjjpmckefglhnaa
set_option linter.unusedSimpArgs false
set_option linter.unusedVariables false
open Go.RowKit Go.WideShapes Go.ChangeShapes
attribute [local go_sem ↓] Go.wp_at_zero Go.wp_at_succ

set_option maxRecDepth 100000 in
set_option maxHeartbeats 16000000 in
theorem follow_yes (c : Ck) (g : Nat) (m : Mg) (A : Option Addr) (n cc : Nat) (delay ratio : Int) (w : World) (B : CkIn w g c) (hm : MsgIn w w.heap.size m A n) (hw : m.Wf) (hd : I64 delay) (hr : I64 ratio) (hf : follOk c m = true) :
    Calls Try.prog 24 #[.pointer (some ⟨g, 0, none⟩), .agg (mcells m A n cc), .int .i64 delay, .int .i64 ratio] w fun e w' => e = .returned (.int .i64 (follV c m delay ratio).1) ∧ CkIn w' g (follV c m delay ratio).2 ∧ w.grownBy w' (some g) := by
  have B0 : CkIn (w.alloc (.cells (mcells m A n cc) 35)) g c := B.alloc _
  have M0 := Blk.new w 35 (mcells m A n cc)
  have G0 := gr_new (grownBy_refl w (some g)) (.cells (mcells m A n cc) 35)
  have hm0 : MsgIn (w.alloc (.cells (mcells m A n cc) 35)) (w.alloc (.cells (mcells m A n cc) 35)).heap.size m A n := ⟨(hm.reads.alloc (Nat.le_refl _) _).more (by simp), hm.len, hm.most⟩
  have s0 : w.heap.size < (w.alloc (.cells (mcells m A n cc) 35)).heap.size := by simp
  have sg := B0.lt
  have hne : g ≠ w.heap.size := by have := B.lt; omega
  clear B hm
  have x0 := M0.cellOf (v := .int .i64 m.kind) 0 rfl
  have x1 := M0.cellOf (v := .int .i64 m.domain) 1 rfl
  have x2 := M0.cellOf (v := .int .i64 m.seq) 2 rfl
  have x3 := M0.cellOf (v := .int .i64 m.src) 3 rfl
  have y0 := B0.cellOf (v := .int .i64 c.domain) 0 rfl
  have y1 := B0.cellOf (v := .bool c.own) 1 rfl
  have y7 := B0.cellOf (v := .bool c.opn) 7 rfl
  have y8 := B0.cellOf (v := .int .i64 c.seq) 8 rfl
  have y9 := B0.cellOf (v := .int .i64 c.src) 9 rfl
  have hR := fun W => rmul_any m.rate ratio hw.2.2 hr W
  have hA := fun W => add_any m.time m.corr hw.2.1 hw.1 W
  have hY := fun W => by_any delay (mulDivV m.rate ratio 2199023255552 2).1 hd (md_i64 _ _ _ _) W
  have hA2 := fun W => add_any (addV m.time m.corr).1 (mulDivV delay (mulDivV m.rate ratio 2199023255552 2).1 2199023255552 2).1 (add_i64 _ _) (md_i64 _ _ _ _) W
  obtain ⟨R, hdef⟩ : ∃ R, R = follV c m delay ratio := ⟨_, rfl⟩
  rw [← hdef]
  unfold follV at hdef
  rw [if_neg (by rw [hf]; simp)] at hdef
  generalize addV (addV m.time m.corr).1 (mulDivV delay (mulDivV m.rate ratio 2199023255552 2).1 2199023255552 2).1 = u at *
  generalize mulDivV delay (mulDivV m.rate ratio 2199023255552 2).1 2199023255552 2 = d at *
  generalize mulDivV m.rate ratio 2199023255552 2 = r at *
  generalize addV m.time m.corr = t at *
  obtain ⟨u1, u2⟩ := u
  obtain ⟨d1, d2⟩ := d
  obtain ⟨r1, r2⟩ := r
  obtain ⟨t1, t2⟩ := t
  simp only at hdef hR hA hY hA2
  have HR := Lib.hid hR
  have HA := Lib.hid hA
  have HY := Lib.hid hY
  have HA2 := Lib.hid hA2
  have HDEF := Lib.hid hdef
  clear hR hA hY hA2 hw hd hr hdef
  have hok : follOk c m = (!(m.kind != 8) && !(checkV m != 0) && !(m.domain != c.domain) && !c.own && c.opn && !(m.seq != c.seq) && !(m.src != c.src)) := rfl
  rw [hf] at hok
  replace hok := hok.symm
  simp only [Bool.and_eq_true, Bool.not_eq_true'] at hok
  obtain ⟨⟨⟨⟨⟨⟨kb, cb⟩, db⟩, ob⟩, pb⟩, qb⟩, sb⟩ := hok
  rw [ob] at y1
  rw [pb] at y7
  clear hf
  go_enter Try.func24, Try.ntmps24
  go_wp2_with fail
  generalize w.alloc (.cells (mcells m A n cc) 35) = w0 at *
  refine wp_region_class (fun w' => Below w0.heap.size w0 w') (by kernel_rfl) (by kernel_rfl) (Below.refl _ _).drew ?_
  repeat (first | (refine wpQuiet_skip ?_ ?_; rfl; simp only [Act.put, List.setIfInBounds_toArray, List.set_cons_zero, List.set_cons_succ]) | (refine wpQuiet_val (v := .agg (mcells m A n cc)) ?_ (fun w' hw' => run_load_whole 35 (.tmp 5) rfl rfl (M0.below hw' s0) Try.underlying35 rfl (by kernel_rfl)) ?_; (first | rfl | (go_simp; done)); simp only [Act.put, List.setIfInBounds_toArray, List.set_cons_zero, List.set_cons_succ]) | (refine wpQuiet_val (v := ?_) ?_ ?_ ?_; rotate_left; rfl; (intro w' hw'; obtain ⟨hc, hf⟩ := bcell hw'; go_simp; with_reducible rfl); simp only [Act.put, List.setIfInBounds_toArray, List.set_cons_zero, List.set_cons_succ]) | (refine wpQuiet_call (v := ?_) 33 ?_ ?_ ?_ ?_ ?_; rotate_left 2; (first | rfl | (go_simp; done)); (intro w' hw'; obtain ⟨hc, hf⟩ := bcell hw'; go_simp; with_reducible rfl); (intro w' hw'; (with_reducible refine (check_m m A n cc _ ((hm0.below hw').more hw'.size).reads hm0.len hm0.most).mono ?_); rintro e w2 ⟨rfl, hb⟩; refine ⟨?_, hw'.trans (hb.mono (by have h0 := hw'.size; first | omega | (simp at h0; omega)))⟩; with_reducible rfl); simp only [Act.put, List.setIfInBounds_toArray, List.set_cons_zero, List.set_cons_succ]) | (refine wpQuiet_val (v := ?_) ?_ ?_ ?_; rotate_left; (first | rfl | (go_simp; done)); (intro w' hw'; obtain ⟨hc, hf⟩ := bcell hw'; go_simp; with_reducible rfl); simp only [Act.put, List.setIfInBounds_toArray, List.set_cons_zero, List.set_cons_succ]) | (refine wpQuiet_skip ?_ ?_; (first | rfl | (go_simp; done)); simp only [Act.put, List.setIfInBounds_toArray, List.set_cons_zero, List.set_cons_succ]))
  refine wpQuiet_nil ?_
  intro w4 hw4
  have B4 : CkIn w4 g c := B0.below hw4 sg
  have M4 := M0.below hw4 s0
  have G4 := gr_trans G0 (gr_below hw4 (some g))
  have z7 := B4.cellOf (v := .bool true) 7 (by rw [← pb]; rfl)
  have fz := B4.frozen
  have B5 : CkIn (w4.setCell ⟨g, 7, none⟩ (.bool false)) g (shut c) := B4.set_ 7 (.bool false)
  have M5 := M4.far (p := ⟨g, 7, none⟩) (fun h => hne h.symm) (.bool false)
  have G5 := gr_set G4 7 (.bool false)
  have x5 := M4.cellOf (v := .int .i64 m.corr) 5 rfl
  have x6 := M4.cellOf (v := .int .i64 m.time) 6 rfl
  have x9 := M4.cellOf (v := .int .i64 m.rate) 9 rfl
  have hne' : ¬ g = w.heap.size := hne
  have hne2 : ¬ w.heap.size = g := fun h => hne h.symm
  clear x0 x1 x2 x3 y0 y1 y7 y8 y9 hw4 B0 M0 G0 G4 s0 sg hm0 kb cb db ob qb sb B4 M4
  go_wp2_with fail
  clear z7 fz x5 x6 x9 pb
  refine (HR.out _).mono ?_
  rintro e w6 ⟨rfl, hb6⟩
  have B6 := B5.kept hb6
  have M6 := M5.kept hb6
  have G6 := gr_trans G5 (gr_below hb6 (some g))
  clear B5 M5 G5 hb6 HR
  by_cases e1 : r2 = 0
  case neg =>
    have h : R = (r2, shut c) := by rw [HDEF.out, if_pos e1]
    have b1 : (r2 != 0) = true := bne_iff_ne.2 e1
    subst h
    clear e1 HDEF HA HY HA2
    go_wp2_with fail
    go_ret
    exact ⟨rfl, B6, G6⟩
  subst e1
  have hdef := HDEF.out
  rw [if_neg (by simp)] at hdef
  by_cases e2 : Rg r1
  case neg =>
    have h : R = (50, shut c) := by rw [hdef, if_pos e2]
    subst h
    have HC := Lib.hid (fun W => rcheck_bad r1 e2 W)
    clear e2 HDEF HA HY HA2 hdef
    go_wp2_with fail
    refine (HC.out _).mono ?_
    rintro e w7 ⟨rfl, rfl⟩
    go_wp2_with fail
    go_ret
    exact ⟨rfl, B6, G6⟩
  rw [if_neg (not_not_intro e2)] at hdef
  have HDEF2 := Lib.hid hdef
  have HC := Lib.hid (fun W => rcheck_ok r1 e2 W)
  clear e2 HDEF hdef
  go_wp2_with fail
  refine (HC.out _).mono ?_
  rintro e w7 ⟨rfl, rfl⟩
  have x5 := M6.cellOf (v := .int .i64 m.corr) 5 rfl
  have x6 := M6.cellOf (v := .int .i64 m.time) 6 rfl
  clear HC
  go_wp2_with fail
  refine (HA.out _).mono ?_
  rintro e w8 ⟨rfl, rfl⟩
  clear x5 x6 M6 HA
  by_cases e3 : t2 = 0
  case neg =>
    have h : R = (t2, shut c) := by rw [HDEF2.out, if_pos e3]
    have b1 : (t2 != 0) = true := bne_iff_ne.2 e3
    subst h
    clear e3 HDEF2 HY HA2
    go_wp2_with fail
    go_ret
    exact ⟨rfl, B6, G6⟩
  subst e3
  have hdef := HDEF2.out
  rw [if_neg (by simp)] at hdef
  have HDEF3 := Lib.hid hdef
  clear hdef HDEF2
  go_wp2_with fail
  refine (HY.out _).mono ?_
  rintro e w9 ⟨rfl, hb9⟩
  have B9 := B6.kept hb9
  have G9 := gr_trans G6 (gr_below hb9 (some g))
  clear B6 G6 hb9 HY
  by_cases e4 : d2 = 0
  case neg =>
    have h : R = (d2, shut c) := by rw [HDEF3.out, if_pos e4]
    have b1 : (d2 != 0) = true := bne_iff_ne.2 e4
    subst h
    clear e4 HDEF3 HA2
    go_wp2_with fail
    go_ret
    exact ⟨rfl, B9, G9⟩
  subst e4
  have hdef := HDEF3.out
  rw [if_neg (by simp)] at hdef
  have HDEF4 := Lib.hid hdef
  clear hdef HDEF3
  go_wp2_with fail
  refine (HA2.out _).mono ?_
  rintro e w10 ⟨rfl, rfl⟩
  clear HA2
  by_cases e5 : u2 = 0
  case neg =>
    have h : R = (u2, shut c) := by rw [HDEF4.out, if_pos e5]
    have b1 : (u2 != 0) = true := bne_iff_ne.2 e5
    subst h
    clear e5 HDEF4
    go_wp2_with fail
    go_ret
    exact ⟨rfl, B9, G9⟩
  subst e5
  have h : R = (0, follC c u1 r1) := by rw [HDEF4.out, if_neg (by simp)]
  subst h
  clear HDEF4
  have z2 := B9.cellOf (v := .bool c.known) 2 rfl
  have z3 := B9.cellOf (v := .int .i64 c.here) 3 rfl
  have z4 := B9.cellOf (v := .int .i64 c.there) 4 rfl
  have z5 := B9.cellOf (v := .int .i64 c.rate) 5 rfl
  have z6 := B9.cellOf (v := .int .i64 c.last) 6 rfl
  have z10 := B9.cellOf (v := .int .i64 c.at_) 10 rfl
  have fz := B9.frozen
  have B10 := B9.drew
  have G10 := gr_drew G9
  clear B9 G9
  go_wp2_with fail
  refine wp_region_script [(0, true), (1, true), (2, true), (3, true), (4, true), (5, true), (6, true), (7, true), (8, true), (9, true), (10, true), (11, true), (12, true), (13, true), (14, true), (15, true), (16, true), (17, false), (18, true), (19, true), (20, false), (21, true), (22, true), (23, false), (24, true), (25, true), (26, false), (27, true), (28, true), (29, false)] (fun w' => w'.cell? ⟨g, 10, none⟩ = some (.int .i64 c.at_)) (by kernel_rfl) (by kernel_rfl) (fun _ _ _ _ _ h => h) z10 ?_
  iterate 17 (refine script_take (v := ?_) rfl ?_ ?_ ?_; rotate_left; (first | rfl | (go_simp; done)); (rintro w' hw';  go_simp; with_reducible rfl); simp only [Act.put, List.setIfInBounds_toArray, List.set_cons_zero, List.set_cons_succ])
  have S1 := cell_far (show (w9.drew).cell? ⟨g, 10, none⟩ = some (.int .i64 c.at_) from z10) (q := ⟨g, 2, none⟩) (by simp) (.bool true)
  have S2 := cell_far S1 (q := ⟨g, 3, none⟩) (by simp) (.int .i64 c.at_)
  have S3 := cell_far S2 (q := ⟨g, 4, none⟩) (by simp) (.int .i64 u1)
  have S4 := cell_far S3 (q := ⟨g, 5, none⟩) (by simp) (.int .i64 r1)
  have S5 := cell_far S4 (q := ⟨g, 6, none⟩) (by simp) (.int .i64 c.at_)
  have T1 := Lib.hid S1
  have T2 := Lib.hid S2
  have T3 := Lib.hid S3
  have T4 := Lib.hid S4
  have T5 := Lib.hid S5
  clear S1 S2 S3 S4 S5
  (refine script_run0 (w' := ?_) rfl ?_ ?_ ?_ ?_; rotate_left; (first | rfl | (go_simp; done)); (go_simp; with_reducible rfl); (exact T1.out); simp only [Act.put, List.setIfInBounds_toArray, List.set_cons_zero, List.set_cons_succ])
  iterate 2 (refine script_take (v := ?_) rfl ?_ ?_ ?_; rotate_left; (first | rfl | (go_simp; done)); (rintro w' hw';  go_simp; with_reducible rfl); simp only [Act.put, List.setIfInBounds_toArray, List.set_cons_zero, List.set_cons_succ])
  (refine script_run0 (w' := ?_) rfl ?_ ?_ ?_ ?_; rotate_left; (first | rfl | (go_simp; done)); (go_simp; with_reducible rfl); (exact T2.out); simp only [Act.put, List.setIfInBounds_toArray, List.set_cons_zero, List.set_cons_succ])
  iterate 2 (refine script_take (v := ?_) rfl ?_ ?_ ?_; rotate_left; (first | rfl | (go_simp; done)); (rintro w' hw';  go_simp; with_reducible rfl); simp only [Act.put, List.setIfInBounds_toArray, List.set_cons_zero, List.set_cons_succ])
  (refine script_run0 (w' := ?_) rfl ?_ ?_ ?_ ?_; rotate_left; (first | rfl | (go_simp; done)); (go_simp; with_reducible rfl); (exact T3.out); simp only [Act.put, List.setIfInBounds_toArray, List.set_cons_zero, List.set_cons_succ])
  iterate 2 (refine script_take (v := ?_) rfl ?_ ?_ ?_; rotate_left; (first | rfl | (go_simp; done)); (rintro w' hw';  go_simp; with_reducible rfl); simp only [Act.put, List.setIfInBounds_toArray, List.set_cons_zero, List.set_cons_succ])
  (refine script_run0 (w' := ?_) rfl ?_ ?_ ?_ ?_; rotate_left; (first | rfl | (go_simp; done)); (go_simp; with_reducible rfl); (exact T4.out); simp only [Act.put, List.setIfInBounds_toArray, List.set_cons_zero, List.set_cons_succ])
  iterate 2 (refine script_take (v := ?_) rfl ?_ ?_ ?_; rotate_left; (first | rfl | (go_simp; done)); (rintro w' hw';  go_simp; with_reducible rfl); simp only [Act.put, List.setIfInBounds_toArray, List.set_cons_zero, List.set_cons_succ])
  (refine script_run0 (w' := ?_) rfl ?_ ?_ ?_ ?_; rotate_left; (first | rfl | (go_simp; done)); (go_simp; with_reducible rfl); (exact T5.out); simp only [Act.put, List.setIfInBounds_toArray, List.set_cons_zero, List.set_cons_succ])
  refine script_nil ?_
  have B11 : CkIn _ g (follC c u1 r1) := ((((B10.set_ 2 (.bool true)).set_ 3 (.int .i64 c.at_)).set_ 4 (.int .i64 u1)).set_ 5 (.int .i64 r1)).set_ 6 (.int .i64 c.at_)
  have G11 := gr_set (gr_set (gr_set (gr_set (gr_set G10 2 (.bool true)) 3 (.int .i64 c.at_)) 4 (.int .i64 u1)) 5 (.int .i64 r1)) 6 (.int .i64 c.at_)
  clear T1 T2 T3 T4 T5 B10 G10 z2 z3 z4 z5 z6 z10 fz
  go_wp2_with fail
  go_ret
  exact ⟨rfl, B11, G11⟩
end Go.Proofs.Ytjjpmckefglhnaa
