/-
  Layer 18: a clock of a domain: Own and Sync.
-/
import Derived.Test.YtjjpmckefglhnaaSyncA
namespace Go.Proofs.Ytjjpmckefglhnaa
set_option linter.unusedSimpArgs false
set_option linter.unusedVariables false
open Go.RowKit Go.WideShapes Go.ChangeShapes
attribute [local go_sem ↓] Go.wp_at_zero Go.wp_at_succ

def ownV (c : Ck) (on : Bool) (now : Int) : Ck :=
  if c.own = on then c
  else if (atV c now).2 = true then { c with known := true, here := now, there := (atV c now).1, last := now, rate := nowV c, own := on, opn := false }
  else { c with own := on, opn := false }
set_option maxHeartbeats 2000000 in
theorem own_any (c : Ck) (g : Nat) (on : Bool) (now : Int) (w : World) (B : CkIn w g c) (hw : c.Wf) (hn : I64 now) :
    Calls Try.prog 25 #[.pointer (some ⟨g, 0, none⟩), .bool on, .int .i64 now] w fun e w' => e = .returned (.tuple #[]) ∧ CkIn w' g (ownV c on now) ∧ w.grownBy w' (some g) := by
  by_cases ho : c.own = on
  · have h : ownV c on now = c := if_pos ho
    rw [h]
    have y1 := (ck_at B).2.1
    have b1 : (c.own == on) = true := beq_iff_eq.2 ho
    clear h ho hw hn
    go_enter Try.func25, Try.ntmps25
    go_wp2_with fail
    exact bodyPost_ret (results_none rfl _ _ _) rfl ⟨rfl, B, grownBy_refl w _⟩
  · have y1 := (ck_at B).2.1
    have b1 : (c.own == on) = false := beq_eq_false_iff_ne.2 ho
    have hA := fun W B => at_any c g now W B hw hn
    have hN := fun c W B => now_any c g W B
    unfold ownV
    rw [if_neg ho]
    generalize ht : atV c now = x at *
    obtain ⟨t, ok⟩ := x
    have HA := Lib.hid hA
    have HN := Lib.hid hN
    clear hA hN ht ho hw hn
    cases ok with
    | true =>
      rw [if_pos rfl]
      go_enter Try.func25, Try.ntmps25
      go_wp2_with fail
      refine (HA.out _ B).mono ?_
      rintro e w1 ⟨rfl, hb⟩
      have B1 : CkIn w1 g c := B.kept hb
      obtain ⟨_, z1, y2, y3, y4, y5, y6, y7, _⟩ := ck_at B1
      have fz := B1.frozen
      have B4 : CkIn _ g (holdV c now t) := (((B1.set_ 2 (.bool true)).set_ 3 (.int .i64 now)).set_ 4 (.int .i64 t)).set_ 6 (.int .i64 now)
      have G4 := gr_set (gr_set (gr_set (gr_set (gr_below hb (some g)) 2 (.bool true)) 3 (.int .i64 now)) 4 (.int .i64 t)) 6 (.int .i64 now)
      clear hb y1 B
      go_wp2_with fail
      refine (HN.out _ _ B4).mono ?_
      rintro e w2 ⟨rfl, hw2⟩
      have B7 : CkIn _ g { c with known := true, here := now, there := t, last := now, rate := nowV c, own := on, opn := false } := ((B4.set_ 5 (.int .i64 (nowV (holdV c now t)))).set_ 1 (.bool on)).set_ 7 (.bool false)
      have G7 := gr_set (gr_set (gr_set G4 5 (.int .i64 (nowV (holdV c now t)))) 1 (.bool on)) 7 (.bool false)
      rw [hw2] at B7 G7
      have fz2 := B4.frozen
      obtain ⟨_, u1, u2, u3, u4, u5, u6, u7, _⟩ := ck_at B4
      rw [hw2] at u1 u5 u7 fz2
      clear y2 y3 y4 y5 y6 y7 z1 fz B4 G4 B1 u2 u3 u4 u6 hw2
      go_wp2_with fail
      exact bodyPost_end (results_none rfl _ _ _) rfl ⟨rfl, B7, G7⟩
    | false =>
      rw [if_neg (by simp)]
      go_enter Try.func25, Try.ntmps25
      go_wp2_with fail
      refine (HA.out _ B).mono ?_
      rintro e w1 ⟨rfl, hb⟩
      have B1 : CkIn w1 g c := B.kept hb
      obtain ⟨_, z1, _, _, _, _, _, y7, _⟩ := ck_at B1
      have fz := B1.frozen
      have B7 : CkIn _ g { c with own := on, opn := false } := (B1.set_ 1 (.bool on)).set_ 7 (.bool false)
      have G7 := gr_set (gr_set (gr_below hb (some g)) 1 (.bool on)) 7 (.bool false)
      clear hb y1 B
      go_wp2_with fail
      exact bodyPost_end (results_none rfl _ _ _) rfl ⟨rfl, B7, G7⟩

noncomputable def syncOk (c : Ck) (m : Mg) : Bool := !(m.kind != 0) && !(checkV m != 0) && !(m.domain != c.domain) && !c.own
def syncC (c : Ck) (m : Mg) (at_ : Int) : Ck := { c with opn := true, seq := m.seq, src := m.src, at_ := at_ }
noncomputable def syncV (c : Ck) (m : Mg) (at_ : Int) : Int × Ck := if syncOk c m = true then (0, syncC c m at_) else (31, c)
set_option maxRecDepth 100000 in
set_option maxHeartbeats 8000000 in
theorem sync_any (c : Ck) (g : Nat) (m : Mg) (A : Option Addr) (n cc : Nat) (at_ : Int) (w : World) (B : CkIn w g c) (hm : MsgIn w w.heap.size m A n) :
    Calls Try.prog 23 #[.pointer (some ⟨g, 0, none⟩), .agg (mcells m A n cc), .int .i64 at_] w fun e w' => e = .returned (.int .i64 (syncV c m at_).1) ∧ CkIn w' g (syncV c m at_).2 ∧ w.grownBy w' (some g) := by
  have B0 : CkIn (w.alloc (.cells (mcells m A n cc) 35)) g c := B.alloc _
  have M0 := Blk.new w 35 (mcells m A n cc)
  have G0 := gr_new (grownBy_refl w (some g)) (.cells (mcells m A n cc) 35)
  have hm0 : MsgIn (w.alloc (.cells (mcells m A n cc) 35)) (w.alloc (.cells (mcells m A n cc) 35)).heap.size m A n := ⟨(hm.reads.alloc (Nat.le_refl _) _).more (by simp), hm.len, hm.most⟩
  have s0 : w.heap.size < (w.alloc (.cells (mcells m A n cc) 35)).heap.size := by simp
  have sg := B0.lt
  have hne : g ≠ w.heap.size := by have := B.lt; omega
  clear B hm
  have x0 := M0.cellOf (v := .int .i64 m.kind) 0 rfl
  have x1 := M0.cellOf (v := .int .i64 m.domain) 1 rfl
  have y0 := B0.cellOf (v := .int .i64 c.domain) 0 rfl
  have y1 := B0.cellOf (v := .bool c.own) 1 rfl
  have hdef : syncV c m at_ = if syncOk c m = true then (0, syncC c m at_) else (31, c) := rfl
  generalize syncV c m at_ = R at *
  have hok : syncOk c m = (!(m.kind != 0) && !(checkV m != 0) && !(m.domain != c.domain) && !c.own) := rfl
  go_enter Try.func23, Try.ntmps23
  go_wp2_with fail
  generalize w.alloc (.cells (mcells m A n cc) 35) = w0 at *
  cases kb : (m.kind != 0) with
  | true =>
    rw [kb] at hok
    have h : R = (31, c) := by rw [hdef, if_neg (by rw [hok]; simp)]
    subst h
    clear hdef hok
    have BR := B0
    refine wp_region_class (fun w' => Below w0.heap.size w0 w') (by kernel_rfl) (by kernel_rfl) (Below.refl _ _).drew ?_
    repeat (first | (refine wpQuiet_skip ?_ ?_; rfl; simp only [Act.put, List.setIfInBounds_toArray, List.set_cons_zero, List.set_cons_succ]) | (refine wpQuiet_val (v := .agg (mcells m A n cc)) ?_ (fun w' hw' => run_load_whole 35 (.tmp 4) rfl rfl (M0.below hw' s0) Try.underlying35 rfl (by kernel_rfl)) ?_; (first | rfl | (go_simp; done)); simp only [Act.put, List.setIfInBounds_toArray, List.set_cons_zero, List.set_cons_succ]) | (refine wpQuiet_val (v := ?_) ?_ ?_ ?_; rotate_left; rfl; (intro w' hw'; obtain ⟨hc, hf⟩ := bcell hw'; go_simp; with_reducible rfl); simp only [Act.put, List.setIfInBounds_toArray, List.set_cons_zero, List.set_cons_succ]) | (refine wpQuiet_call (v := ?_) 33 ?_ ?_ ?_ ?_ ?_; rotate_left 2; (first | rfl | (go_simp; done)); (intro w' hw'; obtain ⟨hc, hf⟩ := bcell hw'; go_simp; with_reducible rfl); (intro w' hw'; (with_reducible refine (check_m m A n cc _ ((hm0.below hw').more hw'.size).reads hm0.len hm0.most).mono ?_); rintro e w2 ⟨rfl, hb⟩; refine ⟨?_, hw'.trans (hb.mono (by have h0 := hw'.size; first | omega | (simp at h0; omega)))⟩; with_reducible rfl); simp only [Act.put, List.setIfInBounds_toArray, List.set_cons_zero, List.set_cons_succ]) | (refine wpQuiet_val (v := ?_) ?_ ?_ ?_; rotate_left; (first | rfl | (go_simp; done)); (intro w' hw'; obtain ⟨hc, hf⟩ := bcell hw'; go_simp; with_reducible rfl); simp only [Act.put, List.setIfInBounds_toArray, List.set_cons_zero, List.set_cons_succ]) | (refine wpQuiet_skip ?_ ?_; (first | rfl | (go_simp; done)); simp only [Act.put, List.setIfInBounds_toArray, List.set_cons_zero, List.set_cons_succ]))
    refine wpQuiet_nil ?_
    intro w4 hw4
    go_wp2_with fail
    go_ret
    exact ⟨rfl, BR.below hw4 sg, gr_trans G0 (gr_below hw4 _)⟩
  | false =>
    cases cb : (checkV m != 0) with
    | true =>
      rw [kb, cb] at hok
      have h : R = (31, c) := by rw [hdef, if_neg (by rw [hok]; simp)]
      subst h
      clear hdef hok
      have BR := B0
      refine wp_region_class (fun w' => Below w0.heap.size w0 w') (by kernel_rfl) (by kernel_rfl) (Below.refl _ _).drew ?_
      repeat (first | (refine wpQuiet_skip ?_ ?_; rfl; simp only [Act.put, List.setIfInBounds_toArray, List.set_cons_zero, List.set_cons_succ]) | (refine wpQuiet_val (v := .agg (mcells m A n cc)) ?_ (fun w' hw' => run_load_whole 35 (.tmp 4) rfl rfl (M0.below hw' s0) Try.underlying35 rfl (by kernel_rfl)) ?_; (first | rfl | (go_simp; done)); simp only [Act.put, List.setIfInBounds_toArray, List.set_cons_zero, List.set_cons_succ]) | (refine wpQuiet_val (v := ?_) ?_ ?_ ?_; rotate_left; rfl; (intro w' hw'; obtain ⟨hc, hf⟩ := bcell hw'; go_simp; with_reducible rfl); simp only [Act.put, List.setIfInBounds_toArray, List.set_cons_zero, List.set_cons_succ]) | (refine wpQuiet_call (v := ?_) 33 ?_ ?_ ?_ ?_ ?_; rotate_left 2; (first | rfl | (go_simp; done)); (intro w' hw'; obtain ⟨hc, hf⟩ := bcell hw'; go_simp; with_reducible rfl); (intro w' hw'; (with_reducible refine (check_m m A n cc _ ((hm0.below hw').more hw'.size).reads hm0.len hm0.most).mono ?_); rintro e w2 ⟨rfl, hb⟩; refine ⟨?_, hw'.trans (hb.mono (by have h0 := hw'.size; first | omega | (simp at h0; omega)))⟩; with_reducible rfl); simp only [Act.put, List.setIfInBounds_toArray, List.set_cons_zero, List.set_cons_succ]) | (refine wpQuiet_val (v := ?_) ?_ ?_ ?_; rotate_left; (first | rfl | (go_simp; done)); (intro w' hw'; obtain ⟨hc, hf⟩ := bcell hw'; go_simp; with_reducible rfl); simp only [Act.put, List.setIfInBounds_toArray, List.set_cons_zero, List.set_cons_succ]) | (refine wpQuiet_skip ?_ ?_; (first | rfl | (go_simp; done)); simp only [Act.put, List.setIfInBounds_toArray, List.set_cons_zero, List.set_cons_succ]))
      refine wpQuiet_nil ?_
      intro w4 hw4
      go_wp2_with fail
      go_ret
      exact ⟨rfl, BR.below hw4 sg, gr_trans G0 (gr_below hw4 _)⟩
    | false =>
      cases db : (m.domain != c.domain) with
      | true =>
        rw [kb, cb, db] at hok
        have h : R = (31, c) := by rw [hdef, if_neg (by rw [hok]; simp)]
        subst h
        clear hdef hok
        have BR := B0
        refine wp_region_class (fun w' => Below w0.heap.size w0 w') (by kernel_rfl) (by kernel_rfl) (Below.refl _ _).drew ?_
        repeat (first | (refine wpQuiet_skip ?_ ?_; rfl; simp only [Act.put, List.setIfInBounds_toArray, List.set_cons_zero, List.set_cons_succ]) | (refine wpQuiet_val (v := .agg (mcells m A n cc)) ?_ (fun w' hw' => run_load_whole 35 (.tmp 4) rfl rfl (M0.below hw' s0) Try.underlying35 rfl (by kernel_rfl)) ?_; (first | rfl | (go_simp; done)); simp only [Act.put, List.setIfInBounds_toArray, List.set_cons_zero, List.set_cons_succ]) | (refine wpQuiet_val (v := ?_) ?_ ?_ ?_; rotate_left; rfl; (intro w' hw'; obtain ⟨hc, hf⟩ := bcell hw'; go_simp; with_reducible rfl); simp only [Act.put, List.setIfInBounds_toArray, List.set_cons_zero, List.set_cons_succ]) | (refine wpQuiet_call (v := ?_) 33 ?_ ?_ ?_ ?_ ?_; rotate_left 2; (first | rfl | (go_simp; done)); (intro w' hw'; obtain ⟨hc, hf⟩ := bcell hw'; go_simp; with_reducible rfl); (intro w' hw'; (with_reducible refine (check_m m A n cc _ ((hm0.below hw').more hw'.size).reads hm0.len hm0.most).mono ?_); rintro e w2 ⟨rfl, hb⟩; refine ⟨?_, hw'.trans (hb.mono (by have h0 := hw'.size; first | omega | (simp at h0; omega)))⟩; with_reducible rfl); simp only [Act.put, List.setIfInBounds_toArray, List.set_cons_zero, List.set_cons_succ]) | (refine wpQuiet_val (v := ?_) ?_ ?_ ?_; rotate_left; (first | rfl | (go_simp; done)); (intro w' hw'; obtain ⟨hc, hf⟩ := bcell hw'; go_simp; with_reducible rfl); simp only [Act.put, List.setIfInBounds_toArray, List.set_cons_zero, List.set_cons_succ]) | (refine wpQuiet_skip ?_ ?_; (first | rfl | (go_simp; done)); simp only [Act.put, List.setIfInBounds_toArray, List.set_cons_zero, List.set_cons_succ]))
        refine wpQuiet_nil ?_
        intro w4 hw4
        go_wp2_with fail
        go_ret
        exact ⟨rfl, BR.below hw4 sg, gr_trans G0 (gr_below hw4 _)⟩
      | false =>
        cases ob : c.own with
        | true =>
          rw [kb, cb, db, ob] at hok
          have h : R = (31, c) := by rw [hdef, if_neg (by rw [hok]; simp)]
          subst h
          rw [ob] at y1
          clear hdef hok
          have BR := B0
          refine wp_region_class (fun w' => Below w0.heap.size w0 w') (by kernel_rfl) (by kernel_rfl) (Below.refl _ _).drew ?_
          repeat (first | (refine wpQuiet_skip ?_ ?_; rfl; simp only [Act.put, List.setIfInBounds_toArray, List.set_cons_zero, List.set_cons_succ]) | (refine wpQuiet_val (v := .agg (mcells m A n cc)) ?_ (fun w' hw' => run_load_whole 35 (.tmp 4) rfl rfl (M0.below hw' s0) Try.underlying35 rfl (by kernel_rfl)) ?_; (first | rfl | (go_simp; done)); simp only [Act.put, List.setIfInBounds_toArray, List.set_cons_zero, List.set_cons_succ]) | (refine wpQuiet_val (v := ?_) ?_ ?_ ?_; rotate_left; rfl; (intro w' hw'; obtain ⟨hc, hf⟩ := bcell hw'; go_simp; with_reducible rfl); simp only [Act.put, List.setIfInBounds_toArray, List.set_cons_zero, List.set_cons_succ]) | (refine wpQuiet_call (v := ?_) 33 ?_ ?_ ?_ ?_ ?_; rotate_left 2; (first | rfl | (go_simp; done)); (intro w' hw'; obtain ⟨hc, hf⟩ := bcell hw'; go_simp; with_reducible rfl); (intro w' hw'; (with_reducible refine (check_m m A n cc _ ((hm0.below hw').more hw'.size).reads hm0.len hm0.most).mono ?_); rintro e w2 ⟨rfl, hb⟩; refine ⟨?_, hw'.trans (hb.mono (by have h0 := hw'.size; first | omega | (simp at h0; omega)))⟩; with_reducible rfl); simp only [Act.put, List.setIfInBounds_toArray, List.set_cons_zero, List.set_cons_succ]) | (refine wpQuiet_val (v := ?_) ?_ ?_ ?_; rotate_left; (first | rfl | (go_simp; done)); (intro w' hw'; obtain ⟨hc, hf⟩ := bcell hw'; go_simp; with_reducible rfl); simp only [Act.put, List.setIfInBounds_toArray, List.set_cons_zero, List.set_cons_succ]) | (refine wpQuiet_skip ?_ ?_; (first | rfl | (go_simp; done)); simp only [Act.put, List.setIfInBounds_toArray, List.set_cons_zero, List.set_cons_succ]))
          refine wpQuiet_nil ?_
          intro w4 hw4
          go_wp2_with fail
          go_ret
          exact ⟨rfl, BR.below hw4 sg, gr_trans G0 (gr_below hw4 _)⟩
        | false =>
          rw [kb, cb, db, ob] at hok
          have h : R = (0, syncC c m at_) := by rw [hdef, if_pos (by rw [hok]; rfl)]
          subst h
          rw [ob] at y1
          clear hdef hok
          refine wp_region_class (fun w' => Below w0.heap.size w0 w') (by kernel_rfl) (by kernel_rfl) (Below.refl _ _).drew ?_
          repeat (first | (refine wpQuiet_skip ?_ ?_; rfl; simp only [Act.put, List.setIfInBounds_toArray, List.set_cons_zero, List.set_cons_succ]) | (refine wpQuiet_val (v := .agg (mcells m A n cc)) ?_ (fun w' hw' => run_load_whole 35 (.tmp 4) rfl rfl (M0.below hw' s0) Try.underlying35 rfl (by kernel_rfl)) ?_; (first | rfl | (go_simp; done)); simp only [Act.put, List.setIfInBounds_toArray, List.set_cons_zero, List.set_cons_succ]) | (refine wpQuiet_val (v := ?_) ?_ ?_ ?_; rotate_left; rfl; (intro w' hw'; obtain ⟨hc, hf⟩ := bcell hw'; go_simp; with_reducible rfl); simp only [Act.put, List.setIfInBounds_toArray, List.set_cons_zero, List.set_cons_succ]) | (refine wpQuiet_call (v := ?_) 33 ?_ ?_ ?_ ?_ ?_; rotate_left 2; (first | rfl | (go_simp; done)); (intro w' hw'; obtain ⟨hc, hf⟩ := bcell hw'; go_simp; with_reducible rfl); (intro w' hw'; (with_reducible refine (check_m m A n cc _ ((hm0.below hw').more hw'.size).reads hm0.len hm0.most).mono ?_); rintro e w2 ⟨rfl, hb⟩; refine ⟨?_, hw'.trans (hb.mono (by have h0 := hw'.size; first | omega | (simp at h0; omega)))⟩; with_reducible rfl); simp only [Act.put, List.setIfInBounds_toArray, List.set_cons_zero, List.set_cons_succ]) | (refine wpQuiet_skip ?_ ?_; (first | rfl | (go_simp; done)); simp only [Act.put, List.setIfInBounds_toArray, List.set_cons_zero, List.set_cons_succ]))
          refine wpQuiet_nil ?_
          intro w4 hw4
          have B4 : CkIn w4 g c := B0.below hw4 sg
          have M4 := M0.below hw4 s0
          have G4 := gr_trans G0 (gr_below hw4 (some g))
          have y7 := B4.cellOf (v := .bool c.opn) 7 rfl
          have y8 := B4.cellOf (v := .int .i64 c.seq) 8 rfl
          have y9 := B4.cellOf (v := .int .i64 c.src) 9 rfl
          have y10 := B4.cellOf (v := .int .i64 c.at_) 10 rfl
          have fz := B4.frozen
          have B5 := B4.drew
          have G5 := gr_drew G4
          clear x0 x1 y0 y1 hw4 B0 M0 G0 G4 s0 sg hm0
          go_wp2_with fail
          refine wp_region_script [(0, true), (1, true), (2, true), (3, true), (4, true), (5, true), (6, true), (7, true), (8, true), (9, true), (10, true), (11, false), (12, true), (13, true), (14, false), (15, true), (16, true), (17, false), (18, true), (19, true), (20, false)] (fun w' => Blk w' w.heap.size 35 (mcells m A n cc)) (by kernel_rfl) (by kernel_rfl) (fun _ _ _ _ _ h => h) M4.drew ?_
          iterate 11 (refine script_take (v := ?_) rfl ?_ ?_ ?_; rotate_left; (first | rfl | (go_simp; done)); (intro w' hw'; have hcq := fun i => Blk.cell hw' i; (try simp only [mcells] at hcq); (try simp only [ckc] at hcq); go_simp; with_reducible rfl); simp only [Act.put, List.setIfInBounds_toArray, List.set_cons_zero, List.set_cons_succ])
          have M5 := M4.drew.far (p := ⟨g, 7, none⟩) (fun h => hne h.symm) (.bool true)
          have M6 := M5.far (p := ⟨g, 8, none⟩) (fun h => hne h.symm) (.int .i64 m.seq)
          have M7 := M6.far (p := ⟨g, 9, none⟩) (fun h => hne h.symm) (.int .i64 m.src)
          have M8 := M7.far (p := ⟨g, 10, none⟩) (fun h => hne h.symm) (.int .i64 at_)
          (refine script_run0 (w' := ?_) rfl ?_ ?_ ?_ ?_; rotate_left; (first | rfl | (go_simp; done)); (go_simp; with_reducible rfl); (exact M5); simp only [Act.put, List.setIfInBounds_toArray, List.set_cons_zero, List.set_cons_succ])
          iterate 2 (refine script_take (v := ?_) rfl ?_ ?_ ?_; rotate_left; (first | rfl | (go_simp; done)); (intro w' hw'; have hcq := fun i => Blk.cell hw' i; (try simp only [mcells] at hcq); (try simp only [ckc] at hcq); go_simp; with_reducible rfl); simp only [Act.put, List.setIfInBounds_toArray, List.set_cons_zero, List.set_cons_succ])
          (refine script_run0 (w' := ?_) rfl ?_ ?_ ?_ ?_; rotate_left; (first | rfl | (go_simp; done)); (go_simp; with_reducible rfl); (exact M6); simp only [Act.put, List.setIfInBounds_toArray, List.set_cons_zero, List.set_cons_succ])
          iterate 2 (refine script_take (v := ?_) rfl ?_ ?_ ?_; rotate_left; (first | rfl | (go_simp; done)); (intro w' hw'; have hcq := fun i => Blk.cell hw' i; (try simp only [mcells] at hcq); (try simp only [ckc] at hcq); go_simp; with_reducible rfl); simp only [Act.put, List.setIfInBounds_toArray, List.set_cons_zero, List.set_cons_succ])
          (refine script_run0 (w' := ?_) rfl ?_ ?_ ?_ ?_; rotate_left; (first | rfl | (go_simp; done)); (go_simp; with_reducible rfl); (exact M7); simp only [Act.put, List.setIfInBounds_toArray, List.set_cons_zero, List.set_cons_succ])
          iterate 2 (refine script_take (v := ?_) rfl ?_ ?_ ?_; rotate_left; (first | rfl | (go_simp; done)); (intro w' hw'; have hcq := fun i => Blk.cell hw' i; (try simp only [mcells] at hcq); (try simp only [ckc] at hcq); go_simp; with_reducible rfl); simp only [Act.put, List.setIfInBounds_toArray, List.set_cons_zero, List.set_cons_succ])
          (refine script_run0 (w' := ?_) rfl ?_ ?_ ?_ ?_; rotate_left; (first | rfl | (go_simp; done)); (go_simp; with_reducible rfl); (exact M8); simp only [Act.put, List.setIfInBounds_toArray, List.set_cons_zero, List.set_cons_succ])
          refine script_nil ?_
          have B8 : CkIn _ g (syncC c m at_) := (((B5.set_ 7 (.bool true)).set_ 8 (.int .i64 m.seq)).set_ 9 (.int .i64 m.src)).set_ 10 (.int .i64 at_)
          have G8 := gr_set (gr_set (gr_set (gr_set G5 7 (.bool true)) 8 (.int .i64 m.seq)) 9 (.int .i64 m.src)) 10 (.int .i64 at_)
          clear M5 M6 M7 M8 B5 G5 y7 y8 y9 y10 fz
          go_wp2_with fail
          go_ret
          exact ⟨rfl, B8, G8⟩
end Go.Proofs.Ytjjpmckefglhnaa
