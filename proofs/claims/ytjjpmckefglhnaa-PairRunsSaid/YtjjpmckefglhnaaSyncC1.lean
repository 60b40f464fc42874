/-
  Layer 18: a clock of a domain: Follow, where it refuses.
-/
import Derived.Test.YtjjpmckefglhnaaSyncC0
namespace Go.Proofs.Ytjjpmckefglhnaa
open Go.RowKit Go.WideShapes Go.ChangeShapes
attribute [local go_sem ↓] Go.wp_at_zero Go.wp_at_succ

set_option maxRecDepth 100000 in
set_option maxHeartbeats 16000000 in
theorem follow_no (c : Ck) (g : Nat) (m : Mg) (A : Option Addr) (n cc : Nat) (delay ratio : Int) (w : World) (B : CkIn w g c) (hm : MsgIn w w.heap.size m A n) (hf : follOk c m = false) :
    Calls Try.prog 24 #[.pointer (some ⟨g, 0, none⟩), .agg (mcells m A n cc), .int .i64 delay, .int .i64 ratio] w fun e w' => e = .returned (.int .i64 31) ∧ CkIn w' g c ∧ w.grownBy w' (some g) := by
  have B0 : CkIn (w.alloc (.cells (mcells m A n cc) 35)) g c := B.alloc _
  have M0 := Blk.new w 35 (mcells m A n cc)
  have G0 := gr_new (grownBy_refl w (some g)) (.cells (mcells m A n cc) 35)
  have hm0 : MsgIn (w.alloc (.cells (mcells m A n cc) 35)) (w.alloc (.cells (mcells m A n cc) 35)).heap.size m A n := ⟨(hm.reads.alloc (Nat.le_refl _) _).more (by simp), hm.len, hm.most⟩
  have s0 : w.heap.size < (w.alloc (.cells (mcells m A n cc) 35)).heap.size := by simp
  have sg := B0.lt
  have hne : g ≠ w.heap.size := by have := B.lt; omega
  clear B hm
  have x0 := M0.cellOf (v := .int .i64 m.kind) 0 rfl
  have x1 := M0.cellOf (v := .int .i64 m.domain) 1 rfl
  have x2 := M0.cellOf (v := .int .i64 m.seq) 2 rfl
  have x3 := M0.cellOf (v := .int .i64 m.src) 3 rfl
  have y0 := B0.cellOf (v := .int .i64 c.domain) 0 rfl
  have y1 := B0.cellOf (v := .bool c.own) 1 rfl
  have y7 := B0.cellOf (v := .bool c.opn) 7 rfl
  have y8 := B0.cellOf (v := .int .i64 c.seq) 8 rfl
  have y9 := B0.cellOf (v := .int .i64 c.src) 9 rfl
  have hok : follOk c m = (!(m.kind != 8) && !(checkV m != 0) && !(m.domain != c.domain) && !c.own && c.opn && !(m.seq != c.seq) && !(m.src != c.src)) := rfl
  go_enter Try.func24, Try.ntmps24
  go_wp2_with fail
  generalize w.alloc (.cells (mcells m A n cc) 35) = w0 at *
  cases kb : (m.kind != 8) with
  | true =>
    rw [kb] at hok
    clear hok hf
    refine wp_region_class (fun w' => Below w0.heap.size w0 w') (by kernel_rfl) (by kernel_rfl) (Below.refl _ _).drew ?_
    repeat (first | (refine wpQuiet_skip ?_ ?_; rfl; simp only [Act.put, List.setIfInBounds_toArray, List.set_cons_zero, List.set_cons_succ]) | (refine wpQuiet_val (v := .agg (mcells m A n cc)) ?_ (fun w' hw' => run_load_whole 35 (.tmp 5) rfl rfl (M0.below hw' s0) Try.underlying35 rfl (by kernel_rfl)) ?_; (first | rfl | (go_simp; done)); simp only [Act.put, List.setIfInBounds_toArray, List.set_cons_zero, List.set_cons_succ]) | (refine wpQuiet_val (v := ?_) ?_ ?_ ?_; rotate_left; rfl; (intro w' hw'; obtain ⟨hc, hf⟩ := bcell hw'; go_simp; with_reducible rfl); simp only [Act.put, List.setIfInBounds_toArray, List.set_cons_zero, List.set_cons_succ]) | (refine wpQuiet_call (v := ?_) 33 ?_ ?_ ?_ ?_ ?_; rotate_left 2; (first | rfl | (go_simp; done)); (intro w' hw'; obtain ⟨hc, hf⟩ := bcell hw'; go_simp; with_reducible rfl); (intro w' hw'; (with_reducible refine (check_m m A n cc _ ((hm0.below hw').more hw'.size).reads hm0.len hm0.most).mono ?_); rintro e w2 ⟨rfl, hb⟩; refine ⟨?_, hw'.trans (hb.mono (by have h0 := hw'.size; first | omega | (simp at h0; omega)))⟩; with_reducible rfl); simp only [Act.put, List.setIfInBounds_toArray, List.set_cons_zero, List.set_cons_succ]) | (refine wpQuiet_val (v := ?_) ?_ ?_ ?_; rotate_left; (first | rfl | (go_simp; done)); (intro w' hw'; obtain ⟨hc, hf⟩ := bcell hw'; go_simp; with_reducible rfl); simp only [Act.put, List.setIfInBounds_toArray, List.set_cons_zero, List.set_cons_succ]) | (refine wpQuiet_skip ?_ ?_; (first | rfl | (go_simp; done)); simp only [Act.put, List.setIfInBounds_toArray, List.set_cons_zero, List.set_cons_succ]))
    refine wpQuiet_nil ?_
    intro w4 hw4
    go_wp2_with fail
    go_ret
    exact ⟨rfl, B0.below hw4 sg, gr_trans G0 (gr_below hw4 _)⟩
  | false =>
  cases cb : (checkV m != 0) with
  | true =>
    rw [kb, cb] at hok
    clear hok hf
    refine wp_region_class (fun w' => Below w0.heap.size w0 w') (by kernel_rfl) (by kernel_rfl) (Below.refl _ _).drew ?_
    repeat (first | (refine wpQuiet_skip ?_ ?_; rfl; simp only [Act.put, List.setIfInBounds_toArray, List.set_cons_zero, List.set_cons_succ]) | (refine wpQuiet_val (v := .agg (mcells m A n cc)) ?_ (fun w' hw' => run_load_whole 35 (.tmp 5) rfl rfl (M0.below hw' s0) Try.underlying35 rfl (by kernel_rfl)) ?_; (first | rfl | (go_simp; done)); simp only [Act.put, List.setIfInBounds_toArray, List.set_cons_zero, List.set_cons_succ]) | (refine wpQuiet_val (v := ?_) ?_ ?_ ?_; rotate_left; rfl; (intro w' hw'; obtain ⟨hc, hf⟩ := bcell hw'; go_simp; with_reducible rfl); simp only [Act.put, List.setIfInBounds_toArray, List.set_cons_zero, List.set_cons_succ]) | (refine wpQuiet_call (v := ?_) 33 ?_ ?_ ?_ ?_ ?_; rotate_left 2; (first | rfl | (go_simp; done)); (intro w' hw'; obtain ⟨hc, hf⟩ := bcell hw'; go_simp; with_reducible rfl); (intro w' hw'; (with_reducible refine (check_m m A n cc _ ((hm0.below hw').more hw'.size).reads hm0.len hm0.most).mono ?_); rintro e w2 ⟨rfl, hb⟩; refine ⟨?_, hw'.trans (hb.mono (by have h0 := hw'.size; first | omega | (simp at h0; omega)))⟩; with_reducible rfl); simp only [Act.put, List.setIfInBounds_toArray, List.set_cons_zero, List.set_cons_succ]) | (refine wpQuiet_val (v := ?_) ?_ ?_ ?_; rotate_left; (first | rfl | (go_simp; done)); (intro w' hw'; obtain ⟨hc, hf⟩ := bcell hw'; go_simp; with_reducible rfl); simp only [Act.put, List.setIfInBounds_toArray, List.set_cons_zero, List.set_cons_succ]) | (refine wpQuiet_skip ?_ ?_; (first | rfl | (go_simp; done)); simp only [Act.put, List.setIfInBounds_toArray, List.set_cons_zero, List.set_cons_succ]))
    refine wpQuiet_nil ?_
    intro w4 hw4
    go_wp2_with fail
    go_ret
    exact ⟨rfl, B0.below hw4 sg, gr_trans G0 (gr_below hw4 _)⟩
  | false =>
  cases db : (m.domain != c.domain) with
  | true =>
    rw [kb, cb, db] at hok
    clear hok hf
    refine wp_region_class (fun w' => Below w0.heap.size w0 w') (by kernel_rfl) (by kernel_rfl) (Below.refl _ _).drew ?_
    repeat (first | (refine wpQuiet_skip ?_ ?_; rfl; simp only [Act.put, List.setIfInBounds_toArray, List.set_cons_zero, List.set_cons_succ]) | (refine wpQuiet_val (v := .agg (mcells m A n cc)) ?_ (fun w' hw' => run_load_whole 35 (.tmp 5) rfl rfl (M0.below hw' s0) Try.underlying35 rfl (by kernel_rfl)) ?_; (first | rfl | (go_simp; done)); simp only [Act.put, List.setIfInBounds_toArray, List.set_cons_zero, List.set_cons_succ]) | (refine wpQuiet_val (v := ?_) ?_ ?_ ?_; rotate_left; rfl; (intro w' hw'; obtain ⟨hc, hf⟩ := bcell hw'; go_simp; with_reducible rfl); simp only [Act.put, List.setIfInBounds_toArray, List.set_cons_zero, List.set_cons_succ]) | (refine wpQuiet_call (v := ?_) 33 ?_ ?_ ?_ ?_ ?_; rotate_left 2; (first | rfl | (go_simp; done)); (intro w' hw'; obtain ⟨hc, hf⟩ := bcell hw'; go_simp; with_reducible rfl); (intro w' hw'; (with_reducible refine (check_m m A n cc _ ((hm0.below hw').more hw'.size).reads hm0.len hm0.most).mono ?_); rintro e w2 ⟨rfl, hb⟩; refine ⟨?_, hw'.trans (hb.mono (by have h0 := hw'.size; first | omega | (simp at h0; omega)))⟩; with_reducible rfl); simp only [Act.put, List.setIfInBounds_toArray, List.set_cons_zero, List.set_cons_succ]) | (refine wpQuiet_val (v := ?_) ?_ ?_ ?_; rotate_left; (first | rfl | (go_simp; done)); (intro w' hw'; obtain ⟨hc, hf⟩ := bcell hw'; go_simp; with_reducible rfl); simp only [Act.put, List.setIfInBounds_toArray, List.set_cons_zero, List.set_cons_succ]) | (refine wpQuiet_skip ?_ ?_; (first | rfl | (go_simp; done)); simp only [Act.put, List.setIfInBounds_toArray, List.set_cons_zero, List.set_cons_succ]))
    refine wpQuiet_nil ?_
    intro w4 hw4
    go_wp2_with fail
    go_ret
    exact ⟨rfl, B0.below hw4 sg, gr_trans G0 (gr_below hw4 _)⟩
  | false =>
  cases ob : c.own with
  | true =>
    rw [kb, cb, db, ob] at hok
    rw [ob] at y1
    clear hok hf
    refine wp_region_class (fun w' => Below w0.heap.size w0 w') (by kernel_rfl) (by kernel_rfl) (Below.refl _ _).drew ?_
    repeat (first | (refine wpQuiet_skip ?_ ?_; rfl; simp only [Act.put, List.setIfInBounds_toArray, List.set_cons_zero, List.set_cons_succ]) | (refine wpQuiet_val (v := .agg (mcells m A n cc)) ?_ (fun w' hw' => run_load_whole 35 (.tmp 5) rfl rfl (M0.below hw' s0) Try.underlying35 rfl (by kernel_rfl)) ?_; (first | rfl | (go_simp; done)); simp only [Act.put, List.setIfInBounds_toArray, List.set_cons_zero, List.set_cons_succ]) | (refine wpQuiet_val (v := ?_) ?_ ?_ ?_; rotate_left; rfl; (intro w' hw'; obtain ⟨hc, hf⟩ := bcell hw'; go_simp; with_reducible rfl); simp only [Act.put, List.setIfInBounds_toArray, List.set_cons_zero, List.set_cons_succ]) | (refine wpQuiet_call (v := ?_) 33 ?_ ?_ ?_ ?_ ?_; rotate_left 2; (first | rfl | (go_simp; done)); (intro w' hw'; obtain ⟨hc, hf⟩ := bcell hw'; go_simp; with_reducible rfl); (intro w' hw'; (with_reducible refine (check_m m A n cc _ ((hm0.below hw').more hw'.size).reads hm0.len hm0.most).mono ?_); rintro e w2 ⟨rfl, hb⟩; refine ⟨?_, hw'.trans (hb.mono (by have h0 := hw'.size; first | omega | (simp at h0; omega)))⟩; with_reducible rfl); simp only [Act.put, List.setIfInBounds_toArray, List.set_cons_zero, List.set_cons_succ]) | (refine wpQuiet_val (v := ?_) ?_ ?_ ?_; rotate_left; (first | rfl | (go_simp; done)); (intro w' hw'; obtain ⟨hc, hf⟩ := bcell hw'; go_simp; with_reducible rfl); simp only [Act.put, List.setIfInBounds_toArray, List.set_cons_zero, List.set_cons_succ]) | (refine wpQuiet_skip ?_ ?_; (first | rfl | (go_simp; done)); simp only [Act.put, List.setIfInBounds_toArray, List.set_cons_zero, List.set_cons_succ]))
    refine wpQuiet_nil ?_
    intro w4 hw4
    go_wp2_with fail
    go_ret
    exact ⟨rfl, B0.below hw4 sg, gr_trans G0 (gr_below hw4 _)⟩
  | false =>
  rw [ob] at y1
  cases pb : c.opn with
  | false =>
    rw [kb, cb, db, ob, pb] at hok
    rw [pb] at y7
    clear hok hf
    refine wp_region_class (fun w' => Below w0.heap.size w0 w') (by kernel_rfl) (by kernel_rfl) (Below.refl _ _).drew ?_
    repeat (first | (refine wpQuiet_skip ?_ ?_; rfl; simp only [Act.put, List.setIfInBounds_toArray, List.set_cons_zero, List.set_cons_succ]) | (refine wpQuiet_val (v := .agg (mcells m A n cc)) ?_ (fun w' hw' => run_load_whole 35 (.tmp 5) rfl rfl (M0.below hw' s0) Try.underlying35 rfl (by kernel_rfl)) ?_; (first | rfl | (go_simp; done)); simp only [Act.put, List.setIfInBounds_toArray, List.set_cons_zero, List.set_cons_succ]) | (refine wpQuiet_val (v := ?_) ?_ ?_ ?_; rotate_left; rfl; (intro w' hw'; obtain ⟨hc, hf⟩ := bcell hw'; go_simp; with_reducible rfl); simp only [Act.put, List.setIfInBounds_toArray, List.set_cons_zero, List.set_cons_succ]) | (refine wpQuiet_call (v := ?_) 33 ?_ ?_ ?_ ?_ ?_; rotate_left 2; (first | rfl | (go_simp; done)); (intro w' hw'; obtain ⟨hc, hf⟩ := bcell hw'; go_simp; with_reducible rfl); (intro w' hw'; (with_reducible refine (check_m m A n cc _ ((hm0.below hw').more hw'.size).reads hm0.len hm0.most).mono ?_); rintro e w2 ⟨rfl, hb⟩; refine ⟨?_, hw'.trans (hb.mono (by have h0 := hw'.size; first | omega | (simp at h0; omega)))⟩; with_reducible rfl); simp only [Act.put, List.setIfInBounds_toArray, List.set_cons_zero, List.set_cons_succ]) | (refine wpQuiet_val (v := ?_) ?_ ?_ ?_; rotate_left; (first | rfl | (go_simp; done)); (intro w' hw'; obtain ⟨hc, hf⟩ := bcell hw'; go_simp; with_reducible rfl); simp only [Act.put, List.setIfInBounds_toArray, List.set_cons_zero, List.set_cons_succ]) | (refine wpQuiet_skip ?_ ?_; (first | rfl | (go_simp; done)); simp only [Act.put, List.setIfInBounds_toArray, List.set_cons_zero, List.set_cons_succ]))
    refine wpQuiet_nil ?_
    intro w4 hw4
    go_wp2_with fail
    go_ret
    exact ⟨rfl, B0.below hw4 sg, gr_trans G0 (gr_below hw4 _)⟩
  | true =>
  rw [pb] at y7
  cases qb : (m.seq != c.seq) with
  | true =>
    rw [kb, cb, db, ob, pb, qb] at hok
    clear hok hf
    refine wp_region_class (fun w' => Below w0.heap.size w0 w') (by kernel_rfl) (by kernel_rfl) (Below.refl _ _).drew ?_
    repeat (first | (refine wpQuiet_skip ?_ ?_; rfl; simp only [Act.put, List.setIfInBounds_toArray, List.set_cons_zero, List.set_cons_succ]) | (refine wpQuiet_val (v := .agg (mcells m A n cc)) ?_ (fun w' hw' => run_load_whole 35 (.tmp 5) rfl rfl (M0.below hw' s0) Try.underlying35 rfl (by kernel_rfl)) ?_; (first | rfl | (go_simp; done)); simp only [Act.put, List.setIfInBounds_toArray, List.set_cons_zero, List.set_cons_succ]) | (refine wpQuiet_val (v := ?_) ?_ ?_ ?_; rotate_left; rfl; (intro w' hw'; obtain ⟨hc, hf⟩ := bcell hw'; go_simp; with_reducible rfl); simp only [Act.put, List.setIfInBounds_toArray, List.set_cons_zero, List.set_cons_succ]) | (refine wpQuiet_call (v := ?_) 33 ?_ ?_ ?_ ?_ ?_; rotate_left 2; (first | rfl | (go_simp; done)); (intro w' hw'; obtain ⟨hc, hf⟩ := bcell hw'; go_simp; with_reducible rfl); (intro w' hw'; (with_reducible refine (check_m m A n cc _ ((hm0.below hw').more hw'.size).reads hm0.len hm0.most).mono ?_); rintro e w2 ⟨rfl, hb⟩; refine ⟨?_, hw'.trans (hb.mono (by have h0 := hw'.size; first | omega | (simp at h0; omega)))⟩; with_reducible rfl); simp only [Act.put, List.setIfInBounds_toArray, List.set_cons_zero, List.set_cons_succ]) | (refine wpQuiet_val (v := ?_) ?_ ?_ ?_; rotate_left; (first | rfl | (go_simp; done)); (intro w' hw'; obtain ⟨hc, hf⟩ := bcell hw'; go_simp; with_reducible rfl); simp only [Act.put, List.setIfInBounds_toArray, List.set_cons_zero, List.set_cons_succ]) | (refine wpQuiet_skip ?_ ?_; (first | rfl | (go_simp; done)); simp only [Act.put, List.setIfInBounds_toArray, List.set_cons_zero, List.set_cons_succ]))
    refine wpQuiet_nil ?_
    intro w4 hw4
    go_wp2_with fail
    go_ret
    exact ⟨rfl, B0.below hw4 sg, gr_trans G0 (gr_below hw4 _)⟩
  | false =>
  cases sb : (m.src != c.src) with
  | true =>
    rw [kb, cb, db, ob, pb, qb, sb] at hok
    clear hok hf
    refine wp_region_class (fun w' => Below w0.heap.size w0 w') (by kernel_rfl) (by kernel_rfl) (Below.refl _ _).drew ?_
    repeat (first | (refine wpQuiet_skip ?_ ?_; rfl; simp only [Act.put, List.setIfInBounds_toArray, List.set_cons_zero, List.set_cons_succ]) | (refine wpQuiet_val (v := .agg (mcells m A n cc)) ?_ (fun w' hw' => run_load_whole 35 (.tmp 5) rfl rfl (M0.below hw' s0) Try.underlying35 rfl (by kernel_rfl)) ?_; (first | rfl | (go_simp; done)); simp only [Act.put, List.setIfInBounds_toArray, List.set_cons_zero, List.set_cons_succ]) | (refine wpQuiet_val (v := ?_) ?_ ?_ ?_; rotate_left; rfl; (intro w' hw'; obtain ⟨hc, hf⟩ := bcell hw'; go_simp; with_reducible rfl); simp only [Act.put, List.setIfInBounds_toArray, List.set_cons_zero, List.set_cons_succ]) | (refine wpQuiet_call (v := ?_) 33 ?_ ?_ ?_ ?_ ?_; rotate_left 2; (first | rfl | (go_simp; done)); (intro w' hw'; obtain ⟨hc, hf⟩ := bcell hw'; go_simp; with_reducible rfl); (intro w' hw'; (with_reducible refine (check_m m A n cc _ ((hm0.below hw').more hw'.size).reads hm0.len hm0.most).mono ?_); rintro e w2 ⟨rfl, hb⟩; refine ⟨?_, hw'.trans (hb.mono (by have h0 := hw'.size; first | omega | (simp at h0; omega)))⟩; with_reducible rfl); simp only [Act.put, List.setIfInBounds_toArray, List.set_cons_zero, List.set_cons_succ]) | (refine wpQuiet_val (v := ?_) ?_ ?_ ?_; rotate_left; (first | rfl | (go_simp; done)); (intro w' hw'; obtain ⟨hc, hf⟩ := bcell hw'; go_simp; with_reducible rfl); simp only [Act.put, List.setIfInBounds_toArray, List.set_cons_zero, List.set_cons_succ]) | (refine wpQuiet_skip ?_ ?_; (first | rfl | (go_simp; done)); simp only [Act.put, List.setIfInBounds_toArray, List.set_cons_zero, List.set_cons_succ]))
    refine wpQuiet_nil ?_
    intro w4 hw4
    go_wp2_with fail
    go_ret
    exact ⟨rfl, B0.below hw4 sg, gr_trans G0 (gr_below hw4 _)⟩
  | false =>
  rw [kb, cb, db, ob, pb, qb, sb] at hok
  rw [hok] at hf
  cases hf
end Go.Proofs.Ytjjpmckefglhnaa
