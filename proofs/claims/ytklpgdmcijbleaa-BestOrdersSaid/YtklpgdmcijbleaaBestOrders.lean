/-
  BestOrders: for any three vectors the law returns true, and they read as they did. No condition.
-/
import Derived.Test.YtklpgdmcijbleaaBestBase
namespace Go.Proofs.Ytklpgdmcijbleaa
open Go.RowKit Go.WideShapes Go.ChangeShapes
attribute [local go_sem ↓] Go.wp_at_zero Go.wp_at_succ

theorem head_cmp (w : World) : Calls Try.prog 9 #[.agg #[.int .i64 1, .int .i64 0, .int .i64 0, .int .i64 0], .agg #[.int .i64 2, .int .i64 0, .int .i64 0, .int .i64 0]] w fun e w' => e = .returned (.int .i64 (-1)) ∧ Below w.heap.size w w' :=
  cmpP_any ⟨1, 0, 0, 0⟩ ⟨2, 0, 0, 0⟩ w

set_option maxHeartbeats 2000000 in
theorem bestOrders_calls (a b c : Vc) (w : World) : Calls Try.prog 3 #[a.val, b.val, c.val] w fun e w' => e = .returned (.bool true) ∧ Below w.heap.size w w' := by
  have n1 := cmpV_neg b a
  have s1 := cmpV_self a
  have r1 := cmpV_range a b
  have tr := cmpV_trans a b c
  have hab := fun W => cmpV_any a b W
  have hba := fun W => cmpV_any b a W
  have hbc := fun W => cmpV_any b c W
  have hac := fun W => cmpV_any a c W
  have haa := fun W => cmpV_any a a W
  have hP := fun W => cmpP_any a.root b.root W
  have ra := fun W => row_any a W
  have rb := fun W => row_any b W
  have c8 := fun W => rc8 a b W
  have c4 := fun W => rc4 a b W
  rw [s1] at haa
  have t1 : cmpV a b = -cmpV b a := by omega
  generalize hx : cmpV a b = x at *
  generalize hy : cmpV b a = y at *
  generalize hz : cmpV b c = z at *
  generalize hu : cmpV a c = u at *
  generalize hv : cmpP a.root b.root = v at *
  clear hx hy hz hu hv n1 s1
  unfold Vc.val Vc.cells Pr.cells iz at *
  unfold Pr.val Pr.cells iz at hP
  simp only [List.cons_append, List.nil_append] at *
  have tt : (x == IntKind.i64.wrap (-y)) = true := by
    rw [IntWalk.i64_in _ (by omega)]
    simp
    omega
  have H1 := Lib.hid (And.intro hab (And.intro hba (And.intro hbc (And.intro hac (And.intro haa (And.intro hP (And.intro ra (And.intro rb (And.intro c8 c4)))))))))
  clear hab hba hbc hac haa hP ra rb c8 c4
  have H2 := Lib.hid t1
  clear t1
  go_enter Try.func3, Try.ntmps3
  go_wp2_with (refine (head_cmp _).mono ?_; rintro e w' ⟨rfl, hb⟩)
  obtain ⟨hab, hba, hbc, hac, haa, hP, ra, rb, c8, c4⟩ := H1.out
  refine wp_region_class (fun w' => Below (w.heap.size + 3) (((w.alloc (.cells #[.int .i64 a.root.one, .int .i64 a.root.cls, .int .i64 a.root.two, .int .i64 a.root.id, .int .i64 a.steps, .int .i64 a.src, .int .i64 a.port, .int .i64 a.at_] 25)).alloc (.cells #[.int .i64 b.root.one, .int .i64 b.root.cls, .int .i64 b.root.two, .int .i64 b.root.id, .int .i64 b.steps, .int .i64 b.src, .int .i64 b.port, .int .i64 b.at_] 25)).alloc (.cells #[.int .i64 c.root.one, .int .i64 c.root.cls, .int .i64 c.root.two, .int .i64 c.root.id, .int .i64 c.steps, .int .i64 c.src, .int .i64 c.port, .int .i64 c.at_] 25)) w') (by kernel_rfl) (by kernel_rfl) (Below.mono hb (by simp)).drew ?_
  have HF := Lib.hid hb
  clear hb
  repeat (first | (refine wpQuiet_val (v := ?_) ?_ ?_ ?_; rotate_left; (first | rfl | (go_simp; done)); (intro w' hw'; obtain ⟨hc, hf⟩ := bcell hw'; go_simp; with_reducible rfl); simp only [Act.put, List.setIfInBounds_toArray, List.set_cons_zero, List.set_cons_succ]) | (refine wpQuiet_skip ?_ ?_; (first | rfl | (go_simp; done)); simp only [Act.put, List.setIfInBounds_toArray, List.set_cons_zero, List.set_cons_succ]) | (refine wpQuiet_call (v := ?_) 10 ?_ ?_ ?_ ?_ ?_; rotate_left 2; (first | rfl | (go_simp; done)); (intro w' hw'; obtain ⟨hc, hf⟩ := bcell hw'; go_simp; with_reducible rfl); (intro w' hw'; (with_reducible refine (hab _).mono ?_); rintro e w2 ⟨rfl, hb⟩; refine ⟨?_, hw'.trans (hb.mono (by have h0 := hw'.size; simp at h0; omega))⟩; with_reducible rfl); simp only [Act.put, List.setIfInBounds_toArray, List.set_cons_zero, List.set_cons_succ]) | (refine wpQuiet_call (v := ?_) 12 ?_ ?_ ?_ ?_ ?_; rotate_left 2; (first | rfl | (go_simp; done)); (intro w' hw'; obtain ⟨hc, hf⟩ := bcell hw'; go_simp; with_reducible rfl); (intro w' hw'; (with_reducible refine (ra _).mono ?_); rintro e w2 ⟨rfl, hb⟩; refine ⟨?_, hw'.trans (hb.mono (by have h0 := hw'.size; simp at h0; omega))⟩; with_reducible rfl); simp only [Act.put, List.setIfInBounds_toArray, List.set_cons_zero, List.set_cons_succ]) | (refine wpQuiet_call (v := ?_) 12 ?_ ?_ ?_ ?_ ?_; rotate_left 2; (first | rfl | (go_simp; done)); (intro w' hw'; obtain ⟨hc, hf⟩ := bcell hw'; go_simp; with_reducible rfl); (intro w' hw'; (with_reducible refine (rb _).mono ?_); rintro e w2 ⟨rfl, hb⟩; refine ⟨?_, hw'.trans (hb.mono (by have h0 := hw'.size; simp at h0; omega))⟩; with_reducible rfl); simp only [Act.put, List.setIfInBounds_toArray, List.set_cons_zero, List.set_cons_succ]) | (refine wpQuiet_call (v := ?_) 11 ?_ ?_ ?_ ?_ ?_; rotate_left 2; (first | rfl | (go_simp; done)); (intro w' hw'; obtain ⟨hc, hf⟩ := bcell hw'; go_simp; with_reducible rfl); (intro w' hw'; (with_reducible refine (c8 _).mono ?_); rintro e w2 ⟨rfl, hb⟩; refine ⟨?_, hw'.trans (hb.mono (by have h0 := hw'.size; simp at h0; omega))⟩; with_reducible rfl); simp only [Act.put, List.setIfInBounds_toArray, List.set_cons_zero, List.set_cons_succ]) | (refine wpQuiet_call (v := ?_) 11 ?_ ?_ ?_ ?_ ?_; rotate_left 2; (first | rfl | (go_simp; done)); (intro w' hw'; obtain ⟨hc, hf⟩ := bcell hw'; go_simp; with_reducible rfl); (intro w' hw'; (with_reducible refine (c4 _).mono ?_); rintro e w2 ⟨rfl, hb⟩; refine ⟨?_, hw'.trans (hb.mono (by have h0 := hw'.size; simp at h0; omega))⟩; with_reducible rfl); simp only [Act.put, List.setIfInBounds_toArray, List.set_cons_zero, List.set_cons_succ]) | (refine wpQuiet_call (v := ?_) 9 ?_ ?_ ?_ ?_ ?_; rotate_left 2; (first | rfl | (go_simp; done)); (intro w' hw'; obtain ⟨hc, hf⟩ := bcell hw'; go_simp; with_reducible rfl); (intro w' hw'; (with_reducible refine (hP _).mono ?_); rintro e w2 ⟨rfl, hb⟩; refine ⟨?_, hw'.trans (hb.mono (by have h0 := hw'.size; simp at h0; omega))⟩; with_reducible rfl); simp only [Act.put, List.setIfInBounds_toArray, List.set_cons_zero, List.set_cons_succ]))
  refine wpQuiet_nil ?_
  intro w2 hw2
  have tn := H2.out
  clear H1 H2 HF
  have HW := Lib.hid hw2
  clear hw2
  by_cases q1 : x < 0
  · by_cases q2 : z < 0
    · have d3 : decide (0 ≤ u) = false := by have q3 : u < 0 := tr q1 q2; simp; omega
      clear tr tn
      go_wp2_with fail
      refine wp_region_class (fun w' => Below (w.heap.size + 3) (((w.alloc (.cells #[.int .i64 a.root.one, .int .i64 a.root.cls, .int .i64 a.root.two, .int .i64 a.root.id, .int .i64 a.steps, .int .i64 a.src, .int .i64 a.port, .int .i64 a.at_] 25)).alloc (.cells #[.int .i64 b.root.one, .int .i64 b.root.cls, .int .i64 b.root.two, .int .i64 b.root.id, .int .i64 b.steps, .int .i64 b.src, .int .i64 b.port, .int .i64 b.at_] 25)).alloc (.cells #[.int .i64 c.root.one, .int .i64 c.root.cls, .int .i64 c.root.two, .int .i64 c.root.id, .int .i64 c.steps, .int .i64 c.src, .int .i64 c.port, .int .i64 c.at_] 25)) w') (by kernel_rfl) (by kernel_rfl) HW.out.drew ?_
      repeat (first | (refine wpQuiet_val (v := ?_) ?_ ?_ ?_; rotate_left; (first | rfl | (go_simp; done)); (intro w' hw'; obtain ⟨hc, hf⟩ := bcell hw'; go_simp; with_reducible rfl); simp only [Act.put, List.setIfInBounds_toArray, List.set_cons_zero, List.set_cons_succ]) | (refine wpQuiet_skip ?_ ?_; (first | rfl | (go_simp; done)); simp only [Act.put, List.setIfInBounds_toArray, List.set_cons_zero, List.set_cons_succ]) | (refine wpQuiet_call (v := ?_) 10 ?_ ?_ ?_ ?_ ?_; rotate_left 2; (first | rfl | (go_simp; done)); (intro w' hw'; obtain ⟨hc, hf⟩ := bcell hw'; go_simp; with_reducible rfl); (intro w' hw'; (with_reducible refine (haa _).mono ?_); rintro e w2 ⟨rfl, hb⟩; refine ⟨?_, hw'.trans (hb.mono (by have h0 := hw'.size; simp at h0; omega))⟩; with_reducible rfl); simp only [Act.put, List.setIfInBounds_toArray, List.set_cons_zero, List.set_cons_succ]) | (refine wpQuiet_call (v := ?_) 10 ?_ ?_ ?_ ?_ ?_; rotate_left 2; (first | rfl | (go_simp; done)); (intro w' hw'; obtain ⟨hc, hf⟩ := bcell hw'; go_simp; with_reducible rfl); (intro w' hw'; (with_reducible refine (hab _).mono ?_); rintro e w2 ⟨rfl, hb⟩; refine ⟨?_, hw'.trans (hb.mono (by have h0 := hw'.size; simp at h0; omega))⟩; with_reducible rfl); simp only [Act.put, List.setIfInBounds_toArray, List.set_cons_zero, List.set_cons_succ]) | (refine wpQuiet_call (v := ?_) 10 ?_ ?_ ?_ ?_ ?_; rotate_left 2; (first | rfl | (go_simp; done)); (intro w' hw'; obtain ⟨hc, hf⟩ := bcell hw'; go_simp; with_reducible rfl); (intro w' hw'; (with_reducible refine (hba _).mono ?_); rintro e w2 ⟨rfl, hb⟩; refine ⟨?_, hw'.trans (hb.mono (by have h0 := hw'.size; simp at h0; omega))⟩; with_reducible rfl); simp only [Act.put, List.setIfInBounds_toArray, List.set_cons_zero, List.set_cons_succ]) | (refine wpQuiet_call (v := ?_) 10 ?_ ?_ ?_ ?_ ?_; rotate_left 2; (first | rfl | (go_simp; done)); (intro w' hw'; obtain ⟨hc, hf⟩ := bcell hw'; go_simp; with_reducible rfl); (intro w' hw'; (with_reducible refine (hbc _).mono ?_); rintro e w2 ⟨rfl, hb⟩; refine ⟨?_, hw'.trans (hb.mono (by have h0 := hw'.size; simp at h0; omega))⟩; with_reducible rfl); simp only [Act.put, List.setIfInBounds_toArray, List.set_cons_zero, List.set_cons_succ]) | (refine wpQuiet_call (v := ?_) 10 ?_ ?_ ?_ ?_ ?_; rotate_left 2; (first | rfl | (go_simp; done)); (intro w' hw'; obtain ⟨hc, hf⟩ := bcell hw'; go_simp; with_reducible rfl); (intro w' hw'; (with_reducible refine (hac _).mono ?_); rintro e w2 ⟨rfl, hb⟩; refine ⟨?_, hw'.trans (hb.mono (by have h0 := hw'.size; simp at h0; omega))⟩; with_reducible rfl); simp only [Act.put, List.setIfInBounds_toArray, List.set_cons_zero, List.set_cons_succ]))
      refine wpQuiet_nil ?_
      intro w3 hw3
      have hb3 : Below w.heap.size w w3 := ((((Below.refl _ _).alloc (Nat.le_refl _) _).alloc (by simp) _).alloc (by simp; omega) _).trans (hw3.mono (by omega))
      clear hw3
      go_wp2
      go_ret
      exact ⟨rfl, hb3⟩
    · clear tr tn
      have d2 : decide (z < 0) = false := by simpa using q2
      clear q2
      go_wp2_with fail
      refine wp_region_class (fun w' => Below (w.heap.size + 3) (((w.alloc (.cells #[.int .i64 a.root.one, .int .i64 a.root.cls, .int .i64 a.root.two, .int .i64 a.root.id, .int .i64 a.steps, .int .i64 a.src, .int .i64 a.port, .int .i64 a.at_] 25)).alloc (.cells #[.int .i64 b.root.one, .int .i64 b.root.cls, .int .i64 b.root.two, .int .i64 b.root.id, .int .i64 b.steps, .int .i64 b.src, .int .i64 b.port, .int .i64 b.at_] 25)).alloc (.cells #[.int .i64 c.root.one, .int .i64 c.root.cls, .int .i64 c.root.two, .int .i64 c.root.id, .int .i64 c.steps, .int .i64 c.src, .int .i64 c.port, .int .i64 c.at_] 25)) w') (by kernel_rfl) (by kernel_rfl) HW.out.drew ?_
      repeat (first | (refine wpQuiet_val (v := ?_) ?_ ?_ ?_; rotate_left; (first | rfl | (go_simp; done)); (intro w' hw'; obtain ⟨hc, hf⟩ := bcell hw'; go_simp; with_reducible rfl); simp only [Act.put, List.setIfInBounds_toArray, List.set_cons_zero, List.set_cons_succ]) | (refine wpQuiet_skip ?_ ?_; (first | rfl | (go_simp; done)); simp only [Act.put, List.setIfInBounds_toArray, List.set_cons_zero, List.set_cons_succ]) | (refine wpQuiet_call (v := ?_) 10 ?_ ?_ ?_ ?_ ?_; rotate_left 2; (first | rfl | (go_simp; done)); (intro w' hw'; obtain ⟨hc, hf⟩ := bcell hw'; go_simp; with_reducible rfl); (intro w' hw'; (with_reducible refine (haa _).mono ?_); rintro e w2 ⟨rfl, hb⟩; refine ⟨?_, hw'.trans (hb.mono (by have h0 := hw'.size; simp at h0; omega))⟩; with_reducible rfl); simp only [Act.put, List.setIfInBounds_toArray, List.set_cons_zero, List.set_cons_succ]) | (refine wpQuiet_call (v := ?_) 10 ?_ ?_ ?_ ?_ ?_; rotate_left 2; (first | rfl | (go_simp; done)); (intro w' hw'; obtain ⟨hc, hf⟩ := bcell hw'; go_simp; with_reducible rfl); (intro w' hw'; (with_reducible refine (hab _).mono ?_); rintro e w2 ⟨rfl, hb⟩; refine ⟨?_, hw'.trans (hb.mono (by have h0 := hw'.size; simp at h0; omega))⟩; with_reducible rfl); simp only [Act.put, List.setIfInBounds_toArray, List.set_cons_zero, List.set_cons_succ]) | (refine wpQuiet_call (v := ?_) 10 ?_ ?_ ?_ ?_ ?_; rotate_left 2; (first | rfl | (go_simp; done)); (intro w' hw'; obtain ⟨hc, hf⟩ := bcell hw'; go_simp; with_reducible rfl); (intro w' hw'; (with_reducible refine (hba _).mono ?_); rintro e w2 ⟨rfl, hb⟩; refine ⟨?_, hw'.trans (hb.mono (by have h0 := hw'.size; simp at h0; omega))⟩; with_reducible rfl); simp only [Act.put, List.setIfInBounds_toArray, List.set_cons_zero, List.set_cons_succ]) | (refine wpQuiet_call (v := ?_) 10 ?_ ?_ ?_ ?_ ?_; rotate_left 2; (first | rfl | (go_simp; done)); (intro w' hw'; obtain ⟨hc, hf⟩ := bcell hw'; go_simp; with_reducible rfl); (intro w' hw'; (with_reducible refine (hbc _).mono ?_); rintro e w2 ⟨rfl, hb⟩; refine ⟨?_, hw'.trans (hb.mono (by have h0 := hw'.size; simp at h0; omega))⟩; with_reducible rfl); simp only [Act.put, List.setIfInBounds_toArray, List.set_cons_zero, List.set_cons_succ]) | (refine wpQuiet_call (v := ?_) 10 ?_ ?_ ?_ ?_ ?_; rotate_left 2; (first | rfl | (go_simp; done)); (intro w' hw'; obtain ⟨hc, hf⟩ := bcell hw'; go_simp; with_reducible rfl); (intro w' hw'; (with_reducible refine (hac _).mono ?_); rintro e w2 ⟨rfl, hb⟩; refine ⟨?_, hw'.trans (hb.mono (by have h0 := hw'.size; simp at h0; omega))⟩; with_reducible rfl); simp only [Act.put, List.setIfInBounds_toArray, List.set_cons_zero, List.set_cons_succ]))
      refine wpQuiet_nil ?_
      intro w3 hw3
      have hb3 : Below w.heap.size w w3 := ((((Below.refl _ _).alloc (Nat.le_refl _) _).alloc (by simp) _).alloc (by simp; omega) _).trans (hw3.mono (by omega))
      clear hw3
      go_wp2
      go_ret
      exact ⟨rfl, hb3⟩
  · clear tr tn
    have d2 : decide (x < 0) = false := by simpa using q1
    clear q1
    go_wp2_with fail
    refine wp_region_class (fun w' => Below (w.heap.size + 3) (((w.alloc (.cells #[.int .i64 a.root.one, .int .i64 a.root.cls, .int .i64 a.root.two, .int .i64 a.root.id, .int .i64 a.steps, .int .i64 a.src, .int .i64 a.port, .int .i64 a.at_] 25)).alloc (.cells #[.int .i64 b.root.one, .int .i64 b.root.cls, .int .i64 b.root.two, .int .i64 b.root.id, .int .i64 b.steps, .int .i64 b.src, .int .i64 b.port, .int .i64 b.at_] 25)).alloc (.cells #[.int .i64 c.root.one, .int .i64 c.root.cls, .int .i64 c.root.two, .int .i64 c.root.id, .int .i64 c.steps, .int .i64 c.src, .int .i64 c.port, .int .i64 c.at_] 25)) w') (by kernel_rfl) (by kernel_rfl) HW.out.drew ?_
    repeat (first | (refine wpQuiet_val (v := ?_) ?_ ?_ ?_; rotate_left; (first | rfl | (go_simp; done)); (intro w' hw'; obtain ⟨hc, hf⟩ := bcell hw'; go_simp; with_reducible rfl); simp only [Act.put, List.setIfInBounds_toArray, List.set_cons_zero, List.set_cons_succ]) | (refine wpQuiet_skip ?_ ?_; (first | rfl | (go_simp; done)); simp only [Act.put, List.setIfInBounds_toArray, List.set_cons_zero, List.set_cons_succ]) | (refine wpQuiet_call (v := ?_) 10 ?_ ?_ ?_ ?_ ?_; rotate_left 2; (first | rfl | (go_simp; done)); (intro w' hw'; obtain ⟨hc, hf⟩ := bcell hw'; go_simp; with_reducible rfl); (intro w' hw'; (with_reducible refine (haa _).mono ?_); rintro e w2 ⟨rfl, hb⟩; refine ⟨?_, hw'.trans (hb.mono (by have h0 := hw'.size; simp at h0; omega))⟩; with_reducible rfl); simp only [Act.put, List.setIfInBounds_toArray, List.set_cons_zero, List.set_cons_succ]) | (refine wpQuiet_call (v := ?_) 10 ?_ ?_ ?_ ?_ ?_; rotate_left 2; (first | rfl | (go_simp; done)); (intro w' hw'; obtain ⟨hc, hf⟩ := bcell hw'; go_simp; with_reducible rfl); (intro w' hw'; (with_reducible refine (hab _).mono ?_); rintro e w2 ⟨rfl, hb⟩; refine ⟨?_, hw'.trans (hb.mono (by have h0 := hw'.size; simp at h0; omega))⟩; with_reducible rfl); simp only [Act.put, List.setIfInBounds_toArray, List.set_cons_zero, List.set_cons_succ]) | (refine wpQuiet_call (v := ?_) 10 ?_ ?_ ?_ ?_ ?_; rotate_left 2; (first | rfl | (go_simp; done)); (intro w' hw'; obtain ⟨hc, hf⟩ := bcell hw'; go_simp; with_reducible rfl); (intro w' hw'; (with_reducible refine (hba _).mono ?_); rintro e w2 ⟨rfl, hb⟩; refine ⟨?_, hw'.trans (hb.mono (by have h0 := hw'.size; simp at h0; omega))⟩; with_reducible rfl); simp only [Act.put, List.setIfInBounds_toArray, List.set_cons_zero, List.set_cons_succ]) | (refine wpQuiet_call (v := ?_) 10 ?_ ?_ ?_ ?_ ?_; rotate_left 2; (first | rfl | (go_simp; done)); (intro w' hw'; obtain ⟨hc, hf⟩ := bcell hw'; go_simp; with_reducible rfl); (intro w' hw'; (with_reducible refine (hbc _).mono ?_); rintro e w2 ⟨rfl, hb⟩; refine ⟨?_, hw'.trans (hb.mono (by have h0 := hw'.size; simp at h0; omega))⟩; with_reducible rfl); simp only [Act.put, List.setIfInBounds_toArray, List.set_cons_zero, List.set_cons_succ]) | (refine wpQuiet_call (v := ?_) 10 ?_ ?_ ?_ ?_ ?_; rotate_left 2; (first | rfl | (go_simp; done)); (intro w' hw'; obtain ⟨hc, hf⟩ := bcell hw'; go_simp; with_reducible rfl); (intro w' hw'; (with_reducible refine (hac _).mono ?_); rintro e w2 ⟨rfl, hb⟩; refine ⟨?_, hw'.trans (hb.mono (by have h0 := hw'.size; simp at h0; omega))⟩; with_reducible rfl); simp only [Act.put, List.setIfInBounds_toArray, List.set_cons_zero, List.set_cons_succ]))
    refine wpQuiet_nil ?_
    intro w3 hw3
    have hb3 : Below w.heap.size w w3 := ((((Below.refl _ _).alloc (Nat.le_refl _) _).alloc (by simp) _).alloc (by simp; omega) _).trans (hw3.mono (by omega))
    clear hw3
    go_wp2
    go_ret
    exact ⟨rfl, hb3⟩

/-! ### The row's step -/
theorem open_vec {H : Type} {enc : TypeId × Value → H} {W : World} {v : Value} {d : DataW H} {p : List MemPlace} {b0 : Nat} (hv : Value.okWide Try.prog W .any b0 25 v)
    (h : DataW.Trod enc Try.prog W 0 (fun _ => true) true 25 v d p) : ∃ a : Vc, v = a.val := by
  obtain ⟨cs, rfl, hsz⟩ := okWide_struct Try.underlying25 hv
  obtain ⟨fuel, hf⟩ := h
  have ha := trod_flat (Q := fun _ => True) 5 25 [3, 3, 3, 3, 3, 3, 3, 3] (by kernel_rfl) fuel _ _ (by simpa [Value.cells] using hf) (fun _ _ => trivial)
  obtain ⟨l⟩ := cs
  match l, ha with
  | [c0, c1, c2, c3, c4, c5, c6, c7], ⟨h0, h1, h2, h3, h4, h5, h6, h7, _⟩ =>
    obtain ⟨n0, rfl, _⟩ := h0.int Try.underlying3
    obtain ⟨n1, rfl, _⟩ := h1.int Try.underlying3
    obtain ⟨n2, rfl, _⟩ := h2.int Try.underlying3
    obtain ⟨n3, rfl, _⟩ := h3.int Try.underlying3
    obtain ⟨n4, rfl, _⟩ := h4.int Try.underlying3
    obtain ⟨n5, rfl, _⟩ := h5.int Try.underlying3
    obtain ⟨n6, rfl, _⟩ := h6.int Try.underlying3
    obtain ⟨n7, rfl, _⟩ := h7.int Try.underlying3
    exact ⟨⟨⟨n0, n1, n2, n3⟩, n4, n5, n6, n7⟩, rfl⟩

theorem own : ownKnob Try.prog.godebug = none := by kernel_rfl
theorem laidOut : laidOutB Try.prog = true := by kernel_rfl
set_option maxRecDepth 100000 in
theorem bestOrders_lifted (os : Os) (started : os.Started) (H : Type) (enc : TypeId × Value → H) :
    ReturnsInHanded {} Try.checked os 3 .any (Rows.bestOrdersSpec.pre6 enc Try.prog Try.f3 Rows.bestOrdersRow.domain false) (Rows.bestOrdersSpec.post enc Try.prog Try.f3 false true false false) := by
  refine returnsInHanded_of_change (C := Try.checked) own started (by kernel_rfl) Try.func3
    (ChangeSpec.witness6 (enc := enc) (C := Try.checked) false ⟨#[], #[.agg (Array.replicate 8 (.int .i64 0)), .agg (Array.replicate 8 (.int .i64 0)), .agg (Array.replicate 8 (.int .i64 0))], []⟩ 8 (by kernel_rfl) (by kernel_rfl) (by kernel_rfl) (by kernel_rfl)) ?_
  intro W base args ds gs before hval0 hW _ _
  have hval : ∀ (j : Nat) t v, Try.f3.params[j]? = some t → args[j]? = some v → Value.okWide Try.prog W .any base t v := hval0
  have hW' := hW
  obtain ⟨p, q, hA0, hV, rfl, hfz, hnd⟩ := hW
  have hA : DataW.TrodAll enc Try.prog W 0 (fun _ => true) true Try.f3.params.toList args.toList ds p := hA0
  rw [Try.params3] at hA hval
  obtain ⟨v0, v1, v2, d0, d1, d2, p0, p1, p2, rfl, rfl, rfl, h0, h1, h2⟩ := trodAll_three hA
  obtain ⟨a, rfl⟩ := open_vec (hval 0 25 v0 rfl rfl) h0
  obtain ⟨b, rfl⟩ := open_vec (hval 1 25 v1 rfl rfl) h1
  obtain ⟨c, rfl⟩ := open_vec (hval 2 25 v2 rfl rfl) h2
  exact law_post laidOut (by kernel_rfl) rfl (by kernel_rfl) Try.underlying4 rfl hW' (bestOrders_calls a b c W)

theorem bestOrders_holds : Rows.BestOrdersSaid :=
  OpenClaim.holds_of_wide 3 Try.f3 rfl rfl rfl rfl rfl rfl rfl ⟨rfl, rfl, rfl, rfl, rfl⟩ rfl rfl rfl rfl rfl (by kernel_rfl) Try.func3 (by kernel_rfl)
    (of_decide_eq_true (by kernel_rfl)) (by unfold Func.isWrapper; first | (rw [if_pos (by decide +kernel)]; kernel_rfl) | (rw [if_neg (by decide +kernel)]; exact ⟨rfl, rfl⟩))
    (fun os started H enc _ => bestOrders_lifted os started H enc)
#print axioms bestOrders_holds
end Go.Proofs.Ytklpgdmcijbleaa
