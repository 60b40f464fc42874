/-
  Layer 21: two domains' clocks: what New, right, Sync, Follow, Fresh, Pick give.
-/
import Derived.Test.YtjjpmckefglhnaaSyncH
namespace Go.Proofs.Ytjjpmckefglhnaa
set_option linter.unusedSimpArgs false
set_option linter.unusedVariables false
open Go.RowKit Go.WideShapes Go.ChangeShapes
attribute [local go_sem ↓] Go.wp_at_zero Go.wp_at_succ

structure Pr where
  most : Int
  root0 : Bool
  root1 : Bool
  last : Int
  c0 : Ck
  c1 : Ck
def prc (p : Pr) (g0 g1 : Nat) : Array Value := #[.int .i64 p.most, .pointer (some ⟨g0, 0, none⟩), .pointer (some ⟨g1, 0, none⟩), .bool p.root0, .bool p.root1, .int .i64 p.last]
structure PrIn (w : World) (gp g0 g1 : Nat) (p : Pr) : Prop where
  box : Blk w gp 62 (prc p g0 g1)
  k0 : CkIn w g0 p.c0
  k1 : CkIn w g1 p.c1
  n01 : g0 ≠ g1
  np0 : gp ≠ g0
  np1 : gp ≠ g1
structure Pr.Wf (p : Pr) : Prop where
  w0 : p.c0.Wf
  w1 : p.c1.Wf
/-- Only three blocks have turned, and there are new ones. -/
structure Fr3 (w w' : World) (gp g0 g1 : Nat) : Prop where
  os : w'.os = w.os
  tape : w'.tape = w.tape
  output : w'.output = w.output
  size : w.heap.size ≤ w'.heap.size
  block : ∀ k, k < w.heap.size → k ≠ gp → k ≠ g0 → k ≠ g1 → w'.heap[k]? = w.heap[k]?
section
variable {w w' w'' : World} {gp g0 g1 : Nat} {p : Pr}
theorem Fr3.refl (w : World) (gp g0 g1 : Nat) : Fr3 w w gp g0 g1 := ⟨rfl, rfl, rfl, Nat.le_refl _, fun _ _ _ _ _ => rfl⟩
theorem Fr3.trans (h : Fr3 w w' gp g0 g1) (h' : Fr3 w' w'' gp g0 g1) : Fr3 w w'' gp g0 g1 :=
  ⟨h'.os.trans h.os, h'.tape.trans h.tape, h'.output.trans h.output, Nat.le_trans h.size h'.size, fun k hk a b c => (h'.block k (by have := h.size; omega) a b c).trans (h.block k hk a b c)⟩
theorem Fr3.gr (h : Fr3 w w' gp g0 g1) {g : Nat} (h' : w'.grownBy w'' (some g)) (hg : g = gp ∨ g = g0 ∨ g = g1) : Fr3 w w'' gp g0 g1 :=
  ⟨h'.os.trans h.os, h'.tape.trans h.tape, h'.output.trans h.output, Nat.le_trans h.size h'.size, fun k hk a b c => (h'.block k (by have := h.size; omega) (by simp; omega)).trans (h.block k hk a b c)⟩
theorem Fr3.be (h : Fr3 w w' gp g0 g1) (h' : Below w'.heap.size w' w'') : Fr3 w w'' gp g0 g1 :=
  ⟨h'.os.trans h.os, h'.tape.trans h.tape, h'.output.trans h.output, Nat.le_trans h.size h'.size, fun k hk a b c => (h'.block k (by have := h.size; omega)).trans (h.block k hk a b c)⟩
theorem Fr3.below (h : Fr3 w w' gp g0 g1) {B : Nat} (hB : B ≤ w.heap.size) (hp : B ≤ gp) (h0 : B ≤ g0) (h1 : B ≤ g1) : Below B w w' :=
  ⟨h.os, h.tape, h.output, h.size, fun k hk => h.block k (by omega) (by omega) (by omega) (by omega)⟩
theorem Fr3.keep (h : Fr3 w w' gp g0 g1) {g : Nat} {t : TypeId} {cs : Array Value} (B : Blk w g t cs) (hp : g ≠ gp) (h0 : g ≠ g0) (h1 : g ≠ g1) : Blk w' g t cs := (h.block g B.lt hp h0 h1).trans B
theorem PrIn.kept (h : PrIn w gp g0 g1 p) (hb : Below w.heap.size w w') : PrIn w' gp g0 g1 p := ⟨h.box.kept hb, h.k0.kept hb, h.k1.kept hb, h.n01, h.np0, h.np1⟩
theorem PrIn.set0 (h : PrIn w gp g0 g1 p) {c : Ck} (k : CkIn w' g0 c) (hg : w.grownBy w' (some g0)) : PrIn w' gp g0 g1 { p with c0 := c } := ⟨h.box.keep hg h.np0, k, h.k1.keep hg h.n01.symm, h.n01, h.np0, h.np1⟩
theorem PrIn.set1 (h : PrIn w gp g0 g1 p) {c : Ck} (k : CkIn w' g1 c) (hg : w.grownBy w' (some g1)) : PrIn w' gp g0 g1 { p with c1 := c } := ⟨h.box.keep hg h.np1, h.k0.keep hg h.n01, k, h.n01, h.np0, h.np1⟩
theorem PrIn.lasts (h : PrIn w gp g0 g1 p) (d : Int) : PrIn (w.setCell ⟨gp, 5, none⟩ (.int .i64 d)) gp g0 g1 { p with last := d } := ⟨h.box.set_ 5 _, h.k0.far (p := ⟨gp, 5, none⟩) h.np0.symm _, h.k1.far (p := ⟨gp, 5, none⟩) h.np1.symm _, h.n01, h.np0, h.np1⟩
end
theorem pright_in (g : Nat) (d : Int) (hd : 0 ≤ d ∧ d < 2) (w : World) : Calls Try.prog 28 #[.pointer (some ⟨g, 0, none⟩), .int .i64 d] w fun e w' => e = .returned (.bool true) ∧ w = w' := by
  have d0 : decide (0 ≤ d) = true := by simpa using hd.1
  have d1 : decide (d < 2) = true := by simpa using hd.2
  clear hd
  go_enter Try.func28, Try.ntmps28
  go_wp2_with fail
  go_ret
  exact ⟨rfl, rfl⟩
theorem pright_out (g : Nat) (d : Int) (hd : ¬ (0 ≤ d ∧ d < 2)) (w : World) : Calls Try.prog 28 #[.pointer (some ⟨g, 0, none⟩), .int .i64 d] w fun e w' => e = .returned (.bool false) ∧ w = w' := by
  by_cases h : 0 ≤ d
  · have d0 : decide (0 ≤ d) = true := by simpa using h
    have d1 : decide (d < 2) = false := by simp; omega
    clear hd h
    go_enter Try.func28, Try.ntmps28
    go_wp2_with fail
    go_ret
    exact ⟨rfl, rfl⟩
  · have d0 : decide (0 ≤ d) = false := by simpa using h
    clear hd h
    go_enter Try.func28, Try.ntmps28
    go_wp2_with fail
    go_ret
    exact ⟨rfl, rfl⟩
def prNew (most : Int) : Pr := ⟨most, false, false, -1, ckNew 0, ckNew 1⟩
set_option maxHeartbeats 1000000 in
theorem pnew_any (most : Int) (hm : 1 ≤ most) (w : World) : Calls Try.prog 8 #[.int .i64 most] w fun e w' => ∃ gp g0 g1, e = .returned (.tuple #[.pointer (some ⟨gp, 0, none⟩), .int .i64 0]) ∧ PrIn w' gp g0 g1 (prNew most) ∧ w.heap.size ≤ gp ∧ w.heap.size ≤ g0 ∧ w.heap.size ≤ g1 ∧ Below w.heap.size w w' := by
  have d0 : decide (most < 1) = false := by simp; omega
  clear hm
  go_enter Try.func8, Try.ntmps8
  go_wp2_with fail
  refine (new_run 0 w).mono ?_
  rintro e w1 ⟨rfl, K0, z1, L1⟩
  go_wp2_with fail
  refine (new_run 1 w1).mono ?_
  rintro e w2 ⟨rfl, K1, z2, L2⟩
  have K0' := K0.kept L2
  have L3 := (L1.trans (L2.mono (by omega))).alloc (by omega) (.cells (prc (prNew most) w.heap.size w1.heap.size) 62)
  have P : PrIn (w2.alloc (.cells (prc (prNew most) w.heap.size w1.heap.size) 62)) w2.heap.size w.heap.size w1.heap.size (prNew most) := ⟨Blk.new _ _ _, K0'.alloc _, K1.alloc _, by omega, by omega, by omega⟩
  have z3 : w.heap.size ≤ w2.heap.size := by omega
  clear K0 K1 K0' L1 L2
  go_wp2_with fail
  go_ret2
  exact ⟨_, _, _, rfl, P, z3, Nat.le_refl _, by omega, L3⟩

/-! ### Sync and Follow of a domain -/
noncomputable def pSync (p : Pr) (m : Mg) (at_ : Int) : Int × Pr :=
  if m.domain = 0 then ((syncV p.c0 m at_).1, { p with c0 := (syncV p.c0 m at_).2 })
  else if m.domain = 1 then ((syncV p.c1 m at_).1, { p with c1 := (syncV p.c1 m at_).2 })
  else (31, p)
set_option maxRecDepth 100000 in
set_option maxHeartbeats 4000000 in
theorem psync_any (p : Pr) (gp g0 g1 : Nat) (m : Mg) (A : Option Addr) (n cc : Nat) (at_ : Int) (w : World) (P : PrIn w gp g0 g1 p) (hm : MsgIn w w.heap.size m A n) :
    Calls Try.prog 15 #[.pointer (some ⟨gp, 0, none⟩), .agg (mcells m A n cc), .int .i64 at_] w fun e w' => e = .returned (.int .i64 (pSync p m at_).1) ∧ PrIn w' gp g0 g1 (pSync p m at_).2 ∧ Fr3 w w' gp g0 g1 := by
  have P0 : PrIn (w.alloc (.cells (mcells m A n cc) 35)) gp g0 g1 p := P.kept ((Below.refl _ _).alloc (Nat.le_refl _) _)
  have M0 := Blk.new w 35 (mcells m A n cc)
  have F0 : Fr3 w (w.alloc (.cells (mcells m A n cc) 35)) gp g0 g1 := (Fr3.refl w gp g0 g1).be ((Below.refl _ _).alloc (Nat.le_refl _) _)
  have hm0 : MsgIn (w.alloc (.cells (mcells m A n cc) 35)) (w.alloc (.cells (mcells m A n cc) 35)).heap.size m A n := ⟨(hm.reads.alloc (Nat.le_refl _) _).more (by simp), hm.len, hm.most⟩
  have s0 : w.heap.size < (w.alloc (.cells (mcells m A n cc) 35)).heap.size := by simp
  have sp := P0.box.lt
  have x1 := M0.cellOf (v := .int .i64 m.domain) 1 rfl
  have y1 := P0.box.cellOf (v := .pointer (some ⟨g0, 0, none⟩)) 1 rfl
  have y2 := P0.box.cellOf (v := .pointer (some ⟨g1, 0, none⟩)) 2 rfl
  clear P hm
  by_cases h0 : m.domain = 0
  · have hV : pSync p m at_ = ((syncV p.c0 m at_).1, { p with c0 := (syncV p.c0 m at_).2 }) := by unfold pSync; rw [if_pos h0]
    rw [hV]
    rw [h0] at x1
    clear hV h0
    go_enter Try.func15, Try.ntmps15
    go_wp2_with fail
    generalize w.alloc (.cells (mcells m A n cc) 35) = w0 at *
    refine (pright_in _ _ (by omega) _).mono ?_
    rintro e w1 ⟨rfl, rfl⟩
    go_wp2_with fail
    refine wp_region_class_tail 9 (fun w' => Below w0.heap.size w0 w') (by kernel_rfl) (by kernel_rfl) (Below.refl _ _).drew ?_; simp only [List.take_succ_cons, List.take_zero, List.drop_succ_cons, List.drop_zero]
    repeat (first | (refine wpQuiet_val (v := .agg (mcells m A n cc)) ?_ (fun w' hw' => run_load_whole 35 (.tmp 4) rfl rfl (M0.below hw' s0) Try.underlying35 rfl (by kernel_rfl)) ?_; (first | rfl | (go_simp; done)); simp only [Act.put, List.setIfInBounds_toArray, List.set_cons_zero, List.set_cons_succ]) | (refine wpQuiet_val (v := ?_) ?_ ?_ ?_; rotate_left; rfl; (intro w' hw'; obtain ⟨hc, hf⟩ := bcell hw'; go_simp; with_reducible rfl); simp only [Act.put, List.setIfInBounds_toArray, List.set_cons_zero, List.set_cons_succ]))
    refine wpQuiet_nil ?_
    intro w4 hw4
    have P4 := P0.kept hw4
    have F4 := F0.be hw4
    have hm4 := (hm0.below hw4).more hw4.size
    clear hw4 P0 M0 F0 hm0 x1 y1 y2 s0 sp
    go_wp2_with fail
    refine (sync_any p.c0 g0 m A n cc at_ w4 P4.k0 hm4).mono ?_
    rintro e w5 ⟨rfl, K5, G5⟩
    go_wp2_with fail
    go_ret
    exact ⟨rfl, P4.set0 K5 G5, F4.gr G5 (by omega)⟩
  · by_cases h1 : m.domain = 1
    · have hV : pSync p m at_ = ((syncV p.c1 m at_).1, { p with c1 := (syncV p.c1 m at_).2 }) := by unfold pSync; rw [if_neg h0, if_pos h1]
      rw [hV]
      rw [h1] at x1
      clear hV h1 h0
      go_enter Try.func15, Try.ntmps15
      go_wp2_with fail
      generalize w.alloc (.cells (mcells m A n cc) 35) = w0 at *
      refine (pright_in _ _ (by omega) _).mono ?_
      rintro e w1 ⟨rfl, rfl⟩
      go_wp2_with fail
      refine wp_region_class_tail 9 (fun w' => Below w0.heap.size w0 w') (by kernel_rfl) (by kernel_rfl) (Below.refl _ _).drew ?_; simp only [List.take_succ_cons, List.take_zero, List.drop_succ_cons, List.drop_zero]
      repeat (first | (refine wpQuiet_val (v := .agg (mcells m A n cc)) ?_ (fun w' hw' => run_load_whole 35 (.tmp 4) rfl rfl (M0.below hw' s0) Try.underlying35 rfl (by kernel_rfl)) ?_; (first | rfl | (go_simp; done)); simp only [Act.put, List.setIfInBounds_toArray, List.set_cons_zero, List.set_cons_succ]) | (refine wpQuiet_val (v := ?_) ?_ ?_ ?_; rotate_left; rfl; (intro w' hw'; obtain ⟨hc, hf⟩ := bcell hw'; go_simp; with_reducible rfl); simp only [Act.put, List.setIfInBounds_toArray, List.set_cons_zero, List.set_cons_succ]))
      refine wpQuiet_nil ?_
      intro w4 hw4
      have P4 := P0.kept hw4
      have F4 := F0.be hw4
      have hm4 := (hm0.below hw4).more hw4.size
      clear hw4 P0 M0 F0 hm0 x1 y1 y2 s0 sp
      go_wp2_with fail
      refine (sync_any p.c1 g1 m A n cc at_ w4 P4.k1 hm4).mono ?_
      rintro e w5 ⟨rfl, K5, G5⟩
      go_wp2_with fail
      go_ret
      exact ⟨rfl, P4.set1 K5 G5, F4.gr G5 (by omega)⟩
    · have hV : pSync p m at_ = (31, p) := by unfold pSync; rw [if_neg h0, if_neg h1]
      rw [hV]
      have hno : ¬ (0 ≤ m.domain ∧ m.domain < 2) := by omega
      clear hV h0 h1
      go_enter Try.func15, Try.ntmps15
      go_wp2_with fail
      generalize w.alloc (.cells (mcells m A n cc) 35) = w0 at *
      refine (pright_out _ _ hno _).mono ?_
      rintro e w1 ⟨rfl, rfl⟩
      go_wp2_with fail
      go_ret
      exact ⟨rfl, P0, F0⟩
noncomputable def pFollow (p : Pr) (m : Mg) (delay ratio : Int) : Int × Pr :=
  if m.domain = 0 then ((follV p.c0 m delay ratio).1, { p with c0 := (follV p.c0 m delay ratio).2 })
  else if m.domain = 1 then ((follV p.c1 m delay ratio).1, { p with c1 := (follV p.c1 m delay ratio).2 })
  else (31, p)
set_option maxRecDepth 100000 in
set_option maxHeartbeats 4000000 in
theorem pfollow_any (p : Pr) (gp g0 g1 : Nat) (m : Mg) (A : Option Addr) (n cc : Nat) (delay ratio : Int) (w : World) (P : PrIn w gp g0 g1 p) (hm : MsgIn w w.heap.size m A n) (hw : m.Wf) (hd : I64 delay) (hr : I64 ratio) :
    Calls Try.prog 16 #[.pointer (some ⟨gp, 0, none⟩), .agg (mcells m A n cc), .int .i64 delay, .int .i64 ratio] w fun e w' => e = .returned (.int .i64 (pFollow p m delay ratio).1) ∧ PrIn w' gp g0 g1 (pFollow p m delay ratio).2 ∧ Fr3 w w' gp g0 g1 := by
  have P0 : PrIn (w.alloc (.cells (mcells m A n cc) 35)) gp g0 g1 p := P.kept ((Below.refl _ _).alloc (Nat.le_refl _) _)
  have M0 := Blk.new w 35 (mcells m A n cc)
  have F0 : Fr3 w (w.alloc (.cells (mcells m A n cc) 35)) gp g0 g1 := (Fr3.refl w gp g0 g1).be ((Below.refl _ _).alloc (Nat.le_refl _) _)
  have hm0 : MsgIn (w.alloc (.cells (mcells m A n cc) 35)) (w.alloc (.cells (mcells m A n cc) 35)).heap.size m A n := ⟨(hm.reads.alloc (Nat.le_refl _) _).more (by simp), hm.len, hm.most⟩
  have s0 : w.heap.size < (w.alloc (.cells (mcells m A n cc) 35)).heap.size := by simp
  have sp := P0.box.lt
  have x1 := M0.cellOf (v := .int .i64 m.domain) 1 rfl
  have y1 := P0.box.cellOf (v := .pointer (some ⟨g0, 0, none⟩)) 1 rfl
  have y2 := P0.box.cellOf (v := .pointer (some ⟨g1, 0, none⟩)) 2 rfl
  clear P hm
  by_cases h0 : m.domain = 0
  · have hV : pFollow p m delay ratio = ((follV p.c0 m delay ratio).1, { p with c0 := (follV p.c0 m delay ratio).2 }) := by unfold pFollow; rw [if_pos h0]
    rw [hV]
    rw [h0] at x1
    clear hV h0
    go_enter Try.func16, Try.ntmps16
    go_wp2_with fail
    generalize w.alloc (.cells (mcells m A n cc) 35) = w0 at *
    refine (pright_in _ _ (by omega) _).mono ?_
    rintro e w1 ⟨rfl, rfl⟩
    go_wp2_with fail
    refine wp_region_class_tail 10 (fun w' => Below w0.heap.size w0 w') (by kernel_rfl) (by kernel_rfl) (Below.refl _ _).drew ?_; simp only [List.take_succ_cons, List.take_zero, List.drop_succ_cons, List.drop_zero]
    repeat (first | (refine wpQuiet_val (v := .agg (mcells m A n cc)) ?_ (fun w' hw' => run_load_whole 35 (.tmp 5) rfl rfl (M0.below hw' s0) Try.underlying35 rfl (by kernel_rfl)) ?_; (first | rfl | (go_simp; done)); simp only [Act.put, List.setIfInBounds_toArray, List.set_cons_zero, List.set_cons_succ]) | (refine wpQuiet_val (v := ?_) ?_ ?_ ?_; rotate_left; rfl; (intro w' hw'; obtain ⟨hc, hf⟩ := bcell hw'; go_simp; with_reducible rfl); simp only [Act.put, List.setIfInBounds_toArray, List.set_cons_zero, List.set_cons_succ]))
    refine wpQuiet_nil ?_
    intro w4 hw4
    have P4 := P0.kept hw4
    have F4 := F0.be hw4
    have hm4 := (hm0.below hw4).more hw4.size
    clear hw4 P0 M0 F0 hm0 x1 y1 y2 s0 sp
    go_wp2_with fail
    refine (follow_any p.c0 g0 m A n cc delay ratio w4 P4.k0 hm4 hw hd hr).mono ?_
    rintro e w5 ⟨rfl, K5, G5⟩
    go_wp2_with fail
    go_ret
    exact ⟨rfl, P4.set0 K5 G5, F4.gr G5 (by omega)⟩
  · by_cases h1 : m.domain = 1
    · have hV : pFollow p m delay ratio = ((follV p.c1 m delay ratio).1, { p with c1 := (follV p.c1 m delay ratio).2 }) := by unfold pFollow; rw [if_neg h0, if_pos h1]
      rw [hV]
      rw [h1] at x1
      clear hV h1 h0
      go_enter Try.func16, Try.ntmps16
      go_wp2_with fail
      generalize w.alloc (.cells (mcells m A n cc) 35) = w0 at *
      refine (pright_in _ _ (by omega) _).mono ?_
      rintro e w1 ⟨rfl, rfl⟩
      go_wp2_with fail
      refine wp_region_class_tail 10 (fun w' => Below w0.heap.size w0 w') (by kernel_rfl) (by kernel_rfl) (Below.refl _ _).drew ?_; simp only [List.take_succ_cons, List.take_zero, List.drop_succ_cons, List.drop_zero]
      repeat (first | (refine wpQuiet_val (v := .agg (mcells m A n cc)) ?_ (fun w' hw' => run_load_whole 35 (.tmp 5) rfl rfl (M0.below hw' s0) Try.underlying35 rfl (by kernel_rfl)) ?_; (first | rfl | (go_simp; done)); simp only [Act.put, List.setIfInBounds_toArray, List.set_cons_zero, List.set_cons_succ]) | (refine wpQuiet_val (v := ?_) ?_ ?_ ?_; rotate_left; rfl; (intro w' hw'; obtain ⟨hc, hf⟩ := bcell hw'; go_simp; with_reducible rfl); simp only [Act.put, List.setIfInBounds_toArray, List.set_cons_zero, List.set_cons_succ]))
      refine wpQuiet_nil ?_
      intro w4 hw4
      have P4 := P0.kept hw4
      have F4 := F0.be hw4
      have hm4 := (hm0.below hw4).more hw4.size
      clear hw4 P0 M0 F0 hm0 x1 y1 y2 s0 sp
      go_wp2_with fail
      refine (follow_any p.c1 g1 m A n cc delay ratio w4 P4.k1 hm4 hw hd hr).mono ?_
      rintro e w5 ⟨rfl, K5, G5⟩
      go_wp2_with fail
      go_ret
      exact ⟨rfl, P4.set1 K5 G5, F4.gr G5 (by omega)⟩
    · have hV : pFollow p m delay ratio = (31, p) := by unfold pFollow; rw [if_neg h0, if_neg h1]
      rw [hV]
      have hno : ¬ (0 ≤ m.domain ∧ m.domain < 2) := by omega
      clear hV h0 h1
      go_enter Try.func16, Try.ntmps16
      go_wp2_with fail
      generalize w.alloc (.cells (mcells m A n cc) 35) = w0 at *
      refine (pright_out _ _ hno _).mono ?_
      rintro e w1 ⟨rfl, rfl⟩
      go_wp2_with fail
      go_ret
      exact ⟨rfl, P0, F0⟩
end Go.Proofs.Ytjjpmckefglhnaa
