/-
  Layer 17: a link that is measured: mine where it says no; In but for the reckoning.
-/
import Derived.Test.YtbkflmeijjcnhaaPeerAble
namespace Go.Proofs.Ytbkflmeijjcnhaa
set_option linter.unusedSimpArgs false
set_option linter.unusedVariables false
open Go.RowKit Go.WideShapes Go.ChangeShapes
attribute [local go_sem ↓] Go.wp_at_zero Go.wp_at_succ

set_option maxRecDepth 100000 in
set_option maxHeartbeats 4000000 in
theorem mine_no (p : Pe) (g : Nat) (m : Mg) (A : Option Addr) (n cc : Nat) (w : World) (B : PeIn w g p) (h : p.asked = false ∨ p.sent = false) :
    Calls Try.prog 67 #[.pointer (some ⟨g, 0, none⟩), .agg (mcells m A n cc)] w fun e w' => e = .returned (.bool false) ∧ Below w.heap.size w w' := by
  have B0 : PeIn (w.alloc (.cells (mcells m A n cc) 33)) g p := B.alloc _
  have L0 := (Below.refl w.heap.size w).alloc (Nat.le_refl _) (.cells (mcells m A n cc) 33)
  have y7 := B0.cellOf (v := .bool p.asked) 7 rfl
  have y8 := B0.cellOf (v := .bool p.sent) 8 rfl
  clear B B0
  cases ha : p.asked with
  | false =>
    rw [ha] at y7
    clear h ha y8
    go_enter Try.func67, Try.ntmps67
    go_wp2_with fail
    generalize w.alloc (.cells (mcells m A n cc) 33) = w0 at *
    have S0 : w0.drew.cell? ⟨g, 7, none⟩ = some (.bool false) := y7
    refine wp_region_script [(0, true), (1, true), (2, true), (3, true), (4, true), (5, true), (6, true), (7, true), (8, true), (9, true), (10, true), (11, true), (12, true), (13, true), (14, true), (15, true), (16, false), (17, true), (18, true), (19, true), (20, true), (21, true), (22, true), (23, true), (24, true), (25, true), (26, true), (27, true), (28, true), (29, true), (30, true), (31, true), (32, true), (33, true), (34, true), (35, true), (36, true), (37, true), (38, true), (39, true), (40, true), (41, true), (42, true), (43, true), (44, true), (45, true), (46, true), (47, true), (48, true)] (fun w' => w'.cell? ⟨g, 7, none⟩ = some (.bool false)) (by kernel_rfl) (by kernel_rfl) (fun _ _ _ _ _ h => h) S0 ?_
    iterate 9 (refine script_take (v := ?_) rfl ?_ ?_ ?_; rotate_left; (first | rfl | (go_simp; done)); (rintro w' hw';  go_simp; with_reducible rfl); simp only [Act.put, List.setIfInBounds_toArray, List.set_cons_zero, List.set_cons_succ])
    iterate 4 (refine script_skip rfl ?_ ?_; (first | rfl | (go_simp; done)); simp only [Act.put, List.setIfInBounds_toArray, List.set_cons_zero, List.set_cons_succ])
    iterate 2 (refine script_take (v := ?_) rfl ?_ ?_ ?_; rotate_left; (first | rfl | (go_simp; done)); (rintro w' hw';  go_simp; with_reducible rfl); simp only [Act.put, List.setIfInBounds_toArray, List.set_cons_zero, List.set_cons_succ])
    (refine script_skip rfl ?_ ?_; (first | rfl | (go_simp; done)); simp only [Act.put, List.setIfInBounds_toArray, List.set_cons_zero, List.set_cons_succ])
    (refine script_skip' rfl ?_ (S0) ?_; (first | rfl | (go_simp; done)); simp only [Act.put, List.setIfInBounds_toArray, List.set_cons_zero, List.set_cons_succ])
    (refine script_skip rfl ?_ ?_; (first | rfl | (go_simp; done)); simp only [Act.put, List.setIfInBounds_toArray, List.set_cons_zero, List.set_cons_succ])
    iterate 2 (refine script_take (v := ?_) rfl ?_ ?_ ?_; rotate_left; (first | rfl | (go_simp; done)); (rintro w' hw';  go_simp; with_reducible rfl); simp only [Act.put, List.setIfInBounds_toArray, List.set_cons_zero, List.set_cons_succ])
    iterate 7 (refine script_skip rfl ?_ ?_; (first | rfl | (go_simp; done)); simp only [Act.put, List.setIfInBounds_toArray, List.set_cons_zero, List.set_cons_succ])
    iterate 2 (refine script_take (v := ?_) rfl ?_ ?_ ?_; rotate_left; (first | rfl | (go_simp; done)); (rintro w' hw';  go_simp; with_reducible rfl); simp only [Act.put, List.setIfInBounds_toArray, List.set_cons_zero, List.set_cons_succ])
    iterate 8 (refine script_skip rfl ?_ ?_; (first | rfl | (go_simp; done)); simp only [Act.put, List.setIfInBounds_toArray, List.set_cons_zero, List.set_cons_succ])
    iterate 2 (refine script_take (v := ?_) rfl ?_ ?_ ?_; rotate_left; (first | rfl | (go_simp; done)); (rintro w' hw';  go_simp; with_reducible rfl); simp only [Act.put, List.setIfInBounds_toArray, List.set_cons_zero, List.set_cons_succ])
    iterate 8 (refine script_skip rfl ?_ ?_; (first | rfl | (go_simp; done)); simp only [Act.put, List.setIfInBounds_toArray, List.set_cons_zero, List.set_cons_succ])
    iterate 2 (refine script_take (v := ?_) rfl ?_ ?_ ?_; rotate_left; (first | rfl | (go_simp; done)); (rintro w' hw';  go_simp; with_reducible rfl); simp only [Act.put, List.setIfInBounds_toArray, List.set_cons_zero, List.set_cons_succ])
    refine script_nil ?_
    have L1 := L0.drew
    clear y7 S0 L0
    go_wp2_with fail
    go_ret
    exact ⟨rfl, L1⟩
  | true =>
    have hs : p.sent = false := by rcases h with h | h; (rw [ha] at h; cases h); exact h
    rw [ha] at y7
    rw [hs] at y8
    clear h ha hs
    go_enter Try.func67, Try.ntmps67
    go_wp2_with fail
    generalize w.alloc (.cells (mcells m A n cc) 33) = w0 at *
    have S0 : w0.drew.cell? ⟨g, 7, none⟩ = some (.bool true) ∧ w0.drew.cell? ⟨g, 8, none⟩ = some (.bool false) := ⟨y7, y8⟩
    refine wp_region_script [(0, true), (1, true), (2, true), (3, true), (4, true), (5, true), (6, true), (7, true), (8, true), (9, true), (10, true), (11, true), (12, true), (13, true), (14, true), (15, true), (16, false), (17, true), (18, true), (19, true), (20, true), (21, true), (22, true), (23, true), (24, true), (25, true), (26, true), (27, true), (28, true), (29, true), (30, true), (31, true), (32, true), (33, true), (34, true), (35, true), (36, true), (37, true), (38, true), (39, true), (40, true), (41, true), (42, true), (43, true), (44, true), (45, true), (46, true), (47, true), (48, true)] (fun w' => w'.cell? ⟨g, 7, none⟩ = some (.bool true) ∧ w'.cell? ⟨g, 8, none⟩ = some (.bool false)) (by kernel_rfl) (by kernel_rfl) (fun _ _ _ _ _ h => h) S0 ?_
    iterate 15 (refine script_take (v := ?_) rfl ?_ ?_ ?_; rotate_left; (first | rfl | (go_simp; done)); (rintro w' ⟨h7, h8⟩;  go_simp; with_reducible rfl); simp only [Act.put, List.setIfInBounds_toArray, List.set_cons_zero, List.set_cons_succ])
    (refine script_skip rfl ?_ ?_; (first | rfl | (go_simp; done)); simp only [Act.put, List.setIfInBounds_toArray, List.set_cons_zero, List.set_cons_succ])
    (refine script_skip' rfl ?_ (S0) ?_; (first | rfl | (go_simp; done)); simp only [Act.put, List.setIfInBounds_toArray, List.set_cons_zero, List.set_cons_succ])
    (refine script_skip rfl ?_ ?_; (first | rfl | (go_simp; done)); simp only [Act.put, List.setIfInBounds_toArray, List.set_cons_zero, List.set_cons_succ])
    iterate 2 (refine script_take (v := ?_) rfl ?_ ?_ ?_; rotate_left; (first | rfl | (go_simp; done)); (rintro w' hw';  go_simp; with_reducible rfl); simp only [Act.put, List.setIfInBounds_toArray, List.set_cons_zero, List.set_cons_succ])
    iterate 7 (refine script_skip rfl ?_ ?_; (first | rfl | (go_simp; done)); simp only [Act.put, List.setIfInBounds_toArray, List.set_cons_zero, List.set_cons_succ])
    iterate 2 (refine script_take (v := ?_) rfl ?_ ?_ ?_; rotate_left; (first | rfl | (go_simp; done)); (rintro w' hw';  go_simp; with_reducible rfl); simp only [Act.put, List.setIfInBounds_toArray, List.set_cons_zero, List.set_cons_succ])
    iterate 8 (refine script_skip rfl ?_ ?_; (first | rfl | (go_simp; done)); simp only [Act.put, List.setIfInBounds_toArray, List.set_cons_zero, List.set_cons_succ])
    iterate 2 (refine script_take (v := ?_) rfl ?_ ?_ ?_; rotate_left; (first | rfl | (go_simp; done)); (rintro w' hw';  go_simp; with_reducible rfl); simp only [Act.put, List.setIfInBounds_toArray, List.set_cons_zero, List.set_cons_succ])
    iterate 8 (refine script_skip rfl ?_ ?_; (first | rfl | (go_simp; done)); simp only [Act.put, List.setIfInBounds_toArray, List.set_cons_zero, List.set_cons_succ])
    iterate 2 (refine script_take (v := ?_) rfl ?_ ?_ ?_; rotate_left; (first | rfl | (go_simp; done)); (rintro w' hw';  go_simp; with_reducible rfl); simp only [Act.put, List.setIfInBounds_toArray, List.set_cons_zero, List.set_cons_succ])
    refine script_nil ?_
    have L1 := L0.drew
    clear y7 y8 S0 L0
    go_wp2_with fail
    go_ret
    exact ⟨rfl, L1⟩
set_option maxRecDepth 100000 in
set_option maxHeartbeats 2000000 in
theorem in_no (p : Pe) (g : Nat) (m : Mg) (A : Option Addr) (n cc : Nat) (at_ : Int) (w : World) (B : PeIn w g p) (h : p.asked = false ∨ p.sent = false) :
    Calls Try.prog 46 #[.pointer (some ⟨g, 0, none⟩), .agg (mcells m A n cc), .int .i64 at_] w fun e w' => e = .returned (.int .i64 31) ∧ PeIn w' g p ∧ Below w.heap.size w w' := by
  have B0 : PeIn (w.alloc (.cells (mcells m A n cc) 33)) g p := B.alloc _
  have M0 := Blk.new w 33 (mcells m A n cc)
  have L0 := (Below.refl w.heap.size w).alloc (Nat.le_refl _) (.cells (mcells m A n cc) 33)
  have HB := Lib.hid B
  have HM := Lib.hid h
  clear B h
  go_enter Try.func46, Try.ntmps46
  go_wp2_with (refine wpList_load_row_g (by first | rfl | (go_simp; done)) 33 (.tmp 4) rfl w.heap.size rfl 33 (mcells m A n cc) (0, 0) _ M0 Try.underlying33 rfl (by kernel_rfl) ?_)
  refine (mine_no p g m A n cc _ B0 HM.out).mono ?_
  rintro e w1 ⟨rfl, L1⟩
  have L := L0.trans (L1.mono (by simp))
  clear L0 L1 B0 M0
  go_wp2_with fail
  go_ret
  exact ⟨rfl, HB.out.kept L, L⟩
/-- A message that is an answer to the open question. -/
structure Mine (p : Pe) (m : Mg) : Prop where
  asked : p.asked = true
  sent : p.sent = true
  right : checkV m = 0
  seq : m.seq = p.seq
  dest : m.to = p.cf.id
  port : m.toPort = p.cf.port
  bare : m.path = []
theorem Mine.yes {p : Pe} {m : Mg} (h : Mine p m) (g : Nat) (w : World) (B : PeIn w g p) : Calls Try.prog 67 #[.pointer (some ⟨g, 0, none⟩), .agg (mcells m none 0 0)] w fun e w' => e = .returned (.bool true) ∧ Below w.heap.size w w' :=
  mine_yes p g m none 0 0 w B (MsgIn.bare h.bare) h.asked h.sent h.right h.seq h.dest h.port
set_option maxRecDepth 100000 in
set_option maxHeartbeats 4000000 in
theorem in_half (p : Pe) (g : Nat) (m : Mg) (at_ : Int) (w : World) (B : PeIn w g p) (h : Mine p m) (hk : m.kind = 3) (hh : p.half = false) :
    Calls Try.prog 46 #[.pointer (some ⟨g, 0, none⟩), .agg (mcells m none 0 0), .int .i64 at_] w fun e w' => e = .returned (.int .i64 0) ∧ PeIn w' g { p with half := true, t2 := m.time, t4 := at_ } ∧ w.grownBy w' (some g) := by
  have B0 : PeIn (w.alloc (.cells (mcells m none 0 0) 33)) g p := B.alloc _
  have M0 := Blk.new w 33 (mcells m none 0 0)
  have L0 := (Below.refl w.heap.size w).alloc (Nat.le_refl _) (.cells (mcells m none 0 0) 33)
  have hne : g < w.heap.size := B.lt
  have z0 : w.heap.size < (w.alloc (.cells (mcells m none 0 0) 33)).heap.size := by simp
  have HB := Lib.hid B
  have HM := Lib.hid h
  have HK := Lib.hid (And.intro hk hh)
  clear B h hk hh
  go_enter Try.func46, Try.ntmps46
  go_wp2_with (refine wpList_load_row_g (by first | rfl | (go_simp; done)) 33 (.tmp 4) rfl w.heap.size rfl 33 (mcells m none 0 0) (0, 0) _ M0 Try.underlying33 rfl (by kernel_rfl) ?_)
  refine (HM.out.yes g _ B0).mono ?_
  rintro e w1 ⟨rfl, L1⟩
  obtain ⟨mb, hmb⟩ : ∃ mb, mb = w.heap.size := ⟨_, rfl⟩
  have M1 := M0.below L1 z0
  have L := L0.trans (L1.mono (by simp))
  have B1 := HB.out.kept L
  have G1 := gr_below L (some g)
  rw [← hmb] at M1 hne
  simp only [← hmb]
  have x0 := M1.cellOf (v := .int .i64 3) 0 (by rw [← HK.out.1]; rfl)
  have x6 := M1.cellOf (v := .int .i64 m.time) 6 rfl
  have y10 := B1.cellOf (v := .bool false) 10 (by rw [← HK.out.2]; rfl)
  clear M0 L0 L1 L B0 HB z0 hmb HM HK
  go_wp2_with fail
  have S0 : w1.drew.cell? ⟨mb, 6, none⟩ = some (.int .i64 m.time) := x6
  have y10' := B1.cellOf (v := .bool p.half) 10 rfl
  have y11 := B1.cellOf (v := .int .i64 p.t2) 11 rfl
  have y12 := B1.cellOf (v := .int .i64 p.t4) 12 rfl
  have fz := B1.frozen
  have S1 : (w1.drew.setCell ⟨g, 10, none⟩ (.bool true)).cell? ⟨mb, 6, none⟩ = some (.int .i64 m.time) := (World.cell?_setCell_other _ _ _ _ (by intro e; injection e with e; omega)).trans S0
  have S2 : ((w1.drew.setCell ⟨g, 10, none⟩ (.bool true)).setCell ⟨g, 11, none⟩ (.int .i64 m.time)).cell? ⟨mb, 6, none⟩ = some (.int .i64 m.time) := (World.cell?_setCell_other _ _ _ _ (by intro e; injection e with e; omega)).trans S1
  have S3 : (((w1.drew.setCell ⟨g, 10, none⟩ (.bool true)).setCell ⟨g, 11, none⟩ (.int .i64 m.time)).setCell ⟨g, 12, none⟩ (.int .i64 at_)).cell? ⟨mb, 6, none⟩ = some (.int .i64 m.time) := (World.cell?_setCell_other _ _ _ _ (by intro e; injection e with e; omega)).trans S2
  have B3 : PeIn (((w1.drew.setCell ⟨g, 10, none⟩ (.bool true)).setCell ⟨g, 11, none⟩ (.int .i64 m.time)).setCell ⟨g, 12, none⟩ (.int .i64 at_)) g { p with half := true, t2 := m.time, t4 := at_ } := ((B1.drew.set_ 10 (.bool true)).set_ 11 (.int .i64 m.time)).set_ 12 (.int .i64 at_)
  have G3 := gr_set (gr_set (gr_set (gr_drew G1) 10 (.bool true)) 11 (.int .i64 m.time)) 12 (.int .i64 at_)
  have HB3 := Lib.hid (And.intro B3 G3)
  have HS := Lib.hid (And.intro S1 (And.intro S2 S3))
  clear B3 G3 B1 G1 M1 S1 S2 S3 x0 y10
  refine wp_region_script [(0, true), (1, true), (2, true), (3, true), (4, true), (5, true), (6, true), (7, true), (8, false), (9, true), (10, true), (11, false), (12, true), (13, true), (14, false)] (fun w' => w'.cell? ⟨mb, 6, none⟩ = some (.int .i64 m.time)) (by kernel_rfl) (by kernel_rfl) (fun _ _ _ _ _ h => h) S0 ?_
  iterate 8 (refine script_take (v := ?_) rfl ?_ ?_ ?_; rotate_left; (first | rfl | (go_simp; done)); (rintro w' hw';  go_simp; with_reducible rfl); simp only [Act.put, List.setIfInBounds_toArray, List.set_cons_zero, List.set_cons_succ])
  (refine script_run0 (w' := ?_) rfl ?_ ?_ ?_ ?_; rotate_left; (first | rfl | (go_simp; done)); (go_simp; with_reducible rfl); (exact HS.out.1); simp only [Act.put, List.setIfInBounds_toArray, List.set_cons_zero, List.set_cons_succ])
  iterate 2 (refine script_take (v := ?_) rfl ?_ ?_ ?_; rotate_left; (first | rfl | (go_simp; done)); (rintro w' hw';  go_simp; with_reducible rfl); simp only [Act.put, List.setIfInBounds_toArray, List.set_cons_zero, List.set_cons_succ])
  (refine script_run0 (w' := ?_) rfl ?_ ?_ ?_ ?_; rotate_left; (first | rfl | (go_simp; done)); (go_simp; with_reducible rfl); (exact HS.out.2.1); simp only [Act.put, List.setIfInBounds_toArray, List.set_cons_zero, List.set_cons_succ])
  iterate 2 (refine script_take (v := ?_) rfl ?_ ?_ ?_; rotate_left; (first | rfl | (go_simp; done)); (rintro w' hw';  go_simp; with_reducible rfl); simp only [Act.put, List.setIfInBounds_toArray, List.set_cons_zero, List.set_cons_succ])
  (refine script_run0 (w' := ?_) rfl ?_ ?_ ?_ ?_; rotate_left; (first | rfl | (go_simp; done)); (go_simp; with_reducible rfl); (exact HS.out.2.2); simp only [Act.put, List.setIfInBounds_toArray, List.set_cons_zero, List.set_cons_succ])
  refine script_nil ?_
  clear S0 x6 y10' y11 y12 fz HS
  go_wp2_with fail
  go_ret
  exact ⟨rfl, HB3.out.1, HB3.out.2⟩
set_option maxRecDepth 100000 in
set_option maxHeartbeats 4000000 in
/-- A half that is out of order. -/
theorem in_order (p : Pe) (g : Nat) (m : Mg) (at_ : Int) (w : World) (B : PeIn w g p) (h : Mine p m) (hk : m.kind = 3 ∧ p.half = true ∨ m.kind = 10 ∧ p.half = false) :
    Calls Try.prog 46 #[.pointer (some ⟨g, 0, none⟩), .agg (mcells m none 0 0), .int .i64 at_] w fun e w' => e = .returned (.int .i64 31) ∧ PeIn w' g p ∧ Below w.heap.size w w' := by
  have B0 : PeIn (w.alloc (.cells (mcells m none 0 0) 33)) g p := B.alloc _
  have M0 := Blk.new w 33 (mcells m none 0 0)
  have L0 := (Below.refl w.heap.size w).alloc (Nat.le_refl _) (.cells (mcells m none 0 0) 33)
  have z0 : w.heap.size < (w.alloc (.cells (mcells m none 0 0) 33)).heap.size := by simp
  have HB := Lib.hid B
  have HM := Lib.hid h
  have HK := Lib.hid hk
  clear B h hk
  go_enter Try.func46, Try.ntmps46
  go_wp2_with (refine wpList_load_row_g (by first | rfl | (go_simp; done)) 33 (.tmp 4) rfl w.heap.size rfl 33 (mcells m none 0 0) (0, 0) _ M0 Try.underlying33 rfl (by kernel_rfl) ?_)
  refine (HM.out.yes g _ B0).mono ?_
  rintro e w1 ⟨rfl, L1⟩
  have M1 := M0.below L1 z0
  have L := L0.trans (L1.mono (by simp))
  have B1 := HB.out.kept L
  clear M0 L0 L1 B0 z0
  rcases HK.out with ⟨hk, hh⟩ | ⟨hk, hh⟩
  · have x0 := M1.cellOf (v := .int .i64 3) 0 (by rw [← hk]; rfl)
    have y10 := B1.cellOf (v := .bool true) 10 (by rw [← hh]; rfl)
    clear hk hh HK HM M1
    go_wp2_with fail
    go_ret
    exact ⟨rfl, B1, L⟩
  · have x0 := M1.cellOf (v := .int .i64 10) 0 (by rw [← hk]; rfl)
    have y10 := B1.cellOf (v := .bool false) 10 (by rw [← hh]; rfl)
    clear hk hh HK HM M1
    go_wp2_with fail
    go_ret
    exact ⟨rfl, B1, L⟩
end Go.Proofs.Ytbkflmeijjcnhaa
