/-
  ether: an address of a number.
-/
import Derived.Test.YthhlfojaloaooaaGreatRows
import Derived.Test.YthhlfojaloaooaaGreatHnIZ
import Derived.WalkKit
import Derived.ProofKit
import Derived.OpenShut
import Derived.LoopTactic
import Derived.WalkLawsBesides
import Derived.WalkSpells
import Derived.Outline
import Derived.Lib.Hide
import Derived.Deep.DrawnRows
import Derived.Laws.CopyOwn
import Derived.MapKept
namespace Go.Proofs.YthhlfojaloaooaaGreat
set_option linter.unusedSimpArgs false
set_option linter.unusedVariables false
open Go.RowKit Go.WideShapes Go.ChangeShapes
attribute [local go_sem ↓] Go.wp_at_zero Go.wp_at_succ

def ofc (id : Int) (j : Nat) : Array Value := if j = 0 then #[.int .u8 0, .int .u8 0, .int .u8 0, .int .u8 0, .int .u8 0, .int .u8 0] else #[.int .u8 0, .int .u8 0, .int .u8 0, .int .u8 0, .int .u8 0, .int .u8 id]
set_option maxRecDepth 100000 in
set_option maxHeartbeats 4000000 in
theorem of_any (id : Int) (hid : 0 ≤ id ∧ id ≤ 255) (w : World) : Calls Tryz.prog 12 #[.int .i64 id] w fun e w' => e = .returned (.agg #[.int .u8 0, .int .u8 0, .int .u8 0, .int .u8 0, .int .u8 0, .int .u8 id]) ∧ Below w.heap.size w w' := by
  have z1 : id / 256 = 0 := by omega
  have z2 : id / 65536 = 0 := by omega
  have z3 : id / 16777216 = 0 := by omega
  have z4 : id / 4294967296 = 0 := by omega
  have z5 : id / 1099511627776 = 0 := by omega
  have u8 : IntKind.u8.wrap id = id := by unfold IntKind.wrap; simp [IntKind.bits, IntKind.signed]; omega
  refine calls_sm (N := 18) Tryz.func12 rfl (by kernel_rfl) ?_
  intro a hs hd ha
  have e0 : a.tmps[0]? = some (.int .i64 id) := ha 0 _ rfl
  clear ha
  conv => arg 2; whnf
  refine wp_seq_k fun Kq1 hKq1 => ?_
  refine sm_list [] 2 1 hs hd (by kernel_rfl) agN rfl ?_
  simp only [seval]
  go_wp2_with fail
  intro a H; replace hs := H.s hs; replace hd := H.d rfl; replace e0 := H.k e0 rfl; have e2 := H.g 2 rfl rfl; clear H; refine hKq1 _ _ ?_; clear hKq1 Kq1; refine wp_seq_k fun Kq2 hKq2 => ?_
  have B2 := Blk.new w 27 #[.int .u8 0, .int .u8 0, .int .u8 0, .int .u8 0, .int .u8 0, .int .u8 0]
  have L2 := (Below.refl w.heap.size w).alloc (Nat.le_refl _) (.cells #[.int .u8 0, .int .u8 0, .int .u8 0, .int .u8 0, .int .u8 0, .int .u8 0] 27)
  generalize hw2 : w.alloc (.cells #[.int .u8 0, .int .u8 0, .int .u8 0, .int .u8 0, .int .u8 0, .int .u8 0] 27) = w2 at B2 L2 ⊢
  obtain ⟨g2, hg2⟩ : ∃ q, q = w.heap.size := ⟨_, rfl⟩
  have hgw : w.heap.size ≤ g2 := by omega
  rw [← hg2] at B2 e2
  clear hw2 hg2
  refine sm_list [] 3 1 hs hd (by kernel_rfl) agN rfl ?_
  simp only [seval]
  go_wp2_with fail
  intro a H; replace hs := H.s hs; replace hd := H.d rfl; replace e0 := H.k e0 rfl; replace e2 := H.k e2 rfl; have e3 := H.g 3 rfl rfl; clear H; refine hKq2 _ _ ?_; clear hKq2 Kq2; refine wp_seq_k fun Kq3 hKq3 => ?_; refine wp_seq_k fun Kq4 hKq4 => ?_
  have B3 := Blk.new w2 27 #[.int .u8 0, .int .u8 0, .int .u8 0, .int .u8 0, .int .u8 0, .int .u8 0]
  have hal := (Below.refl w2.heap.size w2).alloc (Nat.le_refl _) (.cells #[.int .u8 0, .int .u8 0, .int .u8 0, .int .u8 0, .int .u8 0, .int .u8 0] 27)
  generalize hw3 : w2.alloc (.cells #[.int .u8 0, .int .u8 0, .int .u8 0, .int .u8 0, .int .u8 0, .int .u8 0] 27) = w3 at B3 hal ⊢
  obtain ⟨g3, hg3⟩ : ∃ q, q = w2.heap.size := ⟨_, rfl⟩
  have hne : g2 ≠ g3 := by have := B2.lt; omega
  have hgw3 : w.heap.size ≤ g3 := by have := L2.size; omega
  rw [← hg3] at B3 e3
  have L3 := L2.trans (hal.mono L2.size)
  have B23 := B2.kept hal
  clear hw3 hg3 hal B2 L2
  refine sm_list [] 5 1 hs hd (by kernel_rfl) agN rfl ?_
  simp only [seval]
  go_wp2_with fail
  intro a H; replace hs := H.s hs; replace hd := H.d rfl; replace e0 := H.k e0 rfl; replace e2 := H.k e2 rfl; replace e3 := H.k e3 rfl; have e5 := H.g 5 rfl rfl; clear H; refine hKq4 _ _ ?_; clear hKq4 Kq4; refine wp_block ?_
  refine wp_loop (fun a w' => ∃ (j : Nat), j ≤ 6 ∧ Blk w' g2 27 #[.int .u8 0, .int .u8 0, .int .u8 0, .int .u8 0, .int .u8 0, .int .u8 0] ∧ Blk w' g3 27 (ofc id j) ∧ Below w.heap.size w w' ∧ a.tmps.size = 18 ∧ a.defers = [] ∧ a.tmps[0]? = some (.int .i64 id) ∧ a.tmps[2]? = some (.pointer (some ⟨g2, 0, none⟩)) ∧ a.tmps[3]? = some (.pointer (some ⟨g3, 0, none⟩)) ∧ a.tmps[5]? = some (.int .i64 (j : Int))) (fun a _ => 6 - (intOf (a.tmps.getD 5 undef)).toNat) ?_ ?_
  · exact ⟨0, by omega, B23, B3, L3, hs, hd, e0, e2, e3, e5⟩
  clear hs hd e0 e2 e3 e5 a B23 B3 L3
  rintro a w4 ⟨j, hj, B24, B34, L4, hs, hd, e0, e2, e3, e5⟩
  have hm := slot e5
  refine wp_seq_k fun Kq5 hKq5 => ?_
  obtain rfl | rfl | rfl | rfl | rfl | rfl | rfl : j = 0 ∨ j = 1 ∨ j = 2 ∨ j = 3 ∨ j = 4 ∨ j = 5 ∨ j = 6 := by omega
  ·
    have hm0 := hm
    clear hm
    have HM := Lib.hid hm0
    clear hm0
    have B3x : Blk w4 g3 27 #[.int .u8 0, .int .u8 0, .int .u8 0, .int .u8 0, .int .u8 0, .int .u8 0] := B34
    have qc := B3x.cellOf (v := .int .u8 0) 5 rfl
    have fz := B3x.frozen
    have lz := B3x.lt
    refine sm_list [5] 6 1 hs hd (by kernel_rfl) (agC e5 agN) rfl ?_
    simp only [seval]
    go_wp2_with fail
    intro a H; replace hs := H.s hs; replace hd := H.d rfl; replace e5 := H.g 5 rfl rfl; replace e0 := H.k e0 rfl; replace e2 := H.k e2 rfl; replace e3 := H.k e3 rfl; have e6 := H.g 6 rfl rfl; clear H; refine hKq5 _ _ ?_; clear hKq5 Kq5; refine wp_seq_k fun Kq6 hKq6 => ?_
    refine wp_cond_true (slotE e6) ?_
    clear e6; refine wp_skip ?_; refine hKq6 _ _ ?_; clear hKq6 Kq6; refine wp_seq_k fun Kq7 hKq7 => ?_; refine wp_block ?_; refine wp_seq_k fun Kq8 hKq8 => ?_
    refine sm_list [4, 5] 7 1 hs hd (by kernel_rfl) (agU (agC e5 agN)) rfl ?_
    simp only [seval]
    go_wp2_with fail
    intro a H; replace hs := H.s hs; replace hd := H.d rfl; replace e5 := H.g 5 rfl rfl; replace e0 := H.k e0 rfl; replace e2 := H.k e2 rfl; replace e3 := H.k e3 rfl; have e4 := H.g 4 rfl rfl; clear H; refine hKq8 _ _ ?_; clear hKq8 Kq8
    refine sm_list [0, 3, 4] 8 8 hs hd (by kernel_rfl) (agC e0 (agC e3 (agC e4 agN))) rfl ?_
    simp only [seval]
    go_wp2_with fail
    intro a H; replace hs := H.s hs; replace hd := H.d rfl; replace e0 := H.g 0 rfl rfl; replace e3 := H.g 3 rfl rfl; replace e4 := H.g 4 rfl rfl; replace e2 := H.k e2 rfl; replace e5 := H.k e5 rfl; clear H; refine hKq7 _ _ ?_; clear hKq7 Kq7
    refine (?_ : ∀ (W : World), Blk W g2 27 #[.int .u8 0, .int .u8 0, .int .u8 0, .int .u8 0, .int .u8 0, .int .u8 0] ∧ Blk W g3 27 (ofc id 1) ∧ Below w.heap.size w W → Code.wp Tryz.prog _ _ _ W) _ ⟨B24.grown (gr_set (grownBy_refl w4 (some g3)) 5 _) (by intro e; injection e with e; exact hne e), B3x.set_ 5 _, L4.grown (gr_set (grownBy_refl w4 (some g3)) 5 _) L4.size (fun k hk => by cases hk; exact hgw3)⟩
    rintro w5 ⟨B25, B35, L5⟩
    clear qc fz lz B3x; clear e4
    refine sm_list [5] 16 1 hs hd (by kernel_rfl) (agC e5 agN) rfl ?_
    simp only [seval]
    go_wp2_with fail
    intro a H; replace hs := H.s hs; replace hd := H.d rfl; replace e0 := H.k e0 rfl; replace e2 := H.k e2 rfl; replace e3 := H.k e3 rfl; replace e5 := H.g 5 rfl rfl; clear H
    exact ⟨⟨1, by omega, B25, B35, L5, hs, hd, e0, e2, e3, e5⟩, by rw [HM.out, slot e5]; decide⟩
  ·
    have hm0 := hm
    clear hm
    have HM := Lib.hid hm0
    clear hm0
    have B3x : Blk w4 g3 27 #[.int .u8 0, .int .u8 0, .int .u8 0, .int .u8 0, .int .u8 0, .int .u8 id] := B34
    have qc := B3x.cellOf (v := .int .u8 0) 4 rfl
    have fz := B3x.frozen
    have lz := B3x.lt
    refine sm_list [5] 6 1 hs hd (by kernel_rfl) (agC e5 agN) rfl ?_
    simp only [seval]
    go_wp2_with fail
    intro a H; replace hs := H.s hs; replace hd := H.d rfl; replace e5 := H.g 5 rfl rfl; replace e0 := H.k e0 rfl; replace e2 := H.k e2 rfl; replace e3 := H.k e3 rfl; have e6 := H.g 6 rfl rfl; clear H; refine hKq5 _ _ ?_; clear hKq5 Kq5; refine wp_seq_k fun Kq6 hKq6 => ?_
    refine wp_cond_true (slotE e6) ?_
    clear e6; refine wp_skip ?_; refine hKq6 _ _ ?_; clear hKq6 Kq6; refine wp_seq_k fun Kq7 hKq7 => ?_; refine wp_block ?_; refine wp_seq_k fun Kq8 hKq8 => ?_
    refine sm_list [4, 5] 7 1 hs hd (by kernel_rfl) (agU (agC e5 agN)) rfl ?_
    simp only [seval]
    go_wp2_with fail
    intro a H; replace hs := H.s hs; replace hd := H.d rfl; replace e5 := H.g 5 rfl rfl; replace e0 := H.k e0 rfl; replace e2 := H.k e2 rfl; replace e3 := H.k e3 rfl; have e4 := H.g 4 rfl rfl; clear H; refine hKq8 _ _ ?_; clear hKq8 Kq8
    refine sm_list [0, 3, 4] 8 8 hs hd (by kernel_rfl) (agC e0 (agC e3 (agC e4 agN))) rfl ?_
    simp only [seval]
    go_wp2_with fail
    intro a H; replace hs := H.s hs; replace hd := H.d rfl; replace e0 := H.g 0 rfl rfl; replace e3 := H.g 3 rfl rfl; replace e4 := H.g 4 rfl rfl; replace e2 := H.k e2 rfl; replace e5 := H.k e5 rfl; clear H; refine hKq7 _ _ ?_; clear hKq7 Kq7
    refine (?_ : ∀ (W : World), Blk W g2 27 #[.int .u8 0, .int .u8 0, .int .u8 0, .int .u8 0, .int .u8 0, .int .u8 0] ∧ Blk W g3 27 (ofc id 2) ∧ Below w.heap.size w W → Code.wp Tryz.prog _ _ _ W) _ ⟨B24.grown (gr_set (grownBy_refl w4 (some g3)) 4 _) (by intro e; injection e with e; exact hne e), B3x.set_ 4 _, L4.grown (gr_set (grownBy_refl w4 (some g3)) 4 _) L4.size (fun k hk => by cases hk; exact hgw3)⟩
    rintro w5 ⟨B25, B35, L5⟩
    clear qc fz lz B3x; clear e4
    refine sm_list [5] 16 1 hs hd (by kernel_rfl) (agC e5 agN) rfl ?_
    simp only [seval]
    go_wp2_with fail
    intro a H; replace hs := H.s hs; replace hd := H.d rfl; replace e0 := H.k e0 rfl; replace e2 := H.k e2 rfl; replace e3 := H.k e3 rfl; replace e5 := H.g 5 rfl rfl; clear H
    exact ⟨⟨2, by omega, B25, B35, L5, hs, hd, e0, e2, e3, e5⟩, by rw [HM.out, slot e5]; decide⟩
  ·
    have hm0 := hm
    clear hm
    have HM := Lib.hid hm0
    clear hm0
    have B3x : Blk w4 g3 27 #[.int .u8 0, .int .u8 0, .int .u8 0, .int .u8 0, .int .u8 0, .int .u8 id] := B34
    have qc := B3x.cellOf (v := .int .u8 0) 3 rfl
    have fz := B3x.frozen
    have lz := B3x.lt
    refine sm_list [5] 6 1 hs hd (by kernel_rfl) (agC e5 agN) rfl ?_
    simp only [seval]
    go_wp2_with fail
    intro a H; replace hs := H.s hs; replace hd := H.d rfl; replace e5 := H.g 5 rfl rfl; replace e0 := H.k e0 rfl; replace e2 := H.k e2 rfl; replace e3 := H.k e3 rfl; have e6 := H.g 6 rfl rfl; clear H; refine hKq5 _ _ ?_; clear hKq5 Kq5; refine wp_seq_k fun Kq6 hKq6 => ?_
    refine wp_cond_true (slotE e6) ?_
    clear e6; refine wp_skip ?_; refine hKq6 _ _ ?_; clear hKq6 Kq6; refine wp_seq_k fun Kq7 hKq7 => ?_; refine wp_block ?_; refine wp_seq_k fun Kq8 hKq8 => ?_
    refine sm_list [4, 5] 7 1 hs hd (by kernel_rfl) (agU (agC e5 agN)) rfl ?_
    simp only [seval]
    go_wp2_with fail
    intro a H; replace hs := H.s hs; replace hd := H.d rfl; replace e5 := H.g 5 rfl rfl; replace e0 := H.k e0 rfl; replace e2 := H.k e2 rfl; replace e3 := H.k e3 rfl; have e4 := H.g 4 rfl rfl; clear H; refine hKq8 _ _ ?_; clear hKq8 Kq8
    refine sm_list [0, 3, 4] 8 8 hs hd (by kernel_rfl) (agC e0 (agC e3 (agC e4 agN))) rfl ?_
    simp only [seval]
    go_wp2_with fail
    intro a H; replace hs := H.s hs; replace hd := H.d rfl; replace e0 := H.g 0 rfl rfl; replace e3 := H.g 3 rfl rfl; replace e4 := H.g 4 rfl rfl; replace e2 := H.k e2 rfl; replace e5 := H.k e5 rfl; clear H; refine hKq7 _ _ ?_; clear hKq7 Kq7
    refine (?_ : ∀ (W : World), Blk W g2 27 #[.int .u8 0, .int .u8 0, .int .u8 0, .int .u8 0, .int .u8 0, .int .u8 0] ∧ Blk W g3 27 (ofc id 3) ∧ Below w.heap.size w W → Code.wp Tryz.prog _ _ _ W) _ ⟨B24.grown (gr_set (grownBy_refl w4 (some g3)) 3 _) (by intro e; injection e with e; exact hne e), B3x.set_ 3 _, L4.grown (gr_set (grownBy_refl w4 (some g3)) 3 _) L4.size (fun k hk => by cases hk; exact hgw3)⟩
    rintro w5 ⟨B25, B35, L5⟩
    clear qc fz lz B3x; clear e4
    refine sm_list [5] 16 1 hs hd (by kernel_rfl) (agC e5 agN) rfl ?_
    simp only [seval]
    go_wp2_with fail
    intro a H; replace hs := H.s hs; replace hd := H.d rfl; replace e0 := H.k e0 rfl; replace e2 := H.k e2 rfl; replace e3 := H.k e3 rfl; replace e5 := H.g 5 rfl rfl; clear H
    exact ⟨⟨3, by omega, B25, B35, L5, hs, hd, e0, e2, e3, e5⟩, by rw [HM.out, slot e5]; decide⟩
  ·
    have hm0 := hm
    clear hm
    have HM := Lib.hid hm0
    clear hm0
    have B3x : Blk w4 g3 27 #[.int .u8 0, .int .u8 0, .int .u8 0, .int .u8 0, .int .u8 0, .int .u8 id] := B34
    have qc := B3x.cellOf (v := .int .u8 0) 2 rfl
    have fz := B3x.frozen
    have lz := B3x.lt
    refine sm_list [5] 6 1 hs hd (by kernel_rfl) (agC e5 agN) rfl ?_
    simp only [seval]
    go_wp2_with fail
    intro a H; replace hs := H.s hs; replace hd := H.d rfl; replace e5 := H.g 5 rfl rfl; replace e0 := H.k e0 rfl; replace e2 := H.k e2 rfl; replace e3 := H.k e3 rfl; have e6 := H.g 6 rfl rfl; clear H; refine hKq5 _ _ ?_; clear hKq5 Kq5; refine wp_seq_k fun Kq6 hKq6 => ?_
    refine wp_cond_true (slotE e6) ?_
    clear e6; refine wp_skip ?_; refine hKq6 _ _ ?_; clear hKq6 Kq6; refine wp_seq_k fun Kq7 hKq7 => ?_; refine wp_block ?_; refine wp_seq_k fun Kq8 hKq8 => ?_
    refine sm_list [4, 5] 7 1 hs hd (by kernel_rfl) (agU (agC e5 agN)) rfl ?_
    simp only [seval]
    go_wp2_with fail
    intro a H; replace hs := H.s hs; replace hd := H.d rfl; replace e5 := H.g 5 rfl rfl; replace e0 := H.k e0 rfl; replace e2 := H.k e2 rfl; replace e3 := H.k e3 rfl; have e4 := H.g 4 rfl rfl; clear H; refine hKq8 _ _ ?_; clear hKq8 Kq8
    refine sm_list [0, 3, 4] 8 8 hs hd (by kernel_rfl) (agC e0 (agC e3 (agC e4 agN))) rfl ?_
    simp only [seval]
    go_wp2_with fail
    intro a H; replace hs := H.s hs; replace hd := H.d rfl; replace e0 := H.g 0 rfl rfl; replace e3 := H.g 3 rfl rfl; replace e4 := H.g 4 rfl rfl; replace e2 := H.k e2 rfl; replace e5 := H.k e5 rfl; clear H; refine hKq7 _ _ ?_; clear hKq7 Kq7
    refine (?_ : ∀ (W : World), Blk W g2 27 #[.int .u8 0, .int .u8 0, .int .u8 0, .int .u8 0, .int .u8 0, .int .u8 0] ∧ Blk W g3 27 (ofc id 4) ∧ Below w.heap.size w W → Code.wp Tryz.prog _ _ _ W) _ ⟨B24.grown (gr_set (grownBy_refl w4 (some g3)) 2 _) (by intro e; injection e with e; exact hne e), B3x.set_ 2 _, L4.grown (gr_set (grownBy_refl w4 (some g3)) 2 _) L4.size (fun k hk => by cases hk; exact hgw3)⟩
    rintro w5 ⟨B25, B35, L5⟩
    clear qc fz lz B3x; clear e4
    refine sm_list [5] 16 1 hs hd (by kernel_rfl) (agC e5 agN) rfl ?_
    simp only [seval]
    go_wp2_with fail
    intro a H; replace hs := H.s hs; replace hd := H.d rfl; replace e0 := H.k e0 rfl; replace e2 := H.k e2 rfl; replace e3 := H.k e3 rfl; replace e5 := H.g 5 rfl rfl; clear H
    exact ⟨⟨4, by omega, B25, B35, L5, hs, hd, e0, e2, e3, e5⟩, by rw [HM.out, slot e5]; decide⟩
  ·
    have hm0 := hm
    clear hm
    have HM := Lib.hid hm0
    clear hm0
    have B3x : Blk w4 g3 27 #[.int .u8 0, .int .u8 0, .int .u8 0, .int .u8 0, .int .u8 0, .int .u8 id] := B34
    have qc := B3x.cellOf (v := .int .u8 0) 1 rfl
    have fz := B3x.frozen
    have lz := B3x.lt
    refine sm_list [5] 6 1 hs hd (by kernel_rfl) (agC e5 agN) rfl ?_
    simp only [seval]
    go_wp2_with fail
    intro a H; replace hs := H.s hs; replace hd := H.d rfl; replace e5 := H.g 5 rfl rfl; replace e0 := H.k e0 rfl; replace e2 := H.k e2 rfl; replace e3 := H.k e3 rfl; have e6 := H.g 6 rfl rfl; clear H; refine hKq5 _ _ ?_; clear hKq5 Kq5; refine wp_seq_k fun Kq6 hKq6 => ?_
    refine wp_cond_true (slotE e6) ?_
    clear e6; refine wp_skip ?_; refine hKq6 _ _ ?_; clear hKq6 Kq6; refine wp_seq_k fun Kq7 hKq7 => ?_; refine wp_block ?_; refine wp_seq_k fun Kq8 hKq8 => ?_
    refine sm_list [4, 5] 7 1 hs hd (by kernel_rfl) (agU (agC e5 agN)) rfl ?_
    simp only [seval]
    go_wp2_with fail
    intro a H; replace hs := H.s hs; replace hd := H.d rfl; replace e5 := H.g 5 rfl rfl; replace e0 := H.k e0 rfl; replace e2 := H.k e2 rfl; replace e3 := H.k e3 rfl; have e4 := H.g 4 rfl rfl; clear H; refine hKq8 _ _ ?_; clear hKq8 Kq8
    refine sm_list [0, 3, 4] 8 8 hs hd (by kernel_rfl) (agC e0 (agC e3 (agC e4 agN))) rfl ?_
    simp only [seval]
    go_wp2_with fail
    intro a H; replace hs := H.s hs; replace hd := H.d rfl; replace e0 := H.g 0 rfl rfl; replace e3 := H.g 3 rfl rfl; replace e4 := H.g 4 rfl rfl; replace e2 := H.k e2 rfl; replace e5 := H.k e5 rfl; clear H; refine hKq7 _ _ ?_; clear hKq7 Kq7
    refine (?_ : ∀ (W : World), Blk W g2 27 #[.int .u8 0, .int .u8 0, .int .u8 0, .int .u8 0, .int .u8 0, .int .u8 0] ∧ Blk W g3 27 (ofc id 5) ∧ Below w.heap.size w W → Code.wp Tryz.prog _ _ _ W) _ ⟨B24.grown (gr_set (grownBy_refl w4 (some g3)) 1 _) (by intro e; injection e with e; exact hne e), B3x.set_ 1 _, L4.grown (gr_set (grownBy_refl w4 (some g3)) 1 _) L4.size (fun k hk => by cases hk; exact hgw3)⟩
    rintro w5 ⟨B25, B35, L5⟩
    clear qc fz lz B3x; clear e4
    refine sm_list [5] 16 1 hs hd (by kernel_rfl) (agC e5 agN) rfl ?_
    simp only [seval]
    go_wp2_with fail
    intro a H; replace hs := H.s hs; replace hd := H.d rfl; replace e0 := H.k e0 rfl; replace e2 := H.k e2 rfl; replace e3 := H.k e3 rfl; replace e5 := H.g 5 rfl rfl; clear H
    exact ⟨⟨5, by omega, B25, B35, L5, hs, hd, e0, e2, e3, e5⟩, by rw [HM.out, slot e5]; decide⟩
  ·
    have hm0 := hm
    clear hm
    have HM := Lib.hid hm0
    clear hm0
    have B3x : Blk w4 g3 27 #[.int .u8 0, .int .u8 0, .int .u8 0, .int .u8 0, .int .u8 0, .int .u8 id] := B34
    have qc := B3x.cellOf (v := .int .u8 0) 0 rfl
    have fz := B3x.frozen
    have lz := B3x.lt
    refine sm_list [5] 6 1 hs hd (by kernel_rfl) (agC e5 agN) rfl ?_
    simp only [seval]
    go_wp2_with fail
    intro a H; replace hs := H.s hs; replace hd := H.d rfl; replace e5 := H.g 5 rfl rfl; replace e0 := H.k e0 rfl; replace e2 := H.k e2 rfl; replace e3 := H.k e3 rfl; have e6 := H.g 6 rfl rfl; clear H; refine hKq5 _ _ ?_; clear hKq5 Kq5; refine wp_seq_k fun Kq6 hKq6 => ?_
    refine wp_cond_true (slotE e6) ?_
    clear e6; refine wp_skip ?_; refine hKq6 _ _ ?_; clear hKq6 Kq6; refine wp_seq_k fun Kq7 hKq7 => ?_; refine wp_block ?_; refine wp_seq_k fun Kq8 hKq8 => ?_
    refine sm_list [4, 5] 7 1 hs hd (by kernel_rfl) (agU (agC e5 agN)) rfl ?_
    simp only [seval]
    go_wp2_with fail
    intro a H; replace hs := H.s hs; replace hd := H.d rfl; replace e5 := H.g 5 rfl rfl; replace e0 := H.k e0 rfl; replace e2 := H.k e2 rfl; replace e3 := H.k e3 rfl; have e4 := H.g 4 rfl rfl; clear H; refine hKq8 _ _ ?_; clear hKq8 Kq8
    refine sm_list [0, 3, 4] 8 8 hs hd (by kernel_rfl) (agC e0 (agC e3 (agC e4 agN))) rfl ?_
    simp only [seval]
    go_wp2_with fail
    intro a H; replace hs := H.s hs; replace hd := H.d rfl; replace e0 := H.g 0 rfl rfl; replace e3 := H.g 3 rfl rfl; replace e4 := H.g 4 rfl rfl; replace e2 := H.k e2 rfl; replace e5 := H.k e5 rfl; clear H; refine hKq7 _ _ ?_; clear hKq7 Kq7
    refine (?_ : ∀ (W : World), Blk W g2 27 #[.int .u8 0, .int .u8 0, .int .u8 0, .int .u8 0, .int .u8 0, .int .u8 0] ∧ Blk W g3 27 (ofc id 6) ∧ Below w.heap.size w W → Code.wp Tryz.prog _ _ _ W) _ ⟨B24.grown (gr_set (grownBy_refl w4 (some g3)) 0 _) (by intro e; injection e with e; exact hne e), B3x.set_ 0 _, L4.grown (gr_set (grownBy_refl w4 (some g3)) 0 _) L4.size (fun k hk => by cases hk; exact hgw3)⟩
    rintro w5 ⟨B25, B35, L5⟩
    clear qc fz lz B3x; clear e4
    refine sm_list [5] 16 1 hs hd (by kernel_rfl) (agC e5 agN) rfl ?_
    simp only [seval]
    go_wp2_with fail
    intro a H; replace hs := H.s hs; replace hd := H.d rfl; replace e0 := H.k e0 rfl; replace e2 := H.k e2 rfl; replace e3 := H.k e3 rfl; replace e5 := H.g 5 rfl rfl; clear H
    exact ⟨⟨6, by omega, B25, B35, L5, hs, hd, e0, e2, e3, e5⟩, by rw [HM.out, slot e5]; decide⟩
  ·
    clear hm
    have B3x : Blk w4 g3 27 #[.int .u8 0, .int .u8 0, .int .u8 0, .int .u8 0, .int .u8 0, .int .u8 id] := B34
    refine sm_list [5] 6 1 hs hd (by kernel_rfl) (agC e5 agN) rfl ?_
    simp only [seval]
    go_wp2_with fail
    intro a H; replace hs := H.s hs; replace hd := H.d rfl; replace e5 := H.g 5 rfl rfl; replace e0 := H.k e0 rfl; replace e2 := H.k e2 rfl; replace e3 := H.k e3 rfl; have e6 := H.g 6 rfl rfl; clear H; refine hKq5 _ _ ?_; clear hKq5 Kq5; refine wp_seq_k fun Kq6 hKq6 => ?_
    refine wp_cond_false (slotE e6) ?_
    clear e6; refine wp_exit ?_; refine exit_then rfl ?_; clear hKq6 Kq6; refine exit_then rfl ?_; refine exit_hit ?_; refine hKq3 _ _ ?_; clear hKq3 Kq3; refine wp_seq_k fun Kq7 hKq7 => ?_
    refine sm_list [2, 3] 17 1 hs hd (by kernel_rfl) (agC e2 (agC e3 agN)) rfl ?_
    simp only [seval]
    go_wp2_with (first | (refine wpList_load_any_d rfl 27 (.tmp 1) rfl ⟨g3, 0, none⟩ rfl #[.int .u8 0, .int .u8 0, .int .u8 0, .int .u8 0, .int .u8 0, .int .u8 id] _ (blk_cells B3x) Tryz.underlying27 rfl (by kernel_rfl) ?_) | (refine wpList_store_part rfl 27 (.tmp 0) (.tmp 2) rfl (off := 0) rfl B24 rfl (by simp) (by kernel_rfl) (by rw [← Array.all_toList]; rfl) ?_; intro wz Bz zz gz) | fail)
    intro a H; replace hs := H.s hs; replace hd := H.d rfl; replace e2 := H.g 2 rfl rfl; replace e3 := H.g 3 rfl rfl; replace e0 := H.k e0 rfl; replace e5 := H.k e5 rfl; clear H; refine hKq7 _ _ ?_; clear hKq7 Kq7; refine wp_ret ?_
    have Bz2 : Blk wz g2 27 #[.int .u8 0, .int .u8 0, .int .u8 0, .int .u8 0, .int .u8 0, .int .u8 id] := by simpa [putAll] using Bz
    exact sm_ret_box rfl hd e2 Bz2 Tryz.underlying27 rfl (by kernel_rfl) ⟨rfl, L4.grown gz L4.size (fun k hk => by cases hk; exact hgw)⟩
end Go.Proofs.YthhlfojaloaooaaGreat
