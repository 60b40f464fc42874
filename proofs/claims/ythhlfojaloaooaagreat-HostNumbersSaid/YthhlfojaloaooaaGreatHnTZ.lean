/-
  bridge: which nodes there are.
-/
import Derived.Test.YthhlfojaloaooaaGreatRows
import Derived.Test.YthhlfojaloaooaaGreatHnSZ
import Derived.WalkKit
import Derived.ProofKit
import Derived.OpenShut
import Derived.LoopTactic
import Derived.WalkLawsBesides
import Derived.WalkSpells
import Derived.Outline
import Derived.Lib.Hide
import Derived.Deep.DrawnRows
import Derived.Laws.CopyOwn
import Derived.MapKept
namespace Go.Proofs.YthhlfojaloaooaaGreat
set_option linter.unusedSimpArgs false
set_option linter.unusedVariables false
open Go.RowKit Go.WideShapes Go.ChangeShapes
attribute [local go_sem ↓] Go.wp_at_zero Go.wp_at_succ

/-- A node's setup's cells: no flows, nothing passes, both domains' clocks as they stand. -/
def cfc (id P : Int) : Array Value := #[.int .i64 id, .int .i64 P, .bool false, .int .i64 0, .int .i64 0, .int .i64 0, .int .i64 id, .int .i64 0, .int .i64 0, .int .i64 0, .int .i64 id, .int .i64 1000000, .slice none 0 0]
/-- Which nodes there are. -/
def ckB (id P : Int) : Int := if 1 ≤ id ∧ id < 281474976710656 ∧ 1 ≤ P ∧ P ≤ 8 then 0 else 1
theorem ckB_ok {id P : Int} (h1 : 1 ≤ id) (h2 : id < 281474976710656) (h3 : 1 ≤ P) (h4 : P ≤ 8) : ckB id P = 0 := if_pos ⟨h1, h2, h3, h4⟩
theorem ckB_bad {id P : Int} (h : ¬ (1 ≤ id ∧ id < 281474976710656 ∧ 1 ≤ P ∧ P ≤ 8)) : ckB id P = 1 := if_neg h
theorem ann_ok {id : Int} (h1 : 1 ≤ id) (h2 : id < 281474976710656) : checkV (⟨11, 0, 0, 0, 0, 0, 0, 0, 0, 0, 0, 0, 0, id, 0, []⟩ : Mg) = 0 := by
  rw [check_last (by simp [Known]) ⟨⟨by simp [okN], by simp [okN], by simp [okN, ids]⟩, by simp [okN], by rw [okN_cons, okN_nil, Bool.and_true]; exact decide_eq_true ⟨by show 0 ≤ id; omega, by show id ≤ 281474976710655; omega⟩⟩ ⟨fun _ _ => ⟨rfl, rfl, fun _ => rfl⟩, fun _ => rfl⟩ (fun h => absurd rfl h) (by simp)]
  rfl
theorem cfc_sub3 {id P : Int} : ∀ j v, (#[.int .i64 0, .int .i64 0, .int .i64 0, .int .i64 id, .int .i64 0, .int .i64 0, .int .i64 0, .int .i64 id] : Array Value).toList[j]? = some v → (cfc id P)[3 + j]? = some v
  | 0, v, h => h
  | 1, v, h => h
  | 2, v, h => h
  | 3, v, h => h
  | 4, v, h => h
  | 5, v, h => h
  | 6, v, h => h
  | 7, v, h => h
  | n + 8, v, h => by simp at h
set_option maxRecDepth 100000 in
set_option maxHeartbeats 4000000 in
theorem brCheck_any (id P : Int) (w : World) : Calls Tryz.prog 16 #[.agg (cfc id P)] w fun e w' => e = .returned (.int .i64 (ckB id P)) ∧ Below w.heap.size w w' := by
  refine calls_sm (N := 118) Tryz.func16 rfl (by kernel_rfl) ?_
  intro a hs hd ha
  have e0 : a.tmps[0]? = some (.agg (cfc id P)) := ha 0 _ rfl
  clear ha
  conv => arg 2; whnf
  refine wp_seq_k fun Kq1 hKq1 => ?_
  refine sm_list [0] 1 2 hs hd (by kernel_rfl) (agC e0 agN) rfl ?_
  simp only [seval]
  go_wp2_with fail
  intro a H; replace hs := H.s hs; replace hd := H.d rfl; replace e0 := H.g 0 rfl rfl; have e1 := H.g 1 rfl rfl; have e2 := H.g 2 rfl rfl; clear H; refine hKq1 _ _ ?_; clear hKq1 Kq1; refine wp_seq_k fun Kq2 hKq2 => ?_; refine wp_seq_k fun Kq3 hKq3 => ?_
  have B := Blk.new w 42 (cfc id P)
  have L1 := (Below.refl w.heap.size w).alloc (Nat.le_refl _) (.cells (cfc id P) 42)
  generalize hw1 : w.alloc (.cells (cfc id P) 42) = w1 at B L1 ⊢
  obtain ⟨q, hq⟩ : ∃ q, q = w.heap.size := ⟨_, rfl⟩
  have hqw : w.heap.size ≤ q := by omega
  rw [← hq] at B e1
  clear hw1 hq
  have q0 := B.cellOf (v := .int .i64 id) 0 rfl
  have q1 := B.cellOf (v := .int .i64 P) 1 rfl
  have q11 := B.cellOf (v := .int .i64 1000000) 11 rfl
  have q12 := B.cellOf (v := .slice none 0 0) 12 rfl
  have HB := Lib.hid B
  clear B
  by_cases c1 : id < 1
  ·
    have dd := decide_eq_true c1
    have hK : ckB id P = 1 := ckB_bad (by omega)
    have HK := Lib.hid hK
    clear hK
    refine sm_list [1] 7 34 hs hd (by kernel_rfl) (agC e1 agN) rfl ?_
    simp only [seval]
    go_wp2_with fail
    intro a H; replace hs := H.s hs; replace hd := H.d rfl; replace e1 := H.g 1 rfl rfl; replace e0 := H.k e0 rfl; replace e2 := H.k e2 rfl; have e40 := H.g 40 rfl rfl; clear H; refine hKq3 _ _ ?_; clear hKq3 Kq3
    refine wp_cond_true (slotE e40) ?_
    clear e40; refine wp_seq_k fun Kq4 hKq4 => ?_
    refine sm_list [] 2 1 hs hd (by kernel_rfl) agN rfl ?_
    simp only [seval]
    go_wp2_with fail
    intro a H; replace hs := H.s hs; replace hd := H.d rfl; replace e0 := H.k e0 rfl; replace e1 := H.k e1 rfl; replace e2 := H.g 2 rfl rfl; clear H; refine hKq4 _ _ ?_; clear hKq4 Kq4; refine wp_ret ?_; refine exit_then rfl ?_
    exact sm_ret rfl hd e2 ⟨by rw [HK.out], L1⟩
  have dc1 : decide (id < 1) = false := decide_eq_false c1
  by_cases c2 : 281474976710656 ≤ id
  ·
    have dd := decide_eq_true c2
    have hK : ckB id P = 1 := ckB_bad (by omega)
    have HK := Lib.hid hK
    clear hK
    refine sm_list [1] 7 34 hs hd (by kernel_rfl) (agC e1 agN) rfl ?_
    simp only [seval]
    go_wp2_with fail
    intro a H; replace hs := H.s hs; replace hd := H.d rfl; replace e1 := H.g 1 rfl rfl; replace e0 := H.k e0 rfl; replace e2 := H.k e2 rfl; have e40 := H.g 40 rfl rfl; clear H; refine hKq3 _ _ ?_; clear hKq3 Kq3
    refine wp_cond_true (slotE e40) ?_
    clear e40; refine wp_seq_k fun Kq4 hKq4 => ?_
    refine sm_list [] 2 1 hs hd (by kernel_rfl) agN rfl ?_
    simp only [seval]
    go_wp2_with fail
    intro a H; replace hs := H.s hs; replace hd := H.d rfl; replace e0 := H.k e0 rfl; replace e1 := H.k e1 rfl; replace e2 := H.g 2 rfl rfl; clear H; refine hKq4 _ _ ?_; clear hKq4 Kq4; refine wp_ret ?_; refine exit_then rfl ?_
    exact sm_ret rfl hd e2 ⟨by rw [HK.out], L1⟩
  have dc2 : decide (281474976710656 ≤ id) = false := decide_eq_false c2
  by_cases c3 : P < 1
  ·
    have dd := decide_eq_true c3
    have hK : ckB id P = 1 := ckB_bad (by omega)
    have HK := Lib.hid hK
    clear hK
    refine sm_list [1] 7 34 hs hd (by kernel_rfl) (agC e1 agN) rfl ?_
    simp only [seval]
    go_wp2_with fail
    intro a H; replace hs := H.s hs; replace hd := H.d rfl; replace e1 := H.g 1 rfl rfl; replace e0 := H.k e0 rfl; replace e2 := H.k e2 rfl; have e40 := H.g 40 rfl rfl; clear H; refine hKq3 _ _ ?_; clear hKq3 Kq3
    refine wp_cond_true (slotE e40) ?_
    clear e40; refine wp_seq_k fun Kq4 hKq4 => ?_
    refine sm_list [] 2 1 hs hd (by kernel_rfl) agN rfl ?_
    simp only [seval]
    go_wp2_with fail
    intro a H; replace hs := H.s hs; replace hd := H.d rfl; replace e0 := H.k e0 rfl; replace e1 := H.k e1 rfl; replace e2 := H.g 2 rfl rfl; clear H; refine hKq4 _ _ ?_; clear hKq4 Kq4; refine wp_ret ?_; refine exit_then rfl ?_
    exact sm_ret rfl hd e2 ⟨by rw [HK.out], L1⟩
  have dc3 : decide (P < 1) = false := decide_eq_false c3
  by_cases c4 : 8 < P
  ·
    have dd := decide_eq_true c4
    have hK : ckB id P = 1 := ckB_bad (by omega)
    have HK := Lib.hid hK
    clear hK
    refine sm_list [1] 7 34 hs hd (by kernel_rfl) (agC e1 agN) rfl ?_
    simp only [seval]
    go_wp2_with fail
    intro a H; replace hs := H.s hs; replace hd := H.d rfl; replace e1 := H.g 1 rfl rfl; replace e0 := H.k e0 rfl; replace e2 := H.k e2 rfl; have e40 := H.g 40 rfl rfl; clear H; refine hKq3 _ _ ?_; clear hKq3 Kq3
    refine wp_cond_true (slotE e40) ?_
    clear e40; refine wp_seq_k fun Kq4 hKq4 => ?_
    refine sm_list [] 2 1 hs hd (by kernel_rfl) agN rfl ?_
    simp only [seval]
    go_wp2_with fail
    intro a H; replace hs := H.s hs; replace hd := H.d rfl; replace e0 := H.k e0 rfl; replace e1 := H.k e1 rfl; replace e2 := H.g 2 rfl rfl; clear H; refine hKq4 _ _ ?_; clear hKq4 Kq4; refine wp_ret ?_; refine exit_then rfl ?_
    exact sm_ret rfl hd e2 ⟨by rw [HK.out], L1⟩
  have dc4 : decide (8 < P) = false := decide_eq_false c4
  have HK := Lib.hid (ckB_ok (id := id) (P := P) (by omega) (by omega) (by omega) (by omega))
  refine sm_list [1] 7 34 hs hd (by kernel_rfl) (agC e1 agN) rfl ?_
  simp only [seval]
  go_wp2_with fail
  intro a H; replace hs := H.s hs; replace hd := H.d rfl; replace e1 := H.g 1 rfl rfl; replace e0 := H.k e0 rfl; replace e2 := H.k e2 rfl; have e40 := H.g 40 rfl rfl; clear H; refine hKq3 _ _ ?_; clear hKq3 Kq3
  refine wp_cond_false (slotE e40) ?_
  clear e40; refine wp_skip ?_; refine hKq2 _ _ ?_; clear hKq2 Kq2; refine wp_seq_k fun Kq4 hKq4 => ?_; refine wp_seq_k fun Kq5 hKq5 => ?_; clear dc1 dc2 dc3 dc4 q1 q11
  refine sm_list [1] 41 3 hs hd (by kernel_rfl) (agC e1 agN) rfl ?_
  simp only [seval]
  go_wp2_with (first | (refine wpList_load_any_d rfl 39 (.tmp 1) rfl ⟨q, 3, none⟩ rfl #[.int .i64 0, .int .i64 0, .int .i64 0, .int .i64 id, .int .i64 0, .int .i64 0, .int .i64 0, .int .i64 id] _ (blk_sub HB.out cfc_sub3) Tryz.underlying39 rfl (by kernel_rfl) ?_) | fail)
  intro a H; replace hs := H.s hs; replace hd := H.d rfl; replace e1 := H.g 1 rfl rfl; replace e0 := H.k e0 rfl; replace e2 := H.k e2 rfl; have e42 := H.g 42 rfl rfl; have e43 := H.g 43 rfl rfl; clear H; refine hKq5 _ _ ?_; clear hKq5 Kq5; refine wp_block ?_
  refine wp_loop (fun a w' => ∃ (j : Nat), j ≤ 2 ∧ Below w.heap.size w w' ∧ Blk w' q 42 (cfc id P) ∧ a.tmps.size = 118 ∧ a.defers = [] ∧ a.tmps[1]? = some (.pointer (some ⟨q, 0, none⟩)) ∧ a.tmps[42]? = some (.agg #[.int .i64 0, .int .i64 0, .int .i64 0, .int .i64 id, .int .i64 0, .int .i64 0, .int .i64 0, .int .i64 id]) ∧ a.tmps[43]? = some (.int .i64 (j : Int))) (fun a _ => 2 - (intOf (a.tmps.getD 43 undef)).toNat) ?_ ?_
  · exact ⟨0, by omega, L1, HB.out, hs, hd, e1, e42, e43⟩
  clear e0 e1 e2 e42 e43 hs hd a L1 HB q0 q12
  rintro a w4 ⟨j, hj, L4, B4, hs, hd, e1, e42, e43⟩
  have hm := slot e43
  have HB := Lib.hid B4
  have q0 := B4.cellOf (v := .int .i64 id) 0 rfl
  clear B4; refine wp_seq_k fun Kq6 hKq6 => ?_
  have hi0 : ∀ W : World, (Instr.index 39 (.agg #[.int .i64 0, .int .i64 0, .int .i64 0, .int .i64 id, .int .i64 0, .int .i64 0, .int .i64 0, .int .i64 id]) (.int .i64 0)).run Tryz.prog W = .ok (.agg #[.int .i64 0, .int .i64 0, .int .i64 0, .int .i64 id]) W := fun W => by kernel_rfl
  have hi1 : ∀ W : World, (Instr.index 39 (.agg #[.int .i64 0, .int .i64 0, .int .i64 0, .int .i64 id, .int .i64 0, .int .i64 0, .int .i64 0, .int .i64 id]) (.int .i64 1)).run Tryz.prog W = .ok (.agg #[.int .i64 0, .int .i64 0, .int .i64 0, .int .i64 id]) W := fun W => by kernel_rfl
  obtain rfl | rfl | rfl : j = 0 ∨ j = 1 ∨ j = 2 := by omega
  ·
    have HM := Lib.hid hm
    clear hm
    refine sm_list [43] 44 1 hs hd (by kernel_rfl) (agC e43 agN) rfl ?_
    simp only [seval]
    go_wp2_with fail
    intro a H; replace hs := H.s hs; replace hd := H.d rfl; replace e43 := H.g 43 rfl rfl; replace e1 := H.k e1 rfl; replace e42 := H.k e42 rfl; have e44 := H.g 44 rfl rfl; clear H; refine hKq6 _ _ ?_; clear hKq6 Kq6; refine wp_seq_k fun Kq7 hKq7 => ?_
    refine wp_cond_true (slotE e44) ?_
    clear e44; refine wp_skip ?_; refine hKq7 _ _ ?_; clear hKq7 Kq7; refine wp_seq_k fun Kq8 hKq8 => ?_; refine wp_block ?_; refine wp_seq_k fun Kq9 hKq9 => ?_
    refine sm_list [4, 42, 43] 45 1 hs hd (by kernel_rfl) (agU (agC e42 (agC e43 agN))) rfl ?_
    simp only [seval]
    go_wp2_with (first | (refine wpList_store_new rfl 38 (.tmp 0) (.tmp 3) rfl rfl rfl rfl rfl (by kernel_rfl) (by rw [← Array.all_toList]; rfl) ?_) | fail)
    intro a H; replace hs := H.s hs; replace hd := H.d rfl; replace e42 := H.g 42 rfl rfl; replace e43 := H.g 43 rfl rfl; replace e1 := H.k e1 rfl; have e4 := H.g 4 rfl rfl; clear H; refine hKq9 _ _ ?_; clear hKq9 Kq9; refine wp_seq_k fun Kq10 hKq10 => ?_
    have BP := Blk.new w4 38 #[.int .i64 0, .int .i64 0, .int .i64 0, .int .i64 id]
    have L5 := (Below.refl w4.heap.size w4).alloc (Nat.le_refl _) (.cells #[.int .i64 0, .int .i64 0, .int .i64 0, .int .i64 id] 38)
    have B5 := HB.out.kept L5
    generalize hw5 : w4.alloc (.cells #[.int .i64 0, .int .i64 0, .int .i64 0, .int .i64 id] 38) = w5 at BP L5 B5 ⊢
    obtain ⟨p, hp⟩ : ∃ p, p = w4.heap.size := ⟨_, rfl⟩
    rw [← hp] at BP e4
    clear hw5 hp hi0 hi1 q0
    have q0 := B5.cellOf (v := .int .i64 id) 0 rfl
    have p3 := BP.cellOf (v := .int .i64 id) 3 rfl
    have hne : (id != id) = false := by simp
    have HP := Lib.hid BP
    have H5 := Lib.hid (And.intro B5 L5)
    clear BP B5 L5
    refine sm_list [1, 4] 46 11 hs hd (by kernel_rfl) (agC e1 (agC e4 agN)) rfl ?_
    simp only [seval]
    go_wp2_with (first | (refine wpList_load_any_w (wanted_on rfl rfl rfl) 38 (.tmp 1) rfl ⟨p, 0, none⟩ rfl #[.int .i64 0, .int .i64 0, .int .i64 0, .int .i64 id] _ (blk_cells HP.out) Tryz.underlying38 rfl (by kernel_rfl) ?_) | fail)
    refine (check_m (⟨11, 0, 0, 0, 0, 0, 0, 0, 0, 0, 0, 0, 0, id, 0, []⟩ : Mg) none 0 0 w5 ⟨rfl, fun h => absurd h (Nat.lt_irrefl 0)⟩ rfl (Nat.zero_le _)).mono ?_
    rintro e w6 ⟨rfl, hb6⟩
    rw [ann_ok (by omega) (by omega)]
    go_wp2_with fail
    intro a H; replace hs := H.s hs; replace hd := H.d rfl; replace e1 := H.g 1 rfl rfl; replace e4 := H.g 4 rfl rfl; replace e42 := H.k e42 rfl; replace e43 := H.k e43 rfl; have e56 := H.g 56 rfl rfl; clear H; refine hKq10 _ _ ?_; clear hKq10 Kq10
    refine wp_cond_false (slotE e56) ?_
    clear e56; refine wp_skip ?_; refine hKq8 _ _ ?_; clear hKq8 Kq8; clear e4
    refine sm_list [43] 57 1 hs hd (by kernel_rfl) (agC e43 agN) rfl ?_
    simp only [seval]
    go_wp2_with fail
    intro a H; replace hs := H.s hs; replace hd := H.d rfl; replace e1 := H.k e1 rfl; replace e42 := H.k e42 rfl; replace e43 := H.g 43 rfl rfl; clear H
    exact ⟨⟨1, by omega, (L4.trans (H5.out.2.mono L4.size)).trans (hb6.mono (L4.trans (H5.out.2.mono L4.size)).size), H5.out.1.kept hb6, hs, hd, e1, e42, e43⟩, by rw [HM.out, slot e43]; decide⟩
  ·
    have HM := Lib.hid hm
    clear hm
    refine sm_list [43] 44 1 hs hd (by kernel_rfl) (agC e43 agN) rfl ?_
    simp only [seval]
    go_wp2_with fail
    intro a H; replace hs := H.s hs; replace hd := H.d rfl; replace e43 := H.g 43 rfl rfl; replace e1 := H.k e1 rfl; replace e42 := H.k e42 rfl; have e44 := H.g 44 rfl rfl; clear H; refine hKq6 _ _ ?_; clear hKq6 Kq6; refine wp_seq_k fun Kq7 hKq7 => ?_
    refine wp_cond_true (slotE e44) ?_
    clear e44; refine wp_skip ?_; refine hKq7 _ _ ?_; clear hKq7 Kq7; refine wp_seq_k fun Kq8 hKq8 => ?_; refine wp_block ?_; refine wp_seq_k fun Kq9 hKq9 => ?_
    refine sm_list [4, 42, 43] 45 1 hs hd (by kernel_rfl) (agU (agC e42 (agC e43 agN))) rfl ?_
    simp only [seval]
    go_wp2_with (first | (refine wpList_store_new rfl 38 (.tmp 0) (.tmp 3) rfl rfl rfl rfl rfl (by kernel_rfl) (by rw [← Array.all_toList]; rfl) ?_) | fail)
    intro a H; replace hs := H.s hs; replace hd := H.d rfl; replace e42 := H.g 42 rfl rfl; replace e43 := H.g 43 rfl rfl; replace e1 := H.k e1 rfl; have e4 := H.g 4 rfl rfl; clear H; refine hKq9 _ _ ?_; clear hKq9 Kq9; refine wp_seq_k fun Kq10 hKq10 => ?_
    have BP := Blk.new w4 38 #[.int .i64 0, .int .i64 0, .int .i64 0, .int .i64 id]
    have L5 := (Below.refl w4.heap.size w4).alloc (Nat.le_refl _) (.cells #[.int .i64 0, .int .i64 0, .int .i64 0, .int .i64 id] 38)
    have B5 := HB.out.kept L5
    generalize hw5 : w4.alloc (.cells #[.int .i64 0, .int .i64 0, .int .i64 0, .int .i64 id] 38) = w5 at BP L5 B5 ⊢
    obtain ⟨p, hp⟩ : ∃ p, p = w4.heap.size := ⟨_, rfl⟩
    rw [← hp] at BP e4
    clear hw5 hp hi0 hi1 q0
    have q0 := B5.cellOf (v := .int .i64 id) 0 rfl
    have p3 := BP.cellOf (v := .int .i64 id) 3 rfl
    have hne : (id != id) = false := by simp
    have HP := Lib.hid BP
    have H5 := Lib.hid (And.intro B5 L5)
    clear BP B5 L5
    refine sm_list [1, 4] 46 11 hs hd (by kernel_rfl) (agC e1 (agC e4 agN)) rfl ?_
    simp only [seval]
    go_wp2_with (first | (refine wpList_load_any_w (wanted_on rfl rfl rfl) 38 (.tmp 1) rfl ⟨p, 0, none⟩ rfl #[.int .i64 0, .int .i64 0, .int .i64 0, .int .i64 id] _ (blk_cells HP.out) Tryz.underlying38 rfl (by kernel_rfl) ?_) | fail)
    refine (check_m (⟨11, 0, 0, 0, 0, 0, 0, 0, 0, 0, 0, 0, 0, id, 0, []⟩ : Mg) none 0 0 w5 ⟨rfl, fun h => absurd h (Nat.lt_irrefl 0)⟩ rfl (Nat.zero_le _)).mono ?_
    rintro e w6 ⟨rfl, hb6⟩
    rw [ann_ok (by omega) (by omega)]
    go_wp2_with fail
    intro a H; replace hs := H.s hs; replace hd := H.d rfl; replace e1 := H.g 1 rfl rfl; replace e4 := H.g 4 rfl rfl; replace e42 := H.k e42 rfl; replace e43 := H.k e43 rfl; have e56 := H.g 56 rfl rfl; clear H; refine hKq10 _ _ ?_; clear hKq10 Kq10
    refine wp_cond_false (slotE e56) ?_
    clear e56; refine wp_skip ?_; refine hKq8 _ _ ?_; clear hKq8 Kq8; clear e4
    refine sm_list [43] 57 1 hs hd (by kernel_rfl) (agC e43 agN) rfl ?_
    simp only [seval]
    go_wp2_with fail
    intro a H; replace hs := H.s hs; replace hd := H.d rfl; replace e1 := H.k e1 rfl; replace e42 := H.k e42 rfl; replace e43 := H.g 43 rfl rfl; clear H
    exact ⟨⟨2, by omega, (L4.trans (H5.out.2.mono L4.size)).trans (hb6.mono (L4.trans (H5.out.2.mono L4.size)).size), H5.out.1.kept hb6, hs, hd, e1, e42, e43⟩, by rw [HM.out, slot e43]; decide⟩
  ·
    clear hm hi0 hi1; have q12 := HB.out.cellOf (v := .slice none 0 0) 12 rfl
    refine sm_list [43] 44 1 hs hd (by kernel_rfl) (agC e43 agN) rfl ?_
    simp only [seval]
    go_wp2_with fail
    intro a H; replace hs := H.s hs; replace hd := H.d rfl; replace e43 := H.g 43 rfl rfl; replace e1 := H.k e1 rfl; replace e42 := H.k e42 rfl; have e44 := H.g 44 rfl rfl; clear H; refine hKq6 _ _ ?_; clear hKq6 Kq6; refine wp_seq_k fun Kq7 hKq7 => ?_
    refine wp_cond_false (slotE e44) ?_
    clear e44; refine wp_exit ?_; refine exit_then rfl ?_; clear hKq7 Kq7; refine exit_then rfl ?_; refine exit_hit ?_; refine hKq4 _ _ ?_; clear hKq4 Kq4; refine wp_seq_k fun Kq8 hKq8 => ?_; refine wp_seq_k fun Kq9 hKq9 => ?_
    refine sm_list [1] 58 4 hs hd (by kernel_rfl) (agC e1 agN) rfl ?_
    simp only [seval]
    go_wp2_with fail
    intro a H; replace hs := H.s hs; replace hd := H.d rfl; replace e1 := H.g 1 rfl rfl; replace e42 := H.k e42 rfl; replace e43 := H.k e43 rfl; have e59 := H.g 59 rfl rfl; have e60 := H.g 60 rfl rfl; have e61 := H.g 61 rfl rfl; clear H; refine hKq9 _ _ ?_; clear hKq9 Kq9; refine wp_block ?_
    refine wp_loop (fun a w' => a.tmps.size = 118 ∧ a.defers = [] ∧ a.tmps[1]? = some (.pointer (some ⟨q, 0, none⟩)) ∧ a.tmps[60]? = some (.int .i64 0) ∧ a.tmps[61]? = some (.int .i64 0) ∧ w4 = w') (fun a _ => 0) ?_ ?_
    · exact ⟨hs, hd, e1, e60, e61, rfl⟩
    clear e1 e42 e43 e59 e60 e61 hs hd a
    rintro a w9 ⟨hs, hd, e1, e60, e61, rfl⟩
    refine wp_seq_k fun Kq10 hKq10 => ?_
    refine sm_list [60, 61] 62 1 hs hd (by kernel_rfl) (agC e60 (agC e61 agN)) rfl ?_
    simp only [seval]
    go_wp2_with fail
    intro a H; replace hs := H.s hs; replace hd := H.d rfl; replace e60 := H.g 60 rfl rfl; replace e61 := H.g 61 rfl rfl; replace e1 := H.k e1 rfl; have e62 := H.g 62 rfl rfl; clear H; refine hKq10 _ _ ?_; clear hKq10 Kq10; refine wp_seq_k fun Kq11 hKq11 => ?_
    refine wp_cond_false (slotE e62) ?_
    clear e62; refine wp_exit ?_; refine exit_then rfl ?_; clear hKq11 Kq11; refine exit_then rfl ?_; refine exit_hit ?_; refine hKq8 _ _ ?_; clear hKq8 Kq8; refine wp_seq_k fun Kq12 hKq12 => ?_
    refine sm_list [] 2 1 hs hd (by kernel_rfl) agN rfl ?_
    simp only [seval]
    go_wp2_with fail
    intro a H; replace hs := H.s hs; replace hd := H.d rfl; replace e1 := H.k e1 rfl; replace e60 := H.k e60 rfl; replace e61 := H.k e61 rfl; have e2 := H.g 2 rfl rfl; clear H; refine hKq12 _ _ ?_; clear hKq12 Kq12; refine wp_ret ?_
    exact sm_ret rfl hd e2 ⟨by rw [HK.out], L4⟩
end Go.Proofs.YthhlfojaloaooaaGreat
