/-
  host: small ones.
-/
import Derived.Test.YthhlfojaloaooaaGreatRows
import Derived.Test.YthhlfojaloaooaaGreatHnKZ
import Derived.WalkKit
import Derived.ProofKit
import Derived.OpenShut
import Derived.LoopTactic
import Derived.WalkLawsBesides
import Derived.WalkSpells
import Derived.Outline
import Derived.Lib.Hide
import Derived.Deep.DrawnRows
import Derived.Laws.CopyOwn
import Derived.MapKept
namespace Go.Proofs.YthhlfojaloaooaaGreat
set_option linter.unusedSimpArgs false
set_option linter.unusedVariables false
open Go.RowKit Go.WideShapes Go.ChangeShapes
attribute [local go_sem ↓] Go.wp_at_zero Go.wp_at_succ

set_option maxRecDepth 100000 in
set_option maxHeartbeats 4000000 in
theorem hRow_any (r : Int) (w : World) : Calls Tryz.prog 22 #[.int .i64 r] w fun e w' => e = .returned (.agg (mcf r)) ∧ Below w.heap.size w w' := by
  refine calls_sm (N := 9) Tryz.func22 rfl (by kernel_rfl) ?_
  intro a hs hd ha
  have e0 : a.tmps[0]? = some (.int .i64 r) := ha 0 _ rfl
  clear ha
  conv => arg 2; whnf
  refine wp_seq_k fun Kq1 hKq1 => ?_
  refine sm_list [] 2 1 hs hd (by kernel_rfl) agN rfl ?_
  simp only [seval]
  go_wp2_with fail
  intro a H; replace hs := H.s hs; replace hd := H.d rfl; replace e0 := H.k e0 rfl; have e2 := H.g 2 rfl rfl; clear H; refine hKq1 _ _ ?_; clear hKq1 Kq1; refine wp_seq_k fun Kq2 hKq2 => ?_
  have B2 := Blk.new w 84 #[.int .i64 0, .int .i64 0, .int .i64 0, .int .i64 0, .int .i64 0, .int .i64 0, .int .i64 0, .int .i64 0, .int .i64 0]
  have L2 := (Below.refl w.heap.size w).alloc (Nat.le_refl _) (.cells #[.int .i64 0, .int .i64 0, .int .i64 0, .int .i64 0, .int .i64 0, .int .i64 0, .int .i64 0, .int .i64 0, .int .i64 0] 84)
  generalize hw2 : w.alloc (.cells #[.int .i64 0, .int .i64 0, .int .i64 0, .int .i64 0, .int .i64 0, .int .i64 0, .int .i64 0, .int .i64 0, .int .i64 0] 84) = w2 at B2 L2 ⊢
  obtain ⟨g2, hg2⟩ : ∃ q, q = w.heap.size := ⟨_, rfl⟩
  have hgw : w.heap.size ≤ g2 := by omega
  rw [← hg2] at B2 e2
  clear hw2 hg2
  have B3 := Blk.new w2 82 #[.int .i64 0, .int .i64 0, .int .i64 0]
  have hal := (Below.refl w2.heap.size w2).alloc (Nat.le_refl _) (.cells #[.int .i64 0, .int .i64 0, .int .i64 0] 82)
  refine sm_list [0] 3 3 hs hd (by kernel_rfl) (agC e0 agN) rfl ?_
  simp only [seval]
  go_wp2_with (first | (refine wpList_store_part rfl 82 (.tmp 1) (.tmp 3) rfl (off := 0) rfl B3 rfl (by simp) (by kernel_rfl) (by rw [← Array.all_toList]; rfl) ?_; intro wz Bz zz gz) | fail)
  intro a H; replace hs := H.s hs; replace hd := H.d rfl; replace e0 := H.g 0 rfl rfl; replace e2 := H.k e2 rfl; have e3 := H.g 3 rfl rfl; clear H; refine hKq2 _ _ ?_; clear hKq2 Kq2; refine wp_seq_k fun Kq3 hKq3 => ?_
  have Bz2 : Blk wz w2.heap.size 82 #[.int .i64 0, .int .i64 32, .int .i64 r] := by simpa [putAll] using Bz
  have hb : Below w2.heap.size w2 wz := hal.grown gz hal.size (fun k hk => by cases hk; exact Nat.le_refl _)
  have L3 := L2.trans (hb.mono L2.size)
  have B23 := B2.kept hb
  obtain ⟨g3, hg3⟩ : ∃ q, q = w2.heap.size := ⟨_, rfl⟩
  rw [← hg3] at Bz2 e3
  clear hg3 hb B2 L2 hal Bz gz zz B3
  refine sm_list [2, 3] 6 3 hs hd (by kernel_rfl) (agC e2 (agC e3 agN)) rfl ?_
  simp only [seval]
  go_wp2_with (first | (refine wpList_load_any_d rfl 82 (.tmp 1) rfl ⟨g3, 0, none⟩ rfl #[.int .i64 0, .int .i64 32, .int .i64 r] _ (blk_cells Bz2) Tryz.underlying82 rfl (by kernel_rfl) ?_) | (refine wpList_store_part rfl 84 (.tmp 0) (.tmp 4) rfl (off := 0) rfl B23 rfl (by simp) (by kernel_rfl) (by rw [← Array.all_toList]; rfl) ?_; intro wy By zy gy) | fail)
  intro a H; replace hs := H.s hs; replace hd := H.d rfl; replace e2 := H.g 2 rfl rfl; replace e3 := H.g 3 rfl rfl; replace e0 := H.k e0 rfl; clear H; refine hKq3 _ _ ?_; clear hKq3 Kq3; refine wp_ret ?_
  have By2 : Blk wy g2 84 (mcf r) := by simpa [putAll, mcf] using By
  exact sm_ret_box rfl hd e2 By2 Tryz.underlying84 rfl (by kernel_rfl) ⟨rfl, L3.grown gy L3.size (fun k hk => by cases hk; exact hgw)⟩
set_option maxRecDepth 100000 in
set_option maxHeartbeats 4000000 in
theorem hAgain_nil (w : World) : Calls Tryz.prog 18 #[.pointer none] w fun e w' => e = .returned (.int .i64 0) ∧ w = w' := by
  refine calls_sm (N := 9) Tryz.func18 rfl (by kernel_rfl) ?_
  intro a hs hd ha
  have e0 : a.tmps[0]? = some (.pointer none) := ha 0 _ rfl
  clear ha
  conv => arg 2; whnf
  refine wp_seq_k fun Kq1 hKq1 => ?_
  refine sm_list [] 2 1 hs hd (by kernel_rfl) agN rfl ?_
  simp only [seval]
  go_wp2_with fail
  intro a H; replace hs := H.s hs; replace hd := H.d rfl; replace e0 := H.k e0 rfl; have e2 := H.g 2 rfl rfl; clear H; refine hKq1 _ _ ?_; clear hKq1 Kq1; refine wp_seq_k fun Kq2 hKq2 => ?_; refine wp_seq_k fun Kq3 hKq3 => ?_
  refine sm_list [0] 3 2 hs hd (by kernel_rfl) (agC e0 agN) rfl ?_
  simp only [seval]
  go_wp2_with fail
  intro a H; replace hs := H.s hs; replace hd := H.d rfl; replace e0 := H.g 0 rfl rfl; replace e2 := H.k e2 rfl; have e4 := H.g 4 rfl rfl; clear H; refine hKq3 _ _ ?_; clear hKq3 Kq3
  refine wp_cond_true (slotE e4) ?_
  clear e4; refine wp_seq_k fun Kq4 hKq4 => ?_
  refine sm_list [] 2 1 hs hd (by kernel_rfl) agN rfl ?_
  simp only [seval]
  go_wp2_with fail
  intro a H; replace hs := H.s hs; replace hd := H.d rfl; replace e0 := H.k e0 rfl; replace e2 := H.g 2 rfl rfl; clear H; refine hKq4 _ _ ?_; clear hKq4 Kq4; refine wp_ret ?_; refine exit_then rfl ?_
  exact sm_ret rfl hd e2 ⟨rfl, rfl⟩
set_option maxRecDepth 100000 in
set_option maxHeartbeats 4000000 in
theorem hAgain_any (g : Nat) (x : Int) (cs : Array Value) (w : World) (B : Blk w g 77 cs) (hc : cs[5]? = some (.int .i64 x)) : Calls Tryz.prog 18 #[.pointer (some ⟨g, 0, none⟩)] w fun e w' => e = .returned (.int .i64 x) ∧ w = w' := by
  refine calls_sm (N := 9) Tryz.func18 rfl (by kernel_rfl) ?_
  intro a hs hd ha
  have e0 : a.tmps[0]? = some (.pointer (some ⟨g, 0, none⟩)) := ha 0 _ rfl
  clear ha
  conv => arg 2; whnf
  refine wp_seq_k fun Kq1 hKq1 => ?_
  have qx := B.cellOf 5 hc
  clear B hc
  refine sm_list [] 2 1 hs hd (by kernel_rfl) agN rfl ?_
  simp only [seval]
  go_wp2_with fail
  intro a H; replace hs := H.s hs; replace hd := H.d rfl; replace e0 := H.k e0 rfl; have e2 := H.g 2 rfl rfl; clear H; refine hKq1 _ _ ?_; clear hKq1 Kq1; refine wp_seq_k fun Kq2 hKq2 => ?_; refine wp_seq_k fun Kq3 hKq3 => ?_
  refine sm_list [0] 3 2 hs hd (by kernel_rfl) (agC e0 agN) rfl ?_
  simp only [seval]
  go_wp2_with fail
  intro a H; replace hs := H.s hs; replace hd := H.d rfl; replace e0 := H.g 0 rfl rfl; replace e2 := H.k e2 rfl; have e4 := H.g 4 rfl rfl; clear H; refine hKq3 _ _ ?_; clear hKq3 Kq3
  refine wp_cond_false (slotE e4) ?_
  clear e4; refine wp_skip ?_; refine hKq2 _ _ ?_; clear hKq2 Kq2; refine wp_seq_k fun Kq4 hKq4 => ?_
  refine sm_list [0, 2] 5 4 hs hd (by kernel_rfl) (agC e0 (agC e2 agN)) rfl ?_
  simp only [seval]
  go_wp2_with fail
  intro a H; replace hs := H.s hs; replace hd := H.d rfl; replace e0 := H.g 0 rfl rfl; replace e2 := H.g 2 rfl rfl; clear H; refine hKq4 _ _ ?_; clear hKq4 Kq4; refine wp_ret ?_
  exact sm_ret rfl hd e2 ⟨rfl, rfl⟩
set_option maxRecDepth 100000 in
set_option maxHeartbeats 4000000 in
theorem hStray_nil (w : World) : Calls Tryz.prog 19 #[.pointer none] w fun e w' => e = .returned (.int .i64 0) ∧ w = w' := by
  refine calls_sm (N := 9) Tryz.func19 rfl (by kernel_rfl) ?_
  intro a hs hd ha
  have e0 : a.tmps[0]? = some (.pointer none) := ha 0 _ rfl
  clear ha
  conv => arg 2; whnf
  refine wp_seq_k fun Kq1 hKq1 => ?_
  refine sm_list [] 2 1 hs hd (by kernel_rfl) agN rfl ?_
  simp only [seval]
  go_wp2_with fail
  intro a H; replace hs := H.s hs; replace hd := H.d rfl; replace e0 := H.k e0 rfl; have e2 := H.g 2 rfl rfl; clear H; refine hKq1 _ _ ?_; clear hKq1 Kq1; refine wp_seq_k fun Kq2 hKq2 => ?_; refine wp_seq_k fun Kq3 hKq3 => ?_
  refine sm_list [0] 3 2 hs hd (by kernel_rfl) (agC e0 agN) rfl ?_
  simp only [seval]
  go_wp2_with fail
  intro a H; replace hs := H.s hs; replace hd := H.d rfl; replace e0 := H.g 0 rfl rfl; replace e2 := H.k e2 rfl; have e4 := H.g 4 rfl rfl; clear H; refine hKq3 _ _ ?_; clear hKq3 Kq3
  refine wp_cond_true (slotE e4) ?_
  clear e4; refine wp_seq_k fun Kq4 hKq4 => ?_
  refine sm_list [] 2 1 hs hd (by kernel_rfl) agN rfl ?_
  simp only [seval]
  go_wp2_with fail
  intro a H; replace hs := H.s hs; replace hd := H.d rfl; replace e0 := H.k e0 rfl; replace e2 := H.g 2 rfl rfl; clear H; refine hKq4 _ _ ?_; clear hKq4 Kq4; refine wp_ret ?_; refine exit_then rfl ?_
  exact sm_ret rfl hd e2 ⟨rfl, rfl⟩
set_option maxRecDepth 100000 in
set_option maxHeartbeats 4000000 in
theorem hStray_any (g : Nat) (x : Int) (cs : Array Value) (w : World) (B : Blk w g 77 cs) (hc : cs[6]? = some (.int .i64 x)) : Calls Tryz.prog 19 #[.pointer (some ⟨g, 0, none⟩)] w fun e w' => e = .returned (.int .i64 x) ∧ w = w' := by
  refine calls_sm (N := 9) Tryz.func19 rfl (by kernel_rfl) ?_
  intro a hs hd ha
  have e0 : a.tmps[0]? = some (.pointer (some ⟨g, 0, none⟩)) := ha 0 _ rfl
  clear ha
  conv => arg 2; whnf
  refine wp_seq_k fun Kq1 hKq1 => ?_
  have qx := B.cellOf 6 hc
  clear B hc
  refine sm_list [] 2 1 hs hd (by kernel_rfl) agN rfl ?_
  simp only [seval]
  go_wp2_with fail
  intro a H; replace hs := H.s hs; replace hd := H.d rfl; replace e0 := H.k e0 rfl; have e2 := H.g 2 rfl rfl; clear H; refine hKq1 _ _ ?_; clear hKq1 Kq1; refine wp_seq_k fun Kq2 hKq2 => ?_; refine wp_seq_k fun Kq3 hKq3 => ?_
  refine sm_list [0] 3 2 hs hd (by kernel_rfl) (agC e0 agN) rfl ?_
  simp only [seval]
  go_wp2_with fail
  intro a H; replace hs := H.s hs; replace hd := H.d rfl; replace e0 := H.g 0 rfl rfl; replace e2 := H.k e2 rfl; have e4 := H.g 4 rfl rfl; clear H; refine hKq3 _ _ ?_; clear hKq3 Kq3
  refine wp_cond_false (slotE e4) ?_
  clear e4; refine wp_skip ?_; refine hKq2 _ _ ?_; clear hKq2 Kq2; refine wp_seq_k fun Kq4 hKq4 => ?_
  refine sm_list [0, 2] 5 4 hs hd (by kernel_rfl) (agC e0 (agC e2 agN)) rfl ?_
  simp only [seval]
  go_wp2_with fail
  intro a H; replace hs := H.s hs; replace hd := H.d rfl; replace e0 := H.g 0 rfl rfl; replace e2 := H.g 2 rfl rfl; clear H; refine hKq4 _ _ ?_; clear hKq4 Kq4; refine wp_ret ?_
  exact sm_ret rfl hd e2 ⟨rfl, rfl⟩
set_option maxRecDepth 100000 in
set_option maxHeartbeats 4000000 in
theorem hNode_nil (w : World) : Calls Tryz.prog 17 #[.pointer none] w fun e w' => e = .returned (.pointer none) ∧ w = w' := by
  refine calls_sm (N := 9) Tryz.func17 rfl (by kernel_rfl) ?_
  intro a hs hd ha
  have e0 : a.tmps[0]? = some (.pointer none) := ha 0 _ rfl
  clear ha
  conv => arg 2; whnf
  refine wp_seq_k fun Kq1 hKq1 => ?_
  refine sm_list [] 2 1 hs hd (by kernel_rfl) agN rfl ?_
  simp only [seval]
  go_wp2_with fail
  intro a H; replace hs := H.s hs; replace hd := H.d rfl; replace e0 := H.k e0 rfl; have e2 := H.g 2 rfl rfl; clear H; refine hKq1 _ _ ?_; clear hKq1 Kq1; refine wp_seq_k fun Kq2 hKq2 => ?_; refine wp_seq_k fun Kq3 hKq3 => ?_
  refine sm_list [0] 3 2 hs hd (by kernel_rfl) (agC e0 agN) rfl ?_
  simp only [seval]
  go_wp2_with fail
  intro a H; replace hs := H.s hs; replace hd := H.d rfl; replace e0 := H.g 0 rfl rfl; replace e2 := H.k e2 rfl; have e4 := H.g 4 rfl rfl; clear H; refine hKq3 _ _ ?_; clear hKq3 Kq3
  refine wp_cond_true (slotE e4) ?_
  clear e4; refine wp_seq_k fun Kq4 hKq4 => ?_
  refine sm_list [] 2 1 hs hd (by kernel_rfl) agN rfl ?_
  simp only [seval]
  go_wp2_with fail
  intro a H; replace hs := H.s hs; replace hd := H.d rfl; replace e0 := H.k e0 rfl; replace e2 := H.g 2 rfl rfl; clear H; refine hKq4 _ _ ?_; clear hKq4 Kq4; refine wp_ret ?_; refine exit_then rfl ?_
  exact sm_ret rfl hd e2 ⟨rfl, rfl⟩
set_option maxRecDepth 100000 in
set_option maxHeartbeats 4000000 in
theorem hNode_any (g : Nat) (gb : Nat) (cs : Array Value) (w : World) (B : Blk w g 77 cs) (hc : cs[0]? = some (.pointer (some ⟨gb, 0, none⟩))) : Calls Tryz.prog 17 #[.pointer (some ⟨g, 0, none⟩)] w fun e w' => e = .returned (.pointer (some ⟨gb, 0, none⟩)) ∧ w = w' := by
  refine calls_sm (N := 9) Tryz.func17 rfl (by kernel_rfl) ?_
  intro a hs hd ha
  have e0 : a.tmps[0]? = some (.pointer (some ⟨g, 0, none⟩)) := ha 0 _ rfl
  clear ha
  conv => arg 2; whnf
  refine wp_seq_k fun Kq1 hKq1 => ?_
  have qx := B.cellOf 0 hc
  clear B hc
  refine sm_list [] 2 1 hs hd (by kernel_rfl) agN rfl ?_
  simp only [seval]
  go_wp2_with fail
  intro a H; replace hs := H.s hs; replace hd := H.d rfl; replace e0 := H.k e0 rfl; have e2 := H.g 2 rfl rfl; clear H; refine hKq1 _ _ ?_; clear hKq1 Kq1; refine wp_seq_k fun Kq2 hKq2 => ?_; refine wp_seq_k fun Kq3 hKq3 => ?_
  refine sm_list [0] 3 2 hs hd (by kernel_rfl) (agC e0 agN) rfl ?_
  simp only [seval]
  go_wp2_with fail
  intro a H; replace hs := H.s hs; replace hd := H.d rfl; replace e0 := H.g 0 rfl rfl; replace e2 := H.k e2 rfl; have e4 := H.g 4 rfl rfl; clear H; refine hKq3 _ _ ?_; clear hKq3 Kq3
  refine wp_cond_false (slotE e4) ?_
  clear e4; refine wp_skip ?_; refine hKq2 _ _ ?_; clear hKq2 Kq2; refine wp_seq_k fun Kq4 hKq4 => ?_
  refine sm_list [0, 2] 5 4 hs hd (by kernel_rfl) (agC e0 (agC e2 agN)) rfl ?_
  simp only [seval]
  go_wp2_with fail
  intro a H; replace hs := H.s hs; replace hd := H.d rfl; replace e0 := H.g 0 rfl rfl; replace e2 := H.g 2 rfl rfl; clear H; refine hKq4 _ _ ?_; clear hKq4 Kq4; refine wp_ret ?_
  exact sm_ret rfl hd e2 ⟨rfl, rfl⟩
set_option maxRecDepth 100000 in
set_option maxHeartbeats 4000000 in
theorem hSend_nil (i : Int) (v : Value) (w : World) : Calls Tryz.prog 9 #[.pointer none, .int .i64 i, v] w fun e w' => e = .returned (.tuple #[.slice none 0 0, .int .i64 0, .int .i64 5]) ∧ w = w' := by
  refine calls_sm (N := 89) Tryz.func9 rfl (by kernel_rfl) ?_
  intro a hs hd ha
  have e0 : a.tmps[0]? = some (.pointer none) := ha 0 _ rfl
  have e1 : a.tmps[1]? = some (.int .i64 i) := ha 1 _ rfl
  have e2 : a.tmps[2]? = some (v) := ha 2 _ rfl
  clear ha
  conv => arg 2; whnf
  refine wp_seq_k fun Kq1 hKq1 => ?_
  refine sm_list [] 6 3 hs hd (by kernel_rfl) agN rfl ?_
  simp only [seval]
  go_wp2_with fail
  intro a H; replace hs := H.s hs; replace hd := H.d rfl; replace e0 := H.k e0 rfl; replace e1 := H.k e1 rfl; replace e2 := H.k e2 rfl; have e6 := H.g 6 rfl rfl; have e7 := H.g 7 rfl rfl; have e8 := H.g 8 rfl rfl; clear H; refine hKq1 _ _ ?_; clear hKq1 Kq1; refine wp_seq_k fun Kq2 hKq2 => ?_; refine wp_seq_k fun Kq3 hKq3 => ?_
  refine sm_list [0, 1] 16 26 hs hd (by kernel_rfl) (agC e0 (agC e1 agN)) rfl ?_
  simp only [seval]
  go_wp2_with fail
  intro a H; replace hs := H.s hs; replace hd := H.d rfl; replace e0 := H.g 0 rfl rfl; replace e1 := H.g 1 rfl rfl; replace e2 := H.k e2 rfl; replace e6 := H.k e6 rfl; replace e7 := H.k e7 rfl; replace e8 := H.k e8 rfl; have e41 := H.g 41 rfl rfl; clear H; refine hKq3 _ _ ?_; clear hKq3 Kq3
  refine wp_cond_true (slotE e41) ?_
  clear e41; refine wp_seq_k fun Kq4 hKq4 => ?_
  refine sm_list [] 6 3 hs hd (by kernel_rfl) agN rfl ?_
  simp only [seval]
  go_wp2_with fail
  intro a H; replace hs := H.s hs; replace hd := H.d rfl; replace e0 := H.k e0 rfl; replace e1 := H.k e1 rfl; replace e2 := H.k e2 rfl; replace e6 := H.g 6 rfl rfl; replace e7 := H.g 7 rfl rfl; replace e8 := H.g 8 rfl rfl; clear H; refine hKq4 _ _ ?_; clear hKq4 Kq4; refine wp_ret ?_; refine exit_then rfl ?_
  exact sm_ret3 rfl hd e6 e7 e8 ⟨rfl, rfl⟩

end Go.Proofs.YthhlfojaloaooaaGreat
