/-
  bridge: what it is made of (peer, pair).
-/
import Derived.Test.YthhlfojaloaooaaGreatRows
import Derived.Test.YthhlfojaloaooaaGreatHnNZ
import Derived.WalkKit
import Derived.ProofKit
import Derived.OpenShut
import Derived.LoopTactic
import Derived.WalkLawsBesides
import Derived.WalkSpells
import Derived.Outline
import Derived.Lib.Hide
import Derived.Deep.DrawnRows
import Derived.Laws.CopyOwn
import Derived.MapKept
namespace Go.Proofs.YthhlfojaloaooaaGreat
set_option linter.unusedSimpArgs false
set_option linter.unusedVariables false
open Go.RowKit Go.WideShapes Go.ChangeShapes
attribute [local go_sem ↓] Go.wp_at_zero Go.wp_at_succ

set_option maxRecDepth 100000 in
set_option maxHeartbeats 4000000 in
theorem peCheck_ok (id port : Int) (hi : 0 ≤ id ∧ id < 281474976710656) (hp : 0 ≤ port ∧ port ≤ 65535) (w : World) : Calls Tryz.prog 54 #[.agg #[.int .i64 id, .int .i64 port, .int .i64 1099511627776, .int .i64 134217728, .int .i64 8, .int .i64 3]] w fun e w' => e = .returned (.int .i64 0) ∧ Below w.heap.size w w' := by
  refine calls_sm (N := 61) Tryz.func54 rfl (by kernel_rfl) ?_
  intro a hs hd ha
  have e0 : a.tmps[0]? = some (.agg #[.int .i64 id, .int .i64 port, .int .i64 1099511627776, .int .i64 134217728, .int .i64 8, .int .i64 3]) := ha 0 _ rfl
  clear ha
  conv => arg 2; whnf
  refine wp_seq_k fun Kq1 hKq1 => ?_
  refine sm_list [0] 1 2 hs hd (by kernel_rfl) (agC e0 agN) rfl ?_
  simp only [seval]
  go_wp2_with fail
  intro a H; replace hs := H.s hs; replace hd := H.d rfl; replace e0 := H.g 0 rfl rfl; have e1 := H.g 1 rfl rfl; have e2 := H.g 2 rfl rfl; clear H; refine hKq1 _ _ ?_; clear hKq1 Kq1; refine wp_seq_k fun Kq2 hKq2 => ?_; refine wp_seq_k fun Kq3 hKq3 => ?_
  have B := Blk.new w 127 #[.int .i64 id, .int .i64 port, .int .i64 1099511627776, .int .i64 134217728, .int .i64 8, .int .i64 3]
  have L1 := (Below.refl w.heap.size w).alloc (Nat.le_refl _) (.cells #[.int .i64 id, .int .i64 port, .int .i64 1099511627776, .int .i64 134217728, .int .i64 8, .int .i64 3] 127)
  generalize hw1 : w.alloc (.cells #[.int .i64 id, .int .i64 port, .int .i64 1099511627776, .int .i64 134217728, .int .i64 8, .int .i64 3] 127) = w1 at B L1 ⊢
  have q0 := B.cellOf (v := .int .i64 id) 0 rfl
  have q1 := B.cellOf (v := .int .i64 port) 1 rfl
  have q2 := B.cellOf (v := .int .i64 1099511627776) 2 rfl
  have q3 := B.cellOf (v := .int .i64 134217728) 3 rfl
  have q4 := B.cellOf (v := .int .i64 8) 4 rfl
  have q5 := B.cellOf (v := .int .i64 3) 5 rfl
  have d1 : decide (id < 0) = false := decide_eq_false (by omega)
  have d2 : decide ((281474976710656 : Int) ≤ id) = false := decide_eq_false (by omega)
  have d3 : decide (port < 0) = false := decide_eq_false (by omega)
  have d4 : decide ((65535 : Int) < port) = false := decide_eq_false (by omega)
  clear B hw1
  refine sm_list [1] 3 58 hs hd (by kernel_rfl) (agC e1 agN) rfl ?_
  simp only [seval]
  go_wp2_with fail
  intro a H; replace hs := H.s hs; replace hd := H.d rfl; replace e1 := H.g 1 rfl rfl; replace e0 := H.k e0 rfl; replace e2 := H.k e2 rfl; have e60 := H.g 60 rfl rfl; clear H; refine hKq3 _ _ ?_; clear hKq3 Kq3
  refine wp_cond_false (slotE e60) ?_
  clear e60; refine wp_skip ?_; refine hKq2 _ _ ?_; clear hKq2 Kq2; refine wp_seq_k fun Kq4 hKq4 => ?_
  refine sm_list [] 2 1 hs hd (by kernel_rfl) agN rfl ?_
  simp only [seval]
  go_wp2_with fail
  intro a H; replace hs := H.s hs; replace hd := H.d rfl; replace e0 := H.k e0 rfl; replace e1 := H.k e1 rfl; replace e2 := H.g 2 rfl rfl; clear H; refine hKq4 _ _ ?_; clear hKq4 Kq4; refine wp_ret ?_
  exact sm_ret rfl hd e2 ⟨rfl, L1⟩
set_option maxRecDepth 100000 in
set_option maxHeartbeats 4000000 in
theorem peNew_ok' (id port : Int) (hi : 0 ≤ id ∧ id < 281474976710656) (hp : 0 ≤ port ∧ port ≤ 65535) (w : World) : Calls Tryz.prog 36 #[.agg #[.int .i64 id, .int .i64 port, .int .i64 1099511627776, .int .i64 134217728, .int .i64 8, .int .i64 3]] w fun e w' => ∃ g, e = .returned (.tuple #[.pointer (some ⟨g, 0, none⟩), .int .i64 0]) ∧ Below w.heap.size w w' := by
  refine calls_sm (N := 13) Tryz.func36 rfl (by kernel_rfl) ?_
  intro a hs hd ha
  have e0 : a.tmps[0]? = some (.agg #[.int .i64 id, .int .i64 port, .int .i64 1099511627776, .int .i64 134217728, .int .i64 8, .int .i64 3]) := ha 0 _ rfl
  clear ha
  conv => arg 2; whnf
  refine wp_seq_k fun Kq1 hKq1 => ?_
  refine sm_list [0] 1 3 hs hd (by kernel_rfl) (agC e0 agN) rfl ?_
  simp only [seval]
  go_wp2_with fail
  intro a H; replace hs := H.s hs; replace hd := H.d rfl; replace e0 := H.g 0 rfl rfl; have e1 := H.g 1 rfl rfl; have e2 := H.g 2 rfl rfl; have e3 := H.g 3 rfl rfl; clear H; refine hKq1 _ _ ?_; clear hKq1 Kq1; refine wp_seq_k fun Kq2 hKq2 => ?_; refine wp_seq_k fun Kq3 hKq3 => ?_
  have B := Blk.new w 127 #[.int .i64 id, .int .i64 port, .int .i64 1099511627776, .int .i64 134217728, .int .i64 8, .int .i64 3]
  have L1 := (Below.refl w.heap.size w).alloc (Nat.le_refl _) (.cells #[.int .i64 id, .int .i64 port, .int .i64 1099511627776, .int .i64 134217728, .int .i64 8, .int .i64 3] 127)
  generalize hw1 : w.alloc (.cells #[.int .i64 id, .int .i64 port, .int .i64 1099511627776, .int .i64 134217728, .int .i64 8, .int .i64 3] 127) = w1 at B L1 ⊢
  obtain ⟨q, hq⟩ : ∃ q, q = w.heap.size := ⟨_, rfl⟩
  rw [← hq] at B e1
  clear hw1 hq
  refine sm_list [1] 4 3 hs hd (by kernel_rfl) (agC e1 agN) rfl ?_
  simp only [seval]
  go_wp2_with (first | (refine wpList_load_any_d rfl 127 (.tmp 0) rfl ⟨q, 0, none⟩ rfl #[.int .i64 id, .int .i64 port, .int .i64 1099511627776, .int .i64 134217728, .int .i64 8, .int .i64 3] _ (blk_cells B) Tryz.underlying127 rfl (by kernel_rfl) ?_) | fail)
  refine (peCheck_ok id port hi hp w1).mono ?_
  rintro e w2 ⟨rfl, hb2⟩
  go_wp2_with fail
  intro a H; replace hs := H.s hs; replace hd := H.d rfl; replace e1 := H.g 1 rfl rfl; replace e0 := H.k e0 rfl; replace e2 := H.k e2 rfl; replace e3 := H.k e3 rfl; have e4 := H.g 4 rfl rfl; clear H; refine hKq3 _ _ ?_; clear hKq3 Kq3; refine wp_seq_k fun Kq4 hKq4 => ?_
  refine sm_list [4] 7 2 hs hd (by kernel_rfl) (agC e4 agN) rfl ?_
  simp only [seval]
  go_wp2_with fail
  intro a H; replace hs := H.s hs; replace hd := H.d rfl; replace e4 := H.g 4 rfl rfl; replace e0 := H.k e0 rfl; replace e1 := H.k e1 rfl; replace e2 := H.k e2 rfl; replace e3 := H.k e3 rfl; have e8 := H.g 8 rfl rfl; clear H; refine hKq4 _ _ ?_; clear hKq4 Kq4
  refine wp_cond_false (slotE e8) ?_
  clear e8; refine wp_skip ?_; refine hKq2 _ _ ?_; clear hKq2 Kq2; refine wp_seq_k fun Kq5 hKq5 => ?_
  have B2 := B.kept hb2
  have L2 := L1.trans (hb2.mono L1.size)
  refine sm_list [1, 2, 3] 10 3 hs hd (by kernel_rfl) (agC e1 (agC e2 (agC e3 agN))) rfl ?_
  simp only [seval]
  go_wp2_with (first | (refine wpList_load_any_d rfl 127 (.tmp 0) rfl ⟨q, 0, none⟩ rfl #[.int .i64 id, .int .i64 port, .int .i64 1099511627776, .int .i64 134217728, .int .i64 8, .int .i64 3] _ (blk_cells B2) Tryz.underlying127 rfl (by kernel_rfl) ?_) | fail)
  intro a H; replace hs := H.s hs; replace hd := H.d rfl; replace e1 := H.g 1 rfl rfl; replace e0 := H.k e0 rfl; replace e4 := H.k e4 rfl; replace e2 := H.g 2 rfl rfl; replace e3 := H.g 3 rfl rfl; clear H; refine hKq5 _ _ ?_; clear hKq5 Kq5; refine wp_ret ?_
  exact sm_ret2 rfl hd e2 e3 ⟨w2.heap.size, rfl, L2.alloc L2.size _⟩
set_option maxRecDepth 100000 in
set_option maxHeartbeats 4000000 in
theorem syNew_any (d : Int) (w : World) : Calls Tryz.prog 55 #[.int .i64 d] w fun e w' => ∃ g, e = .returned (.pointer (some ⟨g, 0, none⟩)) ∧ Below w.heap.size w w' := by
  refine calls_sm (N := 6) Tryz.func55 rfl (by kernel_rfl) ?_
  intro a hs hd ha
  have e0 : a.tmps[0]? = some (.int .i64 d) := ha 0 _ rfl
  clear ha
  conv => arg 2; whnf
  refine wp_seq_k fun Kq1 hKq1 => ?_
  refine sm_list [] 2 1 hs hd (by kernel_rfl) agN rfl ?_
  simp only [seval]
  go_wp2_with fail
  intro a H; replace hs := H.s hs; replace hd := H.d rfl; replace e0 := H.k e0 rfl; have e2 := H.g 2 rfl rfl; clear H; refine hKq1 _ _ ?_; clear hKq1 Kq1; refine wp_seq_k fun Kq2 hKq2 => ?_
  refine sm_list [0] 2 4 hs hd (by kernel_rfl) (agC e0 agN) rfl ?_
  simp only [seval]
  go_wp2_with fail
  intro a H; replace hs := H.s hs; replace hd := H.d rfl; replace e0 := H.g 0 rfl rfl; replace e2 := H.g 2 rfl rfl; clear H; refine hKq2 _ _ ?_; clear hKq2 Kq2; refine wp_ret ?_
  exact sm_ret rfl hd e2 ⟨w.heap.size, rfl, (Below.refl _ _).alloc (Nat.le_refl _) _⟩
set_option maxRecDepth 100000 in
set_option maxHeartbeats 4000000 in
theorem paNew_any (most : Int) (w : World) : Calls Tryz.prog 38 #[.int .i64 most] w fun e w' => ∃ v k, e = .returned (.tuple #[.pointer v, .int .i64 k]) ∧ Below w.heap.size w w' := by
  refine calls_sm (N := 12) Tryz.func38 rfl (by kernel_rfl) ?_
  intro a hs hd ha
  have e0 : a.tmps[0]? = some (.int .i64 most) := ha 0 _ rfl
  clear ha
  conv => arg 2; whnf
  refine wp_seq_k fun Kq1 hKq1 => ?_
  by_cases hm : most < 1
  · have d1 : decide (most < 1) = true := decide_eq_true hm
    refine sm_list [] 2 2 hs hd (by kernel_rfl) agN rfl ?_
    simp only [seval]
    go_wp2_with fail
    intro a H; replace hs := H.s hs; replace hd := H.d rfl; replace e0 := H.k e0 rfl; have e2 := H.g 2 rfl rfl; have e3 := H.g 3 rfl rfl; clear H; refine hKq1 _ _ ?_; clear hKq1 Kq1; refine wp_seq_k fun Kq2 hKq2 => ?_; refine wp_seq_k fun Kq3 hKq3 => ?_
    refine sm_list [0] 4 2 hs hd (by kernel_rfl) (agC e0 agN) rfl ?_
    simp only [seval]
    go_wp2_with fail
    intro a H; replace hs := H.s hs; replace hd := H.d rfl; replace e0 := H.g 0 rfl rfl; replace e2 := H.k e2 rfl; replace e3 := H.k e3 rfl; have e5 := H.g 5 rfl rfl; clear H; refine hKq3 _ _ ?_; clear hKq3 Kq3
    refine wp_cond_true (slotE e5) ?_
    clear e5; refine wp_seq_k fun Kq4 hKq4 => ?_
    refine sm_list [] 2 2 hs hd (by kernel_rfl) agN rfl ?_
    simp only [seval]
    go_wp2_with fail
    intro a H; replace hs := H.s hs; replace hd := H.d rfl; replace e0 := H.k e0 rfl; replace e2 := H.g 2 rfl rfl; replace e3 := H.g 3 rfl rfl; clear H; refine hKq4 _ _ ?_; clear hKq4 Kq4; refine wp_ret ?_; refine exit_then rfl ?_
    exact sm_ret2 rfl hd e2 e3 ⟨_, _, rfl, Below.refl _ _⟩
  have d1 : decide (most < 1) = false := decide_eq_false hm
  refine sm_list [] 2 2 hs hd (by kernel_rfl) agN rfl ?_
  simp only [seval]
  go_wp2_with fail
  intro a H; replace hs := H.s hs; replace hd := H.d rfl; replace e0 := H.k e0 rfl; have e2 := H.g 2 rfl rfl; have e3 := H.g 3 rfl rfl; clear H; refine hKq1 _ _ ?_; clear hKq1 Kq1; refine wp_seq_k fun Kq2 hKq2 => ?_; refine wp_seq_k fun Kq3 hKq3 => ?_
  refine sm_list [0] 4 2 hs hd (by kernel_rfl) (agC e0 agN) rfl ?_
  simp only [seval]
  go_wp2_with fail
  intro a H; replace hs := H.s hs; replace hd := H.d rfl; replace e0 := H.g 0 rfl rfl; replace e2 := H.k e2 rfl; replace e3 := H.k e3 rfl; have e5 := H.g 5 rfl rfl; clear H; refine hKq3 _ _ ?_; clear hKq3 Kq3
  refine wp_cond_false (slotE e5) ?_
  clear e5; refine wp_skip ?_; refine hKq2 _ _ ?_; clear hKq2 Kq2; refine wp_seq_k fun Kq4 hKq4 => ?_
  refine sm_list [0, 2, 3] 6 6 hs hd (by kernel_rfl) (agC e0 (agC e2 (agC e3 agN))) rfl ?_
  simp only [seval]
  go_wp2_with fail
  refine (syNew_any 0 w).mono ?_
  rintro e w2 ⟨g0, rfl, hb2⟩
  go_wp2_with fail
  refine (syNew_any 1 w2).mono ?_
  rintro e w3 ⟨g1, rfl, hb3⟩
  have L3 := hb2.trans (hb3.mono hb2.size)
  go_wp2_with fail
  intro a H; replace hs := H.s hs; replace hd := H.d rfl; replace e0 := H.g 0 rfl rfl; replace e2 := H.g 2 rfl rfl; replace e3 := H.g 3 rfl rfl; clear H; refine hKq4 _ _ ?_; clear hKq4 Kq4; refine wp_ret ?_
  exact sm_ret2 rfl hd e2 e3 ⟨_, _, rfl, L3.alloc L3.size _⟩
end Go.Proofs.YthhlfojaloaooaaGreat
