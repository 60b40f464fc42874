/-
  host: In of none.
-/
import Derived.Test.YthhlfojaloaooaaGreatRows
import Derived.Test.YthhlfojaloaooaaGreatHnLZ
import Derived.WalkKit
import Derived.ProofKit
import Derived.OpenShut
import Derived.LoopTactic
import Derived.WalkLawsBesides
import Derived.WalkSpells
import Derived.Outline
import Derived.Lib.Hide
import Derived.Deep.DrawnRows
import Derived.Laws.CopyOwn
import Derived.MapKept
namespace Go.Proofs.YthhlfojaloaooaaGreat
set_option linter.unusedSimpArgs false
set_option linter.unusedVariables false
open Go.RowKit Go.WideShapes Go.ChangeShapes
attribute [local go_sem ↓] Go.wp_at_zero Go.wp_at_succ

set_option maxRecDepth 100000 in
set_option maxHeartbeats 4000000 in
theorem hIn_nil (p : Int) (v x : Value) (w : World) : Calls Tryz.prog 15 #[.pointer none, .int .i64 p, v, x] w fun e w' => e = .returned (.tuple #[.slice none 0 0, .slice none 0 0]) ∧ w = w' := by
  refine calls_sm (N := 138) Tryz.func15 rfl (by kernel_rfl) ?_
  intro a hs hd ha
  have e0 : a.tmps[0]? = some (.pointer none) := ha 0 _ rfl
  have e1 : a.tmps[1]? = some (.int .i64 p) := ha 1 _ rfl
  have e2 : a.tmps[2]? = some (v) := ha 2 _ rfl
  have e3 : a.tmps[3]? = some (x) := ha 3 _ rfl
  clear ha
  conv => arg 2; whnf
  refine wp_seq_k fun Kq1 hKq1 => ?_
  refine sm_list [] 8 2 hs hd (by kernel_rfl) agN rfl ?_
  simp only [seval]
  go_wp2_with fail
  intro a H; replace hs := H.s hs; replace hd := H.d rfl; replace e0 := H.k e0 rfl; replace e1 := H.k e1 rfl; replace e2 := H.k e2 rfl; replace e3 := H.k e3 rfl; have e8 := H.g 8 rfl rfl; have e9 := H.g 9 rfl rfl; clear H; refine hKq1 _ _ ?_; clear hKq1 Kq1
  refine wp_scope_straight ?_
  refine wp_seq_k fun Kq2 hKq2 => ?_; refine wp_seq_k fun Kq3 hKq3 => ?_
  refine sm_list [0] 21 2 hs hd (by kernel_rfl) (agC e0 agN) rfl ?_
  simp only [seval]
  go_wp2_with fail
  intro a H; replace hs := H.s hs; replace hd := H.d rfl; replace e0 := H.g 0 rfl rfl; replace e1 := H.k e1 rfl; replace e2 := H.k e2 rfl; replace e3 := H.k e3 rfl; replace e8 := H.k e8 rfl; replace e9 := H.k e9 rfl; have e22 := H.g 22 rfl rfl; clear H; refine hKq3 _ _ ?_; clear hKq3 Kq3
  refine wp_cond_true (slotE e22) ?_
  clear e22; refine wp_seq_k fun Kq4 hKq4 => ?_
  refine sm_list [] 8 2 hs hd (by kernel_rfl) agN rfl ?_
  simp only [seval]
  go_wp2_with fail
  intro a H; replace hs := H.s hs; replace hd := H.d rfl; replace e0 := H.k e0 rfl; replace e1 := H.k e1 rfl; replace e2 := H.k e2 rfl; replace e3 := H.k e3 rfl; replace e8 := H.g 8 rfl rfl; replace e9 := H.g 9 rfl rfl; clear H; refine hKq4 _ _ ?_; clear hKq4 Kq4; refine wp_ret ?_; refine exit_then rfl ?_
  refine scope_ok trivial ?_
  exact sm_ret2 rfl hd e8 e9 ⟨rfl, rfl⟩

end Go.Proofs.YthhlfojaloaooaaGreat
