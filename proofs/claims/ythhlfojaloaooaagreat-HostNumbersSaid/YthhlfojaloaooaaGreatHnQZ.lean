/-
  fdb: which ports a VLAN has.
-/
import Derived.Test.YthhlfojaloaooaaGreatRows
import Derived.Test.YthhlfojaloaooaaGreatHnPZ
import Derived.WalkKit
import Derived.ProofKit
import Derived.OpenShut
import Derived.LoopTactic
import Derived.WalkLawsBesides
import Derived.WalkSpells
import Derived.Outline
import Derived.Lib.Hide
import Derived.Deep.DrawnRows
import Derived.Laws.CopyOwn
import Derived.MapKept
namespace Go.Proofs.YthhlfojaloaooaaGreat
set_option linter.unusedSimpArgs false
set_option linter.unusedVariables false
open Go.RowKit Go.WideShapes Go.ChangeShapes
attribute [local go_sem ↓] Go.wp_at_zero Go.wp_at_succ

section
variable {P : Program}
/-- The first entry of a map by whole numbers. -/
def mapSet (w : World) (r : Nat) (es : Array MapEntry) (c : Nat) : World := { w with heap := w.heap.setIfInBounds r (.map es c) }
theorem run_mapUpdate_int1 (w : World) (mty kt et : TypeId) (r clock : Nat) (ik : IntKind) (x : Int) (val : Value) (hm : P.underlying mty = some (.map kt et)) (hk : P.underlying kt = some (.int ik)) (hb : w.heap[r]? = some (.map #[] clock)) :
    (Instr.mapUpdate mty (.map (some r)) (.int ik x) val).run P w = .ok () (mapSet w r #[{ key := .int ik x, val := val, born := clock }] (clock + 1)) := by
  have hf : Instr.findNow (.int ik) (.int ik x) ([] : List MapEntry) 0 = some none := rfl
  have hc : (Instr.checkKey false 10000 kt (.int ik x)).run P w = .ok () w := MapKept.run_checkKey (k := .int ik x) hk (by simp [MapKept.IsKey]) false 9999
  simp [Instr.mapUpdate, run_underlying hm, MapKept.run_getObj_map hb, hc, MapKept.run_findKey hk hf, MapKept.run_setObj_map _ hb, Result.andThen, mapSet]
end
theorem gr_mapSet (w : World) (r : Nat) (es : Array MapEntry) (c : Nat) : w.grownBy (mapSet w r es c) (some r) :=
  ⟨rfl, rfl, rfl, by simp [mapSet], fun k hk hne => by show (w.heap.setIfInBounds r _)[k]? = _; exact Array.getElem?_setIfInBounds_ne (by intro e; exact hne (by rw [e]))⟩
set_option maxRecDepth 100000 in
set_option maxHeartbeats 4000000 in
theorem fdVid_one (w : World) : Calls Tryz.prog 51 #[.int .i64 1] w fun e w' => e = .returned (.bool true) ∧ Below w.heap.size w w' := by
  refine calls_sm (N := 9) Tryz.func51 rfl (by kernel_rfl) ?_
  intro a hs hd ha
  have e0 : a.tmps[0]? = some (.int .i64 1) := ha 0 _ rfl
  clear ha
  conv => arg 2; whnf
  refine wp_seq_k fun Kq1 hKq1 => ?_
  refine sm_list [] 2 1 hs hd (by kernel_rfl) agN rfl ?_
  simp only [seval]
  go_wp2_with fail
  intro a H; replace hs := H.s hs; replace hd := H.d rfl; replace e0 := H.k e0 rfl; have e2 := H.g 2 rfl rfl; clear H; refine hKq1 _ _ ?_; clear hKq1 Kq1; refine wp_seq_k fun Kq2 hKq2 => ?_
  refine sm_list [0] 2 7 hs hd (by kernel_rfl) (agC e0 agN) rfl ?_
  simp only [seval]
  go_wp2_with fail
  intro a H; replace hs := H.s hs; replace hd := H.d rfl; replace e0 := H.g 0 rfl rfl; replace e2 := H.g 2 rfl rfl; clear H; refine hKq2 _ _ ?_; clear hKq2 Kq2; refine wp_ret ?_
  exact sm_ret rfl hd e2 ⟨rfl, Below.refl _ _⟩
end Go.Proofs.YthhlfojaloaooaaGreat
