/-
  The agenda's list: Less, Swap, and how a method is found through an interface value.
-/
import Derived.Test.YtkocedbpnpclcaaRows
import Derived.Test.YtkocedbpnpclcaaHeapM
import Derived.WalkKit
import Derived.ProofKit
import Derived.OpenShut
import Derived.LoopTactic
import Derived.WalkLawsBesides
import Derived.WalkSpells
import Derived.Outline
import Derived.Lib.Hide
import Derived.Deep.Light
import Derived.Deep.RegionHeld3
import Derived.Deep.DrawnRows
import Derived.BigQuiet
import Derived.StillTailTactics
import Derived.Maps.OwnSet
namespace Go.Proofs.Ytkocedbpnpclcaa
set_option linter.unusedSimpArgs false
set_option linter.unusedVariables false
open Go.RowKit Go.WideShapes Go.ChangeShapes
attribute [local go_sem ↓] Go.wp_at_zero Go.wp_at_succ

abbrev HLI := HL 56 54 .i64
theorem load_listI {w : World} {p : Addr} {v : Value} (h : w.cell? p = some v) : (loadVar 51 p).run Try.prog w = .ok v w := by
  have hagg : (isAgg 51).run Try.prog w = .ok false w := by
    unfold isAgg
    rw [Sem.run_bind, run_underlying Try.underlying51 w]
    rfl
  unfold loadVar
  rw [Sem.run_bind, hagg]
  show (load p).run Try.prog w = _
  rw [run_load, h]
theorem meth_raw_lessI (n : Nat) (p : Addr) (w : World) : (method (n + 1) 58 (.pointer (some p)) "Less").run Try.prog w = (do let v ← loadVar 51 p; pure ((45 : FuncId), v) : Sem (FuncId × Value)).run Try.prog w := by kernel_rfl
theorem meth_lessI (n : Nat) {p : Addr} {v : Value} {w : World} (h : w.cell? p = some v) : (method (n + 1) 58 (.pointer (some p)) "Less").run Try.prog w = .ok (45, v) w := by
  rw [meth_raw_lessI, Sem.run_bind, load_listI h]
  rfl
set_option maxRecDepth 100000 in
set_option maxHeartbeats 4000000 in
theorem less_anyI (w : World) (ga c n : Nat) (xs : List El) (h : HLI w ga c xs) (hn : xs.length = n) (i k : Nat) (a b : El) (ha : xs[i]? = some a) (hb : xs[k]? = some b) :
    Calls Try.prog 45 #[.slice (some ⟨ga, 0, none⟩) n c, .int .i64 (i : Int), .int .i64 (k : Int)] w fun e w' => e = .returned (.bool (decide (a.lt b))) ∧ Below w.heap.size w w' := by
  have hi : i < n := hn ▸ at_lt ha
  have hk : k < n := hn ▸ at_lt hb
  have x0 := h.ptr_at ha
  have y0 := h.ptr_at hb
  have A := h.itm i a ha
  have B := h.itm k b hb
  have a0 := A.cellOf (v := .int .i64 a.it.at_) 0 rfl
  have a1 := A.cellOf (v := .int .i64 a.it.turn) 1 rfl
  have b0 := B.cellOf (v := .int .i64 b.it.at_) 0 rfl
  have b1 := B.cellOf (v := .int .i64 b.it.turn) 1 rfl
  have l1 := A.lt
  have l2 := B.lt
  have l0 := h.lt
  clear h hn A B ha hb
  have hcase : ∃ r : Bool, decide (a.lt b) = r ∧ (r = true ∧ a.it.at_ < b.it.at_ ∨ r = decide (a.it.turn < b.it.turn) ∧ decide (a.it.at_ < b.it.at_) = false ∧ (a.it.at_ == b.it.at_) = true ∨ r = false ∧ decide (a.it.at_ < b.it.at_) = false ∧ (a.it.at_ == b.it.at_) = false) := by
    refine ⟨_, rfl, ?_⟩
    have e : (a.lt b) = (a.it.at_ < b.it.at_ ∨ a.it.at_ = b.it.at_ ∧ a.it.turn < b.it.turn) := rfl
    rw [show decide (a.lt b) = decide (a.it.at_ < b.it.at_ ∨ a.it.at_ = b.it.at_ ∧ a.it.turn < b.it.turn) from by simp [e]]
    by_cases h1 : a.it.at_ < b.it.at_
    · exact .inl ⟨by simp [h1], h1⟩
    · by_cases h2 : a.it.at_ = b.it.at_
      · exact .inr (.inl ⟨by simp [h2], by simp [h1], by simp [h2]⟩)
      · exact .inr (.inr ⟨by simp [h1, h2], by simp [h1], by simp [h2]⟩)
  obtain ⟨r, hr, hcase⟩ := hcase
  rw [hr]
  clear hr
  go_enter Try.func45, Try.ntmps45
  go_wp2_with fail
  refine wp_region_class (fun w' => Below w.heap.size w w') (by kernel_rfl) (by kernel_rfl) (Below.refl _ _).drew ?_
  rcases hcase with ⟨rfl, h1⟩ | ⟨rfl, h1, h2⟩ | ⟨rfl, h1, h2⟩
  all_goals
    repeat (first | (with_reducible (refine wpQuiet_skip ?_ ?_); (first | exact wanted_off rfl rfl rfl rfl | exact wanted_off2 rfl rfl rfl); simp only [Act.put, List.setIfInBounds_toArray, List.set_cons_zero, List.set_cons_succ]) | (with_reducible (refine wpQuiet_val (v := ?_) ?_ ?_ ?_); rotate_left; (first | exact wanted_none rfl | exact wanted_on rfl rfl rfl); (intro w' hw'; obtain ⟨hc, hf⟩ := bcell hw'; go_simp; with_reducible rfl); simp only [Act.put, List.setIfInBounds_toArray, List.set_cons_zero, List.set_cons_succ]))
    refine wpQuiet_nil ?_
    intro w4 hw4
    go_wp2_with fail
    go_ret
    exact ⟨rfl, hw4⟩
end Go.Proofs.Ytkocedbpnpclcaa
