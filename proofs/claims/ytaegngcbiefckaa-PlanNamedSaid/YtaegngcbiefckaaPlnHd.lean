/-
  The document's example: the network Named(2, 2) and its plan, plain.
-/
import Derived.Test.YtaegngcbiefckaaPlnNp
namespace Go.Proofs.Ytaegngcbiefckaa
set_option linter.unusedSimpArgs false
set_option linter.unusedVariables false
open Go.RowKit Go.WideShapes Go.ChangeShapes

def hdB : Bool := match makeV (fl2 2 8) with
  | .ok (S, W) => W.length == 8 && W[0]? == some (4380, 4400)
  | .error _ => false
theorem hd_true : hdB = true := by kernel_rfl
theorem hd_ok : ∃ S W, makeV (fl2 2 8) = .ok (S, W) ∧ W.length = 8 ∧ W[0]? = some (4380, 4400) := by
  have h := hd_true
  unfold hdB at h
  cases hm : makeV (fl2 2 8) with
  | error e => rw [hm] at h; cases h
  | ok r =>
    obtain ⟨S, W⟩ := r
    rw [hm] at h
    simp only [Bool.and_eq_true, beq_iff_eq] at h
    exact ⟨S, W, rfl, h.1, h.2⟩
theorem hd_lens : (fl2 2 8).nodes.length = 4 ∧ (fl2 2 8).links.length = 4 ∧ (fl2 2 8).flows.length = 8 := by
  refine ⟨?_, ?_, ?_⟩ <;> kernel_rfl
end Go.Proofs.Ytaegngcbiefckaa
