/-
  The two ways to say what a port is to do are one, where steps are not too many.
-/
import Derived.Test.YtcdgofndfajekaaBestPlain
import Derived.Test.YtcdgofndfajekaaBestRef
namespace Go.Proofs.Ytcdgofndfajekaa
set_option linter.unusedSimpArgs false
set_option linter.unusedVariables false
open Go.RowKit Go.WideShapes Go.ChangeShapes

/-! ### The plain law: the two ways to say what a port is to do are one, where steps are not too many -/
def Fit (h : Hd) : Prop := -1099511627776 ≤ h.vec.steps ∧ h.vec.steps ≤ 1099511627776
theorem top_fit (own : Pr) (hs : List Hd) (hf : ∀ h ∈ hs, Fit h) : -1099511627776 ≤ (topOf own hs).steps ∧ (topOf own hs).steps ≤ 1099511627776 := by
  rcases topOf_good own hs with ⟨h1, _⟩ | ⟨j, h, h1, _, h3, _⟩
  · rw [h1]; simp [ownVec]
  · rw [h3]; exact hf h (List.mem_of_getElem? h1)
theorem cmpI_shift (a b : Int) : cmpI a (b + 1) = cmpI (a - 1) b := by unfold cmpI; repeat' split; all_goals omega
theorem role_same (own : Pr) (top : Vc) (i : Nat) (h : Hd) (hf : Fit h) (ht : -1099511627776 ≤ top.steps ∧ top.steps ≤ 1099511627776) : roleOf own top i h = refRole own top i h := by
  obtain ⟨f1, f2⟩ := hf
  unfold roleOf refRole
  by_cases hu : h.up = false
  · rw [if_pos hu, if_pos hu]
  · rw [if_neg hu, if_neg hu]
    by_cases ha : 0 ≤ top.at_
    · rw [if_pos ha]
      by_cases hi : (i : Int) = top.at_
      · rw [if_pos hi, if_pos hi]
      · rw [if_neg hi, if_neg hi]
        have e1 : wrap64 (top.steps + 1) = top.steps + 1 := IntWalk.wrap64_in _ ⟨by omega, by omega⟩
        have e2 : wrap64 (h.vec.steps - 1) = h.vec.steps - 1 := IntWalk.wrap64_in _ ⟨by omega, by omega⟩
        have e3 : cmpV { h.vec with at_ := 0 } (mineOf own top i) = cmpV ⟨h.vec.root, wrap64 (h.vec.steps - 1), h.vec.src, h.vec.port, 0⟩ ⟨top.root, top.steps, own.id, i, 0⟩ := by
          unfold mineOf cmpV
          simp only [if_neg (show ¬ top.at_ < 0 by omega)]
          rw [e1, e2, cmpI_shift]
        rw [e3]
        by_cases ho : h.ok = true
        · by_cases hc : cmpV ⟨h.vec.root, wrap64 (h.vec.steps - 1), h.vec.src, h.vec.port, 0⟩ ⟨top.root, top.steps, own.id, i, 0⟩ < 0
          · rw [if_pos ⟨ha, ho, hc⟩, if_pos ⟨ho, hc, by omega⟩]
          · rw [if_neg (fun x => hc x.2.2), if_neg (fun x => hc x.2.1)]
        · rw [if_neg (fun x => ho x.2.1), if_neg (fun x => ho x.1)]
    · rw [if_neg ha, if_neg (by omega), if_neg (fun x => ha x.1)]
theorem roles_same (own : Pr) (hs : List Hd) (hf : ∀ h ∈ hs, Fit h) : ((refRoles own (topOf own hs) 0 hs).map fun x => Value.int .i64 x) = (List.range hs.length).map fun j => Value.int .i64 (roleAt own (topOf own hs) hs j) := by
  apply List.ext_getElem?
  intro k
  rw [List.getElem?_map, List.getElem?_map]
  by_cases hk : k < hs.length
  · obtain ⟨h, hh⟩ := getElem?_some_of_lt rfl hk
    rw [refRoles_get _ _ _ _ _ _ hh, List.getElem?_range hk]
    simp only [Option.map_some, Nat.zero_add]
    rw [← role_same own _ k h (hf h (List.mem_of_getElem? hh)) (top_fit own hs hf)]
    simp [roleAt, hh]
  · rw [List.getElem?_eq_none (by rw [refRoles_length]; omega), List.getElem?_eq_none (by simp; omega)]
    rfl
theorem hcells_snoc (hs : List Hd) (h : Hd) : hcells (hs ++ [h]) = hcells hs ++ h.cells := by simp [hcells]
theorem styR : SliceTy Try.prog 49 53 10 72 := sliceTy_mk (z := .agg #[.bool false, .bool false, .int .i64 0, .int .i64 0, .int .i64 0, .int .i64 0, .int .i64 0, .int .i64 0, .int .i64 0, .int .i64 0]) Try.underlying49 (by kernel_rfl) rfl

end Go.Proofs.Ytcdgofndfajekaa
