/-
  Spans: which of two begins sooner.
-/
import Derived.Test.YtaegngcbiefckaaPlnSh
import Derived.Shelf.SlicesG.Cmp
import Derived.Sort.Grow
import Derived.Shelf.SlSortCmp.Insertion
namespace Go.Proofs.Ytaegngcbiefckaa
set_option linter.unusedSimpArgs false
set_option linter.unusedVariables false
open Go.Shelf Go.RowKit Go.Lib Go.Sort

def spc (x : Int × Int) : List Value := [.int .i64 x.1, .int .i64 x.2]
theorem spc_len (x : Int × Int) : (spc x).length = 2 := rfl
set_option maxHeartbeats 1000000 in
theorem spanCmp_any (x y : Int × Int) (W : World) : Calls Try.prog 36 #[.agg #[.int .i64 x.1, .int .i64 x.2], .agg #[.int .i64 y.1, .int .i64 y.2]] W fun e w' => e = .returned (.int .i64 (Lib.compareInt x.1 y.1)) ∧ ∃ q os', w' = grow (W.drewN q) os' := by
  have hcon := fun W' => AnyG.cmp_Compare_int cmpInt x.1 y.1 W'
  change ∀ W', Calls Try.prog 42 _ _ _ at hcon
  generalize Lib.compareInt x.1 y.1 = r at hcon ⊢
  go_enter Try.func36, Try.ntmps36
  go_wp2_with (go_at_call 42; refine (hcon _).mono ?_; rintro e w' ⟨rfl, rfl⟩)
  go_ret
  exact ⟨rfl, 0, _, by rw [alloc_eq_grow, alloc_eq_grow, grow_grow]; rfl⟩
theorem lt_from (x y : Int × Int) : ltOf (fun x y : Int × Int => Lib.compareInt x.1 y.1) x y = decide (x.1 < y.1) := by
  unfold ltOf Lib.compareInt
  by_cases h1 : x.1 < y.1
  · simp [h1]
  · by_cases h2 : y.1 < x.1 <;> simp [h1, h2]
theorem swo_from : SWO (ltOf fun x y : Int × Int => Lib.compareInt x.1 y.1) where
  irrefl x := by rw [lt_from]; simp
  trans x y z h1 h2 := by rw [lt_from] at *; simp at *; omega
  ntrans x y z h1 h2 := by rw [lt_from] at *; simp at *; omega
end Go.Proofs.Ytaegngcbiefckaa
