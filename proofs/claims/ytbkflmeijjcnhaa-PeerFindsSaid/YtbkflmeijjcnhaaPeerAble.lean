/-
  Layer 17: a link that is measured: Able.
-/
import Derived.Test.YtbkflmeijjcnhaaPeerC
namespace Go.Proofs.Ytbkflmeijjcnhaa
set_option linter.unusedSimpArgs false
set_option linter.unusedVariables false
open Go.RowKit Go.WideShapes Go.ChangeShapes
attribute [local go_sem ↓] Go.wp_at_zero Go.wp_at_succ

def ableV (p : Pe) : Bool := decide (2 ≤ p.mn) && decide (p.bad < p.cf.lost)
set_option maxRecDepth 100000 in
set_option maxHeartbeats 2000000 in
theorem able_any (p : Pe) (g : Nat) (w : World) (B : PeIn w g p) : Calls Try.prog 51 #[.pointer (some ⟨g, 0, none⟩)] w fun e w' => e = .returned (.bool (ableV p)) ∧ PeIn w' g p ∧ Below w.heap.size w w' := by
  have y5 := B.cellOf (v := .int .i64 p.cf.lost) 5 rfl
  have y13 := B.cellOf (v := .slice p.mA p.mn p.mc) 13 rfl
  have y17 := B.cellOf (v := .int .i64 p.bad) 17 rfl
  have sg := B.lt
  have HV : Hid (ableV p = (decide (2 ≤ p.mn) && decide (p.bad < p.cf.lost))) := Lib.hid rfl
  have HB := Lib.hid B
  clear B
  by_cases h : 2 ≤ p.mn
  · have hd : decide ((2 : Int) ≤ (p.mn : Int)) = true := by simp; omega
    have HV2 := Lib.hid (show decide (p.bad < p.cf.lost) = ableV p by rw [HV.out, decide_eq_true h]; rfl)
    clear h HV
    go_enter Try.func51, Try.ntmps51
    go_wp2_with fail
    refine wp_region_class (fun w' => Below w.heap.size w w') (by kernel_rfl) (by kernel_rfl) (Below.refl _ _).drew ?_
    repeat (first | (refine wpQuiet_skip ?_ ?_; rfl; simp only [Act.put, List.setIfInBounds_toArray, List.set_cons_zero, List.set_cons_succ]) | (refine wpQuiet_val (v := ?_) ?_ ?_ ?_; rotate_left; rfl; (intro w' hw'; obtain ⟨hc, hf⟩ := bcell hw'; go_simp; with_reducible rfl); simp only [Act.put, List.setIfInBounds_toArray, List.set_cons_zero, List.set_cons_succ]))
    refine wpQuiet_nil ?_
    intro w4 hw4
    have B4 := HB.out.kept hw4
    clear y5 y13 y17 sg
    go_wp2_with fail
    go_ret
    exact ⟨ret_bool HV2.out, B4, hw4⟩
  · have HV2 := Lib.hid (show false = ableV p by rw [HV.out, decide_eq_false h]; rfl)
    have h01 : p.mn = 0 ∨ p.mn = 1 := by omega
    clear h HV
    rcases h01 with h0 | h0
    all_goals
      have S0 : w.drew.cell? ⟨g, 13, none⟩ = some (.slice p.mA p.mn p.mc) := y13
      rw [h0] at S0 y13
      clear h0
      go_enter Try.func51, Try.ntmps51
      go_wp2_with fail
      first
      | (refine wp_region_script [(0, true), (1, true), (2, true), (3, true), (4, true), (5, true), (6, true), (7, true), (8, true), (9, true), (10, true), (11, true), (12, true), (13, true), (14, true), (15, true), (16, true), (17, true), (18, true), (19, true), (20, true), (21, true), (22, true)] (fun w' => w'.cell? ⟨g, 13, none⟩ = some (.slice p.mA 0 p.mc)) (by kernel_rfl) (by kernel_rfl) (fun _ _ _ _ _ h => h) S0 ?_)
      | (refine wp_region_script [(0, true), (1, true), (2, true), (3, true), (4, true), (5, true), (6, true), (7, true), (8, true), (9, true), (10, true), (11, true), (12, true), (13, true), (14, true), (15, true), (16, true), (17, true), (18, true), (19, true), (20, true), (21, true), (22, true)] (fun w' => w'.cell? ⟨g, 13, none⟩ = some (.slice p.mA 1 p.mc)) (by kernel_rfl) (by kernel_rfl) (fun _ _ _ _ _ h => h) S0 ?_)
      all_goals
        iterate 11 (refine script_take (v := ?_) rfl ?_ ?_ ?_; rotate_left; (first | rfl | (go_simp; done)); (rintro w' hw';  go_simp; with_reducible rfl); simp only [Act.put, List.setIfInBounds_toArray, List.set_cons_zero, List.set_cons_succ])
        iterate 10 (refine script_skip rfl ?_ ?_; (first | rfl | (go_simp; done)); simp only [Act.put, List.setIfInBounds_toArray, List.set_cons_zero, List.set_cons_succ])
        iterate 2 (refine script_take (v := ?_) rfl ?_ ?_ ?_; rotate_left; (first | rfl | (go_simp; done)); (rintro w' hw';  go_simp; with_reducible rfl); simp only [Act.put, List.setIfInBounds_toArray, List.set_cons_zero, List.set_cons_succ])
        refine script_nil ?_
        have B4 : PeIn w.drew g p := HB.out
        have L4 : Below w.heap.size w w.drew := (Below.refl _ _).drew
        clear y5 y13 y17 sg S0
        go_wp2_with fail
        go_ret
        exact ⟨ret_bool HV2.out, B4, L4⟩
end Go.Proofs.Ytbkflmeijjcnhaa
