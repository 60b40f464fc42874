/-
  seqr: all is new again.
-/
import Derived.Test.YthhlfojaloaooaaGreatRows
import Derived.Test.YthhlfojaloaooaaGreatEtPZ
import Derived.WalkKit
import Derived.ProofKit
import Derived.OpenShut
import Derived.LoopTactic
import Derived.WalkLawsBesides
import Derived.WalkSpells
import Derived.Outline
import Derived.Lib.Hide
import Derived.Deep.DrawnRows
import Derived.Laws.CopyOwn
import Derived.MapKept
namespace Go.Proofs.YthhlfojaloaooaaGreat
set_option linter.unusedSimpArgs false
set_option linter.unusedVariables false
open Go.RowKit Go.WideShapes Go.ChangeShapes
attribute [local go_sem ↓] Go.wp_at_zero Go.wp_at_succ

/-- A Seqr's cells. -/
def sqc (r : Int) (any : Bool) (last had when c0 c1 c2 c3 rs lo : Int) : Array Value := #[.int .i64 0, .int .i64 32, .int .i64 r, .bool any, .int .i64 last, .int .u64 had, .int .i64 when, .int .i64 c0, .int .i64 c1, .int .i64 c2, .int .i64 c3, .int .i64 rs, .int .i64 lo]
/-- A Seqr by vectors of length 32, in memory. -/
def SqAt (w : World) (g : Nat) (r : Int) (any : Bool) (last had when : Int) : Prop := ∃ c0 c1 c2 c3 rs lo, Blk w g 189 (sqc r any last had when c0 c1 c2 c3 rs lo)
theorem SqAt.grown {w w' : World} {g : Nat} {r : Int} {any : Bool} {last had when : Int} {q : Option Nat} (h : SqAt w g r any last had when) (gr : w.grownBy w' q) (hq : some g ≠ q) : SqAt w' g r any last had when := by
  obtain ⟨c0, c1, c2, c3, rs, lo, hB⟩ := h
  exact ⟨c0, c1, c2, c3, rs, lo, hB.grown gr hq⟩
theorem SqAt.kept {w w' : World} {g : Nat} {r : Int} {any : Bool} {last had when : Int} (h : SqAt w g r any last had when) (hb : Below w.heap.size w w') : SqAt w' g r any last had when := by
  obtain ⟨c0, c1, c2, c3, rs, lo, hB⟩ := h
  exact ⟨c0, c1, c2, c3, rs, lo, hB.kept hb⟩
set_option maxRecDepth 100000 in
set_option maxHeartbeats 4000000 in
theorem sqReset_any (g : Nat) (r : Int) (any : Bool) (last had when c0 c1 c2 c3 rs lo : Int) (w : World) (B : Blk w g 189 (sqc r any last had when c0 c1 c2 c3 rs lo)) : Calls Tryz.prog 91 #[.pointer (some ⟨g, 0, none⟩)] w fun e w' => e = .returned (.tuple #[]) ∧ w.grownBy w' (some g) ∧ ∃ rs', Blk w' g 189 (sqc r true last 0 when c0 c1 c2 c3 rs' lo) := by
  refine calls_sm (N := 17) Tryz.func91 rfl (by kernel_rfl) ?_
  intro a hs hd ha
  have e0 : a.tmps[0]? = some (.pointer (some ⟨g, 0, none⟩)) := ha 0 _ rfl
  clear ha
  conv => arg 2; whnf
  refine wp_seq_k fun Kq1 hKq1 => ?_
  refine sm_list [0] 2 2 hs hd (by kernel_rfl) (agC e0 agN) rfl ?_
  simp only [seval]
  go_wp2_with fail
  intro a H; replace hs := H.s hs; replace hd := H.d rfl; replace e0 := H.g 0 rfl rfl; have e3 := H.g 3 rfl rfl; clear H; refine hKq1 _ _ ?_; clear hKq1 Kq1
  refine wp_cond_true (slotE e3) ?_
  clear e3; refine wp_seq_k fun Kq2 hKq2 => ?_
  have HB := Lib.hid B
  have q3 := B.cellOf (v := .bool any) 3 rfl
  have q5 := B.cellOf (v := .int .u64 had) 5 rfl
  have fz := B.frozen
  have lz := B.lt
  clear B
  refine sm_list [0] 4 6 hs hd (by kernel_rfl) (agC e0 agN) rfl ?_
  simp only [seval]
  go_wp2_with fail
  intro a H; replace hs := H.s hs; replace hd := H.d rfl; replace e0 := H.g 0 rfl rfl; clear H; refine hKq2 _ _ ?_; clear hKq2 Kq2
  have G1 : w.grownBy ((w.setCell ⟨g, 3, none⟩ (.bool true)).setCell ⟨g, 5, none⟩ (.int .u64 0)) (some g) := gr_trans (gr_set (grownBy_refl _ _) _ _) (gr_set (grownBy_refl _ _) _ _)
  have B1 : Blk ((w.setCell ⟨g, 3, none⟩ (.bool true)).setCell ⟨g, 5, none⟩ (.int .u64 0)) g 189 (sqc r true last 0 when c0 c1 c2 c3 rs lo) := (HB.out.set_ 3 (.bool true)).set_ 5 (.int .u64 0)
  generalize (w.setCell ⟨g, 3, none⟩ (.bool true)).setCell ⟨g, 5, none⟩ (.int .u64 0) = w1 at G1 B1 ⊢
  have HB1 := Lib.hid (And.intro B1 G1)
  clear q3 q5 fz lz HB
  have q11 := B1.cellOf (v := .int .i64 rs) 11 rfl
  have fz := B1.frozen
  have lz := B1.lt
  clear B1 G1
  refine sm_list [0] 10 7 hs hd (by kernel_rfl) (agC e0 agN) rfl ?_
  simp only [seval]
  go_wp2_with fail
  intro a H; replace hs := H.s hs; replace hd := H.d rfl; replace e0 := H.g 0 rfl rfl; clear H; have G2 := gr_trans HB1.out.2 (gr_set (grownBy_refl w1 (some g)) 11 (.int .i64 (RowKit.wrap64 (rs + 1))))
  have B2 : Blk (w1.setCell ⟨g, 11, none⟩ (.int .i64 (RowKit.wrap64 (rs + 1)))) g 189 (sqc r true last 0 when c0 c1 c2 c3 (RowKit.wrap64 (rs + 1)) lo) := HB1.out.1.set_ 11 _
  exact bodyPost_end (results_none rfl _ _ _) hd ⟨rfl, G2, _, B2⟩
def sqt (r : Int) (any : Bool) (last had when c0 c1 c2 c3 rs lo now : Int) : Array Value := if any = false ∧ when ≤ now ∧ r ≤ now - when then sqc r true last 0 when c0 c1 c2 c3 rs lo else sqc r any last had when c0 c1 c2 c3 rs lo
theorem wrap_u64 {x : Int} (h : 0 ≤ x ∧ x ≤ 4611686018427387904) : IntKind.u64.wrap x = x := by
  unfold IntKind.wrap; simp [IntKind.bits, IntKind.signed]; omega

set_option maxRecDepth 100000 in
set_option maxHeartbeats 4000000 in
theorem sqTurn_any (g : Nat) (r : Int) (any : Bool) (last had when c0 c1 c2 c3 rs lo : Int) (now : Int) (w : World) (B : Blk w g 189 (sqc r any last had when c0 c1 c2 c3 rs lo)) (hn : 0 ≤ now ∧ now ≤ 4611686018427387904) (hw : 0 ≤ when ∧ when ≤ 4611686018427387904) (hr : 1 ≤ r ∧ r ≤ 4611686018427387904) : Calls Tryz.prog 73 #[.pointer (some ⟨g, 0, none⟩), .int .i64 now] w fun e w' => e = .returned (.tuple #[]) ∧ w.grownBy w' (some g) ∧ ∃ rs', Blk w' g 189 (sqt r any last had when c0 c1 c2 c3 rs' lo now) := by
  have u1 : IntKind.u64.wrap now = now := wrap_u64 hn
  have u2 : IntKind.u64.wrap when = when := wrap_u64 hw
  have u3 : IntKind.u64.wrap r = r := wrap_u64 ⟨by omega, hr.2⟩
  refine calls_sm (N := 36) Tryz.func73 rfl (by kernel_rfl) ?_
  intro a hs hd ha
  have e0 : a.tmps[0]? = some (.pointer (some ⟨g, 0, none⟩)) := ha 0 _ rfl
  have e1 : a.tmps[1]? = some (.int .i64 now) := ha 1 _ rfl
  clear ha
  conv => arg 2; whnf
  refine wp_seq_k fun Kq1 hKq1 => ?_
  have HB := Lib.hid B
  have q2 := B.cellOf (v := .int .i64 r) 2 rfl
  have q3 := B.cellOf (v := .bool any) 3 rfl
  have q6 := B.cellOf (v := .int .i64 when) 6 rfl
  have lz := B.lt
  clear B
  by_cases hcase : any = false ∧ when ≤ now ∧ r ≤ now - when
  · obtain ⟨h1, h2, h3⟩ := hcase
    subst h1
    have d1 : decide (when ≤ now) = true := decide_eq_true h2
    have d2 : decide (r ≤ now - when) = true := decide_eq_true h3
    have u4 : IntKind.u64.wrap (now - when) = now - when := wrap_u64 ⟨by omega, by omega⟩
    refine sm_any [0, 1] 4 30 (by kernel_rfl) hs hd (by kernel_rfl) (agC e0 (agC e1 agN)) rfl (any_class (fun w' => Below w.heap.size w w') (by kernel_rfl) ((Below.refl _ _).drew) ?_)
    simp only [seval]
    repeat (first | (with_reducible (refine wpQuiet_skip ?_ ?_); (first | exact wanted_off rfl rfl rfl rfl | exact wanted_off2 rfl rfl rfl); simp only [Act.put, List.setIfInBounds_toArray, List.set_cons_zero, List.set_cons_succ]) | (with_reducible (refine wpQuiet_val (v := ?_) ?_ ?_ ?_); rotate_left; (first | exact wanted_none rfl | exact wanted_on rfl rfl rfl); (intro w' hw'; obtain ⟨hc, hf⟩ := bcell hw'; go_simp; with_reducible rfl); simp only [Act.put, List.setIfInBounds_toArray, List.set_cons_zero, List.set_cons_succ]))
    refine wpQuiet_nil ?_
    intro w3 hw3
    intro a H; replace hs := H.s hs; replace hd := H.d rfl; replace e0 := H.g 0 rfl rfl; replace e1 := H.g 1 rfl rfl; have e33 := H.g 33 rfl rfl; clear H; refine hKq1 _ _ ?_; clear hKq1 Kq1
    refine wp_cond_true (slotE e33) ?_
    clear e33; have B3 := HB.out.kept hw3; have G3 := gr_below hw3 (some g); clear q2 q3 q6 lz u1 u2 u3 u4 d1 d2
    refine sm_list [0] 34 2 hs hd (by kernel_rfl) (agC e0 agN) rfl ?_
    simp only [seval]
    go_wp2_with fail
    refine (sqReset_any g r false last had when c0 c1 c2 c3 rs lo w3 B3).mono ?_
    rintro e w4 ⟨rfl, G4, rs4, B4⟩
    go_wp2_with fail
    intro a H; replace hs := H.s hs; replace hd := H.d rfl; replace e0 := H.g 0 rfl rfl; replace e1 := H.k e1 rfl; clear H
    refine bodyPost_end (results_none rfl _ _ _) hd ⟨rfl, gr_trans G3 G4, rs4, ?_⟩
    unfold sqt; rw [if_pos ⟨rfl, h2, h3⟩]; exact B4
  · have HC := Lib.hid hcase
    clear hcase
    cases any
    rotate_left
    ·
      refine sm_any [0, 1] 4 30 (by kernel_rfl) hs hd (by kernel_rfl) (agC e0 (agC e1 agN)) rfl (any_class (fun w' => Below w.heap.size w w') (by kernel_rfl) ((Below.refl _ _).drew) ?_)
      simp only [seval]
      repeat (first | (with_reducible (refine wpQuiet_skip ?_ ?_); (first | exact wanted_off rfl rfl rfl rfl | exact wanted_off2 rfl rfl rfl); simp only [Act.put, List.setIfInBounds_toArray, List.set_cons_zero, List.set_cons_succ]) | (with_reducible (refine wpQuiet_val (v := ?_) ?_ ?_ ?_); rotate_left; (first | exact wanted_none rfl | exact wanted_on rfl rfl rfl); (intro w' hw'; obtain ⟨hc, hf⟩ := bcell hw'; go_simp; with_reducible rfl); simp only [Act.put, List.setIfInBounds_toArray, List.set_cons_zero, List.set_cons_succ]))
      refine wpQuiet_nil ?_
      intro w3 hw3
      intro a H; replace hs := H.s hs; replace hd := H.d rfl; replace e0 := H.g 0 rfl rfl; replace e1 := H.g 1 rfl rfl; have e33 := H.g 33 rfl rfl; clear H; refine hKq1 _ _ ?_; clear hKq1 Kq1
      refine wp_cond_false (slotE e33) ?_
      clear e33; refine wp_skip ?_
      refine bodyPost_end (results_none rfl _ _ _) hd ⟨rfl, gr_below hw3 (some g), rs, ?_⟩
      unfold sqt; rw [if_neg HC.out]; exact HB.out.kept hw3
    ·
      by_cases h2 : when ≤ now
      · have h3 : ¬ r ≤ now - when := fun h => HC.out ⟨rfl, h2, h⟩
        have d1 : decide (when ≤ now) = true := decide_eq_true h2
        have d2 : decide (r ≤ now - when) = false := decide_eq_false h3
        have u4 : IntKind.u64.wrap (now - when) = now - when := wrap_u64 ⟨by omega, by omega⟩
        refine sm_any [0, 1] 4 30 (by kernel_rfl) hs hd (by kernel_rfl) (agC e0 (agC e1 agN)) rfl (any_class (fun w' => Below w.heap.size w w') (by kernel_rfl) ((Below.refl _ _).drew) ?_)
        simp only [seval]
        repeat (first | (with_reducible (refine wpQuiet_skip ?_ ?_); (first | exact wanted_off rfl rfl rfl rfl | exact wanted_off2 rfl rfl rfl); simp only [Act.put, List.setIfInBounds_toArray, List.set_cons_zero, List.set_cons_succ]) | (with_reducible (refine wpQuiet_val (v := ?_) ?_ ?_ ?_); rotate_left; (first | exact wanted_none rfl | exact wanted_on rfl rfl rfl); (intro w' hw'; obtain ⟨hc, hf⟩ := bcell hw'; go_simp; with_reducible rfl); simp only [Act.put, List.setIfInBounds_toArray, List.set_cons_zero, List.set_cons_succ]))
        refine wpQuiet_nil ?_
        intro w3 hw3
        intro a H; replace hs := H.s hs; replace hd := H.d rfl; replace e0 := H.g 0 rfl rfl; replace e1 := H.g 1 rfl rfl; have e33 := H.g 33 rfl rfl; clear H; refine hKq1 _ _ ?_; clear hKq1 Kq1
        refine wp_cond_false (slotE e33) ?_
        clear e33; refine wp_skip ?_
        refine bodyPost_end (results_none rfl _ _ _) hd ⟨rfl, gr_below hw3 (some g), rs, ?_⟩
        unfold sqt; rw [if_neg HC.out]; exact HB.out.kept hw3
      · have d1 : decide (when ≤ now) = false := decide_eq_false h2
        refine sm_any [0, 1] 4 30 (by kernel_rfl) hs hd (by kernel_rfl) (agC e0 (agC e1 agN)) rfl (any_class (fun w' => Below w.heap.size w w') (by kernel_rfl) ((Below.refl _ _).drew) ?_)
        simp only [seval]
        repeat (first | (with_reducible (refine wpQuiet_skip ?_ ?_); (first | exact wanted_off rfl rfl rfl rfl | exact wanted_off2 rfl rfl rfl); simp only [Act.put, List.setIfInBounds_toArray, List.set_cons_zero, List.set_cons_succ]) | (with_reducible (refine wpQuiet_val (v := ?_) ?_ ?_ ?_); rotate_left; (first | exact wanted_none rfl | exact wanted_on rfl rfl rfl); (intro w' hw'; obtain ⟨hc, hf⟩ := bcell hw'; go_simp; with_reducible rfl); simp only [Act.put, List.setIfInBounds_toArray, List.set_cons_zero, List.set_cons_succ]))
        refine wpQuiet_nil ?_
        intro w3 hw3
        intro a H; replace hs := H.s hs; replace hd := H.d rfl; replace e0 := H.g 0 rfl rfl; replace e1 := H.g 1 rfl rfl; have e33 := H.g 33 rfl rfl; clear H; refine hKq1 _ _ ?_; clear hKq1 Kq1
        refine wp_cond_false (slotE e33) ?_
        clear e33; refine wp_skip ?_
        refine bodyPost_end (results_none rfl _ _ _) hd ⟨rfl, gr_below hw3 (some g), rs, ?_⟩
        unfold sqt; rw [if_neg HC.out]; exact HB.out.kept hw3
end Go.Proofs.YthhlfojaloaooaaGreat

namespace Go.Proofs.YthhlfojaloaooaaGreat
set_option linter.unusedSimpArgs false
set_option linter.unusedVariables false
open Go.RowKit Go.WideShapes Go.ChangeShapes
attribute [local go_sem ↓] Go.wp_at_zero Go.wp_at_succ

set_option maxRecDepth 100000 in
set_option maxHeartbeats 4000000 in
theorem sqMatch_any (g : Nat) (r : Int) (any : Bool) (last had when c0 c1 c2 c3 rs lo : Int) (seq : Int) (w : World) (B : Blk w g 189 (sqc r any last had when c0 c1 c2 c3 rs lo)) : Calls Tryz.prog 74 #[.pointer (some ⟨g, 0, none⟩), .int .i64 seq] w fun e w' => e = .returned (.int .i64 0) ∧ w = w' := by
  refine calls_sm (N := 28) Tryz.func74 rfl (by kernel_rfl) ?_
  intro a hs hd ha
  have e0 : a.tmps[0]? = some (.pointer (some ⟨g, 0, none⟩)) := ha 0 _ rfl
  have e1 : a.tmps[1]? = some (.int .i64 seq) := ha 1 _ rfl
  clear ha
  conv => arg 2; whnf
  refine wp_seq_k fun Kq1 hKq1 => ?_
  have q0 := B.cellOf (v := .int .i64 0) 0 rfl
  clear B
  refine sm_list [] 4 1 hs hd (by kernel_rfl) agN rfl ?_
  simp only [seval]
  go_wp2_with fail
  intro a H; replace hs := H.s hs; replace hd := H.d rfl; replace e0 := H.k e0 rfl; replace e1 := H.k e1 rfl; have e4 := H.g 4 rfl rfl; clear H; refine hKq1 _ _ ?_; clear hKq1 Kq1; refine wp_seq_k fun Kq2 hKq2 => ?_; refine wp_seq_k fun Kq3 hKq3 => ?_
  refine sm_list [0] 5 6 hs hd (by kernel_rfl) (agC e0 agN) rfl ?_
  simp only [seval]
  go_wp2_with fail
  intro a H; replace hs := H.s hs; replace hd := H.d rfl; replace e0 := H.g 0 rfl rfl; replace e1 := H.k e1 rfl; replace e4 := H.k e4 rfl; have e10 := H.g 10 rfl rfl; clear H; refine hKq3 _ _ ?_; clear hKq3 Kq3
  refine wp_cond_true (slotE e10) ?_
  clear e10; refine wp_seq_k fun Kq4 hKq4 => ?_
  refine sm_list [] 4 1 hs hd (by kernel_rfl) agN rfl ?_
  simp only [seval]
  go_wp2_with fail
  intro a H; replace hs := H.s hs; replace hd := H.d rfl; replace e0 := H.k e0 rfl; replace e1 := H.k e1 rfl; replace e4 := H.g 4 rfl rfl; clear H; refine hKq4 _ _ ?_; clear hKq4 Kq4; refine wp_ret ?_; refine exit_then rfl ?_
  exact sm_ret rfl hd e4 ⟨rfl, rfl⟩
set_option maxRecDepth 100000 in
set_option maxHeartbeats 4000000 in
theorem sqAhead_same (x : Int) (w : World) : Calls Tryz.prog 92 #[.int .i64 x, .int .i64 x] w fun e w' => e = .returned (.int .i64 0) ∧ w = w' := by
  have hw : IntKind.i64.wrap (x - x) = 0 := by rw [Int.sub_self]; rfl
  have hw2 : IntKind.i64.wrap 0 = 0 := rfl
  have hb : bits .and .i64 0 65535 = 0 := rfl
  refine calls_sm (N := 15) Tryz.func92 rfl (by kernel_rfl) ?_
  intro a hs hd ha
  have e0 : a.tmps[0]? = some (.int .i64 x) := ha 0 _ rfl
  have e1 : a.tmps[1]? = some (.int .i64 x) := ha 1 _ rfl
  clear ha
  conv => arg 2; whnf
  refine wp_seq_k fun Kq1 hKq1 => ?_
  refine sm_list [] 4 1 hs hd (by kernel_rfl) agN rfl ?_
  simp only [seval]
  go_wp2_with fail
  intro a H; replace hs := H.s hs; replace hd := H.d rfl; replace e0 := H.k e0 rfl; replace e1 := H.k e1 rfl; have e4 := H.g 4 rfl rfl; clear H; refine hKq1 _ _ ?_; clear hKq1 Kq1; refine wp_seq_k fun Kq2 hKq2 => ?_
  refine sm_list [0, 1] 5 5 hs hd (by kernel_rfl) (agC e0 (agC e1 agN)) rfl ?_
  simp only [seval]
  go_wp2_with fail
  intro a H; replace hs := H.s hs; replace hd := H.d rfl; replace e0 := H.g 0 rfl rfl; replace e1 := H.g 1 rfl rfl; replace e4 := H.k e4 rfl; have e5 := H.g 5 rfl rfl; clear H; refine hKq2 _ _ ?_; clear hKq2 Kq2; refine wp_seq_k fun Kq3 hKq3 => ?_; refine wp_seq_k fun Kq4 hKq4 => ?_
  refine sm_list [5] 10 2 hs hd (by kernel_rfl) (agC e5 agN) rfl ?_
  simp only [seval]
  go_wp2_with fail
  intro a H; replace hs := H.s hs; replace hd := H.d rfl; replace e5 := H.g 5 rfl rfl; replace e0 := H.k e0 rfl; replace e1 := H.k e1 rfl; replace e4 := H.k e4 rfl; have e11 := H.g 11 rfl rfl; clear H; refine hKq4 _ _ ?_; clear hKq4 Kq4
  refine wp_cond_false (slotE e11) ?_
  clear e11; refine wp_skip ?_; refine hKq3 _ _ ?_; clear hKq3 Kq3; refine wp_seq_k fun Kq5 hKq5 => ?_
  refine sm_list [4, 5] 14 1 hs hd (by kernel_rfl) (agC e4 (agC e5 agN)) rfl ?_
  simp only [seval]
  go_wp2_with fail
  intro a H; replace hs := H.s hs; replace hd := H.d rfl; replace e5 := H.g 5 rfl rfl; replace e0 := H.k e0 rfl; replace e1 := H.k e1 rfl; replace e4 := H.g 4 rfl rfl; clear H; refine hKq5 _ _ ?_; clear hKq5 Kq5; refine wp_ret ?_
  exact sm_ret rfl hd e4 ⟨rfl, rfl⟩
set_option maxRecDepth 100000 in
set_option maxHeartbeats 4000000 in
theorem sqVec_new (g : Nat) (r last had when c0 c1 c2 c3 rs lo : Int) (seq : Int) (w : World) (B : Blk w g 189 (sqc r true last had when c0 c1 c2 c3 rs lo)) : Calls Tryz.prog 75 #[.pointer (some ⟨g, 0, none⟩), .int .i64 seq] w fun e w' => e = .returned (.int .i64 0) ∧ w.grownBy w' (some g) ∧ Blk w' g 189 (sqc r true seq 1 when c0 c1 c2 c3 rs lo) := by
  refine calls_sm (N := 105) Tryz.func75 rfl (by kernel_rfl) ?_
  intro a hs hd ha
  have e0 : a.tmps[0]? = some (.pointer (some ⟨g, 0, none⟩)) := ha 0 _ rfl
  have e1 : a.tmps[1]? = some (.int .i64 seq) := ha 1 _ rfl
  clear ha
  conv => arg 2; whnf
  refine wp_seq_k fun Kq1 hKq1 => ?_
  have HB := Lib.hid B
  have q3 := B.cellOf (v := .bool true) 3 rfl
  have q4 := B.cellOf (v := .int .i64 last) 4 rfl
  have q5 := B.cellOf (v := .int .u64 had) 5 rfl
  have fz := B.frozen
  have lz := B.lt
  clear B
  refine sm_list [] 4 1 hs hd (by kernel_rfl) agN rfl ?_
  simp only [seval]
  go_wp2_with fail
  intro a H; replace hs := H.s hs; replace hd := H.d rfl; replace e0 := H.k e0 rfl; replace e1 := H.k e1 rfl; have e4 := H.g 4 rfl rfl; clear H; refine hKq1 _ _ ?_; clear hKq1 Kq1; refine wp_seq_k fun Kq2 hKq2 => ?_; refine wp_seq_k fun Kq3 hKq3 => ?_
  refine sm_list [0] 7 4 hs hd (by kernel_rfl) (agC e0 agN) rfl ?_
  simp only [seval]
  go_wp2_with fail
  intro a H; replace hs := H.s hs; replace hd := H.d rfl; replace e0 := H.g 0 rfl rfl; replace e1 := H.k e1 rfl; replace e4 := H.k e4 rfl; have e10 := H.g 10 rfl rfl; clear H; refine hKq3 _ _ ?_; clear hKq3 Kq3
  refine wp_cond_true (slotE e10) ?_
  clear e10; refine wp_seq_k fun Kq4 hKq4 => ?_
  refine sm_list [0, 1] 11 7 hs hd (by kernel_rfl) (agC e0 (agC e1 agN)) rfl ?_
  simp only [seval]
  go_wp2_with fail
  intro a H; replace hs := H.s hs; replace hd := H.d rfl; replace e0 := H.g 0 rfl rfl; replace e1 := H.g 1 rfl rfl; replace e4 := H.k e4 rfl; clear H; refine hKq4 _ _ ?_; clear hKq4 Kq4; refine wp_seq_k fun Kq5 hKq5 => ?_
  refine sm_list [] 4 1 hs hd (by kernel_rfl) agN rfl ?_
  simp only [seval]
  go_wp2_with fail
  intro a H; replace hs := H.s hs; replace hd := H.d rfl; replace e0 := H.k e0 rfl; replace e1 := H.k e1 rfl; replace e4 := H.g 4 rfl rfl; clear H; refine hKq5 _ _ ?_; clear hKq5 Kq5; refine wp_ret ?_; refine exit_then rfl ?_
  refine sm_ret rfl hd e4 ⟨rfl, gr_trans (gr_set (grownBy_refl _ _) 4 (.int .i64 seq)) (gr_set (grownBy_refl _ _) 5 (.int .u64 1)), ?_⟩
  exact (HB.out.set_ 4 (.int .i64 seq)).set_ 5 (.int .u64 1)
set_option maxRecDepth 100000 in
set_option maxHeartbeats 4000000 in
theorem sqVec_same (g : Nat) (r last when c0 c1 c2 c3 rs lo : Int) (w : World) (B : Blk w g 189 (sqc r false last 1 when c0 c1 c2 c3 rs lo)) : Calls Tryz.prog 75 #[.pointer (some ⟨g, 0, none⟩), .int .i64 last] w fun e w' => e = .returned (.int .i64 1) ∧ w = w' := by
  refine calls_sm (N := 105) Tryz.func75 rfl (by kernel_rfl) ?_
  intro a hs hd ha
  have e0 : a.tmps[0]? = some (.pointer (some ⟨g, 0, none⟩)) := ha 0 _ rfl
  have e1 : a.tmps[1]? = some (.int .i64 last) := ha 1 _ rfl
  clear ha
  conv => arg 2; whnf
  refine wp_seq_k fun Kq1 hKq1 => ?_
  have HB := Lib.hid B
  have q1 := B.cellOf (v := .int .i64 32) 1 rfl
  have q3 := B.cellOf (v := .bool false) 3 rfl
  have q4 := B.cellOf (v := .int .i64 last) 4 rfl
  have q5 := B.cellOf (v := .int .u64 1) 5 rfl
  have fz := B.frozen
  have lz := B.lt
  clear B
  refine sm_list [] 4 1 hs hd (by kernel_rfl) agN rfl ?_
  simp only [seval]
  go_wp2_with fail
  intro a H; replace hs := H.s hs; replace hd := H.d rfl; replace e0 := H.k e0 rfl; replace e1 := H.k e1 rfl; have e4 := H.g 4 rfl rfl; clear H; refine hKq1 _ _ ?_; clear hKq1 Kq1; refine wp_seq_k fun Kq2 hKq2 => ?_; refine wp_seq_k fun Kq3 hKq3 => ?_
  refine sm_list [0] 7 4 hs hd (by kernel_rfl) (agC e0 agN) rfl ?_
  simp only [seval]
  go_wp2_with fail
  intro a H; replace hs := H.s hs; replace hd := H.d rfl; replace e0 := H.g 0 rfl rfl; replace e1 := H.k e1 rfl; replace e4 := H.k e4 rfl; have e10 := H.g 10 rfl rfl; clear H; refine hKq3 _ _ ?_; clear hKq3 Kq3
  refine wp_cond_false (slotE e10) ?_
  clear e10; refine wp_skip ?_; refine hKq2 _ _ ?_; clear hKq2 Kq2; refine wp_seq_k fun Kq4 hKq4 => ?_
  refine sm_list [0, 1, 5] 18 6 hs hd (by kernel_rfl) (agC e0 (agC e1 (agU agN))) rfl ?_
  simp only [seval]
  go_wp2_with fail
  refine (sqAhead_same last w).mono ?_
  rintro e w4 ⟨rfl, rfl⟩
  go_wp2_with fail
  intro a H; replace hs := H.s hs; replace hd := H.d rfl; replace e0 := H.g 0 rfl rfl; replace e1 := H.g 1 rfl rfl; replace e4 := H.k e4 rfl; have e5 := H.g 5 rfl rfl; clear H; refine hKq4 _ _ ?_; clear hKq4 Kq4; refine wp_seq_k fun Kq5 hKq5 => ?_; refine wp_block ?_; refine wp_seq_k fun Kq6 hKq6 => ?_
  refine sm_list [0, 5] 24 18 hs hd (by kernel_rfl) (agC e0 (agC e5 agN)) rfl ?_
  simp only [seval]
  go_wp2_with fail
  intro a H; replace hs := H.s hs; replace hd := H.d rfl; replace e0 := H.g 0 rfl rfl; replace e5 := H.g 5 rfl rfl; replace e1 := H.k e1 rfl; replace e4 := H.k e4 rfl; have e24 := H.g 24 rfl rfl; clear H; refine hKq6 _ _ ?_; clear hKq6 Kq6
  refine wp_cond_false (slotE e24) ?_
  clear e24; refine wp_seq_k fun Kq7 hKq7 => ?_
  refine sm_list [5] 42 3 hs hd (by kernel_rfl) (agC e5 agN) rfl ?_
  simp only [seval]
  go_wp2_with fail
  intro a H; replace hs := H.s hs; replace hd := H.d rfl; replace e5 := H.g 5 rfl rfl; replace e0 := H.k e0 rfl; replace e1 := H.k e1 rfl; replace e4 := H.k e4 rfl; have e42 := H.g 42 rfl rfl; clear H; refine hKq7 _ _ ?_; clear hKq7 Kq7
  refine wp_cond_true (slotE e42) ?_
  clear e42; refine wp_seq_k fun Kq8 hKq8 => ?_
  refine sm_list [5, 6] 45 3 hs hd (by kernel_rfl) (agC e5 (agU agN)) rfl ?_
  simp only [seval]
  go_wp2_with fail
  intro a H; replace hs := H.s hs; replace hd := H.d rfl; replace e5 := H.g 5 rfl rfl; replace e0 := H.k e0 rfl; replace e1 := H.k e1 rfl; replace e4 := H.k e4 rfl; have e6 := H.g 6 rfl rfl; clear H; refine hKq8 _ _ ?_; clear hKq8 Kq8; refine wp_seq_k fun Kq9 hKq9 => ?_; refine wp_seq_k fun Kq10 hKq10 => ?_
  have hb1 : bits .and .u64 1 1 = 1 := rfl
  refine sm_list [0, 6] 48 7 hs hd (by kernel_rfl) (agC e0 (agC e6 agN)) rfl ?_
  simp only [seval]
  go_wp2_with fail
  intro a H; replace hs := H.s hs; replace hd := H.d rfl; replace e0 := H.g 0 rfl rfl; replace e6 := H.g 6 rfl rfl; replace e1 := H.k e1 rfl; replace e4 := H.k e4 rfl; replace e5 := H.k e5 rfl; have e54 := H.g 54 rfl rfl; clear H; refine hKq10 _ _ ?_; clear hKq10 Kq10
  refine wp_cond_true (slotE e54) ?_
  clear e54; refine wp_seq_k fun Kq11 hKq11 => ?_
  refine sm_list [] 4 1 hs hd (by kernel_rfl) agN rfl ?_
  simp only [seval]
  go_wp2_with fail
  intro a H; replace hs := H.s hs; replace hd := H.d rfl; replace e0 := H.k e0 rfl; replace e1 := H.k e1 rfl; replace e5 := H.k e5 rfl; replace e6 := H.k e6 rfl; replace e4 := H.g 4 rfl rfl; clear H; refine hKq11 _ _ ?_; clear hKq11 Kq11; refine wp_ret ?_; refine exit_then rfl ?_; refine ret_block ?_; refine exit_then rfl ?_
  exact sm_ret rfl hd e4 ⟨rfl, rfl⟩
end Go.Proofs.YthhlfojaloaooaaGreat

namespace Go.Proofs.YthhlfojaloaooaaGreat
set_option linter.unusedSimpArgs false
set_option linter.unusedVariables false
open Go.RowKit Go.WideShapes Go.ChangeShapes
attribute [local go_sem ↓] Go.wp_at_zero Go.wp_at_succ

set_option maxRecDepth 100000 in
set_option maxHeartbeats 4000000 in
theorem sqIn_new (g : Nat) (r : Int) (any : Bool) (last had when c0 c1 c2 c3 rs lo : Int) (now seq : Int) (w : World) (B : Blk w g 189 (sqc r any last had when c0 c1 c2 c3 rs lo)) (hn : 0 ≤ now ∧ now ≤ 4611686018427387904) (hw : 0 ≤ when ∧ when ≤ 4611686018427387904) (hr : 1 ≤ r ∧ r ≤ 4611686018427387904) (hs0 : 0 ≤ seq ∧ seq < 65536) (ht : any = true ∨ (when ≤ now ∧ r ≤ now - when)) : Calls Tryz.prog 49 #[.pointer (some ⟨g, 0, none⟩), .int .i64 now, .int .i64 seq] w fun e w' => e = .returned (.tuple #[.int .i64 0, .int .i64 0]) ∧ w.grownBy w' (some g) ∧ SqAt w' g r false seq 1 now := by
  refine calls_sm (N := 58) Tryz.func49 rfl (by kernel_rfl) ?_
  intro a hs hd ha
  have e0 : a.tmps[0]? = some (.pointer (some ⟨g, 0, none⟩)) := ha 0 _ rfl
  have e1 : a.tmps[1]? = some (.int .i64 now) := ha 1 _ rfl
  have e2 : a.tmps[2]? = some (.int .i64 seq) := ha 2 _ rfl
  clear ha
  conv => arg 2; whnf
  refine wp_seq_k fun Kq1 hKq1 => ?_
  have hq0 : decide (seq < 0) = false := decide_eq_false (by omega)
  have hq1 : decide ((65536 : Int) ≤ seq) = false := decide_eq_false (by omega)
  refine sm_list [] 6 2 hs hd (by kernel_rfl) agN rfl ?_
  simp only [seval]
  go_wp2_with fail
  intro a H; replace hs := H.s hs; replace hd := H.d rfl; replace e0 := H.k e0 rfl; replace e1 := H.k e1 rfl; replace e2 := H.k e2 rfl; have e6 := H.g 6 rfl rfl; have e7 := H.g 7 rfl rfl; clear H; refine hKq1 _ _ ?_; clear hKq1 Kq1; refine wp_seq_k fun Kq2 hKq2 => ?_; refine wp_seq_k fun Kq3 hKq3 => ?_
  refine sm_list [0, 2] 9 10 hs hd (by kernel_rfl) (agC e0 (agC e2 agN)) rfl ?_
  simp only [seval]
  go_wp2_with fail
  intro a H; replace hs := H.s hs; replace hd := H.d rfl; replace e0 := H.g 0 rfl rfl; replace e2 := H.g 2 rfl rfl; replace e1 := H.k e1 rfl; replace e6 := H.k e6 rfl; replace e7 := H.k e7 rfl; have e18 := H.g 18 rfl rfl; clear H; refine hKq3 _ _ ?_; clear hKq3 Kq3
  refine wp_cond_false (slotE e18) ?_
  clear e18; refine wp_skip ?_; refine hKq2 _ _ ?_; clear hKq2 Kq2; refine wp_seq_k fun Kq4 hKq4 => ?_; clear hq0 hq1
  refine sm_list [0, 1] 19 3 hs hd (by kernel_rfl) (agC e0 (agC e1 agN)) rfl ?_
  simp only [seval]
  go_wp2_with fail
  refine (sqTurn_any g r any last had when c0 c1 c2 c3 rs lo now w B hn hw hr).mono ?_
  rintro e w3 ⟨rfl, G3, rs3, B3t⟩
  obtain ⟨h3, B3⟩ : ∃ h3, Blk w3 g 189 (sqc r true last h3 when c0 c1 c2 c3 rs3 lo) := by
    unfold sqt at B3t
    split at B3t
    · exact ⟨0, B3t⟩
    · rename_i hx
      rcases ht with h | h
      · rw [h] at B3t; exact ⟨had, B3t⟩
      · cases any
        · exact absurd ⟨rfl, h⟩ hx
        · exact ⟨had, B3t⟩
  clear B3t ht hr hw hn B
  go_wp2_with fail
  intro a H; replace hs := H.s hs; replace hd := H.d rfl; replace e0 := H.g 0 rfl rfl; replace e1 := H.g 1 rfl rfl; replace e2 := H.k e2 rfl; replace e6 := H.k e6 rfl; replace e7 := H.k e7 rfl; clear H; refine hKq4 _ _ ?_; clear hKq4 Kq4; refine wp_seq_k fun Kq5 hKq5 => ?_
  refine sm_list [0, 2, 8] 22 3 hs hd (by kernel_rfl) (agC e0 (agC e2 (agU agN))) rfl ?_
  simp only [seval]
  go_wp2_with fail
  refine (sqMatch_any g r true last h3 when c0 c1 c2 c3 rs3 lo seq w3 B3).mono ?_
  rintro e w4 ⟨rfl, rfl⟩
  go_wp2_with fail
  intro a H; replace hs := H.s hs; replace hd := H.d rfl; replace e0 := H.g 0 rfl rfl; replace e2 := H.g 2 rfl rfl; replace e1 := H.k e1 rfl; replace e6 := H.k e6 rfl; replace e7 := H.k e7 rfl; have e8 := H.g 8 rfl rfl; clear H; refine hKq5 _ _ ?_; clear hKq5 Kq5; refine wp_seq_k fun Kq6 hKq6 => ?_; refine wp_seq_k fun Kq7 hKq7 => ?_
  have q0 := B3.cellOf (v := .int .i64 0) 0 rfl
  refine sm_list [0] 25 6 hs hd (by kernel_rfl) (agC e0 agN) rfl ?_
  simp only [seval]
  go_wp2_with fail
  intro a H; replace hs := H.s hs; replace hd := H.d rfl; replace e0 := H.g 0 rfl rfl; replace e1 := H.k e1 rfl; replace e2 := H.k e2 rfl; replace e6 := H.k e6 rfl; replace e7 := H.k e7 rfl; replace e8 := H.k e8 rfl; have e30 := H.g 30 rfl rfl; clear H; refine hKq7 _ _ ?_; clear hKq7 Kq7
  refine wp_cond_true (slotE e30) ?_
  clear e30; clear q0
  refine sm_list [0, 2, 8] 31 3 hs hd (by kernel_rfl) (agC e0 (agC e2 (agC e8 agN))) rfl ?_
  simp only [seval]
  go_wp2_with fail
  refine (sqVec_new g r last h3 when c0 c1 c2 c3 rs3 lo seq w3 B3).mono ?_
  rintro e w5 ⟨rfl, G5, B5⟩
  go_wp2_with fail
  intro a H; replace hs := H.s hs; replace hd := H.d rfl; replace e0 := H.g 0 rfl rfl; replace e2 := H.g 2 rfl rfl; replace e1 := H.k e1 rfl; replace e6 := H.k e6 rfl; replace e7 := H.k e7 rfl; replace e8 := H.g 8 rfl rfl; clear H; refine hKq6 _ _ ?_; clear hKq6 Kq6; refine wp_seq_k fun Kq8 hKq8 => ?_; have G6 := gr_trans G3 G5
  have B6 : Blk w5.drew g 189 (sqc r true seq 1 when c0 c1 c2 c3 rs3 lo) := B5.kept (Below.refl _ _).drew
  have G7 := gr_trans G6 (gr_below ((Below.refl w5.heap.size w5).drew) (some g))
  have HB6 := Lib.hid (And.intro B6 G7)
  have HB5 := Lib.hid B5
  clear B5 G6 G5 G3 B6 G7 B3
  refine sm_any [0, 8] 34 10 (by kernel_rfl) hs hd (by kernel_rfl) (agC e0 (agC e8 agN)) rfl (any_tree [10] (.take 0 (.take 1 (.take 2 (.take 3 (.take 4 (.take 5 (.take 6 (.free 7 (.free 8 (.take 9 (.wr 10 .nil))))))))))) (fun (w' : World) => Blk w' g 189 (sqc r true seq 1 when c0 c1 c2 c3 rs3 lo)) (by kernel_rfl) (fun _ _ _ _ _ h => h) HB6.out.1 ?_)
  simp only [seval]
  obtain ⟨wd, hwd⟩ : ∃ wd, wd = w5.drew := ⟨_, rfl⟩
  rw [← hwd] at HB6 ⊢
  clear hwd
  iterate 7 (with_reducible (refine tr_take (v := ?_) rfl ?_ ?_ ?_); rotate_left; (first | exact wanted_none rfl | exact wanted_on rfl rfl rfl); (rintro w' u1; have q7 := u1.cellOf (v := .int .i64 c0) 7 rfl; have lz := u1.lt; go_simp; with_reducible rfl); simp only [Act.put, List.setIfInBounds_toArray, List.set_cons_zero, List.set_cons_succ])
  iterate 2 (with_reducible (refine tr_free (v := ?_) rfl ?_ ?_ ?_); rotate_left; (first | exact wanted_none rfl | exact wanted_on rfl rfl rfl); (intro w'; go_simp; with_reducible rfl); simp only [Act.put, List.setIfInBounds_toArray, List.set_cons_zero, List.set_cons_succ])
  (with_reducible (refine tr_take (v := ?_) rfl ?_ ?_ ?_); rotate_left; (first | exact wanted_none rfl | exact wanted_on rfl rfl rfl); (rintro w' u1; have q7 := u1.cellOf (v := .int .i64 c0) 7 rfl; have lz := u1.lt; go_simp; with_reducible rfl); simp only [Act.put, List.setIfInBounds_toArray, List.set_cons_zero, List.set_cons_succ])
  have xc := HB6.out.1.cellOf (v := .int .i64 c0) 7 rfl; have fz := HB6.out.1.frozen; have lz := HB6.out.1.lt
  (with_reducible (refine tr_wr (w' := ?_) rfl ?_ ?_ ?_); rotate_left; (first | exact wanted_none rfl | exact wanted_on rfl rfl rfl); (go_simp; with_reducible rfl); simp only [Act.put, List.setIfInBounds_toArray, List.set_cons_zero, List.set_cons_succ])
  refine tr_nil ?_
  intro a H; replace hs := H.s hs; replace hd := H.d rfl; replace e0 := H.g 0 rfl rfl; replace e8 := H.g 8 rfl rfl; replace e1 := H.k e1 rfl; replace e2 := H.k e2 rfl; replace e6 := H.k e6 rfl; replace e7 := H.k e7 rfl; clear H; refine hKq8 _ _ ?_; clear hKq8 Kq8; refine wp_seq_k fun Kq9 hKq9 => ?_; refine wp_seq_k fun Kq10 hKq10 => ?_
  have B7 : Blk (wd.setCell ⟨g, 7, none⟩ (.int .i64 (IntKind.i64.wrap (c0 + 1)))) g 189 (sqc r true seq 1 when (IntKind.i64.wrap (c0 + 1)) c1 c2 c3 rs3 lo) := HB6.out.1.set_ 7 _
  have G8 := gr_trans HB6.out.2 (gr_set (grownBy_refl wd (some g)) 7 (.int .i64 (IntKind.i64.wrap (c0 + 1))))
  refine (?_ : ∀ W : World, Blk W g 189 (sqc r true seq 1 when (IntKind.i64.wrap (c0 + 1)) c1 c2 c3 rs3 lo) → w.grownBy W (some g) → Code.wp Tryz.prog _ _ _ W) _ B7 G8
  clear B7 G8
  intro w8 B7 G8
  clear HB6 HB5 xc fz lz
  refine sm_list [8] 44 6 hs hd (by kernel_rfl) (agC e8 agN) rfl ?_
  simp only [seval]
  go_wp2_with fail
  intro a H; replace hs := H.s hs; replace hd := H.d rfl; replace e8 := H.g 8 rfl rfl; replace e0 := H.k e0 rfl; replace e1 := H.k e1 rfl; replace e2 := H.k e2 rfl; replace e6 := H.k e6 rfl; replace e7 := H.k e7 rfl; have e49 := H.g 49 rfl rfl; clear H; refine hKq10 _ _ ?_; clear hKq10 Kq10
  have HB7 := Lib.hid (And.intro B7 G8)
  have q6 := B7.cellOf (v := .int .i64 when) 6 rfl
  have fz := B7.frozen
  have lz := B7.lt
  clear B7 G8
  refine wp_cond_true (slotE e49) ?_
  clear e49; refine wp_seq_k fun Kq11 hKq11 => ?_
  refine sm_list [0, 1] 50 4 hs hd (by kernel_rfl) (agC e0 (agC e1 agN)) rfl ?_
  simp only [seval]
  go_wp2_with fail
  intro a H; replace hs := H.s hs; replace hd := H.d rfl; replace e0 := H.g 0 rfl rfl; replace e1 := H.g 1 rfl rfl; replace e2 := H.k e2 rfl; replace e6 := H.k e6 rfl; replace e7 := H.k e7 rfl; replace e8 := H.k e8 rfl; clear H; refine hKq11 _ _ ?_; clear hKq11 Kq11
  have B9 : Blk (w8.setCell ⟨g, 6, none⟩ (.int .i64 now)) g 189 (sqc r true seq 1 now (IntKind.i64.wrap (c0 + 1)) c1 c2 c3 rs3 lo) := HB7.out.1.set_ 6 _
  have G9 := gr_trans HB7.out.2 (gr_set (grownBy_refl w8 (some g)) 6 (.int .i64 now))
  refine (?_ : ∀ W : World, Blk W g 189 (sqc r true seq 1 now (IntKind.i64.wrap (c0 + 1)) c1 c2 c3 rs3 lo) → w.grownBy W (some g) → Code.wp Tryz.prog _ _ _ W) _ B9 G9
  clear B9 G9
  intro w9 B9 G9
  have HB9 := Lib.hid (And.intro B9 G9)
  clear q6 fz lz HB7
  have q3 := B9.cellOf (v := .bool true) 3 rfl
  have fz := B9.frozen
  have lz := B9.lt
  clear B9 G9
  refine sm_list [0] 54 3 hs hd (by kernel_rfl) (agC e0 agN) rfl ?_
  simp only [seval]
  go_wp2_with fail
  intro a H; replace hs := H.s hs; replace hd := H.d rfl; replace e0 := H.g 0 rfl rfl; replace e1 := H.k e1 rfl; replace e2 := H.k e2 rfl; replace e6 := H.k e6 rfl; replace e7 := H.k e7 rfl; replace e8 := H.k e8 rfl; clear H; refine hKq9 _ _ ?_; clear hKq9 Kq9; refine wp_seq_k fun Kq12 hKq12 => ?_
  refine sm_list [6, 7, 8] 57 1 hs hd (by kernel_rfl) (agC e6 (agC e7 (agC e8 agN))) rfl ?_
  simp only [seval]
  go_wp2_with fail
  intro a H; replace hs := H.s hs; replace hd := H.d rfl; replace e8 := H.g 8 rfl rfl; replace e0 := H.k e0 rfl; replace e1 := H.k e1 rfl; replace e2 := H.k e2 rfl; replace e6 := H.g 6 rfl rfl; replace e7 := H.g 7 rfl rfl; clear H; refine hKq12 _ _ ?_; clear hKq12 Kq12; refine wp_ret ?_
  exact sm_ret2 rfl hd e6 e7 ⟨rfl, gr_trans HB9.out.2 (gr_set (grownBy_refl w9 (some g)) 3 (.bool false)), _, _, _, _, _, _, HB9.out.1.set_ 3 (.bool false)⟩
set_option maxRecDepth 100000 in
set_option maxHeartbeats 4000000 in
theorem sqIn_again (g : Nat) (r : Int) (when c0 c1 c2 c3 rs lo : Int) (now seq : Int) (w : World) (B : Blk w g 189 (sqc r false seq 1 when c0 c1 c2 c3 rs lo)) (hn : 0 ≤ now ∧ now ≤ 4611686018427387904) (hw : 0 ≤ when ∧ when ≤ 4611686018427387904) (hr : 1 ≤ r ∧ r ≤ 4611686018427387904) (hs0 : 0 ≤ seq ∧ seq < 65536) (ht : ¬ (when ≤ now ∧ r ≤ now - when)) : Calls Tryz.prog 49 #[.pointer (some ⟨g, 0, none⟩), .int .i64 now, .int .i64 seq] w fun e w' => e = .returned (.tuple #[.int .i64 1, .int .i64 0]) ∧ w.grownBy w' (some g) ∧ SqAt w' g r false seq 1 when := by
  refine calls_sm (N := 58) Tryz.func49 rfl (by kernel_rfl) ?_
  intro a hs hd ha
  have e0 : a.tmps[0]? = some (.pointer (some ⟨g, 0, none⟩)) := ha 0 _ rfl
  have e1 : a.tmps[1]? = some (.int .i64 now) := ha 1 _ rfl
  have e2 : a.tmps[2]? = some (.int .i64 seq) := ha 2 _ rfl
  clear ha
  conv => arg 2; whnf
  refine wp_seq_k fun Kq1 hKq1 => ?_
  have hq0 : decide (seq < 0) = false := decide_eq_false (by omega)
  have hq1 : decide ((65536 : Int) ≤ seq) = false := decide_eq_false (by omega)
  refine sm_list [] 6 2 hs hd (by kernel_rfl) agN rfl ?_
  simp only [seval]
  go_wp2_with fail
  intro a H; replace hs := H.s hs; replace hd := H.d rfl; replace e0 := H.k e0 rfl; replace e1 := H.k e1 rfl; replace e2 := H.k e2 rfl; have e6 := H.g 6 rfl rfl; have e7 := H.g 7 rfl rfl; clear H; refine hKq1 _ _ ?_; clear hKq1 Kq1; refine wp_seq_k fun Kq2 hKq2 => ?_; refine wp_seq_k fun Kq3 hKq3 => ?_
  refine sm_list [0, 2] 9 10 hs hd (by kernel_rfl) (agC e0 (agC e2 agN)) rfl ?_
  simp only [seval]
  go_wp2_with fail
  intro a H; replace hs := H.s hs; replace hd := H.d rfl; replace e0 := H.g 0 rfl rfl; replace e2 := H.g 2 rfl rfl; replace e1 := H.k e1 rfl; replace e6 := H.k e6 rfl; replace e7 := H.k e7 rfl; have e18 := H.g 18 rfl rfl; clear H; refine hKq3 _ _ ?_; clear hKq3 Kq3
  refine wp_cond_false (slotE e18) ?_
  clear e18; refine wp_skip ?_; refine hKq2 _ _ ?_; clear hKq2 Kq2; refine wp_seq_k fun Kq4 hKq4 => ?_; clear hq0 hq1
  refine sm_list [0, 1] 19 3 hs hd (by kernel_rfl) (agC e0 (agC e1 agN)) rfl ?_
  simp only [seval]
  go_wp2_with fail
  refine (sqTurn_any g r false seq 1 when c0 c1 c2 c3 rs lo now w B hn hw hr).mono ?_
  rintro e w3 ⟨rfl, G3, rs3, B3t⟩
  have B3 : Blk w3 g 189 (sqc r false seq 1 when c0 c1 c2 c3 rs3 lo) := by
    unfold sqt at B3t
    rw [if_neg (fun h => ht h.2)] at B3t
    exact B3t
  clear B3t ht hr hw hn B
  go_wp2_with fail
  intro a H; replace hs := H.s hs; replace hd := H.d rfl; replace e0 := H.g 0 rfl rfl; replace e1 := H.g 1 rfl rfl; replace e2 := H.k e2 rfl; replace e6 := H.k e6 rfl; replace e7 := H.k e7 rfl; clear H; refine hKq4 _ _ ?_; clear hKq4 Kq4; refine wp_seq_k fun Kq5 hKq5 => ?_
  refine sm_list [0, 2, 8] 22 3 hs hd (by kernel_rfl) (agC e0 (agC e2 (agU agN))) rfl ?_
  simp only [seval]
  go_wp2_with fail
  refine (sqMatch_any g r false seq 1 when c0 c1 c2 c3 rs3 lo seq w3 B3).mono ?_
  rintro e w4 ⟨rfl, rfl⟩
  go_wp2_with fail
  intro a H; replace hs := H.s hs; replace hd := H.d rfl; replace e0 := H.g 0 rfl rfl; replace e2 := H.g 2 rfl rfl; replace e1 := H.k e1 rfl; replace e6 := H.k e6 rfl; replace e7 := H.k e7 rfl; have e8 := H.g 8 rfl rfl; clear H; refine hKq5 _ _ ?_; clear hKq5 Kq5; refine wp_seq_k fun Kq6 hKq6 => ?_; refine wp_seq_k fun Kq7 hKq7 => ?_
  have q0 := B3.cellOf (v := .int .i64 0) 0 rfl
  refine sm_list [0] 25 6 hs hd (by kernel_rfl) (agC e0 agN) rfl ?_
  simp only [seval]
  go_wp2_with fail
  intro a H; replace hs := H.s hs; replace hd := H.d rfl; replace e0 := H.g 0 rfl rfl; replace e1 := H.k e1 rfl; replace e2 := H.k e2 rfl; replace e6 := H.k e6 rfl; replace e7 := H.k e7 rfl; replace e8 := H.k e8 rfl; have e30 := H.g 30 rfl rfl; clear H; refine hKq7 _ _ ?_; clear hKq7 Kq7
  refine wp_cond_true (slotE e30) ?_
  clear e30; clear q0
  refine sm_list [0, 2, 8] 31 3 hs hd (by kernel_rfl) (agC e0 (agC e2 (agC e8 agN))) rfl ?_
  simp only [seval]
  go_wp2_with fail
  refine (sqVec_same g r seq when c0 c1 c2 c3 rs3 lo w3 B3).mono ?_
  rintro e w5 ⟨rfl, rfl⟩
  have B5 := B3
  have G5 := grownBy_refl w3 (some g)
  go_wp2_with fail
  intro a H; replace hs := H.s hs; replace hd := H.d rfl; replace e0 := H.g 0 rfl rfl; replace e2 := H.g 2 rfl rfl; replace e1 := H.k e1 rfl; replace e6 := H.k e6 rfl; replace e7 := H.k e7 rfl; replace e8 := H.g 8 rfl rfl; clear H; refine hKq6 _ _ ?_; clear hKq6 Kq6; refine wp_seq_k fun Kq8 hKq8 => ?_; have G6 := gr_trans G3 G5
  have B6 : Blk w3.drew g 189 (sqc r false seq 1 when c0 c1 c2 c3 rs3 lo) := B5.kept (Below.refl _ _).drew
  have G7 := gr_trans G6 (gr_below ((Below.refl w3.heap.size w3).drew) (some g))
  have HB6 := Lib.hid (And.intro B6 G7)
  have HB5 := Lib.hid B5
  clear B5 G6 G5 G3 B6 G7 B3
  refine sm_any [0, 8] 34 10 (by kernel_rfl) hs hd (by kernel_rfl) (agC e0 (agC e8 agN)) rfl (any_tree [10] (.take 0 (.take 1 (.take 2 (.take 3 (.take 4 (.take 5 (.take 6 (.free 7 (.free 8 (.take 9 (.wr 10 .nil))))))))))) (fun (w' : World) => Blk w' g 189 (sqc r false seq 1 when c0 c1 c2 c3 rs3 lo)) (by kernel_rfl) (fun _ _ _ _ _ h => h) HB6.out.1 ?_)
  simp only [seval]
  obtain ⟨wd, hwd⟩ : ∃ wd, wd = w3.drew := ⟨_, rfl⟩
  rw [← hwd] at HB6 ⊢
  clear hwd
  iterate 7 (with_reducible (refine tr_take (v := ?_) rfl ?_ ?_ ?_); rotate_left; (first | exact wanted_none rfl | exact wanted_on rfl rfl rfl); (rintro w' u1; have q8 := u1.cellOf (v := .int .i64 c1) 8 rfl; have lz := u1.lt; go_simp; with_reducible rfl); simp only [Act.put, List.setIfInBounds_toArray, List.set_cons_zero, List.set_cons_succ])
  iterate 2 (with_reducible (refine tr_free (v := ?_) rfl ?_ ?_ ?_); rotate_left; (first | exact wanted_none rfl | exact wanted_on rfl rfl rfl); (intro w'; go_simp; with_reducible rfl); simp only [Act.put, List.setIfInBounds_toArray, List.set_cons_zero, List.set_cons_succ])
  (with_reducible (refine tr_take (v := ?_) rfl ?_ ?_ ?_); rotate_left; (first | exact wanted_none rfl | exact wanted_on rfl rfl rfl); (rintro w' u1; have q8 := u1.cellOf (v := .int .i64 c1) 8 rfl; have lz := u1.lt; go_simp; with_reducible rfl); simp only [Act.put, List.setIfInBounds_toArray, List.set_cons_zero, List.set_cons_succ])
  have xc := HB6.out.1.cellOf (v := .int .i64 c1) 8 rfl; have fz := HB6.out.1.frozen; have lz := HB6.out.1.lt
  (with_reducible (refine tr_wr (w' := ?_) rfl ?_ ?_ ?_); rotate_left; (first | exact wanted_none rfl | exact wanted_on rfl rfl rfl); (go_simp; with_reducible rfl); simp only [Act.put, List.setIfInBounds_toArray, List.set_cons_zero, List.set_cons_succ])
  refine tr_nil ?_
  intro a H; replace hs := H.s hs; replace hd := H.d rfl; replace e0 := H.g 0 rfl rfl; replace e8 := H.g 8 rfl rfl; replace e1 := H.k e1 rfl; replace e2 := H.k e2 rfl; replace e6 := H.k e6 rfl; replace e7 := H.k e7 rfl; clear H; refine hKq8 _ _ ?_; clear hKq8 Kq8; refine wp_seq_k fun Kq9 hKq9 => ?_; refine wp_seq_k fun Kq10 hKq10 => ?_
  have B7 : Blk (wd.setCell ⟨g, 8, none⟩ (.int .i64 (IntKind.i64.wrap (c1 + 1)))) g 189 (sqc r false seq 1 when c0 (IntKind.i64.wrap (c1 + 1)) c2 c3 rs3 lo) := HB6.out.1.set_ 8 _
  have G8 := gr_trans HB6.out.2 (gr_set (grownBy_refl wd (some g)) 8 (.int .i64 (IntKind.i64.wrap (c1 + 1))))
  refine (?_ : ∀ W : World, Blk W g 189 (sqc r false seq 1 when c0 (IntKind.i64.wrap (c1 + 1)) c2 c3 rs3 lo) → w.grownBy W (some g) → Code.wp Tryz.prog _ _ _ W) _ B7 G8
  clear B7 G8
  intro w8 B7 G8
  clear HB6 HB5 xc fz lz
  refine sm_list [8] 44 6 hs hd (by kernel_rfl) (agC e8 agN) rfl ?_
  simp only [seval]
  go_wp2_with fail
  intro a H; replace hs := H.s hs; replace hd := H.d rfl; replace e8 := H.g 8 rfl rfl; replace e0 := H.k e0 rfl; replace e1 := H.k e1 rfl; replace e2 := H.k e2 rfl; replace e6 := H.k e6 rfl; replace e7 := H.k e7 rfl; have e49 := H.g 49 rfl rfl; clear H; refine hKq10 _ _ ?_; clear hKq10 Kq10
  refine wp_cond_false (slotE e49) ?_
  clear e49; refine wp_skip ?_; refine hKq9 _ _ ?_; clear hKq9 Kq9; refine wp_seq_k fun Kq11 hKq11 => ?_
  refine sm_list [6, 7, 8] 57 1 hs hd (by kernel_rfl) (agC e6 (agC e7 (agC e8 agN))) rfl ?_
  simp only [seval]
  go_wp2_with fail
  intro a H; replace hs := H.s hs; replace hd := H.d rfl; replace e8 := H.g 8 rfl rfl; replace e0 := H.k e0 rfl; replace e1 := H.k e1 rfl; replace e2 := H.k e2 rfl; replace e6 := H.g 6 rfl rfl; replace e7 := H.g 7 rfl rfl; clear H; refine hKq11 _ _ ?_; clear hKq11 Kq11; refine wp_ret ?_
  exact sm_ret2 rfl hd e6 e7 ⟨rfl, G8, _, _, _, _, _, _, B7⟩
end Go.Proofs.YthhlfojaloaooaaGreat

namespace Go.Proofs.YthhlfojaloaooaaGreat
set_option linter.unusedSimpArgs false
set_option linter.unusedVariables false
open Go.RowKit Go.WideShapes Go.ChangeShapes
attribute [local go_sem ↓] Go.wp_at_zero Go.wp_at_succ

set_option maxRecDepth 100000 in
set_option maxHeartbeats 4000000 in
theorem sqCheck_ok (r : Int) (hr : 1 ≤ r ∧ r ≤ 1099511627776) (w : World) : Calls Tryz.prog 56 #[.agg #[.int .i64 0, .int .i64 32, .int .i64 r]] w fun e w' => e = .returned (.int .i64 0) ∧ Below w.heap.size w w' := by
  refine calls_sm (N := 31) Tryz.func56 rfl (by kernel_rfl) ?_
  intro a hs hd ha
  have e0 : a.tmps[0]? = some (.agg #[.int .i64 0, .int .i64 32, .int .i64 r]) := ha 0 _ rfl
  clear ha
  conv => arg 2; whnf
  refine wp_seq_k fun Kq1 hKq1 => ?_
  refine sm_list [0] 1 2 hs hd (by kernel_rfl) (agC e0 agN) rfl ?_
  simp only [seval]
  go_wp2_with fail
  intro a H; replace hs := H.s hs; replace hd := H.d rfl; replace e0 := H.g 0 rfl rfl; have e1 := H.g 1 rfl rfl; have e2 := H.g 2 rfl rfl; clear H; refine hKq1 _ _ ?_; clear hKq1 Kq1; refine wp_seq_k fun Kq2 hKq2 => ?_; refine wp_seq_k fun Kq3 hKq3 => ?_
  have B := Blk.new w 82 #[.int .i64 0, .int .i64 32, .int .i64 r]
  have L1 := (Below.refl w.heap.size w).alloc (Nat.le_refl _) (.cells #[.int .i64 0, .int .i64 32, .int .i64 r] 82)
  generalize hw1 : w.alloc (.cells #[.int .i64 0, .int .i64 32, .int .i64 r] 82) = w1 at B L1 ⊢
  have q0 := B.cellOf (v := .int .i64 0) 0 rfl
  have q1 := B.cellOf (v := .int .i64 32) 1 rfl
  have q2 := B.cellOf (v := .int .i64 r) 2 rfl
  have d1 : decide (r < 1) = false := decide_eq_false (by omega)
  have d2 : decide ((1099511627776 : Int) < r) = false := decide_eq_false (by omega)
  clear B hw1
  refine sm_list [1] 3 28 hs hd (by kernel_rfl) (agC e1 agN) rfl ?_
  simp only [seval]
  go_wp2_with fail
  intro a H; replace hs := H.s hs; replace hd := H.d rfl; replace e1 := H.g 1 rfl rfl; replace e0 := H.k e0 rfl; replace e2 := H.k e2 rfl; have e30 := H.g 30 rfl rfl; clear H; refine hKq3 _ _ ?_; clear hKq3 Kq3
  refine wp_cond_false (slotE e30) ?_
  clear e30; refine wp_skip ?_; refine hKq2 _ _ ?_; clear hKq2 Kq2; refine wp_seq_k fun Kq4 hKq4 => ?_
  refine sm_list [] 2 1 hs hd (by kernel_rfl) agN rfl ?_
  simp only [seval]
  go_wp2_with fail
  intro a H; replace hs := H.s hs; replace hd := H.d rfl; replace e0 := H.k e0 rfl; replace e1 := H.k e1 rfl; replace e2 := H.g 2 rfl rfl; clear H; refine hKq4 _ _ ?_; clear hKq4 Kq4; refine wp_ret ?_
  exact sm_ret rfl hd e2 ⟨rfl, L1⟩
set_option maxRecDepth 100000 in
set_option maxHeartbeats 4000000 in
theorem sqNew_ok (r now : Int) (hr : 1 ≤ r ∧ r ≤ 1099511627776) (w : World) : Calls Tryz.prog 40 #[.agg #[.int .i64 0, .int .i64 32, .int .i64 r], .int .i64 now] w fun e w' => ∃ g, e = .returned (.tuple #[.pointer (some ⟨g, 0, none⟩), .int .i64 0]) ∧ Below w.heap.size w w' ∧ w.heap.size ≤ g ∧ SqAt w' g r true 0 0 now := by
  refine calls_sm (N := 16) Tryz.func40 rfl (by kernel_rfl) ?_
  intro a hs hd ha
  have e0 : a.tmps[0]? = some (.agg #[.int .i64 0, .int .i64 32, .int .i64 r]) := ha 0 _ rfl
  have e1 : a.tmps[1]? = some (.int .i64 now) := ha 1 _ rfl
  clear ha
  conv => arg 2; whnf
  refine wp_seq_k fun Kq1 hKq1 => ?_
  refine sm_list [0, 2] 4 2 hs hd (by kernel_rfl) (agC e0 (agU agN)) rfl ?_
  simp only [seval]
  go_wp2_with fail
  intro a H; replace hs := H.s hs; replace hd := H.d rfl; replace e0 := H.g 0 rfl rfl; replace e1 := H.k e1 rfl; have e2 := H.g 2 rfl rfl; have e4 := H.g 4 rfl rfl; have e5 := H.g 5 rfl rfl; clear H; refine hKq1 _ _ ?_; clear hKq1 Kq1; refine wp_seq_k fun Kq2 hKq2 => ?_; refine wp_seq_k fun Kq3 hKq3 => ?_
  have B := Blk.new w 82 #[.int .i64 0, .int .i64 32, .int .i64 r]
  have L1 := (Below.refl w.heap.size w).alloc (Nat.le_refl _) (.cells #[.int .i64 0, .int .i64 32, .int .i64 r] 82)
  generalize hw1 : w.alloc (.cells #[.int .i64 0, .int .i64 32, .int .i64 r] 82) = w1 at B L1 ⊢
  obtain ⟨q, hq⟩ : ∃ q, q = w.heap.size := ⟨_, rfl⟩
  rw [← hq] at B e2
  clear hw1 hq
  refine sm_list [2] 6 3 hs hd (by kernel_rfl) (agC e2 agN) rfl ?_
  simp only [seval]
  go_wp2_with (first | (refine wpList_load_any_d rfl 82 (.tmp 0) rfl ⟨q, 0, none⟩ rfl #[.int .i64 0, .int .i64 32, .int .i64 r] _ (blk_cells B) Tryz.underlying82 rfl (by kernel_rfl) ?_) | fail)
  refine (sqCheck_ok r hr w1).mono ?_
  rintro e w2 ⟨rfl, hb2⟩
  go_wp2_with fail
  intro a H; replace hs := H.s hs; replace hd := H.d rfl; replace e2 := H.g 2 rfl rfl; replace e0 := H.k e0 rfl; replace e1 := H.k e1 rfl; replace e4 := H.k e4 rfl; replace e5 := H.k e5 rfl; have e6 := H.g 6 rfl rfl; clear H; refine hKq3 _ _ ?_; clear hKq3 Kq3; refine wp_seq_k fun Kq4 hKq4 => ?_
  refine sm_list [6] 9 2 hs hd (by kernel_rfl) (agC e6 agN) rfl ?_
  simp only [seval]
  go_wp2_with fail
  intro a H; replace hs := H.s hs; replace hd := H.d rfl; replace e6 := H.g 6 rfl rfl; replace e0 := H.k e0 rfl; replace e1 := H.k e1 rfl; replace e2 := H.k e2 rfl; replace e4 := H.k e4 rfl; replace e5 := H.k e5 rfl; have e10 := H.g 10 rfl rfl; clear H; refine hKq4 _ _ ?_; clear hKq4 Kq4
  refine wp_cond_false (slotE e10) ?_
  clear e10; refine wp_skip ?_; refine hKq2 _ _ ?_; clear hKq2 Kq2; refine wp_seq_k fun Kq5 hKq5 => ?_
  have B2 := B.kept hb2
  have L2 := L1.trans (hb2.mono L1.size)
  refine sm_list [1, 2, 4, 5] 12 4 hs hd (by kernel_rfl) (agC e1 (agC e2 (agC e4 (agC e5 agN)))) rfl ?_
  simp only [seval]
  go_wp2_with (first | (refine wpList_load_any_d rfl 82 (.tmp 1) rfl ⟨q, 0, none⟩ rfl #[.int .i64 0, .int .i64 32, .int .i64 r] _ (blk_cells B2) Tryz.underlying82 rfl (by kernel_rfl) ?_) | fail)
  intro a H; replace hs := H.s hs; replace hd := H.d rfl; replace e1 := H.g 1 rfl rfl; replace e2 := H.g 2 rfl rfl; replace e0 := H.k e0 rfl; replace e6 := H.k e6 rfl; replace e4 := H.g 4 rfl rfl; replace e5 := H.g 5 rfl rfl; clear H; refine hKq5 _ _ ?_; clear hKq5 Kq5; refine wp_ret ?_
  refine sm_ret2 rfl hd e4 e5 ⟨w2.heap.size, rfl, L2.alloc L2.size _, L2.size, 0, 0, 0, 0, 0, 0, ?_⟩
  exact Blk.new w2 189 (sqc r true 0 0 now 0 0 0 0 0 0)
set_option maxRecDepth 100000 in
set_option maxHeartbeats 4000000 in
theorem gNext_any (q i : Nat) (x : Int) (hx : 0 ≤ x ∧ x < 65536) (T : TypeId) (cs : Array Value) (w : World) (B : Blk w q T cs) (hi : cs[i]? = some (.int .i64 x)) : Calls Tryz.prog 23 #[.pointer (some ⟨q, i, none⟩)] w fun e w' => e = .returned (.int .i64 x) ∧ w.grownBy w' (some q) ∧ Blk w' q T (cs.setIfInBounds i (.int .i64 ((x + 1) % 65536))) := by
  have u1 : IntKind.i64.wrap (x + 1) = x + 1 := IntWalk.i64_in _ ⟨by omega, by omega⟩
  have u2 : (x + 1).tmod 65536 = (x + 1) % 65536 := Int.tmod_eq_emod_of_nonneg (by omega)
  have u3 : IntKind.i64.wrap ((x + 1) % 65536) = (x + 1) % 65536 := IntWalk.i64_in _ ⟨by omega, by omega⟩
  refine calls_sm (N := 17) Tryz.func23 rfl (by kernel_rfl) ?_
  intro a hs hd ha
  have e0 : a.tmps[0]? = some (.pointer (some ⟨q, i, none⟩)) := ha 0 _ rfl
  clear ha
  conv => arg 2; whnf
  refine wp_seq_k fun Kq1 hKq1 => ?_
  have q0 := B.cellOf i hi
  have fz := B.frozen
  have lz := B.lt
  have HB := Lib.hid B
  clear B hi
  refine sm_list [] 2 1 hs hd (by kernel_rfl) agN rfl ?_
  simp only [seval]
  go_wp2_with fail
  intro a H; replace hs := H.s hs; replace hd := H.d rfl; replace e0 := H.k e0 rfl; have e2 := H.g 2 rfl rfl; clear H; refine hKq1 _ _ ?_; clear hKq1 Kq1; refine wp_seq_k fun Kq2 hKq2 => ?_; refine wp_seq_k fun Kq3 hKq3 => ?_
  refine sm_list [0] 4 2 hs hd (by kernel_rfl) (agC e0 agN) rfl ?_
  simp only [seval]
  go_wp2_with fail
  intro a H; replace hs := H.s hs; replace hd := H.d rfl; replace e0 := H.g 0 rfl rfl; replace e2 := H.k e2 rfl; have e5 := H.g 5 rfl rfl; clear H; refine hKq3 _ _ ?_; clear hKq3 Kq3
  refine wp_cond_false (slotE e5) ?_
  clear e5; refine wp_skip ?_; refine hKq2 _ _ ?_; clear hKq2 Kq2; refine wp_seq_k fun Kq4 hKq4 => ?_
  refine sm_list [0, 3] 6 4 hs hd (by kernel_rfl) (agC e0 (agU agN)) rfl ?_
  simp only [seval]
  go_wp2_with fail
  intro a H; replace hs := H.s hs; replace hd := H.d rfl; replace e0 := H.g 0 rfl rfl; replace e2 := H.k e2 rfl; have e3 := H.g 3 rfl rfl; clear H; refine hKq4 _ _ ?_; clear hKq4 Kq4; refine wp_seq_k fun Kq5 hKq5 => ?_
  refine sm_list [0, 3] 10 6 hs hd (by kernel_rfl) (agC e0 (agC e3 agN)) rfl ?_
  simp only [seval]
  go_wp2_with fail
  intro a H; replace hs := H.s hs; replace hd := H.d rfl; replace e0 := H.g 0 rfl rfl; replace e3 := H.g 3 rfl rfl; replace e2 := H.k e2 rfl; clear H; refine hKq5 _ _ ?_; clear hKq5 Kq5; refine wp_seq_k fun Kq6 hKq6 => ?_
  refine sm_list [2, 3] 16 1 hs hd (by kernel_rfl) (agC e2 (agC e3 agN)) rfl ?_
  simp only [seval]
  go_wp2_with fail
  intro a H; replace hs := H.s hs; replace hd := H.d rfl; replace e3 := H.g 3 rfl rfl; replace e0 := H.k e0 rfl; replace e2 := H.g 2 rfl rfl; clear H; refine hKq6 _ _ ?_; clear hKq6 Kq6; refine wp_ret ?_
  exact sm_ret rfl hd e2 ⟨rfl, gr_set (grownBy_refl _ _) _ _, HB.out.set_ i _⟩
end Go.Proofs.YthhlfojaloaooaaGreat
