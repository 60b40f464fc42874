/-
  sieve: one of no streams.
-/
import Derived.Test.YthhlfojaloaooaaGreatRows
import Derived.Test.YthhlfojaloaooaaGreatHnMZ
import Derived.WalkKit
import Derived.ProofKit
import Derived.OpenShut
import Derived.LoopTactic
import Derived.WalkLawsBesides
import Derived.WalkSpells
import Derived.Outline
import Derived.Lib.Hide
import Derived.Deep.DrawnRows
import Derived.Laws.CopyOwn
import Derived.MapKept
namespace Go.Proofs.YthhlfojaloaooaaGreat
set_option linter.unusedSimpArgs false
set_option linter.unusedVariables false
open Go.RowKit Go.WideShapes Go.ChangeShapes
attribute [local go_sem ↓] Go.wp_at_zero Go.wp_at_succ

set_option maxRecDepth 100000 in
set_option maxHeartbeats 4000000 in
theorem svNew_nil (now : Int) (w : World) : Calls Tryz.prog 35 #[.slice none 0 0, .slice none 0 0, .slice none 0 0, .int .i64 now] w fun e w' => ∃ g, e = .returned (.tuple #[.pointer (some ⟨g, 0, none⟩), .int .i64 0]) ∧ Below w.heap.size w w' := by
  refine calls_sm (N := 174) Tryz.func35 rfl (by kernel_rfl) ?_
  intro a hs hd ha
  have e0 : a.tmps[0]? = some (.slice none 0 0) := ha 0 _ rfl
  have e1 : a.tmps[1]? = some (.slice none 0 0) := ha 1 _ rfl
  have e2 : a.tmps[2]? = some (.slice none 0 0) := ha 2 _ rfl
  have e3 : a.tmps[3]? = some (.int .i64 now) := ha 3 _ rfl
  clear ha
  conv => arg 2; whnf
  refine wp_seq_k fun Kq1 hKq1 => ?_
  refine sm_list [] 8 2 hs hd (by kernel_rfl) agN rfl ?_
  simp only [seval]
  go_wp2_with fail
  intro a H; replace hs := H.s hs; replace hd := H.d rfl; replace e0 := H.k e0 rfl; replace e1 := H.k e1 rfl; replace e2 := H.k e2 rfl; replace e3 := H.k e3 rfl; have e8 := H.g 8 rfl rfl; have e9 := H.g 9 rfl rfl; clear H; refine hKq1 _ _ ?_; clear hKq1 Kq1; refine wp_seq_k fun Kq2 hKq2 => ?_; refine wp_seq_k fun Kq3 hKq3 => ?_
  refine sm_list [0, 1, 2] 20 13 hs hd (by kernel_rfl) (agC e0 (agC e1 (agC e2 agN))) rfl ?_
  simp only [seval]
  go_wp2_with fail
  intro a H; replace hs := H.s hs; replace hd := H.d rfl; replace e0 := H.g 0 rfl rfl; replace e1 := H.g 1 rfl rfl; replace e2 := H.g 2 rfl rfl; replace e3 := H.k e3 rfl; replace e8 := H.k e8 rfl; replace e9 := H.k e9 rfl; have e32 := H.g 32 rfl rfl; clear H; refine hKq3 _ _ ?_; clear hKq3 Kq3
  refine wp_cond_false (slotE e32) ?_
  clear e32; refine wp_skip ?_; refine hKq2 _ _ ?_; clear hKq2 Kq2; refine wp_seq_k fun Kq4 hKq4 => ?_
  have uw : IntKind.i64.wrap 1 = 1 := rfl
  have mk1 : ∀ W, (Instr.makeSlice 101 (.int .i64 0) (.int .i64 0)).run Tryz.prog W = .ok (.slice (some ⟨W.heap.size, 0, none⟩) 0 0) (W.alloc (.cells (madeCells (Value.bool false).cells 0) 4)) := fun W => by
    obtain ⟨i, h1, h2, h3, h4⟩ := info_parts (P := Tryz.prog) (e := 4) (z := .bool false) (size := 1) (bytes := 1) (by kernel_rfl)
    have h := run_make_rowN (P := Tryz.prog) 101 4 i (.bool false) Tryz.underlying101 h1 h2 .i64 .i64 0 0 (by omega) (by omega) (by omega) W
    rw [Nat.zero_mul] at h
    exact h
  have mk2 : ∀ W, (Instr.makeSlice 161 (.int .i64 1) (.int .i64 1)).run Tryz.prog W = .ok (.slice (some ⟨W.heap.size, 0, none⟩) 1 1) (W.alloc (.cells (madeCells (Value.agg #[.int .i64 0, .int .i64 0, .int .i64 0, .int .i64 0, .int .i64 0, .int .i64 0]).cells 6) 232)) := fun W => by
    obtain ⟨i, h1, h2, h3, h4⟩ := info_parts (P := Tryz.prog) (e := 232) (z := .agg #[.int .i64 0, .int .i64 0, .int .i64 0, .int .i64 0, .int .i64 0, .int .i64 0]) (size := 6) (bytes := 48) (by kernel_rfl)
    have h := run_make_rowN (P := Tryz.prog) 161 232 i _ Tryz.underlying161 h1 h2 .i64 .i64 1 1 (by omega) (by omega) (by omega) W
    rw [Nat.one_mul, h3] at h
    exact h
  suffices HK : ∀ (a' : Act) (w8 : World) (gm : Nat), a'.tmps.size = a.tmps.size → a'.defers = [] → a'.tmps[0]? = a.tmps[0]? → a'.tmps[1]? = a.tmps[1]? → a'.tmps[2]? = a.tmps[2]? → a'.tmps[3]? = a.tmps[3]? → a'.tmps[8]? = a.tmps[8]? → a'.tmps[9]? = a.tmps[9]? → a'.tmps[10]? = some (.pointer (some ⟨gm, 0, none⟩)) → Below w.heap.size w w8 → Kq4 a' w8 by
    refine sm_any [0, 10] 33 9 (by kernel_rfl) hs hd (by kernel_rfl) (agC e0 (agU agN)) rfl (any_tree [] (.take 0 (.take 1 (.take 3 (.take 4 (.take 5 (.two 2 6 (.one 6 (.take 7 (.one 8 (.take 9 .nil)))) (.one 2 (.take 7 (.one 8 (.take 9 .nil)))))))))) (fun (w' : World) => Below w.heap.size w w') (by kernel_rfl) (fun _ _ _ _ _ h => h) ((Below.refl _ _).drew) ?_)
    simp only [seval]
    have hd0 : Below w.heap.size w w.drew := (Below.refl _ _).drew
    obtain ⟨wd, hwd⟩ : ∃ wd, wd = w.drew := ⟨_, rfl⟩
    rw [← hwd] at hd0 ⊢
    clear hwd
    iterate 5 (with_reducible (refine tr_take (v := ?_) rfl ?_ ?_ ?_); rotate_left; (first | exact wanted_none rfl | exact wanted_on rfl rfl rfl); (rintro w' _;  go_simp; with_reducible rfl); simp only [Act.put, List.setIfInBounds_toArray, List.set_cons_zero, List.set_cons_succ])
    refine tr_two ?_ ?_
    all_goals ((with_reducible (refine tr_run (v := ?_) (w' := ?_) rfl ?_ ?_ ?_ ?_); rotate_left 2; (first | exact wanted_none rfl | exact wanted_on rfl rfl rfl); (go_simp; refine ⟨?_, ?_⟩ <;> with_reducible rfl); (exact (by first | exact hd0 | exact hd0.alloc hd0.size _ | exact (hd0.alloc hd0.size _).alloc (hd0.alloc hd0.size _).size _ | exact ((hd0.alloc hd0.size _).alloc (hd0.alloc hd0.size _).size _).alloc ((hd0.alloc hd0.size _).alloc (hd0.alloc hd0.size _).size _).size _)); simp only [Act.put, List.setIfInBounds_toArray, List.set_cons_zero, List.set_cons_succ]); (with_reducible (refine tr_run (v := ?_) (w' := ?_) rfl ?_ ?_ ?_ ?_); rotate_left 2; (first | exact wanted_none rfl | exact wanted_on rfl rfl rfl); (go_simp; refine ⟨?_, ?_⟩ <;> with_reducible rfl); (exact (by first | exact hd0 | exact hd0.alloc hd0.size _ | exact (hd0.alloc hd0.size _).alloc (hd0.alloc hd0.size _).size _ | exact ((hd0.alloc hd0.size _).alloc (hd0.alloc hd0.size _).size _).alloc ((hd0.alloc hd0.size _).alloc (hd0.alloc hd0.size _).size _).size _)); simp only [Act.put, List.setIfInBounds_toArray, List.set_cons_zero, List.set_cons_succ]); (with_reducible (refine tr_take (v := ?_) rfl ?_ ?_ ?_); rotate_left; (first | exact wanted_none rfl | exact wanted_on rfl rfl rfl); (rintro w' _;  go_simp; with_reducible rfl); simp only [Act.put, List.setIfInBounds_toArray, List.set_cons_zero, List.set_cons_succ]); (with_reducible (refine tr_run (v := ?_) (w' := ?_) rfl ?_ ?_ ?_ ?_); rotate_left 2; (first | exact wanted_none rfl | exact wanted_on rfl rfl rfl); (go_simp; refine ⟨?_, ?_⟩ <;> with_reducible rfl); (exact (by first | exact hd0 | exact hd0.alloc hd0.size _ | exact (hd0.alloc hd0.size _).alloc (hd0.alloc hd0.size _).size _ | exact ((hd0.alloc hd0.size _).alloc (hd0.alloc hd0.size _).size _).alloc ((hd0.alloc hd0.size _).alloc (hd0.alloc hd0.size _).size _).size _)); simp only [Act.put, List.setIfInBounds_toArray, List.set_cons_zero, List.set_cons_succ]); (with_reducible (refine tr_take (v := ?_) rfl ?_ ?_ ?_); rotate_left; (first | exact wanted_none rfl | exact wanted_on rfl rfl rfl); (rintro w' _;  go_simp; with_reducible rfl); simp only [Act.put, List.setIfInBounds_toArray, List.set_cons_zero, List.set_cons_succ]); skip; refine tr_nil ?_)
    all_goals
      intro a' H
      refine HK a' _ ?_ H.size H.defers ((H.got rfl rfl).trans e0.symm) (H.out 1 rfl) (H.out 2 rfl) (H.out 3 rfl) (H.out 8 rfl) (H.out 9 rfl) ?_ ?_
      rotate_left 1
      · (refine (H.got (t := 10) rfl rfl).trans (congrArg some ?_); rfl)
      · first | exact hd0 | exact hd0.alloc hd0.size _ | exact (hd0.alloc hd0.size _).alloc (hd0.alloc hd0.size _).size _ | exact ((hd0.alloc hd0.size _).alloc (hd0.alloc hd0.size _).size _).alloc ((hd0.alloc hd0.size _).alloc (hd0.alloc hd0.size _).size _).size _
  intro a' w8 gm g_s g_d g0 g1 g2 g3 g8 g9 f10 hS8
  replace hs := g_s.trans hs; replace hd := g_d; replace e0 := g0.trans e0; replace e1 := g1.trans e1; replace e2 := g2.trans e2; replace e3 := g3.trans e3; replace e8 := g8.trans e8; replace e9 := g9.trans e9; clear g_s g_d g0 g1 g2 g3 g8 g9
  have e10 := f10
  clear f10
  first | clear a | skip
  obtain ⟨a, rfl⟩ : ∃ a, a = a' := ⟨_, rfl⟩
  refine hKq4 _ _ ?_; clear hKq4 Kq4; refine wp_seq_k fun Kq5 hKq5 => ?_; refine wp_seq_k fun Kq6 hKq6 => ?_
  refine sm_list [0] 42 3 hs hd (by kernel_rfl) (agC e0 agN) rfl ?_
  simp only [seval]
  go_wp2_with fail
  intro a H; replace hs := H.s hs; replace hd := H.d rfl; replace e0 := H.g 0 rfl rfl; replace e1 := H.k e1 rfl; replace e2 := H.k e2 rfl; replace e3 := H.k e3 rfl; replace e8 := H.k e8 rfl; replace e9 := H.k e9 rfl; replace e10 := H.k e10 rfl; have e42 := H.g 42 rfl rfl; have e43 := H.g 43 rfl rfl; have e44 := H.g 44 rfl rfl; clear H; refine hKq6 _ _ ?_; clear hKq6 Kq6; refine wp_block ?_
  refine wp_loop (fun a w' => a.tmps.size = 174 ∧ a.defers = [] ∧ a.tmps[1]? = some (.slice none 0 0) ∧ a.tmps[2]? = some (.slice none 0 0) ∧ a.tmps[3]? = some (.int .i64 now) ∧ a.tmps[10]? = some (.pointer (some ⟨gm, 0, none⟩)) ∧ a.tmps[43]? = some (.int .i64 0) ∧ a.tmps[44]? = some (.int .i64 0) ∧ w8 = w') (fun a _ => 0) ?_ ?_
  · exact ⟨hs, hd, e1, e2, e3, e10, e43, e44, rfl⟩
  clear e0 e1 e2 e3 e8 e9 e10 e42 e43 e44 hs hd a
  rintro a w9 ⟨hs, hd, e1, e2, e3, e10, e43, e44, rfl⟩
  refine wp_seq_k fun Kq7 hKq7 => ?_
  refine sm_list [43, 44] 45 1 hs hd (by kernel_rfl) (agC e43 (agC e44 agN)) rfl ?_
  simp only [seval]
  go_wp2_with fail
  intro a H; replace hs := H.s hs; replace hd := H.d rfl; replace e43 := H.g 43 rfl rfl; replace e44 := H.g 44 rfl rfl; replace e1 := H.k e1 rfl; replace e2 := H.k e2 rfl; replace e3 := H.k e3 rfl; replace e10 := H.k e10 rfl; have e45 := H.g 45 rfl rfl; clear H; refine hKq7 _ _ ?_; clear hKq7 Kq7; refine wp_seq_k fun Kq8 hKq8 => ?_
  refine wp_cond_false (slotE e45) ?_
  clear e45; refine wp_exit ?_; refine exit_then rfl ?_; clear hKq8 Kq8; refine exit_then rfl ?_; refine exit_hit ?_; refine hKq5 _ _ ?_; clear hKq5 Kq5; refine wp_seq_k fun Kq9 hKq9 => ?_; refine wp_seq_k fun Kq10 hKq10 => ?_; clear e43; clear e44
  refine sm_list [1] 121 3 hs hd (by kernel_rfl) (agC e1 agN) rfl ?_
  simp only [seval]
  go_wp2_with fail
  intro a H; replace hs := H.s hs; replace hd := H.d rfl; replace e1 := H.g 1 rfl rfl; replace e2 := H.k e2 rfl; replace e3 := H.k e3 rfl; replace e10 := H.k e10 rfl; have e121 := H.g 121 rfl rfl; have e122 := H.g 122 rfl rfl; have e123 := H.g 123 rfl rfl; clear H; refine hKq10 _ _ ?_; clear hKq10 Kq10; refine wp_block ?_
  refine wp_loop (fun a w' => a.tmps.size = 174 ∧ a.defers = [] ∧ a.tmps[1]? = some (.slice none 0 0) ∧ a.tmps[2]? = some (.slice none 0 0) ∧ a.tmps[3]? = some (.int .i64 now) ∧ a.tmps[10]? = some (.pointer (some ⟨gm, 0, none⟩)) ∧ a.tmps[122]? = some (.int .i64 0) ∧ a.tmps[123]? = some (.int .i64 0) ∧ w8 = w') (fun a _ => 0) ?_ ?_
  · exact ⟨hs, hd, e1, e2, e3, e10, e122, e123, rfl⟩
  clear e1 e2 e3 e10 e121 e122 e123 hs hd a
  rintro a w9 ⟨hs, hd, e1, e2, e3, e10, e122, e123, rfl⟩
  refine wp_seq_k fun Kq11 hKq11 => ?_
  refine sm_list [122, 123] 124 1 hs hd (by kernel_rfl) (agC e122 (agC e123 agN)) rfl ?_
  simp only [seval]
  go_wp2_with fail
  intro a H; replace hs := H.s hs; replace hd := H.d rfl; replace e122 := H.g 122 rfl rfl; replace e123 := H.g 123 rfl rfl; replace e1 := H.k e1 rfl; replace e2 := H.k e2 rfl; replace e3 := H.k e3 rfl; replace e10 := H.k e10 rfl; have e124 := H.g 124 rfl rfl; clear H; refine hKq11 _ _ ?_; clear hKq11 Kq11; refine wp_seq_k fun Kq12 hKq12 => ?_
  refine wp_cond_false (slotE e124) ?_
  clear e124; refine wp_exit ?_; refine exit_then rfl ?_; clear hKq12 Kq12; refine exit_then rfl ?_; refine exit_hit ?_; refine hKq9 _ _ ?_; clear hKq9 Kq9; refine wp_seq_k fun Kq13 hKq13 => ?_; refine wp_seq_k fun Kq14 hKq14 => ?_; clear e122; clear e123
  refine sm_list [2] 147 3 hs hd (by kernel_rfl) (agC e2 agN) rfl ?_
  simp only [seval]
  go_wp2_with fail
  intro a H; replace hs := H.s hs; replace hd := H.d rfl; replace e2 := H.g 2 rfl rfl; replace e1 := H.k e1 rfl; replace e3 := H.k e3 rfl; replace e10 := H.k e10 rfl; have e147 := H.g 147 rfl rfl; have e148 := H.g 148 rfl rfl; have e149 := H.g 149 rfl rfl; clear H; refine hKq14 _ _ ?_; clear hKq14 Kq14; refine wp_block ?_
  refine wp_loop (fun a w' => a.tmps.size = 174 ∧ a.defers = [] ∧ a.tmps[1]? = some (.slice none 0 0) ∧ a.tmps[2]? = some (.slice none 0 0) ∧ a.tmps[3]? = some (.int .i64 now) ∧ a.tmps[10]? = some (.pointer (some ⟨gm, 0, none⟩)) ∧ a.tmps[148]? = some (.int .i64 0) ∧ a.tmps[149]? = some (.int .i64 0) ∧ w8 = w') (fun a _ => 0) ?_ ?_
  · exact ⟨hs, hd, e1, e2, e3, e10, e148, e149, rfl⟩
  clear e1 e2 e3 e10 e147 e148 e149 hs hd a
  rintro a w9 ⟨hs, hd, e1, e2, e3, e10, e148, e149, rfl⟩
  refine wp_seq_k fun Kq15 hKq15 => ?_
  refine sm_list [148, 149] 150 1 hs hd (by kernel_rfl) (agC e148 (agC e149 agN)) rfl ?_
  simp only [seval]
  go_wp2_with fail
  intro a H; replace hs := H.s hs; replace hd := H.d rfl; replace e148 := H.g 148 rfl rfl; replace e149 := H.g 149 rfl rfl; replace e1 := H.k e1 rfl; replace e2 := H.k e2 rfl; replace e3 := H.k e3 rfl; replace e10 := H.k e10 rfl; have e150 := H.g 150 rfl rfl; clear H; refine hKq15 _ _ ?_; clear hKq15 Kq15; refine wp_seq_k fun Kq16 hKq16 => ?_
  refine wp_cond_false (slotE e150) ?_
  clear e150; refine wp_exit ?_; refine exit_then rfl ?_; clear hKq16 Kq16; refine exit_then rfl ?_; refine exit_hit ?_; refine hKq13 _ _ ?_; clear hKq13 Kq13; refine wp_seq_k fun Kq17 hKq17 => ?_; clear e148; clear e149
  refine sm_list [8, 9, 10] 173 1 hs hd (by kernel_rfl) (agU (agU (agC e10 agN))) rfl ?_
  simp only [seval]
  go_wp2_with fail
  intro a H; replace hs := H.s hs; replace hd := H.d rfl; replace e10 := H.g 10 rfl rfl; replace e1 := H.k e1 rfl; replace e2 := H.k e2 rfl; replace e3 := H.k e3 rfl; have e8 := H.g 8 rfl rfl; have e9 := H.g 9 rfl rfl; clear H; refine hKq17 _ _ ?_; clear hKq17 Kq17; refine wp_ret ?_
  exact sm_ret2 rfl hd e8 e9 ⟨gm, rfl, hS8⟩
end Go.Proofs.YthhlfojaloaooaaGreat
