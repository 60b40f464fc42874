/-
  bridge: a new one.
-/
import Derived.Test.YthhlfojaloaooaaGreatRows
import Derived.Test.YthhlfojaloaooaaGreatHnUZ
import Derived.WalkKit
import Derived.ProofKit
import Derived.OpenShut
import Derived.LoopTactic
import Derived.WalkLawsBesides
import Derived.WalkSpells
import Derived.Outline
import Derived.Lib.Hide
import Derived.Deep.DrawnRows
import Derived.Laws.CopyOwn
import Derived.MapKept
namespace Go.Proofs.YthhlfojaloaooaaGreat
set_option linter.unusedSimpArgs false
set_option linter.unusedVariables false
open Go.RowKit Go.WideShapes Go.ChangeShapes
attribute [local go_sem ↓] Go.wp_at_zero Go.wp_at_succ

theorem cfc_pr0 {id P : Int} : ∀ j v, (#[.int .i64 0, .int .i64 0, .int .i64 0, .int .i64 id] : Array Value).toList[j]? = some v → (cfc id P)[3 + j]? = some v
  | 0, v, h => h
  | 1, v, h => h
  | 2, v, h => h
  | 3, v, h => h
  | n + 4, v, h => by simp at h
theorem cfc_pr1 {id P : Int} : ∀ j v, (#[.int .i64 0, .int .i64 0, .int .i64 0, .int .i64 id] : Array Value).toList[j]? = some v → (cfc id P)[7 + j]? = some v
  | 0, v, h => h
  | 1, v, h => h
  | 2, v, h => h
  | 3, v, h => h
  | n + 4, v, h => by simp at h
set_option maxRecDepth 100000 in
set_option maxHeartbeats 4000000 in
theorem brNew_any (id P : Int) (w : World) : Calls Tryz.prog 20 #[.agg (cfc id P)] w fun e w' => Below w.heap.size w w' ∧ ((ckB id P ≠ 0 ∧ e = .returned (.tuple #[.pointer none, .int .i64 (ckB id P)])) ∨ (ckB id P = 0 ∧ ∃ g, e = .returned (.tuple #[.pointer (some ⟨g, 0, none⟩), .int .i64 0]) ∧ w.heap.size ≤ g ∧ BrAt w' g P)) := by
  obtain ⟨K, hK⟩ : ∃ K, K = ckB id P := ⟨_, rfl⟩
  rw [← hK]
  refine calls_sm (N := 185) Tryz.func20 rfl (by kernel_rfl) ?_
  intro a hs hd ha
  have e0 : a.tmps[0]? = some (.agg (cfc id P)) := ha 0 _ rfl
  clear ha
  conv => arg 2; whnf
  refine wp_seq_k fun Kq1 hKq1 => ?_
  refine sm_list [0] 1 3 hs hd (by kernel_rfl) (agC e0 agN) rfl ?_
  simp only [seval]
  go_wp2_with fail
  intro a H; replace hs := H.s hs; replace hd := H.d rfl; replace e0 := H.g 0 rfl rfl; have e1 := H.g 1 rfl rfl; have e2 := H.g 2 rfl rfl; have e3 := H.g 3 rfl rfl; clear H; refine hKq1 _ _ ?_; clear hKq1 Kq1; refine wp_seq_k fun Kq2 hKq2 => ?_; refine wp_seq_k fun Kq3 hKq3 => ?_
  have B := Blk.new w 42 (cfc id P)
  have L1 := (Below.refl w.heap.size w).alloc (Nat.le_refl _) (.cells (cfc id P) 42)
  generalize hw1 : w.alloc (.cells (cfc id P) 42) = w1 at B L1 ⊢
  obtain ⟨q, hq⟩ : ∃ q, q = w.heap.size := ⟨_, rfl⟩
  have hqw : w.heap.size ≤ q := by omega
  rw [← hq] at B e1
  clear hw1 hq
  have hcall := brCheck_any id P w1
  rw [← hK] at hcall
  have HC := Lib.hid hcall
  have HK := Lib.hid hK
  clear hcall hK
  refine sm_list [1, 4] 17 2 hs hd (by kernel_rfl) (agC e1 (agU agN)) rfl ?_
  simp only [seval]
  go_wp2_with (first | (refine wpList_load_any_d rfl 42 (.tmp 0) rfl ⟨q, 0, none⟩ rfl (cfc id P) _ (blk_cells B) Tryz.underlying42 rfl (by kernel_rfl) ?_) | fail)
  refine HC.out.mono ?_
  rintro e w2 ⟨rfl, hb2⟩
  go_wp2_with fail
  intro a H; replace hs := H.s hs; replace hd := H.d rfl; replace e1 := H.g 1 rfl rfl; replace e0 := H.k e0 rfl; replace e2 := H.k e2 rfl; replace e3 := H.k e3 rfl; have e4 := H.g 4 rfl rfl; clear H; refine hKq3 _ _ ?_; clear hKq3 Kq3; refine wp_seq_k fun Kq4 hKq4 => ?_
  have L2 := L1.trans (hb2.mono L1.size)
  have B2 := B.kept hb2
  clear B L1 hb2 HC
  by_cases hk : K = 0
  ·
    subst hk
    have hok : 1 ≤ id ∧ id < 281474976710656 ∧ 1 ≤ P ∧ P ≤ 8 := by
      have h := HK.out
      unfold ckB at h
      split at h
      · assumption
      · omega
    obtain ⟨hi1, hi2, hP1, hP8⟩ := hok
    obtain ⟨n, rfl⟩ : ∃ n : Nat, P = (n : Int) := ⟨P.toNat, by omega⟩
    have hn : 1 ≤ n ∧ n ≤ 8 := by omega
    have HN := Lib.hid (And.intro hi1 (And.intro hi2 hn))
    clear HK hi1 hi2 hP1 hP8 hn
    refine sm_list [4] 19 2 hs hd (by kernel_rfl) (agC e4 agN) rfl ?_
    simp only [seval]
    go_wp2_with fail
    intro a H; replace hs := H.s hs; replace hd := H.d rfl; replace e4 := H.g 4 rfl rfl; replace e0 := H.k e0 rfl; replace e1 := H.k e1 rfl; replace e2 := H.k e2 rfl; replace e3 := H.k e3 rfl; have e20 := H.g 20 rfl rfl; clear H; refine hKq4 _ _ ?_; clear hKq4 Kq4
    refine wp_cond_false (slotE e20) ?_
    clear e20; refine wp_skip ?_; refine hKq2 _ _ ?_; clear hKq2 Kq2; refine wp_seq_k fun Kq5 hKq5 => ?_
    have q12 := B2.cellOf (v := .slice none 0 0) 12 rfl
    have lz := B2.lt
    have fz := B2.frozen
    refine sm_list [1] 22 4 hs hd (by kernel_rfl) (agC e1 agN) rfl ?_
    simp only [seval]
    go_wp2_with fail
    intro a H; replace hs := H.s hs; replace hd := H.d rfl; replace e1 := H.g 1 rfl rfl; replace e0 := H.k e0 rfl; replace e2 := H.k e2 rfl; replace e3 := H.k e3 rfl; replace e4 := H.k e4 rfl; clear H; refine hKq5 _ _ ?_; clear hKq5 Kq5; refine wp_seq_k fun Kq6 hKq6 => ?_; have gs4 := gr_set (grownBy_refl w2 (some q)) 12 (.slice none 0 0)
    have B4 : Blk (w2.setCell ⟨q, 12, none⟩ (.slice none 0 0)) q 42 (cfc id n) := B2.set_ 12 (.slice none 0 0)
    have L4 := L2.grown gs4 L2.size (fun k hk => by cases hk; exact hqw)
    generalize w2.setCell ⟨q, 12, none⟩ (.slice none 0 0) = w4 at B4 L4 ⊢
    clear gs4 L2 B2 q12 lz fz
    have mk1 : ∀ W, (Instr.makeSlice 101 (.int .i64 (n : Int)) (.int .i64 (n : Int))).run Tryz.prog W = .ok (.slice (some ⟨W.heap.size, 0, none⟩) n n) (W.alloc (.cells (madeCells (Value.bool false).cells n) 4)) := fun W => by
      obtain ⟨i, h1, h2, h3, h4⟩ := info_parts (P := Tryz.prog) (e := 4) (z := .bool false) (size := 1) (bytes := 1) (by kernel_rfl)
      have h := run_make_rowN (P := Tryz.prog) 101 4 i (.bool false) Tryz.underlying101 h1 h2 .i64 .i64 n n (Nat.le_refl _) (by rw [h4]; have := HN.out.2.2; omega) (by have := HN.out.2.2; omega) W
      rw [h3, Nat.mul_one] at h
      exact h
    have mk2 := @run_makeMap Tryz.prog
    have q1 := B4.cellOf (v := .int .i64 (n : Int)) 1 rfl
    have lz := B4.lt
    clear e0
    suffices HK : ∀ (a' : Act) (w8 : World) (g : Nat), a'.tmps.size = a.tmps.size → a'.defers = [] → a'.tmps[1]? = a.tmps[1]? → a'.tmps[2]? = a.tmps[2]? → a'.tmps[3]? = a.tmps[3]? → a'.tmps[4]? = a.tmps[4]? → a'.tmps[5]? = some (.pointer (some ⟨g, 0, none⟩)) → BrS w w8 q g id n (.slice none 0 0) 0 → Kq6 a' w8 by
      refine sm_any [1, 5] 26 8 (by kernel_rfl) hs hd (by kernel_rfl) (agC e1 (agU agN)) rfl (any_tree [] (.take 0 (.take 2 (.take 3 (.three 1 4 5 (.two 4 5 (.one 5 (.take 6 (.one 7 (.take 8 .nil)))) (.one 4 (.take 6 (.one 7 (.take 8 .nil))))) (.two 1 5 (.one 5 (.take 6 (.one 7 (.take 8 .nil)))) (.one 1 (.take 6 (.one 7 (.take 8 .nil))))) (.two 1 4 (.one 4 (.take 6 (.one 7 (.take 8 .nil)))) (.one 1 (.take 6 (.one 7 (.take 8 .nil))))))))) (fun (w' : World) => Below w4.heap.size w4 w') (by kernel_rfl) (fun _ _ _ _ _ h => h) ((Below.refl _ _).drew) ?_)
      simp only [seval]
      have hd0 : Below w4.heap.size w4 w4.drew := (Below.refl _ _).drew
      obtain ⟨wd, hwde⟩ : ∃ wd, wd = w4.drew := ⟨_, rfl⟩
      rw [← hwde] at hd0 ⊢
      clear hwde
      (refine tr_take (v := .agg #[.int .i64 id, .int .i64 (n : Int), .bool false, .int .i64 0, .int .i64 0, .int .i64 0, .int .i64 id, .int .i64 0, .int .i64 0, .int .i64 0, .int .i64 id, .int .i64 1000000, .slice none 0 0]) rfl ?_ (fun w' hw' => run_load_cells_d 42 (.tmp 0) rfl ⟨q, 0, none⟩ rfl #[.int .i64 id, .int .i64 (n : Int), .bool false, .int .i64 0, .int .i64 0, .int .i64 0, .int .i64 id, .int .i64 0, .int .i64 0, .int .i64 0, .int .i64 id, .int .i64 1000000, .slice none 0 0] (blk_cells (B4.kept hw')) Tryz.underlying42 rfl (by kernel_rfl)) ?_; (first | exact wanted_none rfl | exact wanted_on rfl rfl rfl); simp only [Act.put, List.setIfInBounds_toArray, List.set_cons_zero, List.set_cons_succ])
      (with_reducible (refine tr_take (v := ?_) rfl ?_ ?_ ?_); rotate_left; (first | exact wanted_none rfl | exact wanted_on rfl rfl rfl); (rintro w' _;  go_simp; with_reducible rfl); simp only [Act.put, List.setIfInBounds_toArray, List.set_cons_zero, List.set_cons_succ])
      (with_reducible (refine tr_take (v := ?_) rfl ?_ ?_ ?_); rotate_left; (first | exact wanted_none rfl | exact wanted_on rfl rfl rfl); (rintro w' hw'; obtain ⟨hc, hf⟩ := bcell hw'; go_simp; with_reducible rfl); simp only [Act.put, List.setIfInBounds_toArray, List.set_cons_zero, List.set_cons_succ])
      refine tr_three ?_ ?_ ?_ <;> ((with_reducible (refine tr_run (v := ?_) (w' := ?_) rfl ?_ ?_ ?_ ?_); rotate_left 2; (first | exact wanted_none rfl | exact wanted_on rfl rfl rfl); (go_simp; refine ⟨?_, ?_⟩ <;> with_reducible rfl); (exact (by first | exact hd0 | exact bal hd0 _ | exact bal (bal hd0 _) _ | exact bal (bal (bal hd0 _) _) _ | exact bal (bal (bal (bal hd0 _) _) _) _)); simp only [Act.put, List.setIfInBounds_toArray, List.set_cons_zero, List.set_cons_succ]); refine tr_two ?_ ?_ <;> ((with_reducible (refine tr_run (v := ?_) (w' := ?_) rfl ?_ ?_ ?_ ?_); rotate_left 2; (first | exact wanted_none rfl | exact wanted_on rfl rfl rfl); (go_simp; refine ⟨?_, ?_⟩ <;> with_reducible rfl); (exact (by first | exact hd0 | exact bal hd0 _ | exact bal (bal hd0 _) _ | exact bal (bal (bal hd0 _) _) _ | exact bal (bal (bal (bal hd0 _) _) _) _)); simp only [Act.put, List.setIfInBounds_toArray, List.set_cons_zero, List.set_cons_succ]); (with_reducible (refine tr_run (v := ?_) (w' := ?_) rfl ?_ ?_ ?_ ?_); rotate_left 2; (first | exact wanted_none rfl | exact wanted_on rfl rfl rfl); (go_simp; refine ⟨?_, ?_⟩ <;> with_reducible rfl); (exact (by first | exact hd0 | exact bal hd0 _ | exact bal (bal hd0 _) _ | exact bal (bal (bal hd0 _) _) _ | exact bal (bal (bal (bal hd0 _) _) _) _)); simp only [Act.put, List.setIfInBounds_toArray, List.set_cons_zero, List.set_cons_succ]); (with_reducible (refine tr_take (v := ?_) rfl ?_ ?_ ?_); rotate_left; (first | exact wanted_none rfl | exact wanted_on rfl rfl rfl); (rintro w' _;  go_simp; with_reducible rfl); simp only [Act.put, List.setIfInBounds_toArray, List.set_cons_zero, List.set_cons_succ]); (with_reducible (refine tr_run (v := ?_) (w' := ?_) rfl ?_ ?_ ?_ ?_); rotate_left 2; (first | exact wanted_none rfl | exact wanted_on rfl rfl rfl); (go_simp; refine ⟨?_, ?_⟩ <;> with_reducible rfl); (exact (by first | exact hd0 | exact bal hd0 _ | exact bal (bal hd0 _) _ | exact bal (bal (bal hd0 _) _) _ | exact bal (bal (bal (bal hd0 _) _) _) _)); simp only [Act.put, List.setIfInBounds_toArray, List.set_cons_zero, List.set_cons_succ]); (with_reducible (refine tr_take (v := ?_) rfl ?_ ?_ ?_); rotate_left; (first | exact wanted_none rfl | exact wanted_on rfl rfl rfl); (rintro w' _;  go_simp; with_reducible rfl); simp only [Act.put, List.setIfInBounds_toArray, List.set_cons_zero, List.set_cons_succ]); refine tr_nil ?_))
      all_goals
        intro a' H
        refine HK a' _ ?_ H.size H.defers ((H.got rfl rfl).trans e1.symm) (H.out 2 rfl) (H.out 3 rfl) (H.out 4 rfl) ?_ ?_
        rotate_left 1
        · (refine (H.got (t := 5) rfl rfl).trans (congrArg some ?_); rfl)
        · (exact ⟨L4.trans ((bal (bal (bal (bal hd0 _) _) _) _).mono L4.size), B4.kept (bal (bal (bal (bal hd0 _) _) _) _), ⟨.pointer none, .pointer none, _, .pointer none, .pointer none, .pointer none, _, _, blk_new3⟩, ⟨_, ownsRow_nil _ _ _ _⟩, hqw, Nat.le_trans L4.size (by have := hd0.size; omega)⟩)
    intro a' w8 g g_s g_d g1 g2 g3 g4 f5 S8
    replace hs := g_s.trans hs; replace hd := g_d; replace e1 := g1.trans e1; replace e2 := g2.trans e2; replace e3 := g3.trans e3; replace e4 := g4.trans e4; clear g_s g_d g1 g2 g3 g4
    have e5 := f5
    clear f5
    first | clear a | skip
    obtain ⟨a, rfl⟩ : ∃ a, a = a' := ⟨_, rfl⟩
    refine hKq6 _ _ ?_; clear hKq6 Kq6; refine wp_seq_k fun Kq7 hKq7 => ?_; clear mk1 mk2 q1 lz B4 L4 hqw
    have S := S8
    have q1 := S.bq.cellOf (v := .int .i64 (n : Int)) 1 rfl
    have HS8 := Lib.hid S8
    clear S S8
    refine sm_list [1, 5] 34 9 hs hd (by kernel_rfl) (agC e1 (agC e5 agN)) rfl ?_
    simp only [seval]
    go_wp2_with fail
    refine (fdNew_any n HN.out.2.2 w8).mono ?_
    rintro e w9 ⟨gt, m, rfl, hb9, hg9, hm9, hgm, hfd⟩
    have S9 := HS8.out.kept hb9
    have l8 := (HS8.out.bq).lt
    obtain ⟨tb, sv, vi, t0, t1, pa, up, mk, B8⟩ := HS8.out.bb
    have l8b := B8.lt
    obtain ⟨tb, sv, vi, t0, t1, pa, up, mk, B9⟩ := S9.bb
    have q13 := B9.cellOf (v := tb) 13 rfl
    have fz := B9.frozen
    have lz := B9.lt
    have H9 := Lib.hid (And.intro S9 (And.intro hfd (And.intro hg9 (And.intro hm9 (And.intro l8 l8b)))))
    clear S9 hfd hb9 hg9 hm9 hgm l8 l8b B8 B9
    go_wp2_with fail
    intro a H; replace hs := H.s hs; replace hd := H.d rfl; replace e1 := H.g 1 rfl rfl; replace e5 := H.g 5 rfl rfl; replace e2 := H.k e2 rfl; replace e3 := H.k e3 rfl; replace e4 := H.k e4 rfl; clear H; refine hKq7 _ _ ?_; clear hKq7 Kq7; refine wp_seq_k fun Kq8 hKq8 => ?_; clear q13 fz lz tb sv vi t0 t1 pa up mk
    obtain ⟨S9, hfd, hg9, hm9, l8, l8b⟩ := H9.out
    have T10 := hfd.gr (gr_set (grownBy_refl w9 (some g)) 13 (.pointer (some ⟨gt, 0, none⟩))) (by intro e; injection e with e; omega) (by intro e; injection e with e; omega)
    have S10 := S9.set_ 13 (.pointer (some ⟨gt, 0, none⟩)) (by simp)
    obtain ⟨sv, vi, t0, t1, pa, up, mk, B10⟩ : ∃ sv vi t0 t1 pa up mk, Blk (w9.setCell ⟨g, 13, none⟩ (.pointer (some ⟨gt, 0, none⟩))) g 111 (brc id n (.pointer (some ⟨gt, 0, none⟩)) sv vi (.slice none 0 0) t0 t1 pa up mk) := by
      obtain ⟨tb, sv, vi, t0, t1, pa, up, mk, B⟩ := S9.bb
      exact ⟨sv, vi, t0, t1, pa, up, mk, B.set_ 13 _⟩
    have hmm : w.heap.size ≤ m ∧ q ≠ m ∧ g ≠ m := ⟨Nat.le_trans HS8.out.low.size hm9, by omega, by omega⟩
    generalize w9.setCell ⟨g, 13, none⟩ (.pointer (some ⟨gt, 0, none⟩)) = w10 at T10 S10 B10 ⊢
    have q13 := B10.cellOf (v := .pointer (some ⟨gt, 0, none⟩)) 13 rfl
    have q1 := S10.bq.cellOf (v := .int .i64 (n : Int)) 1 rfl
    have lg := B10.lt
    have lq := S10.bq.lt
    have HX := Lib.hid (And.intro S10 (And.intro T10 hmm))
    clear S9 hfd hg9 hm9 l8 l8b H9 HS8 B10 S10 T10 hmm
    obtain ⟨p, hM, hsh⟩ := mask_of n HN.out.2.2
    have HM := Lib.hid (And.intro hM hsh)
    clear hM hsh
    refine sm_any [1, 5] 43 14 (by kernel_rfl) hs hd (by kernel_rfl) (agC e1 (agC e5 agN)) rfl (any_tail 13 (fun w' => Below w10.heap.size w10 w') (by kernel_rfl) ((Below.refl _ _).drew) ?_)
    simp only [seval]
    repeat (first | (with_reducible (refine wpQuiet_skip ?_ ?_); (first | exact wanted_off rfl rfl rfl rfl | exact wanted_off2 rfl rfl rfl); simp only [Act.put, List.setIfInBounds_toArray, List.set_cons_zero, List.set_cons_succ]) | (with_reducible (refine wpQuiet_val (v := ?_) ?_ ?_ ?_); rotate_left; (first | exact wanted_none rfl | exact wanted_on rfl rfl rfl); (intro w' hw'; obtain ⟨hc, hf⟩ := bcell hw'; go_simp; with_reducible rfl); simp only [Act.put, List.setIfInBounds_toArray, List.set_cons_zero, List.set_cons_succ]))
    refine wpQuiet_nil ?_
    intro w11 hw11
    clear q1 q13 lg lq
    go_wp2_with fail
    rw [HM.out.2]
    refine (fdSet_any (n : Int) p HM.out.1 gt m w11 (HX.out.2.1.gr (gr_below hw11 none) (by simp) (by simp))).mono ?_
    rintro e w12 ⟨rfl, hf12⟩
    have S12 := (HX.out.1.kept hw11).fr hf12 HX.out.2.2.1 HX.out.2.2.2.1 HX.out.2.2.2.2
    clear hf12 hw11 HX HM
    go_wp2_with fail
    intro a H; replace hs := H.s hs; replace hd := H.d rfl; replace e1 := H.g 1 rfl rfl; replace e5 := H.g 5 rfl rfl; replace e2 := H.k e2 rfl; replace e3 := H.k e3 rfl; replace e4 := H.k e4 rfl; clear H; refine hKq8 _ _ ?_; clear hKq8 Kq8; refine wp_seq_k fun Kq9 hKq9 => ?_
    refine sm_list [] 6 1 hs hd (by kernel_rfl) agN rfl ?_
    simp only [seval]
    go_wp2_with fail
    intro a H; replace hs := H.s hs; replace hd := H.d rfl; replace e1 := H.k e1 rfl; replace e2 := H.k e2 rfl; replace e3 := H.k e3 rfl; replace e4 := H.k e4 rfl; replace e5 := H.k e5 rfl; have e6 := H.g 6 rfl rfl; clear H; refine hKq9 _ _ ?_; clear hKq9 Kq9; refine wp_seq_k fun Kq10 hKq10 => ?_
    have mk2 := @run_makeMap Tryz.prog
    refine sm_list [7] 57 1 hs hd (by kernel_rfl) (agU agN) rfl ?_
    simp only [seval]
    go_wp2_with fail
    intro a H; replace hs := H.s hs; replace hd := H.d rfl; replace e1 := H.k e1 rfl; replace e2 := H.k e2 rfl; replace e3 := H.k e3 rfl; replace e4 := H.k e4 rfl; replace e5 := H.k e5 rfl; replace e6 := H.k e6 rfl; have e7 := H.g 7 rfl rfl; clear H; refine hKq10 _ _ ?_; clear hKq10 Kq10; refine wp_seq_k fun Kq11 hKq11 => ?_; refine wp_seq_k fun Kq12 hKq12 => ?_; clear mk2
    have M13 := (show (w12.alloc (.map #[] 0)).heap[w12.heap.size]? = some (.map #[] 0) by show (w12.heap.push _)[w12.heap.size]? = _; simp)
    have S13 := S12.kept ((Below.refl w12.heap.size w12).alloc (Nat.le_refl _) (.map #[] 0))
    generalize w12.alloc (.map #[] 0) = w13 at M13 S13 ⊢
    obtain ⟨m7, hm7⟩ : ∃ m7, m7 = w12.heap.size := ⟨_, rfl⟩
    rw [← hm7] at M13 e7
    clear hm7 S12
    have q12 := S13.bq.cellOf (v := .slice none 0 0) 12 rfl
    refine sm_list [1] 58 4 hs hd (by kernel_rfl) (agC e1 agN) rfl ?_
    simp only [seval]
    go_wp2_with fail
    intro a H; replace hs := H.s hs; replace hd := H.d rfl; replace e1 := H.g 1 rfl rfl; replace e2 := H.k e2 rfl; replace e3 := H.k e3 rfl; replace e4 := H.k e4 rfl; replace e5 := H.k e5 rfl; replace e6 := H.k e6 rfl; replace e7 := H.k e7 rfl; have e59 := H.g 59 rfl rfl; have e60 := H.g 60 rfl rfl; have e61 := H.g 61 rfl rfl; clear H; refine hKq12 _ _ ?_; clear hKq12 Kq12; refine wp_block ?_; clear q12
    clear e59
    refine wp_loop (fun a w' => a.tmps.size = 185 ∧ a.defers = [] ∧ a.tmps[1]? = some (.pointer (some ⟨q, 0, none⟩)) ∧ a.tmps[5]? = some (.pointer (some ⟨g, 0, none⟩)) ∧ a.tmps[6]? = some (.slice none 0 0) ∧ a.tmps[7]? = some (.map (some m7)) ∧ a.tmps[60]? = some (.int .i64 0) ∧ a.tmps[61]? = some (.int .i64 0) ∧ w13 = w') (fun a _ => 0) ?_ ?_
    · exact ⟨hs, hd, e1, e5, e6, e7, e60, e61, rfl⟩
    clear e1 e2 e3 e4 e5 e6 e7 e60 e61 hs hd a
    rintro a w9 ⟨hs, hd, e1, e5, e6, e7, e60, e61, rfl⟩
    refine wp_seq_k fun Kq13 hKq13 => ?_
    refine sm_list [60, 61] 62 1 hs hd (by kernel_rfl) (agC e60 (agC e61 agN)) rfl ?_
    simp only [seval]
    go_wp2_with fail
    intro a H; replace hs := H.s hs; replace hd := H.d rfl; replace e60 := H.g 60 rfl rfl; replace e61 := H.g 61 rfl rfl; replace e1 := H.k e1 rfl; replace e5 := H.k e5 rfl; replace e6 := H.k e6 rfl; replace e7 := H.k e7 rfl; have e62 := H.g 62 rfl rfl; clear H; refine hKq13 _ _ ?_; clear hKq13 Kq13; refine wp_seq_k fun Kq14 hKq14 => ?_
    refine wp_cond_false (slotE e62) ?_
    clear e62; refine wp_exit ?_; refine exit_then rfl ?_; clear hKq14 Kq14; refine exit_then rfl ?_; refine exit_hit ?_; refine hKq11 _ _ ?_; clear hKq11 Kq11; refine wp_seq_k fun Kq15 hKq15 => ?_; refine wp_seq_k fun Kq16 hKq16 => ?_; clear e60; clear e61
    have hrg := run_range_map (P := Tryz.prog) w13 118 3 3 m7 #[] 0 Tryz.underlying118 M13
    refine sm_list [7] 95 2 hs hd (by kernel_rfl) (agC e7 agN) rfl ?_
    simp only [seval]
    go_wp2_with fail
    intro a H; replace hs := H.s hs; replace hd := H.d rfl; replace e7 := H.g 7 rfl rfl; replace e1 := H.k e1 rfl; replace e5 := H.k e5 rfl; replace e6 := H.k e6 rfl; have e96 := H.g 96 rfl rfl; clear H; refine hKq16 _ _ ?_; clear hKq16 Kq16; refine wp_block ?_; clear hrg
    have hnx := fun ty => run_next_empty w13 m7 0 0 0 ty M13 (Nat.le_refl _)
    have S14 := S13.kept ((Below.refl w13.heap.size w13).alloc (Nat.le_refl _) (.mapIter (some m7) 0 #[] 0))
    generalize hw14 : w13.alloc (.mapIter (some m7) 0 #[] 0) = w14 at S14 hnx ⊢
    obtain ⟨mi, hmi⟩ : ∃ mi, mi = w13.heap.size := ⟨_, rfl⟩
    rw [← hmi] at hnx e96
    clear hw14 hmi M13 S13; clear e7
    refine wp_loop (fun a w' => a.tmps.size = 185 ∧ a.defers = [] ∧ a.tmps[1]? = some (.pointer (some ⟨q, 0, none⟩)) ∧ a.tmps[5]? = some (.pointer (some ⟨g, 0, none⟩)) ∧ a.tmps[6]? = some (.slice none 0 0) ∧ a.tmps[96]? = some (.pointer (some ⟨mi, 0, none⟩)) ∧ w14 = w') (fun a _ => 0) ?_ ?_
    · exact ⟨hs, hd, e1, e5, e6, e96, rfl⟩
    clear e1 e5 e6 e96 hs hd a
    rintro a w9 ⟨hs, hd, e1, e5, e6, e96, rfl⟩
    refine wp_seq_k fun Kq17 hKq17 => ?_
    refine sm_list [96] 97 2 hs hd (by kernel_rfl) (agC e96 agN) rfl ?_
    simp only [seval]
    go_wp2_with fail
    intro a H; replace hs := H.s hs; replace hd := H.d rfl; replace e96 := H.g 96 rfl rfl; replace e1 := H.k e1 rfl; replace e5 := H.k e5 rfl; replace e6 := H.k e6 rfl; have e98 := H.g 98 rfl rfl; clear H; refine hKq17 _ _ ?_; clear hKq17 Kq17; refine wp_seq_k fun Kq18 hKq18 => ?_
    refine wp_cond_false (slotE e98) ?_
    clear e98; refine wp_exit ?_; refine exit_then rfl ?_; clear hKq18 Kq18; refine exit_then rfl ?_; refine exit_hit ?_; refine hKq15 _ _ ?_; clear hKq15 Kq15; refine wp_seq_k fun Kq19 hKq19 => ?_; clear hnx; clear e96
    have HS14 := Lib.hid S14
    clear S14
    refine sm_list [5, 6] 110 8 hs hd (by kernel_rfl) (agC e5 (agC e6 agN)) rfl ?_
    simp only [seval]
    go_wp2_with fail
    refine (svNew_nil 0 w14).mono ?_
    rintro e w15 ⟨gs, rfl, hb15⟩
    have S15 := HS14.out.kept hb15
    obtain ⟨tb, sv, vi, t0, t1, pa, up, mk, B_⟩ := S15.bb
    have q14 := B_.cellOf (v := sv) 14 rfl
    have fz := B_.frozen
    have lz := B_.lt
    clear B_
    have HS15 := Lib.hid S15
    clear S15 hb15 HS14
    go_wp2_with fail
    intro a H; replace hs := H.s hs; replace hd := H.d rfl; replace e5 := H.g 5 rfl rfl; replace e6 := H.g 6 rfl rfl; replace e1 := H.k e1 rfl; clear H; refine hKq19 _ _ ?_; clear hKq19 Kq19; refine wp_seq_k fun Kq20 hKq20 => ?_; clear q14 fz lz tb sv vi t0 t1 pa up mk; have S16 := HS15.out.set_ 14 (.pointer (some ⟨gs, 0, none⟩)) (by simp)
    generalize w15.setCell ⟨g, 14, none⟩ (.pointer (some ⟨gs, 0, none⟩)) = w16 at S16 ⊢
    clear HS15
    have q11 := S16.bq.cellOf (v := .int .i64 1000000) 11 rfl
    have q1 := S16.bq.cellOf (v := .int .i64 (n : Int)) 1 rfl
    clear e6
    refine sm_list [1, 12] 118 3 hs hd (by kernel_rfl) (agC e1 (agU agN)) rfl ?_
    simp only [seval]
    go_wp2_with fail
    intro a H; replace hs := H.s hs; replace hd := H.d rfl; replace e1 := H.g 1 rfl rfl; replace e5 := H.k e5 rfl; have e12 := H.g 12 rfl rfl; clear H; refine hKq20 _ _ ?_; clear hKq20 Kq20; refine wp_seq_k fun Kq21 hKq21 => ?_; refine wp_seq_k fun Kq22 hKq22 => ?_
    refine sm_list [1] 121 3 hs hd (by kernel_rfl) (agC e1 agN) rfl ?_
    simp only [seval]
    go_wp2_with fail
    intro a H; replace hs := H.s hs; replace hd := H.d rfl; replace e1 := H.g 1 rfl rfl; replace e5 := H.k e5 rfl; replace e12 := H.k e12 rfl; have e122 := H.g 122 rfl rfl; have e123 := H.g 123 rfl rfl; clear H; refine hKq22 _ _ ?_; clear hKq22 Kq22; refine wp_block ?_; clear q11 q1
    refine wp_loop (fun a w' => ∃ (j : Nat) (A : Option Addr) (c : Nat), j ≤ n ∧ BrS w w' q g id n (.slice A j c) j ∧ a.tmps.size = 185 ∧ a.defers = [] ∧ a.tmps[1]? = some (.pointer (some ⟨q, 0, none⟩)) ∧ a.tmps[5]? = some (.pointer (some ⟨g, 0, none⟩)) ∧ a.tmps[12]? = some (.int .i64 65536000000) ∧ a.tmps[122]? = some (.int .i64 (n : Int)) ∧ a.tmps[123]? = some (.int .i64 (j : Int))) (fun a _ => n - (intOf (a.tmps.getD 123 undef)).toNat) ?_ ?_
    · exact ⟨0, none, 0, by omega, S16, hs, hd, e1, e5, e12, e122, e123⟩
    clear e1 e5 e12 e122 e123 hs hd a S16
    rintro a w4 ⟨j, A, c, hj, S4, hs, hd, e1, e5, e12, e122, e123⟩
    have hm := slot e123
    refine wp_seq_k fun Kq23 hKq23 => ?_
    by_cases hlt3 : j < n
    ·
      have dj : decide ((j : Int) < (n : Int)) = true := decide_eq_true (by omega)
      have j1 : (j : Int) < (n : Int) := by omega
      have HJ := Lib.hid hlt3
      have HM := Lib.hid hm
      clear hm hlt3 hj
      refine sm_list [122, 123] 124 1 hs hd (by kernel_rfl) (agC e122 (agC e123 agN)) rfl ?_
      simp only [seval]
      go_wp2_with fail
      intro a H; replace hs := H.s hs; replace hd := H.d rfl; replace e122 := H.g 122 rfl rfl; replace e123 := H.g 123 rfl rfl; replace e1 := H.k e1 rfl; replace e5 := H.k e5 rfl; replace e12 := H.k e12 rfl; have e124 := H.g 124 rfl rfl; clear H; refine hKq23 _ _ ?_; clear hKq23 Kq23; refine wp_seq_k fun Kq24 hKq24 => ?_
      refine wp_cond_true (slotE e124) ?_
      clear e124; refine wp_skip ?_; refine hKq24 _ _ ?_; clear hKq24 Kq24; refine wp_seq_k fun Kq25 hKq25 => ?_; refine wp_block ?_; refine wp_seq_k fun Kq26 hKq26 => ?_; clear dj j1
      refine sm_list [13, 123] 125 1 hs hd (by kernel_rfl) (agU (agC e123 agN)) rfl ?_
      simp only [seval]
      go_wp2_with fail
      intro a H; replace hs := H.s hs; replace hd := H.d rfl; replace e123 := H.g 123 rfl rfl; replace e1 := H.k e1 rfl; replace e5 := H.k e5 rfl; replace e12 := H.k e12 rfl; replace e122 := H.k e122 rfl; have e13 := H.g 13 rfl rfl; clear H; refine hKq26 _ _ ?_; clear hKq26 Kq26; refine wp_seq_k fun Kq27 hKq27 => ?_
      have q0 := S4.bq.cellOf (v := .int .i64 id) 0 rfl
      have HS4 := Lib.hid S4
      clear S4
      refine sm_list [1, 13, 14, 15] 126 8 hs hd (by kernel_rfl) (agC e1 (agC e13 (agU (agU agN)))) rfl ?_
      simp only [seval]
      go_wp2_with fail
      refine (peNew_ok' id (j : Int) ⟨by have := HN.out.1; omega, HN.out.2.1⟩ ⟨by omega, by have := HN.out.2.2; have := HJ.out; omega⟩ w4).mono ?_
      rintro e w5 ⟨gp, rfl, hb5⟩
      have HS5 := Lib.hid (HS4.out.kept hb5)
      clear hb5 HS4
      go_wp2_with fail
      intro a H; replace hs := H.s hs; replace hd := H.d rfl; replace e1 := H.g 1 rfl rfl; replace e13 := H.g 13 rfl rfl; replace e5 := H.k e5 rfl; replace e12 := H.k e12 rfl; replace e122 := H.k e122 rfl; replace e123 := H.k e123 rfl; have e14 := H.g 14 rfl rfl; clear H; refine hKq27 _ _ ?_; clear hKq27 Kq27; clear q0; have S5 := HS5.out
      obtain ⟨tb, sv, vi, t0, t1, pa, up, mk, B5⟩ := S5.bb
      obtain ⟨xs, own5⟩ := S5.own
      have q16 := B5.cellOf (v := .slice A j c) 16 rfl
      have lz := B5.lt
      have hsz5 := S5.low.size
      have hbd : (j + 1) * 8 ≤ 140737488355328 := by have := HJ.out; have := HN.out.2.2; omega
      clear S5 B5
      refine sm_list [5, 14] 134 10 hs hd (by kernel_rfl) (agC e5 (agC e14 agN)) rfl ?_
      simp only [seval]
      go_wp2_with (at_builtin; refine wpList_push1 rfl (.tmp 6) (.tmp 8) 105 rfl styPE rfl rfl own5 rfl hbd hsz5 ?_; intro v6 w6 own6 gr6; obtain ⟨A6, c6, rfl, _, _⟩ := ownsRow_reads own6; obtain ⟨⟨tb2, sv2, vi2, t02, t12, pa2, up2, mk2, bm6⟩, S6⟩ := HS5.out.push own5 own6 gr6; have q166 := bm6.cellOf (v := .slice A j c) 16 rfl; have fz6 := bm6.frozen; have lz6 := bm6.lt)
      intro a H; replace hs := H.s hs; replace hd := H.d rfl; replace e5 := H.g 5 rfl rfl; replace e14 := H.g 14 rfl rfl; replace e1 := H.k e1 rfl; replace e12 := H.k e12 rfl; replace e122 := H.k e122 rfl; replace e123 := H.k e123 rfl; replace e13 := H.k e13 rfl; clear H; refine hKq25 _ _ ?_; clear hKq25 Kq25
      refine (?_ : ∀ (W : World), BrS w W q g id n (.slice A6 (j + 1) c6) (j + 1) → Code.wp Tryz.prog _ _ _ W) _ S6
      intro w7 S7
      clear S6 bm6 q166 fz6 lz6 own6 gr6 own5 q16 lz HS5 tb sv vi t0 t1 pa up mk tb2 sv2 vi2 t02 t12 pa2 up2 mk2 hsz5 hbd; clear e13; clear e14
      have hlt3 : j < n := HJ.out
      have hn8 : n ≤ 8 := HN.out.2.2.2
      refine sm_list [123] 144 1 hs hd (by kernel_rfl) (agC e123 agN) rfl ?_
      simp only [seval]
      go_wp2_with fail
      intro a H; replace hs := H.s hs; replace hd := H.d rfl; replace e1 := H.k e1 rfl; replace e5 := H.k e5 rfl; replace e12 := H.k e12 rfl; replace e122 := H.k e122 rfl; replace e123 := H.g 123 rfl rfl; clear H
      exact ⟨⟨j + 1, A6, c6, by have := HJ.out; omega, S7, hs, hd, e1, e5, e12, e122, e123⟩, by have := HJ.out; first | (simp only [HM.out, slot e123, intOf]; omega) | (simp [HM.out, slot e123, intOf]; omega)⟩
    · have hkn : j = n := by omega
      have dj : decide ((j : Int) < (n : Int)) = false := decide_eq_false (by omega)
      have dj2 : decide (j < n) = false := decide_eq_false hlt3
      clear hm hj hlt3 hkn
      refine sm_list [122, 123] 124 1 hs hd (by kernel_rfl) (agC e122 (agC e123 agN)) rfl ?_
      simp only [seval]
      go_wp2_with fail
      intro a H; replace hs := H.s hs; replace hd := H.d rfl; replace e122 := H.g 122 rfl rfl; replace e123 := H.g 123 rfl rfl; replace e1 := H.k e1 rfl; replace e5 := H.k e5 rfl; replace e12 := H.k e12 rfl; have e124 := H.g 124 rfl rfl; clear H; refine hKq23 _ _ ?_; clear hKq23 Kq23; refine wp_seq_k fun Kq24 hKq24 => ?_
      refine wp_cond_false (slotE e124) ?_
      clear e124; refine wp_exit ?_; refine exit_then rfl ?_; clear hKq24 Kq24; refine exit_then rfl ?_; refine exit_hit ?_; refine hKq21 _ _ ?_; clear hKq21 Kq21; refine wp_seq_k fun Kq25 hKq25 => ?_; refine wp_seq_k fun Kq26 hKq26 => ?_; clear dj dj2; clear e122; clear e123
      refine sm_list [] 145 1 hs hd (by kernel_rfl) agN rfl ?_
      simp only [seval]
      go_wp2_with fail
      intro a H; replace hs := H.s hs; replace hd := H.d rfl; replace e1 := H.k e1 rfl; replace e5 := H.k e5 rfl; replace e12 := H.k e12 rfl; have e145 := H.g 145 rfl rfl; clear H; refine hKq26 _ _ ?_; clear hKq26 Kq26; refine wp_block ?_
      refine (?_ : ∀ (PE : Value), BrS w w4 q g id n PE j → Code.wp Tryz.prog _ _ _ w4) _ S4
      intro PE S4
      obtain ⟨J, hJ⟩ : ∃ J, J = j := ⟨_, rfl⟩
      rw [← hJ] at S4
      clear hJ
      refine wp_loop (fun a w' => ∃ (d : Nat), d ≤ 2 ∧ BrS w w' q g id n PE J ∧ a.tmps.size = 185 ∧ a.defers = [] ∧ a.tmps[1]? = some (.pointer (some ⟨q, 0, none⟩)) ∧ a.tmps[5]? = some (.pointer (some ⟨g, 0, none⟩)) ∧ a.tmps[12]? = some (.int .i64 65536000000) ∧ a.tmps[145]? = some (.int .i64 (d : Int))) (fun a _ => 2 - (intOf (a.tmps.getD 145 undef)).toNat) ?_ ?_
      · exact ⟨0, by omega, S4, hs, hd, e1, e5, e12, e145⟩
      clear e1 e5 e12 e145 hs hd a S4
      rintro a w5 ⟨d, hd2, S5, hs, hd, e1, e5, e12, e145⟩
      have hm := slot e145
      refine wp_seq_k fun Kq27 hKq27 => ?_
      obtain rfl | rfl | rfl : d = 0 ∨ d = 1 ∨ d = 2 := by omega
      ·
        have HM := Lib.hid hm
        clear hm
        refine sm_list [145] 146 1 hs hd (by kernel_rfl) (agC e145 agN) rfl ?_
        simp only [seval]
        go_wp2_with fail
        intro a H; replace hs := H.s hs; replace hd := H.d rfl; replace e145 := H.g 145 rfl rfl; replace e1 := H.k e1 rfl; replace e5 := H.k e5 rfl; replace e12 := H.k e12 rfl; have e146 := H.g 146 rfl rfl; clear H; refine hKq27 _ _ ?_; clear hKq27 Kq27; refine wp_seq_k fun Kq28 hKq28 => ?_
        refine wp_cond_true (slotE e146) ?_
        clear e146; refine wp_skip ?_; refine hKq28 _ _ ?_; clear hKq28 Kq28; refine wp_seq_k fun Kq29 hKq29 => ?_; refine wp_block ?_; refine wp_seq_k fun Kq30 hKq30 => ?_
        refine sm_list [16, 145] 147 1 hs hd (by kernel_rfl) (agU (agC e145 agN)) rfl ?_
        simp only [seval]
        go_wp2_with fail
        intro a H; replace hs := H.s hs; replace hd := H.d rfl; replace e145 := H.g 145 rfl rfl; replace e1 := H.k e1 rfl; replace e5 := H.k e5 rfl; replace e12 := H.k e12 rfl; have e16 := H.g 16 rfl rfl; clear H; refine hKq30 _ _ ?_; clear hKq30 Kq30
        obtain ⟨tb, sv, vi, t0, t1, pa, up, mk, B5⟩ := S5.bb
        have lg := B5.lt
        have lq := S5.bq.lt
        have q1 := S5.bq.cellOf (v := .int .i64 (n : Int)) 1 rfl
        have q11 := S5.bq.cellOf (v := .int .i64 1000000) 11 rfl
        have HS5 := Lib.hid S5
        clear S5 B5 tb sv vi t0 t1 pa up mk
        refine sm_any [1, 5, 16] 148 23 (by kernel_rfl) hs hd (by kernel_rfl) (agC e1 (agC e5 (agC e16 agN))) rfl (any_tree [23] (.take 0 (.take 1 (.take 2 (.take 3 (.take 4 (.take 5 (.take 6 (.take 7 (.take 8 (.take 9 (.take 10 (.take 11 (.take 12 (.take 13 (.take 14 (.take 15 (.free 20 (.free 21 (.one 16 (.take 17 (.take 18 (.free 19 (.take 22 (.wr 23 .nil)))))))))))))))))))))))) (fun w' => Below w5.heap.size w5 w') (by kernel_rfl) (fun _ _ _ _ _ h => h) ((Below.refl _ _).drew) ?_)
        simp only [seval]
        have hd0 : Below w5.heap.size w5 w5.drew := (Below.refl _ _).drew
        obtain ⟨wd, hwde⟩ : ∃ wd, wd = w5.drew := ⟨_, rfl⟩
        rw [← hwde] at hd0 ⊢
        clear hwde
        iterate 6 (with_reducible (refine tr_take (v := ?_) rfl ?_ ?_ ?_); rotate_left; (first | exact wanted_none rfl | exact wanted_on rfl rfl rfl); (rintro w' hw'; obtain ⟨hc, hf⟩ := bcell hw'; go_simp; with_reducible rfl); simp only [Act.put, List.setIfInBounds_toArray, List.set_cons_zero, List.set_cons_succ])
        (refine tr_take (v := .agg #[.int .i64 0, .int .i64 0, .int .i64 0, .int .i64 id]) rfl ?_ (fun w' hw' => run_load_cells_d 38 (.tmp 9) rfl ⟨q, 3, none⟩ rfl #[.int .i64 0, .int .i64 0, .int .i64 0, .int .i64 id] (blk_sub (HS5.out.bq.kept hw') cfc_pr0) Tryz.underlying38 rfl (by kernel_rfl)) ?_; (first | exact wanted_none rfl | exact wanted_on rfl rfl rfl); simp only [Act.put, List.setIfInBounds_toArray, List.set_cons_zero, List.set_cons_succ])
        iterate 9 (with_reducible (refine tr_take (v := ?_) rfl ?_ ?_ ?_); rotate_left; (first | exact wanted_none rfl | exact wanted_on rfl rfl rfl); (rintro w' hw'; obtain ⟨hc, hf⟩ := bcell hw'; go_simp; with_reducible rfl); simp only [Act.put, List.setIfInBounds_toArray, List.set_cons_zero, List.set_cons_succ])
        (with_reducible (refine tr_free (v := ?_) rfl ?_ ?_ ?_); rotate_left; (first | exact wanted_none rfl | exact wanted_on rfl rfl rfl); (intro w'; go_simp; with_reducible rfl); simp only [Act.put, List.setIfInBounds_toArray, List.set_cons_zero, List.set_cons_succ])
        (with_reducible (refine tr_free (v := ?_) rfl ?_ ?_ ?_); rotate_left; (first | exact wanted_none rfl | exact wanted_on rfl rfl rfl); (intro w'; go_simp; with_reducible rfl); simp only [Act.put, List.setIfInBounds_toArray, List.set_cons_zero, List.set_cons_succ])
        (with_reducible (refine tr_call 37 ?_ rfl ?_ ?_ ?_); rotate_left; (first | exact wanted_none rfl | exact wanted_on rfl rfl rfl); (go_simp; with_reducible rfl))
        refine (trNew_any 0 0 0 0 id 3500000 n HN.out.2.2.2 (by omega) (by omega) wd).mono ?_
        rintro e w7 ⟨vt, kt, rfl, hb7⟩
        have L7 : Below w5.heap.size w5 w7 := hd0.trans (hb7.mono hd0.size)
        refine ⟨_, rfl, L7, ?_⟩
        simp only [Act.put, List.setIfInBounds_toArray, List.set_cons_zero, List.set_cons_succ]
        have S7 := HS5.out.kept L7
        obtain ⟨tb, sv, vi, t0, t1, pa, up, mk, B7⟩ := S7.bb
        have qt := B7.cellOf (v := t0) 17 rfl
        have fz := B7.frozen
        have lz := B7.lt
        have HS7 := Lib.hid S7
        clear S7 B7 hb7 L7 HS5 lg lq q1 q11 hd0
        (with_reducible (refine tr_take (v := ?_) rfl ?_ ?_ ?_); rotate_left; (first | exact wanted_none rfl | exact wanted_on rfl rfl rfl); (rintro w' _;  go_simp; with_reducible rfl); simp only [Act.put, List.setIfInBounds_toArray, List.set_cons_zero, List.set_cons_succ])
        (with_reducible (refine tr_take (v := ?_) rfl ?_ ?_ ?_); rotate_left; (first | exact wanted_none rfl | exact wanted_on rfl rfl rfl); (rintro w' _;  go_simp; with_reducible rfl); simp only [Act.put, List.setIfInBounds_toArray, List.set_cons_zero, List.set_cons_succ])
        (with_reducible (refine tr_free (v := ?_) rfl ?_ ?_ ?_); rotate_left; (first | exact wanted_none rfl | exact wanted_on rfl rfl rfl); (intro w'; go_simp; with_reducible rfl); simp only [Act.put, List.setIfInBounds_toArray, List.set_cons_zero, List.set_cons_succ])
        (with_reducible (refine tr_take (v := ?_) rfl ?_ ?_ ?_); rotate_left; (first | exact wanted_none rfl | exact wanted_on rfl rfl rfl); (rintro w' _;  go_simp; with_reducible rfl); simp only [Act.put, List.setIfInBounds_toArray, List.set_cons_zero, List.set_cons_succ])
        (with_reducible (refine tr_wr (w' := ?_) rfl ?_ ?_ ?_); rotate_left; (first | exact wanted_none rfl | exact wanted_on rfl rfl rfl); (go_simp; with_reducible rfl); simp only [Act.put, List.setIfInBounds_toArray, List.set_cons_zero, List.set_cons_succ])
        refine tr_nil ?_
        intro a H; replace hs := H.s hs; replace hd := H.d rfl; replace e1 := H.g 1 rfl rfl; replace e5 := H.g 5 rfl rfl; replace e16 := H.g 16 rfl rfl; replace e12 := H.k e12 rfl; replace e145 := H.k e145 rfl; clear H; refine hKq29 _ _ ?_; clear hKq29 Kq29; have S8 := HS7.out.set_ 17 (.pointer vt) (by simp)
        refine (?_ : ∀ (W : World), BrS w W q g id n PE J → Code.wp Tryz.prog _ _ _ W) _ S8
        intro w9 S9
        clear S8 HS7 qt fz lz tb sv vi t0 t1 pa up mk; clear e16
        refine sm_list [145] 171 1 hs hd (by kernel_rfl) (agC e145 agN) rfl ?_
        simp only [seval]
        go_wp2_with fail
        intro a H; replace hs := H.s hs; replace hd := H.d rfl; replace e1 := H.k e1 rfl; replace e5 := H.k e5 rfl; replace e12 := H.k e12 rfl; replace e145 := H.g 145 rfl rfl; clear H
        exact ⟨⟨1, by omega, S9, hs, hd, e1, e5, e12, e145⟩, by rw [HM.out, slot e145]; decide⟩
      ·
        have HM := Lib.hid hm
        clear hm
        refine sm_list [145] 146 1 hs hd (by kernel_rfl) (agC e145 agN) rfl ?_
        simp only [seval]
        go_wp2_with fail
        intro a H; replace hs := H.s hs; replace hd := H.d rfl; replace e145 := H.g 145 rfl rfl; replace e1 := H.k e1 rfl; replace e5 := H.k e5 rfl; replace e12 := H.k e12 rfl; have e146 := H.g 146 rfl rfl; clear H; refine hKq27 _ _ ?_; clear hKq27 Kq27; refine wp_seq_k fun Kq28 hKq28 => ?_
        refine wp_cond_true (slotE e146) ?_
        clear e146; refine wp_skip ?_; refine hKq28 _ _ ?_; clear hKq28 Kq28; refine wp_seq_k fun Kq29 hKq29 => ?_; refine wp_block ?_; refine wp_seq_k fun Kq30 hKq30 => ?_
        refine sm_list [16, 145] 147 1 hs hd (by kernel_rfl) (agU (agC e145 agN)) rfl ?_
        simp only [seval]
        go_wp2_with fail
        intro a H; replace hs := H.s hs; replace hd := H.d rfl; replace e145 := H.g 145 rfl rfl; replace e1 := H.k e1 rfl; replace e5 := H.k e5 rfl; replace e12 := H.k e12 rfl; have e16 := H.g 16 rfl rfl; clear H; refine hKq30 _ _ ?_; clear hKq30 Kq30
        obtain ⟨tb, sv, vi, t0, t1, pa, up, mk, B5⟩ := S5.bb
        have lg := B5.lt
        have lq := S5.bq.lt
        have q1 := S5.bq.cellOf (v := .int .i64 (n : Int)) 1 rfl
        have q11 := S5.bq.cellOf (v := .int .i64 1000000) 11 rfl
        have HS5 := Lib.hid S5
        clear S5 B5 tb sv vi t0 t1 pa up mk
        refine sm_any [1, 5, 16] 148 23 (by kernel_rfl) hs hd (by kernel_rfl) (agC e1 (agC e5 (agC e16 agN))) rfl (any_tree [23] (.take 0 (.take 1 (.take 2 (.take 3 (.take 4 (.take 5 (.take 6 (.take 7 (.take 8 (.take 9 (.take 10 (.take 11 (.take 12 (.take 13 (.take 14 (.take 15 (.free 20 (.free 21 (.one 16 (.take 17 (.take 18 (.free 19 (.take 22 (.wr 23 .nil)))))))))))))))))))))))) (fun w' => Below w5.heap.size w5 w') (by kernel_rfl) (fun _ _ _ _ _ h => h) ((Below.refl _ _).drew) ?_)
        simp only [seval]
        have hd0 : Below w5.heap.size w5 w5.drew := (Below.refl _ _).drew
        obtain ⟨wd, hwde⟩ : ∃ wd, wd = w5.drew := ⟨_, rfl⟩
        rw [← hwde] at hd0 ⊢
        clear hwde
        iterate 6 (with_reducible (refine tr_take (v := ?_) rfl ?_ ?_ ?_); rotate_left; (first | exact wanted_none rfl | exact wanted_on rfl rfl rfl); (rintro w' hw'; obtain ⟨hc, hf⟩ := bcell hw'; go_simp; with_reducible rfl); simp only [Act.put, List.setIfInBounds_toArray, List.set_cons_zero, List.set_cons_succ])
        (refine tr_take (v := .agg #[.int .i64 0, .int .i64 0, .int .i64 0, .int .i64 id]) rfl ?_ (fun w' hw' => run_load_cells_d 38 (.tmp 9) rfl ⟨q, 7, none⟩ rfl #[.int .i64 0, .int .i64 0, .int .i64 0, .int .i64 id] (blk_sub (HS5.out.bq.kept hw') cfc_pr1) Tryz.underlying38 rfl (by kernel_rfl)) ?_; (first | exact wanted_none rfl | exact wanted_on rfl rfl rfl); simp only [Act.put, List.setIfInBounds_toArray, List.set_cons_zero, List.set_cons_succ])
        iterate 9 (with_reducible (refine tr_take (v := ?_) rfl ?_ ?_ ?_); rotate_left; (first | exact wanted_none rfl | exact wanted_on rfl rfl rfl); (rintro w' hw'; obtain ⟨hc, hf⟩ := bcell hw'; go_simp; with_reducible rfl); simp only [Act.put, List.setIfInBounds_toArray, List.set_cons_zero, List.set_cons_succ])
        (with_reducible (refine tr_free (v := ?_) rfl ?_ ?_ ?_); rotate_left; (first | exact wanted_none rfl | exact wanted_on rfl rfl rfl); (intro w'; go_simp; with_reducible rfl); simp only [Act.put, List.setIfInBounds_toArray, List.set_cons_zero, List.set_cons_succ])
        (with_reducible (refine tr_free (v := ?_) rfl ?_ ?_ ?_); rotate_left; (first | exact wanted_none rfl | exact wanted_on rfl rfl rfl); (intro w'; go_simp; with_reducible rfl); simp only [Act.put, List.setIfInBounds_toArray, List.set_cons_zero, List.set_cons_succ])
        (with_reducible (refine tr_call 37 ?_ rfl ?_ ?_ ?_); rotate_left; (first | exact wanted_none rfl | exact wanted_on rfl rfl rfl); (go_simp; with_reducible rfl))
        refine (trNew_any 1 0 0 0 id 3500000 n HN.out.2.2.2 (by omega) (by omega) wd).mono ?_
        rintro e w7 ⟨vt, kt, rfl, hb7⟩
        have L7 : Below w5.heap.size w5 w7 := hd0.trans (hb7.mono hd0.size)
        refine ⟨_, rfl, L7, ?_⟩
        simp only [Act.put, List.setIfInBounds_toArray, List.set_cons_zero, List.set_cons_succ]
        have S7 := HS5.out.kept L7
        obtain ⟨tb, sv, vi, t0, t1, pa, up, mk, B7⟩ := S7.bb
        have qt := B7.cellOf (v := t1) 18 rfl
        have fz := B7.frozen
        have lz := B7.lt
        have HS7 := Lib.hid S7
        clear S7 B7 hb7 L7 HS5 lg lq q1 q11 hd0
        (with_reducible (refine tr_take (v := ?_) rfl ?_ ?_ ?_); rotate_left; (first | exact wanted_none rfl | exact wanted_on rfl rfl rfl); (rintro w' _;  go_simp; with_reducible rfl); simp only [Act.put, List.setIfInBounds_toArray, List.set_cons_zero, List.set_cons_succ])
        (with_reducible (refine tr_take (v := ?_) rfl ?_ ?_ ?_); rotate_left; (first | exact wanted_none rfl | exact wanted_on rfl rfl rfl); (rintro w' _;  go_simp; with_reducible rfl); simp only [Act.put, List.setIfInBounds_toArray, List.set_cons_zero, List.set_cons_succ])
        (with_reducible (refine tr_free (v := ?_) rfl ?_ ?_ ?_); rotate_left; (first | exact wanted_none rfl | exact wanted_on rfl rfl rfl); (intro w'; go_simp; with_reducible rfl); simp only [Act.put, List.setIfInBounds_toArray, List.set_cons_zero, List.set_cons_succ])
        (with_reducible (refine tr_take (v := ?_) rfl ?_ ?_ ?_); rotate_left; (first | exact wanted_none rfl | exact wanted_on rfl rfl rfl); (rintro w' _;  go_simp; with_reducible rfl); simp only [Act.put, List.setIfInBounds_toArray, List.set_cons_zero, List.set_cons_succ])
        (with_reducible (refine tr_wr (w' := ?_) rfl ?_ ?_ ?_); rotate_left; (first | exact wanted_none rfl | exact wanted_on rfl rfl rfl); (go_simp; with_reducible rfl); simp only [Act.put, List.setIfInBounds_toArray, List.set_cons_zero, List.set_cons_succ])
        refine tr_nil ?_
        intro a H; replace hs := H.s hs; replace hd := H.d rfl; replace e1 := H.g 1 rfl rfl; replace e5 := H.g 5 rfl rfl; replace e16 := H.g 16 rfl rfl; replace e12 := H.k e12 rfl; replace e145 := H.k e145 rfl; clear H; refine hKq29 _ _ ?_; clear hKq29 Kq29; have S8 := HS7.out.set_ 18 (.pointer vt) (by simp)
        refine (?_ : ∀ (W : World), BrS w W q g id n PE J → Code.wp Tryz.prog _ _ _ W) _ S8
        intro w9 S9
        clear S8 HS7 qt fz lz tb sv vi t0 t1 pa up mk; clear e16
        refine sm_list [145] 171 1 hs hd (by kernel_rfl) (agC e145 agN) rfl ?_
        simp only [seval]
        go_wp2_with fail
        intro a H; replace hs := H.s hs; replace hd := H.d rfl; replace e1 := H.k e1 rfl; replace e5 := H.k e5 rfl; replace e12 := H.k e12 rfl; replace e145 := H.g 145 rfl rfl; clear H
        exact ⟨⟨2, by omega, S9, hs, hd, e1, e5, e12, e145⟩, by rw [HM.out, slot e145]; decide⟩
      ·
        clear hm
        refine sm_list [145] 146 1 hs hd (by kernel_rfl) (agC e145 agN) rfl ?_
        simp only [seval]
        go_wp2_with fail
        intro a H; replace hs := H.s hs; replace hd := H.d rfl; replace e145 := H.g 145 rfl rfl; replace e1 := H.k e1 rfl; replace e5 := H.k e5 rfl; replace e12 := H.k e12 rfl; have e146 := H.g 146 rfl rfl; clear H; refine hKq27 _ _ ?_; clear hKq27 Kq27; refine wp_seq_k fun Kq28 hKq28 => ?_
        refine wp_cond_false (slotE e146) ?_
        clear e146; refine wp_exit ?_; refine exit_then rfl ?_; clear hKq28 Kq28; refine exit_then rfl ?_; refine exit_hit ?_; refine hKq25 _ _ ?_; clear hKq25 Kq25; refine wp_seq_k fun Kq29 hKq29 => ?_; clear e145
        have HS5 := Lib.hid S5
        clear S5
        refine sm_list [5, 12] 172 12 hs hd (by kernel_rfl) (agC e5 (agC e12 agN)) rfl ?_
        simp only [seval]
        go_wp2_with fail
        refine (paNew_any 229376000000 w5).mono ?_
        rintro e w6 ⟨vp, kp, rfl, hb6⟩
        have S6 := HS5.out.kept hb6
        obtain ⟨tb, sv, vi, t0, t1, pa, up, mk, B_⟩ := S6.bb
        have q19 := B_.cellOf (v := pa) 19 rfl
        have fz := B_.frozen
        have lz := B_.lt
        clear B_
        have HS6 := Lib.hid S6
        clear S6 hb6 HS5
        go_wp2_with fail
        intro a H; replace hs := H.s hs; replace hd := H.d rfl; replace e5 := H.g 5 rfl rfl; replace e12 := H.g 12 rfl rfl; replace e1 := H.k e1 rfl; clear H; refine hKq29 _ _ ?_; clear hKq29 Kq29; refine wp_seq_k fun Kq30 hKq30 => ?_; have S7 := HS6.out.set_ 19 (.pointer vp) (by simp)
        refine (?_ : ∀ (W : World), BrS w W q g id n PE J → Code.wp Tryz.prog _ _ _ W) _ S7
        intro w7 S7b
        clear S7 HS6 q19 fz lz tb sv vi t0 t1 pa up mk
        refine sm_list [2, 3, 5] 184 1 hs hd (by kernel_rfl) (agU (agU (agC e5 agN))) rfl ?_
        simp only [seval]
        go_wp2_with fail
        intro a H; replace hs := H.s hs; replace hd := H.d rfl; replace e5 := H.g 5 rfl rfl; replace e1 := H.k e1 rfl; replace e12 := H.k e12 rfl; have e2 := H.g 2 rfl rfl; have e3 := H.g 3 rfl rfl; clear H; refine hKq30 _ _ ?_; clear hKq30 Kq30; refine wp_ret ?_
        obtain ⟨tb, sv, vi, t0, t1, pa, up, mk, B7⟩ := S7b.bb
        exact sm_ret2 rfl hd e2 e3 ⟨S7b.low, .inr ⟨by simp, g, rfl, S7b.ge.2, _, B7, rfl, rfl⟩⟩
  ·
    have hkb : (K != 0) = true := bne_iff_ne.2 hk
    have HKN := Lib.hid hk
    clear hk
    refine sm_list [4] 19 2 hs hd (by kernel_rfl) (agC e4 agN) rfl ?_
    simp only [seval]
    go_wp2_with fail
    intro a H; replace hs := H.s hs; replace hd := H.d rfl; replace e4 := H.g 4 rfl rfl; replace e0 := H.k e0 rfl; replace e1 := H.k e1 rfl; replace e2 := H.k e2 rfl; replace e3 := H.k e3 rfl; have e20 := H.g 20 rfl rfl; clear H; refine hKq4 _ _ ?_; clear hKq4 Kq4
    refine wp_cond_true (slotE e20) ?_
    clear e20; refine wp_seq_k fun Kq5 hKq5 => ?_
    refine sm_list [2, 3, 4] 21 1 hs hd (by kernel_rfl) (agC e2 (agC e3 (agC e4 agN))) rfl ?_
    simp only [seval]
    go_wp2_with fail
    intro a H; replace hs := H.s hs; replace hd := H.d rfl; replace e4 := H.g 4 rfl rfl; replace e0 := H.k e0 rfl; replace e1 := H.k e1 rfl; replace e2 := H.g 2 rfl rfl; replace e3 := H.g 3 rfl rfl; clear H; refine hKq5 _ _ ?_; clear hKq5 Kq5; refine wp_ret ?_; refine exit_then rfl ?_
    exact sm_ret2 rfl hd e2 e3 ⟨L2, .inl ⟨HKN.out, rfl⟩⟩
end Go.Proofs.YthhlfojaloaooaaGreat
