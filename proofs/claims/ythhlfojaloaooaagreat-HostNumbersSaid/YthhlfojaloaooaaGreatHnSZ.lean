/-
  tree: a new one, in short.
-/
import Derived.Test.YthhlfojaloaooaaGreatRows
import Derived.Test.YthhlfojaloaooaaGreatHnRZ
import Derived.Test.YthhlfojaloaooaaGreatMsgM
import Derived.WalkKit
import Derived.ProofKit
import Derived.OpenShut
import Derived.LoopTactic
import Derived.WalkLawsBesides
import Derived.WalkSpells
import Derived.Outline
import Derived.Lib.Hide
import Derived.Deep.DrawnRows
import Derived.Laws.CopyOwn
import Derived.MapKept
namespace Go.Proofs.YthhlfojaloaooaaGreat
set_option linter.unusedSimpArgs false
set_option linter.unusedVariables false
open Go.RowKit Go.WideShapes Go.ChangeShapes
attribute [local go_sem ↓] Go.wp_at_zero Go.wp_at_succ

def zh : Array Value := #[.bool false, .bool false, .int .i64 0, .int .i64 0, .int .i64 0, .int .i64 0, .int .i64 0, .int .i64 0, .int .i64 0, .int .i64 0]
theorem bal {w w' : World} (h : Below w.heap.size w w') (o : Obj) : Below w.heap.size w (w'.alloc o) := h.alloc h.size o
set_option maxRecDepth 100000 in
set_option maxHeartbeats 4000000 in
theorem trNew_any (dom one cls two id most : Int) (n : Nat) (hn : n ≤ 8) (hd0 : 0 ≤ dom ∧ dom ≤ 127) (hm : 1 ≤ most ∧ most ≤ 1099511627776) (w : World) : Calls Tryz.prog 37 #[.int .i64 dom, .agg #[.int .i64 one, .int .i64 cls, .int .i64 two, .int .i64 id], .int .i64 (n : Int), .int .i64 most] w fun e w' => ∃ v k, e = .returned (.tuple #[.pointer v, .int .i64 k]) ∧ Below w.heap.size w w' := by
  refine calls_sm (N := 52) Tryz.func37 rfl (by kernel_rfl) ?_
  intro a hs hd ha
  have e0 : a.tmps[0]? = some (.int .i64 dom) := ha 0 _ rfl
  have e1 : a.tmps[1]? = some (.agg #[.int .i64 one, .int .i64 cls, .int .i64 two, .int .i64 id]) := ha 1 _ rfl
  have e2 : a.tmps[2]? = some (.int .i64 (n : Int)) := ha 2 _ rfl
  have e3 : a.tmps[3]? = some (.int .i64 most) := ha 3 _ rfl
  clear ha
  conv => arg 2; whnf
  refine wp_seq_k fun Kq1 hKq1 => ?_
  refine sm_list [1, 5] 8 2 hs hd (by kernel_rfl) (agC e1 (agU agN)) rfl ?_
  simp only [seval]
  go_wp2_with fail
  intro a H; replace hs := H.s hs; replace hd := H.d rfl; replace e1 := H.g 1 rfl rfl; replace e0 := H.k e0 rfl; replace e2 := H.k e2 rfl; replace e3 := H.k e3 rfl; have e5 := H.g 5 rfl rfl; have e8 := H.g 8 rfl rfl; have e9 := H.g 9 rfl rfl; clear H; refine hKq1 _ _ ?_; clear hKq1 Kq1; refine wp_seq_k fun Kq2 hKq2 => ?_; refine wp_seq_k fun Kq3 hKq3 => ?_
  have B := Blk.new w 38 #[.int .i64 one, .int .i64 cls, .int .i64 two, .int .i64 id]
  have L1 := (Below.refl w.heap.size w).alloc (Nat.le_refl _) (.cells #[.int .i64 one, .int .i64 cls, .int .i64 two, .int .i64 id] 38)
  generalize hw1 : w.alloc (.cells #[.int .i64 one, .int .i64 cls, .int .i64 two, .int .i64 id] 38) = w1 at B L1 ⊢
  obtain ⟨q, hq⟩ : ∃ q, q = w.heap.size := ⟨_, rfl⟩
  rw [← hq] at B e5
  clear hw1 hq
  have d1 : decide (dom < 0) = false := decide_eq_false (by omega)
  have d2 : decide ((127 : Int) < dom) = false := decide_eq_false (by omega)
  have d3 : decide ((n : Int) < 0) = false := decide_eq_false (by omega)
  have d4 : decide ((8 : Int) < (n : Int)) = false := decide_eq_false (by omega)
  have d4b : decide (8 < n) = false := decide_eq_false (by omega)
  have d5 : decide (most < 1) = false := decide_eq_false (by omega)
  have d6 : decide ((1099511627776 : Int) < most) = false := decide_eq_false (by omega)
  refine sm_list [0, 2, 3] 11 22 hs hd (by kernel_rfl) (agC e0 (agC e2 (agC e3 agN))) rfl ?_
  simp only [seval]
  go_wp2_with fail
  intro a H; replace hs := H.s hs; replace hd := H.d rfl; replace e0 := H.g 0 rfl rfl; replace e2 := H.g 2 rfl rfl; replace e3 := H.g 3 rfl rfl; replace e1 := H.k e1 rfl; replace e5 := H.k e5 rfl; replace e8 := H.k e8 rfl; replace e9 := H.k e9 rfl; have e32 := H.g 32 rfl rfl; clear H; refine hKq3 _ _ ?_; clear hKq3 Kq3
  refine wp_cond_false (slotE e32) ?_
  clear e32; refine wp_skip ?_; refine hKq2 _ _ ?_; clear hKq2 Kq2; refine wp_seq_k fun Kq4 hKq4 => ?_; refine wp_seq_k fun Kq5 hKq5 => ?_; clear d1 d2 d3 d4 d4b d5 d6
  obtain ⟨K, hK⟩ : ∃ K, K = checkV (⟨11, 0, 0, 0, 0, 0, 0, 0, 0, 0, one, cls, two, id, 0, []⟩ : Mg) := ⟨_, rfl⟩
  have hCK : ∀ W, Calls Tryz.prog 32 #[.agg #[.int .i64 11, .int .i64 0, .int .i64 0, .int .i64 0, .int .i64 0, .int .i64 0, .int .i64 0, .int .i64 0, .int .i64 0, .int .i64 0, .int .i64 one, .int .i64 cls, .int .i64 two, .int .i64 id, .int .i64 0, .slice none 0 0]] W fun e w' => e = .returned (.int .i64 K) ∧ Below W.heap.size W w' := fun W => by
    rw [hK]
    exact check_m (⟨11, 0, 0, 0, 0, 0, 0, 0, 0, 0, one, cls, two, id, 0, []⟩ : Mg) none 0 0 W ⟨rfl, fun h => absurd h (Nat.lt_irrefl 0)⟩ rfl (Nat.zero_le _)
  have HCK := Lib.hid hCK
  clear hCK hK
  refine sm_list [5, 10] 33 3 hs hd (by kernel_rfl) (agC e5 (agU agN)) rfl ?_
  simp only [seval]
  go_wp2_with (first | (refine wpList_load_any_d rfl 38 (.tmp 0) rfl ⟨q, 0, none⟩ rfl #[.int .i64 one, .int .i64 cls, .int .i64 two, .int .i64 id] _ (blk_cells B) Tryz.underlying38 rfl (by kernel_rfl) ?_) | fail)
  refine (HCK.out w1).mono ?_
  rintro e w2 ⟨rfl, hb2⟩
  go_wp2_with fail
  intro a H; replace hs := H.s hs; replace hd := H.d rfl; replace e5 := H.g 5 rfl rfl; replace e0 := H.k e0 rfl; replace e1 := H.k e1 rfl; replace e2 := H.k e2 rfl; replace e3 := H.k e3 rfl; replace e8 := H.k e8 rfl; replace e9 := H.k e9 rfl; have e10 := H.g 10 rfl rfl; clear H; refine hKq5 _ _ ?_; clear hKq5 Kq5; refine wp_seq_k fun Kq6 hKq6 => ?_
  have L2 := L1.trans (hb2.mono L1.size)
  have B2 := B.kept hb2
  have HL2 := Lib.hid (And.intro L2 B2)
  clear B L1 hb2 L2 B2 HCK
  by_cases hk : K = 0
  · subst hk
    refine sm_list [10] 36 2 hs hd (by kernel_rfl) (agC e10 agN) rfl ?_
    simp only [seval]
    go_wp2_with fail
    intro a H; replace hs := H.s hs; replace hd := H.d rfl; replace e10 := H.g 10 rfl rfl; replace e0 := H.k e0 rfl; replace e1 := H.k e1 rfl; replace e2 := H.k e2 rfl; replace e3 := H.k e3 rfl; replace e5 := H.k e5 rfl; replace e8 := H.k e8 rfl; replace e9 := H.k e9 rfl; have e37 := H.g 37 rfl rfl; clear H; refine hKq6 _ _ ?_; clear hKq6 Kq6
    refine wp_cond_false (slotE e37) ?_
    clear e37; refine wp_skip ?_; refine hKq4 _ _ ?_; clear hKq4 Kq4; refine wp_seq_k fun Kq7 hKq7 => ?_
    obtain ⟨N, hN⟩ : ∃ N, N = n := ⟨_, rfl⟩
    have hn8 : N ≤ 8 := by omega
    rw [← hN] at e2
    clear hN hn hd0 hm
    have mk1 : ∀ W, (Instr.makeSlice 101 (.int .i64 (N : Int)) (.int .i64 (N : Int))).run Tryz.prog W = .ok (.slice (some ⟨W.heap.size, 0, none⟩) N N) (W.alloc (.cells (rowF N fun _ => .bool false) 4)) := fun W => make_row (bytes := 1) Tryz.underlying101 (by kernel_rfl) rfl (by omega) (by omega) W
    have mk2 : ∀ W, (Instr.makeSlice 22 (.int .i64 (N : Int)) (.int .i64 (N : Int))).run Tryz.prog W = .ok (.slice (some ⟨W.heap.size, 0, none⟩) N N) (W.alloc (.cells (rowF N fun _ => .int .i64 0) 3)) := fun W => make_row (bytes := 8) Tryz.underlying22 (by kernel_rfl) rfl (by omega) (by omega) W
    have mk3 : ∀ W, (Instr.makeSlice 177 (.int .i64 (N : Int)) (.int .i64 (N : Int))).run Tryz.prog W = .ok (.slice (some ⟨W.heap.size, 0, none⟩) N N) (W.alloc (.cells (rowF N fun _ => .slice none 0 0) 22)) := fun W => make_row (bytes := 24) Tryz.underlying177 (by kernel_rfl) rfl (by omega) (by omega) W
    have mk4 : ∀ W, (Instr.makeSlice 176 (.int .i64 (N : Int)) (.int .i64 (N : Int))).run Tryz.prog W = .ok (.slice (some ⟨W.heap.size, 0, none⟩) N N) (W.alloc (.cells (madeCells zh (N * 10)) 227)) := fun W => by
      obtain ⟨i, h1, h2, h3, h4⟩ := info_parts (show (Tryz.prog.info? 227).map (fun i => (i.zero, i.size, i.bytes)) = some (some (.agg zh), 10, 72) by kernel_rfl)
      have := run_make_rowN (P := Tryz.prog) 176 227 i (.agg zh) Tryz.underlying176 h1 h2 .i64 .i64 N N (Nat.le_refl _) (by rw [h4]; omega) (by omega) W
      rw [h3] at this
      exact this
    suffices HK : ∀ (a' : Act) (w8 : World) (gm : Nat), a'.tmps.size = a.tmps.size → a'.defers = [] → a'.tmps[0]? = a.tmps[0]? → a'.tmps[1]? = a.tmps[1]? → a'.tmps[2]? = a.tmps[2]? → a'.tmps[3]? = a.tmps[3]? → a'.tmps[5]? = a.tmps[5]? → a'.tmps[10]? = a.tmps[10]? → a'.tmps[8]? = some (.pointer (some ⟨gm, 0, none⟩)) → a'.tmps[9]? = some (.int .i64 0) → Below w.heap.size w w8 → Kq7 a' w8 by
      refine sm_any [0, 2, 3, 5, 8, 9] 39 13 (by kernel_rfl) hs hd (by kernel_rfl) (agC e0 (agC e2 (agC e3 (agC e5 (agC e8 (agC e9 agN)))))) rfl (any_tree [] (.free 0 (.take 1 (.free 2 (.free 3 (.free 5 (.free 7 (.free 9 (.four 4 6 8 10 (.three 6 8 10 (.two 8 10 (.one 10 (.free 11 (.one 12 (.free 13 (.free 14 .nil))))) (.one 8 (.free 11 (.one 12 (.free 13 (.free 14 .nil)))))) (.two 6 10 (.one 10 (.free 11 (.one 12 (.free 13 (.free 14 .nil))))) (.one 6 (.free 11 (.one 12 (.free 13 (.free 14 .nil)))))) (.two 6 8 (.one 8 (.free 11 (.one 12 (.free 13 (.free 14 .nil))))) (.one 6 (.free 11 (.one 12 (.free 13 (.free 14 .nil))))))) (.three 4 8 10 (.two 8 10 (.one 10 (.free 11 (.one 12 (.free 13 (.free 14 .nil))))) (.one 8 (.free 11 (.one 12 (.free 13 (.free 14 .nil)))))) (.two 4 10 (.one 10 (.free 11 (.one 12 (.free 13 (.free 14 .nil))))) (.one 4 (.free 11 (.one 12 (.free 13 (.free 14 .nil)))))) (.two 4 8 (.one 8 (.free 11 (.one 12 (.free 13 (.free 14 .nil))))) (.one 4 (.free 11 (.one 12 (.free 13 (.free 14 .nil))))))) (.three 4 6 10 (.two 6 10 (.one 10 (.free 11 (.one 12 (.free 13 (.free 14 .nil))))) (.one 6 (.free 11 (.one 12 (.free 13 (.free 14 .nil)))))) (.two 4 10 (.one 10 (.free 11 (.one 12 (.free 13 (.free 14 .nil))))) (.one 4 (.free 11 (.one 12 (.free 13 (.free 14 .nil)))))) (.two 4 6 (.one 6 (.free 11 (.one 12 (.free 13 (.free 14 .nil))))) (.one 4 (.free 11 (.one 12 (.free 13 (.free 14 .nil))))))) (.three 4 6 8 (.two 6 8 (.one 8 (.free 11 (.one 12 (.free 13 (.free 14 .nil))))) (.one 6 (.free 11 (.one 12 (.free 13 (.free 14 .nil)))))) (.two 4 8 (.one 8 (.free 11 (.one 12 (.free 13 (.free 14 .nil))))) (.one 4 (.free 11 (.one 12 (.free 13 (.free 14 .nil)))))) (.two 4 6 (.one 6 (.free 11 (.one 12 (.free 13 (.free 14 .nil))))) (.one 4 (.free 11 (.one 12 (.free 13 (.free 14 .nil))))))))))))))) (fun (w' : World) => Below w.heap.size w w' ∧ Blk w' q 38 #[.int .i64 one, .int .i64 cls, .int .i64 two, .int .i64 id]) (by kernel_rfl) (fun _ _ _ _ _ h => h) ⟨HL2.out.1.drew, HL2.out.2⟩ ?_)
      simp only [seval]; have hwd := HL2.out.1.drew
      have X1 : Blk w2.drew q 38 #[.int .i64 one, .int .i64 cls, .int .i64 two, .int .i64 id] := HL2.out.2
      generalize w2.drew = wd at *
      (with_reducible (refine tr_free (v := ?_) rfl ?_ ?_ ?_); rotate_left; (first | exact wanted_none rfl | exact wanted_on rfl rfl rfl); (intro w'; go_simp; with_reducible rfl); simp only [Act.put, List.setIfInBounds_toArray, List.set_cons_zero, List.set_cons_succ])
      (with_reducible (refine tr_take (v := ?_) rfl ?_ ?_ ?_); rotate_left; (first | exact wanted_none rfl | exact wanted_on rfl rfl rfl); (rintro w' u1; have u2 := u1.2; (have q0 := u2.cellOf (v := .int .i64 one) 0 rfl); (have q1 := u2.cellOf (v := .int .i64 cls) 1 rfl); (have q2 := u2.cellOf (v := .int .i64 two) 2 rfl); (have q3 := u2.cellOf (v := .int .i64 id) 3 rfl); go_simp; with_reducible rfl); simp only [Act.put, List.setIfInBounds_toArray, List.set_cons_zero, List.set_cons_succ])
      (with_reducible (refine tr_free (v := ?_) rfl ?_ ?_ ?_); rotate_left; (first | exact wanted_none rfl | exact wanted_on rfl rfl rfl); (intro w'; go_simp; with_reducible rfl); simp only [Act.put, List.setIfInBounds_toArray, List.set_cons_zero, List.set_cons_succ])
      (with_reducible (refine tr_free (v := ?_) rfl ?_ ?_ ?_); rotate_left; (first | exact wanted_none rfl | exact wanted_on rfl rfl rfl); (intro w'; go_simp; with_reducible rfl); simp only [Act.put, List.setIfInBounds_toArray, List.set_cons_zero, List.set_cons_succ])
      (with_reducible (refine tr_free (v := ?_) rfl ?_ ?_ ?_); rotate_left; (first | exact wanted_none rfl | exact wanted_on rfl rfl rfl); (intro w'; go_simp; with_reducible rfl); simp only [Act.put, List.setIfInBounds_toArray, List.set_cons_zero, List.set_cons_succ])
      (with_reducible (refine tr_free (v := ?_) rfl ?_ ?_ ?_); rotate_left; (first | exact wanted_none rfl | exact wanted_on rfl rfl rfl); (intro w'; go_simp; with_reducible rfl); simp only [Act.put, List.setIfInBounds_toArray, List.set_cons_zero, List.set_cons_succ])
      (with_reducible (refine tr_free (v := ?_) rfl ?_ ?_ ?_); rotate_left; (first | exact wanted_none rfl | exact wanted_on rfl rfl rfl); (intro w'; go_simp; with_reducible rfl); simp only [Act.put, List.setIfInBounds_toArray, List.set_cons_zero, List.set_cons_succ])
      refine tr_four ?_ ?_ ?_ ?_ <;> ((with_reducible (refine tr_run (v := ?_) (w' := ?_) rfl ?_ ?_ ?_ ?_); rotate_left 2; (first | exact wanted_none rfl | exact wanted_on rfl rfl rfl); (go_simp; refine ⟨?_, ?_⟩ <;> with_reducible rfl); (exact (by first | exact ⟨bal (hwd) _, Blk.alloc (X1) _⟩ | exact ⟨bal (bal (hwd) _) _, Blk.alloc (Blk.alloc (X1) _) _⟩ | exact ⟨bal (bal (bal (hwd) _) _) _, Blk.alloc (Blk.alloc (Blk.alloc (X1) _) _) _⟩ | exact ⟨bal (bal (bal (bal (hwd) _) _) _) _, Blk.alloc (Blk.alloc (Blk.alloc (Blk.alloc (X1) _) _) _) _⟩ | exact ⟨bal (bal (bal (bal (bal (hwd) _) _) _) _) _, Blk.alloc (Blk.alloc (Blk.alloc (Blk.alloc (Blk.alloc (X1) _) _) _) _) _⟩)); simp only [Act.put, List.setIfInBounds_toArray, List.set_cons_zero, List.set_cons_succ]); refine tr_three ?_ ?_ ?_ <;> ((with_reducible (refine tr_run (v := ?_) (w' := ?_) rfl ?_ ?_ ?_ ?_); rotate_left 2; (first | exact wanted_none rfl | exact wanted_on rfl rfl rfl); (go_simp; refine ⟨?_, ?_⟩ <;> with_reducible rfl); (exact (by first | exact ⟨bal (hwd) _, Blk.alloc (X1) _⟩ | exact ⟨bal (bal (hwd) _) _, Blk.alloc (Blk.alloc (X1) _) _⟩ | exact ⟨bal (bal (bal (hwd) _) _) _, Blk.alloc (Blk.alloc (Blk.alloc (X1) _) _) _⟩ | exact ⟨bal (bal (bal (bal (hwd) _) _) _) _, Blk.alloc (Blk.alloc (Blk.alloc (Blk.alloc (X1) _) _) _) _⟩ | exact ⟨bal (bal (bal (bal (bal (hwd) _) _) _) _) _, Blk.alloc (Blk.alloc (Blk.alloc (Blk.alloc (Blk.alloc (X1) _) _) _) _) _⟩)); simp only [Act.put, List.setIfInBounds_toArray, List.set_cons_zero, List.set_cons_succ]); refine tr_two ?_ ?_ <;> ((with_reducible (refine tr_run (v := ?_) (w' := ?_) rfl ?_ ?_ ?_ ?_); rotate_left 2; (first | exact wanted_none rfl | exact wanted_on rfl rfl rfl); (go_simp; refine ⟨?_, ?_⟩ <;> with_reducible rfl); (exact (by first | exact ⟨bal (hwd) _, Blk.alloc (X1) _⟩ | exact ⟨bal (bal (hwd) _) _, Blk.alloc (Blk.alloc (X1) _) _⟩ | exact ⟨bal (bal (bal (hwd) _) _) _, Blk.alloc (Blk.alloc (Blk.alloc (X1) _) _) _⟩ | exact ⟨bal (bal (bal (bal (hwd) _) _) _) _, Blk.alloc (Blk.alloc (Blk.alloc (Blk.alloc (X1) _) _) _) _⟩ | exact ⟨bal (bal (bal (bal (bal (hwd) _) _) _) _) _, Blk.alloc (Blk.alloc (Blk.alloc (Blk.alloc (Blk.alloc (X1) _) _) _) _) _⟩)); simp only [Act.put, List.setIfInBounds_toArray, List.set_cons_zero, List.set_cons_succ]); (with_reducible (refine tr_run (v := ?_) (w' := ?_) rfl ?_ ?_ ?_ ?_); rotate_left 2; (first | exact wanted_none rfl | exact wanted_on rfl rfl rfl); (go_simp; refine ⟨?_, ?_⟩ <;> with_reducible rfl); (exact (by first | exact ⟨bal (hwd) _, Blk.alloc (X1) _⟩ | exact ⟨bal (bal (hwd) _) _, Blk.alloc (Blk.alloc (X1) _) _⟩ | exact ⟨bal (bal (bal (hwd) _) _) _, Blk.alloc (Blk.alloc (Blk.alloc (X1) _) _) _⟩ | exact ⟨bal (bal (bal (bal (hwd) _) _) _) _, Blk.alloc (Blk.alloc (Blk.alloc (Blk.alloc (X1) _) _) _) _⟩ | exact ⟨bal (bal (bal (bal (bal (hwd) _) _) _) _) _, Blk.alloc (Blk.alloc (Blk.alloc (Blk.alloc (Blk.alloc (X1) _) _) _) _) _⟩)); simp only [Act.put, List.setIfInBounds_toArray, List.set_cons_zero, List.set_cons_succ]); (with_reducible (refine tr_free (v := ?_) rfl ?_ ?_ ?_); rotate_left; (first | exact wanted_none rfl | exact wanted_on rfl rfl rfl); (intro w'; go_simp; with_reducible rfl); simp only [Act.put, List.setIfInBounds_toArray, List.set_cons_zero, List.set_cons_succ]); (with_reducible (refine tr_run (v := ?_) (w' := ?_) rfl ?_ ?_ ?_ ?_); rotate_left 2; (first | exact wanted_none rfl | exact wanted_on rfl rfl rfl); (go_simp; refine ⟨?_, ?_⟩ <;> with_reducible rfl); (exact (by first | exact ⟨bal (hwd) _, Blk.alloc (X1) _⟩ | exact ⟨bal (bal (hwd) _) _, Blk.alloc (Blk.alloc (X1) _) _⟩ | exact ⟨bal (bal (bal (hwd) _) _) _, Blk.alloc (Blk.alloc (Blk.alloc (X1) _) _) _⟩ | exact ⟨bal (bal (bal (bal (hwd) _) _) _) _, Blk.alloc (Blk.alloc (Blk.alloc (Blk.alloc (X1) _) _) _) _⟩ | exact ⟨bal (bal (bal (bal (bal (hwd) _) _) _) _) _, Blk.alloc (Blk.alloc (Blk.alloc (Blk.alloc (Blk.alloc (X1) _) _) _) _) _⟩)); simp only [Act.put, List.setIfInBounds_toArray, List.set_cons_zero, List.set_cons_succ]); (with_reducible (refine tr_free (v := ?_) rfl ?_ ?_ ?_); rotate_left; (first | exact wanted_none rfl | exact wanted_on rfl rfl rfl); (intro w'; go_simp; with_reducible rfl); simp only [Act.put, List.setIfInBounds_toArray, List.set_cons_zero, List.set_cons_succ]); (with_reducible (refine tr_free (v := ?_) rfl ?_ ?_ ?_); rotate_left; (first | exact wanted_none rfl | exact wanted_on rfl rfl rfl); (intro w'; go_simp; with_reducible rfl); simp only [Act.put, List.setIfInBounds_toArray, List.set_cons_zero, List.set_cons_succ]); refine tr_nil ?_)))
      all_goals
        intro a' H
        refine HK a' _ ?_ H.size H.defers ((H.got rfl rfl).trans e0.symm) (H.out 1 rfl) ((H.got rfl rfl).trans e2.symm) ((H.got rfl rfl).trans e3.symm) ((H.got rfl rfl).trans e5.symm) (H.out 10 rfl) ?_ ?_ ?_
        rotate_left 1
        · (refine (H.got (t := 8) rfl rfl).trans (congrArg some ?_); rfl)
        · (refine (H.got (t := 9) rfl rfl).trans (congrArg some ?_); rfl)
        · exact bal (bal (bal (bal (bal (hwd) _) _) _) _) _
    intro a' w8 gm g_s g_d g0 g1 g2 g3 g5 g10 f8 f9 hS8
    replace hs := g_s.trans hs; replace hd := g_d; replace e0 := g0.trans e0; replace e1 := g1.trans e1; replace e2 := g2.trans e2; replace e3 := g3.trans e3; replace e5 := g5.trans e5; replace e10 := g10.trans e10; clear e8; clear e9; clear g_s g_d g0 g1 g2 g3 g5 g10
    have e8 := f8
    clear f8
    have e9 := f9
    clear f9
    first | clear a | skip
    obtain ⟨a, rfl⟩ : ∃ a, a = a' := ⟨_, rfl⟩
    refine hKq7 _ _ ?_; clear hKq7 Kq7; refine wp_ret ?_
    exact sm_ret2 rfl hd e8 e9 ⟨_, _, rfl, hS8⟩
  · have hkb : (K != 0) = true := bne_iff_ne.2 hk
    refine sm_list [10] 36 2 hs hd (by kernel_rfl) (agC e10 agN) rfl ?_
    simp only [seval]
    go_wp2_with fail
    intro a H; replace hs := H.s hs; replace hd := H.d rfl; replace e10 := H.g 10 rfl rfl; replace e0 := H.k e0 rfl; replace e1 := H.k e1 rfl; replace e2 := H.k e2 rfl; replace e3 := H.k e3 rfl; replace e5 := H.k e5 rfl; replace e8 := H.k e8 rfl; replace e9 := H.k e9 rfl; have e37 := H.g 37 rfl rfl; clear H; refine hKq6 _ _ ?_; clear hKq6 Kq6
    refine wp_cond_true (slotE e37) ?_
    clear e37; refine wp_seq_k fun Kq7 hKq7 => ?_
    refine sm_list [8, 9, 10] 38 1 hs hd (by kernel_rfl) (agC e8 (agC e9 (agC e10 agN))) rfl ?_
    simp only [seval]
    go_wp2_with fail
    intro a H; replace hs := H.s hs; replace hd := H.d rfl; replace e10 := H.g 10 rfl rfl; replace e0 := H.k e0 rfl; replace e1 := H.k e1 rfl; replace e2 := H.k e2 rfl; replace e3 := H.k e3 rfl; replace e5 := H.k e5 rfl; replace e8 := H.g 8 rfl rfl; replace e9 := H.g 9 rfl rfl; clear H; refine hKq7 _ _ ?_; clear hKq7 Kq7; refine wp_ret ?_; refine exit_then rfl ?_
    exact sm_ret2 rfl hd e8 e9 ⟨_, _, rfl, HL2.out.1⟩
end Go.Proofs.YthhlfojaloaooaaGreat
