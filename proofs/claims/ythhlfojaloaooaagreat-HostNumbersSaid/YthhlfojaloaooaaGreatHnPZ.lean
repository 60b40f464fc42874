/-
  fdb: a new table.
-/
import Derived.Test.YthhlfojaloaooaaGreatRows
import Derived.Test.YthhlfojaloaooaaGreatHnOZ
import Derived.WalkKit
import Derived.ProofKit
import Derived.OpenShut
import Derived.LoopTactic
import Derived.WalkLawsBesides
import Derived.WalkSpells
import Derived.Outline
import Derived.Lib.Hide
import Derived.Deep.DrawnRows
import Derived.Laws.CopyOwn
import Derived.MapKept
namespace Go.Proofs.YthhlfojaloaooaaGreat
set_option linter.unusedSimpArgs false
set_option linter.unusedVariables false
open Go.RowKit Go.WideShapes Go.ChangeShapes
attribute [local go_sem ↓] Go.wp_at_zero Go.wp_at_succ

/-- A table of so many ports, none of whose VLANs is set yet. -/
def FdAt (w : World) (g m : Nat) (n : Int) : Prop := ∃ v m2, Blk w g 155 #[.int .i64 n, .int .i64 256, .map (some m), v, .map (some m2)] ∧ w.heap[m]? = some (.map #[] 0)
/-- While its ports are made. -/
structure FdS (w w4 wk : World) (g m m2 : Nat) (n : Int) (v : Value) (j : Nat) : Prop where
  low : Below w.heap.size w wk
  bt : Blk wk g 155 #[.int .i64 n, .int .i64 256, .map (some m), v, .map (some m2)]
  mp : wk.heap[m]? = some (.map #[] 0)
  own : ∃ xs, wk.ownsRow w4.heap.size 157 9 v j xs
  sz : w.heap.size ≤ w4.heap.size ∧ w4.heap.size ≤ wk.heap.size ∧ g < w4.heap.size ∧ m < w4.heap.size ∧ w.heap.size ≤ g ∧ w.heap.size ≤ m ∧ g ≠ m
theorem styFd : SliceTy Tryz.prog 153 157 9 72 := sliceTy_mk (z := .agg #[.int .i64 0, .int .i64 0, .int .i64 0, .int .i64 0, .int .i64 0, .int .i64 0, .int .i64 0, .int .i64 0, .int .i64 0]) Tryz.underlying153 (by kernel_rfl) rfl
theorem FdS.push {w w4 wk w5 : World} {g m m2 j : Nat} {n : Int} {v v' : Value} {xs : List Value} (h : FdS w w4 wk g m m2 n v j) (own' : w5.ownsRow w4.heap.size 157 9 v' (j + 1) xs) (hb : Below w4.heap.size wk w5) :
    Blk w5 g 155 #[.int .i64 n, .int .i64 256, .map (some m), v, .map (some m2)] ∧ FdS w w4 (w5.setCell ⟨g, 3, none⟩ v') g m m2 n v' (j + 1) := by
  obtain ⟨s1, s2, s3, s4, s5, s6, s7⟩ := h.sz
  have B5 : Blk w5 g 155 #[.int .i64 n, .int .i64 256, .map (some m), v, .map (some m2)] := (hb.block g s3).trans h.bt
  have M5 : w5.heap[m]? = some (.map #[] 0) := (hb.block m s4).trans h.mp
  have L5 : Below w.heap.size w w5 := h.low.trans (hb.mono s1)
  have gs := gr_set (grownBy_refl w5 (some g)) 3 v'
  refine ⟨B5, L5.grown gs L5.size (fun k hk => by cases hk; exact s5), B5.set_ 3 v', ?_, ⟨xs, own_kept own' gs (fun k hk e => by injection e with e; have := (ownsRow_lt own' k hk).1; omega)⟩, s1, ?_, s3, s4, s5, s6, s7⟩
  · rw [gs.block m (Nat.lt_of_lt_of_le s4 (Nat.le_trans s2 hb.size)) (by intro e; injection e with e; exact s7 e.symm)]
    exact M5
  · exact Nat.le_trans (Nat.le_trans s2 hb.size) gs.size
set_option maxRecDepth 100000 in
set_option maxHeartbeats 4000000 in
theorem fdNew_any (n : Nat) (hn : 1 ≤ n ∧ n ≤ 8) (w : World) : Calls Tryz.prog 33 #[.int .i64 (n : Int), .int .i64 256] w fun e w' => ∃ g m, e = .returned (.tuple #[.pointer (some ⟨g, 0, none⟩), .int .i64 0]) ∧ Below w.heap.size w w' ∧ w.heap.size ≤ g ∧ w.heap.size ≤ m ∧ g ≠ m ∧ FdAt w' g m (n : Int) := by
  refine calls_sm (N := 43) Tryz.func33 rfl (by kernel_rfl) ?_
  intro a hs hd ha
  have e0 : a.tmps[0]? = some (.int .i64 (n : Int)) := ha 0 _ rfl
  have e1 : a.tmps[1]? = some (.int .i64 256) := ha 1 _ rfl
  clear ha
  conv => arg 2; whnf
  refine wp_seq_k fun Kq1 hKq1 => ?_
  have d1 : decide ((n : Int) < 1) = false := decide_eq_false (by omega)
  have d1b : decide (n < 1) = false := decide_eq_false (by omega)
  have d2 : decide ((8 : Int) < (n : Int)) = false := decide_eq_false (by omega)
  have d2b : decide (8 < n) = false := decide_eq_false (by omega)
  have d3 : ¬ n = 0 := by omega
  have d3b : decide (n = 0) = false := decide_eq_false (by omega)
  refine sm_list [] 4 2 hs hd (by kernel_rfl) agN rfl ?_
  simp only [seval]
  go_wp2_with fail
  intro a H; replace hs := H.s hs; replace hd := H.d rfl; replace e0 := H.k e0 rfl; replace e1 := H.k e1 rfl; have e4 := H.g 4 rfl rfl; have e5 := H.g 5 rfl rfl; clear H; refine hKq1 _ _ ?_; clear hKq1 Kq1; refine wp_seq_k fun Kq2 hKq2 => ?_; refine wp_seq_k fun Kq3 hKq3 => ?_
  refine sm_list [0, 1] 7 14 hs hd (by kernel_rfl) (agC e0 (agC e1 agN)) rfl ?_
  simp only [seval]
  go_wp2_with fail
  intro a H; replace hs := H.s hs; replace hd := H.d rfl; replace e0 := H.g 0 rfl rfl; replace e1 := H.g 1 rfl rfl; replace e4 := H.k e4 rfl; replace e5 := H.k e5 rfl; have e20 := H.g 20 rfl rfl; clear H; refine hKq3 _ _ ?_; clear hKq3 Kq3
  refine wp_cond_false (slotE e20) ?_
  clear e20; refine wp_skip ?_; refine hKq2 _ _ ?_; clear hKq2 Kq2; refine wp_seq_k fun Kq4 hKq4 => ?_; clear d1 d1b d2 d2b d3 d3b
  have hmk := @run_makeMap Tryz.prog
  refine sm_list [0, 1, 6] 21 6 hs hd (by kernel_rfl) (agC e0 (agC e1 (agU agN))) rfl ?_
  simp only [seval]
  go_wp2_with fail
  intro a H; replace hs := H.s hs; replace hd := H.d rfl; replace e0 := H.g 0 rfl rfl; replace e1 := H.g 1 rfl rfl; replace e4 := H.k e4 rfl; replace e5 := H.k e5 rfl; have e6 := H.g 6 rfl rfl; clear H; refine hKq4 _ _ ?_; clear hKq4 Kq4; refine wp_seq_k fun Kq5 hKq5 => ?_; refine wp_seq_k fun Kq6 hKq6 => ?_; clear hmk
  have z1 : (w.alloc (.map #[] 0)).heap.size = w.heap.size + 1 := Array.size_push _
  have z2 : ((w.alloc (.map #[] 0)).alloc (.map #[] 0)).heap.size = w.heap.size + 1 + 1 := by rw [← z1]; exact Array.size_push _
  have L1 : Below w.heap.size w (w.alloc (.map #[] 0)) := (Below.refl _ _).alloc (Nat.le_refl _) _
  have L2 : Below w.heap.size w ((w.alloc (.map #[] 0)).alloc (.map #[] 0)) := L1.alloc L1.size _
  have BT := Blk.new ((w.alloc (.map #[] 0)).alloc (.map #[] 0)) 155 #[.int .i64 (n : Int), .int .i64 256, .map (some w.heap.size), .slice none 0 0, .map (some (w.heap.size + 1))]
  have L3 : Below w.heap.size w (((w.alloc (.map #[] 0)).alloc (.map #[] 0)).alloc (.cells #[.int .i64 (n : Int), .int .i64 256, .map (some w.heap.size), .slice none 0 0, .map (some (w.heap.size + 1))] 155)) := L2.alloc L2.size _
  have M1 : (w.alloc (.map #[] 0)).heap[w.heap.size]? = some (.map #[] 0) := by show (w.heap.push _)[w.heap.size]? = _; simp
  have M2 : ((w.alloc (.map #[] 0)).alloc (.map #[] 0)).heap[w.heap.size]? = some (.map #[] 0) := (Below.heap_alloc _ _ _ (by rw [z1]; omega)).trans M1
  have M3 : (((w.alloc (.map #[] 0)).alloc (.map #[] 0)).alloc (.cells #[.int .i64 (n : Int), .int .i64 256, .map (some w.heap.size), .slice none 0 0, .map (some (w.heap.size + 1))] 155)).heap[w.heap.size]? = some (.map #[] 0) := (Below.heap_alloc _ _ _ (by rw [z2]; omega)).trans M2
  have z3 : (((w.alloc (.map #[] 0)).alloc (.map #[] 0)).alloc (.cells #[.int .i64 (n : Int), .int .i64 256, .map (some w.heap.size), .slice none 0 0, .map (some (w.heap.size + 1))] 155)).heap.size = w.heap.size + 1 + 1 + 1 := by rw [← z2]; exact Array.size_push _
  rw [z2] at BT
  obtain ⟨g, hg⟩ : ∃ g, g = w.heap.size + 1 + 1 := ⟨_, rfl⟩
  obtain ⟨m, hm_⟩ : ∃ m, m = w.heap.size := ⟨_, rfl⟩
  rw [← hg] at BT e6
  have hgm : g ≠ m := by omega
  have hwg : w.heap.size ≤ g := by omega
  have hwm : w.heap.size ≤ m := by omega
  refine (?_ : ∀ (W : World), FdS w W W g m (w.heap.size + 1) (n : Int) (.slice none 0 0) 0 → Code.wp Tryz.prog _ _ _ W) _ ⟨L3, by rw [hm_]; exact BT, by rw [hm_]; exact M3, ⟨_, ownsRow_nil _ _ _ _⟩, L3.size, Nat.le_refl _, by rw [z3]; omega, by rw [z3]; omega, hwg, hwm, hgm⟩
  intro w4 S4
  obtain ⟨m2, hm2⟩ : ∃ m2, m2 = w.heap.size + 1 := ⟨_, rfl⟩
  rw [← hm2] at S4
  clear hm2 z1 z2 z3 L1 L2 L3 BT M1 M2 M3 hg hm_
  refine sm_list [0] 27 2 hs hd (by kernel_rfl) (agC e0 agN) rfl ?_
  simp only [seval]
  go_wp2_with fail
  intro a H; replace hs := H.s hs; replace hd := H.d rfl; replace e0 := H.g 0 rfl rfl; replace e1 := H.k e1 rfl; replace e4 := H.k e4 rfl; replace e5 := H.k e5 rfl; replace e6 := H.k e6 rfl; have e27 := H.g 27 rfl rfl; have e28 := H.g 28 rfl rfl; clear H; refine hKq6 _ _ ?_; clear hKq6 Kq6; refine wp_block ?_
  refine wp_loop (fun a w' => ∃ (j : Nat) (A : Option Addr) (c : Nat), j ≤ n ∧ FdS w w4 w' g m m2 (n : Int) (.slice A j c) j ∧ a.tmps.size = 43 ∧ a.defers = [] ∧ a.tmps[6]? = some (.pointer (some ⟨g, 0, none⟩)) ∧ a.tmps[27]? = some (.int .i64 (n : Int)) ∧ a.tmps[28]? = some (.int .i64 (j : Int))) (fun a _ => n - (intOf (a.tmps.getD 28 undef)).toNat) ?_ ?_
  · exact ⟨0, none, 0, by omega, S4, hs, hd, e6, e27, e28⟩
  clear e0 e1 e4 e5 e6 e27 e28 hs hd a
  rintro a w5 ⟨j, A, c, hj, S5, hs, hd, e6, e27, e28⟩
  have hm := slot e28
  refine wp_seq_k fun Kq7 hKq7 => ?_
  by_cases hlt3 : j < n
  ·
    have dj : decide ((j : Int) < (n : Int)) = true := decide_eq_true (by omega)
    have j1 : (j : Int) < (n : Int) := by omega
    refine sm_list [27, 28] 29 1 hs hd (by kernel_rfl) (agC e27 (agC e28 agN)) rfl ?_
    simp only [seval]
    go_wp2_with fail
    intro a H; replace hs := H.s hs; replace hd := H.d rfl; replace e27 := H.g 27 rfl rfl; replace e28 := H.g 28 rfl rfl; replace e6 := H.k e6 rfl; have e29 := H.g 29 rfl rfl; clear H; refine hKq7 _ _ ?_; clear hKq7 Kq7; refine wp_seq_k fun Kq8 hKq8 => ?_
    refine wp_cond_true (slotE e29) ?_
    clear e29; refine wp_skip ?_; refine hKq8 _ _ ?_; clear hKq8 Kq8; refine wp_seq_k fun Kq9 hKq9 => ?_; refine wp_block ?_; clear dj j1
    obtain ⟨xs, own⟩ := S5.own
    have q3 := S5.bt.cellOf (v := .slice A j c) 3 rfl
    have h1c : ∀ u ∈ (#[.int .i64 1, .int .i64 0, .int .i64 1, .int .i64 2, .int .i64 3, .int .i64 4, .int .i64 5, .int .i64 6, .int .i64 7] : Array Value).toList, u.oneCell' = true := by intro u hu; simp at hu; rcases hu with rfl | rfl | rfl | rfl | rfl | rfl | rfl | rfl | rfl <;> rfl
    have hszz := S5.sz.2.1
    refine sm_list [6] 30 11 hs hd (by kernel_rfl) (agC e6 agN) rfl ?_
    simp only [seval]
    go_wp2_with (at_builtin; refine wpList_push rfl (.tmp 5) (.tmp 8) 153 rfl styFd (cs := #[.int .i64 1, .int .i64 0, .int .i64 1, .int .i64 2, .int .i64 3, .int .i64 4, .int .i64 5, .int .i64 6, .int .i64 7]) rfl h1c rfl own rfl (by omega) hszz ?_; intro v6 w6 own6 hb6; obtain ⟨A6, c6, rfl, _, _⟩ := ownsRow_reads own6; obtain ⟨bt6, S6⟩ := S5.push own6 hb6; have q36 := bt6.cellOf (v := .slice A j c) 3 rfl; have fz6 := bt6.frozen; have lz6 := bt6.lt)
    intro a H; replace hs := H.s hs; replace hd := H.d rfl; replace e6 := H.g 6 rfl rfl; replace e27 := H.k e27 rfl; replace e28 := H.k e28 rfl; clear H; refine hKq9 _ _ ?_; clear hKq9 Kq9
    refine (?_ : ∀ (W : World), FdS w w4 W g m m2 (n : Int) (.slice A6 (j + 1) c6) (j + 1) → Code.wp Tryz.prog _ _ _ W) _ S6
    intro w7 S7
    clear S6 bt6 q36 fz6 lz6 own6 hb6 S5 q3 own h1c hszz
    refine sm_list [28] 41 1 hs hd (by kernel_rfl) (agC e28 agN) rfl ?_
    simp only [seval]
    go_wp2_with fail
    intro a H; replace hs := H.s hs; replace hd := H.d rfl; replace e6 := H.k e6 rfl; replace e27 := H.k e27 rfl; replace e28 := H.g 28 rfl rfl; clear H
    exact ⟨⟨j + 1, A6, c6, by omega, S7, hs, hd, e6, e27, e28⟩, by first | (simp only [hm, slot e28, intOf]; omega) | (simp [hm, slot e28, intOf]; omega)⟩
  · have hkn : j = n := by omega
    have dj : decide ((j : Int) < (n : Int)) = false := decide_eq_false (by omega)
    have dj2 : decide (j < n) = false := decide_eq_false hlt3
    have HM := Lib.hid hm
    have HK := Lib.hid hkn
    clear hm hj hlt3 hkn
    refine sm_list [27, 28] 29 1 hs hd (by kernel_rfl) (agC e27 (agC e28 agN)) rfl ?_
    simp only [seval]
    go_wp2_with fail
    intro a H; replace hs := H.s hs; replace hd := H.d rfl; replace e27 := H.g 27 rfl rfl; replace e28 := H.g 28 rfl rfl; replace e6 := H.k e6 rfl; have e29 := H.g 29 rfl rfl; clear H; refine hKq7 _ _ ?_; clear hKq7 Kq7; refine wp_seq_k fun Kq8 hKq8 => ?_
    refine wp_cond_false (slotE e29) ?_
    clear e29; refine wp_exit ?_; refine exit_then rfl ?_; clear hKq8 Kq8; refine exit_then rfl ?_; refine exit_hit ?_; refine hKq5 _ _ ?_; clear hKq5 Kq5; refine wp_seq_k fun Kq9 hKq9 => ?_
    refine sm_list [4, 5, 6] 42 1 hs hd (by kernel_rfl) (agU (agU (agC e6 agN))) rfl ?_
    simp only [seval]
    go_wp2_with fail
    intro a H; replace hs := H.s hs; replace hd := H.d rfl; replace e6 := H.g 6 rfl rfl; replace e27 := H.k e27 rfl; replace e28 := H.k e28 rfl; have e4 := H.g 4 rfl rfl; have e5 := H.g 5 rfl rfl; clear H; refine hKq9 _ _ ?_; clear hKq9 Kq9; refine wp_ret ?_
    exact sm_ret2 rfl hd e4 e5 ⟨g, m, rfl, S5.low, S5.sz.2.2.2.2.1, S5.sz.2.2.2.2.2.1, S5.sz.2.2.2.2.2.2, _, _, S5.bt, S5.mp⟩
end Go.Proofs.YthhlfojaloaooaaGreat
