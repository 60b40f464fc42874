/-
  How far two clocks may be from each other.
-/
import Derived.Test.YtaegngcbiefckaaPlnD
namespace Go.Proofs.Ytaegngcbiefckaa
set_option linter.unusedSimpArgs false
set_option linter.unusedVariables false
open Go.RowKit Go.WideShapes Go.ChangeShapes
attribute [local go_sem ↓] Go.wp_at_zero Go.wp_at_succ

structure OffOk (C : Cf) : Prop where
  n1 : (2 : Int) ≤ C.nodes.length
  n2 : (C.nodes.length : Int) ≤ 16
  l1 : C.links.length ≤ 64
  l : ∀ l ∈ C.links, 0 ≤ l.lo ∧ l.lo ≤ l.hi ∧ l.hi ≤ 1048576
  e1 : 1000 ≤ C.every
  e2 : C.every ≤ 1073741824
  p1 : 0 ≤ C.ppm
  p2 : C.ppm ≤ 1000
  g1 : 1 ≤ C.grain
  g2 : C.grain ≤ 1000
set_option maxRecDepth 100000 in
set_option maxHeartbeats 4000000 in
theorem off_any (C : Cf) (Y : Lay) (w : World) (hC : CfAt w w.heap.size C Y) (hv : OffOk C) :
    Calls Try.prog 14 #[.agg (cfc C Y)] w fun e w' => e = .returned (.int .i64 (offV C)) ∧ Below w.heap.size w w' := by
  obtain ⟨hn1, hn2, hl1, hl, he1, he2, hp1, hp2, hg1, hg2⟩ := hv
  refine calls_sm (N := 53) Try.func14 rfl (by kernel_rfl) ?_
  intro a hs hd ha
  have e0 : a.tmps[0]? = some (.agg (cfc C Y)) := ha 0 _ rfl
  clear ha
  conv => arg 2; whnf
  refine wp_seq_k fun Kq1 hKq1 => ?_
  have HL := Lib.hid hl
  clear hl
  refine sm_list [0] 1 2 hs hd (by kernel_rfl) (agC e0 agN) rfl ?_
  simp only [seval]
  go_wp2_with fail
  intro a H; replace hs := H.s hs; replace hd := H.d rfl; clear e0; have e1 := H.g 1 rfl rfl; clear H; refine hKq1 _ _ ?_; clear hKq1 Kq1; refine wp_seq_k fun Kq2 hKq2 => ?_
  have BC := Blk.new w 26 (cfc C Y)
  have L0 : Below w.heap.size w (w.alloc (.cells (cfc C Y) 26)) := (Below.refl _ _).alloc (Nat.le_refl _) _
  have hz1 : w.heap.size < (w.alloc (.cells (cfc C Y) 26)).heap.size := by simp
  replace hC := (hC.below L0)
  generalize w.alloc (.cells (cfc C Y) 26) = w1 at *
  obtain ⟨g, hg⟩ : ∃ g, g = w.heap.size := ⟨_, rfl⟩
  rw [← hg] at BC hz1 hC e1 L0
  have HG := Lib.hid hg
  clear hg
  refine sm_list [] 3 1 hs hd (by kernel_rfl) agN rfl ?_
  simp only [seval]
  go_wp2_with fail
  intro a H; replace hs := H.s hs; replace hd := H.d rfl; replace e1 := H.k e1 rfl; have e3 := H.g 3 rfl rfl; clear H; refine hKq2 _ _ ?_; clear hKq2 Kq2; refine wp_seq_k fun Kq3 hKq3 => ?_; refine wp_seq_k fun Kq4 hKq4 => ?_
  have c1 := BC.cellOf (v := .slice Y.L.A C.links.length Y.L.c) 1 rfl
  refine sm_list [1] 7 4 hs hd (by kernel_rfl) (agC e1 agN) rfl ?_
  simp only [seval]
  go_wp2_with fail
  intro a H; replace hs := H.s hs; replace hd := H.d rfl; replace e1 := H.g 1 rfl rfl; replace e3 := H.k e3 rfl; have e8 := H.g 8 rfl rfl; have e9 := H.g 9 rfl rfl; have e10 := H.g 10 rfl rfl; clear H; refine hKq4 _ _ ?_; clear hKq4 Kq4; refine wp_block ?_; clear c1
  refine wp_loop (fun a w' => ∃ (j : Nat) (s : Int), j ≤ C.links.length ∧ a.tmps.size = 53 ∧ a.defers = [] ∧ a.tmps[1]? = some (.pointer (some ⟨g, 0, none⟩)) ∧ a.tmps[8]? = some (.slice Y.L.A C.links.length Y.L.c) ∧ a.tmps[9]? = some (.int .i64 (C.links.length : Int)) ∧ a.tmps[10]? = some (.int .i64 (j : Int)) ∧ a.tmps[3]? = some (.int .i64 s) ∧ s = (C.links.take j).foldl (fun s l => max s (l.hi - l.lo)) 0 ∧ 0 ≤ s ∧ s ≤ 1048576 ∧ Below (g + 1) w1 w') (fun a _ => C.links.length - (intOf (a.tmps.getD 10 undef)).toNat) ?_ ?_
  · exact ⟨0, 0, Nat.zero_le _, hs, hd, e1, e8, e9, e10, e3, rfl, by omega, by omega, Below.refl _ _⟩
  clear hs hd e10 e3 e1 e8 e9 a
  rintro a w3 ⟨j, s, hj, hs, hd, e1, e8, e9, e10, e3, hS, hs0, hs1, hb⟩
  have HS := Lib.hid hS
  clear hS
  have hm := slot e10
  refine wp_seq_k fun Kq5 hKq5 => ?_
  by_cases hlt : j < C.links.length
  ·
    have dj : decide ((j : Int) < (C.links.length : Int)) = true := decide_eq_true (by omega)
    obtain ⟨l, hl⟩ : ∃ l, C.links[j]? = some l := ⟨_, List.getElem?_eq_getElem hlt⟩
    obtain ⟨h1, h2, h3⟩ := HL.out l (List.mem_of_getElem? hl)
    obtain ⟨ad, had, hadb, hcl⟩ := reads_at lkc_len (hC.links.below (hb.mono (Nat.le_succ g))) hl hlt
    have HC := Lib.hid hcl
    have HE := Lib.hid hl
    clear hcl hl
    rw [had] at e8
    refine sm_list [9, 10] 11 1 hs hd (by kernel_rfl) (agC e9 (agC e10 agN)) rfl ?_
    simp only [seval]
    go_wp2_with fail
    intro a H; replace hs := H.s hs; replace hd := H.d rfl; replace e9 := H.g 9 rfl rfl; replace e10 := H.g 10 rfl rfl; replace e1 := H.k e1 rfl; replace e8 := H.k e8 rfl; replace e3 := H.k e3 rfl; have e11 := H.g 11 rfl rfl; clear H; refine hKq5 _ _ ?_; clear hKq5 Kq5; refine wp_seq_k fun Kq6 hKq6 => ?_
    refine wp_cond_true (slotE e11) ?_
    clear e11; refine wp_skip ?_; refine hKq6 _ _ ?_; clear hKq6 Kq6; refine wp_seq_k fun Kq7 hKq7 => ?_; refine wp_block ?_; refine wp_seq_k fun Kq8 hKq8 => ?_
    have B5 := Blk.new w3 80 (lkc l).toArray
    have L5 := hb.alloc (by have := hb.size; omega) (.cells (lkc l).toArray 80)
    refine sm_list [5, 8, 10] 12 2 hs hd (by kernel_rfl) (agU (agC e8 (agC e10 agN))) rfl ?_
    simp only [seval]
    go_wp2_with (first | (refine wpList_load_any_d rfl 80 (.tmp 3) rfl (ad.add (j * 6)) rfl ((lkc l).toArray) _ (by simpa using HC.out) Try.underlying80 rfl (by kernel_rfl) ?_) | (refine wpList_store_new rfl 80 (.tmp 0) (.tmp 4) rfl rfl rfl rfl rfl (by kernel_rfl) (by rw [← Array.all_toList]; rfl) ?_) | fail)
    intro a H; replace hs := H.s hs; replace hd := H.d rfl; replace e8 := H.g 8 rfl rfl; replace e10 := H.g 10 rfl rfl; replace e1 := H.k e1 rfl; replace e9 := H.k e9 rfl; replace e3 := H.k e3 rfl; have e5 := H.g 5 rfl rfl; clear H; refine hKq8 _ _ ?_; clear hKq8 Kq8
    have x1 := B5.cellOf (v := .int .i64 l.lo) 4 rfl
    have x2 := B5.cellOf (v := .int .i64 l.hi) 5 rfl
    generalize w3.alloc (.cells (lkc l).toArray 80) = w4 at *
    suffices HK : ∀ (a' : Act), a'.tmps.size = a.tmps.size → a'.defers = [] → a'.tmps[1]? = a.tmps[1]? → a'.tmps[8]? = a.tmps[8]? → a'.tmps[9]? = a.tmps[9]? → a'.tmps[10]? = a.tmps[10]? → a'.tmps[5]? = a.tmps[5]? → a'.tmps[3]? = some (.int .i64 (max s (l.hi - l.lo))) → Kq7 a' w4 by
      refine sm_list [3, 5] 14 7 hs hd (by kernel_rfl) (agC e3 (agC e5 agN)) rfl ?_
      simp only [seval]
      go_wp2_with fail
      all_goals
        intro a' H
        refine HK a' H.size H.defers (H.out 1 rfl) (H.out 8 rfl) (H.out 9 rfl) (H.out 10 rfl) ((H.got rfl rfl).trans e5.symm) ?_
        · (refine (H.got (t := 3) rfl rfl).trans (congrArg some ?_); refine congrArg (Value.int .i64) ?_; omega)
    intro a' g_s g_d g1 g8 g9 g10 g5 f3
    replace hs := g_s.trans hs; replace hd := g_d; replace e1 := g1.trans e1; replace e8 := g8.trans e8; replace e9 := g9.trans e9; replace e10 := g10.trans e10; replace e5 := g5.trans e5; clear e3; clear g_s g_d g1 g8 g9 g10 g5
    have e3 := f3
    clear f3; clear a
    obtain ⟨a, rfl⟩ : ∃ a, a = a' := ⟨_, rfl⟩
    refine hKq7 _ _ ?_; clear hKq7 Kq7; clear e5; clear x1 x2 B5
    refine sm_list [10] 21 1 hs hd (by kernel_rfl) (agC e10 agN) rfl ?_
    simp only [seval]
    go_wp2_with fail
    intro a H; replace hs := H.s hs; replace hd := H.d rfl; replace e1 := H.k e1 rfl; replace e8 := H.k e8 rfl; replace e9 := H.k e9 rfl; replace e3 := H.k e3 rfl; replace e10 := H.g 10 rfl rfl; clear H
    rw [← had] at e8
    refine ⟨⟨j + 1, max s (l.hi - l.lo), by omega, hs, hd, e1, e8, e9, e10, e3, ?_, by omega, by omega, L5⟩, ?_⟩
    · rw [HS.out, foldl_take_succ HE.out]
    · simp only [hm, slot e10, intOf]; omega
  · obtain rfl : j = C.links.length := by omega
    have dj : decide ((C.links.length : Int) < (C.links.length : Int)) = false := decide_eq_false (by omega)
    clear hlt hm
    refine sm_list [9, 10] 11 1 hs hd (by kernel_rfl) (agC e9 (agC e10 agN)) rfl ?_
    simp only [seval]
    go_wp2_with fail
    intro a H; replace hs := H.s hs; replace hd := H.d rfl; replace e9 := H.g 9 rfl rfl; replace e10 := H.g 10 rfl rfl; replace e1 := H.k e1 rfl; replace e8 := H.k e8 rfl; replace e3 := H.k e3 rfl; have e11 := H.g 11 rfl rfl; clear H; refine hKq5 _ _ ?_; clear hKq5 Kq5; refine wp_seq_k fun Kq6 hKq6 => ?_
    refine wp_cond_false (slotE e11) ?_
    clear e11; refine wp_exit ?_; refine exit_then rfl ?_; clear hKq6 Kq6; refine exit_then rfl ?_; refine exit_hit ?_; refine hKq3 _ _ ?_; clear hKq3 Kq3; refine wp_seq_k fun Kq7 hKq7 => ?_
    have BC3 := BC.below hb (Nat.lt_succ_self g)
    have c0 := BC3.cellOf (v := .slice Y.N.A C.nodes.length Y.N.c) 0 rfl
    refine sm_list [1, 6] 22 3 hs hd (by kernel_rfl) (agC e1 (agU agN)) rfl ?_
    simp only [seval]
    go_wp2_with fail
    intro a H; replace hs := H.s hs; replace hd := H.d rfl; replace e1 := H.g 1 rfl rfl; replace e8 := H.k e8 rfl; replace e9 := H.k e9 rfl; replace e10 := H.k e10 rfl; replace e3 := H.k e3 rfl; have e6 := H.g 6 rfl rfl; clear H; refine hKq7 _ _ ?_; clear hKq7 Kq7; refine wp_seq_k fun Kq8 hKq8 => ?_; clear c0
    have c4 := BC3.cellOf (v := .int .i64 C.every) 4 rfl
    have c5 := BC3.cellOf (v := .int .i64 C.ppm) 5 rfl
    have c6 := BC3.cellOf (v := .int .i64 C.grain) 6 rfl
    rw [List.take_length] at HS
    have hN0 : (0 : Int) ≤ 8 * C.ppm := by omega
    have hN1 : 8 * C.ppm ≤ 8000 := by omega
    have hA0 : 0 ≤ 8 * C.ppm * C.every := Int.mul_nonneg hN0 (by omega)
    have hA1 : 8 * C.ppm * C.every ≤ 8000 * 1073741824 := Int.mul_le_mul hN1 he2 (by omega) (by omega)
    have hM0 : 0 ≤ 8 * C.ppm * ((C.nodes.length : Int) + 8) := Int.mul_nonneg hN0 (by omega)
    have hM1 : 8 * C.ppm * ((C.nodes.length : Int) + 8) ≤ 8000 * 24 := Int.mul_le_mul hN1 (by omega) (by omega) (by omega)
    have hB0 : 0 ≤ 8 * C.ppm * ((C.nodes.length : Int) + 8) * C.every := Int.mul_nonneg hM0 (by omega)
    have hB1 : 8 * C.ppm * ((C.nodes.length : Int) + 8) * C.every ≤ 8000 * 24 * 1073741824 := Int.mul_le_mul hM1 he2 (by omega) (by omega)
    obtain ⟨q1, hq1⟩ : ∃ q, q = (8 * C.ppm * C.every).tdiv 1000000 := ⟨_, rfl⟩
    obtain ⟨q2, hq2⟩ : ∃ q, q = (8 * C.ppm * ((C.nodes.length : Int) + 8) * C.every).tdiv 1000000 := ⟨_, rfl⟩
    have u1 : 0 ≤ q1 ∧ q1 ≤ 8000 * 1073741824 := by rw [hq1, Int.tdiv_eq_ediv_of_nonneg hA0]; omega
    have u2 : 0 ≤ q2 ∧ q2 ≤ 8000 * 24 * 1073741824 := by rw [hq2, Int.tdiv_eq_ediv_of_nonneg hB0]; omega
    have v1 : IntKind.i64.wrap ((8 * C.ppm * C.every).tdiv 1000000) = q1 := by rw [← hq1]; exact wrap64 (by omega) (by omega)
    have v2 : IntKind.i64.wrap ((8 * C.ppm * ((C.nodes.length : Int) + 8) * C.every).tdiv 1000000) = q2 := by rw [← hq2]; exact wrap64 (by omega) (by omega)
    have hP0 : 0 ≤ ((C.nodes.length : Int) - 1) * (s + 8 * C.grain + q1) := Int.mul_nonneg (by omega) (by omega)
    have hP1 : ((C.nodes.length : Int) - 1) * (s + 8 * C.grain + q1) ≤ 16 * (1048576 + 8000 + 8000 * 1073741824) := Int.mul_le_mul (by omega) (by omega) (by omega) (by omega)
    have hval : ((C.nodes.length : Int) - 1) * (s + 8 * C.grain + q1) + q2 + 100 = offV C := by unfold offV; rw [← HS.out, ← hq1, ← hq2]
    have HV := Lib.hid hval
    clear hval hq1 hq2
    refine sm_list [1, 2, 3, 6] 25 28 hs hd (by kernel_rfl) (agC e1 (agU (agC e3 (agC e6 agN)))) rfl ?_
    simp only [seval]
    go_wp2_with fail
    intro a H; replace hs := H.s hs; replace hd := H.d rfl; replace e1 := H.g 1 rfl rfl; replace e3 := H.g 3 rfl rfl; replace e6 := H.g 6 rfl rfl; replace e8 := H.k e8 rfl; replace e9 := H.k e9 rfl; replace e10 := H.k e10 rfl; have e2 := H.g 2 rfl rfl; clear H; refine hKq8 _ _ ?_; clear hKq8 Kq8; refine wp_ret ?_
    rw [HV.out] at e2
    exact sm_ret rfl hd e2 ⟨rfl, by rw [← HG.out]; exact L0.trans (hb.mono (Nat.le_succ _))⟩
end Go.Proofs.Ytaegngcbiefckaa
