/-
  Is a number on a list?
-/
import Derived.Test.YtaegngcbiefckaaPlnD
namespace Go.Proofs.Ytaegngcbiefckaa
set_option linter.unusedSimpArgs false
set_option linter.unusedVariables false
open Go.RowKit Go.WideShapes Go.ChangeShapes
attribute [local go_sem ↓] Go.wp_at_zero Go.wp_at_succ

set_option maxRecDepth 100000 in
set_option maxHeartbeats 4000000 in
theorem idx_any (A : Option Addr) (n c B : Nat) (zs : List Int) (x : Int) (w : World) (hr : Reads w B 1 A n (zs.map (Value.int .i64))) (hl : zs.length = n) (hn : (n : Int) < 9223372036854775807) :
    Calls Try.prog 39 #[.slice A n c, .int .i64 x] w fun e w' => ∃ r : Int, e = .returned (.int .i64 r) ∧ w' = w ∧ decide (0 ≤ r) = zs.contains x := by
  refine calls_sm (N := 19) Try.func39 rfl (by kernel_rfl) ?_
  intro a hs hd ha
  have e0 : a.tmps[0]? = some (.slice A n c) := ha 0 _ rfl
  have e1 : a.tmps[1]? = some (.int .i64 x) := ha 1 _ rfl
  clear ha
  conv => arg 2; whnf
  refine wp_seq_k fun Kq1 hKq1 => ?_
  have HL := Lib.hid hl
  clear hl
  refine sm_list [] 4 1 hs hd (by kernel_rfl) agN rfl ?_
  simp only [seval]
  go_wp2_with fail
  intro a H; replace hs := H.s hs; replace hd := H.d rfl; replace e0 := H.k e0 rfl; replace e1 := H.k e1 rfl; clear H; refine hKq1 _ _ ?_; clear hKq1 Kq1; refine wp_seq_k fun Kq2 hKq2 => ?_; refine wp_seq_k fun Kq3 hKq3 => ?_
  refine sm_list [0] 6 3 hs hd (by kernel_rfl) (agC e0 agN) rfl ?_
  simp only [seval]
  go_wp2_with fail
  intro a H; replace hs := H.s hs; replace hd := H.d rfl; replace e0 := H.g 0 rfl rfl; replace e1 := H.k e1 rfl; have e7 := H.g 7 rfl rfl; have e8 := H.g 8 rfl rfl; clear H; refine hKq3 _ _ ?_; clear hKq3 Kq3; refine wp_block ?_
  refine wp_loop (fun a w' => ∃ j : Nat, j ≤ n ∧ a.tmps.size = 19 ∧ a.defers = [] ∧ a.tmps[0]? = some (.slice A n c) ∧ a.tmps[1]? = some (.int .i64 x) ∧ a.tmps[7]? = some (.int .i64 (n : Int)) ∧ a.tmps[8]? = some (.int .i64 (j : Int)) ∧ w' = w ∧ x ∉ zs.take j) (fun a _ => n - (intOf (a.tmps.getD 8 undef)).toNat) ?_ ?_
  · exact ⟨0, Nat.zero_le _, hs, hd, e0, e1, e7, e8, rfl, by simp⟩
  clear hs hd e8 e0 e1 e7 a
  rintro a w3 ⟨j, hj, hs, hd, e0, e1, e7, e8, rfl, hno⟩
  have HN := Lib.hid hno
  clear hno
  have hm := slot e8
  refine wp_seq_k fun Kq4 hKq4 => ?_
  by_cases hlt : j < n
  ·
    have dj : decide ((j : Int) < (n : Int)) = true := decide_eq_true (by omega)
    obtain ⟨ad, u, hA, hadb, hu, hc⟩ := hr.at_ hlt
    obtain ⟨z, hz, rfl⟩ := getElem?_map_some hu
    have HZ := Lib.hid hz
    clear hz hu
    rw [hA] at e0
    have hj0 : (0 : Int) ≤ (j : Int) := by omega
    refine sm_list [7, 8] 9 1 hs hd (by kernel_rfl) (agC e7 (agC e8 agN)) rfl ?_
    simp only [seval]
    go_wp2_with fail
    intro a H; replace hs := H.s hs; replace hd := H.d rfl; replace e7 := H.g 7 rfl rfl; replace e8 := H.g 8 rfl rfl; replace e0 := H.k e0 rfl; replace e1 := H.k e1 rfl; have e9 := H.g 9 rfl rfl; clear H; refine hKq4 _ _ ?_; clear hKq4 Kq4; refine wp_seq_k fun Kq5 hKq5 => ?_
    refine wp_cond_true (slotE e9) ?_
    clear e9; refine wp_skip ?_; refine hKq5 _ _ ?_; clear hKq5 Kq5; refine wp_seq_k fun Kq6 hKq6 => ?_; refine wp_block ?_; refine wp_seq_k fun Kq7 hKq7 => ?_
    refine sm_list [5, 8] 10 1 hs hd (by kernel_rfl) (agU (agC e8 agN)) rfl ?_
    simp only [seval]
    go_wp2_with fail
    intro a H; replace hs := H.s hs; replace hd := H.d rfl; replace e8 := H.g 8 rfl rfl; replace e0 := H.k e0 rfl; replace e1 := H.k e1 rfl; replace e7 := H.k e7 rfl; have e5 := H.g 5 rfl rfl; clear H; refine hKq7 _ _ ?_; clear hKq7 Kq7; refine wp_seq_k fun Kq8 hKq8 => ?_
    by_cases hq : z = x
    · have dq : (x == z) = true := by rw [hq]; exact beq_self_eq_true _
      have HQ := Lib.hid hq
      clear hq
      refine sm_list [0, 1, 5] 11 6 hs hd (by kernel_rfl) (agC e0 (agC e1 (agC e5 agN))) rfl ?_
      simp only [seval]
      go_wp2_with fail
      intro a H; replace hs := H.s hs; replace hd := H.d rfl; replace e0 := H.g 0 rfl rfl; replace e1 := H.g 1 rfl rfl; replace e5 := H.g 5 rfl rfl; replace e7 := H.k e7 rfl; replace e8 := H.k e8 rfl; have e16 := H.g 16 rfl rfl; clear H; refine hKq8 _ _ ?_; clear hKq8 Kq8
      refine wp_cond_true (slotE e16) ?_
      clear e16; refine wp_seq_k fun Kq9 hKq9 => ?_
      refine sm_list [4, 5] 17 1 hs hd (by kernel_rfl) (agU (agC e5 agN)) rfl ?_
      simp only [seval]
      go_wp2_with fail
      intro a H; replace hs := H.s hs; replace hd := H.d rfl; replace e5 := H.g 5 rfl rfl; replace e0 := H.k e0 rfl; replace e1 := H.k e1 rfl; replace e7 := H.k e7 rfl; replace e8 := H.k e8 rfl; have e4 := H.g 4 rfl rfl; clear H; refine hKq9 _ _ ?_; clear hKq9 Kq9; refine wp_ret ?_; refine ret_block ?_; refine exit_then rfl ?_; refine exit_then rfl ?_; refine ret_block ?_; refine exit_then rfl ?_
      exact sm_ret rfl hd e4 ⟨_, rfl, rfl, by rw [decide_eq_true (by omega)]; exact (List.contains_iff_mem.2 (HQ.out ▸ List.mem_of_getElem? HZ.out)).symm⟩
    · have dq : (x == z) = false := beq_eq_false_iff_ne.2 (fun e => hq e.symm)
      have HQ := Lib.hid hq
      clear hq
      refine sm_list [0, 1, 5] 11 6 hs hd (by kernel_rfl) (agC e0 (agC e1 (agC e5 agN))) rfl ?_
      simp only [seval]
      go_wp2_with fail
      intro a H; replace hs := H.s hs; replace hd := H.d rfl; replace e0 := H.g 0 rfl rfl; replace e1 := H.g 1 rfl rfl; replace e5 := H.g 5 rfl rfl; replace e7 := H.k e7 rfl; replace e8 := H.k e8 rfl; have e16 := H.g 16 rfl rfl; clear H; refine hKq8 _ _ ?_; clear hKq8 Kq8
      refine wp_cond_false (slotE e16) ?_
      clear e16; refine wp_skip ?_; refine hKq6 _ _ ?_; clear hKq6 Kq6
      refine sm_list [8] 18 1 hs hd (by kernel_rfl) (agC e8 agN) rfl ?_
      simp only [seval]
      go_wp2_with fail
      intro a H; replace hs := H.s hs; replace hd := H.d rfl; replace e0 := H.k e0 rfl; replace e1 := H.k e1 rfl; replace e7 := H.k e7 rfl; replace e5 := H.k e5 rfl; replace e8 := H.g 8 rfl rfl; clear H
      rw [← hA] at e0
      refine ⟨⟨j + 1, by omega, hs, hd, e0, e1, e7, e8, rfl, fun h => ?_⟩, by simp only [hm, slot e8, intOf]; omega⟩
      rw [List.take_add_one, HZ.out] at h
      rcases List.mem_append.1 h with h | h
      · exact HN.out h
      · simp at h; exact HQ.out h.symm
  · obtain rfl : j = n := by omega
    have dj : decide ((j : Int) < (j : Int)) = false := decide_eq_false (by omega)
    clear hlt hm
    refine sm_list [7, 8] 9 1 hs hd (by kernel_rfl) (agC e7 (agC e8 agN)) rfl ?_
    simp only [seval]
    go_wp2_with fail
    intro a H; replace hs := H.s hs; replace hd := H.d rfl; replace e7 := H.g 7 rfl rfl; replace e8 := H.g 8 rfl rfl; replace e0 := H.k e0 rfl; replace e1 := H.k e1 rfl; have e9 := H.g 9 rfl rfl; clear H; refine hKq4 _ _ ?_; clear hKq4 Kq4; refine wp_seq_k fun Kq5 hKq5 => ?_
    refine wp_cond_false (slotE e9) ?_
    clear e9; refine wp_exit ?_; refine exit_then rfl ?_; clear hKq5 Kq5; refine exit_then rfl ?_; refine exit_hit ?_; refine hKq2 _ _ ?_; clear hKq2 Kq2; refine wp_seq_k fun Kq6 hKq6 => ?_
    refine sm_list [] 4 1 hs hd (by kernel_rfl) agN rfl ?_
    simp only [seval]
    go_wp2_with fail
    intro a H; replace hs := H.s hs; replace hd := H.d rfl; replace e0 := H.k e0 rfl; replace e1 := H.k e1 rfl; replace e7 := H.k e7 rfl; replace e8 := H.k e8 rfl; have e4 := H.g 4 rfl rfl; clear H; refine hKq6 _ _ ?_; clear hKq6 Kq6; refine wp_ret ?_
    exact sm_ret rfl hd e4 ⟨_, rfl, rfl, by rw [decide_eq_false (by omega)]; rw [List.take_of_length_le (by rw [HL.out]; exact Nat.le_refl _)] at HN; exact (by simpa using HN.out : zs.contains x = false).symm⟩
set_option maxRecDepth 100000 in
set_option maxHeartbeats 4000000 in
theorem con_any (A : Option Addr) (n c B : Nat) (zs : List Int) (x : Int) (w : World) (hr : Reads w B 1 A n (zs.map (Value.int .i64))) (hl : zs.length = n) (hn : (n : Int) < 9223372036854775807) :
    Calls Try.prog 34 #[.slice A n c, .int .i64 x] w fun e w' => e = .returned (.bool (zs.contains x)) ∧ w' = w := by
  have HI := Lib.hid (idx_any A n c B zs x w hr hl hn)
  clear hr hl hn
  refine calls_sm (N := 9) Try.func34 rfl (by kernel_rfl) ?_
  intro a hs hd ha
  have e0 : a.tmps[0]? = some (.slice A n c) := ha 0 _ rfl
  have e1 : a.tmps[1]? = some (.int .i64 x) := ha 1 _ rfl
  clear ha
  conv => arg 2; whnf
  refine wp_seq_k fun Kq1 hKq1 => ?_
  refine sm_list [] 4 1 hs hd (by kernel_rfl) agN rfl ?_
  simp only [seval]
  go_wp2_with fail
  intro a H; replace hs := H.s hs; replace hd := H.d rfl; replace e0 := H.k e0 rfl; replace e1 := H.k e1 rfl; clear H; refine hKq1 _ _ ?_; clear hKq1 Kq1; refine wp_seq_k fun Kq2 hKq2 => ?_
  refine sm_list [0, 1] 4 5 hs hd (by kernel_rfl) (agC e0 (agC e1 agN)) rfl ?_
  simp only [seval]
  go_wp2_with fail
  refine HI.out.mono ?_
  rintro e w1 ⟨r, rfl, rfl, hq⟩
  have HQ := Lib.hid hq
  clear hq
  go_wp2_with fail
  intro a H; replace hs := H.s hs; replace hd := H.d rfl; replace e0 := H.g 0 rfl rfl; replace e1 := H.g 1 rfl rfl; have e4 := H.g 4 rfl rfl; clear H; refine hKq2 _ _ ?_; clear hKq2 Kq2; refine wp_ret ?_
  rw [HQ.out] at e4
  exact sm_ret rfl hd e4 ⟨rfl, rfl⟩
end Go.Proofs.Ytaegngcbiefckaa
