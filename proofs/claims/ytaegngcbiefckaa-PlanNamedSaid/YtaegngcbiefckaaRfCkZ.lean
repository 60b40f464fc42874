/-
  What the reference checks.
-/
import Derived.Test.YtaegngcbiefckaaRfCeZ
namespace Go.Proofs.Ytaegngcbiefckaa
set_option linter.unusedSimpArgs false
set_option linter.unusedVariables false
open Go.RowKit Go.WideShapes Go.ChangeShapes
attribute [local go_sem ↓] Go.wp_at_zero Go.wp_at_succ

set_option maxRecDepth 100000 in
set_option maxHeartbeats 4000000 in
theorem rcheck_any (C : Cf) (R : RL) (w : World) (hC : RfAt w w.heap.size C R) (hsz : C.nodes.length ≤ 20 ∧ C.links.length ≤ 70 ∧ C.flows.length ≤ 20) :
    Calls Try.prog 23 #[.agg (rfc C R)] w fun e w' => e = .returned (.int .i64 (checkV C)) ∧ Below w.heap.size w w' := by
  refine calls_sm (N := 182) Try.func23 rfl (by kernel_rfl) ?_
  intro a hs hd ha
  have e0 : a.tmps[0]? = some (.agg (rfc C R)) := ha 0 _ rfl
  clear ha
  conv => arg 2; whnf
  refine wp_seq_k fun Kq1 hKq1 => ?_
  refine sm_list [0] 1 2 hs hd (by kernel_rfl) (agC e0 agN) rfl ?_
  simp only [seval]
  go_wp2_with fail
  intro a H; replace hs := H.s hs; replace hd := H.d rfl; clear e0; have e1 := H.g 1 rfl rfl; have e2 := H.g 2 rfl rfl; clear H; refine hKq1 _ _ ?_; clear hKq1 Kq1; refine wp_seq_k fun Kq2 hKq2 => ?_; refine wp_seq_k fun Kq3 hKq3 => ?_
  have BC := Blk.new w 42 (rfc C R)
  have L0 : Below w.heap.size w (w.alloc (.cells (rfc C R) 42)) := (Below.refl _ _).alloc (Nat.le_refl _) _
  have hz1 : w.heap.size < (w.alloc (.cells (rfc C R) 42)).heap.size := by simp
  replace hC := (hC.below L0)
  generalize (w.alloc (.cells (rfc C R) 42)) = w1 at *
  obtain ⟨g, hg⟩ : ∃ g, g = w.heap.size := ⟨_, rfl⟩
  rw [← hg] at BC hz1 hC e1 L0
  have HG := Lib.hid hg
  clear hg
  have c0 := BC.cellOf (v := .slice R.P.A C.nodes.length R.P.c) 0 rfl
  have c2 := BC.cellOf (v := .slice R.L.A C.links.length R.L.c) 2 rfl
  have c3 := BC.cellOf (v := .slice R.F.A C.flows.length R.F.c) 3 rfl
  have c5 := BC.cellOf (v := .int .i64 C.cycle) 5 rfl
  have c6 := BC.cellOf (v := .int .i64 C.every) 6 rfl
  have c7 := BC.cellOf (v := .int .i64 C.ppm) 7 rfl
  have c8 := BC.cellOf (v := .int .i64 C.grain) 8 rfl
  have c9 := BC.cellOf (v := .int .i64 C.proc) 9 rfl
  suffices HK : ∀ (a' : Act), a'.tmps.size = a.tmps.size → a'.defers = [] → a'.tmps[1]? = a.tmps[1]? → a'.tmps[2]? = a.tmps[2]? → a'.tmps[27]? = some (.bool (decide (16 < C.nodes.length ∨ 64 < C.links.length ∨ 16 < C.flows.length))) → Kq3 a' w1 by
    refine sm_list [1] 12 16 hs hd (by kernel_rfl) (agC e1 agN) rfl ?_
    simp only [seval]
    go_wp2_with fail
    all_goals
      intro a' H
      refine HK a' H.size H.defers ((H.got rfl rfl).trans e1.symm) (H.out 2 rfl) ?_
      · (refine (H.got (t := 27) rfl rfl).trans (congrArg some ?_); refine congrArg Value.bool ?_; first | exact (decide_eq_true (by omega)).symm | exact decide_eq_decide.2 (by omega) | (rw [Bool.eq_iff_iff]; simp only [Bool.or_eq_true, decide_eq_true_eq] <;> omega))
  intro a' g_s g_d g1 g2 f27
  replace hs := g_s.trans hs; replace hd := g_d; replace e1 := g1.trans e1; replace e2 := g2.trans e2; clear g_s g_d g1 g2
  have e27 := f27
  clear f27; clear a
  obtain ⟨a, rfl⟩ : ∃ a, a = a' := ⟨_, rfl⟩
  refine hKq3 _ _ ?_; clear hKq3 Kq3
  by_cases hb1 : 16 < C.nodes.length ∨ 64 < C.links.length ∨ 16 < C.flows.length
  · rw [decide_eq_true hb1] at e27
    refine wp_cond_true (slotE e27) ?_
    clear e27; refine wp_seq_k fun Kq4 hKq4 => ?_
    refine sm_list [] 2 1 hs hd (by kernel_rfl) agN rfl ?_
    simp only [seval]
    go_wp2_with fail
    intro a H; replace hs := H.s hs; replace hd := H.d rfl; replace e1 := H.k e1 rfl; replace e2 := H.g 2 rfl rfl; clear H; refine hKq4 _ _ ?_; clear hKq4 Kq4; refine wp_ret ?_; refine exit_then rfl ?_
    rw [← checkV_many hb1] at e2
    exact sm_ret rfl hd e2 ⟨rfl, by rw [← HG.out]; exact L0⟩
  rw [decide_eq_false hb1] at e27
  have HB1 : Hid (¬ Many C) := Lib.hid hb1
  refine wp_cond_false (slotE e27) ?_
  clear e27; refine wp_skip ?_; refine hKq2 _ _ ?_; clear hKq2 Kq2; refine wp_seq_k fun Kq4 hKq4 => ?_; refine wp_seq_k fun Kq5 hKq5 => ?_
  suffices HK : ∀ (a' : Act), a'.tmps.size = a.tmps.size → a'.defers = [] → a'.tmps[1]? = a.tmps[1]? → a'.tmps[2]? = a.tmps[2]? → a'.tmps[66]? = some (.bool (decide (C.nodes.length < 2 ∨ C.cycle < 1 ∨ 1073741824 < C.cycle ∨ C.every < 1000 ∨ 1073741824 < C.every ∨ C.ppm < 0 ∨ 1000 < C.ppm ∨ C.grain < 1 ∨ 1000 < C.grain ∨ C.proc < 0 ∨ 1048576 < C.proc))) → Kq5 a' w1 by
    refine sm_list [1] 28 39 hs hd (by kernel_rfl) (agC e1 agN) rfl ?_
    simp only [seval]
    go_wp2_with fail
    iterate 5 (all_goals try (refine (between_any _ _ _ _).mono ?_; rintro e w9 ⟨rfl, hw9⟩; replace hw9 := hw9.symm; subst hw9; go_wp2_with fail))
    all_goals
      intro a' H
      refine HK a' H.size H.defers ((H.got rfl rfl).trans e1.symm) (H.out 2 rfl) ?_
      · (refine (H.got (t := 66) rfl rfl).trans (congrArg some ?_); refine congrArg Value.bool ?_; first | exact (decide_eq_true (by omega)).symm | exact decide_eq_decide.2 (by omega) | (rw [Bool.eq_iff_iff]; simp only [Bool.or_eq_true, decide_eq_true_eq] <;> omega) | (rw [Bool.eq_iff_iff]; simp only [Bool.or_eq_true, Bool.and_eq_true, Bool.not_eq_true', Bool.not_eq_eq_eq_not, Bool.not_true, Bool.not_false, Bool.and_eq_false_iff, decide_eq_true_eq, decide_eq_false_iff_not] at *; omega))
  intro a' g_s g_d g1 g2 f66
  replace hs := g_s.trans hs; replace hd := g_d; replace e1 := g1.trans e1; replace e2 := g2.trans e2; clear g_s g_d g1 g2
  have e66 := f66
  clear f66; clear a
  obtain ⟨a, rfl⟩ : ∃ a, a = a' := ⟨_, rfl⟩
  refine hKq5 _ _ ?_; clear hKq5 Kq5
  by_cases hb3 : C.nodes.length < 2 ∨ C.cycle < 1 ∨ 1073741824 < C.cycle ∨ C.every < 1000 ∨ 1073741824 < C.every ∨ C.ppm < 0 ∨ 1000 < C.ppm ∨ C.grain < 1 ∨ 1000 < C.grain ∨ C.proc < 0 ∨ 1048576 < C.proc
  · rw [decide_eq_true hb3] at e66
    refine wp_cond_true (slotE e66) ?_
    clear e66; refine wp_seq_k fun Kq6 hKq6 => ?_
    refine sm_list [] 2 1 hs hd (by kernel_rfl) agN rfl ?_
    simp only [seval]
    go_wp2_with fail
    intro a H; replace hs := H.s hs; replace hd := H.d rfl; replace e1 := H.k e1 rfl; replace e2 := H.g 2 rfl rfl; clear H; refine hKq6 _ _ ?_; clear hKq6 Kq6; refine wp_ret ?_; refine exit_then rfl ?_
    rw [← checkV_arg HB1.out hb3] at e2
    exact sm_ret rfl hd e2 ⟨rfl, by rw [← HG.out]; exact L0⟩
  rw [decide_eq_false hb3] at e66
  have HB3 : Hid (¬ Arg C) := Lib.hid hb3
  have hn16 : C.nodes.length ≤ 16 := by omega
  have hl64 : C.links.length ≤ 64 := by omega
  clear hb1 hb3 c2 c3 c5 c6 c7 c8 c9
  refine wp_cond_false (slotE e66) ?_
  clear e66; refine wp_skip ?_; refine hKq4 _ _ ?_; clear hKq4 Kq4; refine wp_seq_k fun Kq6 hKq6 => ?_; refine wp_seq_k fun Kq7 hKq7 => ?_; clear e2
  refine sm_list [1] 67 4 hs hd (by kernel_rfl) (agC e1 agN) rfl ?_
  simp only [seval]
  go_wp2_with fail
  intro a H; replace hs := H.s hs; replace hd := H.d rfl; replace e1 := H.g 1 rfl rfl; have e68 := H.g 68 rfl rfl; have e69 := H.g 69 rfl rfl; have e70 := H.g 70 rfl rfl; clear H; refine hKq7 _ _ ?_; clear hKq7 Kq7; refine wp_block ?_; clear c0
  refine wp_loop (fun a w' => ∃ j : Nat, j ≤ C.nodes.length ∧ a.tmps.size = 182 ∧ a.defers = [] ∧ a.tmps[1]? = some (.pointer (some ⟨g, 0, none⟩)) ∧ a.tmps[68]? = some (.slice R.P.A C.nodes.length R.P.c) ∧ a.tmps[69]? = some (.int .i64 (C.nodes.length : Int)) ∧ a.tmps[70]? = some (.int .i64 (j : Int)) ∧ w' = w1 ∧ ∀ n ∈ C.nodes.take j, ¬ (n.ports < 0 ∨ 8 < n.ports)) (fun a _ => C.nodes.length - (intOf (a.tmps.getD 70 undef)).toNat) ?_ ?_
  · exact ⟨0, Nat.zero_le _, hs, hd, e1, e68, e69, e70, rfl, by simp⟩
  clear hs hd e70 e1 e68 e69 a
  rintro a w3 ⟨j, hj, hs, hd, e1, e68, e69, e70, rfl, hgood⟩
  have HGD := Lib.hid hgood
  clear hgood
  have hm := slot e70
  refine wp_seq_k fun Kq8 hKq8 => ?_
  by_cases hlt : j < C.nodes.length
  ·
    have dj : decide ((j : Int) < (C.nodes.length : Int)) = true := decide_eq_true (by omega)
    obtain ⟨nd, hnd⟩ : ∃ n, C.nodes[j]? = some n := ⟨_, List.getElem?_eq_getElem hlt⟩
    obtain ⟨ad, u, had, hadb, hu, hcl⟩ := hC.ports.at_ hlt
    have hu2 : u = .int .i64 nd.ports := by rw [List.getElem?_map, hnd] at hu; exact (Option.some.inj hu).symm
    subst hu2
    have HE := Lib.hid hnd
    have HA := Lib.hid had
    clear hnd hu
    rw [HA.out] at e68
    refine sm_list [69, 70] 71 1 hs hd (by kernel_rfl) (agC e69 (agC e70 agN)) rfl ?_
    simp only [seval]
    go_wp2_with fail
    intro a H; replace hs := H.s hs; replace hd := H.d rfl; replace e69 := H.g 69 rfl rfl; replace e70 := H.g 70 rfl rfl; replace e1 := H.k e1 rfl; replace e68 := H.k e68 rfl; have e71 := H.g 71 rfl rfl; clear H; refine hKq8 _ _ ?_; clear hKq8 Kq8; refine wp_seq_k fun Kq9 hKq9 => ?_
    refine wp_cond_true (slotE e71) ?_
    clear e71; refine wp_skip ?_; refine hKq9 _ _ ?_; clear hKq9 Kq9; refine wp_seq_k fun Kq10 hKq10 => ?_; refine wp_block ?_; refine wp_seq_k fun Kq11 hKq11 => ?_
    refine sm_list [4, 68, 70] 72 2 hs hd (by kernel_rfl) (agU (agC e68 (agC e70 agN))) rfl ?_
    simp only [seval]
    go_wp2_with fail
    intro a H; replace hs := H.s hs; replace hd := H.d rfl; replace e68 := H.g 68 rfl rfl; replace e70 := H.g 70 rfl rfl; replace e1 := H.k e1 rfl; replace e69 := H.k e69 rfl; have e4 := H.g 4 rfl rfl; clear H; refine hKq11 _ _ ?_; clear hKq11 Kq11; refine wp_seq_k fun Kq12 hKq12 => ?_; clear hcl
    suffices HK : ∀ (a' : Act), a'.tmps.size = a.tmps.size → a'.defers = [] → a'.tmps[1]? = a.tmps[1]? → a'.tmps[68]? = a.tmps[68]? → a'.tmps[69]? = a.tmps[69]? → a'.tmps[70]? = a.tmps[70]? → a'.tmps[4]? = a.tmps[4]? → a'.tmps[76]? = some (.bool (decide (nd.ports < 0 ∨ 8 < nd.ports))) → Kq12 a' w3 by
      refine sm_list [4] 74 3 hs hd (by kernel_rfl) (agC e4 agN) rfl ?_
      simp only [seval]
      go_wp2_with fail
      iterate 1 (all_goals try (refine (between_any _ _ _ _).mono ?_; rintro e w9 ⟨rfl, hw9⟩; replace hw9 := hw9.symm; subst hw9; go_wp2_with fail))
      all_goals
        intro a' H
        refine HK a' H.size H.defers (H.out 1 rfl) (H.out 68 rfl) (H.out 69 rfl) (H.out 70 rfl) ((H.got rfl rfl).trans e4.symm) ?_
        · (refine (H.got (t := 76) rfl rfl).trans (congrArg some ?_); refine congrArg Value.bool ?_; first | exact (decide_eq_true (by omega)).symm | exact decide_eq_decide.2 (by omega) | (rw [Bool.eq_iff_iff]; simp only [Bool.or_eq_true, decide_eq_true_eq] <;> omega) | (rw [Bool.eq_iff_iff]; simp only [Bool.or_eq_true, Bool.and_eq_true, Bool.not_eq_true', Bool.not_eq_eq_eq_not, Bool.not_true, Bool.not_false, Bool.and_eq_false_iff, decide_eq_true_eq, decide_eq_false_iff_not] at *; omega))
    intro a' g_s g_d g1 g68 g69 g70 g4 f76
    replace hs := g_s.trans hs; replace hd := g_d; replace e1 := g1.trans e1; replace e68 := g68.trans e68; replace e69 := g69.trans e69; replace e70 := g70.trans e70; replace e4 := g4.trans e4; clear g_s g_d g1 g68 g69 g70 g4
    have e76 := f76
    clear f76; clear a
    obtain ⟨a, rfl⟩ : ∃ a, a = a' := ⟨_, rfl⟩
    refine hKq12 _ _ ?_; clear hKq12 Kq12; clear e4
    by_cases hbn : nd.ports < 0 ∨ 8 < nd.ports
    · rw [decide_eq_true hbn] at e76
      refine wp_cond_true (slotE e76) ?_
      clear e76; refine wp_seq_k fun Kq13 hKq13 => ?_
      refine sm_list [] 2 1 hs hd (by kernel_rfl) agN rfl ?_
      simp only [seval]
      go_wp2_with fail
      intro a H; replace hs := H.s hs; replace hd := H.d rfl; replace e1 := H.k e1 rfl; replace e68 := H.k e68 rfl; replace e69 := H.k e69 rfl; replace e70 := H.k e70 rfl; have e2 := H.g 2 rfl rfl; clear H; refine hKq13 _ _ ?_; clear hKq13 Kq13; refine wp_ret ?_; refine ret_block ?_; refine exit_then rfl ?_; refine exit_then rfl ?_; refine ret_block ?_; refine exit_then rfl ?_
      rw [← checkV_node HB1.out HB3.out (List.mem_of_getElem? HE.out) hbn] at e2
      exact sm_ret rfl hd e2 ⟨rfl, by rw [← HG.out]; exact L0⟩
    · rw [decide_eq_false hbn] at e76
      refine wp_cond_false (slotE e76) ?_
      clear e76; refine wp_skip ?_; refine hKq10 _ _ ?_; clear hKq10 Kq10
      refine sm_list [70] 77 1 hs hd (by kernel_rfl) (agC e70 agN) rfl ?_
      simp only [seval]
      go_wp2_with fail
      intro a H; replace hs := H.s hs; replace hd := H.d rfl; replace e1 := H.k e1 rfl; replace e68 := H.k e68 rfl; replace e69 := H.k e69 rfl; replace e70 := H.g 70 rfl rfl; clear H
      rw [← HA.out] at e68
      refine ⟨⟨j + 1, by omega, hs, hd, e1, e68, e69, e70, rfl, fun n hn => ?_⟩, ?_⟩
      · rw [List.take_add_one, HE.out] at hn
        rcases List.mem_append.1 hn with hn | hn
        · exact HGD.out n hn
        · simp at hn; rw [hn]; exact hbn
      · simp only [hm, slot e70, intOf]; omega
  · obtain rfl : j = C.nodes.length := by omega
    have dj : decide ((C.nodes.length : Int) < (C.nodes.length : Int)) = false := decide_eq_false (by omega)
    clear hlt hm
    refine sm_list [69, 70] 71 1 hs hd (by kernel_rfl) (agC e69 (agC e70 agN)) rfl ?_
    simp only [seval]
    go_wp2_with fail
    intro a H; replace hs := H.s hs; replace hd := H.d rfl; replace e69 := H.g 69 rfl rfl; replace e70 := H.g 70 rfl rfl; replace e1 := H.k e1 rfl; replace e68 := H.k e68 rfl; have e71 := H.g 71 rfl rfl; clear H; refine hKq8 _ _ ?_; clear hKq8 Kq8; refine wp_seq_k fun Kq9 hKq9 => ?_
    refine wp_cond_false (slotE e71) ?_
    clear e71; refine wp_exit ?_; refine exit_then rfl ?_; clear hKq9 Kq9; refine exit_then rfl ?_; refine exit_hit ?_; refine hKq6 _ _ ?_; clear hKq6 Kq6; refine wp_seq_k fun Kq10 hKq10 => ?_; refine wp_seq_k fun Kq11 hKq11 => ?_; clear e68; clear e69; clear e70
    rw [List.take_length] at HGD
    have HCK := Lib.hid (checkV_links HB1.out HB3.out HGD.out)
    have HP : Hid (∀ n ∈ C.nodes, n.ports ≤ 8) := Lib.hid (fun n hn => by have := HGD.out n hn; omega)
    have HP0 : Hid (∀ n ∈ C.nodes, 0 ≤ n.ports) := Lib.hid (fun n hn => by have := HGD.out n hn; omega)
    clear HGD HB1 HB3 dj hj
    have c2 := BC.cellOf (v := .slice R.L.A C.links.length R.L.c) 2 rfl
    refine sm_list [1] 78 4 hs hd (by kernel_rfl) (agC e1 agN) rfl ?_
    simp only [seval]
    go_wp2_with fail
    intro a H; replace hs := H.s hs; replace hd := H.d rfl; replace e1 := H.g 1 rfl rfl; have e79 := H.g 79 rfl rfl; have e80 := H.g 80 rfl rfl; have e81 := H.g 81 rfl rfl; clear H; refine hKq11 _ _ ?_; clear hKq11 Kq11; refine wp_block ?_; clear c2
    refine wp_loop (fun a w' => ∃ (j : Nat) (used : List (Int × Int)), j ≤ C.links.length ∧ a.tmps.size = 182 ∧ a.defers = [] ∧ a.tmps[1]? = some (.pointer (some ⟨g, 0, none⟩)) ∧ a.tmps[79]? = some (.slice R.L.A C.links.length R.L.c) ∧ a.tmps[80]? = some (.int .i64 (C.links.length : Int)) ∧ a.tmps[81]? = some (.int .i64 (j : Int)) ∧ Below (g + 1) w3 w' ∧ UsedIs C used j 0 ∧ linksV C [] C.links = linksV C used (C.links.drop j)) (fun a _ => C.links.length - (intOf (a.tmps.getD 81 undef)).toNat) ?_ ?_
    · exact ⟨0, [], Nat.zero_le _, hs, hd, e1, e79, e80, e81, Below.refl _ _, UsedIs.start, rfl⟩
    clear hs hd e81 e1 e79 e80 a
    rintro a w5 ⟨j, used, hj, hs, hd, e1, e79, e80, e81, hb, hU, hV⟩
    have HU := Lib.hid hU
    have HV := Lib.hid hV
    clear hU hV
    have hmm := slot e81
    refine wp_seq_k fun Kq12 hKq12 => ?_
    by_cases hlt : j < C.links.length
    ·
      have dj : decide ((j : Int) < (C.links.length : Int)) = true := decide_eq_true (by omega)
      obtain ⟨l, hl⟩ : ∃ l, C.links[j]? = some l := ⟨_, List.getElem?_eq_getElem hlt⟩
      have hC5 := hC.below (hb.mono (Nat.le_succ g))
      have BC5 := BC.below hb (Nat.lt_succ_self g)
      obtain ⟨ad, had, hadb, hcl⟩ := reads_at lkc_len hC5.links hl hlt
      have HC := Lib.hid hcl
      have HE := Lib.hid hl
      have HA := Lib.hid had
      clear hcl hl had
      rw [HA.out] at e79
      have hz5 : g < w5.heap.size := BC5.lt
      refine sm_list [80, 81] 82 1 hs hd (by kernel_rfl) (agC e80 (agC e81 agN)) rfl ?_
      simp only [seval]
      go_wp2_with fail
      intro a H; replace hs := H.s hs; replace hd := H.d rfl; replace e80 := H.g 80 rfl rfl; replace e81 := H.g 81 rfl rfl; replace e1 := H.k e1 rfl; replace e79 := H.k e79 rfl; have e82 := H.g 82 rfl rfl; clear H; refine hKq12 _ _ ?_; clear hKq12 Kq12; refine wp_seq_k fun Kq13 hKq13 => ?_
      refine wp_cond_true (slotE e82) ?_
      clear e82; refine wp_skip ?_; refine hKq13 _ _ ?_; clear hKq13 Kq13; refine wp_seq_k fun Kq14 hKq14 => ?_; refine wp_block ?_; refine wp_seq_k fun Kq15 hKq15 => ?_
      have B6 := Blk.new w5 96 (lkc l).toArray
      have hb6 := hb.alloc (by omega) (.cells (lkc l).toArray 96)
      have BC6 := BC5.alloc (.cells (lkc l).toArray 96)
      have hC6 := hC5.below ((Below.refl g w5).alloc (Nat.le_of_lt BC5.lt) (.cells (lkc l).toArray 96))
      refine sm_list [5, 6, 79, 81] 83 3 hs hd (by kernel_rfl) (agU (agU (agC e79 (agC e81 agN)))) rfl ?_
      simp only [seval]
      go_wp2_with (first | (refine wpList_load_any_d rfl 96 (.tmp 5) rfl (ad.add (j * 6)) rfl ((lkc l).toArray) _ (by simpa using HC.out) Try.underlying96 rfl (by kernel_rfl) ?_) | (refine wpList_store_new rfl 96 (.tmp 1) (.tmp 6) rfl rfl rfl rfl rfl (by kernel_rfl) (by rw [← Array.all_toList]; rfl) ?_) | fail)
      intro a H; replace hs := H.s hs; replace hd := H.d rfl; replace e79 := H.g 79 rfl rfl; replace e81 := H.g 81 rfl rfl; replace e1 := H.k e1 rfl; replace e80 := H.k e80 rfl; have e5 := H.g 5 rfl rfl; have e6 := H.g 6 rfl rfl; clear H; refine hKq15 _ _ ?_; clear hKq15 Kq15; refine wp_seq_k fun Kq16 hKq16 => ?_; refine wp_seq_k fun Kq17 hKq17 => ?_
      generalize w5.alloc (.cells (lkc l).toArray 96) = w6 at *
      obtain ⟨g6, hq6⟩ : ∃ g6, g6 = w5.heap.size := ⟨_, rfl⟩
      rw [← hq6] at B6 e6 hz5
      clear hq6 hb BC5 hC5
      rw [← HA.out] at e79
      have hdrop : C.links.drop j = l :: C.links.drop (j + 1) := by rw [List.drop_eq_getElem_cons hlt, show C.links[j] = l from by have := HE.out; rw [List.getElem?_eq_getElem hlt] at this; exact Option.some.inj this]
      have hv0 : linksV C [] C.links = stepV C 0 used l (C.links.drop (j + 1)) := by rw [HV.out, hdrop]; rfl
      have HV0 := Lib.hid hv0
      have HDR := Lib.hid hdrop
      clear hv0 HV hdrop
      refine sm_list [] 7 1 hs hd (by kernel_rfl) agN rfl ?_
      simp only [seval]
      go_wp2_with fail
      intro a H; replace hs := H.s hs; replace hd := H.d rfl; replace e1 := H.k e1 rfl; replace e79 := H.k e79 rfl; replace e80 := H.k e80 rfl; replace e81 := H.k e81 rfl; replace e5 := H.k e5 rfl; replace e6 := H.k e6 rfl; have e7 := H.g 7 rfl rfl; clear H; refine hKq17 _ _ ?_; clear hKq17 Kq17; refine wp_block ?_
      refine wp_loop (fun a w' => ∃ (side : Nat) (used2 : List (Int × Int)), side ≤ 2 ∧ a.tmps.size = 182 ∧ a.defers = [] ∧ a.tmps[1]? = some (.pointer (some ⟨g, 0, none⟩)) ∧ a.tmps[5]? = some (.int .i64 (j : Int)) ∧ a.tmps[6]? = some (.pointer (some ⟨g6, 0, none⟩)) ∧ a.tmps[79]? = some (.slice R.L.A C.links.length R.L.c) ∧ a.tmps[80]? = some (.int .i64 (C.links.length : Int)) ∧ a.tmps[81]? = some (.int .i64 (j : Int)) ∧ a.tmps[7]? = some (.int .i64 (side : Int)) ∧ w' = w6 ∧ Hid (((side < 2 → UsedIs C used2 j side) ∧ (side = 2 → UsedIs C used2 (j + 1) 0)) ∧ linksV C [] C.links = stepV C side used2 l (C.links.drop (j + 1)))) (fun a _ => 2 - (intOf (a.tmps.getD 7 undef)).toNat) ?_ ?_
      · exact ⟨0, used, by omega, hs, hd, e1, e5, e6, e79, e80, e81, e7, rfl, Lib.hid ⟨⟨fun _ => HU.out, fun h => by omega⟩, HV0.out⟩⟩
      clear hs hd e7 e1 e5 e6 e79 e80 e81 HU HV0
      rintro a w7 ⟨side, used2, hsl, hs, hd, e1, e5, e6, e79, e80, e81, e7, rfl, HS⟩
      have hm2 := slot e7
      refine wp_seq_k fun Kq18 hKq18 => ?_; refine wp_seq_k fun Kq19 hKq19 => ?_
      by_cases hs2 : side < 2
      ·
        have ds : decide ((side : Int) < 2) = true := decide_eq_true (by omega)
        have ds2 : decide (side < 2) = true := decide_eq_true hs2
        refine sm_list [7] 86 2 hs hd (by kernel_rfl) (agC e7 agN) rfl ?_
        simp only [seval]
        go_wp2_with fail
        intro a H; replace hs := H.s hs; replace hd := H.d rfl; replace e7 := H.g 7 rfl rfl; replace e1 := H.k e1 rfl; replace e5 := H.k e5 rfl; replace e6 := H.k e6 rfl; replace e79 := H.k e79 rfl; replace e80 := H.k e80 rfl; replace e81 := H.k e81 rfl; have e87 := H.g 87 rfl rfl; clear H; refine hKq19 _ _ ?_; clear hKq19 Kq19
        refine wp_cond_true (slotE e87) ?_
        clear e87; refine wp_skip ?_; refine hKq18 _ _ ?_; clear hKq18 Kq18; refine wp_seq_k fun Kq20 hKq20 => ?_; refine wp_block ?_; refine wp_seq_k fun Kq21 hKq21 => ?_; clear ds ds2
        obtain ⟨x, hx⟩ : ∃ x, x = endX l side := ⟨_, rfl⟩
        obtain ⟨y, hy⟩ : ∃ y, y = endY l side := ⟨_, rfl⟩
        have hxc : w7.cell? ⟨g6, 2 * side, none⟩ = some (.int .i64 x) := by
          rw [hx]
          rcases (by omega : side = 0 ∨ side = 1) with rfl | rfl
          · exact B6.cellOf (v := .int .i64 l.n0) 0 rfl
          · exact B6.cellOf (v := .int .i64 l.n1) 2 rfl
        have hyc : w7.cell? ⟨g6, 2 * side + 1, none⟩ = some (.int .i64 y) := by
          rw [hy]
          rcases (by omega : side = 0 ∨ side = 1) with rfl | rfl
          · exact B6.cellOf (v := .int .i64 l.p0) 1 rfl
          · exact B6.cellOf (v := .int .i64 l.p1) 3 rfl
        have hsI : (side : Int) < 2 := by omega
        have HXY := Lib.hid (And.intro hx hy)
        clear hx hy
        refine sm_list [6, 7, 8] 90 4 hs hd (by kernel_rfl) (agC e6 (agC e7 (agU agN))) rfl ?_
        simp only [seval]
        go_wp2_with fail
        intro a H; replace hs := H.s hs; replace hd := H.d rfl; replace e6 := H.g 6 rfl rfl; replace e7 := H.g 7 rfl rfl; replace e1 := H.k e1 rfl; replace e5 := H.k e5 rfl; replace e79 := H.k e79 rfl; replace e80 := H.k e80 rfl; replace e81 := H.k e81 rfl; have e8 := H.g 8 rfl rfl; clear H; refine hKq21 _ _ ?_; clear hKq21 Kq21; refine wp_seq_k fun Kq22 hKq22 => ?_
        refine sm_list [6, 7, 9] 94 5 hs hd (by kernel_rfl) (agC e6 (agC e7 (agU agN))) rfl ?_
        simp only [seval]
        go_wp2_with fail
        intro a H; replace hs := H.s hs; replace hd := H.d rfl; replace e6 := H.g 6 rfl rfl; replace e7 := H.g 7 rfl rfl; replace e1 := H.k e1 rfl; replace e5 := H.k e5 rfl; replace e79 := H.k e79 rfl; replace e80 := H.k e80 rfl; replace e81 := H.k e81 rfl; replace e8 := H.k e8 rfl; have e9 := H.g 9 rfl rfl; clear H; refine hKq22 _ _ ?_; clear hKq22 Kq22; refine wp_seq_k fun Kq23 hKq23 => ?_; refine wp_seq_k fun Kq24 hKq24 => ?_
        clear hxc hyc
        have c0 := BC6.cellOf (v := .slice R.P.A C.nodes.length R.P.c) 0 rfl
        have hsd : (side : Int) = 0 ∨ (side : Int) = 1 := by omega
        have HSD := Lib.hid hsd
        clear hsd
        rcases end_cases C used2 x y hn16 HP.out with ⟨hxn, hbe⟩ | ⟨_, hxn, hbe⟩ | ⟨_, _, hyn, hbe⟩ | ⟨k, nd, rfl, hnd, hk1, hk2, hy0, hcase⟩
        · have hxn2 := of_decide_eq_true hxn
          clear hxn
          have HBE := Lib.hid hbe
          clear hbe
          refine sm_list [1, 8, 9] 99 18 hs hd (by kernel_rfl) (agC e1 (agC e8 (agC e9 agN))) rfl ?_
          simp only [seval]
          go_wp2_with fail
          refine (between_no _ _ _ _ (by omega)).mono ?_
          rintro e w9 ⟨rfl, hw9⟩
          replace hw9 := hw9.symm
          subst hw9
          go_wp2_with fail
          intro a H; replace hs := H.s hs; replace hd := H.d rfl; replace e1 := H.g 1 rfl rfl; replace e8 := H.g 8 rfl rfl; replace e9 := H.g 9 rfl rfl; replace e5 := H.k e5 rfl; replace e6 := H.k e6 rfl; replace e79 := H.k e79 rfl; replace e80 := H.k e80 rfl; replace e81 := H.k e81 rfl; replace e7 := H.k e7 rfl; have e116 := H.g 116 rfl rfl; clear H; refine hKq24 _ _ ?_; clear hKq24 Kq24
          refine wp_cond_true (slotE e116) ?_
          clear e116; refine wp_seq_k fun Kq25 hKq25 => ?_
          refine sm_list [] 2 1 hs hd (by kernel_rfl) agN rfl ?_
          simp only [seval]
          go_wp2_with fail
          intro a H; replace hs := H.s hs; replace hd := H.d rfl; replace e1 := H.k e1 rfl; replace e5 := H.k e5 rfl; replace e6 := H.k e6 rfl; replace e79 := H.k e79 rfl; replace e80 := H.k e80 rfl; replace e81 := H.k e81 rfl; replace e7 := H.k e7 rfl; replace e8 := H.k e8 rfl; replace e9 := H.k e9 rfl; have e2 := H.g 2 rfl rfl; clear H; refine hKq25 _ _ ?_; clear hKq25 Kq25; refine wp_ret ?_; refine exit_then rfl ?_
          refine ret_block ?_; refine exit_then rfl ?_; refine exit_then rfl ?_; refine ret_block ?_; refine exit_then rfl ?_; refine ret_block ?_; refine exit_then rfl ?_; refine exit_then rfl ?_; refine ret_block ?_; refine exit_then rfl ?_
          have hv63 : checkV C = 63 := by rw [HCK.out, HS.out.2]; exact stepV_bad HSD.out (by rw [← HXY.out.1, ← HXY.out.2]; exact HBE.out)
          rw [← hv63] at e2
          exact sm_ret rfl hd e2 ⟨rfl, by rw [← HG.out]; exact L0.trans (hb6.mono (Nat.le_succ _))⟩
        · have hxn2 := of_decide_eq_true hxn
          clear hxn
          have HBE := Lib.hid hbe
          clear hbe
          refine sm_list [1, 8, 9] 99 18 hs hd (by kernel_rfl) (agC e1 (agC e8 (agC e9 agN))) rfl ?_
          simp only [seval]
          go_wp2_with fail
          refine (between_no _ _ _ _ (by omega)).mono ?_
          rintro e w9 ⟨rfl, hw9⟩
          replace hw9 := hw9.symm
          subst hw9
          go_wp2_with fail
          intro a H; replace hs := H.s hs; replace hd := H.d rfl; replace e1 := H.g 1 rfl rfl; replace e8 := H.g 8 rfl rfl; replace e9 := H.g 9 rfl rfl; replace e5 := H.k e5 rfl; replace e6 := H.k e6 rfl; replace e79 := H.k e79 rfl; replace e80 := H.k e80 rfl; replace e81 := H.k e81 rfl; replace e7 := H.k e7 rfl; have e116 := H.g 116 rfl rfl; clear H; refine hKq24 _ _ ?_; clear hKq24 Kq24
          refine wp_cond_true (slotE e116) ?_
          clear e116; refine wp_seq_k fun Kq25 hKq25 => ?_
          refine sm_list [] 2 1 hs hd (by kernel_rfl) agN rfl ?_
          simp only [seval]
          go_wp2_with fail
          intro a H; replace hs := H.s hs; replace hd := H.d rfl; replace e1 := H.k e1 rfl; replace e5 := H.k e5 rfl; replace e6 := H.k e6 rfl; replace e79 := H.k e79 rfl; replace e80 := H.k e80 rfl; replace e81 := H.k e81 rfl; replace e7 := H.k e7 rfl; replace e8 := H.k e8 rfl; replace e9 := H.k e9 rfl; have e2 := H.g 2 rfl rfl; clear H; refine hKq25 _ _ ?_; clear hKq25 Kq25; refine wp_ret ?_; refine exit_then rfl ?_
          refine ret_block ?_; refine exit_then rfl ?_; refine exit_then rfl ?_; refine ret_block ?_; refine exit_then rfl ?_; refine ret_block ?_; refine exit_then rfl ?_; refine exit_then rfl ?_; refine ret_block ?_; refine exit_then rfl ?_
          have hv63 : checkV C = 63 := by rw [HCK.out, HS.out.2]; exact stepV_bad HSD.out (by rw [← HXY.out.1, ← HXY.out.2]; exact HBE.out)
          rw [← hv63] at e2
          exact sm_ret rfl hd e2 ⟨rfl, by rw [← HG.out]; exact L0.trans (hb6.mono (Nat.le_succ _))⟩
        · rename_i hx1 hx2
          have hx1 := of_decide_eq_false hx1
          have hx2 := of_decide_eq_false hx2
          have hyn2 := of_decide_eq_true hyn
          obtain ⟨k, rfl⟩ := Int.eq_ofNat_of_zero_le (by omega : 0 ≤ x)
          obtain ⟨nd, hnd⟩ : ∃ nd, C.nodes[k]? = some nd := ⟨_, List.getElem?_eq_getElem (by omega)⟩
          obtain ⟨adp, u, hadp, _, hu, hcp⟩ := hC6.ports.at_ (k := k) (by omega)
          have hu2 : u = .int .i64 nd.ports := by rw [List.getElem?_map, hnd] at hu; exact (Option.some.inj hu).symm
          subst hu2
          have HAP := Lib.hid hadp
          clear hadp hu
          rw [HAP.out] at c0
          have hkI : (k : Int) < (C.nodes.length : Int) := by omega
          have hk0 : (0 : Int) ≤ (k : Int) := by omega
          have hpb : nd.ports ≤ 8 := HP.out nd (List.mem_of_getElem? hnd)
          have hpb0 : 0 ≤ nd.ports := HP0.out nd (List.mem_of_getElem? hnd)
          have hnd0 := hnd
          clear hnd; clear hyn hx1 hx2
          have HBE := Lib.hid hbe
          clear hbe
          refine sm_list [1, 8, 9] 99 18 hs hd (by kernel_rfl) (agC e1 (agC e8 (agC e9 agN))) rfl ?_
          simp only [seval]
          go_wp2_with fail
          refine (between_yes _ _ _ _ (by omega)).mono ?_
          rintro e w9 ⟨rfl, hw9⟩
          replace hw9 := hw9.symm
          subst hw9
          go_wp2_with fail
          refine (between_no _ _ _ _ (by omega)).mono ?_
          rintro e w9 ⟨rfl, hw9⟩
          replace hw9 := hw9.symm
          subst hw9
          go_wp2_with fail
          intro a H; replace hs := H.s hs; replace hd := H.d rfl; replace e1 := H.g 1 rfl rfl; replace e8 := H.g 8 rfl rfl; replace e9 := H.g 9 rfl rfl; replace e5 := H.k e5 rfl; replace e6 := H.k e6 rfl; replace e79 := H.k e79 rfl; replace e80 := H.k e80 rfl; replace e81 := H.k e81 rfl; replace e7 := H.k e7 rfl; have e116 := H.g 116 rfl rfl; clear H; refine hKq24 _ _ ?_; clear hKq24 Kq24
          refine wp_cond_true (slotE e116) ?_
          clear e116; refine wp_seq_k fun Kq25 hKq25 => ?_
          refine sm_list [] 2 1 hs hd (by kernel_rfl) agN rfl ?_
          simp only [seval]
          go_wp2_with fail
          intro a H; replace hs := H.s hs; replace hd := H.d rfl; replace e1 := H.k e1 rfl; replace e5 := H.k e5 rfl; replace e6 := H.k e6 rfl; replace e79 := H.k e79 rfl; replace e80 := H.k e80 rfl; replace e81 := H.k e81 rfl; replace e7 := H.k e7 rfl; replace e8 := H.k e8 rfl; replace e9 := H.k e9 rfl; have e2 := H.g 2 rfl rfl; clear H; refine hKq25 _ _ ?_; clear hKq25 Kq25; refine wp_ret ?_; refine exit_then rfl ?_
          refine ret_block ?_; refine exit_then rfl ?_; refine exit_then rfl ?_; refine ret_block ?_; refine exit_then rfl ?_; refine ret_block ?_; refine exit_then rfl ?_; refine exit_then rfl ?_; refine ret_block ?_; refine exit_then rfl ?_
          have hv63 : checkV C = 63 := by rw [HCK.out, HS.out.2]; exact stepV_bad HSD.out (by rw [← HXY.out.1, ← HXY.out.2]; exact HBE.out)
          rw [← hv63] at e2
          exact sm_ret rfl hd e2 ⟨rfl, by rw [← HG.out]; exact L0.trans (hb6.mono (Nat.le_succ _))⟩
        · have hk2n := of_decide_eq_false hk2
          have hy0n := of_decide_eq_false hy0
          obtain ⟨adp, u, hadp, _, hu, hcp⟩ := hC6.ports.at_ (k := k) (by omega)
          have hu2 : u = .int .i64 nd.ports := by rw [List.getElem?_map, hnd] at hu; exact (Option.some.inj hu).symm
          subst hu2
          have HAP := Lib.hid hadp
          clear hadp hu
          rw [HAP.out] at c0
          have hkI : (k : Int) < (C.nodes.length : Int) := by omega
          have hk0 : (0 : Int) ≤ (k : Int) := by omega
          have hpb : nd.ports ≤ 8 := HP.out nd (List.mem_of_getElem? hnd)
          have hpb0 : 0 ≤ nd.ports := HP0.out nd (List.mem_of_getElem? hnd)
          have hnd0 := hnd
          clear hnd; clear hk1 hk2 hy0
          rcases hcase with ⟨hp, hbe⟩ | ⟨hp, hok, hbe⟩
          · have hp2 := of_decide_eq_true hp
            clear hp
            have HBE := Lib.hid hbe
            clear hbe
            refine sm_list [1, 8, 9] 99 18 hs hd (by kernel_rfl) (agC e1 (agC e8 (agC e9 agN))) rfl ?_
            simp only [seval]
            go_wp2_with fail
            refine (between_yes _ _ _ _ (by omega)).mono ?_
            rintro e w9 ⟨rfl, hw9⟩
            replace hw9 := hw9.symm
            subst hw9
            go_wp2_with fail
            refine (between_no _ _ _ _ (by omega)).mono ?_
            rintro e w9 ⟨rfl, hw9⟩
            replace hw9 := hw9.symm
            subst hw9
            go_wp2_with fail
            intro a H; replace hs := H.s hs; replace hd := H.d rfl; replace e1 := H.g 1 rfl rfl; replace e8 := H.g 8 rfl rfl; replace e9 := H.g 9 rfl rfl; replace e5 := H.k e5 rfl; replace e6 := H.k e6 rfl; replace e79 := H.k e79 rfl; replace e80 := H.k e80 rfl; replace e81 := H.k e81 rfl; replace e7 := H.k e7 rfl; have e116 := H.g 116 rfl rfl; clear H; refine hKq24 _ _ ?_; clear hKq24 Kq24
            refine wp_cond_true (slotE e116) ?_
            clear e116; refine wp_seq_k fun Kq25 hKq25 => ?_
            refine sm_list [] 2 1 hs hd (by kernel_rfl) agN rfl ?_
            simp only [seval]
            go_wp2_with fail
            intro a H; replace hs := H.s hs; replace hd := H.d rfl; replace e1 := H.k e1 rfl; replace e5 := H.k e5 rfl; replace e6 := H.k e6 rfl; replace e79 := H.k e79 rfl; replace e80 := H.k e80 rfl; replace e81 := H.k e81 rfl; replace e7 := H.k e7 rfl; replace e8 := H.k e8 rfl; replace e9 := H.k e9 rfl; have e2 := H.g 2 rfl rfl; clear H; refine hKq25 _ _ ?_; clear hKq25 Kq25; refine wp_ret ?_; refine exit_then rfl ?_
            refine ret_block ?_; refine exit_then rfl ?_; refine exit_then rfl ?_; refine ret_block ?_; refine exit_then rfl ?_; refine ret_block ?_; refine exit_then rfl ?_; refine exit_then rfl ?_; refine ret_block ?_; refine exit_then rfl ?_
            have hv63 : checkV C = 63 := by rw [HCK.out, HS.out.2]; exact stepV_bad HSD.out (by rw [← HXY.out.1, ← HXY.out.2]; exact HBE.out)
            rw [← hv63] at e2
            exact sm_ret rfl hd e2 ⟨rfl, by rw [← HG.out]; exact L0.trans (hb6.mono (Nat.le_succ _))⟩
          · have hp2 := of_decide_eq_false hp
            clear hp hok
            have HBE := Lib.hid hbe
            clear hbe
            refine sm_list [1, 8, 9] 99 18 hs hd (by kernel_rfl) (agC e1 (agC e8 (agC e9 agN))) rfl ?_
            simp only [seval]
            go_wp2_with fail
            refine (between_yes _ _ _ _ (by omega)).mono ?_
            rintro e w9 ⟨rfl, hw9⟩
            replace hw9 := hw9.symm
            subst hw9
            go_wp2_with fail
            refine (between_yes _ _ _ _ (by omega)).mono ?_
            rintro e w9 ⟨rfl, hw9⟩
            replace hw9 := hw9.symm
            subst hw9
            go_wp2_with fail
            intro a H; replace hs := H.s hs; replace hd := H.d rfl; replace e1 := H.g 1 rfl rfl; replace e8 := H.g 8 rfl rfl; replace e9 := H.g 9 rfl rfl; replace e5 := H.k e5 rfl; replace e6 := H.k e6 rfl; replace e79 := H.k e79 rfl; replace e80 := H.k e80 rfl; replace e81 := H.k e81 rfl; replace e7 := H.k e7 rfl; have e116 := H.g 116 rfl rfl; clear H; refine hKq24 _ _ ?_; clear hKq24 Kq24
            refine wp_cond_false (slotE e116) ?_
            clear e116; refine wp_skip ?_; refine hKq23 _ _ ?_; clear hKq23 Kq23
            rw [← HAP.out] at c0
            clear c0 hcp hpb hpb0 hnd0
            refine rck_ends C R g g6 j side (k : Int) y a w7 _ hs hd e1 e5 e6 e7 e8 e9 e79 e80 e81 hC6 BC6 hlt (by omega) hs2 ?_ ?_
            · clear e1 e5 e6 e7 e8 e9 e79 e80 e81 hs hd a
              intro a k2 s2 l2 hs hd e2 hl2 hss hkj hM
              refine ret_block ?_; refine exit_then rfl ?_; refine exit_then rfl ?_; refine ret_block ?_; refine exit_then rfl ?_; refine ret_block ?_; refine exit_then rfl ?_; refine exit_then rfl ?_; refine ret_block ?_; refine exit_then rfl ?_
              have hbt : badEnd C used2 ((k : Int), y) = true := by rw [HBE.out]; exact (HS.out.1.1 hs2).some hl2 hss hkj hM
              have hv63 : checkV C = 63 := by rw [HCK.out, HS.out.2]; exact stepV_bad HSD.out (by rw [← HXY.out.1, ← HXY.out.2]; exact hbt)
              rw [← hv63] at e2
              exact sm_ret rfl hd e2 ⟨rfl, by rw [← HG.out]; exact L0.trans (hb6.mono (Nat.le_succ _))⟩
            · clear e1 e5 e6 e7 e8 e9 e79 e80 e81 hs hd a
              intro a hs hd e1 e5 e6 e7 e8 e9 e79 e80 e81 hN
              have hbf : badEnd C used2 (endX l side, endY l side) = false := by rw [← HXY.out.1, ← HXY.out.2, HBE.out]; exact (HS.out.1.1 hs2).none hN
              have HST := Lib.hid (stepV_good (r := C.links.drop (j + 1)) HSD.out hbf)
              clear hN hbf; clear e8 e9; refine hKq20 _ _ ?_; clear hKq20 Kq20
              refine sm_list [7] 88 2 hs hd (by kernel_rfl) (agC e7 agN) rfl ?_
              simp only [seval]
              go_wp2_with fail
              intro a H; replace hs := H.s hs; replace hd := H.d rfl; replace e1 := H.k e1 rfl; replace e5 := H.k e5 rfl; replace e6 := H.k e6 rfl; replace e79 := H.k e79 rfl; replace e80 := H.k e80 rfl; replace e81 := H.k e81 rfl; replace e7 := H.g 7 rfl rfl; clear H
              refine ⟨⟨side + 1, (endX l side, endY l side) :: used2, by omega, hs, hd, e1, e5, e6, e79, e80, e81, by simpa using e7, rfl, Lib.hid ⟨⟨?_, ?_⟩, ?_⟩⟩, by simp only [hm2, slot e7, intOf]; omega⟩
              · intro h
                obtain rfl : side = 0 := by omega
                exact (HS.out.1.1 hs2).one HE.out
              · intro h
                obtain rfl : side = 1 := by omega
                exact (HS.out.1.1 hs2).two HE.out
              · rw [HS.out.2, ← HST.out]; rfl
      · obtain rfl : side = 2 := by omega
        have e7b : a.tmps[7]? = some (.int .i64 2) := e7
        replace e7 := e7b
        clear e7b hs2 hm2
        have HU2 := Lib.hid (HS.out.1.2 rfl)
        refine sm_list [7] 86 2 hs hd (by kernel_rfl) (agC e7 agN) rfl ?_
        simp only [seval]
        go_wp2_with fail
        intro a H; replace hs := H.s hs; replace hd := H.d rfl; replace e7 := H.g 7 rfl rfl; replace e1 := H.k e1 rfl; replace e5 := H.k e5 rfl; replace e6 := H.k e6 rfl; replace e79 := H.k e79 rfl; replace e80 := H.k e80 rfl; replace e81 := H.k e81 rfl; have e87 := H.g 87 rfl rfl; clear H; refine hKq19 _ _ ?_; clear hKq19 Kq19
        refine wp_cond_false (slotE e87) ?_
        clear e87; refine wp_exit ?_; refine exit_then rfl ?_; clear hKq18 Kq18; refine exit_then rfl ?_; refine exit_hit ?_; refine hKq16 _ _ ?_; clear hKq16 Kq16; refine wp_seq_k fun Kq20 hKq20 => ?_; clear e7
        have x0 := B6.cellOf (v := .int .i64 l.n0) 0 rfl
        have x1 := B6.cellOf (v := .int .i64 l.p0) 1 rfl
        have x2 := B6.cellOf (v := .int .i64 l.n1) 2 rfl
        have x3 := B6.cellOf (v := .int .i64 l.p1) 3 rfl
        have x4 := B6.cellOf (v := .int .i64 l.lo) 4 rfl
        have x5 := B6.cellOf (v := .int .i64 l.hi) 5 rfl
        suffices HK : ∀ (a' : Act), a'.tmps.size = a.tmps.size → a'.defers = [] → a'.tmps[1]? = a.tmps[1]? → a'.tmps[5]? = a.tmps[5]? → a'.tmps[6]? = a.tmps[6]? → a'.tmps[79]? = a.tmps[79]? → a'.tmps[80]? = a.tmps[80]? → a'.tmps[81]? = a.tmps[81]? → a'.tmps[180]? = some (.bool (decide (l.n0 = l.n1 ∨ l.lo < 0 ∨ l.hi < l.lo ∨ 1048576 < l.hi))) → Kq20 a' w7 by
          obtain ⟨q, hq⟩ : ∃ q, (l.n0 == l.n1) = q := ⟨_, rfl⟩
          cases q
          all_goals
            refine sm_list [6] 159 22 hs hd (by kernel_rfl) (agC e6 agN) rfl ?_
            simp only [seval]
            go_wp2_with fail
            all_goals
              intro a' H
              refine HK a' H.size H.defers (H.out 1 rfl) (H.out 5 rfl) ((H.got rfl rfl).trans e6.symm) (H.out 79 rfl) (H.out 80 rfl) (H.out 81 rfl) ?_
              · (refine (H.got (t := 180) rfl rfl).trans (congrArg some ?_); refine congrArg Value.bool ?_; first | exact (decide_eq_true (by omega)).symm | exact (decide_eq_true (by have := eq_of_beq hq; omega)).symm | exact decide_eq_decide.2 (by have := ne_of_beq_false hq; omega) | (have := ne_of_beq_false hq; rw [Bool.eq_iff_iff]; simp only [Bool.or_eq_true, decide_eq_true_eq] <;> omega))
        intro a' g_s g_d g1 g5 g6 g79 g80 g81 f180
        replace hs := g_s.trans hs; replace hd := g_d; replace e1 := g1.trans e1; replace e5 := g5.trans e5; replace e6 := g6.trans e6; replace e79 := g79.trans e79; replace e80 := g80.trans e80; replace e81 := g81.trans e81; clear g_s g_d g1 g5 g6 g79 g80 g81
        have e180 := f180
        clear f180; clear a
        obtain ⟨a, rfl⟩ : ∃ a, a = a' := ⟨_, rfl⟩
        refine hKq20 _ _ ?_; clear hKq20 Kq20; clear e6; clear e5; clear x0 x1 x2 x3 x4 x5 B6
        have hst : linksV C [] C.links = (if badLink l then 63 else linksV C used2 (C.links.drop (j + 1))) := by rw [HS.out.2]; rfl
        clear HS
        by_cases hbl : l.n0 = l.n1 ∨ l.lo < 0 ∨ l.hi < l.lo ∨ 1048576 < l.hi
        · rw [decide_eq_true hbl] at e180
          rw [if_pos (badLink_iff.2 hbl)] at hst
          have HST := Lib.hid hst
          clear hst
          refine wp_cond_true (slotE e180) ?_
          clear e180; refine wp_seq_k fun Kq21 hKq21 => ?_
          refine sm_list [] 2 1 hs hd (by kernel_rfl) agN rfl ?_
          simp only [seval]
          go_wp2_with fail
          intro a H; replace hs := H.s hs; replace hd := H.d rfl; replace e1 := H.k e1 rfl; replace e79 := H.k e79 rfl; replace e80 := H.k e80 rfl; replace e81 := H.k e81 rfl; have e2 := H.g 2 rfl rfl; clear H; refine hKq21 _ _ ?_; clear hKq21 Kq21; refine wp_ret ?_; refine ret_block ?_; refine exit_then rfl ?_; refine exit_then rfl ?_; refine ret_block ?_; refine exit_then rfl ?_
          rw [← HST.out, ← HCK.out] at e2
          exact sm_ret rfl hd e2 ⟨rfl, by rw [← HG.out]; exact L0.trans (hb6.mono (Nat.le_succ _))⟩
        · rw [decide_eq_false hbl] at e180
          rw [if_neg (fun e => hbl (badLink_iff.1 e))] at hst
          have HST := Lib.hid hst
          clear hst hbl
          refine wp_cond_false (slotE e180) ?_
          clear e180; refine wp_skip ?_; refine hKq14 _ _ ?_; clear hKq14 Kq14
          refine sm_list [81] 181 1 hs hd (by kernel_rfl) (agC e81 agN) rfl ?_
          simp only [seval]
          go_wp2_with fail
          intro a H; replace hs := H.s hs; replace hd := H.d rfl; replace e1 := H.k e1 rfl; replace e79 := H.k e79 rfl; replace e80 := H.k e80 rfl; replace e81 := H.g 81 rfl rfl; clear H
          refine ⟨⟨j + 1, used2, by omega, hs, hd, e1, e79, e80, e81, hb6, HU2.out, HST.out⟩, ?_⟩
          simp only [hmm, slot e81, intOf]; omega
    · obtain rfl : j = C.links.length := by omega
      have dj : decide ((C.links.length : Int) < (C.links.length : Int)) = false := decide_eq_false (by omega)
      clear hlt hmm
      have h0 : checkV C = 0 := by rw [HCK.out, HV.out, List.drop_length]; rfl
      have H0 := Lib.hid h0
      clear h0
      refine sm_list [80, 81] 82 1 hs hd (by kernel_rfl) (agC e80 (agC e81 agN)) rfl ?_
      simp only [seval]
      go_wp2_with fail
      intro a H; replace hs := H.s hs; replace hd := H.d rfl; replace e80 := H.g 80 rfl rfl; replace e81 := H.g 81 rfl rfl; replace e1 := H.k e1 rfl; replace e79 := H.k e79 rfl; have e82 := H.g 82 rfl rfl; clear H; refine hKq12 _ _ ?_; clear hKq12 Kq12; refine wp_seq_k fun Kq13 hKq13 => ?_
      refine wp_cond_false (slotE e82) ?_
      clear e82; refine wp_exit ?_; refine exit_then rfl ?_; clear hKq13 Kq13; refine exit_then rfl ?_; refine exit_hit ?_; refine hKq10 _ _ ?_; clear hKq10 Kq10; refine wp_seq_k fun Kq14 hKq14 => ?_
      refine sm_list [] 2 1 hs hd (by kernel_rfl) agN rfl ?_
      simp only [seval]
      go_wp2_with fail
      intro a H; replace hs := H.s hs; replace hd := H.d rfl; replace e1 := H.k e1 rfl; replace e79 := H.k e79 rfl; replace e80 := H.k e80 rfl; replace e81 := H.k e81 rfl; have e2 := H.g 2 rfl rfl; clear H; refine hKq14 _ _ ?_; clear hKq14 Kq14; refine wp_ret ?_
      rw [← H0.out] at e2
      exact sm_ret rfl hd e2 ⟨rfl, by rw [← HG.out]; exact L0.trans (hb.mono (Nat.le_succ _))⟩
end Go.Proofs.Ytaegngcbiefckaa
