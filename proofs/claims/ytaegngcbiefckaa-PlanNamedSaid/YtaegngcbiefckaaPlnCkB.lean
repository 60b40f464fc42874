/-
  A network check.
-/
import Derived.Test.YtaegngcbiefckaaPlnCkA
namespace Go.Proofs.Ytaegngcbiefckaa
set_option linter.unusedSimpArgs false
set_option linter.unusedVariables false
open Go.RowKit Go.WideShapes Go.ChangeShapes
attribute [local go_sem ↓] Go.wp_at_zero Go.wp_at_succ

def Many (C : Cf) : Prop := 16 < C.nodes.length ∨ 64 < C.links.length ∨ 16 < C.flows.length
def Arg (C : Cf) : Prop := C.nodes.length < 2 ∨ C.cycle < 1 ∨ 1073741824 < C.cycle ∨ C.every < 1000 ∨ 1073741824 < C.every ∨ C.ppm < 0 ∨ 1000 < C.ppm ∨ C.grain < 1 ∨ 1000 < C.grain ∨ C.proc < 0 ∨ 1048576 < C.proc
theorem checkV_many {C : Cf} (h : Many C) : checkV C = 4 := by
  unfold Many at h
  unfold checkV
  rw [if_pos (by simp only [Bool.or_eq_true, decide_eq_true_eq]; omega)]
theorem badArg_iff {C : Cf} : badArg C = true ↔ Arg C := by
  unfold badArg Arg
  simp only [Bool.or_eq_true, decide_eq_true_eq]
  omega
theorem checkV_arg {C : Cf} (h : ¬ Many C) (h2 : Arg C) : checkV C = 1 := by
  unfold Many at h
  unfold checkV
  rw [if_neg (by simp only [Bool.or_eq_true, decide_eq_true_eq]; omega), if_pos (badArg_iff.2 h2)]
theorem badNode_iff {n : Nd} : badNode n = true ↔ n.ports < 0 ∨ 8 < n.ports := by
  unfold badNode
  simp only [Bool.or_eq_true, decide_eq_true_eq]
theorem checkV_node {C : Cf} (h : ¬ Many C) (h2 : ¬ Arg C) {n : Nd} (hn : n ∈ C.nodes) (hb : n.ports < 0 ∨ 8 < n.ports) : checkV C = 1 := by
  unfold Many at h
  unfold checkV
  rw [if_neg (by simp only [Bool.or_eq_true, decide_eq_true_eq]; omega), if_neg (fun e => h2 (badArg_iff.1 e)), if_pos (List.any_eq_true.2 ⟨n, hn, badNode_iff.2 hb⟩)]
theorem checkV_links {C : Cf} (h : ¬ Many C) (h2 : ¬ Arg C) (h3 : ∀ n ∈ C.nodes, ¬ (n.ports < 0 ∨ 8 < n.ports)) : checkV C = linksV C [] C.links := by
  unfold Many at h
  unfold checkV
  rw [if_neg (by simp only [Bool.or_eq_true, decide_eq_true_eq]; omega), if_neg (fun e => h2 (badArg_iff.1 e)), if_neg (fun e => by
    obtain ⟨n, hn, hb⟩ := List.any_eq_true.1 e
    exact h3 n hn (badNode_iff.1 hb))]
theorem badLink_iff {l : Lk} : badLink l = true ↔ (l.n0 = l.n1 ∨ l.lo < 0 ∨ l.hi < l.lo ∨ 1048576 < l.hi) := by
  unfold badLink
  simp only [Bool.or_eq_true, decide_eq_true_eq]
  omega
set_option maxRecDepth 100000 in
set_option maxHeartbeats 4000000 in
theorem check_any (C : Cf) (Y : Lay) (w : World) (hC : CfAt w w.heap.size C Y) :
    Calls Try.prog 19 #[.agg (cfc C Y)] w fun e w' => e = .returned (.int .i64 (checkV C)) ∧ Below w.heap.size w w' := by
  refine calls_sm (N := 174) Try.func19 rfl (by kernel_rfl) ?_
  intro a hs hd ha
  have e0 : a.tmps[0]? = some (.agg (cfc C Y)) := ha 0 _ rfl
  clear ha
  conv => arg 2; whnf
  refine wp_seq_k fun Kq1 hKq1 => ?_
  refine sm_list [0] 1 2 hs hd (by kernel_rfl) (agC e0 agN) rfl ?_
  simp only [seval]
  go_wp2_with fail
  intro a H; replace hs := H.s hs; replace hd := H.d rfl; clear e0; have e1 := H.g 1 rfl rfl; clear H; refine hKq1 _ _ ?_; clear hKq1 Kq1; refine wp_seq_k fun Kq2 hKq2 => ?_; refine wp_block ?_; refine wp_seq_k fun Kq3 hKq3 => ?_
  have BC := Blk.new w 26 (cfc C Y)
  have L0 : Below w.heap.size w (w.alloc (.cells (cfc C Y) 26)) := (Below.refl _ _).alloc (Nat.le_refl _) _
  have hz1 : w.heap.size < (w.alloc (.cells (cfc C Y) 26)).heap.size := by simp
  replace hC := (hC.below L0)
  generalize w.alloc (.cells (cfc C Y) 26) = w1 at *
  obtain ⟨g, hg⟩ : ∃ g, g = w.heap.size := ⟨_, rfl⟩
  rw [← hg] at BC hz1 hC e1 L0
  have HG := Lib.hid hg
  clear hg
  have c0 := BC.cellOf (v := .slice Y.N.A C.nodes.length Y.N.c) 0 rfl
  have c1 := BC.cellOf (v := .slice Y.L.A C.links.length Y.L.c) 1 rfl
  have c2 := BC.cellOf (v := .slice Y.F.A C.flows.length Y.F.c) 2 rfl
  have c3 := BC.cellOf (v := .int .i64 C.cycle) 3 rfl
  have c4 := BC.cellOf (v := .int .i64 C.every) 4 rfl
  have c5 := BC.cellOf (v := .int .i64 C.ppm) 5 rfl
  have c6 := BC.cellOf (v := .int .i64 C.grain) 6 rfl
  have c7 := BC.cellOf (v := .int .i64 C.proc) 7 rfl
  suffices HK : ∀ (a' : Act), a'.tmps.size = a.tmps.size → a'.defers = [] → a'.tmps[1]? = a.tmps[1]? → a'.tmps[10]? = some (.bool (decide (16 < C.nodes.length ∨ 64 < C.links.length ∨ 16 < C.flows.length))) → Kq3 a' w1 by
    refine sm_list [1] 10 17 hs hd (by kernel_rfl) (agC e1 agN) rfl ?_
    simp only [seval]
    go_wp2_with fail
    all_goals
      intro a' H
      refine HK a' H.size H.defers ((H.got rfl rfl).trans e1.symm) ?_
      · (refine (H.got (t := 10) rfl rfl).trans (congrArg some ?_); refine congrArg Value.bool ?_; first | exact (decide_eq_true (by omega)).symm | exact decide_eq_decide.2 (by omega) | (rw [Bool.eq_iff_iff]; simp only [Bool.or_eq_true, decide_eq_true_eq] <;> omega))
  intro a' g_s g_d g1 f10
  replace hs := g_s.trans hs; replace hd := g_d; replace e1 := g1.trans e1; clear g_s g_d g1
  have e10 := f10
  clear f10; clear a
  obtain ⟨a, rfl⟩ : ∃ a, a = a' := ⟨_, rfl⟩
  refine hKq3 _ _ ?_; clear hKq3 Kq3
  by_cases hb1 : 16 < C.nodes.length ∨ 64 < C.links.length ∨ 16 < C.flows.length
  · rw [decide_eq_true hb1] at e10
    refine wp_cond_true (slotE e10) ?_
    clear e10; refine wp_seq_k fun Kq4 hKq4 => ?_
    refine sm_list [] 2 1 hs hd (by kernel_rfl) agN rfl ?_
    simp only [seval]
    go_wp2_with fail
    intro a H; replace hs := H.s hs; replace hd := H.d rfl; replace e1 := H.k e1 rfl; have e2 := H.g 2 rfl rfl; clear H; refine hKq4 _ _ ?_; clear hKq4 Kq4; refine wp_ret ?_; refine ret_block ?_; refine exit_then rfl ?_
    rw [← checkV_many hb1] at e2
    exact sm_ret rfl hd e2 ⟨rfl, by rw [← HG.out]; exact L0⟩
  rw [decide_eq_false hb1] at e10
  have HB1 : Hid (¬ Many C) := Lib.hid hb1
  refine wp_cond_false (slotE e10) ?_
  clear e10; refine wp_seq_k fun Kq4 hKq4 => ?_
  suffices HK : ∀ (a' : Act), a'.tmps.size = a.tmps.size → a'.defers = [] → a'.tmps[1]? = a.tmps[1]? → a'.tmps[27]? = some (.bool (decide (C.nodes.length < 2 ∨ C.cycle < 1 ∨ 1073741824 < C.cycle ∨ C.every < 1000 ∨ 1073741824 < C.every ∨ C.ppm < 0 ∨ 1000 < C.ppm ∨ C.grain < 1 ∨ 1000 < C.grain ∨ C.proc < 0 ∨ 1048576 < C.proc))) → Kq4 a' w1 by
    refine sm_list [1] 27 55 hs hd (by kernel_rfl) (agC e1 agN) rfl ?_
    simp only [seval]
    go_wp2_with fail
    all_goals
      intro a' H
      refine HK a' H.size H.defers ((H.got rfl rfl).trans e1.symm) ?_
      · (refine (H.got (t := 27) rfl rfl).trans (congrArg some ?_); refine congrArg Value.bool ?_; first | exact (decide_eq_true (by omega)).symm | exact decide_eq_decide.2 (by omega) | (rw [Bool.eq_iff_iff]; simp only [Bool.or_eq_true, decide_eq_true_eq] <;> omega))
  intro a' g_s g_d g1 f27
  replace hs := g_s.trans hs; replace hd := g_d; replace e1 := g1.trans e1; clear g_s g_d g1
  have e27 := f27
  clear f27; clear a
  obtain ⟨a, rfl⟩ : ∃ a, a = a' := ⟨_, rfl⟩
  refine hKq4 _ _ ?_; clear hKq4 Kq4
  by_cases hb3 : C.nodes.length < 2 ∨ C.cycle < 1 ∨ 1073741824 < C.cycle ∨ C.every < 1000 ∨ 1073741824 < C.every ∨ C.ppm < 0 ∨ 1000 < C.ppm ∨ C.grain < 1 ∨ 1000 < C.grain ∨ C.proc < 0 ∨ 1048576 < C.proc
  · rw [decide_eq_true hb3] at e27
    refine wp_cond_true (slotE e27) ?_
    clear e27; refine wp_seq_k fun Kq5 hKq5 => ?_
    refine sm_list [] 2 1 hs hd (by kernel_rfl) agN rfl ?_
    simp only [seval]
    go_wp2_with fail
    intro a H; replace hs := H.s hs; replace hd := H.d rfl; replace e1 := H.k e1 rfl; have e2 := H.g 2 rfl rfl; clear H; refine hKq5 _ _ ?_; clear hKq5 Kq5; refine wp_ret ?_; refine ret_block ?_; refine exit_then rfl ?_
    rw [← checkV_arg HB1.out hb3] at e2
    exact sm_ret rfl hd e2 ⟨rfl, by rw [← HG.out]; exact L0⟩
  rw [decide_eq_false hb3] at e27
  have HB3 : Hid (¬ Arg C) := Lib.hid hb3
  have hn16 : C.nodes.length ≤ 16 := by omega
  have hl64 : C.links.length ≤ 64 := by omega
  clear hb1 hb3 c1 c2 c3 c4 c5 c6 c7
  refine wp_cond_false (slotE e27) ?_
  clear e27; refine wp_skip ?_; refine hKq2 _ _ ?_; clear hKq2 Kq2; refine wp_seq_k fun Kq5 hKq5 => ?_; refine wp_seq_k fun Kq6 hKq6 => ?_
  refine sm_list [1] 82 4 hs hd (by kernel_rfl) (agC e1 agN) rfl ?_
  simp only [seval]
  go_wp2_with fail
  intro a H; replace hs := H.s hs; replace hd := H.d rfl; replace e1 := H.g 1 rfl rfl; have e83 := H.g 83 rfl rfl; have e84 := H.g 84 rfl rfl; have e85 := H.g 85 rfl rfl; clear H; refine hKq6 _ _ ?_; clear hKq6 Kq6; refine wp_block ?_; clear c0
  refine wp_loop (fun a w' => ∃ j : Nat, j ≤ C.nodes.length ∧ a.tmps.size = 174 ∧ a.defers = [] ∧ a.tmps[1]? = some (.pointer (some ⟨g, 0, none⟩)) ∧ a.tmps[83]? = some (.slice Y.N.A C.nodes.length Y.N.c) ∧ a.tmps[84]? = some (.int .i64 (C.nodes.length : Int)) ∧ a.tmps[85]? = some (.int .i64 (j : Int)) ∧ Below (g + 1) w1 w' ∧ ∀ n ∈ C.nodes.take j, ¬ (n.ports < 0 ∨ 8 < n.ports)) (fun a _ => C.nodes.length - (intOf (a.tmps.getD 85 undef)).toNat) ?_ ?_
  · exact ⟨0, Nat.zero_le _, hs, hd, e1, e83, e84, e85, Below.refl _ _, by simp⟩
  clear hs hd e85 e1 e83 e84 a
  rintro a w3 ⟨j, hj, hs, hd, e1, e83, e84, e85, hb, hgood⟩
  have HGD := Lib.hid hgood
  clear hgood
  have hm := slot e85
  refine wp_seq_k fun Kq7 hKq7 => ?_
  by_cases hlt : j < C.nodes.length
  ·
    have dj : decide ((j : Int) < (C.nodes.length : Int)) = true := decide_eq_true (by omega)
    obtain ⟨nd, hnd⟩ : ∃ n, C.nodes[j]? = some n := ⟨_, List.getElem?_eq_getElem hlt⟩
    obtain ⟨ad, had, hadb, hcl⟩ := reads_at ndc_len (hC.nodes.below (hb.mono (Nat.le_succ g))) hnd hlt
    have HC := Lib.hid hcl
    have HE := Lib.hid hnd
    clear hcl hnd
    rw [had] at e83
    refine sm_list [84, 85] 86 1 hs hd (by kernel_rfl) (agC e84 (agC e85 agN)) rfl ?_
    simp only [seval]
    go_wp2_with fail
    intro a H; replace hs := H.s hs; replace hd := H.d rfl; replace e84 := H.g 84 rfl rfl; replace e85 := H.g 85 rfl rfl; replace e1 := H.k e1 rfl; replace e83 := H.k e83 rfl; have e86 := H.g 86 rfl rfl; clear H; refine hKq7 _ _ ?_; clear hKq7 Kq7; refine wp_seq_k fun Kq8 hKq8 => ?_
    refine wp_cond_true (slotE e86) ?_
    clear e86; refine wp_skip ?_; refine hKq8 _ _ ?_; clear hKq8 Kq8; refine wp_seq_k fun Kq9 hKq9 => ?_; refine wp_block ?_; refine wp_seq_k fun Kq10 hKq10 => ?_
    have B4 := Blk.new w3 55 (ndc nd).toArray
    have L4 := hb.alloc (by have := hb.size; omega) (.cells (ndc nd).toArray 55)
    refine sm_list [4, 83, 85] 87 2 hs hd (by kernel_rfl) (agU (agC e83 (agC e85 agN))) rfl ?_
    simp only [seval]
    go_wp2_with (first | (refine wpList_load_any_d rfl 55 (.tmp 3) rfl (ad.add (j * 2)) rfl ((ndc nd).toArray) _ (by simpa using HC.out) Try.underlying55 rfl (by kernel_rfl) ?_) | (refine wpList_store_new rfl 55 (.tmp 0) (.tmp 4) rfl rfl rfl rfl rfl (by kernel_rfl) (by rw [← Array.all_toList]; rfl) ?_) | fail)
    intro a H; replace hs := H.s hs; replace hd := H.d rfl; replace e83 := H.g 83 rfl rfl; replace e85 := H.g 85 rfl rfl; replace e1 := H.k e1 rfl; replace e84 := H.k e84 rfl; have e4 := H.g 4 rfl rfl; clear H; refine hKq10 _ _ ?_; clear hKq10 Kq10; refine wp_seq_k fun Kq11 hKq11 => ?_
    have x0 := B4.cellOf (v := .int .i64 nd.ports) 0 rfl
    generalize w3.alloc (.cells (ndc nd).toArray 55) = w4 at *
    suffices HK : ∀ (a' : Act), a'.tmps.size = a.tmps.size → a'.defers = [] → a'.tmps[1]? = a.tmps[1]? → a'.tmps[83]? = a.tmps[83]? → a'.tmps[84]? = a.tmps[84]? → a'.tmps[85]? = a.tmps[85]? → a'.tmps[4]? = a.tmps[4]? → a'.tmps[96]? = some (.bool (decide (nd.ports < 0 ∨ 8 < nd.ports))) → Kq11 a' w4 by
      refine sm_list [4] 89 8 hs hd (by kernel_rfl) (agC e4 agN) rfl ?_
      simp only [seval]
      go_wp2_with fail
      all_goals
        intro a' H
        refine HK a' H.size H.defers (H.out 1 rfl) (H.out 83 rfl) (H.out 84 rfl) (H.out 85 rfl) ((H.got rfl rfl).trans e4.symm) ?_
        · (refine (H.got (t := 96) rfl rfl).trans (congrArg some ?_); refine congrArg Value.bool ?_; first | exact (decide_eq_true (by omega)).symm | exact decide_eq_decide.2 (by omega) | (rw [Bool.eq_iff_iff]; simp only [Bool.or_eq_true, decide_eq_true_eq] <;> omega))
    intro a' g_s g_d g1 g83 g84 g85 g4 f96
    replace hs := g_s.trans hs; replace hd := g_d; replace e1 := g1.trans e1; replace e83 := g83.trans e83; replace e84 := g84.trans e84; replace e85 := g85.trans e85; replace e4 := g4.trans e4; clear g_s g_d g1 g83 g84 g85 g4
    have e96 := f96
    clear f96; clear a
    obtain ⟨a, rfl⟩ : ∃ a, a = a' := ⟨_, rfl⟩
    refine hKq11 _ _ ?_; clear hKq11 Kq11; clear e4; clear x0 B4
    by_cases hbn : nd.ports < 0 ∨ 8 < nd.ports
    · rw [decide_eq_true hbn] at e96
      refine wp_cond_true (slotE e96) ?_
      clear e96; refine wp_seq_k fun Kq12 hKq12 => ?_
      refine sm_list [] 2 1 hs hd (by kernel_rfl) agN rfl ?_
      simp only [seval]
      go_wp2_with fail
      intro a H; replace hs := H.s hs; replace hd := H.d rfl; replace e1 := H.k e1 rfl; replace e83 := H.k e83 rfl; replace e84 := H.k e84 rfl; replace e85 := H.k e85 rfl; have e2 := H.g 2 rfl rfl; clear H; refine hKq12 _ _ ?_; clear hKq12 Kq12; refine wp_ret ?_; refine ret_block ?_; refine exit_then rfl ?_; refine exit_then rfl ?_; refine ret_block ?_; refine exit_then rfl ?_
      rw [← checkV_node HB1.out HB3.out (List.mem_of_getElem? HE.out) hbn] at e2
      exact sm_ret rfl hd e2 ⟨rfl, by rw [← HG.out]; exact L0.trans (L4.mono (Nat.le_succ _))⟩
    · rw [decide_eq_false hbn] at e96
      refine wp_cond_false (slotE e96) ?_
      clear e96; refine wp_skip ?_; refine hKq9 _ _ ?_; clear hKq9 Kq9
      refine sm_list [85] 97 1 hs hd (by kernel_rfl) (agC e85 agN) rfl ?_
      simp only [seval]
      go_wp2_with fail
      intro a H; replace hs := H.s hs; replace hd := H.d rfl; replace e1 := H.k e1 rfl; replace e83 := H.k e83 rfl; replace e84 := H.k e84 rfl; replace e85 := H.g 85 rfl rfl; clear H
      rw [← had] at e83
      refine ⟨⟨j + 1, by omega, hs, hd, e1, e83, e84, e85, L4, fun n hn => ?_⟩, ?_⟩
      · rw [List.take_add_one, HE.out] at hn
        rcases List.mem_append.1 hn with hn | hn
        · exact HGD.out n hn
        · simp at hn; rw [hn]; exact hbn
      · simp only [hm, slot e85, intOf]; omega
  · obtain rfl : j = C.nodes.length := by omega
    have dj : decide ((C.nodes.length : Int) < (C.nodes.length : Int)) = false := decide_eq_false (by omega)
    clear hlt hm
    refine sm_list [84, 85] 86 1 hs hd (by kernel_rfl) (agC e84 (agC e85 agN)) rfl ?_
    simp only [seval]
    go_wp2_with fail
    intro a H; replace hs := H.s hs; replace hd := H.d rfl; replace e84 := H.g 84 rfl rfl; replace e85 := H.g 85 rfl rfl; replace e1 := H.k e1 rfl; replace e83 := H.k e83 rfl; have e86 := H.g 86 rfl rfl; clear H; refine hKq7 _ _ ?_; clear hKq7 Kq7; refine wp_seq_k fun Kq8 hKq8 => ?_
    refine wp_cond_false (slotE e86) ?_
    clear e86; refine wp_exit ?_; refine exit_then rfl ?_; clear hKq8 Kq8; refine exit_then rfl ?_; refine exit_hit ?_; refine hKq5 _ _ ?_; clear hKq5 Kq5; refine wp_seq_k fun Kq9 hKq9 => ?_; clear e83; clear e84; clear e85
    rw [List.take_length] at HGD
    have HCK := Lib.hid (checkV_links HB1.out HB3.out HGD.out)
    have HP : Hid (∀ n ∈ C.nodes, n.ports ≤ 8) := Lib.hid (fun n hn => by have := HGD.out n hn; omega)
    clear HGD HB1 HB3
    have hmk := @run_makeMap Try.prog
    refine sm_list [5] 98 1 hs hd (by kernel_rfl) (agU agN) rfl ?_
    simp only [seval]
    go_wp2_with fail
    intro a H; replace hs := H.s hs; replace hd := H.d rfl; replace e1 := H.k e1 rfl; have e5 := H.g 5 rfl rfl; clear H; refine hKq9 _ _ ?_; clear hKq9 Kq9; refine wp_seq_k fun Kq10 hKq10 => ?_; refine wp_seq_k fun Kq11 hKq11 => ?_; clear hmk
    have hE : EM Try.prog 61 (w3.alloc (.map #[] 0)) w3.heap.size 0 (fun _ => none) := EM.made w3
    have hb4 : Below (g + 1) w1 (w3.alloc (.map #[] 0)) := hb.alloc (by have := hb.size; omega) _
    have hgm : g < w3.heap.size := by have := hb.size; omega
    generalize w3.alloc (.map #[] 0) = w4 at *
    obtain ⟨gm, hgm2⟩ : ∃ gm, gm = w3.heap.size := ⟨_, rfl⟩
    rw [← hgm2] at e5 hE hgm
    have hbl4 : g + 1 ≤ gm := hgm
    clear hgm2 hb hj
    have BC4 := BC.below hb4 (Nat.lt_succ_self g)
    have hC4 := hC.below (hb4.mono (Nat.le_succ g))
    have c1 := BC4.cellOf (v := .slice Y.L.A C.links.length Y.L.c) 1 rfl
    have L4 := L0.trans (hb4.mono (Nat.le_succ g))
    clear L0 hb4 hC BC
    refine sm_list [1] 99 4 hs hd (by kernel_rfl) (agC e1 agN) rfl ?_
    simp only [seval]
    go_wp2_with fail
    intro a H; replace hs := H.s hs; replace hd := H.d rfl; replace e1 := H.g 1 rfl rfl; replace e5 := H.k e5 rfl; have e100 := H.g 100 rfl rfl; have e101 := H.g 101 rfl rfl; have e102 := H.g 102 rfl rfl; clear H; refine hKq11 _ _ ?_; clear hKq11 Kq11; refine wp_block ?_; clear c1
    refine wp_loop (fun a w' => ∃ (j m : Nat) (used : List (Int × Int)) (f : Int × Int → Option Value), j ≤ C.links.length ∧ a.tmps.size = 174 ∧ a.defers = [] ∧ a.tmps[1]? = some (.pointer (some ⟨g, 0, none⟩)) ∧ a.tmps[5]? = some (.map (some gm)) ∧ a.tmps[100]? = some (.slice Y.L.A C.links.length Y.L.c) ∧ a.tmps[101]? = some (.int .i64 (C.links.length : Int)) ∧ a.tmps[102]? = some (.int .i64 (j : Int)) ∧ Below gm w4 w' ∧ EM Try.prog 61 w' gm m f ∧ (∀ p, okE p → f p = if p ∈ used then some (.bool true) else none) ∧ m ≤ 2 * j ∧ linksV C [] C.links = linksV C used (C.links.drop j)) (fun a _ => C.links.length - (intOf (a.tmps.getD 102 undef)).toNat) ?_ ?_
    · exact ⟨0, 0, [], fun _ => none, Nat.zero_le _, hs, hd, e1, e5, e100, e101, e102, Below.refl _ _, hE, fun p hp => by simp, Nat.le_refl _, rfl⟩
    clear hs hd e102 e1 e5 e100 e101 a hE
    rintro a w5 ⟨j, m, used, f, hj, hs, hd, e1, e5, e100, e101, e102, hb, hE, hf, hm, hV⟩
    have HF := Lib.hid hf
    have HV := Lib.hid hV
    clear hf hV
    have hmm := slot e102
    refine wp_seq_k fun Kq12 hKq12 => ?_
    by_cases hlt : j < C.links.length
    ·
      have dj : decide ((j : Int) < (C.links.length : Int)) = true := decide_eq_true (by omega)
      obtain ⟨l, hl⟩ : ∃ l, C.links[j]? = some l := ⟨_, List.getElem?_eq_getElem hlt⟩
      have hC5 := hC4.below (hb.mono (by omega : g ≤ gm))
      have BC5 := BC4.below hb hgm
      obtain ⟨ad, had, hadb, hcl⟩ := reads_at lkc_len hC5.links hl hlt
      have HC := Lib.hid hcl
      have HE := Lib.hid hl
      clear hcl hl
      rw [had] at e100
      refine sm_list [101, 102] 103 1 hs hd (by kernel_rfl) (agC e101 (agC e102 agN)) rfl ?_
      simp only [seval]
      go_wp2_with fail
      intro a H; replace hs := H.s hs; replace hd := H.d rfl; replace e101 := H.g 101 rfl rfl; replace e102 := H.g 102 rfl rfl; replace e1 := H.k e1 rfl; replace e5 := H.k e5 rfl; replace e100 := H.k e100 rfl; have e103 := H.g 103 rfl rfl; clear H; refine hKq12 _ _ ?_; clear hKq12 Kq12; refine wp_seq_k fun Kq13 hKq13 => ?_
      refine wp_cond_true (slotE e103) ?_
      clear e103; refine wp_skip ?_; refine hKq13 _ _ ?_; clear hKq13 Kq13; refine wp_seq_k fun Kq14 hKq14 => ?_; refine wp_block ?_; refine wp_seq_k fun Kq15 hKq15 => ?_
      have B7 := Blk.new w5 80 (lkc l).toArray
      have hE6 := hE.alloc (.cells (lkc l).toArray 80)
      have hb6 := hb.alloc (Nat.le_trans (Nat.le_of_lt hE.lt) (Nat.le_refl _)) (.cells (lkc l).toArray 80)
      have BC6 := BC5.alloc (.cells (lkc l).toArray 80)
      have hC6 := hC5.below ((Below.refl g w5).alloc (Nat.le_of_lt BC5.lt) (.cells (lkc l).toArray 80))
      refine sm_list [7, 100, 102] 104 2 hs hd (by kernel_rfl) (agU (agC e100 (agC e102 agN))) rfl ?_
      simp only [seval]
      go_wp2_with (first | (refine wpList_load_any_d rfl 80 (.tmp 3) rfl (ad.add (j * 6)) rfl ((lkc l).toArray) _ (by simpa using HC.out) Try.underlying80 rfl (by kernel_rfl) ?_) | (refine wpList_store_new rfl 80 (.tmp 0) (.tmp 4) rfl rfl rfl rfl rfl (by kernel_rfl) (by rw [← Array.all_toList]; rfl) ?_) | fail)
      intro a H; replace hs := H.s hs; replace hd := H.d rfl; replace e100 := H.g 100 rfl rfl; replace e102 := H.g 102 rfl rfl; replace e1 := H.k e1 rfl; replace e5 := H.k e5 rfl; replace e101 := H.k e101 rfl; have e7 := H.g 7 rfl rfl; clear H; refine hKq15 _ _ ?_; clear hKq15 Kq15; refine wp_seq_k fun Kq16 hKq16 => ?_
      have hg7 : gm < w5.heap.size := hE.lt
      generalize w5.alloc (.cells (lkc l).toArray 80) = w6 at *
      obtain ⟨g7, hq7⟩ : ∃ g7, g7 = w5.heap.size := ⟨_, rfl⟩
      rw [← hq7] at B7 e7 hg7
      clear hq7 hE hb
      rw [← had] at e100
      refine ck_inner C Y g gm g7 j m l (C.links.drop (j + 1)) used f a w6 _ hs hd e1 e5 e7 e100 e101 e102 hC6 BC6 ⟨hgm, hg7⟩ B7 hE6 HF.out (by omega) hn16 HP.out ?_ ?_
      rotate_left
      · clear e1 e5 e7 e100 e101 e102 hs hd a
        intro a w7 hs hd e2 hb7 hv
        refine exit_then rfl ?_; refine ret_block ?_; refine exit_then rfl ?_; refine exit_then rfl ?_; refine ret_block ?_; refine exit_then rfl ?_
        have hv63 : checkV C = 63 := by rw [HCK.out, HV.out, List.drop_eq_getElem_cons hlt, show C.links[j] = l from by have := HE.out; rw [List.getElem?_eq_getElem hlt] at this; exact Option.some.inj this]; exact hv
        rw [← hv63] at e2
        exact sm_ret rfl hd e2 ⟨rfl, by rw [← HG.out]; exact L4.trans ((hb6.mono (by omega)).trans (hb7.mono (by omega)))⟩
      clear e1 e5 e7 e100 e101 e102 hs hd a
      intro a w7 m2 f2 used2 hs hd e1 e5 e7 e100 e101 e102 hb7 B72 hE7 hf7 hm7 hv
      have HV7 := Lib.hid hv
      have HF7 := Lib.hid hf7
      clear hv hf7 hE6 BC6 hC6; refine hKq16 _ _ ?_; clear hKq16 Kq16; refine wp_seq_k fun Kq17 hKq17 => ?_
      have x0 := B72.cellOf (v := .int .i64 l.n0) 0 rfl
      have x1 := B72.cellOf (v := .int .i64 l.p0) 1 rfl
      have x2 := B72.cellOf (v := .int .i64 l.n1) 2 rfl
      have x3 := B72.cellOf (v := .int .i64 l.p1) 3 rfl
      have x4 := B72.cellOf (v := .int .i64 l.lo) 4 rfl
      have x5 := B72.cellOf (v := .int .i64 l.hi) 5 rfl
      suffices HK : ∀ (a' : Act), a'.tmps.size = a.tmps.size → a'.defers = [] → a'.tmps[1]? = a.tmps[1]? → a'.tmps[5]? = a.tmps[5]? → a'.tmps[7]? = a.tmps[7]? → a'.tmps[100]? = a.tmps[100]? → a'.tmps[101]? = a.tmps[101]? → a'.tmps[102]? = a.tmps[102]? → a'.tmps[172]? = some (.bool (decide (l.n0 = l.n1 ∨ l.lo < 0 ∨ l.hi < l.lo ∨ 1048576 < l.hi))) → Kq17 a' w7 by
        obtain ⟨q, hq⟩ : ∃ q, (l.n0 == l.n1) = q := ⟨_, rfl⟩
        cases q
        all_goals
          refine sm_list [7] 147 26 hs hd (by kernel_rfl) (agC e7 agN) rfl ?_
          simp only [seval]
          go_wp2_with fail
          all_goals
            intro a' H
            refine HK a' H.size H.defers (H.out 1 rfl) (H.out 5 rfl) ((H.got rfl rfl).trans e7.symm) (H.out 100 rfl) (H.out 101 rfl) (H.out 102 rfl) ?_
            · (refine (H.got (t := 172) rfl rfl).trans (congrArg some ?_); refine congrArg Value.bool ?_; first | exact (decide_eq_true (by omega)).symm | exact (decide_eq_true (by have := eq_of_beq hq; omega)).symm | exact decide_eq_decide.2 (by have := ne_of_beq_false hq; omega) | (have := ne_of_beq_false hq; rw [Bool.eq_iff_iff]; simp only [Bool.or_eq_true, decide_eq_true_eq] <;> omega))
      intro a' g_s g_d g1 g5 g7 g100 g101 g102 f172
      replace hs := g_s.trans hs; replace hd := g_d; replace e1 := g1.trans e1; replace e5 := g5.trans e5; replace e7 := g7.trans e7; replace e100 := g100.trans e100; replace e101 := g101.trans e101; replace e102 := g102.trans e102; clear g_s g_d g1 g5 g7 g100 g101 g102
      have e172 := f172
      clear f172; clear a
      obtain ⟨a, rfl⟩ : ∃ a, a = a' := ⟨_, rfl⟩
      refine hKq17 _ _ ?_; clear hKq17 Kq17; clear e7; clear x0 x1 x2 x3 x4 x5 B72
      have hb8 := hb6.trans hb7
      clear hb6 hb7
      by_cases hbl : l.n0 = l.n1 ∨ l.lo < 0 ∨ l.hi < l.lo ∨ 1048576 < l.hi
      · rw [decide_eq_true hbl] at e172
        have hst : linksV C [] C.links = (if badLink l then 63 else linksV C used2 (C.links.drop (j + 1))) := by rw [HV.out, List.drop_eq_getElem_cons hlt, show C.links[j] = l from by have := HE.out; rw [List.getElem?_eq_getElem hlt] at this; exact Option.some.inj this]; exact HV7.out.symm
        rw [if_pos (badLink_iff.2 hbl)] at hst
        have HST := Lib.hid hst
        clear hst
        refine wp_cond_true (slotE e172) ?_
        clear e172; refine wp_seq_k fun Kq18 hKq18 => ?_
        refine sm_list [] 2 1 hs hd (by kernel_rfl) agN rfl ?_
        simp only [seval]
        go_wp2_with fail
        intro a H; replace hs := H.s hs; replace hd := H.d rfl; replace e1 := H.k e1 rfl; replace e5 := H.k e5 rfl; replace e100 := H.k e100 rfl; replace e101 := H.k e101 rfl; replace e102 := H.k e102 rfl; have e2 := H.g 2 rfl rfl; clear H; refine hKq18 _ _ ?_; clear hKq18 Kq18; refine wp_ret ?_; refine ret_block ?_; refine exit_then rfl ?_; refine exit_then rfl ?_; refine ret_block ?_; refine exit_then rfl ?_
        rw [← HST.out, ← HCK.out] at e2
        exact sm_ret rfl hd e2 ⟨rfl, by rw [← HG.out]; exact L4.trans (hb8.mono (by omega))⟩
      · rw [decide_eq_false hbl] at e172
        have hst : linksV C [] C.links = (if badLink l then 63 else linksV C used2 (C.links.drop (j + 1))) := by rw [HV.out, List.drop_eq_getElem_cons hlt, show C.links[j] = l from by have := HE.out; rw [List.getElem?_eq_getElem hlt] at this; exact Option.some.inj this]; exact HV7.out.symm
        rw [if_neg (fun e => hbl (badLink_iff.1 e))] at hst
        have HST := Lib.hid hst
        clear hst hbl
        refine wp_cond_false (slotE e172) ?_
        clear e172; refine wp_skip ?_; refine hKq14 _ _ ?_; clear hKq14 Kq14
        refine sm_list [102] 173 1 hs hd (by kernel_rfl) (agC e102 agN) rfl ?_
        simp only [seval]
        go_wp2_with fail
        intro a H; replace hs := H.s hs; replace hd := H.d rfl; replace e1 := H.k e1 rfl; replace e5 := H.k e5 rfl; replace e100 := H.k e100 rfl; replace e101 := H.k e101 rfl; replace e102 := H.g 102 rfl rfl; clear H
        refine ⟨⟨j + 1, m2, used2, f2, by omega, hs, hd, e1, e5, e100, e101, e102, hb8, hE7, HF7.out, by omega, HST.out⟩, ?_⟩
        simp only [hmm, slot e102, intOf]; omega
    · obtain rfl : j = C.links.length := by omega
      have dj : decide ((C.links.length : Int) < (C.links.length : Int)) = false := decide_eq_false (by omega)
      clear hlt hmm
      have h0 : checkV C = 0 := by rw [HCK.out, HV.out, List.drop_length]; rfl
      have H0 := Lib.hid h0
      clear h0
      refine sm_list [101, 102] 103 1 hs hd (by kernel_rfl) (agC e101 (agC e102 agN)) rfl ?_
      simp only [seval]
      go_wp2_with fail
      intro a H; replace hs := H.s hs; replace hd := H.d rfl; replace e101 := H.g 101 rfl rfl; replace e102 := H.g 102 rfl rfl; replace e1 := H.k e1 rfl; replace e5 := H.k e5 rfl; replace e100 := H.k e100 rfl; have e103 := H.g 103 rfl rfl; clear H; refine hKq12 _ _ ?_; clear hKq12 Kq12; refine wp_seq_k fun Kq13 hKq13 => ?_
      refine wp_cond_false (slotE e103) ?_
      clear e103; refine wp_exit ?_; refine exit_then rfl ?_; clear hKq13 Kq13; refine exit_then rfl ?_; refine exit_hit ?_; refine hKq10 _ _ ?_; clear hKq10 Kq10; refine wp_seq_k fun Kq14 hKq14 => ?_
      refine sm_list [] 2 1 hs hd (by kernel_rfl) agN rfl ?_
      simp only [seval]
      go_wp2_with fail
      intro a H; replace hs := H.s hs; replace hd := H.d rfl; replace e1 := H.k e1 rfl; replace e5 := H.k e5 rfl; replace e100 := H.k e100 rfl; replace e101 := H.k e101 rfl; replace e102 := H.k e102 rfl; have e2 := H.g 2 rfl rfl; clear H; refine hKq14 _ _ ?_; clear hKq14 Kq14; refine wp_ret ?_
      rw [← H0.out] at e2
      exact sm_ret rfl hd e2 ⟨rfl, by rw [← HG.out]; exact L4.trans (hb.mono (by omega))⟩
end Go.Proofs.Ytaegngcbiefckaa
