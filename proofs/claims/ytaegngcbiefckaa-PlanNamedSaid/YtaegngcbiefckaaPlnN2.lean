/-
  Named networks: two bridges with stations at both.
-/
import Derived.Test.YtaegngcbiefckaaPlnNp
namespace Go.Proofs.Ytaegngcbiefckaa
set_option linter.unusedSimpArgs false
set_option linter.unusedVariables false
open Go.RowKit Go.WideShapes Go.ChangeShapes
attribute [local go_sem ↓] Go.wp_at_zero Go.wp_at_succ

set_option maxRecDepth 100000 in
set_option maxHeartbeats 4000000 in
theorem named_two (n : Nat) (w : World) (hn : 2 ≤ n ∧ n ≤ 8) : Calls Try.prog 16 #[.int .i64 2, .int .i64 (n : Int)] w fun e w' => (∃ Y : Lay, e = .returned (.tuple #[.agg (cfc (fl2 n 8) Y), .int .i64 0]) ∧ CfAt w' w'.heap.size (fl2 n 8) Y) ∧ Below w.heap.size w w' := by
  obtain ⟨hn2, hn8⟩ := hn
  refine calls_sm (N := 273) Try.func16 rfl (by kernel_rfl) ?_
  intro a hs hd ha
  have e0 : a.tmps[0]? = some (.int .i64 2) := ha 0 _ rfl
  have e1 : a.tmps[1]? = some (.int .i64 (n : Int)) := ha 1 _ rfl
  clear ha
  conv => arg 2; whnf
  refine wp_seq_k fun Kq1 hKq1 => ?_
  refine sm_list [] 4 2 hs hd (by kernel_rfl) agN rfl ?_
  simp only [seval]
  go_wp2_with fail
  intro a H; replace hs := H.s hs; replace hd := H.d rfl; replace e0 := H.k e0 rfl; replace e1 := H.k e1 rfl; have e4 := H.g 4 rfl rfl; clear H; refine hKq1 _ _ ?_; clear hKq1 Kq1; refine wp_seq_k fun Kq2 hKq2 => ?_
  have B4 := Blk.new w 26 #[.slice none 0 0, .slice none 0 0, .slice none 0 0, .int .i64 0, .int .i64 0, .int .i64 0, .int .i64 0, .int .i64 0]
  have L1 : Below w.heap.size w (w.alloc (.cells #[.slice none 0 0, .slice none 0 0, .slice none 0 0, .int .i64 0, .int .i64 0, .int .i64 0, .int .i64 0, .int .i64 0] 26)) := (Below.refl _ _).alloc (Nat.le_refl _) _
  have hz1 : w.heap.size < (w.alloc (.cells #[.slice none 0 0, .slice none 0 0, .slice none 0 0, .int .i64 0, .int .i64 0, .int .i64 0, .int .i64 0, .int .i64 0] 26)).heap.size := by simp
  generalize (w.alloc (.cells #[.slice none 0 0, .slice none 0 0, .slice none 0 0, .int .i64 0, .int .i64 0, .int .i64 0, .int .i64 0, .int .i64 0] 26)) = w1 at *
  obtain ⟨g4, hg4⟩ : ∃ g, g = w.heap.size := ⟨_, rfl⟩
  rw [← hg4] at B4 hz1 L1 e4
  have HG4 := Lib.hid hg4
  clear hg4
  refine sm_list [6] 24 1 hs hd (by kernel_rfl) (agU agN) rfl ?_
  simp only [seval]
  go_wp2_with (first | (refine wpList_store_new rfl 26 (.tmp 0) (.tmp 1) rfl rfl rfl rfl rfl (by kernel_rfl) (by rw [← Array.all_toList]; rfl) ?_) | fail)
  intro a H; replace hs := H.s hs; replace hd := H.d rfl; replace e0 := H.k e0 rfl; replace e1 := H.k e1 rfl; replace e4 := H.k e4 rfl; have e6 := H.g 6 rfl rfl; clear H; refine hKq2 _ _ ?_; clear hKq2 Kq2; refine wp_seq_k fun Kq3 hKq3 => ?_
  have B6 : Blk (w1.alloc (.cells #[.slice none 0 0, .slice none 0 0, .slice none 0 0, .int .i64 4000000, .int .i64 1000000, .int .i64 50, .int .i64 8, .int .i64 1000] 26)) w1.heap.size 26 (cfc (cf0 0) ⟨⟨none, 0⟩, ⟨none, 0⟩, ⟨none, 0⟩, []⟩) := Blk.new w1 _ _
  have L2 : Below g4 w (w1.alloc (.cells #[.slice none 0 0, .slice none 0 0, .slice none 0 0, .int .i64 4000000, .int .i64 1000000, .int .i64 50, .int .i64 8, .int .i64 1000] 26)) := L1.trans ((Below.refl _ _).alloc (Nat.le_of_lt hz1) _)
  replace B4 := B4.alloc (.cells #[.slice none 0 0, .slice none 0 0, .slice none 0 0, .int .i64 4000000, .int .i64 1000000, .int .i64 50, .int .i64 8, .int .i64 1000] 26)
  obtain ⟨g6, hg6⟩ : ∃ g, g = w1.heap.size := ⟨_, rfl⟩
  rw [← hg6] at B6 hz1 e6
  generalize (w1.alloc (.cells #[.slice none 0 0, .slice none 0 0, .slice none 0 0, .int .i64 4000000, .int .i64 1000000, .int .i64 50, .int .i64 8, .int .i64 1000] 26)) = w2 at *
  clear hg6 L1
  refine sm_list [6, 7] 25 1 hs hd (by kernel_rfl) (agC e6 (agU agN)) rfl ?_
  simp only [seval]
  go_wp2_with fail
  intro a H; replace hs := H.s hs; replace hd := H.d rfl; replace e6 := H.g 6 rfl rfl; replace e0 := H.k e0 rfl; replace e1 := H.k e1 rfl; replace e4 := H.k e4 rfl; have e7 := H.g 7 rfl rfl; clear H; refine hKq3 _ _ ?_; clear hKq3 Kq3; refine wp_seq_k fun Kq4 hKq4 => ?_
  refine sm_list [6, 8] 26 1 hs hd (by kernel_rfl) (agC e6 (agU agN)) rfl ?_
  simp only [seval]
  go_wp2_with fail
  intro a H; replace hs := H.s hs; replace hd := H.d rfl; replace e6 := H.g 6 rfl rfl; replace e0 := H.k e0 rfl; replace e1 := H.k e1 rfl; replace e4 := H.k e4 rfl; replace e7 := H.k e7 rfl; have e8 := H.g 8 rfl rfl; clear H; refine hKq4 _ _ ?_; clear hKq4 Kq4; refine wp_seq_k fun Kq5 hKq5 => ?_; refine wp_block ?_; refine wp_seq_k fun Kq6 hKq6 => ?_
  have dn1 : decide (2 ≤ n) = true := decide_eq_true hn2
  have dn2 : decide (n ≤ 8) = true := decide_eq_true hn8
  have dn3 : decide ((2 : Int) ≤ (n : Int)) = true := decide_eq_true (by omega)
  have dn4 : decide ((n : Int) ≤ 8) = true := decide_eq_true (by omega)
  have dk0 : ((2 : Int) == 0) = false := rfl
  have dk1 : ((2 : Int) == 1) = false := rfl
  have dk2 : ((2 : Int) == 2) = true := rfl
  refine sm_list [0, 1] 28 11 hs hd (by kernel_rfl) (agC e0 (agC e1 agN)) rfl ?_
  simp only [seval]
  go_wp2_with fail
  intro a H; replace hs := H.s hs; replace hd := H.d rfl; replace e0 := H.g 0 rfl rfl; replace e1 := H.g 1 rfl rfl; replace e4 := H.k e4 rfl; replace e6 := H.k e6 rfl; replace e7 := H.k e7 rfl; replace e8 := H.k e8 rfl; have e28 := H.g 28 rfl rfl; clear H; refine hKq6 _ _ ?_; clear hKq6 Kq6
  refine wp_cond_false (slotE e28) ?_
  clear e28; refine wp_seq_k fun Kq7 hKq7 => ?_
  refine sm_list [0, 1] 115 11 hs hd (by kernel_rfl) (agC e0 (agC e1 agN)) rfl ?_
  simp only [seval]
  go_wp2_with fail
  intro a H; replace hs := H.s hs; replace hd := H.d rfl; replace e0 := H.g 0 rfl rfl; replace e1 := H.g 1 rfl rfl; replace e4 := H.k e4 rfl; replace e6 := H.k e6 rfl; replace e7 := H.k e7 rfl; replace e8 := H.k e8 rfl; have e115 := H.g 115 rfl rfl; clear H; refine hKq7 _ _ ?_; clear hKq7 Kq7
  refine wp_cond_false (slotE e115) ?_
  clear e115; refine wp_seq_k fun Kq8 hKq8 => ?_
  refine sm_list [0, 1] 206 11 hs hd (by kernel_rfl) (agC e0 (agC e1 agN)) rfl ?_
  simp only [seval]
  go_wp2_with fail
  intro a H; replace hs := H.s hs; replace hd := H.d rfl; replace e0 := H.g 0 rfl rfl; replace e1 := H.g 1 rfl rfl; replace e4 := H.k e4 rfl; replace e6 := H.k e6 rfl; replace e7 := H.k e7 rfl; replace e8 := H.k e8 rfl; have e206 := H.g 206 rfl rfl; clear H; refine hKq8 _ _ ?_; clear hKq8 Kq8
  refine wp_cond_true (slotE e206) ?_
  clear e206; refine wp_seq_k fun Kq9 hKq9 => ?_; clear e0; clear dn1 dn2 dn3 dn4 dk0 dk1 dk2
  have hms := fun W => mk_nodes (n + 2) ((n : Int) + 2) (by omega) (by omega) W
  obtain ⟨ar, har⟩ : ∃ ar, ar = ((List.replicate (n + 2) (⟨0, false⟩ : Nd)).flatMap ndc).toArray := ⟨_, rfl⟩
  rw [← har] at hms
  obtain ⟨hNm, hFr⟩ := Nm.made (m := n + 2) B6
  rw [← har] at hNm hFr
  have B6a := B6.alloc (.cells ar 55)
  have y0 := B6a.cellOf (v := .slice none 0 0) 0 rfl
  have yz := B6a.frozen
  have yl := B6a.lt
  have HAR := Lib.hid har
  have HN0 := Lib.hid hNm
  have HF0 := Lib.hid hFr
  obtain ⟨m, hm⟩ : ∃ m, m = n + 2 := ⟨_, rfl⟩
  rw [← hm] at hms HN0 HF0
  have HM := Lib.hid hm
  clear har hNm hFr hm B6 B6a
  refine sm_list [1, 6] 217 4 hs hd (by kernel_rfl) (agC e1 (agC e6 agN)) rfl ?_
  simp only [seval]
  go_wp2_with fail
  intro a H; replace hs := H.s hs; replace hd := H.d rfl; replace e1 := H.g 1 rfl rfl; replace e6 := H.g 6 rfl rfl; replace e4 := H.k e4 rfl; replace e7 := H.k e7 rfl; replace e8 := H.k e8 rfl; clear H; refine hKq9 _ _ ?_; clear hKq9 Kq9; refine wp_seq_k fun Kq10 hKq10 => ?_; have N0 := HN0.out; have F0 := HF0.out
  obtain ⟨gN, hgN⟩ : ∃ g, g = w2.heap.size := ⟨_, rfl⟩
  generalize ((w2.alloc (.cells ar 55)).setCell ⟨g6, 0, none⟩ (.slice (some ⟨w2.heap.size, 0, none⟩) m m)) = w3 at *
  rw [← hgN] at N0
  clear hgN hms HN0 HF0 HAR y0 yz yl
  have hc0 : (cf0 m).nodes[0]? = some ⟨0, false⟩ := by rw [cf0, List.getElem?_replicate, if_pos (by rw [HM.out]; omega)]
  have hc1 : (cf0 m).nodes[1]? = some ⟨0, false⟩ := by rw [cf0, List.getElem?_replicate, if_pos (by rw [HM.out]; omega)]
  obtain ⟨N1, F1⟩ := N0.br hc0
  have hc2 : (setBr (cf0 m) 0).nodes[1]? = some ⟨0, false⟩ := by show (brP (cf0 m).nodes 0)[1]? = _; rw [brP_some hc0, List.getElem?_set_ne (by decide)]; exact hc1
  obtain ⟨N2, F2⟩ := N1.br hc2
  have hcl : (cf0 m).nodes.length = m := by simp [cf0]
  have B6 := N0.B6
  have BN := N0.BN
  have BN1 := N1.BN
  have hltN := N0.lt
  have k1 := BN.cellOf (v := .bool false) 1 ((nodes_at hc0 1 (by omega)).trans rfl)
  have k3 := BN1.cellOf (v := .bool false) 3 ((nodes_at hc2 1 (by omega)).trans rfl)
  have fz0 := BN.frozen
  have fz1 := BN1.frozen
  have lz0 := BN.lt
  have lz1 := BN1.lt
  have HC := Lib.hid (And.intro hc0 (And.intro hc1 hc2))
  have HN2 := Lib.hid N2
  have HF2 := Lib.hid (F1.trans F2)
  clear hc0 hc1 hc2 N1 N2 F1 F2
  have hm1 : (1 : Int) < (m : Int) := by rw [HM.out]; omega
  have hm0 : (0 : Int) < (m : Int) := by omega
  have hm1n : 1 < m := by omega
  have hm0n : 0 < m := by omega
  suffices HK : ∀ (a' : Act) (w4 : World), a'.tmps.size = a.tmps.size → a'.defers = [] → a'.tmps[1]? = a.tmps[1]? → a'.tmps[4]? = a.tmps[4]? → a'.tmps[6]? = a.tmps[6]? → a'.tmps[7]? = a.tmps[7]? → a'.tmps[8]? = a.tmps[8]? → NmAt w4 g6 gN (setBr (setBr (cf0 m) 0) 1) → FrN g6 w3 w4 → Kq10 a' w4 by
    refine sm_any [6] 221 8 (by kernel_rfl) hs hd (by kernel_rfl) (agC e6 agN) rfl (any_tree [] (.take 0 (.take 1 (.take 2 (.take 3 (.take 4 (.take 5 (.one 6 (.take 7 (.take 8 (.one 9 .nil)))))))))) (fun (w' : World) => w'.heap[g6]? = w3.heap[g6]?) (by kernel_rfl) (fun _ _ _ _ _ h => h) rfl ?_)
    simp only [seval]
    have fzd : w3.drew.frozen? ⟨gN, 1, none⟩ = false := fz0 1
    have kzd : w3.drew.cell? ⟨gN, 1, none⟩ = some (.bool false) := k1
    have lzd : gN < w3.drew.heap.size := lz0
    have hS6 : (w3.drew.setCell ⟨gN, 1, none⟩ (.bool true)).heap[g6]? = w3.heap[g6]? := Below.heap_setCell _ _ _ _ (by show g6 ≠ gN; omega)
    have hS9 : ((w3.drew.setCell ⟨gN, 1, none⟩ (.bool true)).setCell ⟨gN, 3, none⟩ (.bool true)).heap[g6]? = w3.heap[g6]? := (Below.heap_setCell _ _ _ _ (by show g6 ≠ gN; omega)).trans hS6
    have fze : (w3.drew.setCell ⟨gN, 1, none⟩ (.bool true)).frozen? ⟨gN, 3, none⟩ = false := fz1 3
    have kze : (w3.drew.setCell ⟨gN, 1, none⟩ (.bool true)).cell? ⟨gN, 3, none⟩ = some (.bool false) := k3
    have lze : gN < (w3.drew.setCell ⟨gN, 1, none⟩ (.bool true)).heap.size := lz1
    obtain ⟨wd, hwd⟩ : ∃ wd, wd = w3.drew := ⟨_, rfl⟩
    rw [← hwd] at fzd kzd lzd hS6 hS9 fze kze lze ⊢
    have HWD := Lib.hid hwd
    clear hwd; clear fz0 fz1 k1 k3 lz0 lz1
    iterate 6 (first | (with_reducible (refine tr_take (v := ?_) rfl ?_ ?_ ?_); rotate_left; (first | exact wanted_none rfl | exact wanted_on rfl rfl rfl); (rintro w' u1; have v6 := Blk.of_heap u1 B6; have q0 := v6.cellOf (v := .slice (some ⟨gN, 0, none⟩) m m) 0 (by simp [cfc, hcl]); go_simp; with_reducible rfl); simp only [Act.put, List.setIfInBounds_toArray, List.set_cons_zero, List.set_cons_succ]))
    (with_reducible (refine tr_run0 (w' := ?_) rfl ?_ ?_ ?_ ?_); rotate_left; (first | exact wanted_none rfl | exact wanted_on rfl rfl rfl); (go_simp; with_reducible rfl); (exact hS6); simp only [Act.put, List.setIfInBounds_toArray, List.set_cons_zero, List.set_cons_succ])
    clear fzd kzd lzd
    obtain ⟨we, hwe⟩ : ∃ we, we = wd.setCell ⟨gN, 1, none⟩ (.bool true) := ⟨_, rfl⟩
    rw [← hwe] at hS9 fze kze lze ⊢
    have HWE := Lib.hid hwe
    clear hwe
    iterate 2 (first | (with_reducible (refine tr_take (v := ?_) rfl ?_ ?_ ?_); rotate_left; (first | exact wanted_none rfl | exact wanted_on rfl rfl rfl); (rintro w' u1; have v6 := Blk.of_heap u1 B6; have q0 := v6.cellOf (v := .slice (some ⟨gN, 0, none⟩) m m) 0 (by simp [cfc, hcl]); go_simp; with_reducible rfl); simp only [Act.put, List.setIfInBounds_toArray, List.set_cons_zero, List.set_cons_succ]))
    (with_reducible (refine tr_run0 (w' := ?_) rfl ?_ ?_ ?_ ?_); rotate_left; (first | exact wanted_none rfl | exact wanted_on rfl rfl rfl); (go_simp; with_reducible rfl); (exact hS9); simp only [Act.put, List.setIfInBounds_toArray, List.set_cons_zero, List.set_cons_succ])
    rw [HWE.out, HWD.out]
    refine tr_nil ?_
    all_goals
      intro a' H
      refine HK a' _ H.size H.defers (H.out 1 rfl) (H.out 4 rfl) ((H.got rfl rfl).trans e6.symm) (H.out 7 rfl) (H.out 8 rfl) ?_ ?_
      · exact ⟨_, HN2.out.of_heap rfl⟩
      · exact HF2.out.of_heap rfl rfl rfl rfl
  intro a' w4 g_s g_d g1 g4 g6 g7 g8 N4 F4
  replace hs := g_s.trans hs; replace hd := g_d; replace e1 := g1.trans e1; replace e4 := g4.trans e4; replace e6 := g6.trans e6; replace e7 := g7.trans e7; replace e8 := g8.trans e8; clear g_s g_d g1 g4 g6 g7 g8; clear a
  obtain ⟨a, rfl⟩ : ∃ a, a = a' := ⟨_, rfl⟩
  refine hKq10 _ _ ?_; clear hKq10 Kq10; refine wp_seq_k fun Kq11 hKq11 => ?_; refine wp_seq_k fun Kq12 hKq12 => ?_
  obtain ⟨Y4, N4⟩ := N4
  have hc4 : setBr (setBr (cf0 m) 0) 1 = lk2 n 0 := by rw [HM.out]; rfl
  rw [hc4] at N4
  have F04 := F0.trans F4
  clear hc4 F4 HN2 HF2 HC B6 BN BN1 k1 k3 fz0 fz1 lz0 lz1 hcl N0 F0 hm1 hm0 hm1n hm0n
  refine sm_list [1] 229 2 hs hd (by kernel_rfl) (agC e1 agN) rfl ?_
  simp only [seval]
  go_wp2_with fail
  intro a H; replace hs := H.s hs; replace hd := H.d rfl; replace e1 := H.g 1 rfl rfl; replace e4 := H.k e4 rfl; replace e6 := H.k e6 rfl; replace e7 := H.k e7 rfl; replace e8 := H.k e8 rfl; have e229 := H.g 229 rfl rfl; have e230 := H.g 230 rfl rfl; clear H; refine hKq12 _ _ ?_; clear hKq12 Kq12; refine wp_block ?_
  refine wp_loop (fun a w' => ∃ i : Nat, i ≤ n ∧ a.tmps.size = 273 ∧ a.defers = [] ∧ a.tmps[1]? = some (.int .i64 (n : Int)) ∧ a.tmps[4]? = some (.pointer (some ⟨g4, 0, none⟩)) ∧ a.tmps[6]? = some (.pointer (some ⟨g6, 0, none⟩)) ∧ a.tmps[7]? = some (.func (.func 27) #[] #[.pointer (some ⟨g6, 0, none⟩)]) ∧ a.tmps[8]? = some (.func (.func 28) #[] #[.pointer (some ⟨g6, 0, none⟩)]) ∧ a.tmps[229]? = some (.int .i64 (n : Int)) ∧ a.tmps[230]? = some (.int .i64 (i : Int)) ∧ FrN g6 w2 w' ∧ NmAt w' g6 gN (lk2 n i)) (fun a _ => n - (intOf (a.tmps.getD 230 undef)).toNat) ?_ ?_
  · exact ⟨0, Nat.zero_le _, hs, hd, e1, e4, e6, e7, e8, e229, e230, F04, ⟨Y4, N4⟩⟩
  clear hs hd e230 e1 e4 e6 e7 e8 e229 a N4 F04
  rintro a w5 ⟨i, hi, hs, hd, e1, e4, e6, e7, e8, e229, e230, hfr, ⟨Y5, N5⟩⟩
  have hm := slot e230
  refine wp_seq_k fun Kq13 hKq13 => ?_
  by_cases hlt : i < n
  ·
    have dj : decide ((i : Int) < (n : Int)) = true := decide_eq_true (by omega)
    have dj2 : decide (i < n) = true := decide_eq_true hlt
    obtain ⟨q1, q2, q3, q4⟩ := lk2_facts n i
    refine sm_list [229, 230] 231 1 hs hd (by kernel_rfl) (agC e229 (agC e230 agN)) rfl ?_
    simp only [seval]
    go_wp2_with fail
    intro a H; replace hs := H.s hs; replace hd := H.d rfl; replace e229 := H.g 229 rfl rfl; replace e230 := H.g 230 rfl rfl; replace e1 := H.k e1 rfl; replace e4 := H.k e4 rfl; replace e6 := H.k e6 rfl; replace e7 := H.k e7 rfl; replace e8 := H.k e8 rfl; have e231 := H.g 231 rfl rfl; clear H; refine hKq13 _ _ ?_; clear hKq13 Kq13; refine wp_seq_k fun Kq14 hKq14 => ?_
    refine wp_cond_true (slotE e231) ?_
    clear e231; refine wp_skip ?_; refine hKq14 _ _ ?_; clear hKq14 Kq14; refine wp_seq_k fun Kq15 hKq15 => ?_; refine wp_block ?_; refine wp_seq_k fun Kq16 hKq16 => ?_
    refine sm_list [20, 230] 232 1 hs hd (by kernel_rfl) (agU (agC e230 agN)) rfl ?_
    simp only [seval]
    go_wp2_with fail
    intro a H; replace hs := H.s hs; replace hd := H.d rfl; replace e230 := H.g 230 rfl rfl; replace e1 := H.k e1 rfl; replace e4 := H.k e4 rfl; replace e6 := H.k e6 rfl; replace e7 := H.k e7 rfl; replace e8 := H.k e8 rfl; replace e229 := H.k e229 rfl; have e20 := H.g 20 rfl rfl; clear H; refine hKq16 _ _ ?_; clear hKq16 Kq16; refine wp_seq_k fun Kq17 hKq17 => ?_
    have hnla := q1
    have hpba := q4
    have hll := q2
    obtain ⟨naa, hnaa⟩ : ∃ nd, (lk2 n i).nodes[2 + i]? = some nd := ⟨_, List.getElem?_eq_getElem (by rw [hnla]; omega)⟩
    obtain ⟨nba, hnba⟩ : ∃ nd, (lk2 n i).nodes[0]? = some nd := ⟨_, List.getElem?_eq_getElem (by rw [hnla]; omega)⟩
    have paa := hpba naa (List.mem_of_getElem? hnaa)
    have pba := hpba nba (List.mem_of_getElem? hnba)
    have eaa : ((2 + i : Nat) : Int) = 2 + (i : Int) := by omega
    have eba : ((0 : Nat) : Int) = 0 := by omega
    have HLa := link_any (lk2 n i) Y5 (2 + i) (0) g6 gN naa nba w5 N5 hnaa hnba (by omega) (by omega) (by omega)
    rw [eaa, eba] at HLa
    have HLHa := Lib.hid HLa
    clear HLa hnaa hnba paa pba eaa eba
    refine sm_list [7, 20] 233 4 hs hd (by kernel_rfl) (agC e7 (agC e20 agN)) rfl ?_
    simp only [seval]
    go_wp2_with fail
    refine HLHa.out.mono ?_
    rintro e w6 ⟨rfl, ⟨Yw6, Nw6⟩, Fw6⟩
    go_wp2_with fail
    intro a H; replace hs := H.s hs; replace hd := H.d rfl; replace e7 := H.g 7 rfl rfl; replace e20 := H.g 20 rfl rfl; replace e1 := H.k e1 rfl; replace e4 := H.k e4 rfl; replace e6 := H.k e6 rfl; replace e8 := H.k e8 rfl; replace e229 := H.k e229 rfl; replace e230 := H.k e230 rfl; clear H; refine hKq17 _ _ ?_; clear hKq17 Kq17; clear HLHa
    have hnlb : (addLink (lk2 n i) (2 + i) 0).nodes.length = n + 2 := by rw [addLink_nodes, q1]
    have hpbb := q4.link (a := 2 + i) (b := 0) (by omega)
    have hllb := addLink_links (lk2 n i) (2 + i) 0
    obtain ⟨nab, hnab⟩ : ∃ nd, (addLink (lk2 n i) (2 + i) 0).nodes[2 + i]? = some nd := ⟨_, List.getElem?_eq_getElem (by rw [hnlb]; omega)⟩
    obtain ⟨nbb, hnbb⟩ : ∃ nd, (addLink (lk2 n i) (2 + i) 0).nodes[1]? = some nd := ⟨_, List.getElem?_eq_getElem (by rw [hnlb]; omega)⟩
    have pab := hpbb nab (List.mem_of_getElem? hnab)
    have pbb := hpbb nbb (List.mem_of_getElem? hnbb)
    have eab : ((2 + i : Nat) : Int) = 2 + (i : Int) := by omega
    have ebb : ((1 : Nat) : Int) = 1 := by omega
    have HLb := link_any (addLink (lk2 n i) (2 + i) 0) Yw6 (2 + i) (1) g6 gN nab nbb w6 Nw6 hnab hnbb (by omega) (by omega) (by omega)
    rw [eab, ebb] at HLb
    have HLHb := Lib.hid HLb
    clear HLb hnab hnbb pab pbb eab ebb
    refine sm_list [7, 20] 237 4 hs hd (by kernel_rfl) (agC e7 (agC e20 agN)) rfl ?_
    simp only [seval]
    go_wp2_with fail
    refine HLHb.out.mono ?_
    rintro e w7 ⟨rfl, ⟨Yw7, Nw7⟩, Fw7⟩
    go_wp2_with fail
    intro a H; replace hs := H.s hs; replace hd := H.d rfl; replace e7 := H.g 7 rfl rfl; replace e20 := H.g 20 rfl rfl; replace e1 := H.k e1 rfl; replace e4 := H.k e4 rfl; replace e6 := H.k e6 rfl; replace e8 := H.k e8 rfl; replace e229 := H.k e229 rfl; replace e230 := H.k e230 rfl; clear H; refine hKq15 _ _ ?_; clear hKq15 Kq15; clear HLHb
    have hfr7 := hfr.trans (Fw6.trans Fw7)
    clear hnla hpba hll hnlb hpbb hllb q1 q2 q3 q4 Fw6 Fw7 Nw6 hfr N5; clear e20
    refine sm_list [230] 241 1 hs hd (by kernel_rfl) (agC e230 agN) rfl ?_
    simp only [seval]
    go_wp2_with fail
    intro a H; replace hs := H.s hs; replace hd := H.d rfl; replace e1 := H.k e1 rfl; replace e4 := H.k e4 rfl; replace e6 := H.k e6 rfl; replace e7 := H.k e7 rfl; replace e8 := H.k e8 rfl; replace e229 := H.k e229 rfl; replace e230 := H.g 230 rfl rfl; clear H
    exact ⟨⟨i + 1, by omega, hs, hd, e1, e4, e6, e7, e8, e229, e230, hfr7, ⟨Yw7, Nw7⟩⟩, by first | (simp only [hm, slot e230, intOf]; omega) | (simp [e230, intOf]; omega)⟩
  · obtain rfl : i = n := by omega
    have dj : decide ((i : Int) < (i : Int)) = false := decide_eq_false (by omega)
    clear hlt hm
    refine sm_list [229, 230] 231 1 hs hd (by kernel_rfl) (agC e229 (agC e230 agN)) rfl ?_
    simp only [seval]
    go_wp2_with fail
    intro a H; replace hs := H.s hs; replace hd := H.d rfl; replace e229 := H.g 229 rfl rfl; replace e230 := H.g 230 rfl rfl; replace e1 := H.k e1 rfl; replace e4 := H.k e4 rfl; replace e6 := H.k e6 rfl; replace e7 := H.k e7 rfl; replace e8 := H.k e8 rfl; have e231 := H.g 231 rfl rfl; clear H; refine hKq13 _ _ ?_; clear hKq13 Kq13; refine wp_seq_k fun Kq14 hKq14 => ?_
    refine wp_cond_false (slotE e231) ?_
    clear e231; refine wp_exit ?_; refine exit_then rfl ?_; clear hKq14 Kq14; refine exit_then rfl ?_; refine exit_hit ?_; refine hKq11 _ _ ?_; clear hKq11 Kq11; refine wp_seq_k fun Kq15 hKq15 => ?_; clear e229; clear e230
    have N50 : Nm w5 g6 gN (fl2 i 0) Y5 := N5
    refine sm_list [] 242 1 hs hd (by kernel_rfl) agN rfl ?_
    simp only [seval]
    go_wp2_with fail
    intro a H; replace hs := H.s hs; replace hd := H.d rfl; replace e1 := H.k e1 rfl; replace e4 := H.k e4 rfl; replace e6 := H.k e6 rfl; replace e7 := H.k e7 rfl; replace e8 := H.k e8 rfl; have e242 := H.g 242 rfl rfl; clear H; refine hKq15 _ _ ?_; clear hKq15 Kq15; refine wp_block ?_
    refine wp_loop (fun a w' => ∃ j : Nat, j ≤ 8 ∧ a.tmps.size = 273 ∧ a.defers = [] ∧ a.tmps[1]? = some (.int .i64 (i : Int)) ∧ a.tmps[4]? = some (.pointer (some ⟨g4, 0, none⟩)) ∧ a.tmps[6]? = some (.pointer (some ⟨g6, 0, none⟩)) ∧ a.tmps[7]? = some (.func (.func 27) #[] #[.pointer (some ⟨g6, 0, none⟩)]) ∧ a.tmps[8]? = some (.func (.func 28) #[] #[.pointer (some ⟨g6, 0, none⟩)]) ∧ a.tmps[242]? = some (.int .i64 (j : Int)) ∧ FrN g6 w2 w' ∧ NmAt w' g6 gN (fl2 i j)) (fun a _ => 8 - (intOf (a.tmps.getD 242 undef)).toNat) ?_ ?_
    · exact ⟨0, by omega, hs, hd, e1, e4, e6, e7, e8, e242, hfr, ⟨Y5, N50⟩⟩
    clear hs hd e242 e1 e4 e6 e7 e8 a N5 N50 hfr
    rintro a w6 ⟨j, hj, hs, hd, e1, e4, e6, e7, e8, e242, hfr, ⟨Y6, N6⟩⟩
    have hm := slot e242
    refine wp_seq_k fun Kq16 hKq16 => ?_
    by_cases hlt : j < 8
    ·
      have dj : decide ((j : Int) < 8) = true := decide_eq_true (by omega)
      have dj2 : decide (j < 8) = true := decide_eq_true hlt
      refine sm_list [242] 243 1 hs hd (by kernel_rfl) (agC e242 agN) rfl ?_
      simp only [seval]
      go_wp2_with fail
      intro a H; replace hs := H.s hs; replace hd := H.d rfl; replace e242 := H.g 242 rfl rfl; replace e1 := H.k e1 rfl; replace e4 := H.k e4 rfl; replace e6 := H.k e6 rfl; replace e7 := H.k e7 rfl; replace e8 := H.k e8 rfl; have e243 := H.g 243 rfl rfl; clear H; refine hKq16 _ _ ?_; clear hKq16 Kq16; refine wp_seq_k fun Kq17 hKq17 => ?_
      refine wp_cond_true (slotE e243) ?_
      clear e243; refine wp_skip ?_; refine hKq17 _ _ ?_; clear hKq17 Kq17; refine wp_seq_k fun Kq18 hKq18 => ?_; refine wp_block ?_; refine wp_seq_k fun Kq19 hKq19 => ?_
      refine sm_list [21, 242] 244 1 hs hd (by kernel_rfl) (agU (agC e242 agN)) rfl ?_
      simp only [seval]
      go_wp2_with fail
      intro a H; replace hs := H.s hs; replace hd := H.d rfl; replace e242 := H.g 242 rfl rfl; replace e1 := H.k e1 rfl; replace e4 := H.k e4 rfl; replace e6 := H.k e6 rfl; replace e7 := H.k e7 rfl; replace e8 := H.k e8 rfl; have e21 := H.g 21 rfl rfl; clear H; refine hKq19 _ _ ?_; clear hKq19 Kq19; refine wp_seq_k fun Kq20 hKq20 => ?_
      obtain ⟨p, hp⟩ : ∃ p, p = j % i := ⟨_, rfl⟩
      obtain ⟨r, hr⟩ : ∃ r, r = (j + 1) % i := ⟨_, rfl⟩
      have hpi : p < i := by rw [hp]; exact Nat.mod_lt _ (by omega)
      have hri : r < i := by rw [hr]; exact Nat.mod_lt _ (by omega)
      have hi0 : (i : Int) ≠ 0 := by omega
      have hi0n : ¬ (i = 0) := by omega
      have HPR := Lib.hid (And.intro hp hr)
      clear hp hr
      suffices HK : ∀ (a' : Act) (w7 : World), a'.tmps.size = a.tmps.size → a'.defers = [] → a'.tmps[1]? = a.tmps[1]? → a'.tmps[4]? = a.tmps[4]? → a'.tmps[6]? = a.tmps[6]? → a'.tmps[7]? = a.tmps[7]? → a'.tmps[8]? = a.tmps[8]? → a'.tmps[242]? = a.tmps[242]? → a'.tmps[21]? = a.tmps[21]? → a'.tmps[22]? = some (.int .i64 (p : Int)) → a'.tmps[23]? = some (.int .i64 (r : Int)) → Below w6.heap.size w6 w7 → Kq20 a' w7 by
        refine sm_any [1, 21, 22, 23] 245 7 (by kernel_rfl) hs hd (by kernel_rfl) (agC e1 (agC e21 (agU (agU agN)))) rfl (any_class (fun w' => Below w6.heap.size w6 w') (by kernel_rfl) ((Below.refl _ _).drew) ?_)
        simp only [seval]
        repeat (first | (with_reducible (refine wpQuiet_val (v := ?_) ?_ ?_ ?_); rotate_left; (first | exact wanted_none rfl | exact wanted_on rfl rfl rfl); (intro w' hw'; go_simp; with_reducible rfl); simp only [Act.put, List.setIfInBounds_toArray, List.set_cons_zero, List.set_cons_succ]))
        refine wpQuiet_nil ?_
        intro w7 hw7
        all_goals
          intro a' H
          refine HK a' _ H.size H.defers ((H.got rfl rfl).trans e1.symm) (H.out 4 rfl) (H.out 6 rfl) (H.out 7 rfl) (H.out 8 rfl) (H.out 242 rfl) ((H.got rfl rfl).trans e21.symm) ?_ ?_ ?_
          · (refine (H.got (t := 22) rfl rfl).trans (congrArg some ?_); refine congrArg (Value.int .i64) ?_; rw [HPR.out.1, Int.natCast_emod]; first | rfl | (rw [Int.tmod_eq_emod_of_nonneg (by omega)]; done) | skip)
          · (refine (H.got (t := 23) rfl rfl).trans (congrArg some ?_); refine congrArg (Value.int .i64) ?_; rw [HPR.out.2, Int.natCast_emod, show IntKind.i64.wrap ((j : Int) + 1) = ((j + 1 : Nat) : Int) from (wrap64 (by omega) (by omega)).trans (by omega), Int.tmod_eq_emod_of_nonneg (by omega)])
          · exact hw7
      intro a' w7 g_s g_d g1 g4 g6 g7 g8 g242 g21 f22 f23 b7
      replace hs := g_s.trans hs; replace hd := g_d; replace e1 := g1.trans e1; replace e4 := g4.trans e4; replace e6 := g6.trans e6; replace e7 := g7.trans e7; replace e8 := g8.trans e8; replace e242 := g242.trans e242; replace e21 := g21.trans e21; clear g_s g_d g1 g4 g6 g7 g8 g242 g21
      have e22 := f22
      clear f22
      have e23 := f23
      clear f23; clear a
      obtain ⟨a, rfl⟩ : ∃ a, a = a' := ⟨_, rfl⟩
      refine hKq20 _ _ ?_; clear hKq20 Kq20
      have N7 := N6.keep b7
      have L8 : Below w7.heap.size w7 ((w7.alloc (.cells #[.int .i64 (2 * (p : Int)), .int .i64 (2 * (r : Int))] 3)).alloc (.cells #[.int .i64 (2 * (p : Int) + 1), .int .i64 (2 * (r : Int) + 1)] 3)) := ((Below.refl _ _).alloc (Nat.le_refl _) _).alloc (by simp) _
      have N8 := N7.keep L8
      have hz7 : g6 + 1 ≤ w7.heap.size := N7.B6.lt
      have o0 : ((w7.alloc (.cells #[.int .i64 (2 * (p : Int)), .int .i64 (2 * (r : Int))] 3)).alloc (.cells #[.int .i64 (2 * (p : Int) + 1), .int .i64 (2 * (r : Int) + 1)] 3)).ownsRow (g6 + 1) 3 1 (.slice (some ⟨w7.heap.size, 0, none⟩) 2 2) 2 [.int .i64 (2 * (p : Int)), .int .i64 (2 * (r : Int))] := ownsRow_keep (ownsRow_new (size := 1) (n := 2) w7 (cs := #[.int .i64 (2 * (p : Int)), .int .i64 (2 * (r : Int))]) hz7 rfl (by unfold maxLen; omega)) ((Below.refl _ _).alloc (Nat.le_refl _) _)
      have o1 : ((w7.alloc (.cells #[.int .i64 (2 * (p : Int)), .int .i64 (2 * (r : Int))] 3)).alloc (.cells #[.int .i64 (2 * (p : Int) + 1), .int .i64 (2 * (r : Int) + 1)] 3)).ownsRow (g6 + 1) 3 1 (.slice (some ⟨w7.heap.size + 1, 0, none⟩) 2 2) 2 [.int .i64 (2 * (p : Int) + 1), .int .i64 (2 * (r : Int) + 1)] := by
        have h := ownsRow_new (size := 1) (n := 2) (e := 3) (w7.alloc (.cells #[.int .i64 (2 * (p : Int)), .int .i64 (2 * (r : Int))] 3)) (base := g6 + 1) (cs := #[.int .i64 (2 * (p : Int) + 1), .int .i64 (2 * (r : Int) + 1)]) (by simp; omega) rfl (by unfold maxLen; omega)
        simpa using h
      have HFL := flow_any (fl2 i j) Y6 j g6 gN (2 + (p : Int)) (2 + (r : Int)) [2 * (p : Int), 2 * (r : Int)] [2 * (p : Int) + 1, 2 * (r : Int) + 1] ⟨some ⟨w7.heap.size, 0, none⟩, 2⟩ ⟨some ⟨w7.heap.size + 1, 0, none⟩, 2⟩ ((w7.alloc (.cells #[.int .i64 (2 * (p : Int)), .int .i64 (2 * (r : Int))] 3)).alloc (.cells #[.int .i64 (2 * (p : Int) + 1), .int .i64 (2 * (r : Int) + 1)] 3)) N8 o0 o1 (by omega) (by rw [fl2_flows]; omega)
      have HFLH := Lib.hid HFL
      have hFr8 := hfr.trans ((FrN.be (g6 := g6) b7).trans (FrN.be L8))
      clear HFL o0 o1 N7 N8 L8 N6 b7 hfr
      refine sm_list [8, 21, 22, 23] 252 19 hs hd (by kernel_rfl) (agC e8 (agC e21 (agC e22 (agC e23 agN)))) rfl ?_
      simp only [seval]
      go_wp2_with fail
      refine HFLH.out.mono ?_
      rintro e w9 ⟨rfl, ⟨Y9, N9⟩, F9⟩
      go_wp2_with fail
      intro a H; replace hs := H.s hs; replace hd := H.d rfl; replace e8 := H.g 8 rfl rfl; replace e21 := H.g 21 rfl rfl; replace e22 := H.g 22 rfl rfl; replace e23 := H.g 23 rfl rfl; replace e1 := H.k e1 rfl; replace e4 := H.k e4 rfl; replace e6 := H.k e6 rfl; replace e7 := H.k e7 rfl; replace e242 := H.k e242 rfl; clear H; refine hKq18 _ _ ?_; clear hKq18 Kq18
      have hfr9 := hFr8.trans F9
      have hst : fl2 i (j + 1) = addFlow (fl2 i j) j (2 + (p : Int)) (2 + (r : Int)) [2 * (p : Int), 2 * (r : Int)] [2 * (p : Int) + 1, 2 * (r : Int) + 1] := by rw [fl2, HPR.out.1, HPR.out.2]
      rw [← hst] at N9
      clear hst HFLH F9 hFr8 hi0 hi0n; clear e21; clear e22; clear e23
      refine sm_list [242] 271 1 hs hd (by kernel_rfl) (agC e242 agN) rfl ?_
      simp only [seval]
      go_wp2_with fail
      intro a H; replace hs := H.s hs; replace hd := H.d rfl; replace e1 := H.k e1 rfl; replace e4 := H.k e4 rfl; replace e6 := H.k e6 rfl; replace e7 := H.k e7 rfl; replace e8 := H.k e8 rfl; replace e242 := H.g 242 rfl rfl; clear H
      exact ⟨⟨j + 1, by omega, hs, hd, e1, e4, e6, e7, e8, e242, hfr9, ⟨Y9, N9⟩⟩, by first | (simp only [hm, slot e242, intOf]; omega) | (simp [e242, intOf]; omega)⟩
    · obtain rfl : j = 8 := by omega
      have dj : decide (((8 : Nat) : Int) < 8) = false := rfl
      clear hlt hm
      refine sm_list [242] 243 1 hs hd (by kernel_rfl) (agC e242 agN) rfl ?_
      simp only [seval]
      go_wp2_with fail
      intro a H; replace hs := H.s hs; replace hd := H.d rfl; replace e242 := H.g 242 rfl rfl; replace e1 := H.k e1 rfl; replace e4 := H.k e4 rfl; replace e6 := H.k e6 rfl; replace e7 := H.k e7 rfl; replace e8 := H.k e8 rfl; have e243 := H.g 243 rfl rfl; clear H; refine hKq16 _ _ ?_; clear hKq16 Kq16; refine wp_seq_k fun Kq17 hKq17 => ?_
      refine wp_cond_false (slotE e243) ?_
      clear e243; refine wp_exit ?_; refine exit_then rfl ?_; clear hKq17 Kq17; refine exit_then rfl ?_; refine exit_hit ?_; refine hKq5 _ _ ?_; clear hKq5 Kq5; refine wp_seq_k fun Kq18 hKq18 => ?_
      have hz6 : g6 < w6.heap.size := N6.B6.lt
      have B4e : Blk w6 g4 26 #[.slice none 0 0, .slice none 0 0, .slice none 0 0, .int .i64 0, .int .i64 0, .int .i64 0, .int .i64 0, .int .i64 0] := (hfr.block g4 B4.lt (.inl hz1)).trans B4
      have HB4 := Lib.hid B4e
      have HB6 := Lib.hid N6.B6
      have HNN := Lib.hid N6
      have hg4z : g4 < w6.heap.size := B4e.lt
      clear B4e N6
      refine sm_list [4, 5, 6] 272 1 hs hd (by kernel_rfl) (agC e4 (agU (agC e6 agN))) rfl ?_
      simp only [seval]
      go_wp2_with (first | (refine wpList_load_any_d rfl 26 (.tmp 2) rfl ⟨g6, 0, none⟩ rfl (cfc (fl2 i 8) Y6) _ (blk_cells HB6.out) Try.underlying26 rfl (by kernel_rfl) ?_) | (refine wpList_store_part rfl 26 (.tmp 0) (.tmp 3) rfl (off := 0) rfl HB4.out rfl (by simp [cfc]) (by kernel_rfl) (by rw [← Array.all_toList]; rfl) ?_; intro wq Bq zq grq) | fail)
      intro a H; replace hs := H.s hs; replace hd := H.d rfl; replace e4 := H.g 4 rfl rfl; replace e6 := H.g 6 rfl rfl; replace e1 := H.k e1 rfl; replace e7 := H.k e7 rfl; replace e8 := H.k e8 rfl; replace e242 := H.k e242 rfl; have e5 := H.g 5 rfl rfl; clear H; refine hKq18 _ _ ?_; clear hKq18 Kq18; refine wp_ret ?_
      have Bq' : Blk wq g4 26 (cfc (fl2 i 8) Y6) := by simpa [putAll, cfc] using Bq
      have hlow : Below g4 w2 w6 := ⟨hfr.os, hfr.tape, hfr.output, hfr.size, fun k hk => hfr.block k (Nat.lt_trans hk B4.lt) (.inl (Nat.lt_trans hk hz1))⟩
      have hat : CfAt wq wq.heap.size (fl2 i 8) Y6 := HNN.out.set4 hz1 grq
      exact sm_ret_cell rfl hd e4 Bq' Try.underlying26 rfl (by kernel_rfl) e5 ⟨⟨_, rfl, hat⟩, by rw [← HG4.out]; exact (L2.trans hlow).grown grq (Nat.le_of_lt hg4z) (fun k hk => by cases hk; exact Nat.le_refl _)⟩
end Go.Proofs.Ytaegngcbiefckaa
