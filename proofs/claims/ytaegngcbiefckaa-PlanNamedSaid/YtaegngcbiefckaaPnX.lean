/-
  Networks that have no name are refused.
-/
import Derived.Test.YtaegngcbiefckaaNmX
import Derived.Test.YtaegngcbiefckaaPlnHead
import Derived.Test.YtaegngcbiefckaaRmMkZ
import Derived.Test.YtaegngcbiefckaaRfPlZ
import Derived.Test.YtaegngcbiefckaaPlnX
namespace Go.Proofs.Ytaegngcbiefckaa
set_option linter.unusedSimpArgs false
set_option linter.unusedVariables false
open Go.RowKit Go.WideShapes Go.ChangeShapes
attribute [local go_sem ↓] Go.wp_at_zero Go.wp_at_succ

/-- No network has such a name. -/
def BadName (k x : Int) : Prop := (k ≠ 0 ∧ k ≠ 1 ∧ k ≠ 2) ∨ (k = 0 ∧ x < 1) ∨ (k = 0 ∧ 6 < x) ∨ (k = 1 ∧ x < 4) ∨ (k = 1 ∧ 8 < x) ∨ (k = 2 ∧ x < 2) ∨ (k = 2 ∧ 8 < x)
theorem name_cases (k x : Int) : BadName k x ∨ (k = 0 ∧ 1 ≤ x ∧ x ≤ 6) ∨ (k = 1 ∧ 4 ≤ x ∧ x ≤ 8) ∨ (k = 2 ∧ 2 ≤ x ∧ x ≤ 8) := by
  unfold BadName
  omega
theorem bad_parts {k x : Int} (h : BadName k x) : ((k == 0) = false ∧ (k == 1) = false ∧ (k == 2) = false) ∨ (k = 0 ∧ decide (1 ≤ x) = false) ∨ (k = 0 ∧ decide (1 ≤ x) = true ∧ decide (x ≤ 6) = false) ∨ (k = 1 ∧ decide (4 ≤ x) = false) ∨ (k = 1 ∧ decide (4 ≤ x) = true ∧ decide (x ≤ 8) = false) ∨ (k = 2 ∧ decide (2 ≤ x) = false) ∨ (k = 2 ∧ decide (2 ≤ x) = true ∧ decide (x ≤ 8) = false) := by
  rcases h with h | h | h | h | h | h | h
  · exact .inl ⟨beq_eq_false_iff_ne.2 h.1, beq_eq_false_iff_ne.2 h.2.1, beq_eq_false_iff_ne.2 h.2.2⟩
  · exact .inr (.inl ⟨h.1, decide_eq_false (by omega)⟩)
  · exact .inr (.inr (.inl ⟨h.1, decide_eq_true (by omega), decide_eq_false (by omega)⟩))
  · exact .inr (.inr (.inr (.inl ⟨h.1, decide_eq_false (by omega)⟩)))
  · exact .inr (.inr (.inr (.inr (.inl ⟨h.1, decide_eq_true (by omega), decide_eq_false (by omega)⟩))))
  · exact .inr (.inr (.inr (.inr (.inr (.inl ⟨h.1, decide_eq_false (by omega)⟩)))))
  · exact .inr (.inr (.inr (.inr (.inr (.inr ⟨h.1, decide_eq_true (by omega), decide_eq_false (by omega)⟩)))))
theorem goodN_out {b s : Nat} {C : Cf} (h : goodN b s C = true) : C.flows.length = 8 ∧ brs C = b ∧ C.nodes.length = b + s ∧ C.nodes.length ≤ 20 ∧ C.links.length ≤ 70 ∧ (∀ f ∈ C.flows, f.w0.length ≤ 16 ∧ f.w1.length ≤ 16 ∧ ∀ a ∈ f.w0, a ∉ f.w1) ∧ ∃ S W, makeV C = .ok (S, W) ∧ W.length = 8 := by
  unfold goodN at h
  simp only [Bool.and_eq_true, decide_eq_true_eq, List.all_eq_true, Bool.not_eq_true'] at h
  obtain ⟨⟨⟨⟨⟨⟨h1, h2⟩, h3⟩, h4⟩, h5⟩, h6⟩, h7⟩ := h
  refine ⟨h1, h2, h3, h4, h5, fun f hf => ?_, ?_⟩
  · obtain ⟨⟨h8, h9⟩, h10⟩ := h6 f hf
    exact ⟨h8, h9, fun a ha hm => by have := h10 a ha; rw [List.contains_iff_mem.2 hm] at this; cases this⟩
  · cases hm : makeV C with
    | error e => rw [hm] at h7; cases h7
    | ok r =>
      obtain ⟨S, W⟩ := r
      rw [hm] at h7
      exact ⟨S, W, rfl, of_decide_eq_true h7⟩
def brsT (C : Cf) (j : Nat) : Nat := ((C.nodes.take j).filter fun n => n.br).length
theorem brsT_step {C : Cf} {j : Nat} {nd : Nd} (h : C.nodes[j]? = some nd) : brsT C (j + 1) = brsT C j + (if nd.br then 1 else 0) := by
  unfold brsT
  rw [take_more h, List.filter_append, List.length_append]
  cases hb : nd.br <;> simp [hb]
theorem brsT_le (C : Cf) (j : Nat) : brsT C j ≤ j := by
  unfold brsT
  exact Nat.le_trans (List.length_filter_le _ _) (by rw [List.length_take]; omega)
theorem brsT_all {C : Cf} : brsT C C.nodes.length = brs C := by unfold brsT brs; rw [List.take_length]
set_option maxRecDepth 100000 in
set_option maxHeartbeats 4000000 in
theorem named_no (k x : Int) (w : World) (hb : BadName k x) : Calls Try.prog 16 #[.int .i64 k, .int .i64 x] w fun e w' => e = .returned (.tuple #[.agg #[.slice none 0 0, .slice none 0 0, .slice none 0 0, .int .i64 0, .int .i64 0, .int .i64 0, .int .i64 0, .int .i64 0], .int .i64 1]) ∧ Below w.heap.size w w' := by
  have HB := Lib.hid (bad_parts hb)
  clear hb
  refine calls_sm (N := 273) Try.func16 rfl (by kernel_rfl) ?_
  intro a hs hd ha
  have e0 : a.tmps[0]? = some (.int .i64 k) := ha 0 _ rfl
  have e1 : a.tmps[1]? = some (.int .i64 x) := ha 1 _ rfl
  clear ha
  conv => arg 2; whnf
  refine wp_seq_k fun Kq1 hKq1 => ?_
  refine sm_list [] 4 2 hs hd (by kernel_rfl) agN rfl ?_
  simp only [seval]
  go_wp2_with fail
  intro a H; replace hs := H.s hs; replace hd := H.d rfl; replace e0 := H.k e0 rfl; replace e1 := H.k e1 rfl; have e4 := H.g 4 rfl rfl; clear H; refine hKq1 _ _ ?_; clear hKq1 Kq1; refine wp_seq_k fun Kq2 hKq2 => ?_
  have B4 := Blk.new w 26 #[.slice none 0 0, .slice none 0 0, .slice none 0 0, .int .i64 0, .int .i64 0, .int .i64 0, .int .i64 0, .int .i64 0]
  have L1 : Below w.heap.size w (w.alloc (.cells #[.slice none 0 0, .slice none 0 0, .slice none 0 0, .int .i64 0, .int .i64 0, .int .i64 0, .int .i64 0, .int .i64 0] 26)) := (Below.refl _ _).alloc (Nat.le_refl _) _
  have hz1 : w.heap.size < (w.alloc (.cells #[.slice none 0 0, .slice none 0 0, .slice none 0 0, .int .i64 0, .int .i64 0, .int .i64 0, .int .i64 0, .int .i64 0] 26)).heap.size := by simp
  generalize (w.alloc (.cells #[.slice none 0 0, .slice none 0 0, .slice none 0 0, .int .i64 0, .int .i64 0, .int .i64 0, .int .i64 0, .int .i64 0] 26)) = w1 at *
  obtain ⟨g4, hg4⟩ : ∃ g, g = w.heap.size := ⟨_, rfl⟩
  rw [← hg4] at B4 hz1 L1 e4
  have HG4 := Lib.hid hg4
  clear hg4
  refine sm_list [6] 24 1 hs hd (by kernel_rfl) (agU agN) rfl ?_
  simp only [seval]
  go_wp2_with (first | (refine wpList_store_new rfl 26 (.tmp 0) (.tmp 1) rfl rfl rfl rfl rfl (by kernel_rfl) (by rw [← Array.all_toList]; rfl) ?_) | fail)
  intro a H; replace hs := H.s hs; replace hd := H.d rfl; replace e0 := H.k e0 rfl; replace e1 := H.k e1 rfl; replace e4 := H.k e4 rfl; have e6 := H.g 6 rfl rfl; clear H; refine hKq2 _ _ ?_; clear hKq2 Kq2; refine wp_seq_k fun Kq3 hKq3 => ?_
  have B6 : Blk (w1.alloc (.cells #[.slice none 0 0, .slice none 0 0, .slice none 0 0, .int .i64 4000000, .int .i64 1000000, .int .i64 50, .int .i64 8, .int .i64 1000] 26)) w1.heap.size 26 (cfc (cf0 0) ⟨⟨none, 0⟩, ⟨none, 0⟩, ⟨none, 0⟩, []⟩) := Blk.new w1 _ _
  have L2 : Below g4 w (w1.alloc (.cells #[.slice none 0 0, .slice none 0 0, .slice none 0 0, .int .i64 4000000, .int .i64 1000000, .int .i64 50, .int .i64 8, .int .i64 1000] 26)) := L1.trans ((Below.refl _ _).alloc (Nat.le_of_lt hz1) _)
  replace B4 := B4.alloc (.cells #[.slice none 0 0, .slice none 0 0, .slice none 0 0, .int .i64 4000000, .int .i64 1000000, .int .i64 50, .int .i64 8, .int .i64 1000] 26)
  obtain ⟨g6, hg6⟩ : ∃ g, g = w1.heap.size := ⟨_, rfl⟩
  rw [← hg6] at B6 hz1 e6
  generalize (w1.alloc (.cells #[.slice none 0 0, .slice none 0 0, .slice none 0 0, .int .i64 4000000, .int .i64 1000000, .int .i64 50, .int .i64 8, .int .i64 1000] 26)) = w2 at *
  clear hg6 L1
  refine sm_list [6, 7] 25 1 hs hd (by kernel_rfl) (agC e6 (agU agN)) rfl ?_
  simp only [seval]
  go_wp2_with fail
  intro a H; replace hs := H.s hs; replace hd := H.d rfl; replace e6 := H.g 6 rfl rfl; replace e0 := H.k e0 rfl; replace e1 := H.k e1 rfl; replace e4 := H.k e4 rfl; have e7 := H.g 7 rfl rfl; clear H; refine hKq3 _ _ ?_; clear hKq3 Kq3; refine wp_seq_k fun Kq4 hKq4 => ?_
  refine sm_list [6, 8] 26 1 hs hd (by kernel_rfl) (agC e6 (agU agN)) rfl ?_
  simp only [seval]
  go_wp2_with fail
  intro a H; replace hs := H.s hs; replace hd := H.d rfl; replace e6 := H.g 6 rfl rfl; replace e0 := H.k e0 rfl; replace e1 := H.k e1 rfl; replace e4 := H.k e4 rfl; replace e7 := H.k e7 rfl; have e8 := H.g 8 rfl rfl; clear H; refine hKq4 _ _ ?_; clear hKq4 Kq4; refine wp_seq_k fun Kq5 hKq5 => ?_; refine wp_block ?_; refine wp_seq_k fun Kq6 hKq6 => ?_; clear e6; clear e7; clear e8
  suffices HK : ∀ (a' : Act), a'.tmps.size = a.tmps.size → a'.defers = [] → a'.tmps[0]? = a.tmps[0]? → a'.tmps[1]? = a.tmps[1]? → a'.tmps[4]? = a.tmps[4]? → a'.tmps[28]? = some (.bool false) → Kq6 a' w2 by
    rcases HB.out with ⟨h1, h2, h3⟩ | ⟨rfl, h2⟩ | ⟨rfl, h2, h3⟩ | ⟨rfl, h2⟩ | ⟨rfl, h2, h3⟩ | ⟨rfl, h2⟩ | ⟨rfl, h2, h3⟩
    all_goals
      refine sm_list [0, 1] 28 11 hs hd (by kernel_rfl) (agC e0 (agC e1 agN)) rfl ?_
      simp only [seval]
      go_wp2_with fail
      all_goals
        intro a' H
        refine HK a' H.size H.defers ((H.got rfl rfl).trans e0.symm) ((H.got rfl rfl).trans e1.symm) (H.out 4 rfl) ?_
        · (refine (H.got (t := 28) rfl rfl).trans (congrArg some ?_); first | rfl | simp_all)
  intro a' g_s g_d g0 g1 g4 f28
  replace hs := g_s.trans hs; replace hd := g_d; replace e0 := g0.trans e0; replace e1 := g1.trans e1; replace e4 := g4.trans e4; clear g_s g_d g0 g1 g4
  have e28 := f28
  clear f28; clear a
  obtain ⟨a, rfl⟩ : ∃ a, a = a' := ⟨_, rfl⟩
  refine hKq6 _ _ ?_; clear hKq6 Kq6
  refine wp_cond_false (slotE e28) ?_
  clear e28; refine wp_seq_k fun Kq7 hKq7 => ?_
  suffices HK : ∀ (a' : Act), a'.tmps.size = a.tmps.size → a'.defers = [] → a'.tmps[0]? = a.tmps[0]? → a'.tmps[1]? = a.tmps[1]? → a'.tmps[4]? = a.tmps[4]? → a'.tmps[115]? = some (.bool false) → Kq7 a' w2 by
    rcases HB.out with ⟨h1, h2, h3⟩ | ⟨rfl, h2⟩ | ⟨rfl, h2, h3⟩ | ⟨rfl, h2⟩ | ⟨rfl, h2, h3⟩ | ⟨rfl, h2⟩ | ⟨rfl, h2, h3⟩
    all_goals
      refine sm_list [0, 1] 115 11 hs hd (by kernel_rfl) (agC e0 (agC e1 agN)) rfl ?_
      simp only [seval]
      go_wp2_with fail
      all_goals
        intro a' H
        refine HK a' H.size H.defers ((H.got rfl rfl).trans e0.symm) ((H.got rfl rfl).trans e1.symm) (H.out 4 rfl) ?_
        · (refine (H.got (t := 115) rfl rfl).trans (congrArg some ?_); first | rfl | simp_all)
  intro a' g_s g_d g0 g1 g4 f115
  replace hs := g_s.trans hs; replace hd := g_d; replace e0 := g0.trans e0; replace e1 := g1.trans e1; replace e4 := g4.trans e4; clear g_s g_d g0 g1 g4
  have e115 := f115
  clear f115; clear a
  obtain ⟨a, rfl⟩ : ∃ a, a = a' := ⟨_, rfl⟩
  refine hKq7 _ _ ?_; clear hKq7 Kq7
  refine wp_cond_false (slotE e115) ?_
  clear e115; refine wp_seq_k fun Kq8 hKq8 => ?_
  suffices HK : ∀ (a' : Act), a'.tmps.size = a.tmps.size → a'.defers = [] → a'.tmps[0]? = a.tmps[0]? → a'.tmps[1]? = a.tmps[1]? → a'.tmps[4]? = a.tmps[4]? → a'.tmps[206]? = some (.bool false) → Kq8 a' w2 by
    rcases HB.out with ⟨h1, h2, h3⟩ | ⟨rfl, h2⟩ | ⟨rfl, h2, h3⟩ | ⟨rfl, h2⟩ | ⟨rfl, h2, h3⟩ | ⟨rfl, h2⟩ | ⟨rfl, h2, h3⟩
    all_goals
      refine sm_list [0, 1] 206 11 hs hd (by kernel_rfl) (agC e0 (agC e1 agN)) rfl ?_
      simp only [seval]
      go_wp2_with fail
      all_goals
        intro a' H
        refine HK a' H.size H.defers ((H.got rfl rfl).trans e0.symm) ((H.got rfl rfl).trans e1.symm) (H.out 4 rfl) ?_
        · (refine (H.got (t := 206) rfl rfl).trans (congrArg some ?_); first | rfl | simp_all)
  intro a' g_s g_d g0 g1 g4 f206
  replace hs := g_s.trans hs; replace hd := g_d; replace e0 := g0.trans e0; replace e1 := g1.trans e1; replace e4 := g4.trans e4; clear g_s g_d g0 g1 g4
  have e206 := f206
  clear f206; clear a
  obtain ⟨a, rfl⟩ : ∃ a, a = a' := ⟨_, rfl⟩
  refine hKq8 _ _ ?_; clear hKq8 Kq8
  refine wp_cond_false (slotE e206) ?_
  clear e206; refine wp_seq_k fun Kq9 hKq9 => ?_
  have HB4 := Lib.hid B4
  have hz4 : g4 < w2.heap.size := B4.lt
  clear B4 B6
  refine sm_list [4, 5] 27 1 hs hd (by kernel_rfl) (agC e4 (agU agN)) rfl ?_
  simp only [seval]
  go_wp2_with (first | (refine wpList_store_part rfl 26 (.tmp 0) (.tmp 2) rfl (off := 0) rfl HB4.out rfl (by simp) (by kernel_rfl) (by rw [← Array.all_toList]; rfl) ?_; intro wq Bq zq grq) | fail)
  intro a H; replace hs := H.s hs; replace hd := H.d rfl; replace e4 := H.g 4 rfl rfl; replace e0 := H.k e0 rfl; replace e1 := H.k e1 rfl; have e5 := H.g 5 rfl rfl; clear H; refine hKq9 _ _ ?_; clear hKq9 Kq9; refine wp_ret ?_; refine ret_block ?_; refine exit_then rfl ?_
  have Bq' : Blk wq g4 26 #[.slice none 0 0, .slice none 0 0, .slice none 0 0, .int .i64 0, .int .i64 0, .int .i64 0, .int .i64 0, .int .i64 0] := by simpa [putAll] using Bq
  exact sm_ret_cell rfl hd e4 Bq' Try.underlying26 rfl (by kernel_rfl) e5 ⟨rfl, by rw [← HG4.out]; exact L2.grown grq (Nat.le_of_lt hz4) (fun k hk => by cases hk; exact Nat.le_refl _)⟩
end Go.Proofs.Ytaegngcbiefckaa

namespace Go.Proofs.Ytaegngcbiefckaa
set_option linter.unusedSimpArgs false
set_option linter.unusedVariables false
open Go.RowKit Go.WideShapes Go.ChangeShapes
attribute [local go_sem ↓] Go.wp_at_zero Go.wp_at_succ

set_option maxRecDepth 100000 in
set_option maxHeartbeats 4000000 in
theorem pn_ways (f : Fw) (sl : Sl × Sl) (g13 B : Nat) (v0 v1 v5 v116 v117 v118 : Value) (a : Act) (w : World) (Q : Exit → Act → World → Prop)
    (hs : a.tmps.size = 167) (hd : a.defers = []) (e0 : a.tmps[0]? = some (v0)) (e1 : a.tmps[1]? = some (v1)) (e5 : a.tmps[5]? = some (v5)) (e13 : a.tmps[13]? = some (.pointer (some ⟨g13, 0, none⟩))) (e116 : a.tmps[116]? = some (v116)) (e117 : a.tmps[117]? = some (v117)) (e118 : a.tmps[118]? = some (v118))
    (B13 : Blk w g13 74 (fwc f sl).toArray) (h0 : Reads w B 1 sl.1.A f.w0.length (f.w0.map (Value.int .i64))) (h1 : Reads w B 1 sl.2.A f.w1.length (f.w1.map (Value.int .i64))) (hl0 : f.w0.length ≤ 16) (hl1 : f.w1.length ≤ 16) (hno : ∀ z ∈ f.w0, z ∉ f.w1)
    (hend : ∀ (a : Act), a.tmps.size = 167 → a.defers = [] → a.tmps[0]? = some (v0) → a.tmps[1]? = some (v1) → a.tmps[5]? = some (v5) → a.tmps[116]? = some (v116) → a.tmps[117]? = some (v117) → a.tmps[118]? = some (v118) → Q .normal a w) :
    Code.wp Try.prog (sub [true, true, true, true, true, true, true, true, true, true, false, true, false, false, true, true, false, false, true] (bodyOf Try.f4)) Q a w := by
  conv => arg 2; whnf
  have HEND := Lib.hid hend
  have HR0 := Lib.hid h0
  have HR1 := Lib.hid h1
  have HNO := Lib.hid hno
  clear hend h0 h1 hno
  have f2 := B13.cellOf (v := .slice sl.1.A f.w0.length sl.1.c) 2 rfl
  have f3 := B13.cellOf (v := .slice sl.2.A f.w1.length sl.2.c) 3 rfl
  refine wp_seq_k fun Kq1 hKq1 => ?_
  refine sm_list [13] 122 5 hs hd (by kernel_rfl) (agC e13 agN) rfl ?_
  simp only [seval]
  go_wp2_with fail
  intro a H; replace hs := H.s hs; replace hd := H.d rfl; replace e13 := H.g 13 rfl rfl; replace e0 := H.k e0 rfl; replace e1 := H.k e1 rfl; replace e5 := H.k e5 rfl; replace e116 := H.k e116 rfl; replace e117 := H.k e117 rfl; replace e118 := H.k e118 rfl; have e124 := H.g 124 rfl rfl; have e125 := H.g 125 rfl rfl; have e126 := H.g 126 rfl rfl; clear H; refine hKq1 _ _ ?_; clear hKq1 Kq1; refine wp_block ?_
  clear f2
  refine wp_loop (fun a w' => ∃ j : Nat, j ≤ f.w0.length ∧ a.tmps.size = 167 ∧ a.defers = [] ∧ a.tmps[0]? = some (v0) ∧ a.tmps[1]? = some (v1) ∧ a.tmps[5]? = some (v5) ∧ a.tmps[13]? = some (.pointer (some ⟨g13, 0, none⟩)) ∧ a.tmps[116]? = some (v116) ∧ a.tmps[117]? = some (v117) ∧ a.tmps[118]? = some (v118) ∧ a.tmps[124]? = some (.slice sl.1.A f.w0.length sl.1.c) ∧ a.tmps[125]? = some (.int .i64 (f.w0.length : Int)) ∧ a.tmps[126]? = some (.int .i64 (j : Int)) ∧ w' = w) (fun a _ => f.w0.length - (intOf (a.tmps.getD 126 undef)).toNat) ?_ ?_
  · exact ⟨0, Nat.zero_le _, hs, hd, e0, e1, e5, e13, e116, e117, e118, e124, e125, e126, rfl⟩
  clear hs hd e126 e0 e1 e5 e13 e116 e117 e118 e124 e125 a
  rintro a w3 ⟨j, hj, hs, hd, e0, e1, e5, e13, e116, e117, e118, e124, e125, e126, rfl⟩
  have hm := slot e126
  refine wp_seq_k fun Kq2 hKq2 => ?_
  by_cases hlt : j < f.w0.length
  ·
    have dj : decide ((j : Int) < (f.w0.length : Int)) = true := decide_eq_true (by omega)
    obtain ⟨ad, u, hA, hadb, hu, hc⟩ := HR0.out.at_ hlt
    obtain ⟨z, hz, rfl⟩ := getElem?_map_some hu
    have HZ := Lib.hid hz
    clear hz hu
    rw [hA] at e124
    have HA := Lib.hid hA
    clear hA
    refine sm_list [125, 126] 127 1 hs hd (by kernel_rfl) (agC e125 (agC e126 agN)) rfl ?_
    simp only [seval]
    go_wp2_with fail
    intro a H; replace hs := H.s hs; replace hd := H.d rfl; replace e125 := H.g 125 rfl rfl; replace e126 := H.g 126 rfl rfl; replace e0 := H.k e0 rfl; replace e1 := H.k e1 rfl; replace e5 := H.k e5 rfl; replace e13 := H.k e13 rfl; replace e116 := H.k e116 rfl; replace e117 := H.k e117 rfl; replace e118 := H.k e118 rfl; replace e124 := H.k e124 rfl; have e127 := H.g 127 rfl rfl; clear H; refine hKq2 _ _ ?_
    clear hKq2 Kq2; refine wp_seq_k fun Kq3 hKq3 => ?_
    refine wp_cond_true (slotE e127) ?_
    clear e127; refine wp_skip ?_; refine hKq3 _ _ ?_; clear hKq3 Kq3; refine wp_seq_k fun Kq4 hKq4 => ?_; refine wp_block ?_; refine wp_seq_k fun Kq5 hKq5 => ?_
    refine sm_list [15, 124, 126] 128 2 hs hd (by kernel_rfl) (agU (agC e124 (agC e126 agN))) rfl ?_
    simp only [seval]
    go_wp2_with fail
    intro a H; replace hs := H.s hs; replace hd := H.d rfl; replace e124 := H.g 124 rfl rfl; replace e126 := H.g 126 rfl rfl; replace e0 := H.k e0 rfl; replace e1 := H.k e1 rfl; replace e5 := H.k e5 rfl; replace e13 := H.k e13 rfl; replace e116 := H.k e116 rfl; replace e117 := H.k e117 rfl; replace e118 := H.k e118 rfl; replace e125 := H.k e125 rfl; have e15 := H.g 15 rfl rfl; clear H; refine hKq5 _ _ ?_
    clear hKq5 Kq5; refine wp_seq_k fun Kq6 hKq6 => ?_; clear hc
    rw [← HA.out] at e124
    refine sm_list [13] 130 5 hs hd (by kernel_rfl) (agC e13 agN) rfl ?_
    simp only [seval]
    go_wp2_with fail
    intro a H; replace hs := H.s hs; replace hd := H.d rfl; replace e13 := H.g 13 rfl rfl; replace e0 := H.k e0 rfl; replace e1 := H.k e1 rfl; replace e5 := H.k e5 rfl; replace e116 := H.k e116 rfl; replace e117 := H.k e117 rfl; replace e118 := H.k e118 rfl; replace e124 := H.k e124 rfl; replace e125 := H.k e125 rfl; replace e126 := H.k e126 rfl; replace e15 := H.k e15 rfl; have e132 := H.g 132 rfl rfl
    have e133 := H.g 133 rfl rfl; have e134 := H.g 134 rfl rfl; clear H; refine hKq6 _ _ ?_; clear hKq6 Kq6; refine wp_block ?_; clear dj
    refine wp_loop (fun a w' => ∃ k : Nat, k ≤ f.w1.length ∧ a.tmps.size = 167 ∧ a.defers = [] ∧ a.tmps[0]? = some (v0) ∧ a.tmps[1]? = some (v1) ∧ a.tmps[5]? = some (v5) ∧ a.tmps[13]? = some (.pointer (some ⟨g13, 0, none⟩)) ∧ a.tmps[15]? = some (.int .i64 z) ∧ a.tmps[116]? = some (v116) ∧ a.tmps[117]? = some (v117) ∧ a.tmps[118]? = some (v118) ∧ a.tmps[124]? = some (.slice sl.1.A f.w0.length sl.1.c) ∧ a.tmps[125]? = some (.int .i64 (f.w0.length : Int)) ∧ a.tmps[126]? = some (.int .i64 (j : Int)) ∧ a.tmps[132]? = some (.slice sl.2.A f.w1.length sl.2.c) ∧ a.tmps[133]? = some (.int .i64 (f.w1.length : Int)) ∧ a.tmps[134]? = some (.int .i64 (k : Int)) ∧ w' = w3) (fun a _ => f.w1.length - (intOf (a.tmps.getD 134 undef)).toNat) ?_ ?_
    · exact ⟨0, Nat.zero_le _, hs, hd, e0, e1, e5, e13, e15, e116, e117, e118, e124, e125, e126, e132, e133, e134, rfl⟩
    clear hs hd e134 e0 e1 e5 e13 e15 e116 e117 e118 e124 e125 e126 e132 e133 a
    rintro a w4 ⟨k, hk, hs, hd, e0, e1, e5, e13, e15, e116, e117, e118, e124, e125, e126, e132, e133, e134, rfl⟩
    have hmk := slot e134
    refine wp_seq_k fun Kq7 hKq7 => ?_
    by_cases hlk : k < f.w1.length
    ·
      have dk : decide ((k : Int) < (f.w1.length : Int)) = true := decide_eq_true (by omega)
      obtain ⟨ad1, u, hA1, hadb1, hu, hc⟩ := HR1.out.at_ hlk
      obtain ⟨y, hy, rfl⟩ := getElem?_map_some hu
      have hq : z ≠ y := fun e => HNO.out z (List.mem_of_getElem? HZ.out) (by rw [e]; exact List.mem_of_getElem? hy)
      clear hy hu
      rw [hA1] at e132
      have HA1 := Lib.hid hA1
      clear hA1
      refine sm_list [133, 134] 135 1 hs hd (by kernel_rfl) (agC e133 (agC e134 agN)) rfl ?_
      simp only [seval]
      go_wp2_with fail
      intro a H; replace hs := H.s hs; replace hd := H.d rfl; replace e133 := H.g 133 rfl rfl; replace e134 := H.g 134 rfl rfl; replace e0 := H.k e0 rfl; replace e1 := H.k e1 rfl; replace e5 := H.k e5 rfl; replace e13 := H.k e13 rfl; replace e15 := H.k e15 rfl; replace e116 := H.k e116 rfl; replace e117 := H.k e117 rfl; replace e118 := H.k e118 rfl; replace e124 := H.k e124 rfl; replace e125 := H.k e125 rfl; replace e126 := H.k e126 rfl; replace e132 := H.k e132 rfl
      have e135 := H.g 135 rfl rfl; clear H; refine hKq7 _ _ ?_; clear hKq7 Kq7; refine wp_seq_k fun Kq8 hKq8 => ?_
      refine wp_cond_true (slotE e135) ?_
      clear e135; refine wp_skip ?_; refine hKq8 _ _ ?_; clear hKq8 Kq8; refine wp_seq_k fun Kq9 hKq9 => ?_; refine wp_block ?_; refine wp_seq_k fun Kq10 hKq10 => ?_
      refine sm_list [17, 132, 134] 136 2 hs hd (by kernel_rfl) (agU (agC e132 (agC e134 agN))) rfl ?_
      simp only [seval]
      go_wp2_with fail
      intro a H; replace hs := H.s hs; replace hd := H.d rfl; replace e132 := H.g 132 rfl rfl; replace e134 := H.g 134 rfl rfl; replace e0 := H.k e0 rfl; replace e1 := H.k e1 rfl; replace e5 := H.k e5 rfl; replace e13 := H.k e13 rfl; replace e15 := H.k e15 rfl; replace e116 := H.k e116 rfl; replace e117 := H.k e117 rfl; replace e118 := H.k e118 rfl; replace e124 := H.k e124 rfl; replace e125 := H.k e125 rfl; replace e126 := H.k e126 rfl; replace e133 := H.k e133 rfl
      have e17 := H.g 17 rfl rfl; clear H; refine hKq10 _ _ ?_; clear hKq10 Kq10; refine wp_seq_k fun Kq11 hKq11 => ?_; clear hc dk
      rw [← HA1.out] at e132
      have dq : (z == y) = false := beq_eq_false_iff_ne.2 hq
      clear hq
      refine sm_list [15, 17] 138 3 hs hd (by kernel_rfl) (agC e15 (agC e17 agN)) rfl ?_
      simp only [seval]
      go_wp2_with fail
      intro a H; replace hs := H.s hs; replace hd := H.d rfl; replace e15 := H.g 15 rfl rfl; replace e17 := H.g 17 rfl rfl; replace e0 := H.k e0 rfl; replace e1 := H.k e1 rfl; replace e5 := H.k e5 rfl; replace e13 := H.k e13 rfl; replace e116 := H.k e116 rfl; replace e117 := H.k e117 rfl; replace e118 := H.k e118 rfl; replace e124 := H.k e124 rfl; replace e125 := H.k e125 rfl; replace e126 := H.k e126 rfl; replace e132 := H.k e132 rfl; replace e133 := H.k e133 rfl; replace e134 := H.k e134 rfl
      have e140 := H.g 140 rfl rfl; clear H; refine hKq11 _ _ ?_; clear hKq11 Kq11
      refine wp_cond_false (slotE e140) ?_
      clear e140; refine wp_skip ?_; refine hKq9 _ _ ?_; clear hKq9 Kq9; clear e17
      refine sm_list [134] 141 1 hs hd (by kernel_rfl) (agC e134 agN) rfl ?_
      simp only [seval]
      go_wp2_with fail
      intro a H; replace hs := H.s hs; replace hd := H.d rfl; replace e0 := H.k e0 rfl; replace e1 := H.k e1 rfl; replace e5 := H.k e5 rfl; replace e13 := H.k e13 rfl; replace e15 := H.k e15 rfl; replace e116 := H.k e116 rfl; replace e117 := H.k e117 rfl; replace e118 := H.k e118 rfl; replace e124 := H.k e124 rfl; replace e125 := H.k e125 rfl; replace e126 := H.k e126 rfl; replace e132 := H.k e132 rfl; replace e133 := H.k e133 rfl
      replace e134 := H.g 134 rfl rfl; clear H
      exact ⟨⟨k + 1, by omega, hs, hd, e0, e1, e5, e13, e15, e116, e117, e118, e124, e125, e126, e132, e133, e134, rfl⟩, by first | (simp only [hmk, slot e134, intOf]; omega) | (simp [e134, intOf]; omega)⟩
    · have hke : k = f.w1.length := by omega
      have dk : decide ((k : Int) < (f.w1.length : Int)) = false := decide_eq_false (by omega)
      have dk2 : decide (k < f.w1.length) = false := decide_eq_false hlk
      clear hlk hmk hke
      refine sm_list [133, 134] 135 1 hs hd (by kernel_rfl) (agC e133 (agC e134 agN)) rfl ?_
      simp only [seval]
      go_wp2_with fail
      intro a H; replace hs := H.s hs; replace hd := H.d rfl; replace e133 := H.g 133 rfl rfl; replace e134 := H.g 134 rfl rfl; replace e0 := H.k e0 rfl; replace e1 := H.k e1 rfl; replace e5 := H.k e5 rfl; replace e13 := H.k e13 rfl; replace e15 := H.k e15 rfl; replace e116 := H.k e116 rfl; replace e117 := H.k e117 rfl; replace e118 := H.k e118 rfl; replace e124 := H.k e124 rfl; replace e125 := H.k e125 rfl; replace e126 := H.k e126 rfl; replace e132 := H.k e132 rfl
      have e135 := H.g 135 rfl rfl; clear H; refine hKq7 _ _ ?_; clear hKq7 Kq7; refine wp_seq_k fun Kq8 hKq8 => ?_
      refine wp_cond_false (slotE e135) ?_
      clear e135; refine wp_exit ?_; refine exit_then rfl ?_; clear hKq8 Kq8; refine exit_then rfl ?_; refine exit_hit ?_; refine hKq4 _ _ ?_; clear hKq4 Kq4; clear e132; clear e133; clear e134; clear e15
      refine sm_list [126] 142 1 hs hd (by kernel_rfl) (agC e126 agN) rfl ?_
      simp only [seval]
      go_wp2_with fail
      intro a H; replace hs := H.s hs; replace hd := H.d rfl; replace e0 := H.k e0 rfl; replace e1 := H.k e1 rfl; replace e5 := H.k e5 rfl; replace e13 := H.k e13 rfl; replace e116 := H.k e116 rfl; replace e117 := H.k e117 rfl; replace e118 := H.k e118 rfl; replace e124 := H.k e124 rfl; replace e125 := H.k e125 rfl; replace e126 := H.g 126 rfl rfl; clear H
      exact ⟨⟨j + 1, by omega, hs, hd, e0, e1, e5, e13, e116, e117, e118, e124, e125, e126, rfl⟩, by first | (simp only [hm, slot e126, intOf]; omega) | (simp [e126, intOf]; omega)⟩
  · have hje : j = f.w0.length := by omega
    have dj : decide ((j : Int) < (f.w0.length : Int)) = false := decide_eq_false (by omega)
    have dj2 : decide (j < f.w0.length) = false := decide_eq_false hlt
    clear hlt hm hje
    refine sm_list [125, 126] 127 1 hs hd (by kernel_rfl) (agC e125 (agC e126 agN)) rfl ?_
    simp only [seval]
    go_wp2_with fail
    intro a H; replace hs := H.s hs; replace hd := H.d rfl; replace e125 := H.g 125 rfl rfl; replace e126 := H.g 126 rfl rfl; replace e0 := H.k e0 rfl; replace e1 := H.k e1 rfl; replace e5 := H.k e5 rfl; replace e13 := H.k e13 rfl; replace e116 := H.k e116 rfl; replace e117 := H.k e117 rfl; replace e118 := H.k e118 rfl; replace e124 := H.k e124 rfl; have e127 := H.g 127 rfl rfl; clear H; refine hKq2 _ _ ?_
    clear hKq2 Kq2; refine wp_seq_k fun Kq3 hKq3 => ?_
    refine wp_cond_false (slotE e127) ?_
    clear e127; refine wp_exit ?_; refine exit_then rfl ?_; clear hKq3 Kq3; refine exit_then rfl ?_; refine exit_hit ?_
    exact HEND.out a hs hd e0 e1 e5 e116 e117 e118
set_option maxRecDepth 100000 in
set_option maxHeartbeats 4000000 in
theorem pn_flows (C : Cf) (Y : Lay) (g5 : Nat) (v0 v1 : Value) (a : Act) (w : World) (Q : Exit → Act → World → Prop)
    (hs : a.tmps.size = 167) (hd : a.defers = []) (e0 : a.tmps[0]? = some (v0)) (e1 : a.tmps[1]? = some (v1)) (e5 : a.tmps[5]? = some (.pointer (some ⟨g5, 0, none⟩)))
    (hC : CfAt w g5 C Y) (BC : Blk w g5 26 (cfc C Y)) (hfn : C.flows.length ≤ 20) (hno : ∀ f ∈ C.flows, f.w0.length ≤ 16 ∧ f.w1.length ≤ 16 ∧ ∀ a ∈ f.w0, a ∉ f.w1)
    (hend : ∀ (a : Act) (w' : World), a.tmps.size = 167 → a.defers = [] → a.tmps[0]? = some (v0) → a.tmps[1]? = some (v1) → a.tmps[5]? = some (.pointer (some ⟨g5, 0, none⟩)) → Below w.heap.size w w' → Q .normal a w') :
    Code.wp Try.prog (sub [true, true, true, true, true, true, true, true, true, true, false] (bodyOf Try.f4)) Q a w := by
  conv => arg 2; whnf
  have HEND := Lib.hid hend
  have HC := Lib.hid hC
  have HNO := Lib.hid hno
  have hzg : g5 < w.heap.size := BC.lt
  have c2 := BC.cellOf (v := .slice Y.F.A C.flows.length Y.F.c) 2 rfl
  clear hend hC hno; refine wp_seq_k fun Kq1 hKq1 => ?_
  refine sm_list [5] 115 4 hs hd (by kernel_rfl) (agC e5 agN) rfl ?_
  simp only [seval]
  go_wp2_with fail
  intro a H; replace hs := H.s hs; replace hd := H.d rfl; replace e5 := H.g 5 rfl rfl; replace e0 := H.k e0 rfl; replace e1 := H.k e1 rfl; have e116 := H.g 116 rfl rfl; have e117 := H.g 117 rfl rfl; have e118 := H.g 118 rfl rfl; clear H; refine hKq1 _ _ ?_; clear hKq1 Kq1; refine wp_block ?_; clear c2
  refine wp_loop (fun a w' => ∃ i : Nat, i ≤ C.flows.length ∧ a.tmps.size = 167 ∧ a.defers = [] ∧ a.tmps[0]? = some (v0) ∧ a.tmps[1]? = some (v1) ∧ a.tmps[5]? = some (.pointer (some ⟨g5, 0, none⟩)) ∧ a.tmps[116]? = some (.slice Y.F.A C.flows.length Y.F.c) ∧ a.tmps[117]? = some (.int .i64 (C.flows.length : Int)) ∧ a.tmps[118]? = some (.int .i64 (i : Int)) ∧ Below w.heap.size w w') (fun a _ => C.flows.length - (intOf (a.tmps.getD 118 undef)).toNat) ?_ ?_
  · exact ⟨0, Nat.zero_le _, hs, hd, e0, e1, e5, e116, e117, e118, Below.refl _ _⟩
  clear hs hd e118 e0 e1 e5 e116 e117 a
  rintro a w3 ⟨i, hi, hs, hd, e0, e1, e5, e116, e117, e118, hb3⟩
  have hm := slot e118
  refine wp_seq_k fun Kq2 hKq2 => ?_
  by_cases hlt : i < C.flows.length
  ·
    have dj : decide ((i : Int) < (C.flows.length : Int)) = true := decide_eq_true (by omega)
    have hsz := hb3.size
    have hC3 := HC.out.below (hb3.mono (Nat.le_of_lt hzg))
    obtain ⟨⟨f, sl⟩, hxi⟩ : ∃ x, (C.flows.zip Y.ws)[i]? = some x := ⟨_, List.getElem?_eq_getElem (by rw [hC3.zlen]; exact hlt)⟩
    obtain ⟨ad, hA, hadb, hcl⟩ := reads_at (f := fun x : Fw × (Sl × Sl) => fwc x.1 x.2) fwc_len hC3.flows hxi hlt
    obtain ⟨hfi, hsi⟩ := List.getElem?_zip_eq_some.1 hxi
    simp only at hfi hsi
    obtain ⟨r0, r1⟩ := hC3.ways i f sl hfi hsi
    obtain ⟨hl0, hl1, hdis⟩ := HNO.out f (List.mem_of_getElem? hfi)
    have HCL := Lib.hid hcl
    have HA := Lib.hid hA
    have HR := Lib.hid (And.intro r0 r1)
    have HD := Lib.hid hdis
    clear hcl hA hfi hsi hxi r0 r1 hdis hC3
    rw [HA.out] at e116
    refine sm_list [117, 118] 119 1 hs hd (by kernel_rfl) (agC e117 (agC e118 agN)) rfl ?_
    simp only [seval]
    go_wp2_with fail
    intro a H; replace hs := H.s hs; replace hd := H.d rfl; replace e117 := H.g 117 rfl rfl; replace e118 := H.g 118 rfl rfl; replace e0 := H.k e0 rfl; replace e1 := H.k e1 rfl; replace e5 := H.k e5 rfl; replace e116 := H.k e116 rfl; have e119 := H.g 119 rfl rfl; clear H; refine hKq2 _ _ ?_; clear hKq2 Kq2; refine wp_seq_k fun Kq3 hKq3 => ?_
    refine wp_cond_true (slotE e119) ?_
    clear e119; refine wp_skip ?_; refine hKq3 _ _ ?_; clear hKq3 Kq3; refine wp_seq_k fun Kq4 hKq4 => ?_; refine wp_block ?_; refine wp_seq_k fun Kq5 hKq5 => ?_
    refine sm_list [13, 116, 118] 120 2 hs hd (by kernel_rfl) (agU (agC e116 (agC e118 agN))) rfl ?_
    simp only [seval]
    go_wp2_with (first | (refine wpList_load_any_d rfl 74 (.tmp 3) rfl (ad.add (i * 8)) rfl ((fwc f sl).toArray) _ (fun j u hu => HCL.out j u (by simpa using hu)) Try.underlying74 rfl (by kernel_rfl) ?_) | (refine wpList_store_new rfl 74 (.tmp 0) (.tmp 4) rfl rfl rfl rfl rfl (by kernel_rfl) (by rw [← Array.all_toList]; rfl) ?_) | fail)
    intro a H; replace hs := H.s hs; replace hd := H.d rfl; replace e116 := H.g 116 rfl rfl; replace e118 := H.g 118 rfl rfl; replace e0 := H.k e0 rfl; replace e1 := H.k e1 rfl; replace e5 := H.k e5 rfl; replace e117 := H.k e117 rfl; have e13 := H.g 13 rfl rfl; clear H; refine hKq5 _ _ ?_; clear hKq5 Kq5
    rw [← HA.out] at e116
    have B13 := Blk.new w3 74 (fwc f sl).toArray
    have L4 : Below w3.heap.size w3 (w3.alloc (.cells (fwc f sl).toArray 74)) := (Below.refl _ _).alloc (Nat.le_refl _) _
    have hb4 : Below w.heap.size w (w3.alloc (.cells (fwc f sl).toArray 74)) := hb3.trans (L4.mono hsz)
    have q0 := HR.out.1.below (L4.mono (by omega)); have q1 := HR.out.2.below (L4.mono (by omega))
    generalize (w3.alloc (.cells (fwc f sl).toArray 74)) = w4 at *
    obtain ⟨g13, hg13⟩ : ∃ g, g = w3.heap.size := ⟨_, rfl⟩
    rw [← hg13] at B13 e13
    clear hg13 L4 hb3 hsz dj
    refine pn_ways f sl g13 g5 _ _ _ _ _ _ a w4 _ hs hd e0 e1 e5 e13 e116 e117 e118 B13 q0 q1 hl0 hl1 HD.out ?_
    clear hs hd e0 e1 e5 e13 e116 e117 e118 a
    intro a hs hd e0 e1 e5 e116 e117 e118
    refine hKq4 _ _ ?_; clear hKq4 Kq4
    refine sm_list [118] 143 1 hs hd (by kernel_rfl) (agC e118 agN) rfl ?_
    simp only [seval]
    go_wp2_with fail
    intro a H; replace hs := H.s hs; replace hd := H.d rfl; replace e0 := H.k e0 rfl; replace e1 := H.k e1 rfl; replace e5 := H.k e5 rfl; replace e116 := H.k e116 rfl; replace e117 := H.k e117 rfl; replace e118 := H.g 118 rfl rfl; clear H
    exact ⟨⟨i + 1, by omega, hs, hd, e0, e1, e5, e116, e117, e118, hb4⟩, by first | (simp only [hm, slot e118, intOf]; omega) | (simp [e118, intOf]; omega)⟩
  · have hje : i = C.flows.length := by omega
    have dj : decide ((i : Int) < (C.flows.length : Int)) = false := decide_eq_false (by omega)
    have dj2 : decide (i < C.flows.length) = false := decide_eq_false hlt
    clear hlt hm hje
    refine sm_list [117, 118] 119 1 hs hd (by kernel_rfl) (agC e117 (agC e118 agN)) rfl ?_
    simp only [seval]
    go_wp2_with fail
    intro a H; replace hs := H.s hs; replace hd := H.d rfl; replace e117 := H.g 117 rfl rfl; replace e118 := H.g 118 rfl rfl; replace e0 := H.k e0 rfl; replace e1 := H.k e1 rfl; replace e5 := H.k e5 rfl; replace e116 := H.k e116 rfl; have e119 := H.g 119 rfl rfl; clear H; refine hKq2 _ _ ?_; clear hKq2 Kq2; refine wp_seq_k fun Kq3 hKq3 => ?_
    refine wp_cond_false (slotE e119) ?_
    clear e119; refine wp_exit ?_; refine exit_then rfl ?_; clear hKq3 Kq3; refine exit_then rfl ?_; refine exit_hit ?_
    exact HEND.out a w3 hs hd e0 e1 e5 hb3
set_option maxRecDepth 100000 in
set_option maxHeartbeats 4000000 in
theorem pn_count (C : Cf) (Y : Lay) (g5 : Nat) (v0 v1 : Value) (a : Act) (w : World) (Q : Exit → Act → World → Prop)
    (hs : a.tmps.size = 167) (hd : a.defers = []) (e0 : a.tmps[0]? = some (v0)) (e1 : a.tmps[1]? = some (v1)) (e5 : a.tmps[5]? = some (.pointer (some ⟨g5, 0, none⟩))) (e7 : a.tmps[7]? = some (.int .i64 0))
    (hC : CfAt w g5 C Y) (BC : Blk w g5 26 (cfc C Y)) (hfn : C.nodes.length ≤ 20)
    (hend : ∀ (a : Act) (w' : World), a.tmps.size = 167 → a.defers = [] → a.tmps[0]? = some (v0) → a.tmps[1]? = some (v1) → a.tmps[5]? = some (.pointer (some ⟨g5, 0, none⟩)) → a.tmps[7]? = some (.int .i64 (brs C : Int)) → Below w.heap.size w w' → Q .normal a w') :
    Code.wp Try.prog (sub [true, true, true, true, true, true, false] (bodyOf Try.f4)) Q a w := by
  conv => arg 2; whnf
  have HEND := Lib.hid hend
  have HC := Lib.hid hC
  have hzg : g5 < w.heap.size := BC.lt
  have c0 := BC.cellOf (v := .slice Y.N.A C.nodes.length Y.N.c) 0 rfl
  clear hend hC; refine wp_seq_k fun Kq1 hKq1 => ?_
  refine sm_list [5] 81 4 hs hd (by kernel_rfl) (agC e5 agN) rfl ?_
  simp only [seval]
  go_wp2_with fail
  intro a H; replace hs := H.s hs; replace hd := H.d rfl; replace e5 := H.g 5 rfl rfl; replace e0 := H.k e0 rfl; replace e1 := H.k e1 rfl; replace e7 := H.k e7 rfl; have e82 := H.g 82 rfl rfl; have e83 := H.g 83 rfl rfl; have e84 := H.g 84 rfl rfl; clear H; refine hKq1 _ _ ?_; clear hKq1 Kq1; refine wp_block ?_; clear c0
  refine wp_loop (fun a w' => ∃ i : Nat, i ≤ C.nodes.length ∧ a.tmps.size = 167 ∧ a.defers = [] ∧ a.tmps[0]? = some (v0) ∧ a.tmps[1]? = some (v1) ∧ a.tmps[5]? = some (.pointer (some ⟨g5, 0, none⟩)) ∧ a.tmps[82]? = some (.slice Y.N.A C.nodes.length Y.N.c) ∧ a.tmps[83]? = some (.int .i64 (C.nodes.length : Int)) ∧ a.tmps[84]? = some (.int .i64 (i : Int)) ∧ a.tmps[7]? = some (.int .i64 (brsT C i : Int)) ∧ Below w.heap.size w w') (fun a _ => C.nodes.length - (intOf (a.tmps.getD 84 undef)).toNat) ?_ ?_
  · exact ⟨0, Nat.zero_le _, hs, hd, e0, e1, e5, e82, e83, e84, e7, Below.refl _ _⟩
  clear hs hd e84 e7 e0 e1 e5 e82 e83 a
  rintro a w3 ⟨i, hi, hs, hd, e0, e1, e5, e82, e83, e84, e7, hb3⟩
  have hm := slot e84
  obtain ⟨c, hc⟩ : ∃ c, c = brsT C i := ⟨_, rfl⟩
  have hcb : c ≤ 20 := by have := brsT_le C i; omega
  rw [← hc] at e7
  have HCC := Lib.hid hc
  clear hc; refine wp_seq_k fun Kq2 hKq2 => ?_
  by_cases hlt : i < C.nodes.length
  ·
    have dj : decide ((i : Int) < (C.nodes.length : Int)) = true := decide_eq_true (by omega)
    have hsz := hb3.size
    obtain ⟨nd, hnd⟩ : ∃ n, C.nodes[i]? = some n := ⟨_, List.getElem?_eq_getElem hlt⟩
    obtain ⟨ad, hA, hadb, hcl⟩ := reads_at ndc_len (HC.out.below (hb3.mono (Nat.le_of_lt hzg))).nodes hnd hlt
    have HCL := Lib.hid hcl
    have HA := Lib.hid hA
    have HND := Lib.hid hnd
    clear hcl hA hnd
    rw [HA.out] at e82
    refine sm_list [83, 84] 85 1 hs hd (by kernel_rfl) (agC e83 (agC e84 agN)) rfl ?_
    simp only [seval]
    go_wp2_with fail
    intro a H; replace hs := H.s hs; replace hd := H.d rfl; replace e83 := H.g 83 rfl rfl; replace e84 := H.g 84 rfl rfl; replace e0 := H.k e0 rfl; replace e1 := H.k e1 rfl; replace e5 := H.k e5 rfl; replace e82 := H.k e82 rfl; replace e7 := H.k e7 rfl; have e85 := H.g 85 rfl rfl; clear H; refine hKq2 _ _ ?_; clear hKq2 Kq2; refine wp_seq_k fun Kq3 hKq3 => ?_
    refine wp_cond_true (slotE e85) ?_
    clear e85; refine wp_skip ?_; refine hKq3 _ _ ?_; clear hKq3 Kq3; refine wp_seq_k fun Kq4 hKq4 => ?_; refine wp_block ?_; refine wp_seq_k fun Kq5 hKq5 => ?_
    refine sm_list [9, 82, 84] 86 2 hs hd (by kernel_rfl) (agU (agC e82 (agC e84 agN))) rfl ?_
    simp only [seval]
    go_wp2_with (first | (refine wpList_load_any_d rfl 55 (.tmp 3) rfl (ad.add (i * 2)) rfl (#[.int .i64 nd.ports, .bool nd.br]) _ (fun j u hu => HCL.out j u hu) Try.underlying55 rfl (by kernel_rfl) ?_) | (refine wpList_store_new rfl 55 (.tmp 0) (.tmp 4) rfl rfl rfl rfl rfl (by kernel_rfl) (by rw [← Array.all_toList]; rfl) ?_) | fail)
    intro a H; replace hs := H.s hs; replace hd := H.d rfl; replace e82 := H.g 82 rfl rfl; replace e84 := H.g 84 rfl rfl; replace e0 := H.k e0 rfl; replace e1 := H.k e1 rfl; replace e5 := H.k e5 rfl; replace e83 := H.k e83 rfl; replace e7 := H.k e7 rfl; have e9 := H.g 9 rfl rfl; clear H; refine hKq5 _ _ ?_; clear hKq5 Kq5; refine wp_seq_k fun Kq6 hKq6 => ?_
    rw [← HA.out] at e82
    have B9 := Blk.new w3 55 #[.int .i64 nd.ports, .bool nd.br]
    have hb4 : Below w.heap.size w (w3.alloc (.cells #[.int .i64 nd.ports, .bool nd.br] 55)) := hb3.trans (((Below.refl _ _).alloc (Nat.le_refl _) _ : Below w3.heap.size w3 (w3.alloc (.cells #[.int .i64 nd.ports, .bool nd.br] 55))).mono hsz)
    generalize (w3.alloc (.cells #[.int .i64 nd.ports, .bool nd.br] 55)) = w4 at *
    obtain ⟨g9, hg9⟩ : ∃ g, g = w3.heap.size := ⟨_, rfl⟩
    rw [← hg9] at B9 e9
    clear hg9 hb3 hsz dj
    have hbr : nd.br = true ∨ nd.br = false := by cases nd.br <;> simp
    rcases hbr with hbr | hbr
    ·
      rw [hbr] at B9
      have f1 := B9.cellOf (v := .bool true) 1 rfl
      have HB := Lib.hid hbr
      clear hbr
      refine sm_list [9] 88 2 hs hd (by kernel_rfl) (agC e9 agN) rfl ?_
      simp only [seval]
      go_wp2_with fail
      intro a H; replace hs := H.s hs; replace hd := H.d rfl; replace e9 := H.g 9 rfl rfl; replace e0 := H.k e0 rfl; replace e1 := H.k e1 rfl; replace e5 := H.k e5 rfl; replace e82 := H.k e82 rfl; replace e83 := H.k e83 rfl; replace e84 := H.k e84 rfl; replace e7 := H.k e7 rfl; have e89 := H.g 89 rfl rfl; clear H; refine hKq6 _ _ ?_; clear hKq6 Kq6
      refine wp_cond_true (slotE e89) ?_
      clear e89; clear f1 B9; clear e9
      refine sm_list [7] 90 2 hs hd (by kernel_rfl) (agC e7 agN) rfl ?_
      simp only [seval]
      go_wp2_with fail
      intro a H; replace hs := H.s hs; replace hd := H.d rfl; replace e0 := H.k e0 rfl; replace e1 := H.k e1 rfl; replace e5 := H.k e5 rfl; replace e82 := H.k e82 rfl; replace e83 := H.k e83 rfl; replace e84 := H.k e84 rfl; replace e7 := H.g 7 rfl rfl; clear H; refine hKq4 _ _ ?_; clear hKq4 Kq4
      refine sm_list [84] 92 1 hs hd (by kernel_rfl) (agC e84 agN) rfl ?_
      simp only [seval]
      go_wp2_with fail
      intro a H; replace hs := H.s hs; replace hd := H.d rfl; replace e0 := H.k e0 rfl; replace e1 := H.k e1 rfl; replace e5 := H.k e5 rfl; replace e82 := H.k e82 rfl; replace e83 := H.k e83 rfl; replace e7 := H.k e7 rfl; replace e84 := H.g 84 rfl rfl; clear H
      exact ⟨⟨i + 1, by omega, hs, hd, e0, e1, e5, e82, e83, e84, by rw [brsT_step HND.out, HB.out, ← HCC.out]; exact e7, hb4⟩, by first | (simp only [hm, slot e84, intOf]; omega) | (simp [e84, intOf]; omega)⟩
    ·
      rw [hbr] at B9
      have f1 := B9.cellOf (v := .bool false) 1 rfl
      have HB := Lib.hid hbr
      clear hbr
      refine sm_list [9] 88 2 hs hd (by kernel_rfl) (agC e9 agN) rfl ?_
      simp only [seval]
      go_wp2_with fail
      intro a H; replace hs := H.s hs; replace hd := H.d rfl; replace e9 := H.g 9 rfl rfl; replace e0 := H.k e0 rfl; replace e1 := H.k e1 rfl; replace e5 := H.k e5 rfl; replace e82 := H.k e82 rfl; replace e83 := H.k e83 rfl; replace e84 := H.k e84 rfl; replace e7 := H.k e7 rfl; have e89 := H.g 89 rfl rfl; clear H; refine hKq6 _ _ ?_; clear hKq6 Kq6
      refine wp_cond_false (slotE e89) ?_
      clear e89; refine wp_skip ?_; refine hKq4 _ _ ?_; clear hKq4 Kq4; clear f1 B9; clear e9
      refine sm_list [84] 92 1 hs hd (by kernel_rfl) (agC e84 agN) rfl ?_
      simp only [seval]
      go_wp2_with fail
      intro a H; replace hs := H.s hs; replace hd := H.d rfl; replace e0 := H.k e0 rfl; replace e1 := H.k e1 rfl; replace e5 := H.k e5 rfl; replace e82 := H.k e82 rfl; replace e83 := H.k e83 rfl; replace e7 := H.k e7 rfl; replace e84 := H.g 84 rfl rfl; clear H
      exact ⟨⟨i + 1, by omega, hs, hd, e0, e1, e5, e82, e83, e84, by rw [brsT_step HND.out, HB.out, ← HCC.out]; exact e7, hb4⟩, by first | (simp only [hm, slot e84, intOf]; omega) | (simp [e84, intOf]; omega)⟩
  · have hje : i = C.nodes.length := by omega
    have dj : decide ((i : Int) < (C.nodes.length : Int)) = false := decide_eq_false (by omega)
    have dj2 : decide (i < C.nodes.length) = false := decide_eq_false hlt
    rw [HCC.out, hje, brsT_all] at e7
    clear hlt hm hje
    refine sm_list [83, 84] 85 1 hs hd (by kernel_rfl) (agC e83 (agC e84 agN)) rfl ?_
    simp only [seval]
    go_wp2_with fail
    intro a H; replace hs := H.s hs; replace hd := H.d rfl; replace e83 := H.g 83 rfl rfl; replace e84 := H.g 84 rfl rfl; replace e0 := H.k e0 rfl; replace e1 := H.k e1 rfl; replace e5 := H.k e5 rfl; replace e82 := H.k e82 rfl; replace e7 := H.k e7 rfl; have e85 := H.g 85 rfl rfl; clear H; refine hKq2 _ _ ?_; clear hKq2 Kq2; refine wp_seq_k fun Kq3 hKq3 => ?_
    refine wp_cond_false (slotE e85) ?_
    clear e85; refine wp_exit ?_; refine exit_then rfl ?_; clear hKq3 Kq3; refine exit_then rfl ?_; refine exit_hit ?_
    exact HEND.out a w3 hs hd e0 e1 e5 e7 hb3
end Go.Proofs.Ytaegngcbiefckaa

namespace Go.Proofs.Ytaegngcbiefckaa
set_option linter.unusedSimpArgs false
set_option linter.unusedVariables false
open Go.RowKit Go.WideShapes Go.ChangeShapes

theorem RMade.two {C : Cf} {w w' : World} {e : Ending} (h : RMade C w w' e) : ∃ (k off : Int) (vW vS : Value), e = .returned (.tuple #[.agg #[.int .i64 off, vW, vS], .int .i64 k]) ∧ Below w.heap.size w w' ∧ (#[.int .i64 off, vW, vS] : Array Value).all (·.oneCell') = true ∧
    ((k ≠ 0 ∧ makeV C = .error k) ∨ (k = 0 ∧ off = offV C ∧ ∃ (S : List Sp) (W : List (Int × Int)) (Aw A : Option Addr) (cw c : Nat), makeV C = .ok (S, W) ∧ vW = .slice Aw W.length cw ∧ vS = .slice A S.length c ∧ Reads w' w'.heap.size 2 Aw W.length (W.flatMap spc) ∧ Reads w' w'.heap.size 4 A S.length (S.flatMap rsp) ∧ S.length ≤ 1000)) := by
  obtain ⟨h0, ⟨k, h1, rfl⟩ | ⟨S, W, vW, vS, h1, rfl, h3, h4, h5⟩⟩ := h
  · exact ⟨k, 0, _, _, rfl, h0, by rw [← Array.all_toList]; rfl, .inl ⟨make_err_ne h1, h1⟩⟩
  · obtain ⟨Aw, cw, rfl, _, r1⟩ := ownsRow_reads h3
    obtain ⟨A, c, rfl, _, r2⟩ := ownsRow_reads h4
    exact ⟨0, offV C, _, _, rfl, h0, by rw [← Array.all_toList]; rfl, .inr ⟨rfl, rfl, S, W, Aw, A, cw, c, h1, rfl, rfl, r1, r2, h5⟩⟩
end Go.Proofs.Ytaegngcbiefckaa

namespace Go.Proofs.Ytaegngcbiefckaa
set_option linter.unusedSimpArgs false
set_option linter.unusedVariables false
open Go.RowKit Go.WideShapes Go.ChangeShapes
attribute [local go_sem ↓] Go.wp_at_zero Go.wp_at_succ

def NamedTo (C : Cf) (w w' : World) (e : Ending) : Prop := (∃ Y : Lay, e = .returned (.tuple #[.agg (cfc C Y), .int .i64 0]) ∧ CfAt w' w'.heap.size C Y) ∧ Below w.heap.size w w'
theorem named_good {k x : Int} (h : (k = 0 ∧ 1 ≤ x ∧ x ≤ 6) ∨ (k = 1 ∧ 4 ≤ x ∧ x ≤ 8) ∨ (k = 2 ∧ 2 ≤ x ∧ x ≤ 8)) : ∃ (kk n b s : Nat) (C : Cf), k = (kk : Int) ∧ x = (n : Int) ∧ kk < 3 ∧ n ≤ 8 ∧ ((kk = 0 ∧ 1 ≤ n ∧ n ≤ 6) ∨ (kk = 1 ∧ 4 ≤ n ∧ n ≤ 8) ∨ (kk = 2 ∧ 2 ≤ n ∧ n ≤ 8)) ∧
    (#[.int .i64 (2 * (n : Int)), .int .i64 (n : Int), .int .i64 2] : Array Value)[kk]? = some (.int .i64 (b : Int)) ∧ (#[.int .i64 2, .int .i64 2, .int .i64 (n : Int)] : Array Value)[kk]? = some (.int .i64 (s : Int)) ∧ goodN b s C = true ∧
    ∀ w, Calls Try.prog 16 #[.int .i64 (kk : Int), .int .i64 (n : Int)] w fun e w' => NamedTo C w w' e := by
  rcases h with ⟨rfl, h1, h2⟩ | ⟨rfl, h1, h2⟩ | ⟨rfl, h1, h2⟩
  · obtain ⟨n, rfl⟩ := Int.eq_ofNat_of_zero_le (by omega : 0 ≤ x)
    have hn : 1 ≤ n ∧ n ≤ 6 := ⟨by omega, by omega⟩
    refine ⟨0, n, 2 * n, 2, fl0 n 8, rfl, rfl, by omega, by omega, .inl ⟨rfl, hn⟩, ?_, rfl, good0_all hn, fun w => named_zero n w hn⟩
    simp
  · obtain ⟨n, rfl⟩ := Int.eq_ofNat_of_zero_le (by omega : 0 ≤ x)
    have hn : 4 ≤ n ∧ n ≤ 8 := ⟨by omega, by omega⟩
    exact ⟨1, n, n, 2, fl1 n 8, rfl, rfl, by omega, by omega, .inr (.inl ⟨rfl, hn⟩), rfl, rfl, good1_all hn, fun w => named_one n w hn⟩
  · obtain ⟨n, rfl⟩ := Int.eq_ofNat_of_zero_le (by omega : 0 ≤ x)
    have hn : 2 ≤ n ∧ n ≤ 8 := ⟨by omega, by omega⟩
    exact ⟨2, n, 2, n, fl2 n 8, rfl, rfl, by omega, by omega, .inr (.inr ⟨rfl, hn⟩), rfl, rfl, good2_all hn, fun w => named_two n w hn⟩
set_option maxRecDepth 100000 in
set_option maxHeartbeats 4000000 in
theorem namedlaw_any (k x : Int) (w : World) : Calls Try.prog 4 #[.int .i64 k, .int .i64 x] w fun e w' => e = .returned (.bool true) ∧ Below w.heap.size w w' := by
  refine calls_sm (N := 167) Try.func4 rfl (by kernel_rfl) ?_
  intro a hs hd ha
  have e0 : a.tmps[0]? = some (.int .i64 k) := ha 0 _ rfl
  have e1 : a.tmps[1]? = some (.int .i64 x) := ha 1 _ rfl
  clear ha
  conv => arg 2; whnf
  refine wp_seq_k fun Kq1 hKq1 => ?_
  refine sm_list [] 4 1 hs hd (by kernel_rfl) agN rfl ?_
  simp only [seval]
  go_wp2_with fail
  intro a H; replace hs := H.s hs; replace hd := H.d rfl; replace e0 := H.k e0 rfl; replace e1 := H.k e1 rfl; have e4 := H.g 4 rfl rfl; clear H; refine hKq1 _ _ ?_; clear hKq1 Kq1; refine wp_seq_k fun Kq2 hKq2 => ?_; refine wp_seq_k fun Kq3 hKq3 => ?_
  have HH := Lib.hid (head_any w)
  refine sm_list [] 22 2 hs hd (by kernel_rfl) agN rfl ?_
  simp only [seval]
  go_wp2_with fail
  refine HH.out.mono ?_
  rintro e w2 ⟨rfl, hb2⟩
  go_wp2_with fail
  intro a H; replace hs := H.s hs; replace hd := H.d rfl; replace e0 := H.k e0 rfl; replace e1 := H.k e1 rfl; replace e4 := H.k e4 rfl; have e23 := H.g 23 rfl rfl; clear H; refine hKq3 _ _ ?_; clear hKq3 Kq3
  refine wp_cond_false (slotE e23) ?_
  clear e23; refine wp_skip ?_; refine hKq2 _ _ ?_; clear hKq2 Kq2; refine wp_seq_k fun Kq4 hKq4 => ?_; clear HH; clear e4
  rcases name_cases k x with hbad | hgood
  · have HNO := Lib.hid (named_no k x w2 hbad)
    have HB := Lib.hid (bad_parts hbad)
    clear hbad
    refine sm_list [0, 1, 5, 6] 24 6 hs hd (by kernel_rfl) (agC e0 (agC e1 (agU (agU agN)))) rfl ?_
    simp only [seval]
    go_wp2_with fail
    refine HNO.out.mono ?_
    rintro e w3 ⟨rfl, hb3⟩
    have HB3 := Lib.hid hb3
    clear hb3
    go_wp2_with (first | (refine wpList_store_new rfl 26 (.tmp 2) (.tmp 8) rfl rfl rfl rfl rfl (by kernel_rfl) (by rw [← Array.all_toList]; rfl) ?_) | fail)
    intro a H; replace hs := H.s hs; replace hd := H.d rfl; replace e0 := H.g 0 rfl rfl; replace e1 := H.g 1 rfl rfl; have e5 := H.g 5 rfl rfl; have e6 := H.g 6 rfl rfl; clear H; refine hKq4 _ _ ?_; clear hKq4 Kq4; refine wp_seq_k fun Kq5 hKq5 => ?_; refine wp_seq_k fun Kq6 hKq6 => ?_
    have B5 := Blk.new w3 26 #[.slice none 0 0, .slice none 0 0, .slice none 0 0, .int .i64 0, .int .i64 0, .int .i64 0, .int .i64 0, .int .i64 0]
    have hs3 := HB3.out.size
    have hb4 : Below w2.heap.size w2 (w3.alloc (.cells #[.slice none 0 0, .slice none 0 0, .slice none 0 0, .int .i64 0, .int .i64 0, .int .i64 0, .int .i64 0, .int .i64 0] 26)) := HB3.out.trans (((Below.refl _ _).alloc (Nat.le_refl _) _ : Below w3.heap.size w3 (w3.alloc (.cells #[.slice none 0 0, .slice none 0 0, .slice none 0 0, .int .i64 0, .int .i64 0, .int .i64 0, .int .i64 0, .int .i64 0] 26))).mono hs3)
    generalize (w3.alloc (.cells #[.slice none 0 0, .slice none 0 0, .slice none 0 0, .int .i64 0, .int .i64 0, .int .i64 0, .int .i64 0, .int .i64 0] 26)) = w4 at *
    clear HNO HB3 hs3
    suffices HK : ∀ (a' : Act), a'.tmps.size = a.tmps.size → a'.defers = [] → a'.tmps[0]? = a.tmps[0]? → a'.tmps[1]? = a.tmps[1]? → a'.tmps[5]? = a.tmps[5]? → a'.tmps[6]? = a.tmps[6]? → a'.tmps[64]? = some (.bool true) → Kq6 a' w4 by
      rcases HB.out with ⟨h1, h2, h3⟩ | ⟨rfl, h2⟩ | ⟨rfl, h2, h3⟩ | ⟨rfl, h2⟩ | ⟨rfl, h2, h3⟩ | ⟨rfl, h2⟩ | ⟨rfl, h2, h3⟩
      all_goals
        refine sm_list [0, 1] 30 35 hs hd (by kernel_rfl) (agC e0 (agC e1 agN)) rfl ?_
        simp only [seval]
        go_wp2_with fail
        all_goals
          intro a' H
          refine HK a' H.size H.defers ((H.got rfl rfl).trans e0.symm) ((H.got rfl rfl).trans e1.symm) (H.out 5 rfl) (H.out 6 rfl) ?_
          · (refine (H.got (t := 64) rfl rfl).trans (congrArg some ?_); first | rfl | simp_all)
    intro a' g_s g_d g0 g1 g5 g6 f64
    replace hs := g_s.trans hs; replace hd := g_d; replace e0 := g0.trans e0; replace e1 := g1.trans e1; replace e5 := g5.trans e5; replace e6 := g6.trans e6; clear g_s g_d g0 g1 g5 g6
    have e64 := f64
    clear f64; clear a
    obtain ⟨a, rfl⟩ : ∃ a, a = a' := ⟨_, rfl⟩
    refine hKq6 _ _ ?_; clear hKq6 Kq6
    refine wp_cond_true (slotE e64) ?_
    clear e64; refine wp_seq_k fun Kq7 hKq7 => ?_
    have y0 := B5.cellOf (v := .slice none 0 0) 0 rfl
    refine sm_list [4, 5, 6] 65 8 hs hd (by kernel_rfl) (agU (agC e5 (agC e6 agN))) rfl ?_
    simp only [seval]
    go_wp2_with fail
    intro a H; replace hs := H.s hs; replace hd := H.d rfl; replace e5 := H.g 5 rfl rfl; replace e6 := H.g 6 rfl rfl; replace e0 := H.k e0 rfl; replace e1 := H.k e1 rfl; have e4 := H.g 4 rfl rfl; clear H; refine hKq7 _ _ ?_; clear hKq7 Kq7; refine wp_ret ?_; refine exit_then rfl ?_
    exact sm_ret rfl hd e4 ⟨rfl, hb2.trans (hb4.mono hb2.size)⟩
  · obtain ⟨kk, n, b, s, C, rfl, rfl, hk3, hn8, hval, hab, has, hgd, hN⟩ := named_good hgood
    obtain ⟨hfl, hbr, hnl, hn20, hl70, hno, S, W, hmk, hWl⟩ := goodN_out hgd
    have HVAL := Lib.hid hval
    have HAB := Lib.hid (And.intro hab has)
    have HN := Lib.hid (hN w2)
    have HNO := Lib.hid hno
    have HMK := Lib.hid hmk
    have HLEN := Lib.hid (And.intro hfl (And.intro hbr (And.intro hnl hWl)))
    have hf20 : C.flows.length ≤ 20 := by omega
    clear hval hab has hN hno hmk hfl hbr hnl hWl hgd hgood
    refine sm_list [0, 1, 5, 6] 24 6 hs hd (by kernel_rfl) (agC e0 (agC e1 (agU (agU agN)))) rfl ?_
    simp only [seval]
    go_wp2_with fail
    refine HN.out.mono ?_
    rintro e w3 ⟨⟨Y, rfl, hat⟩, hb3⟩
    have HAT := Lib.hid hat
    have HB3 := Lib.hid hb3
    clear hat hb3
    go_wp2_with (first | (refine wpList_store_new rfl 26 (.tmp 2) (.tmp 8) rfl rfl rfl rfl rfl (by kernel_rfl) (by rw [← Array.all_toList]; rfl) ?_) | fail)
    intro a H; replace hs := H.s hs; replace hd := H.d rfl; replace e0 := H.g 0 rfl rfl; replace e1 := H.g 1 rfl rfl; have e5 := H.g 5 rfl rfl; have e6 := H.g 6 rfl rfl; clear H; refine hKq4 _ _ ?_; clear hKq4 Kq4; refine wp_seq_k fun Kq5 hKq5 => ?_; refine wp_seq_k fun Kq6 hKq6 => ?_
    have B5 := Blk.new w3 26 (cfc C Y)
    have hs3 := HB3.out.size
    have L4 : Below w3.heap.size w3 (w3.alloc (.cells (cfc C Y) 26)) := (Below.refl _ _).alloc (Nat.le_refl _) _
    have hb4 : Below w2.heap.size w2 (w3.alloc (.cells (cfc C Y) 26)) := HB3.out.trans (L4.mono hs3)
    have hC := HAT.out.below L4
    generalize (w3.alloc (.cells (cfc C Y) 26)) = w4 at *
    obtain ⟨g5, hg5⟩ : ∃ q, q = w3.heap.size := ⟨_, rfl⟩
    rw [← hg5] at B5 e5 hC
    have hb04 := hb2.trans (hb4.mono hb2.size)
    have hs04 := hb04.size
    clear HN HB3 hs3 hg5 HAT L4 hb4 hb2
    have hz5 : g5 < w4.heap.size := B5.lt
    suffices HK : ∀ (a' : Act), a'.tmps.size = a.tmps.size → a'.defers = [] → a'.tmps[0]? = a.tmps[0]? → a'.tmps[1]? = a.tmps[1]? → a'.tmps[5]? = a.tmps[5]? → a'.tmps[6]? = a.tmps[6]? → a'.tmps[64]? = some (.bool false) → Kq6 a' w4 by
      rcases HVAL.out with ⟨h1, h2, h3⟩ | ⟨h1, h2, h3⟩ | ⟨h1, h2, h3⟩
      all_goals subst h1
      all_goals first | (have d1 : decide ((1 : Int) ≤ (n : Int)) = true := decide_eq_true (by omega)) | skip
      all_goals first | (have d2 : decide ((n : Int) ≤ 6) = true := decide_eq_true (by omega)) | skip
      all_goals first | (have d3 : decide ((4 : Int) ≤ (n : Int)) = true := decide_eq_true (by omega)) | skip
      all_goals first | (have d4 : decide ((n : Int) ≤ 8) = true := decide_eq_true (by omega)) | skip
      all_goals first | (have d5 : decide ((2 : Int) ≤ (n : Int)) = true := decide_eq_true (by omega)) | skip
      all_goals first | (have d6 : decide (1 ≤ n) = true := decide_eq_true (by omega)) | skip
      all_goals first | (have d7 : decide (n ≤ 6) = true := decide_eq_true (by omega)) | skip
      all_goals first | (have d8 : decide (4 ≤ n) = true := decide_eq_true (by omega)) | skip
      all_goals first | (have d9 : decide (n ≤ 8) = true := decide_eq_true (by omega)) | skip
      all_goals first | (have d10 : decide (2 ≤ n) = true := decide_eq_true (by omega)) | skip
      all_goals
        refine sm_list [0, 1] 30 35 hs hd (by kernel_rfl) (agC e0 (agC e1 agN)) rfl ?_
        simp only [seval]
        go_wp2_with fail
        all_goals
          intro a' H
          refine HK a' H.size H.defers ((H.got rfl rfl).trans e0.symm) ((H.got rfl rfl).trans e1.symm) (H.out 5 rfl) (H.out 6 rfl) ?_
          · (refine (H.got (t := 64) rfl rfl).trans (congrArg some ?_); first | rfl | simp_all)
    intro a' g_s g_d g0 g1 g5 g6 f64
    replace hs := g_s.trans hs; replace hd := g_d; replace e0 := g0.trans e0; replace e1 := g1.trans e1; replace e5 := g5.trans e5; replace e6 := g6.trans e6; clear g_s g_d g0 g1 g5 g6
    have e64 := f64
    clear f64; clear a
    obtain ⟨a, rfl⟩ : ∃ a, a = a' := ⟨_, rfl⟩
    refine hKq6 _ _ ?_; clear hKq6 Kq6
    refine wp_cond_false (slotE e64) ?_
    clear e64; refine wp_skip ?_; refine hKq5 _ _ ?_; clear hKq5 Kq5; refine wp_seq_k fun Kq7 hKq7 => ?_; refine wp_seq_k fun Kq8 hKq8 => ?_
    have c2 := B5.cellOf (v := .slice Y.F.A C.flows.length Y.F.c) 2 rfl
    have dn : ((C.flows.length : Int) != 8) = false := by rw [HLEN.out.1]; rfl
    have dn2 : (C.flows.length != 8) = false := by rw [HLEN.out.1]; rfl
    refine sm_list [5, 6] 73 8 hs hd (by kernel_rfl) (agC e5 (agC e6 agN)) rfl ?_
    simp only [seval]
    go_wp2_with fail
    intro a H; replace hs := H.s hs; replace hd := H.d rfl; replace e5 := H.g 5 rfl rfl; replace e6 := H.g 6 rfl rfl; replace e0 := H.k e0 rfl; replace e1 := H.k e1 rfl; have e80 := H.g 80 rfl rfl; clear H; refine hKq8 _ _ ?_; clear hKq8 Kq8
    refine wp_cond_false (slotE e80) ?_
    clear e80; refine wp_skip ?_; refine hKq7 _ _ ?_; clear hKq7 Kq7; refine wp_seq_k fun Kq9 hKq9 => ?_; clear c2 dn dn2; clear e6
    refine sm_list [] 7 1 hs hd (by kernel_rfl) agN rfl ?_
    simp only [seval]
    go_wp2_with fail
    intro a H; replace hs := H.s hs; replace hd := H.d rfl; replace e0 := H.k e0 rfl; replace e1 := H.k e1 rfl; replace e5 := H.k e5 rfl; have e7 := H.g 7 rfl rfl; clear H; refine hKq9 _ _ ?_; clear hKq9 Kq9; refine wp_seq_k fun Kq10 hKq10 => ?_
    refine pn_count C Y g5 _ _ a w4 _ hs hd e0 e1 e5 e7 hC B5 hn20 ?_
    clear hs hd e0 e1 e5 e7 a
    intro a w5 hs hd e0 e1 e5 e7 hb5
    rw [HLEN.out.2.1] at e7
    have hs5 := hb5.size
    have B55 := B5.kept hb5
    have hC5 := hC.below (hb5.mono (Nat.le_of_lt hz5))
    have hb05 := hb04.trans (hb5.mono hs04)
    clear B5 hC hb04; refine hKq10 _ _ ?_; clear hKq10 Kq10; refine wp_seq_k fun Kq11 hKq11 => ?_
    refine sm_list [1, 10] 93 4 hs hd (by kernel_rfl) (agC e1 (agU agN)) rfl ?_
    simp only [seval]
    go_wp2_with (first | (refine wpList_store_new rfl 71 (.tmp 1) (.tmp 5) rfl rfl rfl rfl rfl (by kernel_rfl) (by rw [← Array.all_toList]; rfl) ?_) | fail)
    intro a H; replace hs := H.s hs; replace hd := H.d rfl; replace e1 := H.g 1 rfl rfl; replace e0 := H.k e0 rfl; replace e5 := H.k e5 rfl; replace e7 := H.k e7 rfl; have e10 := H.g 10 rfl rfl; clear H; refine hKq11 _ _ ?_; clear hKq11 Kq11; refine wp_seq_k fun Kq12 hKq12 => ?_
    have B10 := Blk.new w5 71 #[.int .i64 (2 * (n : Int)), .int .i64 (n : Int), .int .i64 2]
    have Lw6 : Below w5.heap.size w5 (w5.alloc (.cells #[.int .i64 (2 * (n : Int)), .int .i64 (n : Int), .int .i64 2] 71)) := (Below.refl _ _).alloc (Nat.le_refl _) _
    generalize (w5.alloc (.cells #[.int .i64 (2 * (n : Int)), .int .i64 (n : Int), .int .i64 2] 71)) = w6 at *
    obtain ⟨g10, hg10⟩ : ∃ q, q = w5.heap.size := ⟨_, rfl⟩
    rw [← hg10] at B10 e10
    clear hg10
    refine sm_list [1, 11] 97 2 hs hd (by kernel_rfl) (agC e1 (agU agN)) rfl ?_
    simp only [seval]
    go_wp2_with (first | (refine wpList_store_new rfl 71 (.tmp 1) (.tmp 3) rfl rfl rfl rfl rfl (by kernel_rfl) (by rw [← Array.all_toList]; rfl) ?_) | fail)
    intro a H; replace hs := H.s hs; replace hd := H.d rfl; replace e1 := H.g 1 rfl rfl; replace e0 := H.k e0 rfl; replace e5 := H.k e5 rfl; replace e7 := H.k e7 rfl; replace e10 := H.k e10 rfl; have e11 := H.g 11 rfl rfl; clear H; refine hKq12 _ _ ?_; clear hKq12 Kq12; refine wp_seq_k fun Kq13 hKq13 => ?_; refine wp_seq_k fun Kq14 hKq14 => ?_
    have B11 := Blk.new w6 71 #[.int .i64 2, .int .i64 2, .int .i64 (n : Int)]
    have Lw7 : Below w6.heap.size w6 (w6.alloc (.cells #[.int .i64 2, .int .i64 2, .int .i64 (n : Int)] 71)) := (Below.refl _ _).alloc (Nat.le_refl _) _
    generalize (w6.alloc (.cells #[.int .i64 2, .int .i64 2, .int .i64 (n : Int)] 71)) = w7 at *
    obtain ⟨g11, hg11⟩ : ∃ q, q = w6.heap.size := ⟨_, rfl⟩
    rw [← hg11] at B11 e11
    clear hg11
    have hs56 := Lw6.size
    have L57 : Below w5.heap.size w5 w7 := Lw6.trans (Lw7.mono hs56)
    have B57 := B55.kept L57
    have hz57 : g5 < w5.heap.size := B55.lt
    have hC7 := hC5.below (L57.mono (Nat.le_of_lt hz57))
    have B107 := B10.kept Lw7
    have hb07 := hb05.trans (L57.mono (Nat.le_trans hs04 hs5))
    have hz10 : g10 < w7.heap.size := B107.lt
    have hz11 : g11 < w7.heap.size := B11.lt
    have hz5w : g5 < w7.heap.size := B57.lt
    have a1 := B107.cellOf kk HAB.out.1
    have a2 := B11.cellOf kk HAB.out.2
    have c0 := B57.cellOf (v := .slice Y.N.A C.nodes.length Y.N.c) 0 rfl
    have dn : ((b : Int) != (b : Int)) = false := bne_self_eq_false _
    have ds : ((s : Int) != (s : Int)) = false := bne_self_eq_false _
    have hsub : (C.nodes.length : Int) - (b : Int) = (s : Int) := by have := HLEN.out.2.2.1; omega
    have hws : IntKind.i64.wrap (s : Int) = (s : Int) := wrap64 (by omega) (by have := HLEN.out.2.2.1; omega)
    have hwr : IntKind.i64.wrap ((C.nodes.length : Int) - (b : Int)) = (s : Int) := by rw [hsub]; exact wrap64 (by omega) (by have := HLEN.out.2.2.1; omega)
    have hk0 : (0 : Int) ≤ (kk : Int) := by omega
    have hk3I : (kk : Int) < 3 := by omega
    have hs07 := hb07.size
    clear B55 hC5 B10 Lw6 Lw7 hb05
    suffices HK : ∀ (a' : Act) (w8 : World), a'.tmps.size = a.tmps.size → a'.defers = [] → a'.tmps[0]? = a.tmps[0]? → a'.tmps[1]? = a.tmps[1]? → a'.tmps[5]? = a.tmps[5]? → a'.tmps[7]? = a.tmps[7]? → a'.tmps[10]? = a.tmps[10]? → a'.tmps[11]? = a.tmps[11]? → a'.tmps[114]? = some (.bool false) → Below w7.heap.size w7 w8 → Kq14 a' w8 by
      refine sm_any [0, 5, 7, 10, 11] 99 16 (by kernel_rfl) hs hd (by kernel_rfl) (agC e0 (agC e5 (agC e7 (agC e10 (agC e11 agN))))) rfl (any_class (fun w' => Below w7.heap.size w7 w') (by kernel_rfl) ((Below.refl _ _).drew) ?_)
      simp only [seval]
      repeat (first | (with_reducible (refine wpQuiet_skip ?_ ?_); (first | exact wanted_off rfl rfl rfl rfl | exact wanted_off2 rfl rfl rfl); simp only [Act.put, List.setIfInBounds_toArray, List.set_cons_zero, List.set_cons_succ]) | (with_reducible (refine wpQuiet_val (v := ?_) ?_ ?_ ?_); rotate_left; (first | exact wanted_none rfl | exact wanted_on rfl rfl rfl); (intro w' hw'; obtain ⟨hc, hf⟩ := bcell hw'; go_simp; with_reducible rfl); simp only [Act.put, List.setIfInBounds_toArray, List.set_cons_zero, List.set_cons_succ]))
      refine wpQuiet_nil ?_
      intro w8 hw6
      all_goals
        intro a' H
        refine HK a' _ H.size H.defers ((H.got rfl rfl).trans e0.symm) (H.out 1 rfl) ((H.got rfl rfl).trans e5.symm) ((H.got rfl rfl).trans e7.symm) ((H.got rfl rfl).trans e10.symm) ((H.got rfl rfl).trans e11.symm) ?_ ?_
        · (refine (H.got (t := 114) rfl rfl).trans (congrArg some ?_); first | rfl | simp)
        · exact hw6
    intro a' w8 g_s g_d g0 g1 g5 g7 g10 g11 f114 b8
    replace hs := g_s.trans hs; replace hd := g_d; replace e0 := g0.trans e0; replace e1 := g1.trans e1; replace e5 := g5.trans e5; replace e7 := g7.trans e7; replace e10 := g10.trans e10; replace e11 := g11.trans e11; clear g_s g_d g0 g1 g5 g7 g10 g11
    have e114 := f114
    clear f114; clear a
    obtain ⟨a, rfl⟩ : ∃ a, a = a' := ⟨_, rfl⟩
    refine hKq14 _ _ ?_; clear hKq14 Kq14
    refine wp_cond_false (slotE e114) ?_
    clear e114; refine wp_skip ?_; refine hKq13 _ _ ?_; clear hKq13 Kq13; refine wp_seq_k fun Kq15 hKq15 => ?_; clear a1 a2 c0 dn ds hsub hws hwr hk0 hk3I
    have B58 := B57.kept b8
    have hz7 : g5 < w7.heap.size := B57.lt
    have hC8 := hC7.below (b8.mono (Nat.le_of_lt hz7))
    have hb08 := hb07.trans (b8.mono hs07)
    have hs08 := hb08.size
    clear B57 hC7 hb07 b8 B107 B11; clear e7; clear e10; clear e11
    refine pn_flows C Y g5 _ _ a w8 _ hs hd e0 e1 e5 hC8 B58 hf20 HNO.out ?_
    clear hs hd e0 e1 e5 a
    intro a w9 hs hd e0 e1 e5 hb9
    have B59 := B58.kept hb9
    have hz8 : g5 < w8.heap.size := B58.lt
    have hC9 := hC8.below (hb9.mono (Nat.le_of_lt hz8))
    have hb09 := hb08.trans (hb9.mono hs08)
    have hs09 := hb09.size
    clear B58 hC8 hb08; refine hKq15 _ _ ?_; clear hKq15 Kq15; refine wp_seq_k fun Kq16 hKq16 => ?_
    have hz9 : g5 < w9.heap.size := B59.lt
    have HPL := Lib.hid (plain_any C Y w9 (hC9.more (Nat.le_of_lt hz9)) ⟨hn20, hl70, hf20⟩)
    refine sm_list [5, 18, 19] 144 6 hs hd (by kernel_rfl) (agC e5 (agU (agU agN))) rfl ?_
    simp only [seval]
    go_wp2_with (first | (refine wpList_load_any_d rfl 26 (.tmp 0) rfl ⟨g5, 0, none⟩ rfl (cfc C Y) _ (blk_cells B59) Try.underlying26 rfl (by kernel_rfl) ?_) | fail)
    refine HPL.out.mono ?_
    rintro e w10 ⟨R, rfl, hR, hb10⟩
    have HB10 := Lib.hid hb10
    have HRM := Lib.hid (rmake_any C R w10 hR ⟨hn20, hl70, hf20⟩)
    clear hb10 hR
    go_wp2_with fail
    refine HRM.out.mono ?_
    intro e w11 hm
    obtain ⟨kr, offr, vWr, vSr, rfl, hb11, h1r, hp11⟩ := hm.two
    have HB11 := Lib.hid hb11
    have hkr : kr = 0 := by
      rcases hp11 with ⟨_, h2⟩ | ⟨h1, _⟩
      · rw [HMK.out] at h2; cases h2
      · exact h1
    subst hkr
    clear hm hp11 hb11
    go_wp2_with (first | (refine wpList_store_new rfl 47 (.tmp 1) (.tmp 7) rfl rfl rfl rfl rfl (by kernel_rfl) h1r ?_) | fail)
    intro a H; replace hs := H.s hs; replace hd := H.d rfl; replace e5 := H.g 5 rfl rfl; replace e0 := H.k e0 rfl; replace e1 := H.k e1 rfl; have e19 := H.g 19 rfl rfl; clear H; refine hKq16 _ _ ?_; clear hKq16 Kq16; refine wp_seq_k fun Kq17 hKq17 => ?_; have hs10 := HB10.out.size
    have L911 : Below w9.heap.size w9 w11 := HB10.out.trans (HB11.out.mono hs10)
    have L912 : Below w9.heap.size w9 (w11.alloc (.cells #[.int .i64 offr, vWr, vSr] 47)) := L911.alloc L911.size _
    generalize (w11.alloc (.cells #[.int .i64 offr, vWr, vSr] 47)) = w12 at *
    have B512 := B59.kept L912
    have hC12 := hC9.below (L912.mono (Nat.le_of_lt hz9))
    have hb012 := hb09.trans (L912.mono hs09)
    have hs012 := hb012.size
    have hz12 : g5 < w12.heap.size := B512.lt
    clear HPL HRM HB10 HB11 L911 L912 B59 hC9 hb09 h1r
    have HM := Lib.hid (make_any C Y w12 (hC12.more (Nat.le_of_lt hz12)))
    refine sm_list [5, 20, 21] 150 5 hs hd (by kernel_rfl) (agC e5 (agU (agU agN))) rfl ?_
    simp only [seval]
    go_wp2_with (first | (refine wpList_load_any_d rfl 26 (.tmp 0) rfl ⟨g5, 0, none⟩ rfl (cfc C Y) _ (blk_cells B512) Try.underlying26 rfl (by kernel_rfl) ?_) | fail)
    refine HM.out.mono ?_
    intro e wx hmade
    obtain ⟨ka, offa, wva, mva, rfl, hbx, h1c, hpa⟩ := hmade.two
    have HPA := Lib.hid hpa
    have HBX := Lib.hid hbx
    clear hmade hpa hbx
    go_wp2_with (first | (refine wpList_store_new rfl 32 (.tmp 1) (.tmp 6) rfl rfl rfl rfl rfl (by kernel_rfl) h1c ?_) | fail)
    intro a H; replace hs := H.s hs; replace hd := H.d rfl; replace e5 := H.g 5 rfl rfl; replace e0 := H.k e0 rfl; replace e1 := H.k e1 rfl; replace e19 := H.k e19 rfl; have e20 := H.g 20 rfl rfl; have e21 := H.g 21 rfl rfl; clear H; refine hKq17 _ _ ?_; clear hKq17 Kq17; refine wp_seq_k fun Kq18 hKq18 => ?_
    have B20 := Blk.new wx 32 #[.int .i64 offa, wva, mva]
    have hbz : Below w12.heap.size w12 (wx.alloc (.cells #[.int .i64 offa, wva, mva] 32)) := HBX.out.alloc HBX.out.size _
    generalize (wx.alloc (.cells #[.int .i64 offa, wva, mva] 32)) = wz at *
    rcases HPA.out with ⟨hk, hm, _⟩ | ⟨rfl, _, S2, W2, B1, gG, mg, fg, hm, rfl, _, _, OW, _⟩
    · rw [HMK.out] at hm; cases hm
    obtain ⟨Aw, cw, rfl, _, _⟩ := ownsRow_reads OW
    have hW8 : W2.length = 8 := by rw [HMK.out] at hm; injection hm with h; injection h with h1 h2; rw [← h2]; exact HLEN.out.2.2.2
    rw [hW8] at B20
    have y1 := B20.cellOf (v := .slice Aw 8 cw) 1 rfl
    have hb0z := hb012.trans (hbz.mono hs012)
    clear HM HBX h1c HPA hm OW hW8 B512 hC12
    refine sm_list [4, 19, 20, 21] 155 12 hs hd (by kernel_rfl) (agU (agC e19 (agC e20 (agC e21 agN)))) rfl ?_
    simp only [seval]
    go_wp2_with fail
    intro a H; replace hs := H.s hs; replace hd := H.d rfl; replace e19 := H.g 19 rfl rfl; replace e20 := H.g 20 rfl rfl; replace e21 := H.g 21 rfl rfl; replace e0 := H.k e0 rfl; replace e1 := H.k e1 rfl; replace e5 := H.k e5 rfl; have e4 := H.g 4 rfl rfl; clear H; refine hKq18 _ _ ?_; clear hKq18 Kq18; refine wp_ret ?_
    exact sm_ret rfl hd e4 ⟨rfl, hb0z⟩
end Go.Proofs.Ytaegngcbiefckaa
