/-
  HostChecks: the walk.
-/
import Derived.Test.YthhlfojaloaooaaGreatRows
import Derived.Test.YthhlfojaloaooaaGreatHnLbZ
import Derived.WalkKit
import Derived.ProofKit
import Derived.OpenShut
import Derived.LoopTactic
import Derived.WalkLawsBesides
import Derived.WalkSpells
import Derived.Outline
import Derived.Lib.Hide
import Derived.Deep.DrawnRows
import Derived.Laws.CopyOwn
import Derived.MapKept
namespace Go.Proofs.YthhlfojaloaooaaGreat
set_option linter.unusedSimpArgs false
set_option linter.unusedVariables false
open Go.RowKit Go.WideShapes Go.ChangeShapes
attribute [local go_sem ↓] Go.wp_at_zero Go.wp_at_succ

/-- Within a look at an end's two ports: what is wanted so far. -/
inductive InW (P : Int) (e : Ed) (K : Int) : Nat → Int → Prop
  | z : InW P e K 0 K
  | o (h : K = 0) : InW P e K 1 (if e.p0 < 0 ∨ P ≤ e.p0 then 40 else 0)
  | t (h : K = 0) (h1 : ¬ (e.p0 < 0 ∨ P ≤ e.p0)) : InW P e K 2 (if e.p1 < 0 ∨ P ≤ e.p1 then 40 else 0)
theorem InW.le {P : Int} {e : Ed} {K : Int} {k : Nat} {t : Int} (h : InW P e K k t) : k ≤ 2 := by cases h <;> omega
theorem endsErr_snoc {P : Int} {e : Ed} : ∀ {l : List Ed}, endsErr P (l ++ [e]) = if endsErr P l = 0 then endErr P e else endsErr P l
  | [] => by
    show (if endErr P e = 0 then 0 else endErr P e) = endErr P e
    by_cases h : endErr P e = 0
    · rw [if_pos h, h]
    · rw [if_neg h]
  | x :: l => by
    show (if endErr P x = 0 then endsErr P (l ++ [e]) else endErr P x) = if (if endErr P x = 0 then endsErr P l else endErr P x) = 0 then endErr P e else (if endErr P x = 0 then endsErr P l else endErr P x)
    by_cases h : endErr P x = 0
    · rw [if_pos h, if_pos h]; exact endsErr_snoc
    · rw [if_neg h, if_neg h, if_neg h]
def stepE (K x : Int) : Int := if K = 0 then x else K
theorem stepE_0 {x : Int} : stepE 0 x = x := if_pos rfl
theorem stepE_n {K x : Int} (h : K ≠ 0) : stepE K x = K := if_neg h
theorem endsErr_take {P : Int} {e : Ed} {es : List Ed} {j : Nat} (he : es[j]? = some e) : endsErr P (es.take (j + 1)) = stepE (endsErr P (es.take j)) (endErr P e) := by
  unfold stepE
  obtain ⟨h1, h2⟩ := List.getElem?_eq_some_iff.1 he
  rw [List.take_succ_eq_append_getElem h1, h2, endsErr_snoc]
set_option maxRecDepth 100000 in
set_option maxHeartbeats 4000000 in
theorem hostChecks_calls (id P r : Int) (rl : Bool) (es : List Ed) (A : Option Addr) (n c : Nat) (w : World) (hl : es.length = n) (hr : Reads w w.heap.size 13 A n (es.flatMap Ed.cells)) : Calls Tryz.prog 5 #[.int .i64 id, .int .i64 P, .bool rl, .slice A n c, .int .i64 r] w fun e w' => e = .returned (.bool true) ∧ Below w.heap.size w w' := by
  have HR := Lib.hid (And.intro hr hl)
  clear hr hl
  refine calls_sm (N := 160) Tryz.func5 rfl (by kernel_rfl) ?_
  intro a hs hd ha
  have e0 : a.tmps[0]? = some (.int .i64 id) := ha 0 _ rfl
  have e1 : a.tmps[1]? = some (.int .i64 P) := ha 1 _ rfl
  have e2 : a.tmps[2]? = some (.bool rl) := ha 2 _ rfl
  have e3 : a.tmps[3]? = some (.slice A n c) := ha 3 _ rfl
  have e4 : a.tmps[4]? = some (.int .i64 r) := ha 4 _ rfl
  clear ha
  conv => arg 2; whnf
  refine wp_seq_k fun Kq1 hKq1 => ?_
  refine sm_list [] 10 1 hs hd (by kernel_rfl) agN rfl ?_
  simp only [seval]
  go_wp2_with fail
  intro a H; replace hs := H.s hs; replace hd := H.d rfl; replace e0 := H.k e0 rfl; replace e1 := H.k e1 rfl; replace e2 := H.k e2 rfl; replace e3 := H.k e3 rfl; replace e4 := H.k e4 rfl; have e10 := H.g 10 rfl rfl; clear H; refine hKq1 _ _ ?_; clear hKq1 Kq1; refine wp_seq_k fun Kq2 hKq2 => ?_; refine wp_seq_k fun Kq3 hKq3 => ?_
  refine sm_list [] 23 2 hs hd (by kernel_rfl) agN rfl ?_
  simp only [seval]
  go_wp2_with fail
  refine (head_any w).mono ?_
  rintro e w1 ⟨rfl, hb1⟩
  have HL1 := Lib.hid hb1
  clear hb1
  go_wp2_with fail
  intro a H; replace hs := H.s hs; replace hd := H.d rfl; replace e0 := H.k e0 rfl; replace e1 := H.k e1 rfl; replace e2 := H.k e2 rfl; replace e3 := H.k e3 rfl; replace e4 := H.k e4 rfl; replace e10 := H.k e10 rfl; have e24 := H.g 24 rfl rfl; clear H; refine hKq3 _ _ ?_; clear hKq3 Kq3
  refine wp_cond_false (slotE e24) ?_
  clear e24; refine wp_skip ?_; refine hKq2 _ _ ?_; clear hKq2 Kq2; refine wp_seq_k fun Kq4 hKq4 => ?_; refine wp_seq_k fun Kq5 hKq5 => ?_
  by_cases h70 : 70 < n
  ·
    have d1 : decide (70 < n) = true := decide_eq_true h70
    have d1b : (70 : Int) < (n : Int) := by omega
    refine sm_list [3] 25 3 hs hd (by kernel_rfl) (agC e3 agN) rfl ?_
    simp only [seval]
    go_wp2_with fail
    intro a H; replace hs := H.s hs; replace hd := H.d rfl; replace e3 := H.g 3 rfl rfl; replace e0 := H.k e0 rfl; replace e1 := H.k e1 rfl; replace e2 := H.k e2 rfl; replace e4 := H.k e4 rfl; replace e10 := H.k e10 rfl; have e27 := H.g 27 rfl rfl; clear H; refine hKq5 _ _ ?_; clear hKq5 Kq5
    refine wp_cond_true (slotE e27) ?_
    clear e27; refine wp_seq_k fun Kq6 hKq6 => ?_
    refine sm_list [] 10 1 hs hd (by kernel_rfl) agN rfl ?_
    simp only [seval]
    go_wp2_with fail
    intro a H; replace hs := H.s hs; replace hd := H.d rfl; replace e0 := H.k e0 rfl; replace e1 := H.k e1 rfl; replace e2 := H.k e2 rfl; replace e3 := H.k e3 rfl; replace e4 := H.k e4 rfl; replace e10 := H.g 10 rfl rfl; clear H; refine hKq6 _ _ ?_; clear hKq6 Kq6; refine wp_ret ?_; refine exit_then rfl ?_
    exact sm_ret rfl hd e10 ⟨rfl, HL1.out⟩
  have d1 : decide (70 < n) = false := decide_eq_false h70
  have d1b : decide ((70 : Int) < (n : Int)) = false := decide_eq_false (by omega)
  refine sm_list [3] 25 3 hs hd (by kernel_rfl) (agC e3 agN) rfl ?_
  simp only [seval]
  go_wp2_with fail
  intro a H; replace hs := H.s hs; replace hd := H.d rfl; replace e3 := H.g 3 rfl rfl; replace e0 := H.k e0 rfl; replace e1 := H.k e1 rfl; replace e2 := H.k e2 rfl; replace e4 := H.k e4 rfl; replace e10 := H.k e10 rfl; have e27 := H.g 27 rfl rfl; clear H; refine hKq5 _ _ ?_; clear hKq5 Kq5
  refine wp_cond_false (slotE e27) ?_
  clear e27; refine wp_skip ?_; refine hKq4 _ _ ?_; clear hKq4 Kq4; refine wp_seq_k fun Kq6 hKq6 => ?_
  have HN := Lib.hid h70
  clear d1 d1b h70
  refine sm_list [0, 1, 11] 28 3 hs hd (by kernel_rfl) (agC e0 (agC e1 (agU agN))) rfl ?_
  simp only [seval]
  go_wp2_with fail
  refine (conf_any id P w1).mono ?_
  rintro x w2 ⟨rfl, hb2⟩
  have L2 := HL1.out.trans (hb2.mono HL1.out.size); clear hb2
  go_wp2_with (first | (refine wpList_store_new rfl 42 (.tmp 2) (.tmp 5) rfl rfl rfl rfl rfl (by kernel_rfl) (by rw [← Array.all_toList]; rfl) ?_) | fail)
  intro a H; replace hs := H.s hs; replace hd := H.d rfl; replace e0 := H.g 0 rfl rfl; replace e1 := H.g 1 rfl rfl; replace e2 := H.k e2 rfl; replace e3 := H.k e3 rfl; replace e4 := H.k e4 rfl; replace e10 := H.k e10 rfl; have e11 := H.g 11 rfl rfl; clear H; refine hKq6 _ _ ?_; clear hKq6 Kq6; refine wp_seq_k fun Kq7 hKq7 => ?_
  have B := Blk.new w2 42 (cfc id P)
  have L3 := L2.alloc L2.size (.cells (cfc id P) 42)
  generalize hw3 : w2.alloc (.cells (cfc id P) 42) = w3 at B L3 ⊢
  obtain ⟨q, hq⟩ : ∃ q, q = w2.heap.size := ⟨_, rfl⟩
  have hqw : w.heap.size ≤ q := by have := L2.size; omega
  rw [← hq] at B e11
  clear hw3 hq L2 HL1
  have q2 := B.cellOf (v := .bool false) 2 rfl
  have fz := B.frozen
  have lz := B.lt
  have HB := Lib.hid (And.intro B (And.intro L3 hqw))
  clear B L3 hqw
  refine sm_list [2, 11] 31 2 hs hd (by kernel_rfl) (agC e2 (agC e11 agN)) rfl ?_
  simp only [seval]
  go_wp2_with fail
  intro a H; replace hs := H.s hs; replace hd := H.d rfl; replace e2 := H.g 2 rfl rfl; replace e11 := H.g 11 rfl rfl; replace e0 := H.k e0 rfl; replace e1 := H.k e1 rfl; replace e3 := H.k e3 rfl; replace e4 := H.k e4 rfl; replace e10 := H.k e10 rfl; clear H; refine hKq7 _ _ ?_; clear hKq7 Kq7; refine wp_seq_k fun Kq8 hKq8 => ?_; have gs := gr_set (grownBy_refl w3 (some q)) 2 (.bool rl); have B4 := HB.out.1.set_ 2 (.bool rl)
  have L4 := HB.out.2.1.grown gs HB.out.2.1.size (fun k hk => by cases hk; exact HB.out.2.2)
  generalize w3.setCell ⟨q, 2, none⟩ (.bool rl) = w4 at B4 L4 ⊢
  clear gs q2 fz lz HB
  cases rl
  rotate_left
  · have B5 : Blk w4 q 42 #[.int .i64 id, .int .i64 P, .bool true, .int .i64 0, .int .i64 0, .int .i64 0, .int .i64 id, .int .i64 0, .int .i64 0, .int .i64 0, .int .i64 id, .int .i64 1000000, .slice none 0 0] := B4
    have HB := Lib.hid (And.intro B5 L4)
    clear B4 B5 L4
    refine sm_list [3, 4, 11, 12, 13] 33 7 hs hd (by kernel_rfl) (agC e3 (agC e4 (agC e11 (agU (agU agN))))) rfl ?_
    simp only [seval]
    go_wp2_with (first | (refine wpList_load_any_d rfl 42 (.tmp 2) rfl ⟨q, 0, none⟩ rfl #[.int .i64 id, .int .i64 P, .bool true, .int .i64 0, .int .i64 0, .int .i64 0, .int .i64 id, .int .i64 0, .int .i64 0, .int .i64 0, .int .i64 id, .int .i64 1000000, .slice none 0 0] _ (blk_cells HB.out.1) Tryz.underlying42 rfl (by kernel_rfl) ?_) | fail)
    refine (hoNew_relay id P r _ w4).mono ?_
    rintro x w5 ⟨hb5, rfl⟩
    have L5 := HB.out.2.trans (hb5.mono HB.out.2.size); clear hb5
    go_wp2_with fail
    intro a H; replace hs := H.s hs; replace hd := H.d rfl; replace e3 := H.g 3 rfl rfl; replace e4 := H.g 4 rfl rfl; replace e11 := H.g 11 rfl rfl; replace e0 := H.k e0 rfl; replace e1 := H.k e1 rfl; replace e2 := H.k e2 rfl; replace e10 := H.k e10 rfl; have e12 := H.g 12 rfl rfl; have e13 := H.g 13 rfl rfl; clear H; refine hKq8 _ _ ?_; clear hKq8 Kq8; refine wp_seq_k fun Kq9 hKq9 => ?_
    refine sm_list [] 14 1 hs hd (by kernel_rfl) agN rfl ?_
    simp only [seval]
    go_wp2_with fail
    intro a H; replace hs := H.s hs; replace hd := H.d rfl; replace e0 := H.k e0 rfl; replace e1 := H.k e1 rfl; replace e2 := H.k e2 rfl; replace e3 := H.k e3 rfl; replace e4 := H.k e4 rfl; replace e10 := H.k e10 rfl; replace e11 := H.k e11 rfl; replace e12 := H.k e12 rfl; replace e13 := H.k e13 rfl; have e14 := H.g 14 rfl rfl; clear H; refine hKq9 _ _ ?_; clear hKq9 Kq9; refine wp_seq_k fun Kq10 hKq10 => ?_
    refine wp_block ?_; refine wp_seq_k fun Kq11 hKq11 => ?_
    refine sm_list [2, 3, 4] 95 15 hs hd (by kernel_rfl) (agC e2 (agC e3 (agC e4 agN))) rfl ?_
    simp only [seval]
    go_wp2_with fail
    intro a H; replace hs := H.s hs; replace hd := H.d rfl; replace e2 := H.g 2 rfl rfl; replace e3 := H.g 3 rfl rfl; replace e4 := H.g 4 rfl rfl; replace e0 := H.k e0 rfl; replace e1 := H.k e1 rfl; replace e10 := H.k e10 rfl; replace e11 := H.k e11 rfl; replace e12 := H.k e12 rfl; replace e13 := H.k e13 rfl; replace e14 := H.k e14 rfl; have e95 := H.g 95 rfl rfl; clear H; refine hKq11 _ _ ?_; clear hKq11 Kq11
    refine wp_cond_true (slotE e95) ?_
    clear e95
    refine sm_list [] 14 1 hs hd (by kernel_rfl) agN rfl ?_
    simp only [seval]
    go_wp2_with fail
    intro a H; replace hs := H.s hs; replace hd := H.d rfl; replace e0 := H.k e0 rfl; replace e1 := H.k e1 rfl; replace e2 := H.k e2 rfl; replace e3 := H.k e3 rfl; replace e4 := H.k e4 rfl; replace e10 := H.k e10 rfl; replace e11 := H.k e11 rfl; replace e12 := H.k e12 rfl; replace e13 := H.k e13 rfl; replace e14 := H.g 14 rfl rfl; clear H; refine hKq10 _ _ ?_; clear hKq10 Kq10; refine wp_seq_k fun Kq12 hKq12 => ?_
    refine wp_seq_k fun Kq13 hKq13 => ?_
    refine sm_list [13, 14] 110 3 hs hd (by kernel_rfl) (agC e13 (agC e14 agN)) rfl ?_
    simp only [seval]
    go_wp2_with fail
    intro a H; replace hs := H.s hs; replace hd := H.d rfl; replace e13 := H.g 13 rfl rfl; replace e14 := H.g 14 rfl rfl; replace e0 := H.k e0 rfl; replace e1 := H.k e1 rfl; replace e2 := H.k e2 rfl; replace e3 := H.k e3 rfl; replace e4 := H.k e4 rfl; replace e10 := H.k e10 rfl; replace e11 := H.k e11 rfl; replace e12 := H.k e12 rfl; have e112 := H.g 112 rfl rfl; clear H; refine hKq13 _ _ ?_; clear hKq13 Kq13
    refine wp_cond_false (slotE e112) ?_
    clear e112; refine wp_skip ?_; refine hKq12 _ _ ?_; clear hKq12 Kq12; refine wp_seq_k fun Kq14 hKq14 => ?_; refine wp_seq_k fun Kq15 hKq15 => ?_
    refine sm_list [14] 113 2 hs hd (by kernel_rfl) (agC e14 agN) rfl ?_
    simp only [seval]
    go_wp2_with fail
    intro a H; replace hs := H.s hs; replace hd := H.d rfl; replace e14 := H.g 14 rfl rfl; replace e0 := H.k e0 rfl; replace e1 := H.k e1 rfl; replace e2 := H.k e2 rfl; replace e3 := H.k e3 rfl; replace e4 := H.k e4 rfl; replace e10 := H.k e10 rfl; replace e11 := H.k e11 rfl; replace e12 := H.k e12 rfl; replace e13 := H.k e13 rfl; have e114 := H.g 114 rfl rfl; clear H; refine hKq15 _ _ ?_; clear hKq15 Kq15
    refine wp_cond_true (slotE e114) ?_
    clear e114; refine wp_seq_k fun Kq16 hKq16 => ?_
    refine sm_list [12, 18, 19, 20] 115 6 hs hd (by kernel_rfl) (agC e12 (agU (agU (agU agN)))) rfl ?_
    simp only [seval]
    go_wp2_with fail
    refine (hSend_nil 0 _ _).mono ?_
    rintro x w6 ⟨rfl, rfl⟩
    go_wp2_with fail
    intro a H; replace hs := H.s hs; replace hd := H.d rfl; replace e12 := H.g 12 rfl rfl; replace e0 := H.k e0 rfl; replace e1 := H.k e1 rfl; replace e2 := H.k e2 rfl; replace e3 := H.k e3 rfl; replace e4 := H.k e4 rfl; replace e10 := H.k e10 rfl; replace e11 := H.k e11 rfl; replace e13 := H.k e13 rfl; replace e14 := H.k e14 rfl; have e20 := H.g 20 rfl rfl; clear H; refine hKq16 _ _ ?_; clear hKq16 Kq16
    refine wp_seq_k fun Kq17 hKq17 => ?_
    refine sm_list [12, 21, 22] 121 5 hs hd (by kernel_rfl) (agC e12 (agU (agU agN))) rfl ?_
    simp only [seval]
    go_wp2_with fail
    refine (hIn_nil 0 _ _ _).mono ?_
    rintro x w6 ⟨rfl, rfl⟩
    go_wp2_with fail
    intro a H; replace hs := H.s hs; replace hd := H.d rfl; replace e12 := H.g 12 rfl rfl; replace e0 := H.k e0 rfl; replace e1 := H.k e1 rfl; replace e2 := H.k e2 rfl; replace e3 := H.k e3 rfl; replace e4 := H.k e4 rfl; replace e10 := H.k e10 rfl; replace e11 := H.k e11 rfl; replace e13 := H.k e13 rfl; replace e14 := H.k e14 rfl; replace e20 := H.k e20 rfl; have e21 := H.g 21 rfl rfl; have e22 := H.g 22 rfl rfl
    clear H; refine hKq17 _ _ ?_; clear hKq17 Kq17; refine wp_seq_k fun Kq18 hKq18 => ?_
    refine sm_list [10, 12, 20, 21, 22] 126 31 hs hd (by kernel_rfl) (agC e10 (agC e12 (agC e20 (agC e21 (agC e22 agN))))) rfl ?_
    simp only [seval]
    go_wp2_with fail
    refine (hNode_nil _).mono ?_
    rintro x w6 ⟨rfl, rfl⟩
    go_wp2_with fail
    refine (hAgain_nil _).mono ?_
    rintro x w6 ⟨rfl, rfl⟩
    go_wp2_with fail
    refine (hStray_nil _).mono ?_
    rintro x w6 ⟨rfl, rfl⟩
    go_wp2_with fail
    intro a H; replace hs := H.s hs; replace hd := H.d rfl; replace e12 := H.g 12 rfl rfl; replace e20 := H.g 20 rfl rfl; replace e21 := H.g 21 rfl rfl; replace e22 := H.g 22 rfl rfl; replace e0 := H.k e0 rfl; replace e1 := H.k e1 rfl; replace e2 := H.k e2 rfl; replace e3 := H.k e3 rfl; replace e4 := H.k e4 rfl; replace e11 := H.k e11 rfl; replace e13 := H.k e13 rfl; replace e14 := H.k e14 rfl; replace e10 := H.g 10 rfl rfl
    clear H; refine hKq18 _ _ ?_; clear hKq18 Kq18; refine wp_ret ?_; refine exit_then rfl ?_
    exact sm_ret rfl hd e10 ⟨rfl, L5⟩
  have B5 : Blk w4 q 42 (cfc id P) := B4
  have HB := Lib.hid (And.intro B5 L4)
  clear B4 B5 L4
  obtain ⟨V, hV⟩ : ∃ V, V = hoV id P r es := ⟨_, rfl⟩
  have HRD : Hid (Reads w4 w4.heap.size 13 A n (es.flatMap Ed.cells)) := Lib.hid ((HR.out.1.below HB.out.2).more HB.out.2.size)
  have HV := Lib.hid hV
  refine sm_list [3, 4, 11, 12, 13] 33 7 hs hd (by kernel_rfl) (agC e3 (agC e4 (agC e11 (agU (agU agN))))) rfl ?_
  simp only [seval]
  go_wp2_with (first | (refine wpList_load_any_d rfl 42 (.tmp 2) rfl ⟨q, 0, none⟩ rfl (cfc id P) _ (blk_cells HB.out.1) Tryz.underlying42 rfl (by kernel_rfl) ?_) | fail)
  refine (hoNew_any id P r es A n c w4 HR.out.2 HRD.out).mono ?_
  rw [← hV]
  clear hV
  rintro x w5 ⟨hb5, hor⟩
  obtain ⟨v, rfl, hv⟩ : ∃ v, x = .returned (.tuple #[.pointer v, .int .i64 V]) ∧ Hid ((V ≠ 0 ∧ v = none) ∨ (V = 0 ∧ ∃ g gb ve hg vm ms, v = some ⟨g, 0, none⟩ ∧ HoX w4 w5 g gb ve hg vm ms id P r es)) := by
    rcases hor with ⟨h1, h2⟩ | ⟨h1, g, gb, ve, hg, vm, ms, h2, _, h3⟩
    · exact ⟨_, h2, Lib.hid (.inl ⟨h1, rfl⟩)⟩
    · rw [h1]; exact ⟨_, h2, Lib.hid (.inr ⟨rfl, g, gb, ve, hg, vm, ms, rfl, h3⟩)⟩
  have HB5 := Lib.hid (And.intro (HB.out.1.kept hb5) (And.intro (HB.out.2.trans (hb5.mono HB.out.2.size)) ((HRD.out.below hb5).more hb5.size)))
  clear hor hb5 HB HRD
  go_wp2_with fail
  intro a H; replace hs := H.s hs; replace hd := H.d rfl; replace e3 := H.g 3 rfl rfl; replace e4 := H.g 4 rfl rfl; replace e11 := H.g 11 rfl rfl; replace e0 := H.k e0 rfl; replace e1 := H.k e1 rfl; replace e2 := H.k e2 rfl; replace e10 := H.k e10 rfl; have e12 := H.g 12 rfl rfl; have e13 := H.g 13 rfl rfl; clear H; refine hKq8 _ _ ?_; clear hKq8 Kq8; refine wp_seq_k fun Kq9 hKq9 => ?_
  refine sm_list [] 14 1 hs hd (by kernel_rfl) agN rfl ?_
  simp only [seval]
  go_wp2_with fail
  intro a H; replace hs := H.s hs; replace hd := H.d rfl; replace e0 := H.k e0 rfl; replace e1 := H.k e1 rfl; replace e2 := H.k e2 rfl; replace e3 := H.k e3 rfl; replace e4 := H.k e4 rfl; replace e10 := H.k e10 rfl; replace e11 := H.k e11 rfl; replace e12 := H.k e12 rfl; replace e13 := H.k e13 rfl; have e14 := H.g 14 rfl rfl; clear H; refine hKq9 _ _ ?_; clear hKq9 Kq9; refine wp_seq_k fun Kq10 hKq10 => ?_
  refine wp_block ?_; refine wp_seq_k fun Kq11 hKq11 => ?_
  suffices HK : ∀ (a' : Act) (w' : World), a'.tmps.size = a.tmps.size → a'.defers = [] → a'.tmps[10]? = a.tmps[10]? → a'.tmps[12]? = a.tmps[12]? → a'.tmps[13]? = a.tmps[13]? → a'.tmps[14]? = some (.int .i64 V) → Below w5.heap.size w5 w' → Kq10 a' w' by
    have e10o := Lib.hid e10
    have e12o := Lib.hid e12
    have e13o := Lib.hid e13
    have hsz0 := Lib.hid hs
    by_cases hc0 : 64 < n
    ·
      have hK : V = 1 := by rw [HV.out]; exact hoV_many (by rw [HR.out.2]; omega)
      have HK1 := Lib.hid hK
      clear hK
      have d1 : decide (64 < n) = true := decide_eq_true hc0
      have d1b : (64 : Int) < (n : Int) := by omega
      refine sm_list [2, 3, 4] 95 15 hs hd (by kernel_rfl) (agC e2 (agC e3 (agC e4 agN))) rfl ?_
      simp only [seval]
      go_wp2_with fail
      intro a H; replace hs := H.s hs; replace hd := H.d rfl; replace e2 := H.g 2 rfl rfl; replace e3 := H.g 3 rfl rfl; replace e4 := H.g 4 rfl rfl; replace e0 := H.k e0 rfl; replace e1 := H.k e1 rfl; replace e10 := H.k e10 rfl; replace e11 := H.k e11 rfl; replace e12 := H.k e12 rfl; replace e13 := H.k e13 rfl; replace e14 := H.k e14 rfl; have e95 := H.g 95 rfl rfl; clear H; refine hKq11 _ _ ?_; clear hKq11 Kq11
      refine wp_cond_true (slotE e95) ?_
      clear e95
      refine sm_list [] 14 1 hs hd (by kernel_rfl) agN rfl ?_
      simp only [seval]
      go_wp2_with fail
      intro a H; replace hs := H.s hs; replace hd := H.d rfl; replace e0 := H.k e0 rfl; replace e1 := H.k e1 rfl; replace e2 := H.k e2 rfl; replace e3 := H.k e3 rfl; replace e4 := H.k e4 rfl; replace e10 := H.k e10 rfl; replace e11 := H.k e11 rfl; replace e12 := H.k e12 rfl; replace e13 := H.k e13 rfl; replace e14 := H.g 14 rfl rfl; clear H
      exact HK a _ (hs.trans hsz0.out.symm) hd (e10.trans e10o.out.symm) (e12.trans e12o.out.symm) (e13.trans e13o.out.symm) (by rw [e14, HK1.out]) (Below.refl _ _)
    have dc0 : decide (64 < n) = false := decide_eq_false hc0
    have dc0b : decide ((64 : Int) < (n : Int)) = false := decide_eq_false (by omega)
    by_cases hc1 : r < 1
    ·
      have hK : V = 1 := by rw [HV.out]; exact hoV_many (by rw [HR.out.2]; omega)
      have HK1 := Lib.hid hK
      clear hK
      have d2 : decide (r < 1) = true := decide_eq_true hc1
      refine sm_list [2, 3, 4] 95 15 hs hd (by kernel_rfl) (agC e2 (agC e3 (agC e4 agN))) rfl ?_
      simp only [seval]
      go_wp2_with fail
      intro a H; replace hs := H.s hs; replace hd := H.d rfl; replace e2 := H.g 2 rfl rfl; replace e3 := H.g 3 rfl rfl; replace e4 := H.g 4 rfl rfl; replace e0 := H.k e0 rfl; replace e1 := H.k e1 rfl; replace e10 := H.k e10 rfl; replace e11 := H.k e11 rfl; replace e12 := H.k e12 rfl; replace e13 := H.k e13 rfl; replace e14 := H.k e14 rfl; have e95 := H.g 95 rfl rfl; clear H; refine hKq11 _ _ ?_; clear hKq11 Kq11
      refine wp_cond_true (slotE e95) ?_
      clear e95
      refine sm_list [] 14 1 hs hd (by kernel_rfl) agN rfl ?_
      simp only [seval]
      go_wp2_with fail
      intro a H; replace hs := H.s hs; replace hd := H.d rfl; replace e0 := H.k e0 rfl; replace e1 := H.k e1 rfl; replace e2 := H.k e2 rfl; replace e3 := H.k e3 rfl; replace e4 := H.k e4 rfl; replace e10 := H.k e10 rfl; replace e11 := H.k e11 rfl; replace e12 := H.k e12 rfl; replace e13 := H.k e13 rfl; replace e14 := H.g 14 rfl rfl; clear H
      exact HK a _ (hs.trans hsz0.out.symm) hd (e10.trans e10o.out.symm) (e12.trans e12o.out.symm) (e13.trans e13o.out.symm) (by rw [e14, HK1.out]) (Below.refl _ _)
    have dc1 : decide (r < 1) = false := decide_eq_false hc1
    by_cases hc2 : 1099511627776 < r
    ·
      have hK : V = 1 := by rw [HV.out]; exact hoV_many (by rw [HR.out.2]; omega)
      have HK1 := Lib.hid hK
      clear hK
      have d3 : decide (1099511627776 < r) = true := decide_eq_true hc2
      refine sm_list [2, 3, 4] 95 15 hs hd (by kernel_rfl) (agC e2 (agC e3 (agC e4 agN))) rfl ?_
      simp only [seval]
      go_wp2_with fail
      intro a H; replace hs := H.s hs; replace hd := H.d rfl; replace e2 := H.g 2 rfl rfl; replace e3 := H.g 3 rfl rfl; replace e4 := H.g 4 rfl rfl; replace e0 := H.k e0 rfl; replace e1 := H.k e1 rfl; replace e10 := H.k e10 rfl; replace e11 := H.k e11 rfl; replace e12 := H.k e12 rfl; replace e13 := H.k e13 rfl; replace e14 := H.k e14 rfl; have e95 := H.g 95 rfl rfl; clear H; refine hKq11 _ _ ?_; clear hKq11 Kq11
      refine wp_cond_true (slotE e95) ?_
      clear e95
      refine sm_list [] 14 1 hs hd (by kernel_rfl) agN rfl ?_
      simp only [seval]
      go_wp2_with fail
      intro a H; replace hs := H.s hs; replace hd := H.d rfl; replace e0 := H.k e0 rfl; replace e1 := H.k e1 rfl; replace e2 := H.k e2 rfl; replace e3 := H.k e3 rfl; replace e4 := H.k e4 rfl; replace e10 := H.k e10 rfl; replace e11 := H.k e11 rfl; replace e12 := H.k e12 rfl; replace e13 := H.k e13 rfl; replace e14 := H.g 14 rfl rfl; clear H
      exact HK a _ (hs.trans hsz0.out.symm) hd (e10.trans e10o.out.symm) (e12.trans e12o.out.symm) (e13.trans e13o.out.symm) (by rw [e14, HK1.out]) (Below.refl _ _)
    have dc2 : decide (1099511627776 < r) = false := decide_eq_false hc2
    have HG : Hid (¬ (64 < es.length ∨ r < 1 ∨ 1099511627776 < r)) := Lib.hid (by rw [HR.out.2]; omega)
    clear hc0 hc1 hc2
    refine sm_list [2, 3, 4] 95 15 hs hd (by kernel_rfl) (agC e2 (agC e3 (agC e4 agN))) rfl ?_
    simp only [seval]
    go_wp2_with fail
    intro a H; replace hs := H.s hs; replace hd := H.d rfl; replace e2 := H.g 2 rfl rfl; replace e3 := H.g 3 rfl rfl; replace e4 := H.g 4 rfl rfl; replace e0 := H.k e0 rfl; replace e1 := H.k e1 rfl; replace e10 := H.k e10 rfl; replace e11 := H.k e11 rfl; replace e12 := H.k e12 rfl; replace e13 := H.k e13 rfl; replace e14 := H.k e14 rfl; have e95 := H.g 95 rfl rfl; clear H; refine hKq11 _ _ ?_; clear hKq11 Kq11
    refine wp_cond_false (slotE e95) ?_
    clear e95; refine wp_seq_k fun Kq12 hKq12 => ?_; refine wp_seq_k fun Kq13 hKq13 => ?_; clear dc0 dc0b dc1 dc2
    refine sm_list [3] 40 3 hs hd (by kernel_rfl) (agC e3 agN) rfl ?_
    simp only [seval]
    go_wp2_with fail
    intro a H; replace hs := H.s hs; replace hd := H.d rfl; replace e3 := H.g 3 rfl rfl; replace e0 := H.k e0 rfl; replace e1 := H.k e1 rfl; replace e2 := H.k e2 rfl; replace e4 := H.k e4 rfl; replace e10 := H.k e10 rfl; replace e11 := H.k e11 rfl; replace e12 := H.k e12 rfl; replace e13 := H.k e13 rfl; replace e14 := H.k e14 rfl; have e40 := H.g 40 rfl rfl; have e41 := H.g 41 rfl rfl; have e42 := H.g 42 rfl rfl
    clear H; refine hKq13 _ _ ?_; clear hKq13 Kq13; refine wp_block ?_
    refine wp_loop (fun a w' => ∃ (j : Nat), j ≤ n ∧ Below w5.heap.size w5 w' ∧ a.tmps.size = 160 ∧ a.defers = [] ∧ a.tmps[1]? = some (.int .i64 P) ∧ a.tmps[10]? = some (.bool false) ∧ a.tmps[11]? = some (.pointer (some ⟨q, 0, none⟩)) ∧ a.tmps[12]? = some (.pointer v) ∧ a.tmps[13]? = some (.int .i64 V) ∧ a.tmps[40]? = some (.slice A n c) ∧ a.tmps[41]? = some (.int .i64 (n : Int)) ∧ a.tmps[14]? = some (.int .i64 (endsErr P (es.take j))) ∧ a.tmps[42]? = some (.int .i64 (j : Int))) (fun a _ => n - (intOf (a.tmps.getD 42 undef)).toNat) ?_ ?_
    · exact ⟨0, by omega, Below.refl _ _, hs, hd, e1, e10, e11, e12, e13, e40, e41, e14, e42⟩
    clear e0 e1 e2 e3 e4 e10 e11 e12 e13 e14 e40 e41 e42 hs hd
    rintro a w6 ⟨j, hj, L6, hs, hd, e1, e10, e11, e12, e13, e40, e41, e14, e42⟩
    have hm := slot e42
    refine wp_seq_k fun Kq14 hKq14 => ?_
    obtain ⟨K, hK⟩ : ∃ K, K = endsErr P (es.take j) := ⟨_, rfl⟩
    rw [← hK] at e14
    have HKJ := Lib.hid hK
    clear hK
    by_cases hlt3 : j < n
    ·
      have dj : decide ((j : Int) < (n : Int)) = true := decide_eq_true (by omega)
      have j1 : (j : Int) < (n : Int) := by omega
      have HM := Lib.hid hm
      clear hm hj
      refine sm_list [41, 42] 43 1 hs hd (by kernel_rfl) (agC e41 (agC e42 agN)) rfl ?_
      simp only [seval]
      go_wp2_with fail
      intro a H; replace hs := H.s hs; replace hd := H.d rfl; replace e41 := H.g 41 rfl rfl; replace e42 := H.g 42 rfl rfl; replace e1 := H.k e1 rfl; replace e10 := H.k e10 rfl; replace e11 := H.k e11 rfl; replace e12 := H.k e12 rfl; replace e13 := H.k e13 rfl; replace e40 := H.k e40 rfl; replace e14 := H.k e14 rfl; have e43 := H.g 43 rfl rfl; clear H; refine hKq14 _ _ ?_; clear hKq14 Kq14; refine wp_seq_k fun Kq15 hKq15 => ?_
      refine wp_cond_true (slotE e43) ?_
      clear e43; refine wp_skip ?_; refine hKq15 _ _ ?_; clear hKq15 Kq15; refine wp_seq_k fun Kq16 hKq16 => ?_; refine wp_block ?_; refine wp_seq_k fun Kq17 hKq17 => ?_; clear dj
      obtain ⟨e, he⟩ : ∃ e, es[j]? = some e := ⟨es[j]'(by rw [HR.out.2]; exact hlt3), List.getElem?_eq_getElem _⟩
      obtain ⟨ad, rfl, _, hc⟩ := reads_el Ed.len (HB5.out.2.2.below L6) he hlt3
      have HE := Lib.hid (endsErr_take (P := P) he)
      rw [← HKJ.out] at HE
      have HC := Lib.hid hc
      have HL6 := Lib.hid L6
      clear he hc L6
      refine sm_list [16, 40, 42] 44 2 hs hd (by kernel_rfl) (agU (agC e40 (agC e42 agN))) rfl ?_
      simp only [seval]
      go_wp2_with (first | (refine wpList_load_any_d rfl 32 (.tmp 3) rfl (ad.add (j * 13)) rfl #[.int .i64 e.vid, .int .u8 e.m0, .int .u8 e.m1, .int .u8 e.m2, .int .u8 e.m3, .int .u8 e.m4, .int .u8 e.m5, .int .i64 e.fi, .int .i64 e.fo, .int .i64 e.fm, .int .i64 e.p0, .int .i64 e.p1, .bool e.talk] _ HC.out Tryz.underlying32 rfl (by kernel_rfl) ?_) | (refine wpList_store_new rfl 32 (.tmp 0) (.tmp 4) rfl rfl rfl rfl rfl (by kernel_rfl) (by rw [← Array.all_toList]; rfl) ?_) | fail)
      intro a H; replace hs := H.s hs; replace hd := H.d rfl; replace e40 := H.g 40 rfl rfl; replace e42 := H.g 42 rfl rfl; replace e1 := H.k e1 rfl; replace e10 := H.k e10 rfl; replace e11 := H.k e11 rfl; replace e12 := H.k e12 rfl; replace e13 := H.k e13 rfl; replace e41 := H.k e41 rfl; replace e14 := H.k e14 rfl; have e16 := H.g 16 rfl rfl; clear H; refine hKq17 _ _ ?_; clear hKq17 Kq17; refine wp_seq_k fun Kq18 hKq18 => ?_
      refine wp_seq_k fun Kq19 hKq19 => ?_
      have BE := Blk.new w6 32 #[.int .i64 e.vid, .int .u8 e.m0, .int .u8 e.m1, .int .u8 e.m2, .int .u8 e.m3, .int .u8 e.m4, .int .u8 e.m5, .int .i64 e.fi, .int .i64 e.fo, .int .i64 e.fm, .int .i64 e.p0, .int .i64 e.p1, .bool e.talk]
      have hal := (Below.refl w6.heap.size w6).alloc (Nat.le_refl _) (.cells #[.int .i64 e.vid, .int .u8 e.m0, .int .u8 e.m1, .int .u8 e.m2, .int .u8 e.m3, .int .u8 e.m4, .int .u8 e.m5, .int .i64 e.fi, .int .i64 e.fo, .int .i64 e.fm, .int .i64 e.p0, .int .i64 e.p1, .bool e.talk] 32)
      have L7 := HL6.out.trans (hal.mono HL6.out.size)
      generalize hw7 : w6.alloc (.cells #[.int .i64 e.vid, .int .u8 e.m0, .int .u8 e.m1, .int .u8 e.m2, .int .u8 e.m3, .int .u8 e.m4, .int .u8 e.m5, .int .i64 e.fi, .int .i64 e.fo, .int .i64 e.fm, .int .i64 e.p0, .int .i64 e.p1, .bool e.talk] 32) = w7 at BE hal L7 ⊢
      obtain ⟨p, hp⟩ : ∃ p, p = w6.heap.size := ⟨_, rfl⟩
      rw [← hp] at BE e16
      have HB7 := Lib.hid (And.intro BE L7)
      clear hw7 hp hal BE L7 HL6 HC
      refine sm_list [] 17 1 hs hd (by kernel_rfl) agN rfl ?_
      simp only [seval]
      go_wp2_with fail
      intro a H; replace hs := H.s hs; replace hd := H.d rfl; replace e1 := H.k e1 rfl; replace e10 := H.k e10 rfl; replace e11 := H.k e11 rfl; replace e12 := H.k e12 rfl; replace e13 := H.k e13 rfl; replace e40 := H.k e40 rfl; replace e41 := H.k e41 rfl; replace e14 := H.k e14 rfl; replace e42 := H.k e42 rfl; replace e16 := H.k e16 rfl; have e17 := H.g 17 rfl rfl; clear H; refine hKq19 _ _ ?_; clear hKq19 Kq19
      refine wp_block ?_
      refine wp_loop (fun a w' => ∃ (k : Nat) (t : Int), InW P e K k t ∧ a.tmps.size = 160 ∧ a.defers = [] ∧ a.tmps[1]? = some (.int .i64 P) ∧ a.tmps[10]? = some (.bool false) ∧ a.tmps[11]? = some (.pointer (some ⟨q, 0, none⟩)) ∧ a.tmps[12]? = some (.pointer v) ∧ a.tmps[13]? = some (.int .i64 V) ∧ a.tmps[16]? = some (.pointer (some ⟨p, 0, none⟩)) ∧ a.tmps[40]? = some (.slice (some ad) n c) ∧ a.tmps[41]? = some (.int .i64 (n : Int)) ∧ a.tmps[42]? = some (.int .i64 (j : Int)) ∧ a.tmps[14]? = some (.int .i64 t) ∧ a.tmps[17]? = some (.int .i64 (k : Int)) ∧ w7 = w') (fun a _ => 2 - (intOf (a.tmps.getD 17 undef)).toNat) ?_ ?_
      · exact ⟨0, _, InW.z, hs, hd, e1, e10, e11, e12, e13, e16, e40, e41, e42, e14, e17, rfl⟩
      clear e1 e10 e11 e12 e13 e40 e41 e14 e42 e16 e17 hs hd a
      rintro a w8 ⟨k, t, hin, hs, hd, e1, e10, e11, e12, e13, e16, e40, e41, e42, e14, e17, rfl⟩
      have hmk := slot e17
      have q10 := HB7.out.1.cellOf (v := .int .i64 e.p0) 10 rfl; have q11 := HB7.out.1.cellOf (v := .int .i64 e.p1) 11 rfl; have lz := HB7.out.1.lt; refine wp_seq_k fun Kq20 hKq20 => ?_; refine wp_seq_k fun Kq21 hKq21 => ?_
      have hk0 : K = endsErr P (es.take j) := HKJ.out
      clear hk0
      obtain ⟨HMK, hkk⟩ : Hid (a.tmps.getD 17 undef = .int .i64 (k : Int)) ∧ True := ⟨Lib.hid hmk, trivial⟩
      clear hmk hkk
      cases hin with
      | z =>
        by_cases hk0 : K = 0
        · subst hk0
          refine sm_list [14, 17] 46 6 hs hd (by kernel_rfl) (agC e14 (agC e17 agN)) rfl ?_
          simp only [seval]
          go_wp2_with fail
          intro a H; replace hs := H.s hs; replace hd := H.d rfl; replace e14 := H.g 14 rfl rfl; replace e17 := H.g 17 rfl rfl; replace e1 := H.k e1 rfl; replace e10 := H.k e10 rfl; replace e11 := H.k e11 rfl; replace e12 := H.k e12 rfl; replace e13 := H.k e13 rfl; replace e16 := H.k e16 rfl; replace e40 := H.k e40 rfl; replace e41 := H.k e41 rfl; replace e42 := H.k e42 rfl; have e51 := H.g 51 rfl rfl
          clear H; refine hKq21 _ _ ?_; clear hKq21 Kq21
          refine wp_cond_true (slotE e51) ?_
          clear e51; refine wp_skip ?_; refine hKq20 _ _ ?_; clear hKq20 Kq20; refine wp_seq_k fun Kq22 hKq22 => ?_; refine wp_block ?_; refine wp_seq_k fun Kq23 hKq23 => ?_
          by_cases hc0 : e.p0 < 0
          ·
            have d1 : decide (e.p0 < 0) = true := decide_eq_true hc0
            have hin2 : InW P e 0 1 40 := by
              have h := InW.o (P := P) (e := e) (K := 0) rfl
              rwa [if_pos (by omega)] at h
            have HIN := Lib.hid hin2
            clear hin2
            refine sm_list [1, 16, 17] 54 13 hs hd (by kernel_rfl) (agC e1 (agC e16 (agC e17 agN))) rfl ?_
            simp only [seval]
            go_wp2_with fail
            intro a H; replace hs := H.s hs; replace hd := H.d rfl; replace e1 := H.g 1 rfl rfl; replace e16 := H.g 16 rfl rfl; replace e17 := H.g 17 rfl rfl; replace e10 := H.k e10 rfl; replace e11 := H.k e11 rfl; replace e12 := H.k e12 rfl; replace e13 := H.k e13 rfl; replace e40 := H.k e40 rfl; replace e41 := H.k e41 rfl; replace e42 := H.k e42 rfl; replace e14 := H.k e14 rfl; have e66 := H.g 66 rfl rfl
            clear H; refine hKq23 _ _ ?_; clear hKq23 Kq23
            refine wp_cond_true (slotE e66) ?_
            clear e66
            refine sm_list [] 14 1 hs hd (by kernel_rfl) agN rfl ?_
            simp only [seval]
            go_wp2_with fail
            intro a H; replace hs := H.s hs; replace hd := H.d rfl; replace e1 := H.k e1 rfl; replace e10 := H.k e10 rfl; replace e11 := H.k e11 rfl; replace e12 := H.k e12 rfl; replace e13 := H.k e13 rfl; replace e16 := H.k e16 rfl; replace e40 := H.k e40 rfl; replace e41 := H.k e41 rfl; replace e42 := H.k e42 rfl; replace e17 := H.k e17 rfl; replace e14 := H.g 14 rfl rfl; clear H; refine hKq22 _ _ ?_
            clear hKq22 Kq22
            refine sm_list [17] 52 2 hs hd (by kernel_rfl) (agC e17 agN) rfl ?_
            simp only [seval]
            go_wp2_with fail
            intro a H; replace hs := H.s hs; replace hd := H.d rfl; replace e1 := H.k e1 rfl; replace e10 := H.k e10 rfl; replace e11 := H.k e11 rfl; replace e12 := H.k e12 rfl; replace e13 := H.k e13 rfl; replace e16 := H.k e16 rfl; replace e40 := H.k e40 rfl; replace e41 := H.k e41 rfl; replace e42 := H.k e42 rfl; replace e14 := H.k e14 rfl; replace e17 := H.g 17 rfl rfl; clear H
            exact ⟨⟨1, 40, HIN.out, hs, hd, e1, e10, e11, e12, e13, e16, e40, e41, e42, e14, e17, rfl⟩, by rw [HMK.out, slot e17]; decide⟩
          have dc0 : decide (e.p0 < 0) = false := decide_eq_false hc0
          by_cases hc1 : P ≤ e.p0
          ·
            have d2 : decide (P ≤ e.p0) = true := decide_eq_true hc1
            have hin2 : InW P e 0 1 40 := by
              have h := InW.o (P := P) (e := e) (K := 0) rfl
              rwa [if_pos (by omega)] at h
            have HIN := Lib.hid hin2
            clear hin2
            refine sm_list [1, 16, 17] 54 13 hs hd (by kernel_rfl) (agC e1 (agC e16 (agC e17 agN))) rfl ?_
            simp only [seval]
            go_wp2_with fail
            intro a H; replace hs := H.s hs; replace hd := H.d rfl; replace e1 := H.g 1 rfl rfl; replace e16 := H.g 16 rfl rfl; replace e17 := H.g 17 rfl rfl; replace e10 := H.k e10 rfl; replace e11 := H.k e11 rfl; replace e12 := H.k e12 rfl; replace e13 := H.k e13 rfl; replace e40 := H.k e40 rfl; replace e41 := H.k e41 rfl; replace e42 := H.k e42 rfl; replace e14 := H.k e14 rfl; have e66 := H.g 66 rfl rfl
            clear H; refine hKq23 _ _ ?_; clear hKq23 Kq23
            refine wp_cond_true (slotE e66) ?_
            clear e66
            refine sm_list [] 14 1 hs hd (by kernel_rfl) agN rfl ?_
            simp only [seval]
            go_wp2_with fail
            intro a H; replace hs := H.s hs; replace hd := H.d rfl; replace e1 := H.k e1 rfl; replace e10 := H.k e10 rfl; replace e11 := H.k e11 rfl; replace e12 := H.k e12 rfl; replace e13 := H.k e13 rfl; replace e16 := H.k e16 rfl; replace e40 := H.k e40 rfl; replace e41 := H.k e41 rfl; replace e42 := H.k e42 rfl; replace e17 := H.k e17 rfl; replace e14 := H.g 14 rfl rfl; clear H; refine hKq22 _ _ ?_
            clear hKq22 Kq22
            refine sm_list [17] 52 2 hs hd (by kernel_rfl) (agC e17 agN) rfl ?_
            simp only [seval]
            go_wp2_with fail
            intro a H; replace hs := H.s hs; replace hd := H.d rfl; replace e1 := H.k e1 rfl; replace e10 := H.k e10 rfl; replace e11 := H.k e11 rfl; replace e12 := H.k e12 rfl; replace e13 := H.k e13 rfl; replace e16 := H.k e16 rfl; replace e40 := H.k e40 rfl; replace e41 := H.k e41 rfl; replace e42 := H.k e42 rfl; replace e14 := H.k e14 rfl; replace e17 := H.g 17 rfl rfl; clear H
            exact ⟨⟨1, 40, HIN.out, hs, hd, e1, e10, e11, e12, e13, e16, e40, e41, e42, e14, e17, rfl⟩, by rw [HMK.out, slot e17]; decide⟩
          have dc1 : decide (P ≤ e.p0) = false := decide_eq_false hc1
          have hin2 : InW P e 0 1 0 := by
            have h := InW.o (P := P) (e := e) (K := 0) rfl
            rwa [if_neg (by omega)] at h
          have HIN := Lib.hid hin2
          clear hin2 hc0 hc1
          refine sm_list [1, 16, 17] 54 13 hs hd (by kernel_rfl) (agC e1 (agC e16 (agC e17 agN))) rfl ?_
          simp only [seval]
          go_wp2_with fail
          intro a H; replace hs := H.s hs; replace hd := H.d rfl; replace e1 := H.g 1 rfl rfl; replace e16 := H.g 16 rfl rfl; replace e17 := H.g 17 rfl rfl; replace e10 := H.k e10 rfl; replace e11 := H.k e11 rfl; replace e12 := H.k e12 rfl; replace e13 := H.k e13 rfl; replace e40 := H.k e40 rfl; replace e41 := H.k e41 rfl; replace e42 := H.k e42 rfl; replace e14 := H.k e14 rfl; have e66 := H.g 66 rfl rfl
          clear H; refine hKq23 _ _ ?_; clear hKq23 Kq23
          refine wp_cond_false (slotE e66) ?_
          clear e66; refine wp_skip ?_; refine hKq22 _ _ ?_; clear hKq22 Kq22
          refine sm_list [17] 52 2 hs hd (by kernel_rfl) (agC e17 agN) rfl ?_
          simp only [seval]
          go_wp2_with fail
          intro a H; replace hs := H.s hs; replace hd := H.d rfl; replace e1 := H.k e1 rfl; replace e10 := H.k e10 rfl; replace e11 := H.k e11 rfl; replace e12 := H.k e12 rfl; replace e13 := H.k e13 rfl; replace e16 := H.k e16 rfl; replace e40 := H.k e40 rfl; replace e41 := H.k e41 rfl; replace e42 := H.k e42 rfl; replace e14 := H.k e14 rfl; replace e17 := H.g 17 rfl rfl; clear H
          exact ⟨⟨1, 0, HIN.out, hs, hd, e1, e10, e11, e12, e13, e16, e40, e41, e42, e14, e17, rfl⟩, by rw [HMK.out, slot e17]; decide⟩
        · have dk : (K == 0) = false := beq_eq_false_iff_ne.2 hk0
          have HT : Hid (endsErr P (es.take (j + 1)) = K) := Lib.hid (by rw [HE.out, stepE_n hk0])
          clear hk0
          refine sm_list [14, 17] 46 6 hs hd (by kernel_rfl) (agC e14 (agC e17 agN)) rfl ?_
          simp only [seval]
          go_wp2_with fail
          intro a H; replace hs := H.s hs; replace hd := H.d rfl; replace e14 := H.g 14 rfl rfl; replace e17 := H.g 17 rfl rfl; replace e1 := H.k e1 rfl; replace e10 := H.k e10 rfl; replace e11 := H.k e11 rfl; replace e12 := H.k e12 rfl; replace e13 := H.k e13 rfl; replace e16 := H.k e16 rfl; replace e40 := H.k e40 rfl; replace e41 := H.k e41 rfl; replace e42 := H.k e42 rfl; have e51 := H.g 51 rfl rfl
          clear H; refine hKq21 _ _ ?_; clear hKq21 Kq21
          refine wp_cond_false (slotE e51) ?_
          clear e51; refine wp_exit ?_; refine exit_then rfl ?_; clear hKq20 Kq20; refine exit_then rfl ?_; refine exit_hit ?_; refine hKq18 _ _ ?_; clear hKq18 Kq18; refine wp_seq_k fun Kq22 hKq22 => ?_
          refine sm_list [14, 16] 67 23 hs hd (by kernel_rfl) (agC e14 (agC e16 agN)) rfl ?_
          simp only [seval]
          go_wp2_with fail
          intro a H; replace hs := H.s hs; replace hd := H.d rfl; replace e16 := H.g 16 rfl rfl; replace e14 := H.g 14 rfl rfl; replace e1 := H.k e1 rfl; replace e10 := H.k e10 rfl; replace e11 := H.k e11 rfl; replace e12 := H.k e12 rfl; replace e13 := H.k e13 rfl; replace e40 := H.k e40 rfl; replace e41 := H.k e41 rfl; replace e42 := H.k e42 rfl; replace e17 := H.k e17 rfl; have e89 := H.g 89 rfl rfl
          clear H; refine hKq22 _ _ ?_; clear hKq22 Kq22
          refine wp_cond_false (slotE e89) ?_
          clear e89; refine wp_skip ?_; refine hKq16 _ _ ?_; clear hKq16 Kq16; clear e16; clear e17; have hn70 := HN.out
          refine sm_list [42] 90 1 hs hd (by kernel_rfl) (agC e42 agN) rfl ?_
          simp only [seval]
          go_wp2_with fail
          intro a H; replace hs := H.s hs; replace hd := H.d rfl; replace e1 := H.k e1 rfl; replace e10 := H.k e10 rfl; replace e11 := H.k e11 rfl; replace e12 := H.k e12 rfl; replace e13 := H.k e13 rfl; replace e40 := H.k e40 rfl; replace e41 := H.k e41 rfl; replace e14 := H.k e14 rfl; replace e42 := H.g 42 rfl rfl; clear H
          exact ⟨⟨j + 1, by omega, HB7.out.2, hs, hd, e1, e10, e11, e12, e13, e40, e41, by rw [e14, HT.out], e42⟩, by first | (simp only [HM.out, slot e42, intOf]; omega) | (simp [HM.out, slot e42, intOf]; omega)⟩
      | o h0 =>
        subst h0
        by_cases hp0 : e.p0 < 0 ∨ P ≤ e.p0
        · rw [if_pos hp0] at e14
          have HT : Hid (endsErr P (es.take (j + 1)) = 40) := Lib.hid (by rw [HE.out, stepE_0, endErr_p0 hp0])
          clear hp0
          refine sm_list [14, 17] 46 6 hs hd (by kernel_rfl) (agC e14 (agC e17 agN)) rfl ?_
          simp only [seval]
          go_wp2_with fail
          intro a H; replace hs := H.s hs; replace hd := H.d rfl; replace e14 := H.g 14 rfl rfl; replace e17 := H.g 17 rfl rfl; replace e1 := H.k e1 rfl; replace e10 := H.k e10 rfl; replace e11 := H.k e11 rfl; replace e12 := H.k e12 rfl; replace e13 := H.k e13 rfl; replace e16 := H.k e16 rfl; replace e40 := H.k e40 rfl; replace e41 := H.k e41 rfl; replace e42 := H.k e42 rfl; have e51 := H.g 51 rfl rfl
          clear H; refine hKq21 _ _ ?_; clear hKq21 Kq21
          refine wp_cond_false (slotE e51) ?_
          clear e51; refine wp_exit ?_; refine exit_then rfl ?_; clear hKq20 Kq20; refine exit_then rfl ?_; refine exit_hit ?_; refine hKq18 _ _ ?_; clear hKq18 Kq18; refine wp_seq_k fun Kq22 hKq22 => ?_
          refine sm_list [14, 16] 67 23 hs hd (by kernel_rfl) (agC e14 (agC e16 agN)) rfl ?_
          simp only [seval]
          go_wp2_with fail
          intro a H; replace hs := H.s hs; replace hd := H.d rfl; replace e16 := H.g 16 rfl rfl; replace e14 := H.g 14 rfl rfl; replace e1 := H.k e1 rfl; replace e10 := H.k e10 rfl; replace e11 := H.k e11 rfl; replace e12 := H.k e12 rfl; replace e13 := H.k e13 rfl; replace e40 := H.k e40 rfl; replace e41 := H.k e41 rfl; replace e42 := H.k e42 rfl; replace e17 := H.k e17 rfl; have e89 := H.g 89 rfl rfl
          clear H; refine hKq22 _ _ ?_; clear hKq22 Kq22
          refine wp_cond_false (slotE e89) ?_
          clear e89; refine wp_skip ?_; refine hKq16 _ _ ?_; clear hKq16 Kq16; clear e16; clear e17; have hn70 := HN.out
          refine sm_list [42] 90 1 hs hd (by kernel_rfl) (agC e42 agN) rfl ?_
          simp only [seval]
          go_wp2_with fail
          intro a H; replace hs := H.s hs; replace hd := H.d rfl; replace e1 := H.k e1 rfl; replace e10 := H.k e10 rfl; replace e11 := H.k e11 rfl; replace e12 := H.k e12 rfl; replace e13 := H.k e13 rfl; replace e40 := H.k e40 rfl; replace e41 := H.k e41 rfl; replace e14 := H.k e14 rfl; replace e42 := H.g 42 rfl rfl; clear H
          exact ⟨⟨j + 1, by omega, HB7.out.2, hs, hd, e1, e10, e11, e12, e13, e40, e41, by rw [e14, HT.out], e42⟩, by first | (simp only [HM.out, slot e42, intOf]; omega) | (simp [HM.out, slot e42, intOf]; omega)⟩
        · rw [if_neg hp0] at e14
          have HP0 := Lib.hid hp0
          clear hp0
          refine sm_list [14, 17] 46 6 hs hd (by kernel_rfl) (agC e14 (agC e17 agN)) rfl ?_
          simp only [seval]
          go_wp2_with fail
          intro a H; replace hs := H.s hs; replace hd := H.d rfl; replace e14 := H.g 14 rfl rfl; replace e17 := H.g 17 rfl rfl; replace e1 := H.k e1 rfl; replace e10 := H.k e10 rfl; replace e11 := H.k e11 rfl; replace e12 := H.k e12 rfl; replace e13 := H.k e13 rfl; replace e16 := H.k e16 rfl; replace e40 := H.k e40 rfl; replace e41 := H.k e41 rfl; replace e42 := H.k e42 rfl; have e51 := H.g 51 rfl rfl
          clear H; refine hKq21 _ _ ?_; clear hKq21 Kq21
          refine wp_cond_true (slotE e51) ?_
          clear e51; refine wp_skip ?_; refine hKq20 _ _ ?_; clear hKq20 Kq20; refine wp_seq_k fun Kq22 hKq22 => ?_; refine wp_block ?_; refine wp_seq_k fun Kq23 hKq23 => ?_
          by_cases hc0 : e.p1 < 0
          ·
            have d1 : decide (e.p1 < 0) = true := decide_eq_true hc0
            have hin2 : InW P e 0 2 40 := by
              have h := InW.t (P := P) (e := e) (K := 0) rfl HP0.out
              rwa [if_pos (by omega)] at h
            have HIN := Lib.hid hin2
            clear hin2
            refine sm_list [1, 16, 17] 54 13 hs hd (by kernel_rfl) (agC e1 (agC e16 (agC e17 agN))) rfl ?_
            simp only [seval]
            go_wp2_with fail
            intro a H; replace hs := H.s hs; replace hd := H.d rfl; replace e1 := H.g 1 rfl rfl; replace e16 := H.g 16 rfl rfl; replace e17 := H.g 17 rfl rfl; replace e10 := H.k e10 rfl; replace e11 := H.k e11 rfl; replace e12 := H.k e12 rfl; replace e13 := H.k e13 rfl; replace e40 := H.k e40 rfl; replace e41 := H.k e41 rfl; replace e42 := H.k e42 rfl; replace e14 := H.k e14 rfl; have e66 := H.g 66 rfl rfl
            clear H; refine hKq23 _ _ ?_; clear hKq23 Kq23
            refine wp_cond_true (slotE e66) ?_
            clear e66
            refine sm_list [] 14 1 hs hd (by kernel_rfl) agN rfl ?_
            simp only [seval]
            go_wp2_with fail
            intro a H; replace hs := H.s hs; replace hd := H.d rfl; replace e1 := H.k e1 rfl; replace e10 := H.k e10 rfl; replace e11 := H.k e11 rfl; replace e12 := H.k e12 rfl; replace e13 := H.k e13 rfl; replace e16 := H.k e16 rfl; replace e40 := H.k e40 rfl; replace e41 := H.k e41 rfl; replace e42 := H.k e42 rfl; replace e17 := H.k e17 rfl; replace e14 := H.g 14 rfl rfl; clear H; refine hKq22 _ _ ?_
            clear hKq22 Kq22
            refine sm_list [17] 52 2 hs hd (by kernel_rfl) (agC e17 agN) rfl ?_
            simp only [seval]
            go_wp2_with fail
            intro a H; replace hs := H.s hs; replace hd := H.d rfl; replace e1 := H.k e1 rfl; replace e10 := H.k e10 rfl; replace e11 := H.k e11 rfl; replace e12 := H.k e12 rfl; replace e13 := H.k e13 rfl; replace e16 := H.k e16 rfl; replace e40 := H.k e40 rfl; replace e41 := H.k e41 rfl; replace e42 := H.k e42 rfl; replace e14 := H.k e14 rfl; replace e17 := H.g 17 rfl rfl; clear H
            exact ⟨⟨2, 40, HIN.out, hs, hd, e1, e10, e11, e12, e13, e16, e40, e41, e42, e14, e17, rfl⟩, by rw [HMK.out, slot e17]; decide⟩
          have dc0 : decide (e.p1 < 0) = false := decide_eq_false hc0
          by_cases hc1 : P ≤ e.p1
          ·
            have d2 : decide (P ≤ e.p1) = true := decide_eq_true hc1
            have hin2 : InW P e 0 2 40 := by
              have h := InW.t (P := P) (e := e) (K := 0) rfl HP0.out
              rwa [if_pos (by omega)] at h
            have HIN := Lib.hid hin2
            clear hin2
            refine sm_list [1, 16, 17] 54 13 hs hd (by kernel_rfl) (agC e1 (agC e16 (agC e17 agN))) rfl ?_
            simp only [seval]
            go_wp2_with fail
            intro a H; replace hs := H.s hs; replace hd := H.d rfl; replace e1 := H.g 1 rfl rfl; replace e16 := H.g 16 rfl rfl; replace e17 := H.g 17 rfl rfl; replace e10 := H.k e10 rfl; replace e11 := H.k e11 rfl; replace e12 := H.k e12 rfl; replace e13 := H.k e13 rfl; replace e40 := H.k e40 rfl; replace e41 := H.k e41 rfl; replace e42 := H.k e42 rfl; replace e14 := H.k e14 rfl; have e66 := H.g 66 rfl rfl
            clear H; refine hKq23 _ _ ?_; clear hKq23 Kq23
            refine wp_cond_true (slotE e66) ?_
            clear e66
            refine sm_list [] 14 1 hs hd (by kernel_rfl) agN rfl ?_
            simp only [seval]
            go_wp2_with fail
            intro a H; replace hs := H.s hs; replace hd := H.d rfl; replace e1 := H.k e1 rfl; replace e10 := H.k e10 rfl; replace e11 := H.k e11 rfl; replace e12 := H.k e12 rfl; replace e13 := H.k e13 rfl; replace e16 := H.k e16 rfl; replace e40 := H.k e40 rfl; replace e41 := H.k e41 rfl; replace e42 := H.k e42 rfl; replace e17 := H.k e17 rfl; replace e14 := H.g 14 rfl rfl; clear H; refine hKq22 _ _ ?_
            clear hKq22 Kq22
            refine sm_list [17] 52 2 hs hd (by kernel_rfl) (agC e17 agN) rfl ?_
            simp only [seval]
            go_wp2_with fail
            intro a H; replace hs := H.s hs; replace hd := H.d rfl; replace e1 := H.k e1 rfl; replace e10 := H.k e10 rfl; replace e11 := H.k e11 rfl; replace e12 := H.k e12 rfl; replace e13 := H.k e13 rfl; replace e16 := H.k e16 rfl; replace e40 := H.k e40 rfl; replace e41 := H.k e41 rfl; replace e42 := H.k e42 rfl; replace e14 := H.k e14 rfl; replace e17 := H.g 17 rfl rfl; clear H
            exact ⟨⟨2, 40, HIN.out, hs, hd, e1, e10, e11, e12, e13, e16, e40, e41, e42, e14, e17, rfl⟩, by rw [HMK.out, slot e17]; decide⟩
          have dc1 : decide (P ≤ e.p1) = false := decide_eq_false hc1
          have hin2 : InW P e 0 2 0 := by
            have h := InW.t (P := P) (e := e) (K := 0) rfl HP0.out
            rwa [if_neg (by omega)] at h
          have HIN := Lib.hid hin2
          clear hin2 hc0 hc1
          refine sm_list [1, 16, 17] 54 13 hs hd (by kernel_rfl) (agC e1 (agC e16 (agC e17 agN))) rfl ?_
          simp only [seval]
          go_wp2_with fail
          intro a H; replace hs := H.s hs; replace hd := H.d rfl; replace e1 := H.g 1 rfl rfl; replace e16 := H.g 16 rfl rfl; replace e17 := H.g 17 rfl rfl; replace e10 := H.k e10 rfl; replace e11 := H.k e11 rfl; replace e12 := H.k e12 rfl; replace e13 := H.k e13 rfl; replace e40 := H.k e40 rfl; replace e41 := H.k e41 rfl; replace e42 := H.k e42 rfl; replace e14 := H.k e14 rfl; have e66 := H.g 66 rfl rfl
          clear H; refine hKq23 _ _ ?_; clear hKq23 Kq23
          refine wp_cond_false (slotE e66) ?_
          clear e66; refine wp_skip ?_; refine hKq22 _ _ ?_; clear hKq22 Kq22
          refine sm_list [17] 52 2 hs hd (by kernel_rfl) (agC e17 agN) rfl ?_
          simp only [seval]
          go_wp2_with fail
          intro a H; replace hs := H.s hs; replace hd := H.d rfl; replace e1 := H.k e1 rfl; replace e10 := H.k e10 rfl; replace e11 := H.k e11 rfl; replace e12 := H.k e12 rfl; replace e13 := H.k e13 rfl; replace e16 := H.k e16 rfl; replace e40 := H.k e40 rfl; replace e41 := H.k e41 rfl; replace e42 := H.k e42 rfl; replace e14 := H.k e14 rfl; replace e17 := H.g 17 rfl rfl; clear H
          exact ⟨⟨2, 0, HIN.out, hs, hd, e1, e10, e11, e12, e13, e16, e40, e41, e42, e14, e17, rfl⟩, by rw [HMK.out, slot e17]; decide⟩
      | t h0 hp0 =>
        subst h0
        by_cases hp1 : e.p1 < 0 ∨ P ≤ e.p1
        · rw [if_pos hp1] at e14
          have HT : Hid (endsErr P (es.take (j + 1)) = 40) := Lib.hid (by rw [HE.out, stepE_0, endErr_p1 hp1])
          clear hp0 hp1
          refine sm_list [14, 17] 46 6 hs hd (by kernel_rfl) (agC e14 (agC e17 agN)) rfl ?_
          simp only [seval]
          go_wp2_with fail
          intro a H; replace hs := H.s hs; replace hd := H.d rfl; replace e14 := H.g 14 rfl rfl; replace e17 := H.g 17 rfl rfl; replace e1 := H.k e1 rfl; replace e10 := H.k e10 rfl; replace e11 := H.k e11 rfl; replace e12 := H.k e12 rfl; replace e13 := H.k e13 rfl; replace e16 := H.k e16 rfl; replace e40 := H.k e40 rfl; replace e41 := H.k e41 rfl; replace e42 := H.k e42 rfl; have e51 := H.g 51 rfl rfl
          clear H; refine hKq21 _ _ ?_; clear hKq21 Kq21
          refine wp_cond_false (slotE e51) ?_
          clear e51; refine wp_exit ?_; refine exit_then rfl ?_; clear hKq20 Kq20; refine exit_then rfl ?_; refine exit_hit ?_; refine hKq18 _ _ ?_; clear hKq18 Kq18; refine wp_seq_k fun Kq22 hKq22 => ?_
          refine sm_list [14, 16] 67 23 hs hd (by kernel_rfl) (agC e14 (agC e16 agN)) rfl ?_
          simp only [seval]
          go_wp2_with fail
          intro a H; replace hs := H.s hs; replace hd := H.d rfl; replace e16 := H.g 16 rfl rfl; replace e14 := H.g 14 rfl rfl; replace e1 := H.k e1 rfl; replace e10 := H.k e10 rfl; replace e11 := H.k e11 rfl; replace e12 := H.k e12 rfl; replace e13 := H.k e13 rfl; replace e40 := H.k e40 rfl; replace e41 := H.k e41 rfl; replace e42 := H.k e42 rfl; replace e17 := H.k e17 rfl; have e89 := H.g 89 rfl rfl
          clear H; refine hKq22 _ _ ?_; clear hKq22 Kq22
          refine wp_cond_false (slotE e89) ?_
          clear e89; refine wp_skip ?_; refine hKq16 _ _ ?_; clear hKq16 Kq16; clear e16; clear e17; have hn70 := HN.out
          refine sm_list [42] 90 1 hs hd (by kernel_rfl) (agC e42 agN) rfl ?_
          simp only [seval]
          go_wp2_with fail
          intro a H; replace hs := H.s hs; replace hd := H.d rfl; replace e1 := H.k e1 rfl; replace e10 := H.k e10 rfl; replace e11 := H.k e11 rfl; replace e12 := H.k e12 rfl; replace e13 := H.k e13 rfl; replace e40 := H.k e40 rfl; replace e41 := H.k e41 rfl; replace e14 := H.k e14 rfl; replace e42 := H.g 42 rfl rfl; clear H
          exact ⟨⟨j + 1, by omega, HB7.out.2, hs, hd, e1, e10, e11, e12, e13, e40, e41, by rw [e14, HT.out], e42⟩, by first | (simp only [HM.out, slot e42, intOf]; omega) | (simp [HM.out, slot e42, intOf]; omega)⟩
        · rw [if_neg hp1] at e14
          have HPO : Hid (PortsOk 2 P e) := Lib.hid ⟨fun _ => by omega, fun _ => by omega⟩
          have qv := HB7.out.1.cellOf (v := .int .i64 e.vid) 0 rfl; clear hp0 hp1
          refine sm_list [14, 17] 46 6 hs hd (by kernel_rfl) (agC e14 (agC e17 agN)) rfl ?_
          simp only [seval]
          go_wp2_with fail
          intro a H; replace hs := H.s hs; replace hd := H.d rfl; replace e14 := H.g 14 rfl rfl; replace e17 := H.g 17 rfl rfl; replace e1 := H.k e1 rfl; replace e10 := H.k e10 rfl; replace e11 := H.k e11 rfl; replace e12 := H.k e12 rfl; replace e13 := H.k e13 rfl; replace e16 := H.k e16 rfl; replace e40 := H.k e40 rfl; replace e41 := H.k e41 rfl; replace e42 := H.k e42 rfl; have e51 := H.g 51 rfl rfl
          clear H; refine hKq21 _ _ ?_; clear hKq21 Kq21
          refine wp_cond_false (slotE e51) ?_
          clear e51; refine wp_exit ?_; refine exit_then rfl ?_; clear hKq20 Kq20; refine exit_then rfl ?_; refine exit_hit ?_; refine hKq18 _ _ ?_; clear hKq18 Kq18; refine wp_seq_k fun Kq22 hKq22 => ?_
          by_cases hc0 : e.p0 = e.p1
          ·
            have HT : Hid (endsErr P (es.take (j + 1)) = 1) := Lib.hid (by rw [HE.out, stepE_0, endErr_arg HPO.out (by omega)])
            have d1 : (e.p0 == e.p1) = true := by simp [hc0]
            clear hc0
            refine sm_list [14, 16] 67 23 hs hd (by kernel_rfl) (agC e14 (agC e16 agN)) rfl ?_
            simp only [seval]
            go_wp2_with fail
            intro a H; replace hs := H.s hs; replace hd := H.d rfl; replace e16 := H.g 16 rfl rfl; replace e14 := H.g 14 rfl rfl; replace e1 := H.k e1 rfl; replace e10 := H.k e10 rfl; replace e11 := H.k e11 rfl; replace e12 := H.k e12 rfl; replace e13 := H.k e13 rfl; replace e40 := H.k e40 rfl; replace e41 := H.k e41 rfl; replace e42 := H.k e42 rfl; replace e17 := H.k e17 rfl; have e89 := H.g 89 rfl rfl
            clear H; refine hKq22 _ _ ?_; clear hKq22 Kq22
            refine wp_cond_true (slotE e89) ?_
            clear e89
            refine sm_list [] 14 1 hs hd (by kernel_rfl) agN rfl ?_
            simp only [seval]
            go_wp2_with fail
            intro a H; replace hs := H.s hs; replace hd := H.d rfl; replace e1 := H.k e1 rfl; replace e10 := H.k e10 rfl; replace e11 := H.k e11 rfl; replace e12 := H.k e12 rfl; replace e13 := H.k e13 rfl; replace e16 := H.k e16 rfl; replace e40 := H.k e40 rfl; replace e41 := H.k e41 rfl; replace e42 := H.k e42 rfl; replace e17 := H.k e17 rfl; replace e14 := H.g 14 rfl rfl; clear H; refine hKq16 _ _ ?_
            clear hKq16 Kq16; clear e16; clear e17; have hn70 := HN.out
            refine sm_list [42] 90 1 hs hd (by kernel_rfl) (agC e42 agN) rfl ?_
            simp only [seval]
            go_wp2_with fail
            intro a H; replace hs := H.s hs; replace hd := H.d rfl; replace e1 := H.k e1 rfl; replace e10 := H.k e10 rfl; replace e11 := H.k e11 rfl; replace e12 := H.k e12 rfl; replace e13 := H.k e13 rfl; replace e40 := H.k e40 rfl; replace e41 := H.k e41 rfl; replace e14 := H.k e14 rfl; replace e42 := H.g 42 rfl rfl; clear H
            exact ⟨⟨j + 1, by omega, HB7.out.2, hs, hd, e1, e10, e11, e12, e13, e40, e41, by rw [e14, HT.out], e42⟩, by first | (simp only [HM.out, slot e42, intOf]; omega) | (simp [HM.out, slot e42, intOf]; omega)⟩
          have dc0 : (e.p0 == e.p1) = false := by simpa using hc0
          by_cases hc1 : e.vid < 2
          ·
            have HT : Hid (endsErr P (es.take (j + 1)) = 1) := Lib.hid (by rw [HE.out, stepE_0, endErr_arg HPO.out (by omega)])
            have d2 : decide (e.vid < 2) = true := decide_eq_true hc1
            refine sm_list [14, 16] 67 23 hs hd (by kernel_rfl) (agC e14 (agC e16 agN)) rfl ?_
            simp only [seval]
            go_wp2_with fail
            intro a H; replace hs := H.s hs; replace hd := H.d rfl; replace e16 := H.g 16 rfl rfl; replace e14 := H.g 14 rfl rfl; replace e1 := H.k e1 rfl; replace e10 := H.k e10 rfl; replace e11 := H.k e11 rfl; replace e12 := H.k e12 rfl; replace e13 := H.k e13 rfl; replace e40 := H.k e40 rfl; replace e41 := H.k e41 rfl; replace e42 := H.k e42 rfl; replace e17 := H.k e17 rfl; have e89 := H.g 89 rfl rfl
            clear H; refine hKq22 _ _ ?_; clear hKq22 Kq22
            refine wp_cond_true (slotE e89) ?_
            clear e89
            refine sm_list [] 14 1 hs hd (by kernel_rfl) agN rfl ?_
            simp only [seval]
            go_wp2_with fail
            intro a H; replace hs := H.s hs; replace hd := H.d rfl; replace e1 := H.k e1 rfl; replace e10 := H.k e10 rfl; replace e11 := H.k e11 rfl; replace e12 := H.k e12 rfl; replace e13 := H.k e13 rfl; replace e16 := H.k e16 rfl; replace e40 := H.k e40 rfl; replace e41 := H.k e41 rfl; replace e42 := H.k e42 rfl; replace e17 := H.k e17 rfl; replace e14 := H.g 14 rfl rfl; clear H; refine hKq16 _ _ ?_
            clear hKq16 Kq16; clear e16; clear e17; have hn70 := HN.out
            refine sm_list [42] 90 1 hs hd (by kernel_rfl) (agC e42 agN) rfl ?_
            simp only [seval]
            go_wp2_with fail
            intro a H; replace hs := H.s hs; replace hd := H.d rfl; replace e1 := H.k e1 rfl; replace e10 := H.k e10 rfl; replace e11 := H.k e11 rfl; replace e12 := H.k e12 rfl; replace e13 := H.k e13 rfl; replace e40 := H.k e40 rfl; replace e41 := H.k e41 rfl; replace e14 := H.k e14 rfl; replace e42 := H.g 42 rfl rfl; clear H
            exact ⟨⟨j + 1, by omega, HB7.out.2, hs, hd, e1, e10, e11, e12, e13, e40, e41, by rw [e14, HT.out], e42⟩, by first | (simp only [HM.out, slot e42, intOf]; omega) | (simp [HM.out, slot e42, intOf]; omega)⟩
          have dc1 : decide (e.vid < 2) = false := decide_eq_false hc1
          by_cases hc2 : 4094 < e.vid
          ·
            have HT : Hid (endsErr P (es.take (j + 1)) = 1) := Lib.hid (by rw [HE.out, stepE_0, endErr_arg HPO.out (by omega)])
            have d3 : decide (4094 < e.vid) = true := decide_eq_true hc2
            refine sm_list [14, 16] 67 23 hs hd (by kernel_rfl) (agC e14 (agC e16 agN)) rfl ?_
            simp only [seval]
            go_wp2_with fail
            intro a H; replace hs := H.s hs; replace hd := H.d rfl; replace e16 := H.g 16 rfl rfl; replace e14 := H.g 14 rfl rfl; replace e1 := H.k e1 rfl; replace e10 := H.k e10 rfl; replace e11 := H.k e11 rfl; replace e12 := H.k e12 rfl; replace e13 := H.k e13 rfl; replace e40 := H.k e40 rfl; replace e41 := H.k e41 rfl; replace e42 := H.k e42 rfl; replace e17 := H.k e17 rfl; have e89 := H.g 89 rfl rfl
            clear H; refine hKq22 _ _ ?_; clear hKq22 Kq22
            refine wp_cond_true (slotE e89) ?_
            clear e89
            refine sm_list [] 14 1 hs hd (by kernel_rfl) agN rfl ?_
            simp only [seval]
            go_wp2_with fail
            intro a H; replace hs := H.s hs; replace hd := H.d rfl; replace e1 := H.k e1 rfl; replace e10 := H.k e10 rfl; replace e11 := H.k e11 rfl; replace e12 := H.k e12 rfl; replace e13 := H.k e13 rfl; replace e16 := H.k e16 rfl; replace e40 := H.k e40 rfl; replace e41 := H.k e41 rfl; replace e42 := H.k e42 rfl; replace e17 := H.k e17 rfl; replace e14 := H.g 14 rfl rfl; clear H; refine hKq16 _ _ ?_
            clear hKq16 Kq16; clear e16; clear e17; have hn70 := HN.out
            refine sm_list [42] 90 1 hs hd (by kernel_rfl) (agC e42 agN) rfl ?_
            simp only [seval]
            go_wp2_with fail
            intro a H; replace hs := H.s hs; replace hd := H.d rfl; replace e1 := H.k e1 rfl; replace e10 := H.k e10 rfl; replace e11 := H.k e11 rfl; replace e12 := H.k e12 rfl; replace e13 := H.k e13 rfl; replace e40 := H.k e40 rfl; replace e41 := H.k e41 rfl; replace e14 := H.k e14 rfl; replace e42 := H.g 42 rfl rfl; clear H
            exact ⟨⟨j + 1, by omega, HB7.out.2, hs, hd, e1, e10, e11, e12, e13, e40, e41, by rw [e14, HT.out], e42⟩, by first | (simp only [HM.out, slot e42, intOf]; omega) | (simp [HM.out, slot e42, intOf]; omega)⟩
          have dc2 : decide (4094 < e.vid) = false := decide_eq_false hc2
          have HT : Hid (endsErr P (es.take (j + 1)) = 0) := Lib.hid (by rw [HE.out, stepE_0, endErr_ok HPO.out (by omega)])
          clear hc0 hc1 hc2
          refine sm_list [14, 16] 67 23 hs hd (by kernel_rfl) (agC e14 (agC e16 agN)) rfl ?_
          simp only [seval]
          go_wp2_with fail
          intro a H; replace hs := H.s hs; replace hd := H.d rfl; replace e16 := H.g 16 rfl rfl; replace e14 := H.g 14 rfl rfl; replace e1 := H.k e1 rfl; replace e10 := H.k e10 rfl; replace e11 := H.k e11 rfl; replace e12 := H.k e12 rfl; replace e13 := H.k e13 rfl; replace e40 := H.k e40 rfl; replace e41 := H.k e41 rfl; replace e42 := H.k e42 rfl; replace e17 := H.k e17 rfl; have e89 := H.g 89 rfl rfl
          clear H; refine hKq22 _ _ ?_; clear hKq22 Kq22
          refine wp_cond_false (slotE e89) ?_
          clear e89; refine wp_skip ?_; refine hKq16 _ _ ?_; clear hKq16 Kq16; clear e16; clear e17; have hn70 := HN.out
          refine sm_list [42] 90 1 hs hd (by kernel_rfl) (agC e42 agN) rfl ?_
          simp only [seval]
          go_wp2_with fail
          intro a H; replace hs := H.s hs; replace hd := H.d rfl; replace e1 := H.k e1 rfl; replace e10 := H.k e10 rfl; replace e11 := H.k e11 rfl; replace e12 := H.k e12 rfl; replace e13 := H.k e13 rfl; replace e40 := H.k e40 rfl; replace e41 := H.k e41 rfl; replace e14 := H.k e14 rfl; replace e42 := H.g 42 rfl rfl; clear H
          exact ⟨⟨j + 1, by omega, HB7.out.2, hs, hd, e1, e10, e11, e12, e13, e40, e41, by rw [e14, HT.out], e42⟩, by first | (simp only [HM.out, slot e42, intOf]; omega) | (simp [HM.out, slot e42, intOf]; omega)⟩
    · have hkn : j = n := by omega
      have dj : decide ((j : Int) < (n : Int)) = false := decide_eq_false (by omega)
      have dj2 : decide (j < n) = false := decide_eq_false hlt3
      have hEE : K = endsErr P es := by rw [HKJ.out, List.take_of_length_le (by rw [HR.out.2]; omega)]
      have HEE := Lib.hid hEE
      have HL6 := Lib.hid L6
      clear hm hj hlt3 hkn hEE L6
      refine sm_list [41, 42] 43 1 hs hd (by kernel_rfl) (agC e41 (agC e42 agN)) rfl ?_
      simp only [seval]
      go_wp2_with fail
      intro a H; replace hs := H.s hs; replace hd := H.d rfl; replace e41 := H.g 41 rfl rfl; replace e42 := H.g 42 rfl rfl; replace e1 := H.k e1 rfl; replace e10 := H.k e10 rfl; replace e11 := H.k e11 rfl; replace e12 := H.k e12 rfl; replace e13 := H.k e13 rfl; replace e40 := H.k e40 rfl; replace e14 := H.k e14 rfl; have e43 := H.g 43 rfl rfl; clear H; refine hKq14 _ _ ?_; clear hKq14 Kq14; refine wp_seq_k fun Kq15 hKq15 => ?_
      refine wp_cond_false (slotE e43) ?_
      clear e43; refine wp_exit ?_; refine exit_then rfl ?_; clear hKq15 Kq15; refine exit_then rfl ?_; refine exit_hit ?_; refine hKq12 _ _ ?_; clear hKq12 Kq12; refine wp_seq_k fun Kq16 hKq16 => ?_; clear dj dj2
      by_cases hk0 : K = 0
      · subst hk0
        have hVV : V = ckB id P := by rw [HV.out, hoV_ok HG.out HEE.out.symm]
        have HVV := Lib.hid hVV
        clear hVV
        refine sm_list [14] 91 2 hs hd (by kernel_rfl) (agC e14 agN) rfl ?_
        simp only [seval]
        go_wp2_with fail
        intro a H; replace hs := H.s hs; replace hd := H.d rfl; replace e14 := H.g 14 rfl rfl; replace e1 := H.k e1 rfl; replace e10 := H.k e10 rfl; replace e11 := H.k e11 rfl; replace e12 := H.k e12 rfl; replace e13 := H.k e13 rfl; replace e40 := H.k e40 rfl; replace e41 := H.k e41 rfl; replace e42 := H.k e42 rfl; have e92 := H.g 92 rfl rfl; clear H; refine hKq16 _ _ ?_; clear hKq16 Kq16
        refine wp_cond_true (slotE e92) ?_
        clear e92
        refine sm_list [11, 14] 93 2 hs hd (by kernel_rfl) (agC e11 (agC e14 agN)) rfl ?_
        simp only [seval]
        go_wp2_with (first | (refine wpList_load_any_d rfl 42 (.tmp 0) rfl ⟨q, 0, none⟩ rfl (cfc id P) _ (blk_cells (HB5.out.1.kept HL6.out)) Tryz.underlying42 rfl (by kernel_rfl) ?_) | fail)
        refine (brCheck_any id P w6).mono ?_
        rintro x w7 ⟨rfl, hb7⟩
        have L7 := HL6.out.trans (hb7.mono HL6.out.size); clear hb7
        go_wp2_with fail
        intro a H; replace hs := H.s hs; replace hd := H.d rfl; replace e11 := H.g 11 rfl rfl; replace e1 := H.k e1 rfl; replace e10 := H.k e10 rfl; replace e12 := H.k e12 rfl; replace e13 := H.k e13 rfl; replace e40 := H.k e40 rfl; replace e41 := H.k e41 rfl; replace e42 := H.k e42 rfl; replace e14 := H.g 14 rfl rfl; clear H
        exact HK a _ (hs.trans hsz0.out.symm) hd (e10.trans e10o.out.symm) (e12.trans e12o.out.symm) (e13.trans e13o.out.symm) (by rw [e14, HVV.out]) L7
      · have dk : (K == 0) = false := beq_eq_false_iff_ne.2 hk0
        have hVV : V = K := by rw [HV.out]; exact hoV_end HG.out HEE.out.symm hk0
        have HVV := Lib.hid hVV
        clear hVV hk0
        refine sm_list [14] 91 2 hs hd (by kernel_rfl) (agC e14 agN) rfl ?_
        simp only [seval]
        go_wp2_with fail
        intro a H; replace hs := H.s hs; replace hd := H.d rfl; replace e14 := H.g 14 rfl rfl; replace e1 := H.k e1 rfl; replace e10 := H.k e10 rfl; replace e11 := H.k e11 rfl; replace e12 := H.k e12 rfl; replace e13 := H.k e13 rfl; replace e40 := H.k e40 rfl; replace e41 := H.k e41 rfl; replace e42 := H.k e42 rfl; have e92 := H.g 92 rfl rfl; clear H; refine hKq16 _ _ ?_; clear hKq16 Kq16
        refine wp_cond_false (slotE e92) ?_
        clear e92; refine wp_skip ?_
        exact HK a _ (hs.trans hsz0.out.symm) hd (e10.trans e10o.out.symm) (e12.trans e12o.out.symm) (e13.trans e13o.out.symm) (by rw [e14, HVV.out]) HL6.out
  intro a' w6 g_s g_d g10 g12 g13 f14 L6
  replace hs := g_s.trans hs; replace hd := g_d
  have e10' := g10.trans e10
  have e12' := g12.trans e12
  have e13' := g13.trans e13
  clear e0 e1 e2 e3 e4 e10 e11 e12 e13 e14 g_s g_d g10 g12 g13
  have e10 := e10'
  have e12 := e12'
  have e13 := e13'
  have e14 := f14
  clear e10' e12' e13' f14 a
  obtain ⟨a, rfl⟩ : ∃ a, a = a' := ⟨_, rfl⟩
  clear hKq11 Kq11; refine hKq10 _ _ ?_; clear hKq10 Kq10; refine wp_seq_k fun Kq12 hKq12 => ?_; refine wp_seq_k fun Kq13 hKq13 => ?_; have L7 := HB5.out.2.1.trans (L6.mono HB5.out.2.1.size)
  have dn : (V != V) = false := by simp
  refine sm_list [13, 14] 110 3 hs hd (by kernel_rfl) (agC e13 (agC e14 agN)) rfl ?_
  simp only [seval]
  go_wp2_with fail
  intro a H; replace hs := H.s hs; replace hd := H.d rfl; replace e13 := H.g 13 rfl rfl; replace e14 := H.g 14 rfl rfl; replace e10 := H.k e10 rfl; replace e12 := H.k e12 rfl; have e112 := H.g 112 rfl rfl; clear H; refine hKq13 _ _ ?_; clear hKq13 Kq13
  refine wp_cond_false (slotE e112) ?_
  clear e112; refine wp_skip ?_; refine hKq12 _ _ ?_; clear hKq12 Kq12; refine wp_seq_k fun Kq14 hKq14 => ?_; refine wp_seq_k fun Kq15 hKq15 => ?_; clear dn
  rcases hv.out with ⟨hv0, rfl⟩ | ⟨rfl, g, gb, ve, hg, vm, ms, rfl, hX⟩
  · have dv : (V != 0) = true := bne_iff_ne.2 hv0
    clear hv0
    refine sm_list [14] 113 2 hs hd (by kernel_rfl) (agC e14 agN) rfl ?_
    simp only [seval]
    go_wp2_with fail
    intro a H; replace hs := H.s hs; replace hd := H.d rfl; replace e14 := H.g 14 rfl rfl; replace e10 := H.k e10 rfl; replace e12 := H.k e12 rfl; replace e13 := H.k e13 rfl; have e114 := H.g 114 rfl rfl; clear H; refine hKq15 _ _ ?_; clear hKq15 Kq15
    refine wp_cond_true (slotE e114) ?_
    clear e114; refine wp_seq_k fun Kq16 hKq16 => ?_; clear dv
    refine sm_list [12, 18, 19, 20] 115 6 hs hd (by kernel_rfl) (agC e12 (agU (agU (agU agN)))) rfl ?_
    simp only [seval]
    go_wp2_with fail
    refine (hSend_nil 0 _ _).mono ?_
    rintro x w6 ⟨rfl, rfl⟩
    go_wp2_with fail
    intro a H; replace hs := H.s hs; replace hd := H.d rfl; replace e12 := H.g 12 rfl rfl; replace e10 := H.k e10 rfl; replace e13 := H.k e13 rfl; replace e14 := H.k e14 rfl; have e20 := H.g 20 rfl rfl; clear H; refine hKq16 _ _ ?_; clear hKq16 Kq16; refine wp_seq_k fun Kq17 hKq17 => ?_
    refine sm_list [12, 21, 22] 121 5 hs hd (by kernel_rfl) (agC e12 (agU (agU agN))) rfl ?_
    simp only [seval]
    go_wp2_with fail
    refine (hIn_nil 0 _ _ _).mono ?_
    rintro x w6 ⟨rfl, rfl⟩
    go_wp2_with fail
    intro a H; replace hs := H.s hs; replace hd := H.d rfl; replace e12 := H.g 12 rfl rfl; replace e10 := H.k e10 rfl; replace e13 := H.k e13 rfl; replace e14 := H.k e14 rfl; replace e20 := H.k e20 rfl; have e21 := H.g 21 rfl rfl; have e22 := H.g 22 rfl rfl; clear H; refine hKq17 _ _ ?_; clear hKq17 Kq17; refine wp_seq_k fun Kq18 hKq18 => ?_
    refine sm_list [10, 12, 20, 21, 22] 126 31 hs hd (by kernel_rfl) (agC e10 (agC e12 (agC e20 (agC e21 (agC e22 agN))))) rfl ?_
    simp only [seval]
    go_wp2_with fail
    refine (hNode_nil _).mono ?_
    rintro x w6 ⟨rfl, rfl⟩
    go_wp2_with fail
    refine (hAgain_nil _).mono ?_
    rintro x w6 ⟨rfl, rfl⟩
    go_wp2_with fail
    refine (hStray_nil _).mono ?_
    rintro x w6 ⟨rfl, rfl⟩
    go_wp2_with fail
    intro a H; replace hs := H.s hs; replace hd := H.d rfl; replace e12 := H.g 12 rfl rfl; replace e20 := H.g 20 rfl rfl; replace e21 := H.g 21 rfl rfl; replace e22 := H.g 22 rfl rfl; replace e13 := H.k e13 rfl; replace e14 := H.k e14 rfl; replace e10 := H.g 10 rfl rfl; clear H; refine hKq18 _ _ ?_; clear hKq18 Kq18; refine wp_ret ?_; refine exit_then rfl ?_
    exact sm_ret rfl hd e10 ⟨rfl, L7⟩
  ·
    have HND := Lib.hid (hNode_any g gb _ w6 ((hX.at_.kept L6).box) rfl)
    clear hX L6
    refine sm_list [14] 113 2 hs hd (by kernel_rfl) (agC e14 agN) rfl ?_
    simp only [seval]
    go_wp2_with fail
    intro a H; replace hs := H.s hs; replace hd := H.d rfl; replace e14 := H.g 14 rfl rfl; replace e10 := H.k e10 rfl; replace e12 := H.k e12 rfl; replace e13 := H.k e13 rfl; have e114 := H.g 114 rfl rfl; clear H; refine hKq15 _ _ ?_; clear hKq15 Kq15
    refine wp_cond_false (slotE e114) ?_
    clear e114; refine wp_skip ?_; refine hKq14 _ _ ?_; clear hKq14 Kq14; refine wp_seq_k fun Kq16 hKq16 => ?_
    refine sm_list [10, 12] 157 3 hs hd (by kernel_rfl) (agC e10 (agC e12 agN)) rfl ?_
    simp only [seval]
    go_wp2_with fail
    refine HND.out.mono ?_
    rintro x w7 ⟨rfl, rfl⟩
    go_wp2_with fail
    intro a H; replace hs := H.s hs; replace hd := H.d rfl; replace e12 := H.g 12 rfl rfl; replace e13 := H.k e13 rfl; replace e14 := H.k e14 rfl; replace e10 := H.g 10 rfl rfl; clear H; refine hKq16 _ _ ?_; clear hKq16 Kq16; refine wp_ret ?_
    exact sm_ret rfl hd e10 ⟨rfl, L7⟩
end Go.Proofs.YthhlfojaloaooaaGreat
