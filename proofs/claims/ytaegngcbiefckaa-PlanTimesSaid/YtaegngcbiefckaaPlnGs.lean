/-
  Lists of gates: stay, Left, State.
-/
import Derived.Test.YtaegngcbiefckaaPlnGl
namespace Go.Proofs.Ytaegngcbiefckaa
set_option linter.unusedSimpArgs false
set_option linter.unusedVariables false
open Go.RowKit Go.WideShapes Go.ChangeShapes
attribute [local go_sem ↓] Go.wp_at_zero Go.wp_at_succ

set_option maxRecDepth 100000 in
set_option maxHeartbeats 4000000 in
theorem stay_l (t : List (Int × Int)) (cyc : Int) (A : Option Addr) (c : Nat) (p l : Int) (i : Nat) (w : World) (hr : Reads w w.heap.size 2 A t.length (t.flatMap spc)) (hG : Gd t cyc) (hp : 0 ≤ p ∧ p < cyc) (hi : t[i]? = some (128, l)) (hpi : preS t i ≤ p ∧ p < preS t (i + 1)) :
    Calls Try.prog 31 #[.agg #[.int .i64 0, .int .i64 cyc, .slice A t.length c], .int .i64 p, .int .i64 7, .int .i64 1] w fun e w' => (∃ r : Int, e = .returned (.int .i64 r) ∧ preS t (i + 1) - p ≤ r ∧ r ≤ 2 * cyc) ∧ Below w.heap.size w w' := by
  have HGD := Lib.hid hG
  have hc1 := hG.c1
  have hc2 := hG.c2
  have hl1 := hG.l1
  have hl2 := hG.l2
  clear hG
  refine calls_sm (N := 48) Try.func31 rfl (by kernel_rfl) ?_
  intro a hs hd ha
  have e0 : a.tmps[0]? = some (.agg #[.int .i64 0, .int .i64 cyc, .slice A t.length c]) := ha 0 _ rfl
  have e1 : a.tmps[1]? = some (.int .i64 p) := ha 1 _ rfl
  have e2 : a.tmps[2]? = some (.int .i64 7) := ha 2 _ rfl
  have e3 : a.tmps[3]? = some (.int .i64 1) := ha 3 _ rfl
  clear ha
  conv => arg 2; whnf
  refine wp_seq_k fun Kq1 hKq1 => ?_
  obtain ⟨hp0, hp1⟩ := hp
  have HI := Lib.hid (And.intro hi hpi)
  have hil := (List.getElem?_eq_some_iff.1 hi).1
  have hpe := (HGD.out.pre (i := i + 1) (by omega)).2
  obtain ⟨D, hD⟩ : ∃ D, D = preS t (i + 1) - p := ⟨_, rfl⟩
  rw [← hD]
  have hDc : D ≤ cyc := by omega
  have HD := Lib.hid hD
  clear hi hpi hD hpe
  refine sm_list [0, 4] 8 1 hs hd (by kernel_rfl) (agC e0 (agU agN)) (by simp only [List.append_eq, List.cons_append, List.nil_append, List.map_cons, List.map_nil, reOper, reOp, reO, reC, reK, Option.map_some, Option.map_none, fS_ite, ix_ite, Nat.reduceLeDiff, Nat.reduceEqDiff, if_true, if_false, ↓reduceIte, List.length_cons, List.length_nil, Nat.reduceAdd, Nat.reduceSub, List.map_toArray]; rfl) ?_
  simp only [List.replicate_succ, List.replicate_zero, List.cons_append, List.nil_append, List.drop_succ_cons, List.drop_zero, List.take_succ_cons, List.take_zero]
  go_wp2_with fail
  intro a H
  replace hs := H.size.trans hs
  replace hd : a.defers = [] := H.defers
  replace e1 : a.tmps[1]? = some _ := H.keep e1 rfl
  replace e2 : a.tmps[2]? = some _ := H.keep e2 rfl
  replace e3 : a.tmps[3]? = some _ := H.keep e3 rfl
  clear e0
  have e4 : a.tmps[4]? = some _ := H.got rfl rfl
  clear H
  refine hKq1 _ _ ?_
  clear hKq1 Kq1
  refine wp_seq_k fun Kq2 hKq2 => ?_
  have BL := Blk.new w 58 #[.int .i64 0, .int .i64 cyc, .slice A t.length c]
  have L1 : Below w.heap.size w (w.alloc (.cells #[.int .i64 0, .int .i64 cyc, .slice A t.length c] 58)) := (Below.refl _ _).alloc (Nat.le_refl _) _
  have hr1 := (hr.below L1)
  have hz1 : w.heap.size < (w.alloc (.cells #[.int .i64 0, .int .i64 cyc, .slice A t.length c] 58)).heap.size := by simp
  generalize (w.alloc (.cells #[.int .i64 0, .int .i64 cyc, .slice A t.length c] 58)) = w1 at *
  obtain ⟨g, hg⟩ : ∃ q, q = w.heap.size := ⟨_, rfl⟩
  rw [← hg] at BL L1 hr1 hz1 e4
  have HG := Lib.hid hg
  clear hg hr
  refine sm_list [] 9 1 hs hd (by kernel_rfl) agN (by simp only [List.append_eq, List.cons_append, List.nil_append, List.map_cons, List.map_nil, reOper, reOp, reO, reC, reK, Option.map_some, Option.map_none, fS_ite, ix_ite, Nat.reduceLeDiff, Nat.reduceEqDiff, if_true, if_false, ↓reduceIte, List.length_cons, List.length_nil, Nat.reduceAdd, Nat.reduceSub, List.map_toArray]; rfl) ?_
  simp only [List.replicate_succ, List.replicate_zero, List.cons_append, List.nil_append, List.drop_succ_cons, List.drop_zero, List.take_succ_cons, List.take_zero]
  go_wp2_with fail
  intro a H
  replace hs := H.size.trans hs
  replace hd : a.defers = [] := H.defers
  replace e1 : a.tmps[1]? = some _ := H.keep e1 rfl
  replace e2 : a.tmps[2]? = some _ := H.keep e2 rfl
  replace e3 : a.tmps[3]? = some _ := H.keep e3 rfl
  replace e4 : a.tmps[4]? = some _ := H.keep e4 rfl
  have e9 : a.tmps[9]? = some _ := H.got rfl rfl
  clear H
  refine hKq2 _ _ ?_
  clear hKq2 Kq2
  refine wp_seq_k fun Kq3 hKq3 => ?_
  refine wp_block ?_
  refine wp_loop (fun a w' => ∃ n q : Int, (0 ≤ q ∧ q < cyc) ∧ (0 ≤ n ∧ n ≤ 4294967296) ∧ Hid ((n = 0 ∧ q = p) ∨ D ≤ n) ∧ a.tmps.size = 48 ∧ a.defers = [] ∧ a.tmps[2]? = some (.int .i64 7) ∧ a.tmps[3]? = some (.int .i64 1) ∧ a.tmps[4]? = some (.pointer (some ⟨g, 0, none⟩)) ∧ a.tmps[1]? = some (.int .i64 q) ∧ a.tmps[9]? = some (.int .i64 n) ∧ Below w1.heap.size w1 w') (fun a _ => (2 * cyc - intOf (a.tmps.getD 9 undef)).toNat) ?_ ?_
  · exact ⟨0, p, ⟨hp0, hp1⟩, by omega, Lib.hid (.inl ⟨rfl, rfl⟩), hs, hd, e2, e3, e4, e1, e9, Below.refl _ _⟩
  clear hs hd e1 e9 e2 e3 e4 a
  rintro a w3 ⟨n, q, ⟨hq0, hq1⟩, ⟨hn0, hn1⟩, HN, hs, hd, e2, e3, e4, e1, e9, hb⟩
  have hm := slot e9
  refine wp_seq_k fun Kq4 hKq4 => ?_
  refine wp_seq_k fun Kq5 hKq5 => ?_
  have BL3 := BL.below hb hz1
  have k1 := BL3.cellOf (v := .int .i64 cyc) 1 rfl
  by_cases hlt : n < 2 * cyc
  ·
    have dl : decide (n < 2 * cyc) = true := decide_eq_true hlt
    have hr3 := (hr1.below (hb.mono (Nat.le_of_lt hz1))).more (Nat.le_of_lt BL3.lt)
    have HSL := Lib.hid (slot_l t cyc A c q w3 hr3 HGD.out ⟨hq0, hq1⟩)
    refine sm_list [4, 9] 12 5 hs hd (by kernel_rfl) (agC e4 (agC e9 agN)) (by simp only [List.append_eq, List.cons_append, List.nil_append, List.map_cons, List.map_nil, reOper, reOp, reO, reC, reK, Option.map_some, Option.map_none, fS_ite, ix_ite, Nat.reduceLeDiff, Nat.reduceEqDiff, if_true, if_false, ↓reduceIte, List.length_cons, List.length_nil, Nat.reduceAdd, Nat.reduceSub, List.map_toArray]; rfl) ?_
    simp only [List.replicate_succ, List.replicate_zero, List.cons_append, List.nil_append, List.drop_succ_cons, List.drop_zero, List.take_succ_cons, List.take_zero]
    go_wp2_with fail
    intro a H
    replace hs := H.size.trans hs
    replace hd : a.defers = [] := H.defers
    replace e2 : a.tmps[2]? = some _ := H.keep e2 rfl
    replace e3 : a.tmps[3]? = some _ := H.keep e3 rfl
    replace e4 : a.tmps[4]? = some _ := H.got rfl rfl
    replace e1 : a.tmps[1]? = some _ := H.keep e1 rfl
    replace e9 : a.tmps[9]? = some _ := H.got rfl rfl
    have e16 : a.tmps[16]? = some _ := H.got rfl rfl
    clear H
    refine hKq5 _ _ ?_
    clear hKq5 Kq5
    refine wp_cond_true (slotE e16) ?_
    clear e16
    refine wp_skip ?_
    refine hKq4 _ _ ?_
    clear hKq4 Kq4
    refine wp_block ?_
    refine wp_seq_k fun Kq6 hKq6 => ?_
    refine sm_list [1, 4, 10, 11] 17 6 hs hd (by kernel_rfl) (agC e1 (agC e4 (agU (agU agN)))) (by simp only [List.append_eq, List.cons_append, List.nil_append, List.map_cons, List.map_nil, reOper, reOp, reO, reC, reK, Option.map_some, Option.map_none, fS_ite, ix_ite, Nat.reduceLeDiff, Nat.reduceEqDiff, if_true, if_false, ↓reduceIte, List.length_cons, List.length_nil, Nat.reduceAdd, Nat.reduceSub, List.map_toArray]; rfl) ?_
    simp only [List.replicate_succ, List.replicate_zero, List.cons_append, List.nil_append, List.drop_succ_cons, List.drop_zero, List.take_succ_cons, List.take_zero]
    go_wp2_with (first | (refine wpList_load_any_d rfl 58 (.tmp 1) rfl ⟨g, 0, none⟩ rfl (#[.int .i64 0, .int .i64 cyc, .slice A t.length c]) _ (blk_cells BL3) Try.underlying58 rfl (by kernel_rfl) ?_) | fail)
    refine HSL.out.mono ?_
    rintro e w4 ⟨⟨i2, s, rfl, hs2, hq2, hq3⟩, hb4⟩
    have HS2 := Lib.hid (And.intro hs2 (And.intro hq2 hq3))
    clear hs2 hq2 hq3
    go_wp2_with fail
    intro a H
    replace hs := H.size.trans hs
    replace hd : a.defers = [] := H.defers
    replace e2 : a.tmps[2]? = some _ := H.keep e2 rfl
    replace e3 : a.tmps[3]? = some _ := H.keep e3 rfl
    replace e4 : a.tmps[4]? = some _ := H.got rfl rfl
    replace e1 : a.tmps[1]? = some _ := H.got rfl rfl
    replace e9 : a.tmps[9]? = some _ := H.keep e9 rfl
    have e10 : a.tmps[10]? = some _ := H.got rfl rfl
    have e11 : a.tmps[11]? = some _ := H.got rfl rfl
    clear H
    refine hKq6 _ _ ?_
    clear hKq6 Kq6
    refine wp_seq_k fun Kq7 hKq7 => ?_
    refine wp_seq_k fun Kq8 hKq8 => ?_
    obtain ⟨hs2, hq2, hq3⟩ := HS2.out
    have hi2 := (List.getElem?_eq_some_iff.1 hs2).1
    have hso := (HGD.out.o s (List.mem_of_getElem? hs2)).1
    have hpe := HGD.out.pre (i := i2 + 1) (by omega)
    have hpz := HGD.out.pre (i := i2) (by omega)
    have hb5 := hb.trans (hb4.mono hb.size)
    have BL4 := BL3.kept hb4
    have hsame : n = 0 ∧ q = p → i2 = i ∧ s = (128, l) := fun ⟨_, h⟩ => by
      subst h
      have hii := HGD.out.one hi2 hil hq2 hq3 HI.out.2.1 HI.out.2.2
      subst hii
      rw [HI.out.1] at hs2
      exact ⟨rfl, (Option.some.inj hs2).symm⟩
    have HSAME := Lib.hid hsame
    clear hsame
    obtain ⟨ad, hA, hadb, hcl⟩ := reads_at spc_len (hr1.below (hb5.mono (Nat.le_of_lt hz1))) hs2 hi2
    have z0 := hcl 0 _ rfl
    have hadz : (ad.add (i2 * 2)).add 0 = ad.add (i2 * 2) := by rw [add_of_add, Nat.add_zero]
    rw [hadz] at z0
    obtain ⟨E, hE⟩ : ∃ E, E = preS t (i2 + 1) := ⟨_, rfl⟩
    rw [← hE] at e11 hq3 hpe
    have HE := Lib.hid hE
    clear hE hcl hs2 hadz
    have k2 := BL4.cellOf (v := .slice A t.length c) 2 rfl
    rw [hA] at k2
    have hiI : (i2 : Int) < (t.length : Int) := by omega
    have hi0I : (0 : Int) ≤ (i2 : Int) := by omega
    obtain ⟨so, hso2⟩ : ∃ o, o = s.1 := ⟨_, rfl⟩
    rw [← hso2] at z0 hso
    have HSO := Lib.hid hso2
    clear hso2
    rcases hso with rfl | rfl
    · have hnD : D ≤ n := by
        rcases HN.out with h | h
        · have h2 := (HSAME.out h).2
          have h3 := HSO.out
          rw [h2] at h3
          exact absurd (show (127 : Int) = 128 from h3) (by decide)
        · exact h
      refine sm_list [2, 3, 4, 10] 23 11 hs hd (by kernel_rfl) (agC e2 (agC e3 (agC e4 (agC e10 agN)))) (by simp only [List.append_eq, List.cons_append, List.nil_append, List.map_cons, List.map_nil, reOper, reOp, reO, reC, reK, Option.map_some, Option.map_none, fS_ite, ix_ite, Nat.reduceLeDiff, Nat.reduceEqDiff, if_true, if_false, ↓reduceIte, List.length_cons, List.length_nil, Nat.reduceAdd, Nat.reduceSub, List.map_toArray]; rfl) ?_
      simp only [List.replicate_succ, List.replicate_zero, List.cons_append, List.nil_append, List.drop_succ_cons, List.drop_zero, List.take_succ_cons, List.take_zero]
      go_wp2_with fail
      intro a H
      replace hs := H.size.trans hs
      replace hd : a.defers = [] := H.defers
      replace e2 : a.tmps[2]? = some _ := H.got rfl rfl
      replace e3 : a.tmps[3]? = some _ := H.got rfl rfl
      replace e4 : a.tmps[4]? = some _ := H.got rfl rfl
      replace e1 : a.tmps[1]? = some _ := H.keep e1 rfl
      replace e9 : a.tmps[9]? = some _ := H.keep e9 rfl
      replace e10 : a.tmps[10]? = some _ := H.got rfl rfl
      replace e11 : a.tmps[11]? = some _ := H.keep e11 rfl
      have e33 : a.tmps[33]? = some _ := H.got rfl rfl
      clear H
      refine hKq8 _ _ ?_
      clear hKq8 Kq8
      refine wp_cond_true (slotE e33) ?_
      clear e33
      refine wp_exit ?_
      refine exit_then rfl ?_
      clear hKq7 Kq7
      refine exit_miss (by decide) ?_
      refine exit_then rfl ?_
      refine exit_hit ?_
      refine hKq3 _ _ ?_
      clear hKq3 Kq3
      refine wp_seq_k fun Kq9 hKq9 => ?_
      clear k1 k2 z0
      have k1 := BL4.cellOf (v := .int .i64 cyc) 1 rfl
      clear e2
      clear e3
      clear e1
      clear e10
      clear e11
      obtain ⟨r, hrr⟩ : ∃ r, r = min n (2 * cyc) := ⟨_, rfl⟩
      have hrb : D ≤ r ∧ r ≤ 2 * cyc := by rw [hrr]; omega
      have HRR := Lib.hid hrr
      clear hrr
      suffices HK : ∀ (a' : Act), a'.tmps.size = a.tmps.size → a'.defers = [] → a'.tmps[4]? = a.tmps[4]? → a'.tmps[9]? = a.tmps[9]? → a'.tmps[8]? = some (.int .i64 r) → Kq9 a' w4 by
        refine sm_list [4, 8, 9] 43 5 hs hd (by kernel_rfl) (agC e4 (agU (agC e9 agN))) (by simp only [List.append_eq, List.cons_append, List.nil_append, List.map_cons, List.map_nil, reOper, reOp, reO, reC, reK, Option.map_some, Option.map_none, fS_ite, ix_ite, Nat.reduceLeDiff, Nat.reduceEqDiff, if_true, if_false, ↓reduceIte, List.length_cons, List.length_nil, Nat.reduceAdd, Nat.reduceSub, List.map_toArray]; rfl) ?_
        simp only [List.replicate_succ, List.replicate_zero, List.cons_append, List.nil_append, List.drop_succ_cons, List.drop_zero, List.take_succ_cons, List.take_zero]
        go_wp2_with fail
        all_goals
          intro a' H
          refine HK a' H.size H.defers ((H.got rfl rfl).trans e4.symm) ((H.got rfl rfl).trans e9.symm) ?_
          · (refine (H.got (t := 8) rfl rfl).trans (congrArg some ?_); rw [HRR.out])
      intro a' g_s g_d g4 g9 f8
      replace hs := g_s.trans hs
      replace hd := g_d
      replace e4 := g4.trans e4
      replace e9 := g9.trans e9
      clear g_s g_d g4 g9
      have e8 := f8
      clear f8
      clear a
      obtain ⟨a, rfl⟩ : ∃ a, a = a' := ⟨_, rfl⟩
      refine hKq9 _ _ ?_
      clear hKq9 Kq9
      refine wp_ret ?_
      exact sm_ret rfl hd e8 ⟨⟨r, rfl, by rw [← HD.out]; exact hrb⟩, by rw [← HG.out]; exact L1.trans ((hb5).mono (Nat.le_of_lt hz1))⟩
    · have hnD : D ≤ n + (E - q) := by
        rcases HN.out with h | h
        · have h2 := (HSAME.out h).1
          have h3 := HE.out
          have h4 := HD.out
          rw [h2] at h3
          omega
        · omega
      refine sm_list [2, 3, 4, 10] 23 11 hs hd (by kernel_rfl) (agC e2 (agC e3 (agC e4 (agC e10 agN)))) (by simp only [List.append_eq, List.cons_append, List.nil_append, List.map_cons, List.map_nil, reOper, reOp, reO, reC, reK, Option.map_some, Option.map_none, fS_ite, ix_ite, Nat.reduceLeDiff, Nat.reduceEqDiff, if_true, if_false, ↓reduceIte, List.length_cons, List.length_nil, Nat.reduceAdd, Nat.reduceSub, List.map_toArray]; rfl) ?_
      simp only [List.replicate_succ, List.replicate_zero, List.cons_append, List.nil_append, List.drop_succ_cons, List.drop_zero, List.take_succ_cons, List.take_zero]
      go_wp2_with fail
      intro a H
      replace hs := H.size.trans hs
      replace hd : a.defers = [] := H.defers
      replace e2 : a.tmps[2]? = some _ := H.got rfl rfl
      replace e3 : a.tmps[3]? = some _ := H.got rfl rfl
      replace e4 : a.tmps[4]? = some _ := H.got rfl rfl
      replace e1 : a.tmps[1]? = some _ := H.keep e1 rfl
      replace e9 : a.tmps[9]? = some _ := H.keep e9 rfl
      replace e10 : a.tmps[10]? = some _ := H.got rfl rfl
      replace e11 : a.tmps[11]? = some _ := H.keep e11 rfl
      have e33 : a.tmps[33]? = some _ := H.got rfl rfl
      clear H
      refine hKq8 _ _ ?_
      clear hKq8 Kq8
      refine wp_cond_false (slotE e33) ?_
      clear e33
      refine wp_skip ?_
      refine hKq7 _ _ ?_
      clear hKq7 Kq7
      refine wp_seq_k fun Kq9 hKq9 => ?_
      clear k2 z0 k1
      have k1 := BL4.cellOf (v := .int .i64 cyc) 1 rfl
      have hcz : cyc ≠ 0 := by omega
      refine sm_list [1, 9, 11] 34 5 hs hd (by kernel_rfl) (agC e1 (agC e9 (agC e11 agN))) (by simp only [List.append_eq, List.cons_append, List.nil_append, List.map_cons, List.map_nil, reOper, reOp, reO, reC, reK, Option.map_some, Option.map_none, fS_ite, ix_ite, Nat.reduceLeDiff, Nat.reduceEqDiff, if_true, if_false, ↓reduceIte, List.length_cons, List.length_nil, Nat.reduceAdd, Nat.reduceSub, List.map_toArray]; rfl) ?_
      simp only [List.replicate_succ, List.replicate_zero, List.cons_append, List.nil_append, List.drop_succ_cons, List.drop_zero, List.take_succ_cons, List.take_zero]
      go_wp2_with fail
      intro a H
      replace hs := H.size.trans hs
      replace hd : a.defers = [] := H.defers
      replace e2 : a.tmps[2]? = some _ := H.keep e2 rfl
      replace e3 : a.tmps[3]? = some _ := H.keep e3 rfl
      replace e4 : a.tmps[4]? = some _ := H.keep e4 rfl
      replace e1 : a.tmps[1]? = some _ := H.got rfl rfl
      replace e10 : a.tmps[10]? = some _ := H.keep e10 rfl
      replace e11 : a.tmps[11]? = some _ := H.got rfl rfl
      replace e9 : a.tmps[9]? = some _ := H.got rfl rfl
      clear H
      refine hKq9 _ _ ?_
      clear hKq9 Kq9
      obtain ⟨Q, hQ⟩ : ∃ Q, E.tmod cyc = Q := ⟨_, rfl⟩
      have hQ0 : 0 ≤ Q ∧ Q < cyc := by rw [← hQ]; exact ⟨Int.tmod_nonneg _ (by omega), Int.tmod_lt_of_pos _ (by omega)⟩
      refine sm_list [1, 4, 11] 39 4 hs hd (by kernel_rfl) (agC e1 (agC e4 (agC e11 agN))) (by simp only [List.append_eq, List.cons_append, List.nil_append, List.map_cons, List.map_nil, reOper, reOp, reO, reC, reK, Option.map_some, Option.map_none, fS_ite, ix_ite, Nat.reduceLeDiff, Nat.reduceEqDiff, if_true, if_false, ↓reduceIte, List.length_cons, List.length_nil, Nat.reduceAdd, Nat.reduceSub, List.map_toArray]; rfl) ?_
      simp only [List.replicate_succ, List.replicate_zero, List.cons_append, List.nil_append, List.drop_succ_cons, List.drop_zero, List.take_succ_cons, List.take_zero]
      go_wp2_with fail
      intro a H
      replace hs := H.size.trans hs
      replace hd : a.defers = [] := H.defers
      replace e2 : a.tmps[2]? = some _ := H.keep e2 rfl
      replace e3 : a.tmps[3]? = some _ := H.keep e3 rfl
      replace e4 : a.tmps[4]? = some _ := H.got rfl rfl
      replace e10 : a.tmps[10]? = some _ := H.keep e10 rfl
      replace e11 : a.tmps[11]? = some _ := H.got rfl rfl
      replace e9 : a.tmps[9]? = some _ := H.keep e9 rfl
      replace e1 : a.tmps[1]? = some _ := H.got rfl rfl
      clear H
      clear hQ k1
      clear e10
      clear e11
      exact ⟨⟨n + (E - q), Q, hQ0, by omega, Lib.hid (.inr hnD), hs, hd, e2, e3, e4, e1, e9, hb5⟩, by first | (simp only [hm, slot e9, intOf]; omega) | (simp [e9, intOf]; omega)⟩
  · have dl : decide (n < 2 * cyc) = false := decide_eq_false hlt
    have hnD : D ≤ n := by
      rcases HN.out with h | h
      · omega
      · exact h
    refine sm_list [4, 9] 12 5 hs hd (by kernel_rfl) (agC e4 (agC e9 agN)) (by simp only [List.append_eq, List.cons_append, List.nil_append, List.map_cons, List.map_nil, reOper, reOp, reO, reC, reK, Option.map_some, Option.map_none, fS_ite, ix_ite, Nat.reduceLeDiff, Nat.reduceEqDiff, if_true, if_false, ↓reduceIte, List.length_cons, List.length_nil, Nat.reduceAdd, Nat.reduceSub, List.map_toArray]; rfl) ?_
    simp only [List.replicate_succ, List.replicate_zero, List.cons_append, List.nil_append, List.drop_succ_cons, List.drop_zero, List.take_succ_cons, List.take_zero]
    go_wp2_with fail
    intro a H
    replace hs := H.size.trans hs
    replace hd : a.defers = [] := H.defers
    replace e2 : a.tmps[2]? = some _ := H.keep e2 rfl
    replace e3 : a.tmps[3]? = some _ := H.keep e3 rfl
    replace e4 : a.tmps[4]? = some _ := H.got rfl rfl
    replace e1 : a.tmps[1]? = some _ := H.keep e1 rfl
    replace e9 : a.tmps[9]? = some _ := H.got rfl rfl
    have e16 : a.tmps[16]? = some _ := H.got rfl rfl
    clear H
    refine hKq5 _ _ ?_
    clear hKq5 Kq5
    refine wp_cond_false (slotE e16) ?_
    clear e16
    refine wp_exit ?_
    refine exit_then rfl ?_
    clear hKq4 Kq4
    refine exit_then rfl ?_
    refine exit_hit ?_
    refine hKq3 _ _ ?_
    clear hKq3 Kq3
    refine wp_seq_k fun Kq6 hKq6 => ?_
    clear e2
    clear e3
    clear e1
    obtain ⟨r, hrr⟩ : ∃ r, r = min n (2 * cyc) := ⟨_, rfl⟩
    have hrb : D ≤ r ∧ r ≤ 2 * cyc := by rw [hrr]; omega
    have HRR := Lib.hid hrr
    clear hrr
    suffices HK : ∀ (a' : Act), a'.tmps.size = a.tmps.size → a'.defers = [] → a'.tmps[4]? = a.tmps[4]? → a'.tmps[9]? = a.tmps[9]? → a'.tmps[8]? = some (.int .i64 r) → Kq6 a' w3 by
      refine sm_list [4, 8, 9] 43 5 hs hd (by kernel_rfl) (agC e4 (agU (agC e9 agN))) (by simp only [List.append_eq, List.cons_append, List.nil_append, List.map_cons, List.map_nil, reOper, reOp, reO, reC, reK, Option.map_some, Option.map_none, fS_ite, ix_ite, Nat.reduceLeDiff, Nat.reduceEqDiff, if_true, if_false, ↓reduceIte, List.length_cons, List.length_nil, Nat.reduceAdd, Nat.reduceSub, List.map_toArray]; rfl) ?_
      simp only [List.replicate_succ, List.replicate_zero, List.cons_append, List.nil_append, List.drop_succ_cons, List.drop_zero, List.take_succ_cons, List.take_zero]
      go_wp2_with fail
      all_goals
        intro a' H
        refine HK a' H.size H.defers ((H.got rfl rfl).trans e4.symm) ((H.got rfl rfl).trans e9.symm) ?_
        · (refine (H.got (t := 8) rfl rfl).trans (congrArg some ?_); rw [HRR.out])
    intro a' g_s g_d g4 g9 f8
    replace hs := g_s.trans hs
    replace hd := g_d
    replace e4 := g4.trans e4
    replace e9 := g9.trans e9
    clear g_s g_d g4 g9
    have e8 := f8
    clear f8
    clear a
    obtain ⟨a, rfl⟩ : ∃ a, a = a' := ⟨_, rfl⟩
    refine hKq6 _ _ ?_
    clear hKq6 Kq6
    refine wp_ret ?_
    exact sm_ret rfl hd e8 ⟨⟨r, rfl, by rw [← HD.out]; exact hrb⟩, by rw [← HG.out]; exact L1.trans ((hb).mono (Nat.le_of_lt hz1))⟩
set_option maxRecDepth 100000 in
set_option maxHeartbeats 4000000 in
theorem left_l (t : List (Int × Int)) (cyc : Int) (A : Option Addr) (c : Nat) (p l : Int) (i : Nat) (w : World) (hr : Reads w w.heap.size 2 A t.length (t.flatMap spc)) (hG : Gd t cyc) (hp : 0 ≤ p ∧ p < cyc) (hi : t[i]? = some (128, l)) (hpi : preS t i ≤ p ∧ p < preS t (i + 1)) :
    Calls Try.prog 17 #[.agg #[.int .i64 0, .int .i64 cyc, .slice A t.length c], .int .i64 p, .int .i64 7] w fun e w' => (∃ r : Int, e = .returned (.int .i64 r) ∧ preS t (i + 1) - p ≤ r) ∧ Below w.heap.size w w' := by
  have HGD := Lib.hid hG
  have hc1 := hG.c1
  have hc2 := hG.c2
  have hl1 := hG.l1
  have hl2 := hG.l2
  clear hG
  refine calls_sm (N := 39) Try.func17 rfl (by kernel_rfl) ?_
  intro a hs hd ha
  have e0 : a.tmps[0]? = some (.agg #[.int .i64 0, .int .i64 cyc, .slice A t.length c]) := ha 0 _ rfl
  have e1 : a.tmps[1]? = some (.int .i64 p) := ha 1 _ rfl
  have e2 : a.tmps[2]? = some (.int .i64 7) := ha 2 _ rfl
  clear ha
  conv => arg 2; whnf
  refine wp_seq_k fun Kq1 hKq1 => ?_
  have HI := Lib.hid (And.intro hi hpi)
  have HP := Lib.hid hp
  obtain ⟨hp0, hp1⟩ := hp
  clear hi hpi
  refine sm_list [0, 3] 6 1 hs hd (by kernel_rfl) (agC e0 (agU agN)) (by simp only [List.append_eq, List.cons_append, List.nil_append, List.map_cons, List.map_nil, reOper, reOp, reO, reC, reK, Option.map_some, Option.map_none, fS_ite, ix_ite, Nat.reduceLeDiff, Nat.reduceEqDiff, if_true, if_false, ↓reduceIte, List.length_cons, List.length_nil, Nat.reduceAdd, Nat.reduceSub, List.map_toArray]; rfl) ?_
  simp only [List.replicate_succ, List.replicate_zero, List.cons_append, List.nil_append, List.drop_succ_cons, List.drop_zero, List.take_succ_cons, List.take_zero]
  go_wp2_with fail
  intro a H
  replace hs := H.size.trans hs
  replace hd : a.defers = [] := H.defers
  replace e1 : a.tmps[1]? = some _ := H.keep e1 rfl
  replace e2 : a.tmps[2]? = some _ := H.keep e2 rfl
  clear e0
  have e3 : a.tmps[3]? = some _ := H.got rfl rfl
  clear H
  refine hKq1 _ _ ?_
  clear hKq1 Kq1
  refine wp_seq_k fun Kq2 hKq2 => ?_
  refine wp_seq_k fun Kq3 hKq3 => ?_
  have BL := Blk.new w 58 #[.int .i64 0, .int .i64 cyc, .slice A t.length c]
  have L1 : Below w.heap.size w (w.alloc (.cells #[.int .i64 0, .int .i64 cyc, .slice A t.length c] 58)) := (Below.refl _ _).alloc (Nat.le_refl _) _
  have hr1 := (hr.below L1)
  have hz1 : w.heap.size < (w.alloc (.cells #[.int .i64 0, .int .i64 cyc, .slice A t.length c] 58)).heap.size := by simp
  generalize (w.alloc (.cells #[.int .i64 0, .int .i64 cyc, .slice A t.length c] 58)) = w1 at *
  obtain ⟨g, hg⟩ : ∃ q, q = w.heap.size := ⟨_, rfl⟩
  rw [← hg] at BL L1 hr1 hz1 e3
  have HG := Lib.hid hg
  clear hg hr
  have HCK := Lib.hid (check_l t cyc A c w1 (hr1.more (Nat.le_of_lt hz1)) HGD.out)
  have d1 : decide (p < -1099511627776) = false := decide_eq_false (by omega)
  have d2 : decide (2199023255552 < p) = false := decide_eq_false (by omega)
  refine sm_list [1, 2, 3] 8 19 hs hd (by kernel_rfl) (agC e1 (agC e2 (agC e3 agN))) (by simp only [List.append_eq, List.cons_append, List.nil_append, List.map_cons, List.map_nil, reOper, reOp, reO, reC, reK, Option.map_some, Option.map_none, fS_ite, ix_ite, Nat.reduceLeDiff, Nat.reduceEqDiff, if_true, if_false, ↓reduceIte, List.length_cons, List.length_nil, Nat.reduceAdd, Nat.reduceSub, List.map_toArray]; rfl) ?_
  simp only [List.replicate_succ, List.replicate_zero, List.cons_append, List.nil_append, List.drop_succ_cons, List.drop_zero, List.take_succ_cons, List.take_zero]
  go_wp2_with (first | (refine wpList_load_any_d rfl 58 (.tmp 2) rfl ⟨g, 0, none⟩ rfl (#[.int .i64 0, .int .i64 cyc, .slice A t.length c]) _ (blk_cells BL) Try.underlying58 rfl (by kernel_rfl) ?_) | fail)
  refine HCK.out.mono ?_
  rintro e w2 ⟨rfl, hb2⟩
  go_wp2_with fail
  intro a H
  replace hs := H.size.trans hs
  replace hd : a.defers = [] := H.defers
  replace e1 : a.tmps[1]? = some _ := H.got rfl rfl
  replace e2 : a.tmps[2]? = some _ := H.got rfl rfl
  replace e3 : a.tmps[3]? = some _ := H.got rfl rfl
  have e26 : a.tmps[26]? = some _ := H.got rfl rfl
  clear H
  refine hKq3 _ _ ?_
  clear hKq3 Kq3
  refine wp_cond_false (slotE e26) ?_
  clear e26
  refine wp_skip ?_
  refine hKq2 _ _ ?_
  clear hKq2 Kq2
  refine wp_seq_k fun Kq4 hKq4 => ?_
  clear HCK d1 d2
  have BL2 := BL.kept hb2
  have hr2 := (hr1.below (hb2.mono (Nat.le_of_lt hz1))).more (Nat.le_of_lt BL2.lt)
  have L2 : Below g w w2 := L1.trans (hb2.mono (Nat.le_of_lt hz1))
  have hgz2 : g < w2.heap.size := BL2.lt
  clear BL L1 hr1 hz1 hb2
  refine sm_any [1, 2, 3, 7] 27 6 (by kernel_rfl) hs hd (by kernel_rfl) (agC e1 (agC e2 (agC e3 (agU agN)))) (by simp only [List.append_eq, List.cons_append, List.nil_append, List.map_cons, List.map_nil, reOper, reOp, reO, reC, reK, Option.map_some, Option.map_none, fS_ite, ix_ite, Nat.reduceLeDiff, Nat.reduceEqDiff, if_true, if_false, ↓reduceIte, List.length_cons, List.length_nil, Nat.reduceAdd, Nat.reduceSub, List.map_toArray]; rfl) (any_tree [] (.take 0 (.take 1 (.take 2 (.take 4 (.one 3 (.one 5 (.take 6 .nil))))))) (fun (w' : World) => Below w2.heap.size w2 w') (by kernel_rfl) (fun _ _ _ _ _ h => h) ((Below.refl _ _).drew) ?_)
  simp only [List.replicate_succ, List.replicate_zero, List.cons_append, List.nil_append, List.drop_succ_cons, List.drop_zero, List.take_succ_cons, List.take_zero]
  have hwd : Below w2.heap.size w2 w2.drew := (Below.refl _ _).drew
  obtain ⟨wd, hwde⟩ : ∃ wd, wd = w2.drew := ⟨_, rfl⟩
  rw [← hwde] at hwd ⊢
  clear hwde
  (refine tr_take (v := .agg (#[.int .i64 0, .int .i64 cyc, .slice A t.length c])) rfl ?_ (fun w' hw' => run_load_whole_d 58 (.tmp 2) rfl rfl (BL2.kept hw') Try.underlying58 rfl (by kernel_rfl)) ?_; (first | exact wanted_none rfl | exact wanted_on rfl rfl rfl); simp only [Act.put, List.setIfInBounds_toArray, List.set_cons_zero, List.set_cons_succ])
  (refine tr_take (v := .agg (#[.int .i64 0, .int .i64 cyc, .slice A t.length c])) rfl ?_ (fun w' hw' => run_load_whole_d 58 (.tmp 2) rfl rfl (BL2.kept hw') Try.underlying58 rfl (by kernel_rfl)) ?_; (first | exact wanted_none rfl | exact wanted_on rfl rfl rfl); simp only [Act.put, List.setIfInBounds_toArray, List.set_cons_zero, List.set_cons_succ])
  (with_reducible (refine tr_take (v := ?_) rfl ?_ ?_ ?_); rotate_left; (first | exact wanted_none rfl | exact wanted_on rfl rfl rfl); (rintro w' _;  go_simp; with_reducible rfl); simp only [Act.put, List.setIfInBounds_toArray, List.set_cons_zero, List.set_cons_succ])
  (with_reducible (refine tr_take (v := ?_) rfl ?_ ?_ ?_); rotate_left; (first | exact wanted_none rfl | exact wanted_on rfl rfl rfl); (rintro w' _;  go_simp; with_reducible rfl); simp only [Act.put, List.setIfInBounds_toArray, List.set_cons_zero, List.set_cons_succ])
  (with_reducible (refine tr_call 32 ?_ rfl ?_ ?_ ?_); rotate_left; (first | exact wanted_none rfl | exact wanted_on rfl rfl rfl); (go_simp; with_reducible rfl))
  refine (phase_l t cyc A c p wd ((hr2.below hwd).more hwd.size) HGD.out HP.out).mono ?_
  rintro e w5 ⟨rfl, hb5⟩
  have S5 : Below w2.heap.size w2 w5 := hwd.trans (hb5.mono hwd.size)
  refine ⟨_, rfl, S5, ?_⟩
  simp only [Act.put, List.setIfInBounds_toArray, List.set_cons_zero, List.set_cons_succ]
  (with_reducible (refine tr_call 31 ?_ rfl ?_ ?_ ?_); rotate_left; (first | exact wanted_none rfl | exact wanted_on rfl rfl rfl); (go_simp; with_reducible rfl))
  refine (stay_l t cyc A c p l i w5 ((hr2.below S5).more S5.size) HGD.out HP.out HI.out.1 HI.out.2).mono ?_
  rintro e w6 ⟨⟨r, rfl, hr6, hr7⟩, hb6⟩
  have S6 : Below w2.heap.size w2 w6 := S5.trans (hb6.mono S5.size)
  refine ⟨_, rfl, S6, ?_⟩
  simp only [Act.put, List.setIfInBounds_toArray, List.set_cons_zero, List.set_cons_succ]
  (with_reducible (refine tr_take (v := ?_) rfl ?_ ?_ ?_); rotate_left; (first | exact wanted_none rfl | exact wanted_on rfl rfl rfl); (rintro w' _;  go_simp; with_reducible rfl); simp only [Act.put, List.setIfInBounds_toArray, List.set_cons_zero, List.set_cons_succ])
  refine tr_nil ?_
  intro a H
  replace hs := H.size.trans hs
  replace hd : a.defers = [] := H.defers
  replace e1 : a.tmps[1]? = some _ := H.got rfl rfl
  replace e2 : a.tmps[2]? = some _ := H.got rfl rfl
  replace e3 : a.tmps[3]? = some _ := H.got rfl rfl
  have e7 : a.tmps[7]? = some _ := H.got rfl rfl
  clear H
  refine hKq4 _ _ ?_
  clear hKq4 Kq4
  refine wp_seq_k fun Kq5 hKq5 => ?_
  refine wp_seq_k fun Kq6 hKq6 => ?_
  have BL6 := BL2.kept S6
  have k1 := BL6.cellOf (v := .int .i64 cyc) 1 rfl
  have hlow : Below g w w6 := L2.trans (S6.mono (Nat.le_of_lt hgz2))
  clear hb5 hb6 hwd
  have hrz : preS t (i + 1) - p ≤ r := hr6
  obtain ⟨D, hD⟩ : ∃ D, D = preS t (i + 1) - p := ⟨_, rfl⟩
  rw [← hD] at hr6
  have HD := Lib.hid hD
  clear hD hrz
  by_cases heq : r = 2 * cyc
  · have de : (r == 2 * cyc) = true := beq_iff_eq.2 heq
    have hD2 : D ≤ 2147483648 := by omega
    have HQ := Lib.hid heq
    clear heq
    refine sm_list [3, 7] 33 5 hs hd (by kernel_rfl) (agC e3 (agC e7 agN)) (by simp only [List.append_eq, List.cons_append, List.nil_append, List.map_cons, List.map_nil, reOper, reOp, reO, reC, reK, Option.map_some, Option.map_none, fS_ite, ix_ite, Nat.reduceLeDiff, Nat.reduceEqDiff, if_true, if_false, ↓reduceIte, List.length_cons, List.length_nil, Nat.reduceAdd, Nat.reduceSub, List.map_toArray]; rfl) ?_
    simp only [List.replicate_succ, List.replicate_zero, List.cons_append, List.nil_append, List.drop_succ_cons, List.drop_zero, List.take_succ_cons, List.take_zero]
    go_wp2_with fail
    intro a H
    replace hs := H.size.trans hs
    replace hd : a.defers = [] := H.defers
    replace e1 : a.tmps[1]? = some _ := H.keep e1 rfl
    replace e2 : a.tmps[2]? = some _ := H.keep e2 rfl
    replace e3 : a.tmps[3]? = some _ := H.got rfl rfl
    replace e7 : a.tmps[7]? = some _ := H.got rfl rfl
    have e37 : a.tmps[37]? = some _ := H.got rfl rfl
    clear H
    refine hKq6 _ _ ?_
    clear hKq6 Kq6
    refine wp_cond_true (slotE e37) ?_
    clear e37
    refine wp_seq_k fun Kq7 hKq7 => ?_
    refine sm_list [] 6 1 hs hd (by kernel_rfl) agN (by simp only [List.append_eq, List.cons_append, List.nil_append, List.map_cons, List.map_nil, reOper, reOp, reO, reC, reK, Option.map_some, Option.map_none, fS_ite, ix_ite, Nat.reduceLeDiff, Nat.reduceEqDiff, if_true, if_false, ↓reduceIte, List.length_cons, List.length_nil, Nat.reduceAdd, Nat.reduceSub, List.map_toArray]; rfl) ?_
    simp only [List.replicate_succ, List.replicate_zero, List.cons_append, List.nil_append, List.drop_succ_cons, List.drop_zero, List.take_succ_cons, List.take_zero]
    go_wp2_with fail
    intro a H
    replace hs := H.size.trans hs
    replace hd : a.defers = [] := H.defers
    replace e1 : a.tmps[1]? = some _ := H.keep e1 rfl
    replace e2 : a.tmps[2]? = some _ := H.keep e2 rfl
    replace e3 : a.tmps[3]? = some _ := H.keep e3 rfl
    replace e7 : a.tmps[7]? = some _ := H.keep e7 rfl
    have e6 : a.tmps[6]? = some _ := H.got rfl rfl
    clear H
    refine hKq7 _ _ ?_
    clear hKq7 Kq7
    refine wp_ret ?_
    refine exit_then rfl ?_
    exact sm_ret rfl hd e6 ⟨⟨_, rfl, by rw [← HD.out]; exact hD2⟩, by rw [← HG.out]; exact hlow⟩
  · have de : (r == 2 * cyc) = false := beq_eq_false_iff_ne.2 heq
    refine sm_list [3, 7] 33 5 hs hd (by kernel_rfl) (agC e3 (agC e7 agN)) (by simp only [List.append_eq, List.cons_append, List.nil_append, List.map_cons, List.map_nil, reOper, reOp, reO, reC, reK, Option.map_some, Option.map_none, fS_ite, ix_ite, Nat.reduceLeDiff, Nat.reduceEqDiff, if_true, if_false, ↓reduceIte, List.length_cons, List.length_nil, Nat.reduceAdd, Nat.reduceSub, List.map_toArray]; rfl) ?_
    simp only [List.replicate_succ, List.replicate_zero, List.cons_append, List.nil_append, List.drop_succ_cons, List.drop_zero, List.take_succ_cons, List.take_zero]
    go_wp2_with fail
    intro a H
    replace hs := H.size.trans hs
    replace hd : a.defers = [] := H.defers
    replace e1 : a.tmps[1]? = some _ := H.keep e1 rfl
    replace e2 : a.tmps[2]? = some _ := H.keep e2 rfl
    replace e3 : a.tmps[3]? = some _ := H.got rfl rfl
    replace e7 : a.tmps[7]? = some _ := H.got rfl rfl
    have e37 : a.tmps[37]? = some _ := H.got rfl rfl
    clear H
    refine hKq6 _ _ ?_
    clear hKq6 Kq6
    refine wp_cond_false (slotE e37) ?_
    clear e37
    refine wp_skip ?_
    refine hKq5 _ _ ?_
    clear hKq5 Kq5
    refine wp_seq_k fun Kq7 hKq7 => ?_
    refine sm_list [6, 7] 38 1 hs hd (by kernel_rfl) (agU (agC e7 agN)) (by simp only [List.append_eq, List.cons_append, List.nil_append, List.map_cons, List.map_nil, reOper, reOp, reO, reC, reK, Option.map_some, Option.map_none, fS_ite, ix_ite, Nat.reduceLeDiff, Nat.reduceEqDiff, if_true, if_false, ↓reduceIte, List.length_cons, List.length_nil, Nat.reduceAdd, Nat.reduceSub, List.map_toArray]; rfl) ?_
    simp only [List.replicate_succ, List.replicate_zero, List.cons_append, List.nil_append, List.drop_succ_cons, List.drop_zero, List.take_succ_cons, List.take_zero]
    go_wp2_with fail
    intro a H
    replace hs := H.size.trans hs
    replace hd : a.defers = [] := H.defers
    replace e1 : a.tmps[1]? = some _ := H.keep e1 rfl
    replace e2 : a.tmps[2]? = some _ := H.keep e2 rfl
    replace e3 : a.tmps[3]? = some _ := H.keep e3 rfl
    replace e7 : a.tmps[7]? = some _ := H.got rfl rfl
    have e6 : a.tmps[6]? = some _ := H.got rfl rfl
    clear H
    refine hKq7 _ _ ?_
    clear hKq7 Kq7
    refine wp_ret ?_
    exact sm_ret rfl hd e6 ⟨⟨r, rfl, by rw [← HD.out]; exact hr6⟩, by rw [← HG.out]; exact hlow⟩
set_option maxRecDepth 100000 in
set_option maxHeartbeats 4000000 in
theorem state_l (t : List (Int × Int)) (cyc : Int) (A : Option Addr) (c : Nat) (p l : Int) (i : Nat) (w : World) (hr : Reads w w.heap.size 2 A t.length (t.flatMap spc)) (hG : Gd t cyc) (hp : 0 ≤ p ∧ p < cyc) (hi : t[i]? = some (128, l)) (hpi : preS t i ≤ p ∧ p < preS t (i + 1)) :
    Calls Try.prog 18 #[.agg #[.int .i64 0, .int .i64 cyc, .slice A t.length c], .int .i64 p] w fun e w' => e = .returned (.int .i64 128) ∧ Below w.heap.size w w' := by
  have HGD := Lib.hid hG
  have hc1 := hG.c1
  have hc2 := hG.c2
  have hl1 := hG.l1
  have hl2 := hG.l2
  clear hG
  refine calls_sm (N := 32) Try.func18 rfl (by kernel_rfl) ?_
  intro a hs hd ha
  have e0 : a.tmps[0]? = some (.agg #[.int .i64 0, .int .i64 cyc, .slice A t.length c]) := ha 0 _ rfl
  have e1 : a.tmps[1]? = some (.int .i64 p) := ha 1 _ rfl
  clear ha
  conv => arg 2; whnf
  refine wp_seq_k fun Kq1 hKq1 => ?_
  have HI := Lib.hid (And.intro hi hpi)
  have HP := Lib.hid hp
  obtain ⟨hp0, hp1⟩ := hp
  have hil := (List.getElem?_eq_some_iff.1 hi).1
  clear hi hpi
  refine sm_list [0, 2] 4 1 hs hd (by kernel_rfl) (agC e0 (agU agN)) (by simp only [List.append_eq, List.cons_append, List.nil_append, List.map_cons, List.map_nil, reOper, reOp, reO, reC, reK, Option.map_some, Option.map_none, fS_ite, ix_ite, Nat.reduceLeDiff, Nat.reduceEqDiff, if_true, if_false, ↓reduceIte, List.length_cons, List.length_nil, Nat.reduceAdd, Nat.reduceSub, List.map_toArray]; rfl) ?_
  simp only [List.replicate_succ, List.replicate_zero, List.cons_append, List.nil_append, List.drop_succ_cons, List.drop_zero, List.take_succ_cons, List.take_zero]
  go_wp2_with fail
  intro a H
  replace hs := H.size.trans hs
  replace hd : a.defers = [] := H.defers
  replace e1 : a.tmps[1]? = some _ := H.keep e1 rfl
  clear e0
  have e2 : a.tmps[2]? = some _ := H.got rfl rfl
  clear H
  refine hKq1 _ _ ?_
  clear hKq1 Kq1
  refine wp_seq_k fun Kq2 hKq2 => ?_
  refine wp_seq_k fun Kq3 hKq3 => ?_
  have BL := Blk.new w 58 #[.int .i64 0, .int .i64 cyc, .slice A t.length c]
  have L1 : Below w.heap.size w (w.alloc (.cells #[.int .i64 0, .int .i64 cyc, .slice A t.length c] 58)) := (Below.refl _ _).alloc (Nat.le_refl _) _
  have hr1 := (hr.below L1)
  have hz1 : w.heap.size < (w.alloc (.cells #[.int .i64 0, .int .i64 cyc, .slice A t.length c] 58)).heap.size := by simp
  generalize (w.alloc (.cells #[.int .i64 0, .int .i64 cyc, .slice A t.length c] 58)) = w1 at *
  obtain ⟨g, hg⟩ : ∃ q, q = w.heap.size := ⟨_, rfl⟩
  rw [← hg] at BL L1 hr1 hz1 e2
  have HG := Lib.hid hg
  clear hg hr
  have HCK := Lib.hid (check_l t cyc A c w1 (hr1.more (Nat.le_of_lt hz1)) HGD.out)
  have d1 : decide (p < -1099511627776) = false := decide_eq_false (by omega)
  have d2 : decide (2199023255552 < p) = false := decide_eq_false (by omega)
  refine sm_list [1, 2] 7 11 hs hd (by kernel_rfl) (agC e1 (agC e2 agN)) (by simp only [List.append_eq, List.cons_append, List.nil_append, List.map_cons, List.map_nil, reOper, reOp, reO, reC, reK, Option.map_some, Option.map_none, fS_ite, ix_ite, Nat.reduceLeDiff, Nat.reduceEqDiff, if_true, if_false, ↓reduceIte, List.length_cons, List.length_nil, Nat.reduceAdd, Nat.reduceSub, List.map_toArray]; rfl) ?_
  simp only [List.replicate_succ, List.replicate_zero, List.cons_append, List.nil_append, List.drop_succ_cons, List.drop_zero, List.take_succ_cons, List.take_zero]
  go_wp2_with (first | (refine wpList_load_any_d rfl 58 (.tmp 1) rfl ⟨g, 0, none⟩ rfl (#[.int .i64 0, .int .i64 cyc, .slice A t.length c]) _ (blk_cells BL) Try.underlying58 rfl (by kernel_rfl) ?_) | fail)
  refine HCK.out.mono ?_
  rintro e w2 ⟨rfl, hb2⟩
  go_wp2_with fail
  intro a H
  replace hs := H.size.trans hs
  replace hd : a.defers = [] := H.defers
  replace e1 : a.tmps[1]? = some _ := H.got rfl rfl
  replace e2 : a.tmps[2]? = some _ := H.got rfl rfl
  have e17 : a.tmps[17]? = some _ := H.got rfl rfl
  clear H
  refine hKq3 _ _ ?_
  clear hKq3 Kq3
  refine wp_cond_false (slotE e17) ?_
  clear e17
  refine wp_skip ?_
  refine hKq2 _ _ ?_
  clear hKq2 Kq2
  refine wp_seq_k fun Kq4 hKq4 => ?_
  clear HCK d1 d2
  have BL2 := BL.kept hb2
  have hr2 := (hr1.below (hb2.mono (Nat.le_of_lt hz1))).more (Nat.le_of_lt BL2.lt)
  have L2 : Below g w w2 := L1.trans (hb2.mono (Nat.le_of_lt hz1))
  have hgz2 : g < w2.heap.size := BL2.lt
  clear BL L1 hr1 hz1 hb2
  refine sm_any [1, 2, 5, 6] 18 8 (by kernel_rfl) hs hd (by kernel_rfl) (agC e1 (agC e2 (agU (agU agN)))) (by simp only [List.append_eq, List.cons_append, List.nil_append, List.map_cons, List.map_nil, reOper, reOp, reO, reC, reK, Option.map_some, Option.map_none, fS_ite, ix_ite, Nat.reduceLeDiff, Nat.reduceEqDiff, if_true, if_false, ↓reduceIte, List.length_cons, List.length_nil, Nat.reduceAdd, Nat.reduceSub, List.map_toArray]; rfl) (any_tree [] (.take 0 (.take 1 (.take 2 (.one 3 (.one 4 (.take 5 (.take 6 (.take 7 (.take 8 (.take 9 .nil)))))))))) (fun (w' : World) => Below w2.heap.size w2 w') (by kernel_rfl) (fun _ _ _ _ _ h => h) ((Below.refl _ _).drew) ?_)
  simp only [List.replicate_succ, List.replicate_zero, List.cons_append, List.nil_append, List.drop_succ_cons, List.drop_zero, List.take_succ_cons, List.take_zero]
  have hwd : Below w2.heap.size w2 w2.drew := (Below.refl _ _).drew
  obtain ⟨wd, hwde⟩ : ∃ wd, wd = w2.drew := ⟨_, rfl⟩
  rw [← hwde] at hwd ⊢
  clear hwde
  (refine tr_take (v := .agg (#[.int .i64 0, .int .i64 cyc, .slice A t.length c])) rfl ?_ (fun w' hw' => run_load_whole_d 58 (.tmp 1) rfl rfl (BL2.kept hw') Try.underlying58 rfl (by kernel_rfl)) ?_; (first | exact wanted_none rfl | exact wanted_on rfl rfl rfl); simp only [Act.put, List.setIfInBounds_toArray, List.set_cons_zero, List.set_cons_succ])
  (refine tr_take (v := .agg (#[.int .i64 0, .int .i64 cyc, .slice A t.length c])) rfl ?_ (fun w' hw' => run_load_whole_d 58 (.tmp 1) rfl rfl (BL2.kept hw') Try.underlying58 rfl (by kernel_rfl)) ?_; (first | exact wanted_none rfl | exact wanted_on rfl rfl rfl); simp only [Act.put, List.setIfInBounds_toArray, List.set_cons_zero, List.set_cons_succ])
  (with_reducible (refine tr_take (v := ?_) rfl ?_ ?_ ?_); rotate_left; (first | exact wanted_none rfl | exact wanted_on rfl rfl rfl); (rintro w' _;  go_simp; with_reducible rfl); simp only [Act.put, List.setIfInBounds_toArray, List.set_cons_zero, List.set_cons_succ])
  (with_reducible (refine tr_call 32 ?_ rfl ?_ ?_ ?_); rotate_left; (first | exact wanted_none rfl | exact wanted_on rfl rfl rfl); (go_simp; with_reducible rfl))
  refine (phase_l t cyc A c p wd ((hr2.below hwd).more hwd.size) HGD.out HP.out).mono ?_
  rintro e w5 ⟨rfl, hb5⟩
  have S5 : Below w2.heap.size w2 w5 := hwd.trans (hb5.mono hwd.size)
  refine ⟨_, rfl, S5, ?_⟩
  simp only [Act.put, List.setIfInBounds_toArray, List.set_cons_zero, List.set_cons_succ]
  (with_reducible (refine tr_call 33 ?_ rfl ?_ ?_ ?_); rotate_left; (first | exact wanted_none rfl | exact wanted_on rfl rfl rfl); (go_simp; with_reducible rfl))
  refine (slot_l t cyc A c p w5 ((hr2.below S5).more S5.size) HGD.out HP.out).mono ?_
  rintro e w6 ⟨⟨i2, s, rfl, hs2, hq2, hq3⟩, hb6⟩
  have S6 : Below w2.heap.size w2 w6 := S5.trans (hb6.mono S5.size)
  have hii := HGD.out.one (List.getElem?_eq_some_iff.1 hs2).1 hil hq2 hq3 HI.out.2.1 HI.out.2.2
  subst hii
  refine ⟨_, rfl, S6, ?_⟩
  simp only [Act.put, List.setIfInBounds_toArray, List.set_cons_zero, List.set_cons_succ]
  iterate 5 (with_reducible (refine tr_take (v := ?_) rfl ?_ ?_ ?_); rotate_left; (first | exact wanted_none rfl | exact wanted_on rfl rfl rfl); (rintro w' _;  go_simp; with_reducible rfl); simp only [Act.put, List.setIfInBounds_toArray, List.set_cons_zero, List.set_cons_succ])
  refine tr_nil ?_
  intro a H
  replace hs := H.size.trans hs
  replace hd : a.defers = [] := H.defers
  replace e1 : a.tmps[1]? = some _ := H.got rfl rfl
  replace e2 : a.tmps[2]? = some _ := H.got rfl rfl
  have e5 : a.tmps[5]? = some _ := H.got rfl rfl
  clear H
  refine hKq4 _ _ ?_
  clear hKq4 Kq4
  refine wp_seq_k fun Kq5 hKq5 => ?_
  have hlow : Below g w w6 := L2.trans (S6.mono (Nat.le_of_lt hgz2))
  obtain ⟨ad, hA, hadb, hcl⟩ := reads_at spc_len (hr2.below S6) HI.out.1 hil
  have z0 := hcl 0 _ rfl
  have hadz : (ad.add (i2 * 2)).add 0 = ad.add (i2 * 2) := by rw [add_of_add, Nat.add_zero]
  rw [hadz] at z0
  have BL6 := BL2.kept S6
  have k2 := BL6.cellOf (v := .slice A t.length c) 2 rfl
  rw [hA] at k2
  have hiI : (i2 : Int) < (t.length : Int) := by omega
  have hi0I : (0 : Int) ≤ (i2 : Int) := by omega
  clear hcl hadz hb5 hb6 hwd hq2 hq3 hs2
  refine sm_list [2, 4, 5] 26 6 hs hd (by kernel_rfl) (agC e2 (agU (agC e5 agN))) (by simp only [List.append_eq, List.cons_append, List.nil_append, List.map_cons, List.map_nil, reOper, reOp, reO, reC, reK, Option.map_some, Option.map_none, fS_ite, ix_ite, Nat.reduceLeDiff, Nat.reduceEqDiff, if_true, if_false, ↓reduceIte, List.length_cons, List.length_nil, Nat.reduceAdd, Nat.reduceSub, List.map_toArray]; rfl) ?_
  simp only [List.replicate_succ, List.replicate_zero, List.cons_append, List.nil_append, List.drop_succ_cons, List.drop_zero, List.take_succ_cons, List.take_zero]
  go_wp2_with fail
  intro a H
  replace hs := H.size.trans hs
  replace hd : a.defers = [] := H.defers
  replace e1 : a.tmps[1]? = some _ := H.keep e1 rfl
  replace e2 : a.tmps[2]? = some _ := H.got rfl rfl
  replace e5 : a.tmps[5]? = some _ := H.got rfl rfl
  have e4 : a.tmps[4]? = some _ := H.got rfl rfl
  clear H
  refine hKq5 _ _ ?_
  clear hKq5 Kq5
  refine wp_ret ?_
  exact sm_ret rfl hd e4 ⟨rfl, by rw [← HG.out]; exact hlow⟩
end Go.Proofs.Ytaegngcbiefckaa
