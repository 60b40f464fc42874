/-
  ether: what is wrong with a frame.
-/
import Derived.Test.YthhlfojaloaooaaGreatRows
import Derived.Test.YthhlfojaloaooaaGreatEtX
import Derived.WalkKit
import Derived.ProofKit
import Derived.OpenShut
import Derived.LoopTactic
import Derived.WalkLawsBesides
import Derived.WalkSpells
import Derived.Outline
import Derived.Lib.Hide
import Derived.Deep.DrawnRows
import Derived.Laws.CopyOwn
import Derived.MapKept
import Derived.Test.YthhlfojaloaooaaGreatTrR
namespace Go.Proofs.YthhlfojaloaooaaGreat
set_option linter.unusedSimpArgs false
set_option linter.unusedVariables false
open Go.RowKit Go.WideShapes Go.ChangeShapes
attribute [local go_sem ↓] Go.wp_at_zero Go.wp_at_succ

set_option maxRecDepth 100000 in
set_option maxHeartbeats 4000000 in
theorem fcheck_any (f : Fm) (A : Option Addr) (n c : Nat) (M : Array Value) (hM : M = f.cells A n c) (hf : f.Wf) (hl : f.data.length = n) (hn : n ≤ 1000000) (w : World) : Calls Tryz.prog 26 #[.agg M] w fun e w' => e = .returned (.int .i64 (checkF f)) ∧ Below w.heap.size w w' := by
  have LL := (Below.refl w.heap.size w).alloc (Nat.le_refl _) (.cells M 52)
  have FB0 : FB (w.alloc (.cells M 52)) w.heap.size f A n c := ⟨by rw [← hM]; exact Blk.new w _ _, hf⟩
  have BM := Blk.new w 52 M
  have hM1 : (Tryz.prog.info? 52).map (·.size) = some M.size := by rw [hM, Fm.size hf]; kernel_rfl
  have HSZ := Lib.hid (fun W => size_any f A n c M hM hf hl hn W)
  clear hM hf hl
  refine calls_sm (N := 83) Tryz.func26 rfl (by kernel_rfl) ?_
  intro a hs hd ha
  have e0 : a.tmps[0]? = some (.agg M) := ha 0 _ rfl
  clear ha
  conv => arg 2; whnf
  refine wp_seq_k fun Kq1 hKq1 => ?_
  refine sm_list [0] 1 2 hs hd (by kernel_rfl) (agC e0 agN) rfl ?_
  simp only [seval]
  go_wp2_with fail
  intro a H; replace hs := H.s hs; replace hd := H.d rfl; replace e0 := H.g 0 rfl rfl; have e1 := H.g 1 rfl rfl; have e2 := H.g 2 rfl rfl; clear H; refine hKq1 _ _ ?_; clear hKq1 Kq1; refine wp_seq_k fun Kq2 hKq2 => ?_; refine wp_block ?_; refine wp_seq_k fun Kq3 hKq3 => ?_
  generalize w.alloc (.cells M 52) = w1 at *
  obtain ⟨g, hg⟩ : ∃ g, g = w.heap.size := ⟨_, rfl⟩
  rw [← hg] at FB0 BM e1
  have HG := Lib.hid hg
  clear hg
  have y12 := FB0.c12
  obtain ⟨tg, htg⟩ : ∃ b, b = f.tagged := ⟨_, rfl⟩
  rw [← htg] at y12
  have y13 := FB0.c13
  obtain ⟨vid, hvid⟩ : ∃ b, b = f.vid := ⟨_, rfl⟩
  rw [← hvid] at y13
  have y14 := FB0.c14
  obtain ⟨prio, hprio⟩ : ∃ b, b = f.prio := ⟨_, rfl⟩
  rw [← hprio] at y14
  have y15 := FB0.c15
  obtain ⟨dr, hdr⟩ : ∃ b, b = f.drop := ⟨_, rfl⟩
  rw [← hdr] at y15
  have y16 := FB0.c16
  obtain ⟨mn, hmn⟩ : ∃ b, b = f.many := ⟨_, rfl⟩
  rw [← hmn] at y16
  have y17 := FB0.c17
  obtain ⟨seq, hseq⟩ : ∃ b, b = f.seq := ⟨_, rfl⟩
  rw [← hseq] at y17
  have y18 := FB0.c18
  obtain ⟨ty, hty⟩ : ∃ b, b = f.ty := ⟨_, rfl⟩
  rw [← hty] at y18
  have hBad : BadF f ↔ (vid < 0 ∨ 4094 < vid ∨ prio < 0 ∨ 7 < prio ∨ seq < 0 ∨ 65535 < seq ∨ ty < 1536 ∨ 65535 < ty) := by rw [hvid, hprio, hseq, hty]; exact Iff.rfl
  have hBare : BareF f ↔ ((tg = false ∧ (vid ≠ 0 ∨ prio ≠ 0 ∨ dr = true)) ∨ (mn = false ∧ seq ≠ 0)) := by rw [htg, hvid, hprio, hdr, hmn, hseq]; exact Iff.rfl
  have hTy : f.ty = ty := hty.symm
  have HBB := Lib.hid (And.intro hBad (And.intro hBare hTy))
  have HBM := Lib.hid BM
  clear htg hvid hprio hdr hmn hseq hty hBad hBare hTy FB0 BM
  suffices HK : ∀ (a' : Act), a'.tmps.size = a.tmps.size → a'.defers = [] → a'.tmps[0]? = a.tmps[0]? → a'.tmps[1]? = a.tmps[1]? → a'.tmps[2]? = a.tmps[2]? → a'.tmps[3]? = some (.bool (decide (vid < 0 ∨ 4094 < vid ∨ prio < 0 ∨ 7 < prio ∨ seq < 0 ∨ 65535 < seq ∨ ty < 1536 ∨ 65535 < ty))) → Kq3 a' w1 by
    refine sm_list [1] 3 39 hs hd (by kernel_rfl) (agC e1 agN) rfl ?_
    simp only [seval]
    go_wp2_with fail
    all_goals
      intro a' H
      refine HK a' H.size H.defers (H.out 0 rfl) ((H.got rfl rfl).trans e1.symm) (H.out 2 rfl) ?_
      · (refine (H.got (t := 3) rfl rfl).trans (congrArg some ?_); refine congrArg Value.bool ?_; first | exact (decide_eq_true (by omega)).symm | exact decide_eq_decide.2 (by omega) | (rw [Bool.eq_iff_iff]; simp only [Bool.or_eq_true, decide_eq_true_eq] <;> omega))
  intro a' g_s g_d g0 g1 g2 f3
  replace hs := g_s.trans hs; replace hd := g_d; replace e0 := g0.trans e0; replace e1 := g1.trans e1; replace e2 := g2.trans e2; clear g_s g_d g0 g1 g2
  have e3 := f3
  clear f3
  first | clear a | skip
  obtain ⟨a, rfl⟩ : ∃ a, a = a' := ⟨_, rfl⟩
  refine hKq3 _ _ ?_; clear hKq3 Kq3
  by_cases hB : (vid < 0 ∨ 4094 < vid ∨ prio < 0 ∨ 7 < prio ∨ seq < 0 ∨ 65535 < seq ∨ ty < 1536 ∨ 65535 < ty)
  · rw [decide_eq_true hB] at e3
    have hk : checkF f = 1 := if_pos (HBB.out.1.2 hB)
    refine wp_cond_true (slotE e3) ?_
    clear e3; refine wp_seq_k fun Kq4 hKq4 => ?_
    refine sm_list [] 2 1 hs hd (by kernel_rfl) agN rfl ?_
    simp only [seval]
    go_wp2_with fail
    intro a H; replace hs := H.s hs; replace hd := H.d rfl; replace e0 := H.k e0 rfl; replace e1 := H.k e1 rfl; replace e2 := H.g 2 rfl rfl; clear H; refine hKq4 _ _ ?_; clear hKq4 Kq4; refine wp_ret ?_; refine ret_block ?_; refine exit_then rfl ?_
    exact sm_ret rfl hd e2 ⟨by rw [hk], LL⟩
  rw [decide_eq_false hB] at e3
  have hNB : ¬ BadF f := fun h => hB (HBB.out.1.1 h)
  refine wp_cond_false (slotE e3) ?_
  clear e3; refine wp_seq_k fun Kq4 hKq4 => ?_
  have hcase : (tg = true ∧ mn = true) ∨ (tg = true ∧ mn = false ∧ (seq != 0) = false) ∨ (tg = true ∧ mn = false ∧ (seq != 0) = true) ∨ (tg = false ∧ (vid != 0) = true) ∨ (tg = false ∧ (vid != 0) = false ∧ (prio != 0) = true) ∨ (tg = false ∧ (vid != 0) = false ∧ (prio != 0) = false ∧ dr = true) ∨ (tg = false ∧ (vid != 0) = false ∧ (prio != 0) = false ∧ dr = false ∧ mn = true) ∨ (tg = false ∧ (vid != 0) = false ∧ (prio != 0) = false ∧ dr = false ∧ mn = false ∧ (seq != 0) = false) ∨ (tg = false ∧ (vid != 0) = false ∧ (prio != 0) = false ∧ dr = false ∧ mn = false ∧ (seq != 0) = true) := by
      cases tg <;> cases mn <;> cases dr <;> cases (seq != 0) <;> cases (vid != 0) <;> cases (prio != 0) <;> simp
  clear hB
  obtain ⟨B, hBe⟩ : ∃ B, B = decide (BareF f) := ⟨_, rfl⟩
  have hB2 : B = ((!tg && ((vid != 0) || (prio != 0) || dr)) || (!mn && (seq != 0))) := by
      rw [hBe, Bool.eq_iff_iff, decide_eq_true_eq, HBB.out.2.1]
      cases tg <;> cases mn <;> cases dr <;> simp [or_assoc]
  have HB2 := Lib.hid hB2
  have HBE := Lib.hid hBe
  clear hB2 hBe
  suffices HK : ∀ (a' : Act), a'.tmps.size = a.tmps.size → a'.defers = [] → a'.tmps[0]? = a.tmps[0]? → a'.tmps[1]? = a.tmps[1]? → a'.tmps[2]? = a.tmps[2]? → a'.tmps[42]? = some (.bool B) → Kq4 a' w1 by
    rcases hcase with ⟨rfl, rfl⟩ | ⟨rfl, rfl, k1⟩ | ⟨rfl, rfl, k1⟩ | ⟨rfl, k1⟩ | ⟨rfl, k1, k2⟩ | ⟨rfl, k1, k2, rfl⟩ | ⟨rfl, k1, k2, rfl, rfl⟩ | ⟨rfl, k1, k2, rfl, rfl, k3⟩ | ⟨rfl, k1, k2, rfl, rfl, k3⟩
    all_goals
      refine sm_list [1] 42 28 hs hd (by kernel_rfl) (agC e1 agN) rfl ?_
      simp only [seval]
      go_wp2_with fail
      all_goals
        intro a' H
        refine HK a' H.size H.defers (H.out 0 rfl) ((H.got rfl rfl).trans e1.symm) (H.out 2 rfl) ?_
        · (refine (H.got (t := 42) rfl rfl).trans (congrArg some ?_); refine congrArg Value.bool ?_; rw [HB2.out]; first | rfl | simp [*] | (simp_all; done))
  intro a' g_s g_d g0 g1 g2 f42
  replace hs := g_s.trans hs; replace hd := g_d; replace e0 := g0.trans e0; replace e1 := g1.trans e1; replace e2 := g2.trans e2; clear g_s g_d g0 g1 g2
  have e42 := f42
  clear f42
  first | clear a | skip
  obtain ⟨a, rfl⟩ : ∃ a, a = a' := ⟨_, rfl⟩
  refine hKq4 _ _ ?_; clear hKq4 Kq4; clear hcase HB2
  by_cases hR : BareF f
  · obtain rfl : B = true := HBE.out.trans (decide_eq_true hR)
    have hk : checkF f = 1 := by unfold checkF; rw [if_neg hNB, if_pos hR]
    refine wp_cond_true (slotE e42) ?_
    clear e42; refine wp_seq_k fun Kq5 hKq5 => ?_
    refine sm_list [] 2 1 hs hd (by kernel_rfl) agN rfl ?_
    simp only [seval]
    go_wp2_with fail
    intro a H; replace hs := H.s hs; replace hd := H.d rfl; replace e0 := H.k e0 rfl; replace e1 := H.k e1 rfl; replace e2 := H.g 2 rfl rfl; clear H; refine hKq5 _ _ ?_; clear hKq5 Kq5; refine wp_ret ?_; refine ret_block ?_; refine exit_then rfl ?_
    exact sm_ret rfl hd e2 ⟨by rw [hk], LL⟩
  obtain rfl : B = false := HBE.out.trans (decide_eq_false hR)
  refine wp_cond_false (slotE e42) ?_
  clear e42; refine wp_seq_k fun Kq5 hKq5 => ?_
  have hcase : (ty == 33024) = true ∨ ((ty == 33024) = false ∧ (ty == 61889) = true) ∨ ((ty == 33024) = false ∧ (ty == 61889) = false) := by cases (ty == 33024) <;> cases (ty == 61889) <;> simp
  obtain ⟨T, hT⟩ : ∃ T, T = ((ty == 33024) || (ty == 61889)) := ⟨_, rfl⟩
  have HT := Lib.hid hT
  clear hT
  suffices HK : ∀ (a' : Act), a'.tmps.size = a.tmps.size → a'.defers = [] → a'.tmps[0]? = a.tmps[0]? → a'.tmps[1]? = a.tmps[1]? → a'.tmps[2]? = a.tmps[2]? → a'.tmps[70]? = some (.bool T) → Kq5 a' w1 by
    rcases hcase with k1 | ⟨k1, k2⟩ | ⟨k1, k2⟩
    all_goals
      refine sm_list [1] 70 9 hs hd (by kernel_rfl) (agC e1 agN) rfl ?_
      simp only [seval]
      go_wp2_with fail
      all_goals
        intro a' H
        refine HK a' H.size H.defers (H.out 0 rfl) ((H.got rfl rfl).trans e1.symm) (H.out 2 rfl) ?_
        · (refine (H.got (t := 70) rfl rfl).trans (congrArg some ?_); refine congrArg Value.bool ?_; rw [HT.out]; first | rfl | simp [*] | (simp_all; done))
  intro a' g_s g_d g0 g1 g2 f70
  replace hs := g_s.trans hs; replace hd := g_d; replace e0 := g0.trans e0; replace e1 := g1.trans e1; replace e2 := g2.trans e2; clear g_s g_d g0 g1 g2
  have e70 := f70
  clear f70
  first | clear a | skip
  obtain ⟨a, rfl⟩ : ∃ a, a = a' := ⟨_, rfl⟩
  refine hKq5 _ _ ?_; clear hKq5 Kq5; clear hcase
  have hTi : T = true ↔ (f.ty = 33024 ∨ f.ty = 61889) := by rw [HT.out, HBB.out.2.2]; simp
  have HTI := Lib.hid hTi
  clear hTi HT
  cases T
  · have hnt : ¬ (f.ty = 33024 ∨ f.ty = 61889) := fun h => absurd (HTI.out.2 h) (by decide)
    refine wp_cond_false (slotE e70) ?_
    clear e70; refine wp_seq_k fun Kq6 hKq6 => ?_
    obtain ⟨S, hS⟩ : ∃ S, S = sizeF f := ⟨_, rfl⟩
    have hSZ := HSZ.out w1
    rw [← hS] at hSZ
    have HSS := Lib.hid hSZ
    have HSE := Lib.hid hS
    clear hSZ hS
    refine sm_list [1] 79 4 hs hd (by kernel_rfl) (agC e1 agN) rfl ?_
    simp only [seval]
    go_wp2_with (first | (refine wpList_load_any_d rfl 52 (.tmp 0) rfl ⟨g, 0, none⟩ rfl M _ (blk_cells HBM.out) Tryz.underlying52 rfl hM1 ?_) | fail)
    refine HSS.out.mono ?_
    rintro e w2 ⟨rfl, b2⟩
    have HB2 := Lib.hid b2
    clear b2
    go_wp2_with fail
    intro a H; replace hs := H.s hs; replace hd := H.d rfl; replace e1 := H.g 1 rfl rfl; replace e0 := H.k e0 rfl; replace e2 := H.k e2 rfl; have e79 := H.g 79 rfl rfl; clear H; refine hKq6 _ _ ?_; clear hKq6 Kq6
    have L2 : Below w.heap.size w w2 := LL.trans (HB2.out.mono LL.size)
    by_cases hz : 1600 < S
    · first | rw [decide_eq_true hz] at e79 | skip
      have hk : checkF f = 3 := by unfold checkF; rw [if_neg hNB, if_neg hR, if_neg hnt, if_pos (by rw [← HSE.out]; exact hz)]
      refine wp_cond_true (slotE e79) ?_
      clear e79; refine wp_seq_k fun Kq7 hKq7 => ?_
      refine sm_list [] 2 1 hs hd (by kernel_rfl) agN rfl ?_
      simp only [seval]
      go_wp2_with fail
      intro a H; replace hs := H.s hs; replace hd := H.d rfl; replace e0 := H.k e0 rfl; replace e1 := H.k e1 rfl; replace e2 := H.g 2 rfl rfl; clear H; refine hKq7 _ _ ?_; clear hKq7 Kq7; refine wp_ret ?_; refine ret_block ?_; refine exit_then rfl ?_
      exact sm_ret rfl hd e2 ⟨by rw [hk], L2⟩
    · rw [decide_eq_false hz] at e79
      have hk : checkF f = 0 := by unfold checkF; rw [if_neg hNB, if_neg hR, if_neg hnt, if_neg (by rw [← HSE.out]; exact hz)]
      refine wp_cond_false (slotE e79) ?_
      clear e79; refine wp_skip ?_; refine hKq2 _ _ ?_; clear hKq2 Kq2; refine wp_seq_k fun Kq7 hKq7 => ?_
      refine sm_list [] 2 1 hs hd (by kernel_rfl) agN rfl ?_
      simp only [seval]
      go_wp2_with fail
      intro a H; replace hs := H.s hs; replace hd := H.d rfl; replace e0 := H.k e0 rfl; replace e1 := H.k e1 rfl; replace e2 := H.g 2 rfl rfl; clear H; refine hKq7 _ _ ?_; clear hKq7 Kq7; refine wp_ret ?_
      exact sm_ret rfl hd e2 ⟨by rw [hk], L2⟩
  · have hk : checkF f = 23 := by unfold checkF; rw [if_neg hNB, if_neg hR, if_pos (HTI.out.1 rfl)]
    refine wp_cond_true (slotE e70) ?_
    clear e70; refine wp_seq_k fun Kq6 hKq6 => ?_
    refine sm_list [] 2 1 hs hd (by kernel_rfl) agN rfl ?_
    simp only [seval]
    go_wp2_with fail
    intro a H; replace hs := H.s hs; replace hd := H.d rfl; replace e0 := H.k e0 rfl; replace e1 := H.k e1 rfl; replace e2 := H.g 2 rfl rfl; clear H; refine hKq6 _ _ ?_; clear hKq6 Kq6; refine wp_ret ?_; refine ret_block ?_; refine exit_then rfl ?_
    exact sm_ret rfl hd e2 ⟨by rw [hk], LL⟩
set_option maxRecDepth 100000 in
set_option maxHeartbeats 4000000 in
theorem fsize_any (f : Fm) (A : Option Addr) (n c : Nat) (M : Array Value) (hM : M = f.cells A n c) (hf : f.Wf) (hl : f.data.length = n) (hn : n ≤ 1000000) (w : World) : Calls Tryz.prog 27 #[.agg M] w fun e w' => e = .returned (.int .i64 (max 64 (sizeF f))) ∧ Below w.heap.size w w' := by
  have LL := (Below.refl w.heap.size w).alloc (Nat.le_refl _) (.cells M 52)
  have BM := Blk.new w 52 M
  have hM1 : (Tryz.prog.info? 52).map (·.size) = some M.size := by rw [hM, Fm.size hf]; kernel_rfl
  have HSZ := Lib.hid (fun W => size_any f A n c M hM hf hl hn W)
  clear hM hf hl
  refine calls_sm (N := 6) Tryz.func27 rfl (by kernel_rfl) ?_
  intro a hs hd ha
  have e0 : a.tmps[0]? = some (.agg M) := ha 0 _ rfl
  clear ha
  conv => arg 2; whnf
  refine wp_seq_k fun Kq1 hKq1 => ?_
  refine sm_list [0] 1 2 hs hd (by kernel_rfl) (agC e0 agN) rfl ?_
  simp only [seval]
  go_wp2_with fail
  intro a H; replace hs := H.s hs; replace hd := H.d rfl; replace e0 := H.g 0 rfl rfl; have e1 := H.g 1 rfl rfl; have e2 := H.g 2 rfl rfl; clear H; refine hKq1 _ _ ?_; clear hKq1 Kq1; refine wp_seq_k fun Kq2 hKq2 => ?_
  generalize w.alloc (.cells M 52) = w1 at *
  obtain ⟨g, hg⟩ : ∃ g, g = w.heap.size := ⟨_, rfl⟩
  rw [← hg] at BM e1
  have HG := Lib.hid hg
  have HBM := Lib.hid BM
  clear hg BM
  obtain ⟨S, hS⟩ : ∃ S, S = sizeF f := ⟨_, rfl⟩
  have hSZ := HSZ.out w1
  rw [← hS] at hSZ
  have HSS := Lib.hid hSZ
  have HSE := Lib.hid hS
  clear hSZ hS HSZ
  suffices HK : ∀ (a' : Act) (w2 : World), a'.tmps.size = a.tmps.size → a'.defers = [] → a'.tmps[0]? = a.tmps[0]? → a'.tmps[1]? = a.tmps[1]? → a'.tmps[2]? = some (.int .i64 (max 64 S)) → Below w1.heap.size w1 w2 → Kq2 a' w2 by
    refine sm_list [1] 2 4 hs hd (by kernel_rfl) (agC e1 agN) rfl ?_
    simp only [seval]
    go_wp2_with (first | (refine wpList_load_any_d rfl 52 (.tmp 0) rfl ⟨g, 0, none⟩ rfl M _ (blk_cells HBM.out) Tryz.underlying52 rfl hM1 ?_) | fail)
    refine HSS.out.mono ?_
    rintro e w2 ⟨rfl, b2⟩
    have HB2 := Lib.hid b2
    clear b2
    go_wp2_with fail
    all_goals
      intro a' H
      refine HK a' _ H.size H.defers (H.out 0 rfl) ((H.got rfl rfl).trans e1.symm) ?_ ?_
      · (refine (H.got (t := 2) rfl rfl).trans (congrArg some ?_); refine congrArg (Value.int .i64) ?_; first | omega | (split <;> omega))
      · exact HB2.out
  intro a' w2 g_s g_d g0 g1 f2 b2
  replace hs := g_s.trans hs; replace hd := g_d; replace e0 := g0.trans e0; replace e1 := g1.trans e1; clear e2; clear g_s g_d g0 g1
  have e2 := f2
  clear f2
  first | clear a | skip
  obtain ⟨a, rfl⟩ : ∃ a, a = a' := ⟨_, rfl⟩
  refine hKq2 _ _ ?_; clear hKq2 Kq2; refine wp_ret ?_
  have L2 : Below w.heap.size w w2 := LL.trans (b2.mono LL.size)
  exact sm_ret rfl hd e2 ⟨by rw [HSE.out], L2⟩
end Go.Proofs.YthhlfojaloaooaaGreat

namespace Go.Proofs.YthhlfojaloaooaaGreat
set_option linter.unusedSimpArgs false
set_option linter.unusedVariables false
open Go.RowKit Go.WideShapes Go.ChangeShapes
attribute [local go_sem ↓] Go.wp_at_zero Go.wp_at_succ

def be2 (x : Int) : List Int := [x / 256 % 256, x % 256]
theorem be2_len (x : Int) : (be2 x).length = 2 := rfl
theorem be2_B (x : Int) : ∀ b ∈ be2 x, 0 ≤ b ∧ b ≤ 255 := by
  intro b hb
  simp [be2] at hb
  rcases hb with rfl | rfl <;> omega
set_option maxRecDepth 100000 in
set_option maxHeartbeats 4000000 in
theorem two_any (v : Value) (m : Nat) (bs : List Int) (x : Int) (B0 : Nat) (w : World) (own : w.ownsRow B0 5 1 v m (us bs)) (hB : B0 ≤ w.heap.size) (hm : m ≤ 1000000) : Calls Tryz.prog 43 #[v, .int .i64 x] w fun e w' => ∃ v', e = .returned v' ∧ w'.ownsRow B0 5 1 v' (m + 2) (us (bs ++ be2 x)) ∧ w.grownBy w' v.ownBlock ∧ Moved w v v' := by
  obtain ⟨A, c, rfl, _, _⟩ := ownsRow_reads own
  refine calls_sm (N := 13) Tryz.func43 rfl (by kernel_rfl) ?_
  intro a hs hd ha
  have e0 : a.tmps[0]? = some (.slice A m c) := ha 0 _ rfl
  have e1 : a.tmps[1]? = some (.int .i64 x) := ha 1 _ rfl
  clear ha
  conv => arg 2; whnf
  refine wp_seq_k fun Kq1 hKq1 => ?_
  refine sm_list [] 4 1 hs hd (by kernel_rfl) agN rfl ?_
  simp only [seval]
  go_wp2_with fail
  intro a H; replace hs := H.s hs; replace hd := H.d rfl; replace e0 := H.k e0 rfl; replace e1 := H.k e1 rfl; have e4 := H.g 4 rfl rfl; clear H; refine hKq1 _ _ ?_; clear hKq1 Kq1; refine wp_seq_k fun Kq2 hKq2 => ?_
  refine sm_list [0, 1] 4 9 hs hd (by kernel_rfl) (agC e0 (agC e1 agN)) rfl ?_
  simp only [seval]
  go_wp2_with (first | (at_builtin; refine wpList_pushG 2 rfl (.tmp 3) (.tmp 9) 23 rfl styB (wr := w) (cs := #[.int .u8 (x / 256 % 256), .int .u8 (x % 256)]) rfl (us_one (be2 x)) rfl own rfl rfl (by omega) hB ?_; intro v2 w2 own2 gr2 mv2) | fail)
  intro a H; replace hs := H.s hs; replace hd := H.d rfl; replace e0 := H.g 0 rfl rfl; replace e1 := H.g 1 rfl rfl; replace e4 := H.g 4 rfl rfl; clear H; refine hKq2 _ _ ?_; clear hKq2 Kq2; refine wp_ret ?_
  exact sm_ret rfl hd e4 ⟨v2, rfl, by rw [us_append]; simpa [us, be2] using own2, gr2, mv2⟩
def tagV (p v : Int) (d : Bool) : Int := p * 8192 + (if d then 4096 else 0) + v
def headF (f : Fm) : List Int := f.dst ++ f.src ++ (if f.tagged then be2 33024 ++ be2 (tagV f.prio f.vid f.drop) else []) ++ (if f.many then be2 61889 ++ be2 0 ++ be2 f.seq else [])
def bodyF (f : Fm) : List Int := headF f ++ be2 f.ty ++ be2 (f.data.length : Int) ++ f.data
def padF (bs : List Int) : List Int := bs ++ List.replicate (60 - bs.length) 0
def encF (f : Fm) : List Int := padF (bodyF f) ++ le4 (sumV (padF (bodyF f)))

end Go.Proofs.YthhlfojaloaooaaGreat

namespace Go.Proofs.YthhlfojaloaooaaGreat
set_option linter.unusedSimpArgs false
set_option linter.unusedVariables false
open Go.RowKit Go.WideShapes Go.ChangeShapes
attribute [local go_sem ↓] Go.wp_at_zero Go.wp_at_succ

/-- While a frame's bytes are laid: its box, the row so far. -/
structure EnS (w wk : World) (g : Nat) (f : Fm) (A : Option Addr) (n c : Nat) (v : Value) (m : Nat) (bs : List Int) : Prop where
  low : Below w.heap.size w wk
  fb : FB wk g f A n c
  own : wk.ownsRow w.heap.size 5 1 v m (us bs)
section
variable {w wk w' : World} {g : Nat} {f : Fm} {A : Option Addr} {n c m m' : Nat} {v v' : Value} {bs bs' : List Int}
theorem EnS.step (h : EnS w wk g f A n c v m bs) (own' : w'.ownsRow w.heap.size 5 1 v' m' (us bs')) (gr : wk.grownBy w' v.ownBlock) : EnS w w' g f A n c v' m' bs' :=
  ⟨h.low.trans (below_of_grown gr h.own h.low.size), ⟨h.fb.blk.grown gr (own_blk_ne h.own h.fb.blk (by decide)).symm, h.fb.wf⟩, own'⟩
theorem EnS.kept (h : EnS w wk g f A n c v m bs) (hb : Below wk.heap.size wk w') : EnS w w' g f A n c v m bs := ⟨h.low.trans (hb.mono h.low.size), h.fb.kept hb, ownsRow_keep h.own hb⟩
end
inductive PadI (w : World) (g : Nat) (f : Fm) (A : Option Addr) (n c m5 : Nat) (a : Act) (w3 : World) : Prop
  | mk (k q c5 : Nat) (A5 : Option Addr) (h1 : q = m5 + k) (h2 : k = 0 ∨ q ≤ 60) (hs : a.tmps.size = 61) (hd : a.defers = []) (e1 : a.tmps[1]? = some (.pointer (some ⟨g, 0, none⟩))) (e3 : a.tmps[3]? = some (.int .i64 0)) (e5 : a.tmps[5]? = some (.slice A5 q c5)) (hE : EnS w w3 g f A n c (.slice A5 q c5) q (bodyF f ++ List.replicate k 0)) : PadI w g f A n c m5 a w3
def sLen : Value → Nat
  | .slice _ n _ => n
  | _ => 0
theorem headF_len (f : Fm) (h : f.Wf) : (headF f).length ≤ 22 := by
  unfold headF
  simp only [List.length_append, h.dst, h.src]
  split <;> split <;> simp [be2]
theorem headF_B (f : Fm) (h : f.Wf) : ∀ b ∈ headF f, 0 ≤ b ∧ b ≤ 255 := by
  intro b hb
  unfold headF at hb
  rcases List.mem_append.1 hb with hb | hb
  · rcases List.mem_append.1 hb with hb | hb
    · rcases List.mem_append.1 hb with hb | hb
      · exact h.dstB b hb
      · exact h.srcB b hb
    · split at hb
      · rcases List.mem_append.1 hb with hb | hb <;> exact be2_B _ b hb
      · cases hb
  · split at hb
    · rcases List.mem_append.1 hb with hb | hb
      · rcases List.mem_append.1 hb with hb | hb <;> exact be2_B _ b hb
      · exact be2_B _ b hb
    · cases hb
theorem bodyF_B (f : Fm) (h : f.Wf) : ∀ b ∈ bodyF f, 0 ≤ b ∧ b ≤ 255 := by
  intro b hb
  unfold bodyF at hb
  rcases List.mem_append.1 hb with hb | hb
  · rcases List.mem_append.1 hb with hb | hb
    · rcases List.mem_append.1 hb with hb | hb
      · exact headF_B f h b hb
      · exact be2_B _ b hb
    · exact be2_B _ b hb
  · exact h.dataB b hb
theorem padF_B (f : Fm) (h : f.Wf) : ∀ b ∈ padF (bodyF f), 0 ≤ b ∧ b ≤ 255 := by
  intro b hb
  unfold padF at hb
  rcases List.mem_append.1 hb with hb | hb
  · exact bodyF_B f h b hb
  · have := List.eq_of_mem_replicate hb
    omega
set_option maxRecDepth 100000 in
set_option maxHeartbeats 4000000 in
theorem enc_c (f : Fm) (A : Option Addr) (n c g : Nat) (v : Value) (m : Nat) (w wk : World) (hf : f.Wf) (hl : f.data.length = n) (hn : n ≤ 1600) (hr : Reads w w.heap.size 1 A n (us f.data)) (hE : EnS w wk g f A n c v m (headF f)) (R : Ending → World → Prop) (hRR : ∀ (w' : World) (v : Value), Below w.heap.size w w' → w'.ownsRow w.heap.size 5 1 v (encF f).length (us (encF f)) → R (.returned (.tuple #[v, .int .i64 0])) w') (a : Act)
    (hs : a.tmps.size = 61) (hd : a.defers = []) (e1 : a.tmps[1]? = some (.pointer (some ⟨g, 0, none⟩))) (e3 : a.tmps[3]? = some (.int .i64 0)) (e5 : a.tmps[5]? = some (v)) :
    Code.wp Tryz.prog (sub [true, true, true, true, true] (bodyOf Tryz.f28)) (bodyPost Tryz.prog Tryz.f28 R) a wk := by
  have hm : m ≤ 22 := by have h1 := hE.own.1; rw [us_length] at h1; have := headF_len f hf; omega
  have HR := Lib.hid (And.intro hr (And.intro hf hl))
  clear hr hf hl
  conv => arg 2; whnf
  refine wp_seq_k fun Kq1 hKq1 => ?_
  refine sm_any [1, 5] 42 11 (by kernel_rfl) hs hd (by kernel_rfl) (agC e1 (agC e5 agN)) rfl (any_script [(0, true), (1, true), (2, true), (4, true), (5, true), (6, true), (8, true), (9, true), (3, false), (7, false), (10, false), (11, true)] (fun w' => FB w' g f A n c ∧ Below w.heap.size w w') (by kernel_rfl) (fun _ _ _ _ _ h => h) ⟨(hE.kept (Below.refl wk.heap.size wk).drew).fb, (hE.kept (Below.refl wk.heap.size wk).drew).low⟩ ?_)
  simp only [seval]
  have Ed := hE.kept (Below.refl wk.heap.size wk).drew
  obtain ⟨wd, hwde⟩ : ∃ wd, wd = wk.drew := ⟨_, rfl⟩
  rw [← hwde] at Ed ⊢
  clear hwde
  iterate 8 (refine script_take (v := ?_) rfl ?_ ?_ ?_; rotate_left; (first | rfl | (go_simp; done)); (rintro w' ⟨u1, u2⟩; have q12 := u1.c12; have q13 := u1.c13; have q14 := u1.c14; have q15 := u1.c15; have q16 := u1.c16; have q17 := u1.c17; have q18 := u1.c18; have q19 := u1.c19; go_simp; with_reducible rfl); simp only [Act.put, List.setIfInBounds_toArray, List.set_cons_zero, List.set_cons_succ])
  (refine script_call 43 ?_ rfl ?_ ?_ ?_; rotate_left; (first | rfl | (go_simp; done)); (go_simp; with_reducible rfl))
  refine (two_any _ m _ f.ty w.heap.size _ Ed.own Ed.low.size (by omega)).mono ?_
  rintro e w1 ⟨v1, rfl, own1, gr1, _⟩
  have E1 := Ed.step own1 gr1
  refine ⟨_, rfl, ⟨E1.fb, E1.low⟩, ?_⟩
  simp only [Act.put, List.setIfInBounds_toArray, List.set_cons_zero, List.set_cons_succ]
  (refine script_call 43 ?_ rfl ?_ ?_ ?_; rotate_left; (first | rfl | (go_simp; done)); (go_simp; with_reducible rfl))
  refine (two_any _ (m + 2) _ (n : Int) w.heap.size _ E1.own E1.low.size (by omega)).mono ?_
  rintro e w2 ⟨v2, rfl, own2, gr2, _⟩
  have E2 := E1.step own2 gr2
  refine ⟨_, rfl, ⟨E2.fb, E2.low⟩, ?_⟩
  simp only [Act.put, List.setIfInBounds_toArray, List.set_cons_zero, List.set_cons_succ]
  have hr2 := HR.out.1.below E2.low
  have one := us_one f.data
  have hz2 := E2.low.size
  refine script_pushR rfl rfl (.tmp 9) (.tmp 11) 23 rfl styB rfl hr2 one rfl E2.own (by omega) hz2 ?_
  intro v3 w3 own3 gr3
  have E3 := E2.step (bs' := bodyF f) (m' := m + 2 + 2 + n) (by unfold bodyF; rw [HR.out.2.2, us_append, us_append, us_append]; rw [us_append, us_append] at own3; simpa [List.append_assoc] using own3) gr3
  refine ⟨⟨E3.fb, E3.low⟩, ?_⟩
  simp only [Act.put, List.setIfInBounds_toArray, List.set_cons_zero, List.set_cons_succ]
  (refine script_take (v := ?_) rfl ?_ ?_ ?_; rotate_left; (first | rfl | (go_simp; done)); (rintro w' ⟨u1, u2⟩; have q12 := u1.c12; have q13 := u1.c13; have q14 := u1.c14; have q15 := u1.c15; have q16 := u1.c16; have q17 := u1.c17; have q18 := u1.c18; have q19 := u1.c19; go_simp; with_reducible rfl); simp only [Act.put, List.setIfInBounds_toArray, List.set_cons_zero, List.set_cons_succ])
  have HE3 := Lib.hid E3
  clear E3 own3 gr3 E2 E1 Ed
  refine script_nil ?_
  intro a H; replace hs := H.s hs; replace hd := H.d rfl; replace e1 := H.g 1 rfl rfl; replace e3 := H.k e3 rfl; replace e5 := H.g 5 rfl rfl; clear H; refine hKq1 _ _ ?_; clear hKq1 Kq1; refine wp_seq_k fun Kq2 hKq2 => ?_; refine wp_block ?_
  obtain ⟨A5, c5, hv3, hx1, hx2⟩ := ownsRow_reads HE3.out.own
  subst hv3
  clear hx1 hx2
  obtain ⟨m5, hm5⟩ : ∃ q, q = m + 2 + 2 + n := ⟨_, rfl⟩
  have E5 := HE3.out
  rw [← hm5] at E5 e5
  have hbl : (bodyF f).length = m5 := by have h1 := E5.own.1; rw [us_length] at h1; omega
  clear hE HE3
  have hm5b : m5 ≤ 2000 := by omega
  clear hm5
  refine wp_loop (fun a w3 => PadI w g f A n c m5 a w3) (fun a _ => 60 - sLen (a.tmps.getD 5 undef)) ?_ ?_
  · exact ⟨0, m5, c5, A5, rfl, .inl rfl, hs, hd, e1, e3, e5, by simpa using E5⟩
  clear hs hd e1 e3 e5 a E5 A5 c5
  rintro a w5 ⟨k, q, c5, A5, hq1, hq2, hs, hd, e1, e3, e5, E5⟩
  have HQ := Lib.hid (And.intro hq1 hq2)
  clear hq1 hq2
  have hmu := slot e5
  have hq2 : q ≤ 2000 := by have h1 := HQ.out.1; rcases HQ.out.2 with h | h <;> omega
  refine wp_seq_k fun Kq3 hKq3 => ?_; refine wp_seq_k fun Kq4 hKq4 => ?_
  by_cases h60 : q < 60
  ·
    have dq : (q : Int) < 60 := by omega
    have own5 := E5.own
    have hz5 := E5.low.size
    have HE5 := Lib.hid E5
    clear E5
    refine sm_list [5] 53 3 hs hd (by kernel_rfl) (agC e5 agN) rfl ?_
    simp only [seval]
    go_wp2_with fail
    intro a H; replace hs := H.s hs; replace hd := H.d rfl; replace e5 := H.g 5 rfl rfl; replace e1 := H.k e1 rfl; replace e3 := H.k e3 rfl; have e55 := H.g 55 rfl rfl; clear H; refine hKq4 _ _ ?_; clear hKq4 Kq4
    refine wp_cond_true (slotE e55) ?_
    clear e55; refine wp_skip ?_; refine hKq3 _ _ ?_; clear hKq3 Kq3; refine wp_block ?_
    refine sm_list [5] 56 3 hs hd (by kernel_rfl) (agC e5 agN) rfl ?_
    simp only [seval]
    go_wp2_with (first | (at_builtin; refine wpList_pushG 1 rfl (.tmp 1) (.tmp 2) 23 rfl styB (wr := w5) (cs := #[.int .u8 0]) rfl (us_one [0]) rfl own5 rfl rfl (by omega) hz5 ?_; intro v6 w6 own6 gr6 mv6) | fail)
    intro a H; replace hs := H.s hs; replace hd := H.d rfl; replace e1 := H.k e1 rfl; replace e3 := H.k e3 rfl; replace e5 := H.g 5 rfl rfl; clear H
    obtain ⟨A6, c6, hv6, _, _⟩ := ownsRow_reads own6
    subst hv6
    have E6 := HE5.out.step (bs' := bodyF f ++ List.replicate (k + 1) 0) (m' := q + 1) (by rw [List.replicate_succ', ← List.append_assoc, us_append]; simpa [us] using own6) gr6
    refine ⟨⟨k + 1, q + 1, c6, A6, by have := HQ.out.1; omega, .inr (by omega), hs, hd, e1, e3, e5, E6⟩, ?_⟩
    first | (simp [hmu, e5, sLen]; done) | (simp [hmu, e5, sLen]; omega)
  · have dq : (60 : Int) ≤ (q : Int) := by omega
    have dq2 : decide ((q : Int) < 60) = false := decide_eq_false (by omega)
    refine sm_list [5] 53 3 hs hd (by kernel_rfl) (agC e5 agN) rfl ?_
    simp only [seval]
    go_wp2_with fail
    intro a H; replace hs := H.s hs; replace hd := H.d rfl; replace e5 := H.g 5 rfl rfl; replace e1 := H.k e1 rfl; replace e3 := H.k e3 rfl; have e55 := H.g 55 rfl rfl; clear H; refine hKq4 _ _ ?_; clear hKq4 Kq4
    refine wp_cond_false (slotE e55) ?_
    clear e55; refine wp_exit ?_; refine exit_then rfl ?_; clear hKq3 Kq3; refine exit_then rfl ?_; refine exit_hit ?_; refine hKq2 _ _ ?_; clear hKq2 Kq2; refine wp_seq_k fun Kq5 hKq5 => ?_
    have hpad : bodyF f ++ List.replicate k 0 = padF (bodyF f) := by
      unfold padF
      have h1 := HQ.out.1; have h2 := HQ.out.2
      rw [hbl]
      rw [show 60 - m5 = k by rcases h2 with h | h <;> omega]
    rw [hpad] at E5
    obtain ⟨A7, c7, hv7, _, hr7⟩ := ownsRow_reads E5.own
    injection hv7 with hv7 _ hv8
    subst hv7 hv8
    have hpl : (padF (bodyF f)).length = q := by have h1 := E5.own.1; rw [us_length] at h1; omega
    have HCL := Lib.hid (close_any A5 q c5 (padF (bodyF f)) w5 hr7 (padF_B f HR.out.2.1) (by omega))
    have HE5 := Lib.hid E5
    clear hr7 E5 hpad hmu
    refine sm_list [2, 3, 5] 59 2 hs hd (by kernel_rfl) (agU (agC e3 (agC e5 agN))) rfl ?_
    simp only [seval]
    go_wp2_with fail
    refine HCL.out.mono ?_
    rintro e w6 ⟨v6, rfl, own6, b6⟩
    have H6 := Lib.hid (And.intro own6 b6)
    clear own6 b6
    go_wp2_with fail
    intro a H; replace hs := H.s hs; replace hd := H.d rfl; replace e5 := H.g 5 rfl rfl; replace e1 := H.k e1 rfl; have e2 := H.g 2 rfl rfl; replace e3 := H.g 3 rfl rfl; clear H; refine hKq5 _ _ ?_; clear hKq5 Kq5; refine wp_ret ?_
    obtain ⟨own6, b6⟩ := H6.out
    have hz := HE5.out.low.size
    have hel : (encF f).length = q + 4 := by unfold encF; rw [List.length_append, hpl]; rfl
    refine sm_ret2 rfl hd e2 e3 (hRR w6 v6 (HE5.out.low.trans (b6.mono hz)) ?_)
    rw [hel]; exact ownsRow_base own6 hz
end Go.Proofs.YthhlfojaloaooaaGreat

namespace Go.Proofs.YthhlfojaloaooaaGreat
set_option linter.unusedSimpArgs false
set_option linter.unusedVariables false
open Go.RowKit Go.WideShapes Go.ChangeShapes
attribute [local go_sem ↓] Go.wp_at_zero Go.wp_at_succ

theorem or_i64 {a b k : Nat} (ha : a < 2 ^ k) (hb : b * 2 ^ k + a < 4611686018427387904) : bits .or .i64 ((b * 2 ^ k : Nat) : Int) (a : Int) = ((b * 2 ^ k + a : Nat) : Int) := by
  show IntKind.i64.wrap ((BitVec.ofInt 64 ((b * 2 ^ k : Nat) : Int) ||| BitVec.ofInt 64 (a : Int)).toNat : Int) = _
  have e1 : (BitVec.ofInt 64 (a : Int)).toNat = a := by rw [BitVec.toNat_ofInt]; omega
  have e2 : (BitVec.ofInt 64 ((b * 2 ^ k : Nat) : Int)).toNat = b * 2 ^ k := by rw [BitVec.toNat_ofInt]; omega
  rw [BitVec.toNat_or, e1, e2, ← Nat.shiftLeft_eq, ← Nat.shiftLeft_add_eq_or_of_lt ha, Nat.shiftLeft_eq]
  exact IntWalk.i64_in _ ⟨by omega, by omega⟩
theorem or_tag {p v : Nat} (hp : p ≤ 7) (hv : v < 4096) : bits .or .i64 ((p * 8192 + v : Nat) : Int) 4096 = ((p * 8192 + 4096 + v : Nat) : Int) := by
  show IntKind.i64.wrap ((BitVec.ofInt 64 ((p * 8192 + v : Nat) : Int) ||| BitVec.ofInt 64 (4096 : Int)).toNat : Int) = _
  have e1 : (BitVec.ofInt 64 (4096 : Int)).toNat = 4096 := rfl
  have e2 : (BitVec.ofInt 64 ((p * 8192 + v : Nat) : Int)).toNat = p * 8192 + v := by rw [BitVec.toNat_ofInt]; omega
  rw [BitVec.toNat_or, e1, e2]
  have h1 : p * 8192 + v = p <<< 13 ||| v := by rw [← Nat.shiftLeft_add_eq_or_of_lt (by omega), Nat.shiftLeft_eq]
  have h2 : v ||| 4096 = 4096 + v := by
    have := Nat.shiftLeft_add_eq_or_of_lt (i := 12) (b := v) (by omega) 1
    rw [Nat.or_comm]
    exact this.symm
  rw [h1, Nat.or_assoc, h2, ← Nat.shiftLeft_add_eq_or_of_lt (by omega), Nat.shiftLeft_eq]
  exact (IntWalk.i64_in _ ⟨by omega, by omega⟩).trans (by omega)
set_option maxRecDepth 100000 in
set_option maxHeartbeats 4000000 in
theorem enc_b (f : Fm) (A : Option Addr) (n c g : Nat) (v : Value) (m : Nat) (h0 : List Int) (w wk : World) (hf : f.Wf) (hl : f.data.length = n) (hn : n ≤ 1600) (hr : Reads w w.heap.size 1 A n (us f.data)) (hE : EnS w wk g f A n c v m h0) (hh : headF f = h0 ++ (if f.many then be2 61889 ++ be2 0 ++ be2 f.seq else [])) (R : Ending → World → Prop) (hRR : ∀ (w' : World) (v : Value), Below w.heap.size w w' → w'.ownsRow w.heap.size 5 1 v (encF f).length (us (encF f)) → R (.returned (.tuple #[v, .int .i64 0])) w') (a : Act)
    (hs : a.tmps.size = 61) (hd : a.defers = []) (e1 : a.tmps[1]? = some (.pointer (some ⟨g, 0, none⟩))) (e3 : a.tmps[3]? = some (.int .i64 0)) (e5 : a.tmps[5]? = some (v)) :
    Code.wp Tryz.prog (sub [true, true, true, true] (bodyOf Tryz.f28)) (bodyPost Tryz.prog Tryz.f28 R) a wk := by
  have hm : m ≤ 22 := by have h1 := hE.own.1; rw [us_length] at h1; have h2 := headF_len f hf; rw [hh, List.length_append] at h2; omega
  have HR := Lib.hid (And.intro hr (And.intro hf (And.intro hl hh)))
  clear hr hf hl hh
  conv => arg 2; whnf
  refine wp_seq_k fun Kq1 hKq1 => ?_; refine wp_seq_k fun Kq2 hKq2 => ?_
  have y16 := hE.fb.c16
  obtain ⟨mn, hmn⟩ : ∃ b, b = f.many := ⟨_, rfl⟩
  rw [← hmn] at y16
  have HMN := Lib.hid hmn
  clear hmn
  refine sm_list [1] 34 2 hs hd (by kernel_rfl) (agC e1 agN) rfl ?_
  simp only [seval]
  go_wp2_with fail
  intro a H; replace hs := H.s hs; replace hd := H.d rfl; replace e1 := H.g 1 rfl rfl; replace e3 := H.k e3 rfl; replace e5 := H.k e5 rfl; have e35 := H.g 35 rfl rfl; clear H; refine hKq2 _ _ ?_; clear hKq2 Kq2; clear y16
  cases mn
  · have hh := HR.out.2.2.2
    rw [← HMN.out, if_neg (by decide), List.append_nil] at hh
    refine wp_cond_false (slotE e35) ?_
    clear e35; refine wp_skip ?_; refine hKq1 _ _ ?_; clear hKq1 Kq1
    exact enc_c f A n c g v m w wk HR.out.2.1 HR.out.2.2.1 hn HR.out.1 (by rw [hh]; exact hE) R hRR a hs hd e1 e3 e5
  ·
    refine wp_cond_true (slotE e35) ?_
    clear e35
    refine sm_any [1, 5] 36 6 (by kernel_rfl) hs hd (by kernel_rfl) (agC e1 (agC e5 agN)) rfl (any_script [(0, true), (3, true), (4, true), (1, false), (2, false), (5, false), (6, true)] (fun w' => FB w' g f A n c ∧ Below w.heap.size w w') (by kernel_rfl) (fun _ _ _ _ _ h => h) ⟨(hE.kept (Below.refl wk.heap.size wk).drew).fb, (hE.kept (Below.refl wk.heap.size wk).drew).low⟩ ?_)
    simp only [seval]
    have Ed := hE.kept (Below.refl wk.heap.size wk).drew
    obtain ⟨wd, hwde⟩ : ∃ wd, wd = wk.drew := ⟨_, rfl⟩
    rw [← hwde] at Ed ⊢
    clear hwde
    iterate 3 (refine script_take (v := ?_) rfl ?_ ?_ ?_; rotate_left; (first | rfl | (go_simp; done)); (rintro w' ⟨u1, u2⟩; have q12 := u1.c12; have q13 := u1.c13; have q14 := u1.c14; have q15 := u1.c15; have q16 := u1.c16; have q17 := u1.c17; have q18 := u1.c18; have q19 := u1.c19; go_simp; with_reducible rfl); simp only [Act.put, List.setIfInBounds_toArray, List.set_cons_zero, List.set_cons_succ])
    (refine script_call 43 ?_ rfl ?_ ?_ ?_; rotate_left; (first | rfl | (go_simp; done)); (go_simp; with_reducible rfl))
    refine (two_any _ m _ 61889 w.heap.size _ Ed.own Ed.low.size (by omega)).mono ?_
    rintro e w1 ⟨v1, rfl, own1, gr1, _⟩
    have E1 := Ed.step own1 gr1
    refine ⟨_, rfl, ⟨E1.fb, E1.low⟩, ?_⟩
    simp only [Act.put, List.setIfInBounds_toArray, List.set_cons_zero, List.set_cons_succ]
    (refine script_call 43 ?_ rfl ?_ ?_ ?_; rotate_left; (first | rfl | (go_simp; done)); (go_simp; with_reducible rfl))
    refine (two_any _ (m + 2) _ 0 w.heap.size _ E1.own E1.low.size (by omega)).mono ?_
    rintro e w2 ⟨v2, rfl, own2, gr2, _⟩
    have E2 := E1.step own2 gr2
    refine ⟨_, rfl, ⟨E2.fb, E2.low⟩, ?_⟩
    simp only [Act.put, List.setIfInBounds_toArray, List.set_cons_zero, List.set_cons_succ]
    (refine script_call 43 ?_ rfl ?_ ?_ ?_; rotate_left; (first | rfl | (go_simp; done)); (go_simp; with_reducible rfl))
    refine (two_any _ (m + 2 + 2) _ f.seq w.heap.size _ E2.own E2.low.size (by omega)).mono ?_
    rintro e w3 ⟨v3, rfl, own3, gr3, _⟩
    have E3 := E2.step own3 gr3
    refine ⟨_, rfl, ⟨E3.fb, E3.low⟩, ?_⟩
    simp only [Act.put, List.setIfInBounds_toArray, List.set_cons_zero, List.set_cons_succ]
    (refine script_take (v := ?_) rfl ?_ ?_ ?_; rotate_left; (first | rfl | (go_simp; done)); (rintro w' ⟨u1, u2⟩; have q12 := u1.c12; have q13 := u1.c13; have q14 := u1.c14; have q15 := u1.c15; have q16 := u1.c16; have q17 := u1.c17; have q18 := u1.c18; have q19 := u1.c19; go_simp; with_reducible rfl); simp only [Act.put, List.setIfInBounds_toArray, List.set_cons_zero, List.set_cons_succ])
    have HE3 := Lib.hid E3
    clear E3 own1 own2 own3 gr1 gr2 gr3 E2 E1 Ed
    refine script_nil ?_
    intro a H; replace hs := H.s hs; replace hd := H.d rfl; replace e1 := H.g 1 rfl rfl; replace e3 := H.k e3 rfl; replace e5 := H.g 5 rfl rfl; clear H; refine hKq1 _ _ ?_; clear hKq1 Kq1; have hh := HR.out.2.2.2
    rw [← HMN.out, if_pos rfl] at hh
    have E4 := HE3.out
    rw [show h0 ++ be2 61889 ++ be2 0 ++ be2 f.seq = headF f by rw [hh]; simp [List.append_assoc]] at E4
    exact enc_c f A n c g v3 _ w w3 HR.out.2.1 HR.out.2.2.1 hn HR.out.1 E4 R hRR a hs hd e1 e3 e5
set_option maxRecDepth 100000 in
set_option maxHeartbeats 4000000 in
theorem encode_any (f : Fm) (A : Option Addr) (n c : Nat) (M : Array Value) (hM : M = f.cells A n c) (hf : f.Wf) (hl : f.data.length = n) (hn : n ≤ 1000000) (w : World) (hr : Reads w w.heap.size 1 A n (us f.data)) : Calls Tryz.prog 28 #[.agg M] w fun e w' => Below w.heap.size w w' ∧ ((checkF f ≠ 0 ∧ e = .returned (.tuple #[.slice none 0 0, .int .i64 (checkF f)])) ∨ (checkF f = 0 ∧ ∃ v, e = .returned (.tuple #[v, .int .i64 0]) ∧ w'.ownsRow w.heap.size 5 1 v (encF f).length (us (encF f)))) := by
  have LL := (Below.refl w.heap.size w).alloc (Nat.le_refl _) (.cells M 52)
  have FB0 : FB (w.alloc (.cells M 52)) w.heap.size f A n c := ⟨by rw [← hM]; exact Blk.new w _ _, hf⟩
  have BM := Blk.new w 52 M
  have hM1 : (Tryz.prog.info? 52).map (·.size) = some M.size := by rw [hM, Fm.size hf]; kernel_rfl
  have HCK := Lib.hid (fun W => fcheck_any f A n c M hM hf hl hn W)
  have hM12 : ∀ j, j < 6 → M[j]? = (us f.dst)[j]? ∧ M[6 + j]? = (us f.src)[j]? := fun j hj => by
    rw [hM]; unfold Fm.cells; rw [List.getElem?_toArray, List.getElem?_toArray]
    have h1 : (us f.dst).length = 6 := by rw [us_length, hf.dst]
    have h2 : (us f.src).length = 6 := by rw [us_length, hf.src]
    refine ⟨?_, ?_⟩
    · rw [List.append_assoc, List.getElem?_append_left (by omega)]
    · rw [List.append_assoc, List.getElem?_append_right (by omega), h1, show 6 + j - 6 = j by omega, List.getElem?_append_left (by omega)]
  have HM := Lib.hid (And.intro hM (And.intro hM12 (And.intro hf (And.intro hl hr))))
  clear hM hf hl hM12 hr
  refine calls_sm (N := 61) Tryz.func28 rfl (by kernel_rfl) ?_
  intro a hs hd ha
  have e0 : a.tmps[0]? = some (.agg M) := ha 0 _ rfl
  clear ha
  conv => arg 2; whnf
  refine wp_seq_k fun Kq1 hKq1 => ?_
  refine sm_list [0] 1 3 hs hd (by kernel_rfl) (agC e0 agN) rfl ?_
  simp only [seval]
  go_wp2_with fail
  intro a H; replace hs := H.s hs; replace hd := H.d rfl; replace e0 := H.g 0 rfl rfl; have e1 := H.g 1 rfl rfl; have e2 := H.g 2 rfl rfl; have e3 := H.g 3 rfl rfl; clear H; refine hKq1 _ _ ?_; clear hKq1 Kq1; refine wp_seq_k fun Kq2 hKq2 => ?_; refine wp_seq_k fun Kq3 hKq3 => ?_
  generalize w.alloc (.cells M 52) = w1 at *
  obtain ⟨g, hg⟩ : ∃ g, g = w.heap.size := ⟨_, rfl⟩
  rw [← hg] at FB0 BM e1
  have HG := Lib.hid hg
  have HBM := Lib.hid (And.intro BM FB0)
  clear hg BM FB0
  obtain ⟨K, hK⟩ : ∃ K, K = checkF f := ⟨_, rfl⟩
  have hCK := HCK.out w1
  rw [← hK] at hCK
  have HCC := Lib.hid hCK
  have HKE := Lib.hid hK
  clear hCK hK
  refine sm_list [1, 4] 7 2 hs hd (by kernel_rfl) (agC e1 (agU agN)) rfl ?_
  simp only [seval]
  go_wp2_with (first | (refine wpList_load_any_d rfl 52 (.tmp 0) rfl ⟨g, 0, none⟩ rfl M _ (blk_cells HBM.out.1) Tryz.underlying52 rfl hM1 ?_) | fail)
  refine HCC.out.mono ?_
  rintro e w2 ⟨rfl, b2⟩
  have HB2 := Lib.hid b2
  clear b2
  go_wp2_with fail
  intro a H; replace hs := H.s hs; replace hd := H.d rfl; replace e1 := H.g 1 rfl rfl; replace e0 := H.k e0 rfl; replace e2 := H.k e2 rfl; replace e3 := H.k e3 rfl; have e4 := H.g 4 rfl rfl; clear H; refine hKq3 _ _ ?_; clear hKq3 Kq3; refine wp_seq_k fun Kq4 hKq4 => ?_
  have L2 : Below w.heap.size w w2 := LL.trans (HB2.out.mono LL.size)
  by_cases hk : K = 0
  · subst hk
    have hn16 : n ≤ 1600 ∧ ¬ BadF f := by
      have h := HKE.out
      unfold checkF at h
      split at h
      · cases h
      · rename_i h1
        split at h
        · cases h
        · split at h
          · cases h
          · split at h
            · cases h
            · rename_i h2
              refine ⟨?_, h1⟩
              unfold sizeF at h2
              have := HM.out.2.2.2.1
              split at h2 <;> split at h2 <;> omega
    have FB2 := HBM.out.2.kept HB2.out; have B2 := HBM.out.1.kept HB2.out; clear HB2 LL
    refine sm_list [4] 9 2 hs hd (by kernel_rfl) (agC e4 agN) rfl ?_
    simp only [seval]
    go_wp2_with fail
    intro a H; replace hs := H.s hs; replace hd := H.d rfl; replace e4 := H.g 4 rfl rfl; replace e0 := H.k e0 rfl; replace e1 := H.k e1 rfl; replace e2 := H.k e2 rfl; replace e3 := H.k e3 rfl; have e10 := H.g 10 rfl rfl; clear H; refine hKq4 _ _ ?_; clear hKq4 Kq4
    refine wp_cond_false (slotE e10) ?_
    clear e10; refine wp_skip ?_; refine hKq2 _ _ ?_; clear hKq2 Kq2; refine wp_seq_k fun Kq5 hKq5 => ?_
    have RD : ∀ W, Below w2.heap.size w2 W → Reads W W.heap.size 1 (some ⟨g, 0, none⟩) 6 (us f.dst) ∧ Reads W W.heap.size 1 (some ⟨g, 6, none⟩) 6 (us f.src) := fun W hW => by
        have B := B2.kept hW
        have h1 : (us f.dst).length = 6 := by rw [us_length, HM.out.2.2.1.dst]
        have h2 : (us f.src).length = 6 := by rw [us_length, HM.out.2.2.1.src]
        refine ⟨⟨by rw [h1], fun _ => ⟨_, rfl, B.lt, fun j u hu => ?_⟩⟩, ⟨by rw [h2], fun _ => ⟨_, rfl, B.lt, fun j u hu => ?_⟩⟩⟩
        · have hj := (List.getElem?_eq_some_iff.1 hu).1
          have e1 : (⟨g, 0, none⟩ : Addr).add j = ⟨g, j, none⟩ := by unfold Addr.add; split <;> simp_all
          rw [e1]; exact B.cellOf j ((HM.out.2.1 j (by omega)).1.trans hu)
        · have hj := (List.getElem?_eq_some_iff.1 hu).1
          have e1 : (⟨g, 6, none⟩ : Addr).add j = ⟨g, 6 + j, none⟩ := by unfold Addr.add; split <;> simp_all
          rw [e1]; exact B.cellOf (6 + j) ((HM.out.2.1 j (by omega)).2.trans hu)
    have HRD := Lib.hid RD
    have HFB := Lib.hid FB2
    have one1 := us_one f.dst
    have one2 := us_one f.src
    have hz2 := L2.size
    clear RD FB2 B2
    refine sm_any [1, 5] 12 6 (by kernel_rfl) hs hd (by kernel_rfl) (agC e1 (agU agN)) rfl (any_script [(0, true), (1, true), (3, true), (4, true), (2, false), (5, false), (6, true)] (fun w' => Below w2.heap.size w2 w') (by kernel_rfl) (fun _ _ _ _ _ h => h) ((Below.refl _ _).drew) ?_)
    simp only [seval]
    have hwd : Below w2.heap.size w2 w2.drew := (Below.refl _ _).drew
    obtain ⟨wd, hwde⟩ : ∃ wd, wd = w2.drew := ⟨_, rfl⟩
    rw [← hwde] at hwd ⊢
    clear hwde
    iterate 4 (refine script_take (v := ?_) rfl ?_ ?_ ?_; rotate_left; (first | rfl | (go_simp; done)); (intro w' _; go_simp; with_reducible rfl); simp only [Act.put, List.setIfInBounds_toArray, List.set_cons_zero, List.set_cons_succ])
    have own0 := ownsRow_nil wd wd.heap.size 5 1
    have hzd : w.heap.size ≤ wd.heap.size := Nat.le_trans hz2 hwd.size
    refine script_pushR rfl rfl (.const (.slice none 0 0)) (.tmp 3) 23 rfl styB rfl (HRD.out wd hwd).1 one1 rfl own0 (by omega) (Nat.le_refl _) ?_
    intro v3 w3 own3 gr3
    have b3 : Below w2.heap.size w2 w3 := hwd.trans ((below_of_grown gr3 own0 (Nat.le_refl _)).mono hwd.size)
    have hz3 := b3.size
    refine ⟨b3, ?_⟩
    simp only [Act.put, List.setIfInBounds_toArray, List.set_cons_zero, List.set_cons_succ]
    have own3b := ownsRow_base own3 hwd.size
    refine script_pushR rfl rfl (.tmp 4) (.tmp 6) 23 rfl styB rfl (HRD.out w3 b3).2 one2 rfl own3b (by omega) hz3 ?_
    intro v4 w4 own4 gr4
    have b4 : Below w2.heap.size w2 w4 := b3.trans (below_of_grown gr4 own3b hz3)
    refine ⟨b4, ?_⟩
    simp only [Act.put, List.setIfInBounds_toArray, List.set_cons_zero, List.set_cons_succ]
    (refine script_take (v := ?_) rfl ?_ ?_ ?_; rotate_left; (first | rfl | (go_simp; done)); (intro w' _; go_simp; with_reducible rfl); simp only [Act.put, List.setIfInBounds_toArray, List.set_cons_zero, List.set_cons_succ])
    have H4 := Lib.hid (And.intro own4 b4)
    clear own3 own3b own4 gr3 gr4 b3 b4 own0
    refine script_nil ?_
    intro a H; replace hs := H.s hs; replace hd := H.d rfl; replace e1 := H.g 1 rfl rfl; replace e0 := H.k e0 rfl; replace e2 := H.k e2 rfl; replace e3 := H.k e3 rfl; replace e4 := H.k e4 rfl; have e5 := H.g 5 rfl rfl; clear H; refine hKq5 _ _ ?_; clear hKq5 Kq5; refine wp_seq_k fun Kq6 hKq6 => ?_; refine wp_seq_k fun Kq7 hKq7 => ?_
    have E4 : EnS w w4 g f A n c v4 12 (f.dst ++ f.src) := ⟨L2.trans (H4.out.2.mono hz2), HFB.out.kept H4.out.2, ownsRow_base (by rw [us_append]; simpa using H4.out.1) hz2⟩
    clear H4 HRD one1 one2 hz2 HFB
    have y12 := E4.fb.c12
    obtain ⟨tg, htg⟩ : ∃ b, b = f.tagged := ⟨_, rfl⟩
    rw [← htg] at y12
    have HTG := Lib.hid htg
    clear htg
    refine sm_list [1] 18 2 hs hd (by kernel_rfl) (agC e1 agN) rfl ?_
    simp only [seval]
    go_wp2_with fail
    intro a H; replace hs := H.s hs; replace hd := H.d rfl; replace e1 := H.g 1 rfl rfl; replace e0 := H.k e0 rfl; replace e2 := H.k e2 rfl; replace e3 := H.k e3 rfl; replace e4 := H.k e4 rfl; replace e5 := H.k e5 rfl; have e19 := H.g 19 rfl rfl; clear H; refine hKq7 _ _ ?_; clear hKq7 Kq7; clear y12
    cases tg
    ·
      refine wp_cond_false (slotE e19) ?_
      clear e19; refine wp_skip ?_; refine hKq6 _ _ ?_; clear hKq6 Kq6
      exact enc_b f A n c g v4 12 (f.dst ++ f.src) w w4 HM.out.2.2.1 HM.out.2.2.2.1 hn16.1 HM.out.2.2.2.2 E4 (by unfold headF; rw [← HTG.out, if_neg (by decide), List.append_nil]) _ (fun w' v hb ho => ⟨hb, .inr ⟨HKE.out.symm, v, rfl, ho⟩⟩) a hs hd e1 e3 e5
    ·
      refine wp_cond_true (slotE e19) ?_
      clear e19; refine wp_seq_k fun Kq8 hKq8 => ?_
      have hnb := hn16.2
      have hrg : (0 ≤ f.prio ∧ f.prio ≤ 7) ∧ (0 ≤ f.vid ∧ f.vid ≤ 4094) := by unfold BadF at hnb; omega
      obtain ⟨p, hp⟩ : ∃ p : Nat, f.prio = (p : Int) := ⟨f.prio.toNat, by omega⟩
      obtain ⟨vv, hv⟩ : ∃ p : Nat, f.vid = (p : Int) := ⟨f.vid.toNat, by omega⟩
      have y13 := E4.fb.c13
      have y14 := E4.fb.c14
      have y15 := E4.fb.c15
      rw [hp] at y14
      rw [hv] at y13
      have hp7 : p ≤ 7 := by omega
      have hv4 : vv < 4096 := by omega
      obtain ⟨dr, hdr⟩ : ∃ b, b = f.drop := ⟨_, rfl⟩
      rw [← hdr] at y15
      have HPV := Lib.hid (And.intro hp (And.intro hv hdr))
      clear hnb hrg hp hv hdr
      refine sm_list [1, 6] 20 6 hs hd (by kernel_rfl) (agC e1 (agU agN)) rfl ?_
      simp only [seval]
      go_wp2_with fail
      intro a H; replace hs := H.s hs; replace hd := H.d rfl; replace e1 := H.g 1 rfl rfl; replace e0 := H.k e0 rfl; replace e2 := H.k e2 rfl; replace e3 := H.k e3 rfl; replace e4 := H.k e4 rfl; replace e5 := H.k e5 rfl; have e6 := H.g 6 rfl rfl; clear H; refine hKq8 _ _ ?_; clear hKq8 Kq8; refine wp_seq_k fun Kq9 hKq9 => ?_; refine wp_seq_k fun Kq10 hKq10 => ?_
      have ho : bits .or .i64 ((p : Int) * 8192) (vv : Int) = ((p * 8192 + vv : Nat) : Int) := by
        have h := or_i64 (a := vv) (b := p) (k := 13) (by omega) (by omega)
        rw [show ((p * 2 ^ 13 : Nat) : Int) = (p : Int) * 8192 by omega] at h
        rw [h]
      rw [ho] at e6
      clear ho y13 y14
      obtain ⟨q, hq⟩ : ∃ q, q = p * 8192 + vv := ⟨_, rfl⟩
      rw [← hq] at e6
      have HQ := Lib.hid hq
      clear hq
      refine sm_list [1] 26 2 hs hd (by kernel_rfl) (agC e1 agN) rfl ?_
      simp only [seval]
      go_wp2_with fail
      intro a H; replace hs := H.s hs; replace hd := H.d rfl; replace e1 := H.g 1 rfl rfl; replace e0 := H.k e0 rfl; replace e2 := H.k e2 rfl; replace e3 := H.k e3 rfl; replace e4 := H.k e4 rfl; replace e5 := H.k e5 rfl; replace e6 := H.k e6 rfl; have e27 := H.g 27 rfl rfl; clear H; refine hKq10 _ _ ?_; clear hKq10 Kq10; clear y15
      cases dr
      ·
        refine wp_cond_false (slotE e27) ?_
        clear e27; refine wp_skip ?_; refine hKq9 _ _ ?_; clear hKq9 Kq9
        have htv : (q : Int) = tagV f.prio f.vid f.drop := by unfold tagV; rw [HPV.out.1, HPV.out.2.1, ← HPV.out.2.2, if_neg (by decide), HQ.out]; omega
        rw [htv] at e6
        clear htv
        obtain ⟨tv, htv⟩ : ∃ z, z = tagV f.prio f.vid f.drop := ⟨_, rfl⟩
        rw [← htv] at e6
        have HTV := Lib.hid htv
        clear htv
        refine sm_list [5, 6] 30 4 hs hd (by kernel_rfl) (agC e5 (agC e6 agN)) rfl ?_
        simp only [seval]
        go_wp2_with fail
        refine (two_any _ 12 _ 33024 w.heap.size _ E4.own E4.low.size (by omega)).mono ?_
        rintro e w5 ⟨v5, rfl, own5, gr5, _⟩
        have E5 := E4.step own5 gr5
        go_wp2_with fail
        refine (two_any _ (12 + 2) _ tv w.heap.size _ E5.own E5.low.size (by omega)).mono ?_
        rintro e w6 ⟨v6, rfl, own6, gr6, _⟩
        have E6 := E5.step own6 gr6
        go_wp2_with fail
        intro a H; replace hs := H.s hs; replace hd := H.d rfl; replace e0 := H.k e0 rfl; replace e1 := H.k e1 rfl; replace e2 := H.k e2 rfl; replace e3 := H.k e3 rfl; replace e4 := H.k e4 rfl; clear e6; replace e5 := H.g 5 rfl rfl; clear H; refine hKq6 _ _ ?_; clear hKq6 Kq6
        refine enc_b f A n c g v6 (12 + 2 + 2) (f.dst ++ f.src ++ (be2 33024 ++ be2 (tagV f.prio f.vid f.drop))) w w6 HM.out.2.2.1 HM.out.2.2.2.1 hn16.1 HM.out.2.2.2.2 ?_ (by unfold headF; rw [← HTG.out, if_pos rfl]) _ (fun w' v hb ho => ⟨hb, .inr ⟨HKE.out.symm, v, rfl, ho⟩⟩) a hs hd e1 e3 e5
        rw [← HTV.out, ← List.append_assoc]; exact E6
      ·
        refine wp_cond_true (slotE e27) ?_
        clear e27
        refine sm_list [6] 28 2 hs hd (by kernel_rfl) (agC e6 agN) rfl ?_
        simp only [seval]
        go_wp2_with fail
        intro a H; replace hs := H.s hs; replace hd := H.d rfl; replace e0 := H.k e0 rfl; replace e1 := H.k e1 rfl; replace e2 := H.k e2 rfl; replace e3 := H.k e3 rfl; replace e4 := H.k e4 rfl; replace e5 := H.k e5 rfl; replace e6 := H.g 6 rfl rfl; clear H; refine hKq9 _ _ ?_; clear hKq9 Kq9
        have ho : bits .or .i64 (q : Int) 4096 = ((p * 8192 + 4096 + vv : Nat) : Int) := by rw [HQ.out]; exact or_tag hp7 hv4
        rw [ho] at e6
        clear ho
        have htv : ((p * 8192 + 4096 + vv : Nat) : Int) = tagV f.prio f.vid f.drop := by unfold tagV; rw [HPV.out.1, HPV.out.2.1, ← HPV.out.2.2, if_pos rfl]; omega
        rw [htv] at e6
        clear htv
        obtain ⟨tv, htv⟩ : ∃ z, z = tagV f.prio f.vid f.drop := ⟨_, rfl⟩
        rw [← htv] at e6
        have HTV := Lib.hid htv
        clear htv
        refine sm_list [5, 6] 30 4 hs hd (by kernel_rfl) (agC e5 (agC e6 agN)) rfl ?_
        simp only [seval]
        go_wp2_with fail
        refine (two_any _ 12 _ 33024 w.heap.size _ E4.own E4.low.size (by omega)).mono ?_
        rintro e w5 ⟨v5, rfl, own5, gr5, _⟩
        have E5 := E4.step own5 gr5
        go_wp2_with fail
        refine (two_any _ (12 + 2) _ tv w.heap.size _ E5.own E5.low.size (by omega)).mono ?_
        rintro e w6 ⟨v6, rfl, own6, gr6, _⟩
        have E6 := E5.step own6 gr6
        go_wp2_with fail
        intro a H; replace hs := H.s hs; replace hd := H.d rfl; replace e0 := H.k e0 rfl; replace e1 := H.k e1 rfl; replace e2 := H.k e2 rfl; replace e3 := H.k e3 rfl; replace e4 := H.k e4 rfl; clear e6; replace e5 := H.g 5 rfl rfl; clear H; refine hKq6 _ _ ?_; clear hKq6 Kq6
        refine enc_b f A n c g v6 (12 + 2 + 2) (f.dst ++ f.src ++ (be2 33024 ++ be2 (tagV f.prio f.vid f.drop))) w w6 HM.out.2.2.1 HM.out.2.2.2.1 hn16.1 HM.out.2.2.2.2 ?_ (by unfold headF; rw [← HTG.out, if_pos rfl]) _ (fun w' v hb ho => ⟨hb, .inr ⟨HKE.out.symm, v, rfl, ho⟩⟩) a hs hd e1 e3 e5
        rw [← HTV.out, ← List.append_assoc]; exact E6
  · have d0 : (K != 0) = true := bne_iff_ne.2 hk
    refine sm_list [4] 9 2 hs hd (by kernel_rfl) (agC e4 agN) rfl ?_
    simp only [seval]
    go_wp2_with fail
    intro a H; replace hs := H.s hs; replace hd := H.d rfl; replace e4 := H.g 4 rfl rfl; replace e0 := H.k e0 rfl; replace e1 := H.k e1 rfl; replace e2 := H.k e2 rfl; replace e3 := H.k e3 rfl; have e10 := H.g 10 rfl rfl; clear H; refine hKq4 _ _ ?_; clear hKq4 Kq4
    refine wp_cond_true (slotE e10) ?_
    clear e10; refine wp_seq_k fun Kq5 hKq5 => ?_
    refine sm_list [2, 3, 4] 11 1 hs hd (by kernel_rfl) (agC e2 (agC e3 (agC e4 agN))) rfl ?_
    simp only [seval]
    go_wp2_with fail
    intro a H; replace hs := H.s hs; replace hd := H.d rfl; replace e4 := H.g 4 rfl rfl; replace e0 := H.k e0 rfl; replace e1 := H.k e1 rfl; replace e2 := H.g 2 rfl rfl; replace e3 := H.g 3 rfl rfl; clear H; refine hKq5 _ _ ?_; clear hKq5 Kq5; refine wp_ret ?_; refine exit_then rfl ?_
    exact sm_ret2 rfl hd e2 e3 ⟨L2, .inl ⟨by rw [← HKE.out]; exact hk, by rw [HKE.out]⟩⟩
end Go.Proofs.YthhlfojaloaooaaGreat

namespace Go.Proofs.YthhlfojaloaooaaGreat
set_option linter.unusedSimpArgs false
set_option linter.unusedVariables false
open Go.RowKit Go.WideShapes Go.ChangeShapes
attribute [local go_sem ↓] Go.wp_at_zero Go.wp_at_succ

theorem add_lit (X : Addr) (r : Nat) (hr : r ≠ 0) : X.add r = ⟨X.block, X.off + r, none⟩ := by
  unfold Addr.add
  simp [hr]
set_option maxRecDepth 100000 in
set_option maxHeartbeats 4000000 in
theorem next_any (g6 : Nat) (Ar : Addr) (m cr : Nat) (b0 b1 : Int) (w : World) (B6 : Blk w g6 23 #[.slice (some Ar) (m + 2) cr]) (hc0 : w.cell? Ar = some (.int .u8 b0)) (hc1 : w.cell? (Ar.add 1) = some (.int .u8 b1)) (hA : Ar.block < w.heap.size) (h0 : 0 ≤ b0 ∧ b0 ≤ 255) (h1 : 0 ≤ b1 ∧ b1 ≤ 255) (hcr : m + 2 ≤ cr) (hc2 : 2 < cr) (hcm : cr ≤ maxLen) : Calls Tryz.prog 25 #[.pointer (some ⟨g6, 0, none⟩)] w fun e w' => e = .returned (.int .i64 (b0 * 256 + b1)) ∧ Blk w' g6 23 #[.slice (some (Ar.add 2)) m (cr - 2)] ∧ w.grownBy w' (some g6) := by
  obtain ⟨p0, rfl⟩ : ∃ p : Nat, b0 = (p : Int) := ⟨b0.toNat, by omega⟩
  obtain ⟨p1, rfl⟩ : ∃ p : Nat, b1 = (p : Int) := ⟨b1.toNat, by omega⟩
  have hm1 : (m : Int) + 2 ≤ 9223372036854775807 := by unfold maxLen at hcm; omega
  have hm2 : (cr : Int) ≤ 9223372036854775807 := by unfold maxLen at hcm; omega
  rw [add_lit Ar 1 (by decide)] at hc1
  refine calls_sm (N := 16) Tryz.func25 rfl (by kernel_rfl) ?_
  intro a hs hd ha
  have e0 : a.tmps[0]? = some (.pointer (some ⟨g6, 0, none⟩)) := ha 0 _ rfl
  clear ha
  conv => arg 2; whnf
  refine wp_seq_k fun Kq1 hKq1 => ?_
  refine sm_list [] 1 1 hs hd (by kernel_rfl) agN rfl ?_
  simp only [seval]
  go_wp2_with fail
  intro a H; replace hs := H.s hs; replace hd := H.d rfl; replace e0 := H.k e0 rfl; have e1 := H.g 1 rfl rfl; clear H; refine hKq1 _ _ ?_; clear hKq1 Kq1; refine wp_seq_k fun Kq2 hKq2 => ?_
  obtain ⟨n2, hn2⟩ : ∃ q, q = m + 2 := ⟨_, rfl⟩
  rw [← hn2] at B6
  have l6 := B6.lt
  have q6 := B6.cellOf (v := .slice (some Ar) n2 cr) 0 rfl
  have hall : Hid (∀ w', Below w.heap.size w w' → w'.cell? Ar = some (.int .u8 (p0 : Int)) ∧ w'.cell? ⟨Ar.block, Ar.off + 1, none⟩ = some (.int .u8 (p1 : Int))) := Lib.hid fun w' hw => ⟨(hw.cell (p := Ar) hA).trans hc0, (hw.cell (p := ⟨Ar.block, Ar.off + 1, none⟩) hA).trans hc1⟩
  have i0 : (0 : Int) < (n2 : Int) := by omega
  have i1 : (1 : Int) < (n2 : Int) := by omega
  have i1n : 1 < n2 := by omega
  have i0n : 0 < n2 := by omega
  have hpp0 : (p0 : Int) ≤ 255 := h0.2
  have hpp1 : (p1 : Int) ≤ 255 := h1.2
  have HN2 := Lib.hid hn2
  have hn2c : n2 ≤ cr ∧ 2 ≤ n2 := by omega
  have hn2I : (n2 : Int) ≤ 9223372036854775807 := by omega
  clear hc0 hc1 hn2 hm1
  refine sm_any [0] 2 11 (by kernel_rfl) hs hd (by kernel_rfl) (agC e0 agN) rfl (any_class (fun w' => Below w.heap.size w w') (by kernel_rfl) ((Below.refl _ _).drew) ?_)
  simp only [seval]
  iterate 11 (with_reducible (refine wpQuiet_val (v := ?_) ?_ ?_ ?_); rotate_left; (first | exact wanted_none rfl | exact wanted_on rfl rfl rfl); (intro w' hw'; have hq2 := hall.out w' hw'; obtain ⟨hqa, hqb⟩ := hq2; obtain ⟨hc, hf⟩ := bcell hw'; go_simp; with_reducible rfl); simp only [Act.put, List.setIfInBounds_toArray, List.set_cons_zero, List.set_cons_succ])
  refine wpQuiet_nil ?_
  intro w3 hw3
  intro a H; replace hs := H.s hs; replace hd := H.d rfl; replace e0 := H.g 0 rfl rfl; replace e1 := H.k e1 rfl; have e2 := H.g 2 rfl rfl; clear H; refine hKq2 _ _ ?_; clear hKq2 Kq2; refine wp_seq_k fun Kq3 hKq3 => ?_
  have ho : bits .or .i64 ((p0 : Int) * 256) (p1 : Int) = (p0 : Int) * 256 + (p1 : Int) := by
      have h := or_i64 (a := p1) (b := p0) (k := 8) (by omega) (by omega)
      rw [show ((p0 * 2 ^ 8 : Nat) : Int) = (p0 : Int) * 256 by omega] at h
      rw [h]; omega
  have u0 : IntKind.i64.wrap (p0 : Int) = (p0 : Int) := IntWalk.i64_in _ ⟨by omega, by omega⟩
  have u1 : IntKind.i64.wrap (p1 : Int) = (p1 : Int) := IntWalk.i64_in _ ⟨by omega, by omega⟩
  have u2 : IntKind.i64.wrap ((p0 : Int) * 256) = (p0 : Int) * 256 := IntWalk.i64_in _ ⟨by omega, by omega⟩
  rw [u0, u1, u2, ho] at e2
  clear ho u0 u1 u2 i0 i1 hall q6
  have B3 := B6.kept hw3
  have q6 := B3.cellOf (v := .slice (some Ar) n2 cr) 0 rfl
  have fz := B3.frozen
  have s1 : (2 : Int) ≤ (n2 : Int) := by omega
  have s2 : (n2 : Int) ≤ (cr : Int) := by omega
  have s3 : 2 ≤ n2 := by omega
  have s4 : n2 ≤ cr := by omega
  have s5 : ¬ (cr = 2) := by omega
  have s6 : 2 < cr := by omega
  refine sm_list [0] 13 2 hs hd (by kernel_rfl) (agC e0 agN) rfl ?_
  simp only [seval]
  go_wp2_with fail
  intro a H; replace hs := H.s hs; replace hd := H.d rfl; replace e0 := H.g 0 rfl rfl; replace e1 := H.k e1 rfl; replace e2 := H.k e2 rfl; clear H; refine hKq3 _ _ ?_; clear hKq3 Kq3; refine wp_seq_k fun Kq4 hKq4 => ?_
  refine sm_list [1, 2] 15 1 hs hd (by kernel_rfl) (agC e1 (agC e2 agN)) rfl ?_
  simp only [seval]
  go_wp2_with fail
  intro a H; replace hs := H.s hs; replace hd := H.d rfl; replace e2 := H.g 2 rfl rfl; replace e0 := H.k e0 rfl; replace e1 := H.g 1 rfl rfl; clear H; refine hKq4 _ _ ?_; clear hKq4 Kq4; refine wp_ret ?_
  have hB := B3.set_ 0 (.slice (some (Ar.add 2)) m (cr - 2))
  have hgr : w.grownBy (w3.setCell ⟨g6, 0, none⟩ (.slice (some (Ar.add 2)) m (cr - 2))) (some g6) := gr_set (gr_below hw3 _) _ _
  have e2n : n2 - 2 = m := by have := HN2.out; omega
  rw [← add_lit Ar 2 (by decide), e2n]
  exact sm_ret rfl hd e1 ⟨rfl, by simpa using hB, hgr⟩
end Go.Proofs.YthhlfojaloaooaaGreat
