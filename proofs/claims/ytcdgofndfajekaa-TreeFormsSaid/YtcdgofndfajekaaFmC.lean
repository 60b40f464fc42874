/-
  TreeForms: what was said ahead.
-/
import Derived.Test.YtcdgofndfajekaaFmQ
namespace Go.Proofs.Ytcdgofndfajekaa
set_option linter.unusedSimpArgs false
set_option linter.unusedVariables false
open Go.RowKit Go.WideShapes Go.ChangeShapes
attribute [local go_sem ↓] Go.wp_at_zero Go.wp_at_succ

set_option maxRecDepth 100000 in
set_option maxHeartbeats 4000000 in
theorem tf_lies (R : Nat → Pr) (A1 A2 : Option Addr) (n c0 nl c1 ns c2 g0 g8 g14 h8 c8 h14 c14 : Nat) (W : List Wire) (F : List Nat) (Bs : List Bks) (L0 : List Tre) (PS0 : List (List Value)) (w0 w1 : World) (a : Act)
    (hL : Lie w0 A2 ns) (SC : Sc w0 w1 g0 g8 g14 n h8 c8 h14 c14 (fun k => maskP (R k) k) W F Bs L0 PS0) (hI : Inv (fun k => maskP (R k) k) n W 0 L0) (hn : 1 ≤ n ∧ n ≤ 7) (hns : ns ≤ maxLen)
    (hs : a.tmps.size = 463) (hd : a.defers = []) (e0 : a.tmps[0]? = some (.slice (some ⟨g0, 0, none⟩) n c0)) (e1 : a.tmps[1]? = some (.slice A1 nl c1)) (e2 : a.tmps[2]? = some (.slice A2 ns c2)) (e6 : a.tmps[6]? = some (.bool false)) (e7 : a.tmps[7]? = some (.int .i64 (n : Int))) (e8 : a.tmps[8]? = some (.pointer (some ⟨g8, 0, none⟩))) (e14 : a.tmps[14]? = some (.pointer (some ⟨g14, 0, none⟩)))
    (hend : ∀ (a : Act) (w : World) (L : List Tre) (PS : List (List Value)), a.tmps.size = 463 → a.defers = [] → a.tmps[0]? = some (.slice (some ⟨g0, 0, none⟩) n c0) → a.tmps[1]? = some (.slice A1 nl c1) → a.tmps[2]? = some (.slice A2 ns c2) → a.tmps[6]? = some (.bool false) → a.tmps[7]? = some (.int .i64 (n : Int)) → a.tmps[8]? = some (.pointer (some ⟨g8, 0, none⟩)) → a.tmps[14]? = some (.pointer (some ⟨g14, 0, none⟩)) → Sc w0 w g0 g8 g14 n h8 c8 h14 c14 (fun k => maskP (R k) k) W F Bs L PS → Inv (fun k => maskP (R k) k) n W 0 L → Code.wp Try.prog (sub [true, true, true, true, true, true, true, true, true, true, true] (bodyOf Try.f4)) (bodyPost Try.prog Try.f4 fun e w' => e = .returned (.bool true) ∧ Below w0.heap.size w0 w') a w) :
    Code.wp Try.prog (sub [true, true, true, true, true, true, true, true, true, true] (bodyOf Try.f4)) (bodyPost Try.prog Try.f4 fun e w' => e = .returned (.bool true) ∧ Below w0.heap.size w0 w') a w1 := by
  have HEND := Lib.hid hend
  have HL := Lib.hid hL
  clear hend hL
  conv => arg 2; whnf
  refine wp_seq_k fun Kq1 hKq1 => ?_; refine wp_seq_k fun Kq2 hKq2 => ?_
  have hnI : (n : Int) ≤ 7 := by omega
  have hnz : (n : Int) ≠ 0 := by omega
  have hnzN : ¬ (n = 0) := by omega
  have hnsI : (ns : Int) ≤ 9223372036854775807 := by unfold maxLen at hns; omega
  refine sm_list [] 19 1 hs hd (by kernel_rfl) agN rfl ?_
  simp only [seval]
  go_wp2_with fail
  intro a H; replace hs := H.s hs; replace hd := H.d rfl; replace e0 := H.k e0 rfl; replace e1 := H.k e1 rfl; replace e2 := H.k e2 rfl; replace e6 := H.k e6 rfl; replace e7 := H.k e7 rfl; replace e8 := H.k e8 rfl; replace e14 := H.k e14 rfl; have e19 := H.g 19 rfl rfl; clear H; refine hKq2 _ _ ?_; clear hKq2 Kq2; refine wp_block ?_
  refine wp_loop (fun a w => ∃ (i : Nat) (L : List Tre) (PS : List (List Value)), i ≤ 10 ∧ a.tmps.size = 463 ∧ a.defers = [] ∧ a.tmps[0]? = some (.slice (some ⟨g0, 0, none⟩) n c0) ∧ a.tmps[1]? = some (.slice A1 nl c1) ∧ a.tmps[2]? = some (.slice A2 ns c2) ∧ a.tmps[6]? = some (.bool false) ∧ a.tmps[7]? = some (.int .i64 (n : Int)) ∧ a.tmps[8]? = some (.pointer (some ⟨g8, 0, none⟩)) ∧ a.tmps[14]? = some (.pointer (some ⟨g14, 0, none⟩)) ∧ a.tmps[19]? = some (.int .i64 (i : Int)) ∧ Sc w0 w g0 g8 g14 n h8 c8 h14 c14 (fun k => maskP (R k) k) W F Bs L PS ∧ Inv (fun k => maskP (R k) k) n W 0 L) (fun a _ => 10 - (intOf (a.tmps.getD 19 undef)).toNat) ?_ ?_
  · exact ⟨0, L0, PS0, by omega, hs, hd, e0, e1, e2, e6, e7, e8, e14, e19, SC, hI⟩
  clear hs hd e19 e0 e1 e2 e6 e7 e8 e14 a SC hI L0 PS0
  rintro a w4 ⟨i, L, PS, hi, hs, hd, e0, e1, e2, e6, e7, e8, e14, e19, SC, hI⟩
  have hm := slot e19
  refine wp_seq_k fun Kq3 hKq3 => ?_; refine wp_seq_k fun Kq4 hKq4 => ?_
  obtain ⟨B, hB⟩ : ∃ B, B = decide (i < ns ∧ i < 10) := ⟨_, rfl⟩
  have hcase : (decide ((i : Int) < (ns : Int)) = false ∧ decide (i < ns) = false ∧ B = false) ∨ (i < ns ∧ decide ((i : Int) < (ns : Int)) = true ∧ i = 10 ∧ B = false) ∨ (i < ns ∧ decide ((i : Int) < (ns : Int)) = true ∧ (i : Int) < 10 ∧ B = true) := by
      have e1 : decide ((i : Int) < (ns : Int)) = decide (i < ns) := decide_eq_decide.2 (by omega)
      rw [hB, e1]; by_cases a1 : i < ns <;> by_cases a2 : i < 10 <;> simp [a1, a2] <;> omega
  have HB := Lib.hid hB
  clear hB
  have HSC := Lib.hid SC
  have HI := Lib.hid hI
  clear SC hI
  suffices HK : ∀ (a' : Act), a'.tmps.size = a.tmps.size → a'.defers = [] → a'.tmps[0]? = a.tmps[0]? → a'.tmps[1]? = a.tmps[1]? → a'.tmps[2]? = a.tmps[2]? → a'.tmps[6]? = a.tmps[6]? → a'.tmps[7]? = a.tmps[7]? → a'.tmps[8]? = a.tmps[8]? → a'.tmps[14]? = a.tmps[14]? → a'.tmps[19]? = a.tmps[19]? → a'.tmps[190]? = some (.bool B) → Kq4 a' w4 by
    rcases hcase with ⟨k1, k2, rfl⟩ | ⟨k1, k2, rfl, rfl⟩ | ⟨k1, k2, k3, rfl⟩
    all_goals
      refine sm_list [2, 19] 183 8 hs hd (by kernel_rfl) (agC e2 (agC e19 agN)) rfl ?_
      simp only [seval]
      go_wp2_with fail
      all_goals
        intro a' H
        refine HK a' H.size H.defers (H.out 0 rfl) (H.out 1 rfl) ((H.got rfl rfl).trans e2.symm) (H.out 6 rfl) (H.out 7 rfl) (H.out 8 rfl) (H.out 14 rfl) ((H.got rfl rfl).trans e19.symm) ?_
        · exact H.got rfl rfl
  intro a' g_s g_d g0 g1 g2 g6 g7 g8 g14 g19 f190
  replace hs := g_s.trans hs; replace hd := g_d; replace e0 := g0.trans e0; replace e1 := g1.trans e1; replace e2 := g2.trans e2; replace e6 := g6.trans e6; replace e7 := g7.trans e7; replace e8 := g8.trans e8; replace e14 := g14.trans e14; replace e19 := g19.trans e19; clear g_s g_d g0 g1 g2 g6 g7 g8 g14 g19
  have e190 := f190
  clear f190
  first | clear a | skip
  obtain ⟨a, rfl⟩ : ∃ a, a = a' := ⟨_, rfl⟩
  refine hKq4 _ _ ?_; clear hKq4 Kq4; clear hcase
  by_cases hsk : i < ns ∧ i < 10
  · obtain rfl : B = true := HB.out.trans (decide_eq_true hsk)
    obtain ⟨hlt3, hi10⟩ := hsk
    have hi0 : (0 : Int) ≤ (i : Int) := by omega
    have hi1 : (i : Int) < (ns : Int) := by omega
    clear HB
    refine wp_cond_true (slotE e190) ?_
    clear e190; refine wp_skip ?_; refine hKq3 _ _ ?_; clear hKq3 Kq3; refine wp_seq_k fun Kq5 hKq5 => ?_; refine wp_block ?_; refine wp_seq_k fun Kq6 hKq6 => ?_
    obtain ⟨ad, s, rfl, hmsg, hcc⟩ := HL.out.at_ hlt3
    have HCC := Lib.hid hcc
    have HM := Lib.hid hmsg
    have hc17 := hcc w4 HSC.out.low 17 (.slice s.A s.n s.c) rfl
    rw [add_lit _ 17 (by decide)] at hc17
    have hc17b : w4.cell? ⟨(ad.add (i * 21)).block, (ad.add (i * 21)).off + 2 + 15, none⟩ = some (.slice s.A s.n s.c) := hc17
    clear hcc hmsg
    have hsn : (s.n : Int) ≤ 9223372036854775807 := by have := HM.out.most; unfold maxLen at this; omega
    refine sm_list [2, 19] 193 8 hs hd (by kernel_rfl) (agC e2 (agC e19 agN)) rfl ?_
    simp only [seval]
    go_wp2_with fail
    intro a H; replace hs := H.s hs; replace hd := H.d rfl; replace e2 := H.g 2 rfl rfl; replace e19 := H.g 19 rfl rfl; replace e0 := H.k e0 rfl; replace e1 := H.k e1 rfl; replace e6 := H.k e6 rfl; replace e7 := H.k e7 rfl; replace e8 := H.k e8 rfl; replace e14 := H.k e14 rfl; have e200 := H.g 200 rfl rfl; clear H; refine hKq6 _ _ ?_; clear hKq6 Kq6; clear hc17 hc17b
    by_cases h40 : 40 < s.n
    · have dq : decide ((s.n : Int) ≤ 40) = false := decide_eq_false (by omega)
      have dq2 : decide (s.n ≤ 40) = false := decide_eq_false (by omega)
      try rw [dq] at e200
      try rw [dq2] at e200
      refine wp_cond_false (slotE e200) ?_
      clear e200; refine wp_skip ?_; refine hKq5 _ _ ?_; clear hKq5 Kq5
      have hi11 : (i : Int) ≤ 10 := by omega
      refine sm_list [19] 191 2 hs hd (by kernel_rfl) (agC e19 agN) rfl ?_
      simp only [seval]
      go_wp2_with fail
      intro a H; replace hs := H.s hs; replace hd := H.d rfl; replace e0 := H.k e0 rfl; replace e1 := H.k e1 rfl; replace e2 := H.k e2 rfl; replace e6 := H.k e6 rfl; replace e7 := H.k e7 rfl; replace e8 := H.k e8 rfl; replace e14 := H.k e14 rfl; replace e19 := H.g 19 rfl rfl; clear H
      exact ⟨⟨i + 1, L, PS, by omega, hs, hd, e0, e1, e2, e6, e7, e8, e14, e19, HSC.out, HI.out⟩, by first | (simp only [hm, slot e19, intOf]; omega) | (simp [hm, slot e19, intOf]; omega)⟩
    have dq : decide ((s.n : Int) ≤ 40) = true := decide_eq_true (by omega)
    have dq2 : decide (s.n ≤ 40) = true := decide_eq_true (by omega)
    try rw [dq] at e200
    try rw [dq2] at e200
    clear dq dq2
    refine wp_cond_true (slotE e200) ?_
    clear e200
    obtain ⟨mq, hmq, hmq0, hmq1⟩ := and_mask s.nn 10 1023 rfl (by omega)
    obtain ⟨q, hq⟩ : ∃ i : Nat, mq.tmod (n : Int) = (i : Int) := ⟨(mq.tmod (n : Int)).toNat, (Int.toNat_of_nonneg (Int.tmod_nonneg _ hmq0)).symm⟩
    have hqn : q < n := by
      have h1 : mq.tmod (n : Int) < (n : Int) := Int.tmod_lt_of_pos _ (by omega)
      omega
    have q0 : (0 : Int) ≤ (q : Int) := by omega
    have q1 : (q : Int) < (n : Int) := by omega
    obtain ⟨t, ht⟩ : ∃ t, L[q]? = some t := ⟨_, List.getElem?_eq_getElem (by rw [HI.out.sys.len]; exact hqn)⟩
    obtain ⟨b, ps, hb, hps, T⟩ := HSC.out.nt.get ht
    have HQ := Lib.hid (And.intro hb (And.intro ht hps))
    have yq := HSC.out.st.pt hb; have y8 := HSC.out.st.box.cellOf (v := .slice (some ⟨h8, 0, none⟩) n c8) 0 rfl; have l8 := HSC.out.st.box.lt; have lp := HSC.out.st.lt8; clear hb ht hps T
    have hall : ∀ W, Below w4.heap.size w4 W → ∀ (r : Nat) (v : Value), (s20c s).toList[r]? = some v → W.cell? ((ad.add (i * 21)).add r) = some v := fun W hW => HCC.out W (HSC.out.low.trans (hW.mono HSC.out.low.size))
    have HALL := Lib.hid hall
    clear hall
    refine sm_any [2, 7, 8, 19] 201 22 (by kernel_rfl) hs hd (by kernel_rfl) (agC e2 (agC e7 (agC e8 (agC e19 agN)))) rfl (any_tail 21 (fun w' => Below w4.heap.size w4 w') (by kernel_rfl) ((Below.refl _ _).drew) ?_)
    simp only [seval]
    iterate 5 (first | (with_reducible (refine wpQuiet_skip ?_ ?_); (first | exact wanted_off rfl rfl rfl rfl | exact wanted_off2 rfl rfl rfl); simp only [Act.put, List.setIfInBounds_toArray, List.set_cons_zero, List.set_cons_succ]) | (with_reducible (refine wpQuiet_val (v := ?_) ?_ ?_ ?_); rotate_left; (first | exact wanted_none rfl | exact wanted_on rfl rfl rfl); (intro w' hw'; obtain ⟨hc, hf⟩ := bcell hw'; go_simp; with_reducible rfl); simp only [Act.put, List.setIfInBounds_toArray, List.set_cons_zero, List.set_cons_succ]))
    (with_reducible (refine wpQuiet_val (v := ?_) ?_ ?_ ?_); rotate_left; (first | exact wanted_none rfl | exact wanted_on rfl rfl rfl); (intro w' hw'; have hq2 := HALL.out w' hw' 20 (.int .i64 s.nn) rfl; rw [add_lit _ 20 (by decide)] at hq2; obtain ⟨hc, hf⟩ := bcell hw'; go_simp; with_reducible rfl); simp only [Act.put, List.setIfInBounds_toArray, List.set_cons_zero, List.set_cons_succ])
    iterate 9 (first | (with_reducible (refine wpQuiet_skip ?_ ?_); (first | exact wanted_off rfl rfl rfl rfl | exact wanted_off2 rfl rfl rfl); simp only [Act.put, List.setIfInBounds_toArray, List.set_cons_zero, List.set_cons_succ]) | (with_reducible (refine wpQuiet_val (v := ?_) ?_ ?_ ?_); rotate_left; (first | exact wanted_none rfl | exact wanted_on rfl rfl rfl); (intro w' hw'; obtain ⟨hc, hf⟩ := bcell hw'; go_simp; with_reducible rfl); simp only [Act.put, List.setIfInBounds_toArray, List.set_cons_zero, List.set_cons_succ]))
    (with_reducible (refine wpQuiet_val (v := ?_) ?_ ?_ ?_); rotate_left; (first | exact wanted_none rfl | exact wanted_on rfl rfl rfl); (intro w' hw'; have hq2 := HALL.out w' hw' 1 (.int .i64 s.at_) rfl; rw [add_lit _ 1 (by decide)] at hq2; obtain ⟨hc, hf⟩ := bcell hw'; go_simp; with_reducible rfl); simp only [Act.put, List.setIfInBounds_toArray, List.set_cons_zero, List.set_cons_succ])
    iterate 4 (first | (with_reducible (refine wpQuiet_skip ?_ ?_); (first | exact wanted_off rfl rfl rfl rfl | exact wanted_off2 rfl rfl rfl); simp only [Act.put, List.setIfInBounds_toArray, List.set_cons_zero, List.set_cons_succ]) | (with_reducible (refine wpQuiet_val (v := ?_) ?_ ?_ ?_); rotate_left; (first | exact wanted_none rfl | exact wanted_on rfl rfl rfl); (intro w' hw'; obtain ⟨hc, hf⟩ := bcell hw'; go_simp; with_reducible rfl); simp only [Act.put, List.setIfInBounds_toArray, List.set_cons_zero, List.set_cons_succ]))
    (refine wpQuiet_val (v := .agg (#[.int .i64 s.m.kind, .int .i64 s.m.domain, .int .i64 s.m.seq, .int .i64 s.m.src, .int .i64 s.m.port, .int .i64 s.m.corr, .int .i64 s.m.time, .int .i64 s.m.to, .int .i64 s.m.toPort, .int .i64 s.m.rate, .int .i64 s.m.one, .int .i64 s.m.cls, .int .i64 s.m.two, .int .i64 s.m.id, .int .i64 s.m.steps, .slice s.A s.n s.c])) ?_ (fun w' hw' => run_load_at 38 (.tmp 23) ⟨(ad.add (i * 21)).block, (ad.add (i * 21)).off + 2, none⟩ rfl rfl (#[.int .i64 s.m.kind, .int .i64 s.m.domain, .int .i64 s.m.seq, .int .i64 s.m.src, .int .i64 s.m.port, .int .i64 s.m.corr, .int .i64 s.m.time, .int .i64 s.m.to, .int .i64 s.m.toPort, .int .i64 s.m.rate, .int .i64 s.m.one, .int .i64 s.m.cls, .int .i64 s.m.two, .int .i64 s.m.id, .int .i64 s.m.steps, .slice s.A s.n s.c]) (fun j v hj => by rw [← add_lit (ad.add (i * 21)) 2 (by decide), add_of_add (ad.add (i * 21)) 2 j]; exact HALL.out w' hw' (2 + j) v (by first | exact hj | (rw [show (s20c s).toList = [.int .i64 s.k, .int .i64 s.at_] ++ (#[.int .i64 s.m.kind, .int .i64 s.m.domain, .int .i64 s.m.seq, .int .i64 s.m.src, .int .i64 s.m.port, .int .i64 s.m.corr, .int .i64 s.m.time, .int .i64 s.m.to, .int .i64 s.m.toPort, .int .i64 s.m.rate, .int .i64 s.m.one, .int .i64 s.m.cls, .int .i64 s.m.two, .int .i64 s.m.id, .int .i64 s.m.steps, .slice s.A s.n s.c] : Array Value).toList ++ [.int .i64 s.now, .bool s.on, .int .i64 s.nn] from rfl, List.append_assoc, List.getElem?_append_right (by simp), List.getElem?_append_left (by have := (List.getElem?_eq_some_iff.1 hj).1; simp at this ⊢; omega)]; simpa using hj))) Try.underlying38 rfl (by kernel_rfl)) ?_; (first | exact wanted_none rfl | exact wanted_on rfl rfl rfl); simp only [Act.put, List.setIfInBounds_toArray, List.set_cons_zero, List.set_cons_succ])
    refine wpQuiet_nil ?_
    intro wx hwx
    have Sx := HSC.out.kept hwx
    obtain ⟨hb, ht, hps⟩ := HQ.out
    have Tx := Sx.nt.tat _ _ _ _ hb ht hps
    have hMx := msg_at HM.out Sx.low
    have hPx := path_msg (S := b.all) HM.out Sx.low (fun g hg => Sx.fl g (Sx.nt.sub b (List.mem_of_getElem? hb) g hg))
    have HIn := Lib.hid (in_anyN b t ps s.at_ 0 s.m s.A s.n s.c wx Tx hMx hPx)
    have HSx := Lib.hid Sx
    clear Sx hb ht hps Tx hMx hPx hwx
    go_wp2_with fail
    refine HIn.out.mono ?_
    rintro e w6 ⟨rfl, ⟨ps2, T2, N2⟩, F2⟩
    obtain ⟨hb, ht, hps⟩ := HQ.out
    have N6 := HSx.out.nt.set hb ht hps T2 N2 F2; have S6 := HSx.out.trn (F2.more (mem_turns hb)) N6
    have HS6 := Lib.hid S6
    clear T2 N2 F2 N6 S6 HSx HIn hb ht hps
    go_wp2_with fail
    intro a H; replace hs := H.s hs; replace hd := H.d rfl; replace e2 := H.g 2 rfl rfl; replace e7 := H.g 7 rfl rfl; replace e8 := H.g 8 rfl rfl; replace e19 := H.g 19 rfl rfl; replace e0 := H.k e0 rfl; replace e1 := H.k e1 rfl; replace e6 := H.k e6 rfl; replace e14 := H.k e14 rfl; clear H; refine hKq5 _ _ ?_; clear hKq5 Kq5; have hI6 := HI.out.lie (mask_who (R := R) hn.2) HQ.out.2.1 s.at_ s.m
    have HI6 := Lib.hid hI6
    clear hI6
    have hi11 : (i : Int) ≤ 10 := by omega
    refine sm_list [19] 191 2 hs hd (by kernel_rfl) (agC e19 agN) rfl ?_
    simp only [seval]
    go_wp2_with fail
    intro a H; replace hs := H.s hs; replace hd := H.d rfl; replace e0 := H.k e0 rfl; replace e1 := H.k e1 rfl; replace e2 := H.k e2 rfl; replace e6 := H.k e6 rfl; replace e7 := H.k e7 rfl; replace e8 := H.k e8 rfl; replace e14 := H.k e14 rfl; replace e19 := H.g 19 rfl rfl; clear H
    exact ⟨⟨i + 1, _, _, by omega, hs, hd, e0, e1, e2, e6, e7, e8, e14, e19, HS6.out, HI6.out⟩, by first | (simp only [hm, slot e19, intOf]; omega) | (simp [hm, slot e19, intOf]; omega)⟩
  · obtain rfl : B = false := HB.out.trans (decide_eq_false hsk)
    refine wp_cond_false (slotE e190) ?_
    clear e190; refine wp_exit ?_; refine exit_then rfl ?_; clear hKq3 Kq3; refine exit_then rfl ?_; refine exit_hit ?_; refine hKq1 _ _ ?_; clear hKq1 Kq1
    exact HEND.out a w4 L PS hs hd e0 e1 e2 e6 e7 e8 e14 HSC.out HI.out
end Go.Proofs.Ytcdgofndfajekaa
