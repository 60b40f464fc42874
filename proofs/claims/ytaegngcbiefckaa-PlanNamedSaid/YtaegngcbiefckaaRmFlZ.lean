/-
  The reference reckons a flow.
-/
import Derived.Test.YtaegngcbiefckaaRmWsZ
import Derived.Test.YtaegngcbiefckaaRmC
namespace Go.Proofs.Ytaegngcbiefckaa
set_option linter.unusedSimpArgs false
set_option linter.unusedVariables false
open Go.RowKit Go.WideShapes Go.ChangeShapes
attribute [local go_sem ↓] Go.wp_at_zero Go.wp_at_succ

theorem mid_eq {l : List Int} {d : Int} {n : Nat} (h : l.length = n) (hn : 0 < n) : ((l ++ [d]).drop 1).take (n + 1 - 2) = l.drop 1 := by
  cases l with
  | nil => simp at h; omega
  | cons x l =>
    simp only [List.length_cons] at h
    simp only [List.cons_append, List.drop_succ_cons, List.drop_zero]
    rw [List.take_append_of_le_length (by omega)]
    exact List.take_of_length_le (by omega)
theorem flow_apart {C : Cf} {off : Int} {S : List Sp} {f : Fw} {xs ys : List (Int × Int)} (h : ¬ badFlow C f) (h2 : ¬ (16 < f.w0.length ∨ 16 < f.w1.length)) (w0 : wayV C f.src f.dst f.w0 = some xs) (w1 : wayV C f.src f.dst f.w1 = some ys)
    (hn : ¬ ((∀ z ∈ f.w0, z ∉ f.w1) ∧ ∀ z ∈ (xs.map Prod.fst).drop 1, z ∉ (ys.map Prod.fst).drop 1)) : flowGo C off S f = .error 60 := by
  refine flow_bad3 (ok0 := true) (ok1 := true) h h2 w0 w1 ?_
  cases hq : apartV f.w0 f.w1 xs ys
  · rfl
  · exact absurd ((apart_ref w0 w1).1 hq) hn
theorem flow_noway {C : Cf} {off : Int} {S : List Sp} {f : Fw} (h : ¬ badFlow C f) (h2 : ¬ (16 < f.w0.length ∨ 16 < f.w1.length)) (hw : wayV C f.src f.dst f.w0 = none ∨ wayV C f.src f.dst f.w1 = none) : flowGo C off S f = .error 60 := by
  rw [flowGo, if_neg h, if_neg h2]
  rcases hw with hw | hw
  · rw [hw]
  · rw [hw]
    cases wayV C f.src f.dst f.w0 <;> rfl
theorem own_some {w : World} {B n : Nat} {t : TypeId} {v : Value} {xs : List Value} (h : w.ownsRow B t 1 v n xs) (hn : 0 < n) : ∃ ad c, v = .slice (some ad) n c ∧ n ≤ c ∧ Reads w w.heap.size 1 (some ad) n xs := by
  obtain ⟨A, c, rfl, hc, hr⟩ := ownsRow_reads h
  obtain ⟨ad, rfl, _⟩ := hr.2 hn
  exact ⟨ad, c, rfl, hc, hr⟩
set_option maxRecDepth 100000 in
set_option maxHeartbeats 4000000 in
theorem rm_flow (C : Cf) (R : RL) (f : Fw) (off : Int) (i g1 g2 g5 : Nat) (S : List Sp) (W : List (Int × Int)) (vW vS : Value) (a : Act) (w : World) (Q : Exit → Act → World → Prop)
    (hs : a.tmps.size = 388) (hd : a.defers = []) (e1 : a.tmps[1]? = some (.pointer (some ⟨g1, 0, none⟩))) (e2 : a.tmps[2]? = some (.pointer (some ⟨g2, 0, none⟩))) (e5 : a.tmps[5]? = some (.pointer (some ⟨g5, 0, none⟩))) (e46 : a.tmps[46]? = some (.slice R.F.A C.flows.length R.F.c)) (e47 : a.tmps[47]? = some (.int .i64 (C.flows.length : Int))) (e48 : a.tmps[48]? = some (.int .i64 (i : Int)))
    (hC : RfAt w g1 C R) (BC : Blk w g1 42 (rfc C R)) (B2 : Blk w g2 47 #[.int .i64 0, .slice none 0 0, .slice none 0 0]) (hP : PBx w g5 off W S vW vS) (hord : g1 < g5 ∧ g2 < g5) (hfl : C.flows[i]? = some f)
    (hck : checkV C = 0) (hoff : 0 ≤ off ∧ off ≤ 1000000000000000) (hS : S.length ≤ 1000) (hWn : W.length ≤ 1000)
    (hend : ∀ (a : Act) (w' : World) (S' : List Sp) (vS' vW' : Value) (x : Int × Int), a.tmps.size = 388 → a.defers = [] → a.tmps[1]? = some (.pointer (some ⟨g1, 0, none⟩)) → a.tmps[2]? = some (.pointer (some ⟨g2, 0, none⟩)) → a.tmps[5]? = some (.pointer (some ⟨g5, 0, none⟩)) → a.tmps[46]? = some (.slice R.F.A C.flows.length R.F.c) → a.tmps[47]? = some (.int .i64 (C.flows.length : Int)) → a.tmps[48]? = some (.int .i64 (i : Int)) → Below g5 w w' → PBx w' g5 off (W ++ [x]) S' vW' vS' →
      S'.length ≤ S.length + 32 → flowGo C off S f = .ok (S', x) → Q .normal a w')
    (hret : ∀ (a : Act) (w' : World) (k : Int), a.tmps.size = 388 → a.defers = [] → a.tmps[2]? = some (.pointer (some ⟨g2, 0, none⟩)) → a.tmps[3]? = some (.int .i64 k) → Below (min g1 g2) w w' → Blk w' g2 47 #[.int .i64 0, .slice none 0 0, .slice none 0 0] → flowGo C off S f = .error k → Q .ret a w') :
    Code.wp Try.prog (sub [true, true, true, true, false, true, false, false, true, true, false] (bodyOf Try.f13)) Q a w := by
  conv => arg 2; whnf
  have HEND := Lib.hid (And.intro hend hret)
  have HW := Lib.hid (well hck)
  have HCK := Lib.hid hck
  have HOFF := Lib.hid hoff
  have HFL := Lib.hid hfl
  have HP := Lib.hid hP
  obtain ⟨ho1, ho2⟩ := hord
  have hin : i < C.flows.length := (List.getElem?_eq_some_iff.1 hfl).1
  have hfn : C.flows.length ≤ 16 := HW.out.flows
  obtain ⟨sl, hsl⟩ : ∃ s, R.ws[i]? = some s := ⟨_, List.getElem?_eq_getElem (by rw [hC.wslen]; exact hin)⟩
  have HSL := Lib.hid hsl
  have hg5 : g5 < w.heap.size := hP.B.lt
  obtain ⟨ad, hA, hadb, hcl⟩ := reads_at rfl6_len hC.flows hfl hin
  have HCL := Lib.hid hcl
  have HA := Lib.hid hA
  have HC := Lib.hid hC
  clear hend hret hck hoff hfl hP hsl hcl hA hC
  rw [HA.out] at e46
  refine wp_block ?_; refine wp_seq_k fun Kq1 hKq1 => ?_
  refine sm_list [6, 7, 46, 48] 50 3 hs hd (by kernel_rfl) (agU (agU (agC e46 (agC e48 agN)))) rfl ?_
  simp only [seval]
  go_wp2_with (first | (refine wpList_load_any_d rfl 96 (.tmp 5) rfl (ad.add (i * 6)) rfl (#[.int .i64 f.src, .int .i64 f.dst, .int .i64 f.start, .int .i64 f.len, .int .i64 f.size, .int .i64 f.late]) _ (fun j u hu => HCL.out j u hu) Try.underlying96 rfl (by kernel_rfl) ?_) | (refine wpList_store_new rfl 96 (.tmp 1) (.tmp 6) rfl rfl rfl rfl rfl (by kernel_rfl) (by rw [← Array.all_toList]; rfl) ?_) | fail)
  intro a H; replace hs := H.s hs; replace hd := H.d rfl; replace e46 := H.g 46 rfl rfl; replace e48 := H.g 48 rfl rfl; replace e1 := H.k e1 rfl; replace e2 := H.k e2 rfl; replace e5 := H.k e5 rfl; replace e47 := H.k e47 rfl; have e6 := H.g 6 rfl rfl; have e7 := H.g 7 rfl rfl; clear H; refine hKq1 _ _ ?_; clear hKq1 Kq1; refine wp_seq_k fun Kq2 hKq2 => ?_
  rw [← HA.out] at e46
  have B7 := Blk.new w 96 #[.int .i64 f.src, .int .i64 f.dst, .int .i64 f.start, .int .i64 f.len, .int .i64 f.size, .int .i64 f.late]
  have L4 : Below w.heap.size w (w.alloc (.cells #[.int .i64 f.src, .int .i64 f.dst, .int .i64 f.start, .int .i64 f.len, .int .i64 f.size, .int .i64 f.late] 96)) := (Below.refl _ _).alloc (Nat.le_refl _) _
  have BC4 := BC.kept L4
  obtain ⟨g7, hg7⟩ : ∃ g, g = w.heap.size := ⟨_, rfl⟩
  generalize (w.alloc (.cells #[.int .i64 f.src, .int .i64 f.dst, .int .i64 f.start, .int .i64 f.len, .int .i64 f.size, .int .i64 f.late] 96)) = w4 at *
  rw [← hg7] at B7 e7 L4 hg5
  have HG7 := Lib.hid hg7
  clear hg7 hadb HCL
  have hz4 : g7 < w4.heap.size := B7.lt
  have hn16 : (C.nodes.length : Int) ≤ 16 := HW.out.off.n2
  have hn2 : (2 : Int) ≤ (C.nodes.length : Int) := HW.out.off.n1
  have c0 := BC4.cellOf (v := .slice R.P.A C.nodes.length R.P.c) 0 rfl
  have c5 := BC4.cellOf (v := .int .i64 C.cycle) 5 rfl
  refine sm_list [1, 8] 53 4 hs hd (by kernel_rfl) (agC e1 (agU agN)) rfl ?_
  simp only [seval]
  go_wp2_with fail
  intro a H; replace hs := H.s hs; replace hd := H.d rfl; replace e1 := H.g 1 rfl rfl; replace e2 := H.k e2 rfl; replace e5 := H.k e5 rfl; replace e46 := H.k e46 rfl; replace e47 := H.k e47 rfl; replace e48 := H.k e48 rfl; replace e6 := H.k e6 rfl; replace e7 := H.k e7 rfl; have e8 := H.g 8 rfl rfl; clear H; refine hKq2 _ _ ?_; clear hKq2 Kq2; refine wp_seq_k fun Kq3 hKq3 => ?_; refine wp_seq_k fun Kq4 hKq4 => ?_
  have y0 := B7.cellOf (v := .int .i64 f.src) 0 rfl
  have y1 := B7.cellOf (v := .int .i64 f.dst) 1 rfl
  have y2 := B7.cellOf (v := .int .i64 f.start) 2 rfl
  have y3 := B7.cellOf (v := .int .i64 f.len) 3 rfl
  have y4 := B7.cellOf (v := .int .i64 f.size) 4 rfl
  have y5 := B7.cellOf (v := .int .i64 f.late) 5 rfl
  suffices HK : ∀ (a' : Act), a'.tmps.size = a.tmps.size → a'.defers = [] → a'.tmps[1]? = a.tmps[1]? → a'.tmps[2]? = a.tmps[2]? → a'.tmps[5]? = a.tmps[5]? → a'.tmps[46]? = a.tmps[46]? → a'.tmps[47]? = a.tmps[47]? → a'.tmps[48]? = a.tmps[48]? → a'.tmps[6]? = a.tmps[6]? → a'.tmps[7]? = a.tmps[7]? → a'.tmps[8]? = a.tmps[8]? → a'.tmps[104]? = some (.bool (decide (f.src < 0 ∨ (C.nodes.length : Int) ≤ f.src ∨ f.dst < 0 ∨ (C.nodes.length : Int) ≤ f.dst ∨ f.src = f.dst ∨ f.start < 0 ∨ C.cycle < f.start ∨ f.len < 0 ∨ C.cycle < f.len ∨ f.size < 64 ∨ 1600 < f.size ∨ f.late < 0))) → Kq4 a' w4 by
    refine sm_list [1, 7, 8] 57 48 hs hd (by kernel_rfl) (agC e1 (agC e7 (agC e8 agN))) rfl ?_
    simp only [seval]
    go_wp2_with fail
    iterate 5 (all_goals try (refine (between_any _ _ _ _).mono ?_; rintro e w9 ⟨rfl, hw9⟩; replace hw9 := hw9.symm; subst hw9; go_wp2_with fail))
    all_goals
      intro a' H
      refine HK a' H.size H.defers ((H.got rfl rfl).trans e1.symm) (H.out 2 rfl) (H.out 5 rfl) (H.out 46 rfl) (H.out 47 rfl) (H.out 48 rfl) (H.out 6 rfl) ((H.got rfl rfl).trans e7.symm) ((H.got rfl rfl).trans e8.symm) ?_
      · (refine (H.got (t := 104) rfl rfl).trans (congrArg some ?_); refine congrArg Value.bool ?_; first | exact (decide_eq_true (by omega)).symm | exact decide_eq_decide.2 (by omega) | (rw [Bool.eq_iff_iff]; simp only [Bool.or_eq_true, decide_eq_true_eq] <;> omega) | (rw [Bool.eq_iff_iff]; simp only [Bool.or_eq_true, Bool.and_eq_true, Bool.not_eq_true', Bool.not_eq_eq_eq_not, Bool.not_true, Bool.not_false, Bool.and_eq_false_iff, decide_eq_true_eq, decide_eq_false_iff_not] at *; omega) | (rw [Bool.eq_iff_iff]; simp only [Bool.or_eq_true, Bool.and_eq_true, Bool.not_eq_true', Bool.not_eq_eq_eq_not, Bool.not_true, Bool.not_false, Bool.and_eq_false_iff, decide_eq_true_eq, decide_eq_false_iff_not, beq_iff_eq] at *; omega))
  intro a' g_s g_d g1 g2 g5 g46 g47 g48 g6 g7 g8 f104
  replace hs := g_s.trans hs; replace hd := g_d; replace e1 := g1.trans e1; replace e2 := g2.trans e2; replace e5 := g5.trans e5; replace e46 := g46.trans e46; replace e47 := g47.trans e47; replace e48 := g48.trans e48; replace e6 := g6.trans e6; replace e7 := g7.trans e7; replace e8 := g8.trans e8; clear g_s g_d g1 g2 g5 g46 g47 g48 g6 g7 g8
  have e104 := f104
  clear f104; clear a
  obtain ⟨a, rfl⟩ : ∃ a, a = a' := ⟨_, rfl⟩
  refine hKq4 _ _ ?_; clear hKq4 Kq4; clear y0 y1 y2 y3 y4 y5 c0 c5; clear e8
  by_cases hb : badFlow C f
  · rw [decide_eq_true (show f.src < 0 ∨ (C.nodes.length : Int) ≤ f.src ∨ f.dst < 0 ∨ (C.nodes.length : Int) ≤ f.dst ∨ f.src = f.dst ∨ f.start < 0 ∨ C.cycle < f.start ∨ f.len < 0 ∨ C.cycle < f.len ∨ f.size < 64 ∨ 1600 < f.size ∨ f.late < 0 from hb)] at e104
    have HV := Lib.hid (flow_bad1 (off := off) (S := S) hb)
    have B2x := B2.below ((L4.mono (Nat.le_of_lt hg5))) ho2
    have hlw := (L4.mono (Nat.le_of_lt hg5))
    clear B2
    have B2 := B2x
    clear B2x
    refine wp_cond_true (slotE e104) ?_
    clear e104; refine wp_seq_k fun Kq5 hKq5 => ?_
    have HB2 := Lib.hid B2
    refine sm_list [2, 3] 105 1 hs hd (by kernel_rfl) (agC e2 (agU agN)) rfl ?_
    simp only [seval]
    go_wp2_with (first | (refine wpList_store_part rfl 47 (.tmp 0) (.tmp 2) rfl (off := 0) rfl HB2.out rfl (by simp) (by kernel_rfl) (by rw [← Array.all_toList]; rfl) ?_; intro wq Bq zq grq) | fail)
    intro a H; replace hs := H.s hs; replace hd := H.d rfl; replace e2 := H.g 2 rfl rfl; replace e1 := H.k e1 rfl; replace e5 := H.k e5 rfl; replace e46 := H.k e46 rfl; replace e47 := H.k e47 rfl; replace e48 := H.k e48 rfl; replace e6 := H.k e6 rfl; replace e7 := H.k e7 rfl; have e3 := H.g 3 rfl rfl; clear H; refine hKq5 _ _ ?_; clear hKq5 Kq5; refine wp_ret ?_; refine exit_then rfl ?_; refine ret_block ?_
    have Bq' : Blk wq g2 47 #[.int .i64 0, .slice none 0 0, .slice none 0 0] := by simpa [putAll] using Bq
    have hmn : min g1 g2 ≤ w4.heap.size := Nat.le_trans (Nat.min_le_right _ _) (Nat.le_of_lt HB2.out.lt)
    exact HEND.out.2 a wq _ hs hd e2 e3 ((hlw.mono (by omega)).grown grq hmn (fun k hk => by cases hk; exact Nat.min_le_right _ _)) Bq' HV.out
  · rw [decide_eq_false (show ¬ (f.src < 0 ∨ (C.nodes.length : Int) ≤ f.src ∨ f.dst < 0 ∨ (C.nodes.length : Int) ≤ f.dst ∨ f.src = f.dst ∨ f.start < 0 ∨ C.cycle < f.start ∨ f.len < 0 ∨ C.cycle < f.len ∨ f.size < 64 ∨ 1600 < f.size ∨ f.late < 0) from hb)] at e104
    have HNB := Lib.hid hb
    have hbb := hb
    clear hb
    unfold badFlow at hbb
    have hsrc : 0 ≤ f.src ∧ f.src < (C.nodes.length : Int) := by omega
    have hlate : 0 ≤ f.late := by omega
    have HF : Hid ((0 ≤ f.start ∧ f.start ≤ 1073741824) ∧ (0 ≤ f.len ∧ f.len ≤ 1073741824) ∧ (64 ≤ f.size ∧ f.size ≤ 1600)) := Lib.hid (by have := HW.out.c2; omega)
    clear hbb
    have HSRC := Lib.hid hsrc
    clear hsrc
    refine wp_cond_false (slotE e104) ?_
    clear e104; refine wp_skip ?_; refine hKq3 _ _ ?_; clear hKq3 Kq3; refine wp_seq_k fun Kq5 hKq5 => ?_
    refine sm_list [9] 106 1 hs hd (by kernel_rfl) (agU agN) rfl ?_
    simp only [seval]
    go_wp2_with (first | (refine wpList_store_new rfl 72 (.tmp 0) (.tmp 1) rfl rfl rfl rfl rfl (by kernel_rfl) (by rw [← Array.all_toList]; rfl) ?_) | fail)
    intro a H; replace hs := H.s hs; replace hd := H.d rfl; replace e1 := H.k e1 rfl; replace e2 := H.k e2 rfl; replace e5 := H.k e5 rfl; replace e46 := H.k e46 rfl; replace e47 := H.k e47 rfl; replace e48 := H.k e48 rfl; replace e6 := H.k e6 rfl; replace e7 := H.k e7 rfl; have e9 := H.g 9 rfl rfl; clear H; refine hKq5 _ _ ?_; clear hKq5 Kq5; refine wp_seq_k fun Kq6 hKq6 => ?_
    have B9 := Blk.new w4 72 #[.slice none 0 0, .slice none 0 0]
    have L5 : Below w4.heap.size w4 (w4.alloc (.cells #[.slice none 0 0, .slice none 0 0] 72)) := (Below.refl _ _).alloc (Nat.le_refl _) _
    obtain ⟨g9, hg9⟩ : ∃ g, g = w4.heap.size := ⟨_, rfl⟩
    generalize (w4.alloc (.cells #[.slice none 0 0, .slice none 0 0] 72)) = w5 at *
    rw [← hg9] at B9 e9 L5 hz4
    have HG9 := Lib.hid hg9
    clear hg9
    refine sm_list [10] 107 1 hs hd (by kernel_rfl) (agU agN) rfl ?_
    simp only [seval]
    go_wp2_with (first | (refine wpList_store_new rfl 99 (.tmp 0) (.tmp 1) rfl rfl rfl rfl rfl (by kernel_rfl) (by rw [← Array.all_toList]; rfl) ?_) | fail)
    intro a H; replace hs := H.s hs; replace hd := H.d rfl; replace e1 := H.k e1 rfl; replace e2 := H.k e2 rfl; replace e5 := H.k e5 rfl; replace e46 := H.k e46 rfl; replace e47 := H.k e47 rfl; replace e48 := H.k e48 rfl; replace e6 := H.k e6 rfl; replace e7 := H.k e7 rfl; replace e9 := H.k e9 rfl; have e10 := H.g 10 rfl rfl; clear H; refine hKq6 _ _ ?_; clear hKq6 Kq6; refine wp_seq_k fun Kq7 hKq7 => ?_
    have B10 := Blk.new w5 99 #[.slice none 0 0, .slice none 0 0]
    have L6 : Below w5.heap.size w5 (w5.alloc (.cells #[.slice none 0 0, .slice none 0 0] 99)) := (Below.refl _ _).alloc (Nat.le_refl _) _
    have B96 := B9.kept L6
    have hz5 : g9 < w5.heap.size := B9.lt
    obtain ⟨g10, hg10⟩ : ∃ g, g = w5.heap.size := ⟨_, rfl⟩
    generalize (w5.alloc (.cells #[.slice none 0 0, .slice none 0 0] 99)) = w6 at *
    rw [← hg10] at B10 e10 L6 hz5
    clear hg10 B9
    have L46 : Below g9 w4 w6 := L5.trans (L6.mono (Nat.le_of_lt hz5))
    have LW : Below g7 w w6 := L4.trans (L46.mono (Nat.le_of_lt hz4))
    have hg7g : g5 < g7 := hg5
    have hC6 := HC.out.below (LW.mono (by omega))
    have BC6 := BC.below LW (by omega)
    have B26 := B2.below LW (by omega)
    have B76 := B7.below L46 hz4
    clear L5 L6 L46 L4 BC4
    refine rm_lens C R f sl i g1 g2 _ _ _ _ _ _ _ a w6 _ hs hd e1 e2 e5 e6 e7 e9 e10 e46 e47 e48 hC6 BC6 B26 HFL.out HSL.out hfn ?_ ?_
    rotate_left
    · clear hs hd e1 e2 e5 e6 e7 e9 e10 e46 e47 e48 a
      intro a w9 hs hd e2 e3 B29 gr9 hlong
      refine exit_then rfl ?_; refine ret_block ?_
      have HV := Lib.hid (flow_bad2 (off := off) (S := S) HNB.out hlong)
      refine HEND.out.2 _ w9 60 hs hd e2 e3 ?_ B29 HV.out
      exact (LW.mono (by omega)).grown gr9 (by have := B26.lt; omega) (fun k hk => by cases hk; omega)
    clear hs hd e1 e2 e5 e6 e7 e9 e10 e46 e47 e48 a
    intro a hs hd e1 e2 e5 e6 e7 e9 e10 e46 e47 e48 hlong
    refine hKq7 _ _ ?_; clear hKq7 Kq7; refine wp_seq_k fun Kq8 hKq8 => ?_
    have HLG := Lib.hid hlong
    clear hlong
    refine rm_wys C R f sl i g1 g2 g7 g9 g10 _ _ _ _ a w6 _ hs hd e1 e2 e5 e6 e7 e9 e10 e46 e47 e48 hC6 BC6 B26 B76 B96 B10 ⟨by omega, by omega, hz4, hz5⟩ HFL.out HSL.out hfn HCK.out HSRC.out.1 HSRC.out.2 HLG.out ?_ ?_
    rotate_left
    · clear hs hd e1 e2 e5 e6 e7 e9 e10 e46 e47 e48 a
      intro a w9 hs hd e2 e3 B29 hb9 hno
      refine exit_then rfl ?_; refine ret_block ?_
      have HV := Lib.hid (flow_noway (off := off) (S := S) HNB.out HLG.out hno)
      refine HEND.out.2 _ w9 60 hs hd e2 e3 ?_ B29 HV.out
      exact (LW.mono (by omega)).trans hb9
    clear hs hd e1 e2 e5 e6 e7 e9 e10 e46 e47 e48 a
    intro a w7 O N xs hs hd e1 e2 e5 e6 e7 e9 e10 e46 e47 e48 hb7 B97 B107 HGT
    refine hKq8 _ _ ?_; clear hKq8 Kq8; refine wp_seq_k fun Kq9 hKq9 => ?_
    have LW7 : Below g7 w w7 := LW.trans (hb7.mono (Nat.le_of_lt hz4))
    have hC7 := HC.out.below (LW7.mono (by omega))
    have BC7 := BC.below LW7 (by omega)
    have B27 := B2.below LW7 (by omega)
    have B77 := B76.below hb7 hz4
    clear hC6 BC6 B26 B76 B96 B10 LW hb7; have g0 := HGT 0 (by omega); have g1x := HGT 1 (by omega)
    obtain ⟨xs0, hxs0⟩ : ∃ x, x = xs 0 := ⟨_, rfl⟩
    obtain ⟨xs1, hxs1⟩ : ∃ x, x = xs 1 := ⟨_, rfl⟩
    obtain ⟨O0, hO0⟩ : ∃ x, x = O 0 := ⟨_, rfl⟩
    obtain ⟨O1, hO1⟩ : ∃ x, x = O 1 := ⟨_, rfl⟩
    obtain ⟨N0, hN0⟩ : ∃ x, x = N 0 := ⟨_, rfl⟩
    obtain ⟨N1, hN1⟩ : ∃ x, x = N 1 := ⟨_, rfl⟩
    rw [← hxs0, ← hO0, ← hN0] at g0
    rw [← hxs1, ← hO1, ← hN1] at g1x
    rw [← hO0, ← hO1] at B107
    rw [← hN0, ← hN1] at B97
    clear hxs0 hxs1 hO0 hO1 hN0 hN1 HGT
    have way0 : wayV C f.src f.dst f.w0 = some xs0 := g0.way
    have way1 : wayV C f.src f.dst f.w1 = some xs1 := g1x.way
    obtain ⟨hl0, _, _⟩ := wayV_good HW.out way0
    obtain ⟨hl1, _, _⟩ := wayV_good HW.out way1
    have hk0 : f.w0 ≠ [] := by
      obtain ⟨s0, _, _, _, _, hk0, _, _⟩ := way_nodes way0
      exact hk0
    have hk1 : f.w1 ≠ [] := by
      obtain ⟨s0, _, _, _, _, hk0, _, _⟩ := way_nodes way1
      exact hk0
    have hk0l := List.length_pos_iff.2 hk0
    have hk1l := List.length_pos_iff.2 hk1
    clear hk0 hk1
    obtain ⟨ad0, c0, rfl, hc0, hr0⟩ := own_some g0.nn (by omega)
    obtain ⟨ad1, c1, rfl, hc1, hr1⟩ := own_some g1x.nn (by omega)
    obtain ⟨A0, k0, rfl, _, _⟩ := ownsRow_reads g0.oo
    obtain ⟨A1, k1, rfl, _, _⟩ := ownsRow_reads g1x.oo
    have hlg := HLG.out
    have hq0 : f.w0.length ≤ 16 := by omega
    have hq1 : f.w1.length ≤ 16 := by omega
    have HWAY := Lib.hid (And.intro way0 way1)
    have HOO : Hid (∀ q, q < 2 → w7.ownsRow (g5 + 1) 53 2 (.slice (two A0 A1 q) (two xs0 xs1 q).length (two k0 k1 q)) (two xs0 xs1 q).length ((two xs0 xs1 q).flatMap ecc)) := Lib.hid fun q hq => by
      rcases (by omega : q = 0 ∨ q = 1) with rfl | rfl
      · exact ownsRow_base g0.oo (by omega)
      · exact ownsRow_base g1x.oo (by omega)
    have HB97 := Lib.hid B97
    have HR0 := Lib.hid hr0
    have HR1 := Lib.hid hr1
    clear g0 g1x way0 way1 hlg hr0 hr1 B97
    refine rm_links C R f sl i g1 g2 _ _ _ _ _ _ _ a w7 _ hs hd e1 e2 e5 e6 e7 e9 e10 e46 e47 e48 hC7 BC7 B27 HFL.out HSL.out hq0 hq1 hfn ?_ ?_
    rotate_left
    · clear hs hd e1 e2 e5 e6 e7 e9 e10 e46 e47 e48 a
      intro a w9 hs hd e2 e3 B29 gr9 hno
      refine exit_then rfl ?_; refine ret_block ?_
      have HV := Lib.hid (flow_apart (off := off) (S := S) HNB.out HLG.out HWAY.out.1 HWAY.out.2 (fun h => hno h.1))
      refine HEND.out.2 _ w9 60 hs hd e2 e3 ?_ B29 HV.out
      exact (LW7.mono (by omega)).grown gr9 (by have := B27.lt; omega) (fun k hk => by cases hk; omega)
    clear hs hd e1 e2 e5 e6 e7 e9 e10 e46 e47 e48 a
    intro a hs hd e1 e2 e5 e6 e7 e9 e10 e46 e47 e48 hdis
    refine hKq9 _ _ ?_; clear hKq9 Kq9; refine wp_seq_k fun Kq10 hKq10 => ?_
    have HDIS := Lib.hid hdis
    clear hdis
    refine rm_nodes ((xs0.map Prod.fst).drop 1) ((xs1.map Prod.fst).drop 1) (xs0.map Prod.fst ++ [f.dst]) (xs1.map Prod.fst ++ [f.dst]) ad0 ad1 (xs0.length + 1) c0 (xs1.length + 1) c1 w7.heap.size g2 g9 _ _ _ _ _ _ _ _ a w7 _ hs hd e1 e2 e5 e6 e7 e9 e10 e46 e47 e48 HB97.out B27 HR0.out (mid_eq (by simp) (by omega)).symm (by simp) ⟨by omega, by omega, hc0⟩ HR1.out (mid_eq (by simp) (by omega)).symm (by simp) ⟨by omega, by omega, hc1⟩ ?_ ?_
    rotate_left
    · clear hs hd e1 e2 e5 e6 e7 e9 e10 e46 e47 e48 a
      intro a w9 hs hd e2 e3 B29 gr9 hno
      refine exit_then rfl ?_; refine ret_block ?_
      have HV := Lib.hid (flow_apart (off := off) (S := S) HNB.out HLG.out HWAY.out.1 HWAY.out.2 (fun h => hno h.2))
      refine HEND.out.2 _ w9 60 hs hd e2 e3 ?_ B29 HV.out
      exact (LW7.mono (by omega)).grown gr9 (by have := B27.lt; omega) (fun k hk => by cases hk; omega)
    clear hs hd e1 e2 e5 e6 e7 e9 e10 e46 e47 e48 a
    intro a hs hd e1 e2 e5 e6 e7 e9 e10 e46 e47 e48 hdis2
    refine hKq10 _ _ ?_; clear hKq10 Kq10; refine wp_seq_k fun Kq11 hKq11 => ?_
    have hap : apartV f.w0 f.w1 xs0 xs1 = true := (apart_ref HWAY.out.1 HWAY.out.2).2 ⟨HDIS.out, hdis2⟩
    have HFW := Lib.hid (flow_ways (off := off) (S := S) HNB.out HLG.out HWAY.out.1 HWAY.out.2 hap)
    clear hap hdis2 HDIS HR0 HR1 HB97
    refine sm_list [] 24 1 hs hd (by kernel_rfl) agN rfl ?_
    simp only [seval]
    go_wp2_with fail
    intro a H; replace hs := H.s hs; replace hd := H.d rfl; replace e1 := H.k e1 rfl; replace e2 := H.k e2 rfl; replace e5 := H.k e5 rfl; replace e6 := H.k e6 rfl; replace e7 := H.k e7 rfl; replace e9 := H.k e9 rfl; replace e10 := H.k e10 rfl; replace e46 := H.k e46 rfl; replace e47 := H.k e47 rfl; replace e48 := H.k e48 rfl; have e24 := H.g 24 rfl rfl; clear H; refine hKq11 _ _ ?_; clear hKq11 Kq11
    refine wp_seq_k fun Kq12 hKq12 => ?_
    refine sm_list [] 25 1 hs hd (by kernel_rfl) agN rfl ?_
    simp only [seval]
    go_wp2_with fail
    intro a H; replace hs := H.s hs; replace hd := H.d rfl; replace e1 := H.k e1 rfl; replace e2 := H.k e2 rfl; replace e5 := H.k e5 rfl; replace e6 := H.k e6 rfl; replace e7 := H.k e7 rfl; replace e9 := H.k e9 rfl; replace e10 := H.k e10 rfl; replace e46 := H.k e46 rfl; replace e47 := H.k e47 rfl; replace e48 := H.k e48 rfl; replace e24 := H.k e24 rfl; have e25 := H.g 25 rfl rfl; clear H; refine hKq12 _ _ ?_
    clear hKq12 Kq12; refine wp_seq_k fun Kq13 hKq13 => ?_
    have hP7 := HP.out.keep (LW7.mono (by have := HG7.out; omega))
    refine rm_ways C R f sl off i g1 g2 g5 g7 g10 (two A0 A1) (two k0 k1) xs0 xs1 S W vW vS _ _ _ _ a w7 _ hs hd e1 e2 e5 e6 e7 e9 e10 e24 e25 e46 e47 e48 hC7 BC7 B27 B77 B107 hP7 ⟨ho1, ho2, hg7g, by omega⟩ HOO.out HFL.out HSL.out hfn HWAY.out.1 HWAY.out.2 HLG.out HW.out HOFF.out HF.out hS ?_ ?_
    rotate_left
    · clear hs hd e1 e2 e5 e6 e7 e9 e10 e24 e25 e46 e47 e48 a
      intro a w9 hs hd e2 e3 hb9 B29 hV
      refine exit_then rfl ?_; refine ret_block ?_
      have HV := Lib.hid (flow_err HFW.out hV)
      refine HEND.out.2 _ w9 61 hs hd e2 e3 ?_ B29 HV.out
      exact (LW7.mono (by omega)).trans hb9
    clear hs hd e1 e2 e5 e6 e7 e9 e10 e24 e25 e46 e47 e48 a
    intro a w8 S8 vS8 low high hs hd e1 e2 e5 e6 e7 e9 e10 e46 e47 e48 e24 e25 hfr8 hP8 hsl8 hhi hV
    refine hKq13 _ _ ?_; clear hKq13 Kq13; refine wp_seq_k fun Kq14 hKq14 => ?_; refine wp_seq_k fun Kq15 hKq15 => ?_
    have HFV := Lib.hid (flow_fin HFW.out hV)
    clear hV HFW
    have B78 : Blk w8 g7 96 #[.int .i64 f.src, .int .i64 f.dst, .int .i64 f.start, .int .i64 f.len, .int .i64 f.size, .int .i64 f.late] := hfr8.blk B77 (by decide) (by omega)
    have L8 : Below g5 w w8 := (LW7.mono (by omega)).trans hfr8.low
    have y5 := B78.cellOf (v := .int .i64 f.late) 5 rfl
    have HS8 := Lib.hid hsl8
    clear hfr8 hP7 B77 B107 hC7 BC7 B27 hsl8
    by_cases hlt : f.late < high
    · have d1 : decide (f.late < high) = true := decide_eq_true hlt
      have d2 : decide (high > f.late) = true := decide_eq_true hlt
      refine sm_list [7, 25] 327 4 hs hd (by kernel_rfl) (agC e7 (agC e25 agN)) rfl ?_
      simp only [seval]
      go_wp2_with fail
      intro a H; replace hs := H.s hs; replace hd := H.d rfl; replace e7 := H.g 7 rfl rfl; replace e25 := H.g 25 rfl rfl; replace e1 := H.k e1 rfl; replace e2 := H.k e2 rfl; replace e5 := H.k e5 rfl; replace e6 := H.k e6 rfl; replace e9 := H.k e9 rfl; replace e10 := H.k e10 rfl; replace e46 := H.k e46 rfl; replace e47 := H.k e47 rfl; replace e48 := H.k e48 rfl; replace e24 := H.k e24 rfl; have e330 := H.g 330 rfl rfl
      clear H; refine hKq15 _ _ ?_; clear hKq15 Kq15; clear d1 d2
      have HV := Lib.hid (HFV.out.trans (if_pos hlt))
      have B2x := B2.below (L8) ho2
      have hlw := L8
      clear B2
      have B2 := B2x
      clear B2x
      refine wp_cond_true (slotE e330) ?_
      clear e330; refine wp_seq_k fun Kq16 hKq16 => ?_
      have HB2 := Lib.hid B2
      refine sm_list [2, 3] 331 1 hs hd (by kernel_rfl) (agC e2 (agU agN)) rfl ?_
      simp only [seval]
      go_wp2_with (first | (refine wpList_store_part rfl 47 (.tmp 0) (.tmp 2) rfl (off := 0) rfl HB2.out rfl (by simp) (by kernel_rfl) (by rw [← Array.all_toList]; rfl) ?_; intro wq Bq zq grq) | fail)
      intro a H; replace hs := H.s hs; replace hd := H.d rfl; replace e2 := H.g 2 rfl rfl; replace e1 := H.k e1 rfl; replace e5 := H.k e5 rfl; replace e6 := H.k e6 rfl; replace e7 := H.k e7 rfl; replace e9 := H.k e9 rfl; replace e10 := H.k e10 rfl; replace e46 := H.k e46 rfl; replace e47 := H.k e47 rfl; replace e48 := H.k e48 rfl; replace e24 := H.k e24 rfl; replace e25 := H.k e25 rfl; have e3 := H.g 3 rfl rfl
      clear H; refine hKq16 _ _ ?_; clear hKq16 Kq16; refine wp_ret ?_; refine exit_then rfl ?_; refine ret_block ?_
      have Bq' : Blk wq g2 47 #[.int .i64 0, .slice none 0 0, .slice none 0 0] := by simpa [putAll] using Bq
      have hmn : min g1 g2 ≤ w8.heap.size := Nat.le_trans (Nat.min_le_right _ _) (Nat.le_of_lt HB2.out.lt)
      exact HEND.out.2 a wq _ hs hd e2 e3 ((hlw.mono (by omega)).grown grq hmn (fun k hk => by cases hk; exact Nat.min_le_right _ _)) Bq' HV.out
    · have d1 : decide (f.late < high) = false := decide_eq_false hlt
      have d2 : decide (high > f.late) = false := decide_eq_false hlt
      refine sm_list [7, 25] 327 4 hs hd (by kernel_rfl) (agC e7 (agC e25 agN)) rfl ?_
      simp only [seval]
      go_wp2_with fail
      intro a H; replace hs := H.s hs; replace hd := H.d rfl; replace e7 := H.g 7 rfl rfl; replace e25 := H.g 25 rfl rfl; replace e1 := H.k e1 rfl; replace e2 := H.k e2 rfl; replace e5 := H.k e5 rfl; replace e6 := H.k e6 rfl; replace e9 := H.k e9 rfl; replace e10 := H.k e10 rfl; replace e46 := H.k e46 rfl; replace e47 := H.k e47 rfl; replace e48 := H.k e48 rfl; replace e24 := H.k e24 rfl; have e330 := H.g 330 rfl rfl
      clear H; refine hKq15 _ _ ?_; clear hKq15 Kq15
      refine wp_cond_false (slotE e330) ?_
      clear e330; refine wp_skip ?_; refine hKq14 _ _ ?_; clear hKq14 Kq14; clear d1 d2 y5
      have HV := Lib.hid (HFV.out.trans (if_neg (by omega)))
      clear hlt HFV
      have HP8 := Lib.hid hP8
      have p1 := hP8.B.cellOf (v := vW) 1 rfl
      have hzz : g5 < w8.heap.size := hP8.B.lt
      clear hP8 B78
      refine sm_list [5, 24, 25] 332 8 hs hd (by kernel_rfl) (agC e5 (agC e24 (agC e25 agN))) rfl ?_
      simp only [seval]
      go_wp2_with (first | (at_builtin; refine wpList_pushG 1 rfl (.tmp 4) (.tmp 8) 44 rfl rsO (wr := w8) (cs := #[.int .i64 low, .int .i64 high]) rfl (by intro u hu; simp at hu; rcases hu with rfl | rfl <;> rfl) (v := vW) rfl HP8.out.rW rfl rfl (by omega) HP8.out.B.lt ?_; intro v2 w9 own2 gr2 mv2; obtain ⟨Bx, PX, FX⟩ := HP8.out.pushW (low, high) own2 gr2 mv2; obtain ⟨Av, cv, rfl, _, _⟩ := ownsRow_reads own2; have fz := Bx.frozen; have xl := Bx.lt; have xc := Bx.cellOf (v := vW) 1 rfl; have PX := Lib.hid PX; have FX := Lib.hid FX; clear own2 gr2 mv2 Bx) | fail)
      intro a H; replace hs := H.s hs; replace hd := H.d rfl; replace e5 := H.g 5 rfl rfl; replace e24 := H.g 24 rfl rfl; replace e25 := H.g 25 rfl rfl; replace e1 := H.k e1 rfl; replace e2 := H.k e2 rfl; replace e6 := H.k e6 rfl; replace e7 := H.k e7 rfl; replace e9 := H.k e9 rfl; replace e10 := H.k e10 rfl; replace e46 := H.k e46 rfl; replace e47 := H.k e47 rfl; replace e48 := H.k e48 rfl; clear H
      exact HEND.out.1 a _ S8 vS8 _ (low, high) hs hd e1 e2 e5 e46 e47 e48 (L8.trans FX.out) PX.out HS8.out HV.out
end Go.Proofs.Ytaegngcbiefckaa
