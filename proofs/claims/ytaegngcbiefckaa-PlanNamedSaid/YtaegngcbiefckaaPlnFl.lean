/-
  A flow of a plan.
-/
import Derived.Test.YtaegngcbiefckaaPlnWys
namespace Go.Proofs.Ytaegngcbiefckaa
set_option linter.unusedSimpArgs false
set_option linter.unusedVariables false
open Go.RowKit Go.WideShapes Go.ChangeShapes
attribute [local go_sem ↓] Go.wp_at_zero Go.wp_at_succ

def two {α : Type} (x y : α) : Nat → α
  | 0 => x
  | _ => y
theorem sty_win : SliceTy Try.prog 29 52 2 16 := sliceTy_mk (z := .agg #[.int .i64 0, .int .i64 0]) Try.underlying29 (by kernel_rfl) rfl
theorem wayGo_good {C : Cf} (hW : Well C) (n : Nat) : ∀ (ks : List Int) (i : Nat) (at_ : Int) (seen : List Int) (out : List (Int × Int)) (r : Int × List (Int × Int)), wayGo C n i at_ seen out ks = some r →
    r.2.length = out.length + ks.length ∧ (∀ k ∈ ks, 0 ≤ k ∧ k < (C.links.length : Int)) ∧ ((∀ e ∈ out, okE e) → ∀ e ∈ r.2, okE e)
  | [], _, at_, _, out, r, h => by
    rw [wayGo] at h
    obtain rfl := Option.some.inj h
    exact ⟨rfl, fun k hk => (by cases hk), fun h => h⟩
  | k :: ks, i, at_, seen, out, r, h => by
    rw [wayGo] at h
    by_cases hk : k < 0 ∨ (C.links.length : Int) ≤ k
    · rw [if_pos hk] at h; cases h
    rw [if_neg hk] at h
    cases hl : C.links[k.toNat]? with
    | none => rw [hl] at h; cases h
    | some l =>
      rw [hl] at h
      simp only at h
      have hlw := hW.links l (List.mem_of_getElem? hl)
      have key : ∀ (nx : Int) (e : Int × Int), okE e → (if hopBad C n i seen nx then none else wayGo C n (i + 1) nx (seen ++ [nx]) (out ++ [e]) ks) = some r →
          r.2.length = out.length + (k :: ks).length ∧ (∀ q ∈ k :: ks, 0 ≤ q ∧ q < (C.links.length : Int)) ∧ ((∀ e ∈ out, okE e) → ∀ e ∈ r.2, okE e) := fun nx e he h => by
        by_cases hb : hopBad C n i seen nx = true
        · rw [if_pos hb] at h; cases h
        rw [if_neg hb] at h
        obtain ⟨h1, h2, h3⟩ := wayGo_good hW n ks _ _ _ _ r h
        refine ⟨by rw [h1]; simp; omega, fun q hq => ?_, fun ho => h3 fun e' he' => ?_⟩
        · rcases List.mem_cons.1 hq with rfl | hq
          · omega
          · exact h2 q hq
        · rcases List.mem_append.1 he' with h | h
          · exact ho e' h
          · simp at h; rw [h]; exact he
      by_cases h0 : l.n0 = at_
      · rw [if_pos h0] at h; exact key _ _ hlw.a.e h
      rw [if_neg h0] at h
      by_cases h1 : l.n1 = at_
      · rw [if_pos h1] at h; exact key _ _ hlw.b.e h
      rw [if_neg h1] at h; cases h
theorem wayV_good {C : Cf} (hW : Well C) {src dst : Int} {ks : List Int} {xs : List (Int × Int)} (h : wayV C src dst ks = some xs) : xs.length = ks.length ∧ (∀ k ∈ ks, 0 ≤ k ∧ k < (C.links.length : Int)) ∧ ∀ e ∈ xs, okE e := by
  unfold wayV at h
  cases hg : wayGo C ks.length 0 src [src] [] ks with
  | none => rw [hg] at h; cases h
  | some r =>
    obtain ⟨at_, out⟩ := r
    rw [hg] at h
    simp only at h
    by_cases hc : 0 < out.length ∧ at_ = dst
    · rw [if_pos hc] at h
      obtain rfl := Option.some.inj h
      obtain ⟨h1, h2, h3⟩ := wayGo_good hW _ ks _ _ _ _ _ hg
      exact ⟨by simpa using h1, h2, h3 fun e he => (by cases he)⟩
    · rw [if_neg hc] at h; cases h
section
variable {C : Cf} {off : Int} {S : List Sp} {f : Fw} {xs ys : List (Int × Int)}
theorem flow_bad1 (h : badFlow C f) : flowGo C off S f = .error 1 := by rw [flowGo, if_pos h]
theorem flow_bad2 (h : ¬ badFlow C f) (h2 : 16 < f.w0.length ∨ 16 < f.w1.length) : flowGo C off S f = .error 60 := by rw [flowGo, if_neg h, if_pos h2]
theorem flow_bad3 (h : ¬ badFlow C f) (h2 : ¬ (16 < f.w0.length ∨ 16 < f.w1.length)) {ok0 ok1 : Bool} (w0 : wayV C f.src f.dst f.w0 = if ok0 then some xs else none) (w1 : wayV C f.src f.dst f.w1 = if ok1 then some ys else none)
    (h3 : (ok0 && (ok1 && apartV f.w0 f.w1 xs ys)) = false) : flowGo C off S f = .error 60 := by
  rw [flowGo, if_neg h, if_neg h2, w0, w1]
  cases ok0 <;> cases ok1 <;> simp at h3 ⊢
  intro hh
  rw [h3] at hh
  cases hh
theorem flow_ways (h : ¬ badFlow C f) (h2 : ¬ (16 < f.w0.length ∨ 16 < f.w1.length)) (w0 : wayV C f.src f.dst f.w0 = some xs) (w1 : wayV C f.src f.dst f.w1 = some ys) (h3 : apartV f.w0 f.w1 xs ys = true) :
    flowGo C off S f = match waysL C off f [(xs.length, xs, f.w0), (ys.length, ys, f.w1)] S 4611686018427387904 0 with | .error e => .error e | .ok (S2, (lo, hi)) => if f.late < hi then .error 62 else .ok (S2, (lo, hi)) := by
  rw [flowGo, if_neg h, if_neg h2, w0, w1]
  simp only [h3, if_true, waysL]
  cases hopsGo C off f xs.length 0 S xs f.w0 0 0 with
  | error e => rfl
  | ok r =>
    obtain ⟨S1, lo0, hi0⟩ := r
    simp only
    cases hopsGo C off f ys.length 0 S1 ys f.w1 0 0 with
    | error e => rfl
    | ok r => obtain ⟨S2, lo1, hi1⟩ := r; rfl
theorem flow_err {e : Int} (hg : flowGo C off S f = match waysL C off f [(xs.length, xs, f.w0), (ys.length, ys, f.w1)] S 4611686018427387904 0 with | .error e => .error e | .ok (S2, (lo, hi)) => if f.late < hi then .error 62 else .ok (S2, (lo, hi)))
    (hw : waysL C off f [(xs.length, xs, f.w0), (ys.length, ys, f.w1)] S 4611686018427387904 0 = .error e) : flowGo C off S f = .error e := by rw [hg, hw]
theorem flow_fin {S2 : List Sp} {lo hi : Int} (hg : flowGo C off S f = match waysL C off f [(xs.length, xs, f.w0), (ys.length, ys, f.w1)] S 4611686018427387904 0 with | .error e => .error e | .ok (S2, (lo, hi)) => if f.late < hi then .error 62 else .ok (S2, (lo, hi)))
    (hw : waysL C off f [(xs.length, xs, f.w0), (ys.length, ys, f.w1)] S 4611686018427387904 0 = .ok (S2, (lo, hi))) : flowGo C off S f = if f.late < hi then .error 62 else .ok (S2, (lo, hi)) := by rw [hg, hw]
end
set_option maxRecDepth 100000 in
set_option maxHeartbeats 4000000 in
theorem mk_flow (C : Cf) (Y : Lay) (f : Fw) (sl : Sl × Sl) (off : Int) (j L g1 g2 g6 gG gm B0 m : Nat) (S : List Sp) (W : List (Int × Int)) (wv : Value) (fm : Int × Int → Option Value) (v43 : Value) (a : Act) (w : World) (Q : Exit → Act → World → Prop)
    (hs : a.tmps.size = 317) (hd : a.defers = []) (e1 : a.tmps[1]? = some (.pointer (some ⟨g1, 0, none⟩))) (e2 : a.tmps[2]? = some (.pointer (some ⟨g2, 0, none⟩))) (e5 : a.tmps[5]? = some (.int .i64 off)) (e6 : a.tmps[6]? = some (.pointer (some ⟨g6, 0, none⟩))) (e7 : a.tmps[7]? = some (.map (some gm))) (e42 : a.tmps[42]? = some (.slice Y.F.A C.flows.length Y.F.c)) (e43 : a.tmps[43]? = some (v43)) (e44 : a.tmps[44]? = some (.int .i64 (j : Int)))
    (hC : CfAt w L C Y) (BC : Blk w g1 26 (cfc C Y)) (B2 : Blk w g2 32 #[.int .i64 0, .slice none 0 0, .map none]) (B6 : Blk w g6 32 #[.int .i64 off, wv, .map (some gG)]) (hord : L ≤ g1 ∧ L ≤ g2 ∧ g1 < g6 ∧ g2 < g6 ∧ g6 < gm)
    (SM : SpM w B0 gm m fm S) (hwn : w.ownsRow B0 52 2 wv W.length (W.flatMap spc)) (hf : C.flows[j]? = some f) (hsl : Y.ws[j]? = some sl)
    (hW : Well C) (hoff : 0 ≤ off ∧ off ≤ 1000000000000000) (hS : S.length ≤ 1000) (hWl : W.length ≤ 100)
    (hend : ∀ (a : Act) (w' : World) (m' : Nat) (fm' : Int × Int → Option Value) (S' : List Sp) (x : Int × Int) (wv' : Value), a.tmps.size = 317 → a.defers = [] → a.tmps[1]? = some (.pointer (some ⟨g1, 0, none⟩)) → a.tmps[2]? = some (.pointer (some ⟨g2, 0, none⟩)) → a.tmps[5]? = some (.int .i64 off) → a.tmps[6]? = some (.pointer (some ⟨g6, 0, none⟩)) → a.tmps[7]? = some (.map (some gm)) → a.tmps[42]? = some (.slice Y.F.A C.flows.length Y.F.c) → a.tmps[43]? = some (v43) → a.tmps[44]? = some (.int .i64 (j : Int)) → Below g6 w w' → SpM w' B0 gm m' fm' S' → Blk w' g6 32 #[.int .i64 off, wv', .map (some gG)] →
      w'.ownsRow B0 52 2 wv' (W.length + 1) ((W ++ [x]).flatMap spc) → S'.length ≤ S.length + 32 → flowGo C off S f = .ok (S', x) → Q .normal a w')
    (hret : ∀ (a : Act) (w' : World) (k : Int), a.tmps.size = 317 → a.defers = [] → a.tmps[2]? = some (.pointer (some ⟨g2, 0, none⟩)) → a.tmps[3]? = some (.int .i64 k) → Below L w w' → Blk w' g2 32 #[.int .i64 0, .slice none 0 0, .map none] → flowGo C off S f = .error k → Q .ret a w') :
    Code.wp Try.prog (sub [true, true, true, true, true, false, true, false, false, true, true, false] (bodyOf Try.f11)) Q a w := by
  conv => arg 2; whnf
  have HEND := Lib.hid (And.intro hend hret)
  have HW := Lib.hid hW
  have HOFF := Lib.hid hoff
  have hjn := (List.getElem?_eq_some_iff.1 hf).1
  have hz : (C.flows.zip Y.ws)[j]? = some (f, sl) := by rw [List.getElem?_zip_eq_some]; exact ⟨hf, hsl⟩
  obtain ⟨hk0, hk1⟩ := hC.ways j f sl hf hsl
  have HSL := Lib.hid hsl
  have HJF := Lib.hid hf
  clear hend hret hW hoff hsl hf
  obtain ⟨ho1, ho2, ho3, ho4, ho5⟩ := hord
  have hgm := Nat.lt_of_lt_of_le SM.lt SM.hz
  have hLz : L ≤ w.heap.size := by omega
  obtain ⟨ad, hA, hadb, hcl⟩ := reads_at (f := fun x : Fw × (Sl × Sl) => fwc x.1 x.2) fwc_len hC.flows hz hjn
  have HA := Lib.hid hA
  have HCL := Lib.hid hcl
  clear hA hcl hz
  rw [HA.out] at e42
  refine wp_block ?_; refine wp_seq_k fun Kq1 hKq1 => ?_
  have L1 : Below w.heap.size w (w.alloc (.cells (fwc f sl).toArray 74)) := (Below.refl _ _).alloc (Nat.le_refl _) _
  have B9 := Blk.new w 74 (fwc f sl).toArray
  have SM4 := SM.keep L1
  have hg9 : w.heap.size < (w.alloc (.cells (fwc f sl).toArray 74)).heap.size := by simp
  refine sm_list [9, 42, 44] 46 2 hs hd (by kernel_rfl) (agU (agC e42 (agC e44 agN))) rfl ?_
  simp only [seval]
  go_wp2_with (first | (refine wpList_load_any_d rfl 74 (.tmp 3) rfl (ad.add (j * 8)) rfl ((fwc f sl).toArray) _ (fun i u hu => HCL.out i u (by simpa using hu)) Try.underlying74 rfl (by kernel_rfl) ?_) | (refine wpList_store_new rfl 74 (.tmp 0) (.tmp 4) rfl rfl rfl rfl rfl (by kernel_rfl) (by rw [← Array.all_toList]; rfl) ?_) | fail)
  intro a H; replace hs := H.s hs; replace hd := H.d rfl; replace e42 := H.g 42 rfl rfl; replace e44 := H.g 44 rfl rfl; replace e1 := H.k e1 rfl; replace e2 := H.k e2 rfl; replace e5 := H.k e5 rfl; replace e6 := H.k e6 rfl; replace e7 := H.k e7 rfl; replace e43 := H.k e43 rfl; have e9 := H.g 9 rfl rfl; clear H; refine hKq1 _ _ ?_; clear hKq1 Kq1; refine wp_seq_k fun Kq2 hKq2 => ?_; refine wp_seq_k fun Kq3 hKq3 => ?_
  rw [← HA.out] at e42
  obtain ⟨g9, hg9e⟩ : ∃ g, g = w.heap.size := ⟨_, rfl⟩
  rw [← hg9e] at B9 e9 hg9
  have hgm9 : gm < g9 := by omega
  have hL9 : L ≤ g9 := by omega
  clear hg9e
  generalize (w.alloc (.cells (fwc f sl).toArray 74)) = w4 at *
  have BC4 := BC.kept L1
  have BF := B9
  have c0 := BC4.cellOf (v := .slice Y.N.A C.nodes.length Y.N.c) 0 rfl
  have c3 := BC4.cellOf (v := .int .i64 C.cycle) 3 rfl
  have y0 := BF.cellOf (v := .int .i64 f.src) 0 rfl
  have y1 := BF.cellOf (v := .int .i64 f.dst) 1 rfl
  have y4 := BF.cellOf (v := .int .i64 f.start) 4 rfl
  have y5 := BF.cellOf (v := .int .i64 f.len) 5 rfl
  have y6 := BF.cellOf (v := .int .i64 f.size) 6 rfl
  have y7 := BF.cellOf (v := .int .i64 f.late) 7 rfl
  obtain ⟨R, hR⟩ : ∃ R : Bool, R = decide (badFlow C f) := ⟨_, rfl⟩
  have HR := Lib.hid hR
  clear hR
  suffices HK : ∀ (a' : Act), a'.tmps.size = a.tmps.size → a'.defers = [] → a'.tmps[1]? = a.tmps[1]? → a'.tmps[2]? = a.tmps[2]? → a'.tmps[5]? = a.tmps[5]? → a'.tmps[6]? = a.tmps[6]? → a'.tmps[7]? = a.tmps[7]? → a'.tmps[42]? = a.tmps[42]? → a'.tmps[43]? = a.tmps[43]? → a'.tmps[44]? = a.tmps[44]? → a'.tmps[9]? = a.tmps[9]? → a'.tmps[117]? = some (.bool R) → Kq3 a' w4 by
    refine sm_list [1, 9] 48 70 hs hd (by kernel_rfl) (agC e1 (agC e9 agN)) rfl ?_
    simp only [seval]
    go_wp2_with fail
    all_goals
      intro a' H
      refine HK a' H.size H.defers ((H.got rfl rfl).trans e1.symm) (H.out 2 rfl) (H.out 5 rfl) (H.out 6 rfl) (H.out 7 rfl) (H.out 42 rfl) (H.out 43 rfl) (H.out 44 rfl) ((H.got rfl rfl).trans e9.symm) ?_
      · (refine (H.got (t := 117) rfl rfl).trans (congrArg some ?_); rw [HR.out]; refine congrArg Value.bool ?_; first | exact (decide_eq_true (by unfold badFlow; omega)).symm | exact (decide_eq_false (by unfold badFlow; omega)).symm | exact decide_eq_decide.2 (by unfold badFlow; omega) | (rw [Bool.eq_iff_iff]; simp only [Bool.or_eq_true, decide_eq_true_eq, beq_iff_eq]; unfold badFlow; omega))
  intro a' g_s g_d g1 g2 g5 g6 g7 g42 g43 g44 g9 f117
  replace hs := g_s.trans hs; replace hd := g_d; replace e1 := g1.trans e1; replace e2 := g2.trans e2; replace e5 := g5.trans e5; replace e6 := g6.trans e6; replace e7 := g7.trans e7; replace e42 := g42.trans e42; replace e43 := g43.trans e43; replace e44 := g44.trans e44; replace e9 := g9.trans e9; clear g_s g_d g1 g2 g5 g6 g7 g42 g43 g44 g9
  have e117 := f117
  clear f117; clear a
  obtain ⟨a, rfl⟩ : ∃ a, a = a' := ⟨_, rfl⟩
  refine hKq3 _ _ ?_; clear hKq3 Kq3; clear c0 c3 y0 y1 y4 y5 y6 y7
  have hnb : R = true ∨ R = false := by cases R <;> simp
  rcases hnb with rfl | rfl
  · have hb := of_decide_eq_true HR.out.symm
    have HV := Lib.hid (flow_bad1 (off := off) (S := S) hb)
    have hlw : Below L w w4 := L1.mono hLz
    have HB2 := Lib.hid (B2.kept (L1))
    have hlz : L ≤ w4.heap.size := Nat.le_trans hLz hlw.size
    refine wp_cond_true (slotE e117) ?_
    clear e117; refine wp_seq_k fun Kq4 hKq4 => ?_
    refine sm_list [2, 3] 118 1 hs hd (by kernel_rfl) (agC e2 (agU agN)) rfl ?_
    simp only [seval]
    go_wp2_with (first | (refine wpList_store_part rfl 32 (.tmp 0) (.tmp 2) rfl (off := 0) rfl HB2.out rfl (by simp) (by kernel_rfl) (by rw [← Array.all_toList]; rfl) ?_; intro wq Bq zq grq) | fail)
    intro a H; replace hs := H.s hs; replace hd := H.d rfl; replace e2 := H.g 2 rfl rfl; replace e1 := H.k e1 rfl; replace e5 := H.k e5 rfl; replace e6 := H.k e6 rfl; replace e7 := H.k e7 rfl; replace e42 := H.k e42 rfl; replace e43 := H.k e43 rfl; replace e44 := H.k e44 rfl; replace e9 := H.k e9 rfl; have e3 := H.g 3 rfl rfl; clear H; refine hKq4 _ _ ?_; clear hKq4 Kq4; refine wp_ret ?_; refine exit_then rfl ?_
    refine ret_block ?_
    have Bq' : Blk wq g2 32 #[.int .i64 0, .slice none 0 0, .map none] := by simpa [putAll] using Bq
    exact HEND.out.2 a wq 1 hs hd e2 e3 (hlw.grown grq hlz (fun k hk => by cases hk; exact ho2)) Bq' HV.out
  · have hb := of_decide_eq_false HR.out.symm
    have HNB := Lib.hid hb
    clear hb HR; have hbb := HNB.out
    unfold badFlow at hbb
    have hlate : 0 ≤ f.late := by omega
    have HF : Hid ((0 ≤ f.start ∧ f.start ≤ 1073741824) ∧ (0 ≤ f.len ∧ f.len ≤ 1073741824) ∧ (64 ≤ f.size ∧ f.size ≤ 1600)) := Lib.hid (by have := HW.out.c2; omega)
    clear hbb
    refine wp_cond_false (slotE e117) ?_
    clear e117; refine wp_skip ?_; refine hKq2 _ _ ?_; clear hKq2 Kq2; refine wp_seq_k fun Kq4 hKq4 => ?_; refine wp_seq_k fun Kq5 hKq5 => ?_
    have y2 := BF.cellOf (v := .slice sl.1.A f.w0.length sl.1.c) 2 rfl
    have y3 := BF.cellOf (v := .slice sl.2.A f.w1.length sl.2.c) 3 rfl
    suffices HK : ∀ (a' : Act), a'.tmps.size = a.tmps.size → a'.defers = [] → a'.tmps[1]? = a.tmps[1]? → a'.tmps[2]? = a.tmps[2]? → a'.tmps[5]? = a.tmps[5]? → a'.tmps[6]? = a.tmps[6]? → a'.tmps[7]? = a.tmps[7]? → a'.tmps[42]? = a.tmps[42]? → a'.tmps[43]? = a.tmps[43]? → a'.tmps[44]? = a.tmps[44]? → a'.tmps[9]? = a.tmps[9]? → a'.tmps[130]? = some (.bool (decide (16 < f.w0.length ∨ 16 < f.w1.length))) → Kq5 a' w4 by
      refine sm_list [9] 119 12 hs hd (by kernel_rfl) (agC e9 agN) rfl ?_
      simp only [seval]
      go_wp2_with fail
      all_goals
        intro a' H
        refine HK a' H.size H.defers (H.out 1 rfl) (H.out 2 rfl) (H.out 5 rfl) (H.out 6 rfl) (H.out 7 rfl) (H.out 42 rfl) (H.out 43 rfl) (H.out 44 rfl) ((H.got rfl rfl).trans e9.symm) ?_
        · (refine (H.got (t := 130) rfl rfl).trans (congrArg some ?_); refine congrArg Value.bool ?_; first | exact (decide_eq_true (by omega)).symm | exact decide_eq_decide.2 (by omega) | (rw [Bool.eq_iff_iff]; simp only [Bool.or_eq_true, decide_eq_true_eq] <;> omega))
    intro a' g_s g_d g1 g2 g5 g6 g7 g42 g43 g44 g9 f130
    replace hs := g_s.trans hs; replace hd := g_d; replace e1 := g1.trans e1; replace e2 := g2.trans e2; replace e5 := g5.trans e5; replace e6 := g6.trans e6; replace e7 := g7.trans e7; replace e42 := g42.trans e42; replace e43 := g43.trans e43; replace e44 := g44.trans e44; replace e9 := g9.trans e9; clear g_s g_d g1 g2 g5 g6 g7 g42 g43 g44 g9
    have e130 := f130
    clear f130; clear a
    obtain ⟨a, rfl⟩ : ∃ a, a = a' := ⟨_, rfl⟩
    refine hKq5 _ _ ?_; clear hKq5 Kq5; clear y2 y3
    by_cases hlong : 16 < f.w0.length ∨ 16 < f.w1.length
    · rw [decide_eq_true hlong] at e130
      have HV := Lib.hid (flow_bad2 (off := off) (S := S) HNB.out hlong)
      have hlw : Below L w w4 := L1.mono hLz
      have HB2 := Lib.hid (B2.kept (L1))
      have hlz : L ≤ w4.heap.size := Nat.le_trans hLz hlw.size
      refine wp_cond_true (slotE e130) ?_
      clear e130; refine wp_seq_k fun Kq6 hKq6 => ?_
      refine sm_list [2, 3] 131 1 hs hd (by kernel_rfl) (agC e2 (agU agN)) rfl ?_
      simp only [seval]
      go_wp2_with (first | (refine wpList_store_part rfl 32 (.tmp 0) (.tmp 2) rfl (off := 0) rfl HB2.out rfl (by simp) (by kernel_rfl) (by rw [← Array.all_toList]; rfl) ?_; intro wq Bq zq grq) | fail)
      intro a H; replace hs := H.s hs; replace hd := H.d rfl; replace e2 := H.g 2 rfl rfl; replace e1 := H.k e1 rfl; replace e5 := H.k e5 rfl; replace e6 := H.k e6 rfl; replace e7 := H.k e7 rfl; replace e42 := H.k e42 rfl; replace e43 := H.k e43 rfl; replace e44 := H.k e44 rfl; replace e9 := H.k e9 rfl; have e3 := H.g 3 rfl rfl; clear H; refine hKq6 _ _ ?_; clear hKq6 Kq6; refine wp_ret ?_; refine exit_then rfl ?_
      refine ret_block ?_
      have Bq' : Blk wq g2 32 #[.int .i64 0, .slice none 0 0, .map none] := by simpa [putAll] using Bq
      exact HEND.out.2 a wq 60 hs hd e2 e3 (hlw.grown grq hlz (fun k hk => by cases hk; exact ho2)) Bq' HV.out
    · rw [decide_eq_false hlong] at e130
      refine wp_cond_false (slotE e130) ?_
      clear e130; refine wp_skip ?_; refine hKq4 _ _ ?_; clear hKq4 Kq4; refine wp_seq_k fun Kq6 hKq6 => ?_
      have hl0 : f.w0.length ≤ 16 := by omega
      have hl1 : f.w1.length ≤ 16 := by omega
      have HLONG := Lib.hid hlong
      clear hlong
      have HWY := Lib.hid (way_any C Y f sl 0 sl.1.c sl.1.A f.w0 w4 ((hC.below (L1.mono hLz)).more (Nat.le_trans hLz L1.size)) (by omega) rfl ((hk0.below (L1.mono hLz)).more (Nat.le_trans hLz L1.size)) (by omega) HW.out.link)
      have BCq := BC.kept L1
      refine sm_list [1, 9, 10, 11] 132 6 hs hd (by kernel_rfl) (agC e1 (agC e9 (agU (agU agN)))) rfl ?_
      simp only [seval]
      go_wp2_with (first | (refine wpList_load_any_d rfl 26 (.tmp 0) rfl ⟨g1, 0, none⟩ rfl (cfc C Y) _ (blk_cells BCq) Try.underlying26 rfl (by kernel_rfl) ?_) | (refine wpList_load_any_d rfl 74 (.tmp 1) rfl ⟨g9, 0, none⟩ rfl (fwc f sl).toArray _ (blk_cells BF) Try.underlying74 rfl (by kernel_rfl) ?_) | fail)
      refine HWY.out.mono ?_
      rintro e w5 ⟨vw0, ok0, es0, rfl, hb0, ho0, hV0⟩
      go_wp2_with fail
      intro a H; replace hs := H.s hs; replace hd := H.d rfl; replace e1 := H.g 1 rfl rfl; replace e9 := H.g 9 rfl rfl; replace e2 := H.k e2 rfl; replace e5 := H.k e5 rfl; replace e6 := H.k e6 rfl; replace e7 := H.k e7 rfl; replace e42 := H.k e42 rfl; replace e43 := H.k e43 rfl; replace e44 := H.k e44 rfl; have e10 := H.g 10 rfl rfl; have e11 := H.g 11 rfl rfl; clear H; refine hKq6 _ _ ?_; clear hKq6 Kq6
      refine wp_seq_k fun Kq7 hKq7 => ?_
      have HO0 := Lib.hid ho0
      have HV0 := Lib.hid hV0
      clear HWY BCq ho0 hV0
      have L5 : Below w.heap.size w w5 := L1.trans (hb0.mono L1.size)
      replace BF := BF.kept hb0
      have HWY := Lib.hid (way_any C Y f sl 1 sl.2.c sl.2.A f.w1 w5 ((hC.below (L5.mono hLz)).more (Nat.le_trans hLz L5.size)) (by omega) rfl ((hk1.below (L5.mono hLz)).more (Nat.le_trans hLz L5.size)) (by omega) HW.out.link)
      have BCq := BC.kept L5
      refine sm_list [1, 9, 12, 13] 138 6 hs hd (by kernel_rfl) (agC e1 (agC e9 (agU (agU agN)))) rfl ?_
      simp only [seval]
      go_wp2_with (first | (refine wpList_load_any_d rfl 26 (.tmp 0) rfl ⟨g1, 0, none⟩ rfl (cfc C Y) _ (blk_cells BCq) Try.underlying26 rfl (by kernel_rfl) ?_) | (refine wpList_load_any_d rfl 74 (.tmp 1) rfl ⟨g9, 0, none⟩ rfl (fwc f sl).toArray _ (blk_cells BF) Try.underlying74 rfl (by kernel_rfl) ?_) | fail)
      refine HWY.out.mono ?_
      rintro e w6 ⟨vw1, ok1, es1, rfl, hb1, ho1, hV1⟩
      go_wp2_with fail
      intro a H; replace hs := H.s hs; replace hd := H.d rfl; replace e1 := H.g 1 rfl rfl; replace e9 := H.g 9 rfl rfl; replace e2 := H.k e2 rfl; replace e5 := H.k e5 rfl; replace e6 := H.k e6 rfl; replace e7 := H.k e7 rfl; replace e42 := H.k e42 rfl; replace e43 := H.k e43 rfl; replace e44 := H.k e44 rfl; replace e10 := H.k e10 rfl; replace e11 := H.k e11 rfl; have e12 := H.g 12 rfl rfl; have e13 := H.g 13 rfl rfl
      clear H; refine hKq7 _ _ ?_; clear hKq7 Kq7; refine wp_seq_k fun Kq8 hKq8 => ?_; refine wp_seq_k fun Kq9 hKq9 => ?_
      have HO1 := Lib.hid ho1
      have HV1 := Lib.hid hV1
      clear HWY BCq ho1 hV1
      have L6 : Below w.heap.size w w6 := L5.trans (hb1.mono L5.size)
      replace BF := BF.kept hb1
      have BC6 := BC.kept L6
      have HO0b : Hid (ok0 = true → w6.ownsRow (gm + 1) 61 2 vw0 es0.length (es0.flatMap ecc)) := Lib.hid fun h => ownsRow_keep (ownsRow_base (HO0.out h) (by omega)) hb1
      have HO1b : Hid (ok1 = true → w6.ownsRow (gm + 1) 61 2 vw1 es1.length (es1.flatMap ecc)) := Lib.hid fun h => ownsRow_base (HO1.out h) (by have := L5.size; omega)
      clear HO0 HO1
      obtain ⟨T, hT⟩ : ∃ T, T = (ok0 && (ok1 && apartV f.w0 f.w1 es0 es1)) := ⟨_, rfl⟩
      have HT := Lib.hid hT
      clear hT
      suffices HK : ∀ (a' : Act) (w7 : World), a'.tmps.size = a.tmps.size → a'.defers = [] → a'.tmps[1]? = a.tmps[1]? → a'.tmps[2]? = a.tmps[2]? → a'.tmps[5]? = a.tmps[5]? → a'.tmps[6]? = a.tmps[6]? → a'.tmps[7]? = a.tmps[7]? → a'.tmps[42]? = a.tmps[42]? → a'.tmps[43]? = a.tmps[43]? → a'.tmps[44]? = a.tmps[44]? → a'.tmps[9]? = a.tmps[9]? → a'.tmps[10]? = a.tmps[10]? → a'.tmps[11]? = a.tmps[11]? → a'.tmps[12]? = a.tmps[12]? → a'.tmps[13]? = a.tmps[13]? → a'.tmps[157]? = some (.bool (!T)) → Below w6.heap.size w6 w7 → Kq9 a' w7 by
        have hcase : ok0 = false ∨ (ok0 = true ∧ ok1 = false) ∨ (ok0 = true ∧ ok1 = true) := by cases ok0 <;> cases ok1 <;> simp
        rcases hcase with rfl | ⟨rfl, rfl⟩ | ⟨rfl, rfl⟩
        rotate_left 2
        obtain ⟨A0, k0, rfl, _, hr0⟩ := ownsRow_reads (HO0b.out rfl)
        obtain ⟨A1, k1, rfl, _, hr1⟩ := ownsRow_reads (HO1b.out rfl)
        have hw0 : es0.length = f.w0.length := (wayV_good HW.out (HV0.out.trans (if_pos rfl))).1
        have hw1 : es1.length = f.w1.length := (wayV_good HW.out (HV1.out.trans (if_pos rfl))).1
        have HAP := Lib.hid (apart_any C Y f sl es0 es1 A0 A1 k0 k1 w6 ((hk0.below (L6.mono hLz)).more (Nat.le_trans hLz L6.size)) ((hk1.below (L6.mono hLz)).more (Nat.le_trans hLz L6.size)) hr0 hr1 (by omega) (by omega) (by omega) (by omega))
        have HW0 := Lib.hid hw0
        have HW1 := Lib.hid hw1
        clear hr0 hr1 hw0 hw1
        have c0 := BC6.cellOf (v := .slice Y.N.A C.nodes.length Y.N.c) 0 rfl
        have c1 := BC6.cellOf (v := .slice Y.L.A C.links.length Y.L.c) 1 rfl
        have c2 := BC6.cellOf (v := .slice Y.F.A C.flows.length Y.F.c) 2 rfl
        have c3 := BC6.cellOf (v := .int .i64 C.cycle) 3 rfl
        have c4 := BC6.cellOf (v := .int .i64 C.every) 4 rfl
        have c5 := BC6.cellOf (v := .int .i64 C.ppm) 5 rfl
        have c6 := BC6.cellOf (v := .int .i64 C.grain) 6 rfl
        have c7 := BC6.cellOf (v := .int .i64 C.proc) 7 rfl
        have y0 := BF.cellOf (v := .int .i64 f.src) 0 rfl
        have y1 := BF.cellOf (v := .int .i64 f.dst) 1 rfl
        have y2 := BF.cellOf (v := .slice sl.1.A f.w0.length sl.1.c) 2 rfl
        have y3 := BF.cellOf (v := .slice sl.2.A f.w1.length sl.2.c) 3 rfl
        have y4 := BF.cellOf (v := .int .i64 f.start) 4 rfl
        have y5 := BF.cellOf (v := .int .i64 f.len) 5 rfl
        have y6 := BF.cellOf (v := .int .i64 f.size) 6 rfl
        have y7 := BF.cellOf (v := .int .i64 f.late) 7 rfl
        rotate_left
        all_goals
          refine sm_list [1, 9, 10, 11, 12, 13] 144 14 hs hd (by kernel_rfl) (agC e1 (agC e9 (agC e10 (agC e11 (agC e12 (agC e13 agN)))))) rfl ?_
          simp only [seval]
          go_wp2_with (first | (refine wpList_load_any_d rfl 26 (.tmp 0) rfl ⟨g1, 0, none⟩ rfl (cfc C Y) _ (blk_cells BC6) Try.underlying26 rfl (by kernel_rfl) ?_) | (refine wpList_load_any_d rfl 74 (.tmp 1) rfl ⟨g9, 0, none⟩ rfl (fwc f sl).toArray _ (blk_cells BF) Try.underlying74 rfl (by kernel_rfl) ?_) | fail)
          try (refine HAP.out.mono ?_; rintro e w7 ⟨rfl, hb7⟩; go_wp2_with fail)
          all_goals
            intro a' H
            refine HK a' _ H.size H.defers ((H.got rfl rfl).trans e1.symm) (H.out 2 rfl) (H.out 5 rfl) (H.out 6 rfl) (H.out 7 rfl) (H.out 42 rfl) (H.out 43 rfl) (H.out 44 rfl) ((H.got rfl rfl).trans e9.symm) ((H.got rfl rfl).trans e10.symm) ((H.got rfl rfl).trans e11.symm) ((H.got rfl rfl).trans e12.symm) ((H.got rfl rfl).trans e13.symm) ?_ ?_
            · (refine (H.got (t := 157) rfl rfl).trans (congrArg some ?_); rw [HT.out]; first | rfl | simp)
            · first | exact Below.refl _ _ | exact hb7
      intro a' w7 g_s g_d g1 g2 g5 g6 g7 g42 g43 g44 g9 g10 g11 g12 g13 f157 b7
      replace hs := g_s.trans hs; replace hd := g_d; replace e1 := g1.trans e1; replace e2 := g2.trans e2; replace e5 := g5.trans e5; replace e6 := g6.trans e6; replace e7 := g7.trans e7; replace e42 := g42.trans e42; replace e43 := g43.trans e43; replace e44 := g44.trans e44; replace e9 := g9.trans e9; replace e10 := g10.trans e10; replace e11 := g11.trans e11; replace e12 := g12.trans e12; replace e13 := g13.trans e13
      clear g_s g_d g1 g2 g5 g6 g7 g42 g43 g44 g9 g10 g11 g12 g13
      have e157 := f157
      clear f157; clear a
      obtain ⟨a, rfl⟩ : ∃ a, a = a' := ⟨_, rfl⟩
      refine hKq9 _ _ ?_; clear hKq9 Kq9
      have LW : Below w.heap.size w w7 := L6.trans (b7.mono L6.size)
      replace BF := BF.kept b7
      clear BC6
      have hTT : T = false ∨ T = true := by cases T <;> simp
      rcases hTT with rfl | rfl
      · have e157q : a.tmps[157]? = some (.bool true) := e157
        replace e157 := e157q
        clear e157q
        have HV := Lib.hid (flow_bad3 (off := off) (S := S) HNB.out HLONG.out HV0.out HV1.out HT.out.symm)
        have hlw : Below L w w7 := LW.mono hLz
        have HB2 := Lib.hid (B2.kept (LW))
        have hlz : L ≤ w7.heap.size := Nat.le_trans hLz hlw.size
        refine wp_cond_true (slotE e157) ?_
        clear e157; refine wp_seq_k fun Kq10 hKq10 => ?_
        refine sm_list [2, 3] 158 1 hs hd (by kernel_rfl) (agC e2 (agU agN)) rfl ?_
        simp only [seval]
        go_wp2_with (first | (refine wpList_store_part rfl 32 (.tmp 0) (.tmp 2) rfl (off := 0) rfl HB2.out rfl (by simp) (by kernel_rfl) (by rw [← Array.all_toList]; rfl) ?_; intro wq Bq zq grq) | fail)
        intro a H; replace hs := H.s hs; replace hd := H.d rfl; replace e2 := H.g 2 rfl rfl; replace e1 := H.k e1 rfl; replace e5 := H.k e5 rfl; replace e6 := H.k e6 rfl; replace e7 := H.k e7 rfl; replace e42 := H.k e42 rfl; replace e43 := H.k e43 rfl; replace e44 := H.k e44 rfl; replace e9 := H.k e9 rfl; replace e10 := H.k e10 rfl; replace e11 := H.k e11 rfl; replace e12 := H.k e12 rfl; replace e13 := H.k e13 rfl
        have e3 := H.g 3 rfl rfl; clear H; refine hKq10 _ _ ?_; clear hKq10 Kq10; refine wp_ret ?_; refine exit_then rfl ?_; refine ret_block ?_
        have Bq' : Blk wq g2 32 #[.int .i64 0, .slice none 0 0, .map none] := by simpa [putAll] using Bq
        exact HEND.out.2 a wq 60 hs hd e2 e3 (hlw.grown grq hlz (fun k hk => by cases hk; exact ho2)) Bq' HV.out
      · have e157q : a.tmps[157]? = some (.bool false) := e157
        replace e157 := e157q
        clear e157q
        refine wp_cond_false (slotE e157) ?_
        clear e157; refine wp_skip ?_; refine hKq8 _ _ ?_; clear hKq8 Kq8; refine wp_seq_k fun Kq10 hKq10 => ?_; have hT := HT.out
        obtain ⟨rfl, hT2⟩ : ok0 = true ∧ (ok1 && apartV f.w0 f.w1 es0 es1) = true := by have := HT.out.symm; simpa using this
        obtain ⟨rfl, hap⟩ : ok1 = true ∧ apartV f.w0 f.w1 es0 es1 = true := by simpa using hT2
        have hv0 := HV0.out.trans (if_pos rfl); have hv1 := HV1.out.trans (if_pos rfl)
        have HFW := Lib.hid (flow_ways (off := off) (S := S) HNB.out HLONG.out hv0 hv1 hap)
        obtain ⟨hn0, hr0, hk00⟩ := wayV_good HW.out hv0
        obtain ⟨hn1, hr1, hk11⟩ := wayV_good HW.out hv1
        have HO0 := ownsRow_keep (HO0b.out rfl) b7
        have HO1 := ownsRow_keep (HO1b.out rfl) b7
        clear HO0b HO1b HT hT2 hap HV0 HV1 hv0 hv1 hT
        obtain ⟨A0, k0, rfl, _, _⟩ := ownsRow_reads HO0
        obtain ⟨A1, k1, rfl, _, _⟩ := ownsRow_reads HO1
        clear e11; clear e13
        have L8 : Below w7.heap.size w7 (w7.alloc (.cells #[.int .i64 4611686018427387904, .int .i64 0] 52)) := (Below.refl _ _).alloc (Nat.le_refl _) _
        have LW8 : Below w.heap.size w (w7.alloc (.cells #[.int .i64 4611686018427387904, .int .i64 0] 52)) := LW.trans (L8.mono LW.size)
        have B14 := Blk.new w7 52 #[.int .i64 4611686018427387904, .int .i64 0]
        have SM8 := SM.keep LW8
        have hwn8 := ownsRow_keep hwn LW8
        have HNW : Hid (∀ k, wv.ownBlock = some k → B0 ≤ k ∧ k < w.heap.size) := Lib.hid (ownsRow_lt hwn)
        have HN0 : Hid (∀ k, (Value.slice A0 es0.length k0).ownBlock = some k → gm + 1 ≤ k ∧ k < w7.heap.size) := Lib.hid (ownsRow_lt HO0)
        have HN1 : Hid (∀ k, (Value.slice A1 es1.length k1).ownBlock = some k → gm + 1 ≤ k ∧ k < w7.heap.size) := Lib.hid (ownsRow_lt HO1)
        replace HO0 := ownsRow_keep HO0 L8
        replace HO1 := ownsRow_keep HO1 L8
        replace BF := BF.kept L8
        have BC8 := BC.kept LW8
        have B28 := B2.kept LW8
        have B68 := B6.kept LW8
        have hg9l : g9 < w7.heap.size := by have := LW.size; have := b7.size; have := hb0.size; have := hb1.size; omega
        refine sm_list [14] 159 1 hs hd (by kernel_rfl) (agU agN) rfl ?_
        simp only [seval]
        go_wp2_with (first | (refine wpList_store_new rfl 52 (.tmp 0) (.tmp 1) rfl rfl rfl rfl rfl (by kernel_rfl) (by rw [← Array.all_toList]; rfl) ?_) | fail)
        intro a H; replace hs := H.s hs; replace hd := H.d rfl; replace e1 := H.k e1 rfl; replace e2 := H.k e2 rfl; replace e5 := H.k e5 rfl; replace e6 := H.k e6 rfl; replace e7 := H.k e7 rfl; replace e42 := H.k e42 rfl; replace e43 := H.k e43 rfl; replace e44 := H.k e44 rfl; replace e9 := H.k e9 rfl; replace e10 := H.k e10 rfl; replace e12 := H.k e12 rfl; have e14 := H.g 14 rfl rfl; clear H; refine hKq10 _ _ ?_
        clear hKq10 Kq10; refine wp_seq_k fun Kq11 hKq11 => ?_
        have hzw7 : w.heap.size ≤ w7.heap.size := LW.size
        obtain ⟨g14, hg14⟩ : ∃ g, g = w7.heap.size := ⟨_, rfl⟩
        rw [← hg14] at B14 e14 HN0 HN1 hg9l hzw7
        generalize (w7.alloc (.cells #[.int .i64 4611686018427387904, .int .i64 0] 52)) = w8 at *
        clear hg14 L8 LW b7 hb0 hb1 L5 L6 L1 BC4 B9
        have hC8 := hC.below (LW8.mono hLz)
        have hk08 := hk0.below (LW8.mono hLz)
        have hk18 := hk1.below (LW8.mono hLz)
        have hwy : ∀ q, q < 2 → Wy C f sl w8 L gm (two A0 A1) (two sl.1.A sl.2.A) (two es0.length es1.length) (two k0 k1) (two sl.1.c sl.2.c) (two es0 es1) (two f.w0 f.w1) q := fun q hq => by
          rcases (by omega : q = 0 ∨ q = 1) with rfl | rfl
          · exact ⟨rfl, hk08, HO0, hk00, by show es0.length ≤ 16; omega, hn0.symm, hr0⟩
          · exact ⟨rfl, hk18, HO1, hk11, by show es1.length ≤ 16; omega, hn1.symm, hr1⟩
        have hapx : ∀ q k, q < 2 → (Value.slice (two A0 A1 q) (two es0.length es1.length q) (two k0 k1 q)).ownBlock = some k → k ≠ g14 := fun q k hq hk => by
          rcases (by omega : q = 0 ∨ q = 1) with rfl | rfl
          · have := (HN0.out k hk).2; omega
          · have := (HN1.out k hk).2; omega
        refine mk_ways C Y f sl off L g1 g2 g9 g14 gm B0 m (two A0 A1) (two sl.1.A sl.2.A) (two es0.length es1.length) (two k0 k1) (two sl.1.c sl.2.c) (two es0 es1) (two f.w0 f.w1) S fm _ _ _ _ a w8 _ hs hd e1 e2 e5 e6 e7 e9 e10 e12 e14 e42 e43 e44 hC8 BC8 BF B28 B14 ⟨ho1, ho2, Nat.lt_trans ho3 ho5, Nat.lt_trans ho4 ho5, hgm9, hg9l⟩ SM8 hwy hapx HW.out HOFF.out HF.out hS ?_ ?_
        rotate_left
        · clear hs hd e1 e2 e5 e6 e7 e9 e10 e12 e14 e42 e43 e44 hwy hapx BC8 BF B28 B14 SM8 hC8 HO0 HO1
          intro a w9 hs hd e2 e3 hb9 B29 hV
          have HV := Lib.hid (flow_err HFW.out hV)
          clear hV; refine exit_then rfl ?_; refine ret_block ?_
          exact HEND.out.2 _ w9 61 hs hd e2 e3 ((LW8.mono hLz).trans hb9) B29 HV.out
        clear hs hd e1 e2 e5 e6 e7 e9 e10 e12 e14 e42 e43 e44 hwy hapx BC8 B28 B14 hC8 HO0 HO1 hk08 hk18
        intro a w9 m9 fm9 S9 wl wh hs hd e1 e2 e5 e6 e7 e9 e14 e42 e43 e44 hfr SM9 B149 hsl9 hwh hV
        have HFV := Lib.hid (flow_fin HFW.out hV)
        clear hV HFW
        have hgm8 : gm ≤ w8.heap.size := Nat.le_trans (Nat.le_of_lt SM8.lt) SM8.hz
        have LF := hfr.below hgm8
        have BF9 := hfr.blk BF (by decide) (by omega) (by simp; omega)
        have B69 := hfr.low B68 ho5
        have hwn9 := hfr.own hwn8 (by decide) (fun k hk => by have := HNW.out k hk; have := SM9.lt; refine ⟨by omega, ?_⟩; simp; omega)
        have LL9 : Below g6 w w9 := (LW8.mono (by omega)).trans (LF.mono (Nat.le_of_lt ho5))
        have B29 : Blk w9 g2 32 #[.int .i64 0, .slice none 0 0, .map none] := LL9.block g2 ho4 |>.trans B2
        clear hfr BF B68 hwn8 SM8; refine hKq11 _ _ ?_; clear hKq11 Kq11; refine wp_seq_k fun Kq12 hKq12 => ?_; refine wp_seq_k fun Kq13 hKq13 => ?_
        have x1 := B149.cellOf (v := .int .i64 wh) 1 rfl
        have y7 := BF9.cellOf (v := .int .i64 f.late) 7 rfl
        refine sm_list [9, 14] 269 5 hs hd (by kernel_rfl) (agC e9 (agC e14 agN)) rfl ?_
        simp only [seval]
        go_wp2_with fail
        intro a H; replace hs := H.s hs; replace hd := H.d rfl; replace e9 := H.g 9 rfl rfl; replace e14 := H.g 14 rfl rfl; replace e1 := H.k e1 rfl; replace e2 := H.k e2 rfl; replace e5 := H.k e5 rfl; replace e6 := H.k e6 rfl; replace e7 := H.k e7 rfl; replace e42 := H.k e42 rfl; replace e43 := H.k e43 rfl; replace e44 := H.k e44 rfl; have e273 := H.g 273 rfl rfl; clear H; refine hKq13 _ _ ?_; clear hKq13 Kq13
        clear x1 y7
        by_cases hlt : f.late < wh
        · rw [decide_eq_true hlt] at e273
          have HV := Lib.hid (HFV.out.trans (if_pos hlt))
          have HB2 := Lib.hid B29
          have hlw : Below L w w9 := LL9.mono (Nat.le_trans ho1 (Nat.le_of_lt ho3))
          have hlz : L ≤ w9.heap.size := Nat.le_trans hLz hlw.size
          refine wp_cond_true (slotE e273) ?_
          clear e273; refine wp_seq_k fun Kq14 hKq14 => ?_
          refine sm_list [2, 3] 274 1 hs hd (by kernel_rfl) (agC e2 (agU agN)) rfl ?_
          simp only [seval]
          go_wp2_with (first | (refine wpList_store_part rfl 32 (.tmp 0) (.tmp 2) rfl (off := 0) rfl HB2.out rfl (by simp) (by kernel_rfl) (by rw [← Array.all_toList]; rfl) ?_; intro wq Bq zq grq) | fail)
          intro a H; replace hs := H.s hs; replace hd := H.d rfl; replace e2 := H.g 2 rfl rfl; replace e1 := H.k e1 rfl; replace e5 := H.k e5 rfl; replace e6 := H.k e6 rfl; replace e7 := H.k e7 rfl; replace e9 := H.k e9 rfl; replace e14 := H.k e14 rfl; replace e42 := H.k e42 rfl; replace e43 := H.k e43 rfl; replace e44 := H.k e44 rfl; have e3 := H.g 3 rfl rfl; clear H; refine hKq14 _ _ ?_; clear hKq14 Kq14
          refine wp_ret ?_; refine exit_then rfl ?_; refine ret_block ?_
          have Bq' : Blk wq g2 32 #[.int .i64 0, .slice none 0 0, .map none] := by simpa [putAll] using Bq
          exact HEND.out.2 a wq 62 hs hd e2 e3 (hlw.grown grq hlz (fun k hk => by cases hk; exact ho2)) Bq' HV.out
        · rw [decide_eq_false hlt] at e273
          have HV := Lib.hid (HFV.out.trans (if_neg hlt))
          clear hlt HFV
          refine wp_cond_false (slotE e273) ?_
          clear e273; refine wp_skip ?_; refine hKq12 _ _ ?_; clear hKq12 Kq12
          have p1 := B69.cellOf (v := wv) 1 rfl
          have hz9 := SM9.hz
          have HB6 := Lib.hid B69
          have HWN := Lib.hid hwn9
          have HB14 := Lib.hid B149
          have hg6l := B69.lt
          clear B149 hwn9 B69
          refine sm_list [6, 14] 275 6 hs hd (by kernel_rfl) (agC e6 (agC e14 agN)) rfl ?_
          simp only [seval]
          go_wp2_with (first | (refine wpList_load_any_d rfl 52 (.tmp 1) rfl ⟨g14, 0, none⟩ rfl (#[.int .i64 wl, .int .i64 wh]) _ (blk_cells HB14.out) Try.underlying52 rfl (by kernel_rfl) ?_) | (at_builtin; refine wpList_pushG 1 rfl (.tmp 3) (.tmp 5) 29 rfl sty_win (wr := w9) (cs := #[.int .i64 wl, .int .i64 wh]) rfl (by intro u hu; simp at hu; rcases hu with rfl | rfl <;> rfl) (v := wv) rfl HWN.out rfl rfl (by omega) hz9 ?_; intro v2 wx own2 gr2 mv2; have Bx := Lib.hid (HB6.out.grown gr2 (fun e => by have := (ownsRow_lt HWN.out g6 e.symm).1; have := SM9.lt; omega)); have HGR := Lib.hid gr2; have HOX := Lib.hid own2; obtain ⟨Av, cv, rfl, _, _⟩ := ownsRow_reads own2; have fz := Bx.out.frozen; have xl := Bx.out.lt; have xc := Bx.out.cellOf (v := wv) 1 rfl; clear own2 gr2 mv2) | fail)
          intro a H; replace hs := H.s hs; replace hd := H.d rfl; replace e6 := H.g 6 rfl rfl; replace e14 := H.g 14 rfl rfl; replace e1 := H.k e1 rfl; replace e2 := H.k e2 rfl; replace e5 := H.k e5 rfl; replace e7 := H.k e7 rfl; replace e9 := H.k e9 rfl; replace e42 := H.k e42 rfl; replace e43 := H.k e43 rfl; replace e44 := H.k e44 rfl; clear H
          have B6x := Bx.out.set_ 1 (.slice Av (W.length + 1) cv)
          have hrow : ∀ k, wv.ownBlock = some k → B0 ≤ k := fun k hk => (HNW.out k hk).1
          have hbx : Below B0 w9 wx := below_of_grown HGR.out HWN.out hz9
          have hB0 := SM9.lt
          have SMx : SpM wx B0 gm m9 fm9 S9 := SM9.fr (HGR.out.block gm (by omega) (fun e => by have := hrow gm e.symm; omega)) HGR.out.size (fun k cs z hk hh => HGR.out.block k hk (fun e => by
            rcases HWN.out.2 with ⟨h1, _⟩ | ⟨g, cap, cur, h1, h2, h3, _⟩
            · rw [h1] at e; cases e
            · rw [h1] at e
              injection e with e
              have e : k = g := e
              subst e
              rw [h3] at hh
              injection hh with hh
              injection hh with _ hh _
              exact absurd hh (by decide)))
          have SMy := SMx.set (w' := wx.setCell ⟨g6, 1, none⟩ (.slice Av (W.length + 1) cv)) Bx.out (by omega) (by decide) (gr_set (grownBy_refl wx _) 1 _)
          have eW : (W ++ [(wl, wh)]).flatMap spc = W.flatMap spc ++ [.int .i64 wl, .int .i64 wh] := by simp [spc]
          have hwx : (wx.setCell ⟨g6, 1, none⟩ (.slice Av (W.length + 1) cv)).ownsRow B0 52 2 (.slice Av (W.length + 1) cv) (W.length + 1) ((W ++ [(wl, wh)]).flatMap spc) := by rw [eW]; exact stores_own (fun hk => by have := (ownsRow_lt HOX.out g6 hk).1; omega) [.slice Av (W.length + 1) cv] 1 HOX.out
          exact HEND.out.1 a _ m9 fm9 S9 (wl, wh) _ hs hd e1 e2 e5 e6 e7 e42 e43 e44 ((LL9.trans (hbx.mono (by omega))).setCell (Nat.le_refl _) _) SMy B6x hwx (by omega) HV.out
end Go.Proofs.Ytaegngcbiefckaa
