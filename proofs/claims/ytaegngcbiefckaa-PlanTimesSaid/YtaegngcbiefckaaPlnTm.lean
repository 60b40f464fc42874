/-
  A frame on its way: from the first hop on.
-/
import Derived.Test.YtaegngcbiefckaaPlnGs
import Derived.Test.YtaegngcbiefckaaPlnTq
namespace Go.Proofs.Ytaegngcbiefckaa
set_option linter.unusedSimpArgs false
set_option linter.unusedVariables false
open Go.RowKit Go.WideShapes Go.ChangeShapes
attribute [local go_sem ↓] Go.wp_at_zero Go.wp_at_succ

def TInv (C : Cf) (off : Int) (f : Fw) (n : Nat) (es : List (Int × Int)) (ks : List Int) (h i : Nat) (at_ t : Int) (e : Int × Int) : Prop :=
  (i ≤ h ∧ Steps C at_ (es.drop i) (ks.drop i) ∧ ∃ (S' : List Sp) (low high : Int), HopInv C off f n [] es ks i S' low high ∧ f.start + low ≤ t ∧ t ≤ f.start + f.len + high) ∨
    (i = h + 1 ∧ es[h]? = some e ∧ ∃ (S' : List Sp) (low high : Int), HopInv C off f n [] es ks h S' low high ∧ f.start + low ≤ t ∧ t ≤ f.start + f.len + high)
theorem TInv.start {C : Cf} {off : Int} {f : Fw} {n h : Nat} {es : List (Int × Int)} {ks : List Int} {t : Int} {e : Int × Int} (hs : Steps C f.src es ks) (h1 : f.start ≤ t) (h2 : t ≤ f.start + f.len) : TInv C off f n es ks h 0 f.src t e :=
  .inl ⟨Nat.zero_le _, hs, [], 0, 0, HopInv.start, by omega, by omega⟩
structure Hop (C : Cf) (es : List (Int × Int)) (ks : List Int) (i : Nat) (at_ : Int) (e : Int × Int) (k : Nat) (l : Lk) (nxt : Int) : Prop where
  he : es[i]? = some e
  hk : ks[i]? = some (k : Int)
  hkl : k < C.links.length
  hl : C.links[k]? = some l
  hat : e.1 = at_
  hway : (e = (l.n0, l.p0) ∧ nxt = l.n1) ∨ (e = (l.n1, l.p1) ∧ l.n0 ≠ at_ ∧ nxt = l.n0)
  hrest : Steps C nxt (es.drop (i + 1)) (ks.drop (i + 1))
theorem steps_hop {C : Cf} {es : List (Int × Int)} {ks : List Int} {i : Nat} {at_ : Int} (h : Steps C at_ (es.drop i) (ks.drop i)) (hi : i < es.length) : ∃ e k l nxt, Hop C es ks i at_ e k l nxt := by
  obtain ⟨e, he⟩ : ∃ e, es[i]? = some e := ⟨_, List.getElem?_eq_getElem hi⟩
  rw [drop_get he] at h
  cases hk : ks[i]? with
  | none =>
    have hd : ks.drop i = [] := List.drop_eq_nil_of_le (by rw [List.getElem?_eq_none_iff] at hk; exact hk)
    rw [hd] at h
    exact h.elim
  | some k =>
    rw [drop_get hk] at h
    obtain ⟨h1, l, nxt, ⟨h2, h3⟩, h4, h5, h6⟩ := h
    obtain ⟨k', rfl⟩ := Int.eq_ofNat_of_zero_le h2
    exact ⟨e, k', l, nxt, he, hk, by omega, by simpa using h4, h1, h5, h6⟩
/-- What a hop in a plan's way does: the span is there, and the next one is known. -/
theorem hop_in {C : Cf} {off low high : Int} {f : Fw} {n i k : Nat} {es : List (Int × Int)} {ks : List Int} {S' : List Sp} {r : List Sp × Int × Int} {at_ nxt : Int} {e : Int × Int} {l : Lk} (h : HopInv C off f n [] es ks i S' low high) (hok : hopsGo C off f n 0 [] es ks 0 0 = .ok r) (hp : Hop C es ks i at_ e k l nxt) :
    (¬ (f.start + low - 2 * off < 0 ∨ C.cycle < f.start + f.len + high + 8 * f.size + 2 * off)) ∧ (e, (f.start + low - 2 * off, f.start + f.len + high + 8 * f.size + 2 * off)) ∈ r.1 ∧
      ∃ S2, HopInv C off f n [] es ks (i + 1) S2 (low + (8 * f.size + l.lo) + if i + 1 < n then C.proc else 0) (high + (8 * f.size + l.hi) + if i + 1 < n then C.proc else 0) := by
  have hb : ¬ (f.start + low - 2 * off < 0 ∨ C.cycle < f.start + f.len + high + 8 * f.size + 2 * off) := fun hb => by
    have := h.bad hp.he hp.hk hb
    rw [hok] at this
    cases this
  have h2 := h.step hp.he hp.hk hb (by rw [Int.toNat_natCast]; exact hp.hl) _ _ rfl rfl
  refine ⟨hb, ?_, _, h2⟩
  have h3 := h2
  unfold HopInv at h3
  rw [hok, hopsGo_acc] at h3
  split at h3
  · cases h3
  · cases h3
    simp
theorem span_in {C : Cf} {off low high : Int} {f : Fw} {n i : Nat} {es : List (Int × Int)} {ks : List Int} {S' : List Sp} {r : List Sp × Int × Int} {e : Int × Int} (h : HopInv C off f n [] es ks i S' low high) (hok : hopsGo C off f n 0 [] es ks 0 0 = .ok r) (he : es[i]? = some e) (hk : i < ks.length) :
    (¬ (f.start + low - 2 * off < 0 ∨ C.cycle < f.start + f.len + high + 8 * f.size + 2 * off)) ∧ (e, (f.start + low - 2 * off, f.start + f.len + high + 8 * f.size + 2 * off)) ∈ r.1 := by
  obtain ⟨k, hkk⟩ : ∃ k, ks[i]? = some k := ⟨_, List.getElem?_eq_getElem hk⟩
  have hb : ¬ (f.start + low - 2 * off < 0 ∨ C.cycle < f.start + f.len + high + 8 * f.size + 2 * off) := fun hb => by
    have := h.bad he hkk hb
    rw [hok] at this
    cases this
  refine ⟨hb, ?_⟩
  cases hl : C.links[k.toNat]? with
  | none =>
    unfold HopInv at h
    rw [hok, drop_get he, drop_get hkk, hopsGo, if_neg hb, hl] at h
    cases h
  | some l =>
    have h3 := h.step he hkk hb hl _ _ rfl rfl
    unfold HopInv at h3
    rw [hok, hopsGo_acc] at h3
    split at h3
    · cases h3
    · cases h3
      simp
def PortIn (C : Cf) (e : Int × Int) : Prop := ∃ nd, 0 ≤ e.1 ∧ C.nodes[e.1.toNat]? = some nd ∧ 0 ≤ e.2 ∧ e.2 < nd.ports
theorem badEnd_in {C : Cf} {used : List (Int × Int)} {e : Int × Int} (h : ¬ badEnd C used e = true) : PortIn C e := by
  have h := Bool.eq_false_iff.2 h
  unfold badEnd at h
  cases hn : C.nodes[e.1.toNat]? with
  | none => rw [hn] at h; simp at h
  | some nd =>
    rw [hn] at h
    simp only [Bool.or_eq_false_iff, decide_eq_false_iff_not] at h
    exact ⟨nd, by omega, hn, by omega, by omega⟩
theorem linksV_in {C : Cf} : ∀ (ls : List Lk) (used : List (Int × Int)), linksV C used ls = 0 → ∀ l ∈ ls, PortIn C (l.n0, l.p0) ∧ PortIn C (l.n1, l.p1)
  | [], _, _, _, hl => by cases hl
  | m :: ls, used, h, l, hl => by
    rw [linksV] at h
    by_cases h0 : badEnd C used (m.n0, m.p0) = true
    · rw [if_pos h0] at h; cases h
    rw [if_neg h0] at h
    by_cases h1 : badEnd C ((m.n0, m.p0) :: used) (m.n1, m.p1) = true
    · rw [if_pos h1] at h; cases h
    rw [if_neg h1] at h
    by_cases h2 : badLink m = true
    · rw [if_pos h2] at h; cases h
    rw [if_neg h2] at h
    rcases List.mem_cons.1 hl with rfl | hl
    · exact ⟨badEnd_in h0, badEnd_in h1⟩
    · exact linksV_in ls _ h l hl
theorem PortIn.to {C : Cf} {e : Int × Int} (h : PortIn C e) : e ∈ endsTo C C.nodes.length := by
  obtain ⟨nd, h1, h2, h3, h4⟩ := h
  obtain ⟨x, y⟩ := e
  simp only at h1 h2 h3 h4
  refine List.mem_flatMap.2 ⟨x.toNat, List.mem_range.2 (List.getElem?_eq_some_iff.1 h2).1, ?_⟩
  rw [endsOf_some h2]
  refine List.mem_map.2 ⟨y.toNat, List.mem_range.2 (by omega), ?_⟩
  rw [Int.toNat_of_nonneg h1, Int.toNat_of_nonneg h3]
theorem steps_mem {C : Cf} {e : Int × Int} : ∀ (es : List (Int × Int)) (ks : List Int) (at_ : Int), Steps C at_ es ks → e ∈ es → ∃ l ∈ C.links, e = (l.n0, l.p0) ∨ e = (l.n1, l.p1)
  | [], _, _, _, h => by cases h
  | x :: es, [], _, hs, _ => hs.elim
  | x :: es, k :: ks, at_, hs, h => by
    obtain ⟨_, l, nxt, _, h2, h3, h4⟩ := hs
    rcases List.mem_cons.1 h with rfl | h
    · exact ⟨l, List.mem_of_getElem? h2, h3.imp (fun h => h.1) (fun h => h.1)⟩
    · exact steps_mem es ks nxt h4 h
theorem span_link {C : Cf} {S : List Sp} {W : List (Int × Int)} (h : makeV C = .ok (S, W)) {x : Sp} (hx : x ∈ S) : ∃ l ∈ C.links, x.1 = (l.n0, l.p0) ∨ x.1 = (l.n1, l.p1) := by
  obtain ⟨h0, _, rs, h1, rfl, rfl⟩ := makeV_ok.1 h
  obtain ⟨r, hr, hxr⟩ := List.mem_flatMap.1 hx
  obtain ⟨f, _, xs, ys, S1, T1, _, _, _, _, hwx, hwy, _, h3, h4, e⟩ := h1.parts.1 r hr
  obtain ⟨hxl, _, sx, _⟩ := wayV_steps hwx
  obtain ⟨hyl, _, sy, _⟩ := wayV_steps hwy
  rw [e] at hxr
  rcases List.mem_append.1 hxr with hm | hm
  · exact steps_mem xs f.w0 _ sx (by rw [← (hopsGo_ends xs f.w0 0 0 0 _ hxl h3).1]; exact List.mem_map.2 ⟨x, hm, rfl⟩)
  · exact steps_mem ys f.w1 _ sy (by rw [← (hopsGo_ends ys f.w1 0 0 0 _ hyl h4).1]; exact List.mem_map.2 ⟨x, hm, rfl⟩)
theorem span_end {C : Cf} {S : List Sp} {W : List (Int × Int)} (h : makeV C = .ok (S, W)) {e x : Int × Int} (hx : (e, x) ∈ S) : e ∈ endsTo C C.nodes.length := by
  obtain ⟨l, hl, he⟩ := span_link h hx
  have hin := linksV_in C.links [] (checkV_zero.1 (makeV_ok.1 h).1).2.2.2 l hl
  rcases he with he | he
  · rw [show e = _ from he]; exact hin.1.to
  · rw [show e = _ from he]; exact hin.2.to
theorem span_ok {C : Cf} {S : List Sp} {W : List (Int × Int)} (h : makeV C = .ok (S, W)) {e x : Int × Int} (hx : (e, x) ∈ S) : okE e := by
  obtain ⟨l, hl, he⟩ := span_link h hx
  have hw := (well (makeV_ok.1 h).1).links l hl
  rcases he with he | he
  · rw [show e = _ from he]; exact hw.a.e
  · rw [show e = _ from he]; exact hw.b.e
set_option maxRecDepth 100000 in
set_option maxHeartbeats 4000000 in
theorem times_tail (C : Cf) (Y : Lay) (f : Fw) (sl : Sl × Sl) (off late oa T0 : Int) (fi q h cq g g13 g15 gG B1 mg : Nat) (Aq : Option Addr) (es : List (Int × Int)) (S : List Sp) (W : List (Int × Int)) (wv : Value) (ks : List Int) (r : List Sp × Int × Int) (fg : Int × Int → Option Value) (a : Act) (w : World) (Q : Exit → Act → World → Prop)
    (hs : a.tmps.size = 173) (hd : a.defers = []) (e3 : a.tmps[3]? = some (.int .i64 (h : Int))) (e4 : a.tmps[4]? = some (.int .i64 late)) (e5 : a.tmps[5]? = some (.int .i64 oa)) (e6 : a.tmps[6]? = some (.pointer (some ⟨g, 0, none⟩))) (e13 : a.tmps[13]? = some (.pointer (some ⟨g13, 0, none⟩))) (e15 : a.tmps[15]? = some (.pointer (some ⟨g15, 0, none⟩))) (e16 : a.tmps[16]? = some (.slice Aq ks.length cq)) (e17 : a.tmps[17]? = some (.int .i64 f.src)) (e18 : a.tmps[18]? = some (.int .i64 T0))
    (hC : CfAt w g C Y) (BC : Blk w g 26 (cfc C Y)) (B13 : Blk w g13 32 #[.int .i64 off, wv, .map (some gG)]) (B15 : Blk w g15 74 (fwc f sl).toArray) (hk : Reads w g 1 Aq ks.length (ks.map (Value.int .i64))) (hz : g < w.heap.size)
    (GT : GtM w B1 gG mg fg (endsTo C C.nodes.length) C.cycle S) (hmk : makeV C = .ok (S, W)) (hgd : ∀ x ∈ S, GoodSp C x) (hoff : off = offV C) (hb : ¬ badFlow C f) (hst : Steps C f.src es ks) (hel : es.length = ks.length) (hok : hopsGo C off f es.length 0 [] es ks 0 0 = .ok r) (hsub : ∀ x ∈ r.1, x ∈ S) (hh : h < es.length) (hn : es.length ≤ 16)
    (ht0 : f.start ≤ T0) (ht1 : T0 ≤ f.start + f.len)
    (hret : ∀ (a : Act) (w' : World), a.tmps.size = 173 → a.defers = [] → a.tmps[12]? = some (.bool true) → Below w.heap.size w w' → Q .ret a w') :
    Code.wp Try.prog (sub [true, true, true, true, true, true, true, true, true, true, true, true] (bodyOf Try.f8)) Q a w := by
  conv => arg 2; whnf
  have HRET := Lib.hid hret
  have HMK := Lib.hid hmk
  have HGD := Lib.hid hgd
  have HSUB := Lib.hid hsub
  have HOKK := Lib.hid hok
  have HBAD := Lib.hid hb
  have HEL := Lib.hid hel
  have HOFF := Lib.hid hoff
  have hck := (makeV_ok.1 hmk).1
  have HW := Lib.hid (well hck)
  have hln := (checkV_zero.1 hck).2.2.2
  have HNE := Lib.hid (linksV_ne C.links [] hln)
  have hbb := hb
  unfold badFlow at hbb
  have hfs : 0 ≤ f.start ∧ f.start ≤ 1073741824 ∧ 0 ≤ f.len ∧ f.len ≤ 1073741824 ∧ 64 ≤ f.size ∧ f.size ≤ 1600 := by have := HW.out.c2; omega
  have hob := offV_bounds HW.out.off
  rw [← hoff] at hob
  have hpq1 := HW.out.q1
  have hpq2 := HW.out.q2
  have hcy2 := HW.out.c2
  clear hret hmk hgd hsub hok hb hel hoff hck hln hbb
  obtain ⟨hf1, hf2, hf3, hf4, hf5, hf6⟩ := hfs
  have hkl : ks.length ≤ 16 := by rw [← HEL.out]; exact hn
  have hhk : h < ks.length := by rw [← HEL.out]; exact hh
  have hhI : (h : Int) < 16 := by omega
  refine wp_seq_k fun Kq1 hKq1 => ?_
  have B19 := Blk.new w 61 #[.int .i64 0, .int .i64 0]
  have LA : Below w.heap.size w (w.alloc (.cells #[.int .i64 0, .int .i64 0] 61)) := (Below.refl _ _).alloc (Nat.le_refl _) _
  have hst0 : TInv C off f es.length es ks h 0 f.src T0 (0, 0) := TInv.start hst ht0 ht1
  refine sm_list [19] 79 1 hs hd (by kernel_rfl) (agU agN) (by simp only [List.append_eq, List.cons_append, List.nil_append, List.map_cons, List.map_nil, reOper, reOp, reO, reC, reK, Option.map_some, Option.map_none, fS_ite, ix_ite, Nat.reduceLeDiff, Nat.reduceEqDiff, if_true, if_false, ↓reduceIte, List.length_cons, List.length_nil, Nat.reduceAdd, Nat.reduceSub, List.map_toArray]; rfl) ?_
  simp only [List.replicate_succ, List.replicate_zero, List.cons_append, List.nil_append, List.drop_succ_cons, List.drop_zero, List.take_succ_cons, List.take_zero]
  go_wp2_with (first | (refine wpList_store_new rfl 61 (.tmp 0) (.tmp 1) rfl rfl rfl rfl rfl (by kernel_rfl) (by rw [← Array.all_toList]; rfl) ?_) | fail)
  intro a H
  replace hs := H.size.trans hs
  replace hd : a.defers = [] := H.defers
  replace e3 : a.tmps[3]? = some _ := H.keep e3 rfl
  replace e4 : a.tmps[4]? = some _ := H.keep e4 rfl
  replace e5 : a.tmps[5]? = some _ := H.keep e5 rfl
  replace e6 : a.tmps[6]? = some _ := H.keep e6 rfl
  replace e13 : a.tmps[13]? = some _ := H.keep e13 rfl
  replace e15 : a.tmps[15]? = some _ := H.keep e15 rfl
  replace e16 : a.tmps[16]? = some _ := H.keep e16 rfl
  replace e17 : a.tmps[17]? = some _ := H.keep e17 rfl
  replace e18 : a.tmps[18]? = some _ := H.keep e18 rfl
  have e19 : a.tmps[19]? = some _ := H.got rfl rfl
  clear H
  refine hKq1 _ _ ?_
  clear hKq1 Kq1
  refine wp_seq_k fun Kq2 hKq2 => ?_
  refine wp_seq_k fun Kq3 hKq3 => ?_
  obtain ⟨g19, hg19⟩ : ∃ q, q = w.heap.size := ⟨_, rfl⟩
  rw [← hg19] at B19 e19
  have hgg19 : w.heap.size ≤ g19 := Nat.le_of_eq hg19.symm
  generalize (w.alloc (.cells #[.int .i64 0, .int .i64 0] 61)) = w1 at *
  clear hg19 hst
  refine sm_list [] 20 1 hs hd (by kernel_rfl) agN (by simp only [List.append_eq, List.cons_append, List.nil_append, List.map_cons, List.map_nil, reOper, reOp, reO, reC, reK, Option.map_some, Option.map_none, fS_ite, ix_ite, Nat.reduceLeDiff, Nat.reduceEqDiff, if_true, if_false, ↓reduceIte, List.length_cons, List.length_nil, Nat.reduceAdd, Nat.reduceSub, List.map_toArray]; rfl) ?_
  simp only [List.replicate_succ, List.replicate_zero, List.cons_append, List.nil_append, List.drop_succ_cons, List.drop_zero, List.take_succ_cons, List.take_zero]
  go_wp2_with fail
  intro a H
  replace hs := H.size.trans hs
  replace hd : a.defers = [] := H.defers
  replace e3 : a.tmps[3]? = some _ := H.keep e3 rfl
  replace e4 : a.tmps[4]? = some _ := H.keep e4 rfl
  replace e5 : a.tmps[5]? = some _ := H.keep e5 rfl
  replace e6 : a.tmps[6]? = some _ := H.keep e6 rfl
  replace e13 : a.tmps[13]? = some _ := H.keep e13 rfl
  replace e15 : a.tmps[15]? = some _ := H.keep e15 rfl
  replace e16 : a.tmps[16]? = some _ := H.keep e16 rfl
  replace e17 : a.tmps[17]? = some _ := H.keep e17 rfl
  replace e18 : a.tmps[18]? = some _ := H.keep e18 rfl
  replace e19 : a.tmps[19]? = some _ := H.keep e19 rfl
  have e20 : a.tmps[20]? = some _ := H.got rfl rfl
  clear H
  refine hKq3 _ _ ?_
  clear hKq3 Kq3
  refine wp_block ?_
  refine wp_loop (fun a w' => ∃ (i : Nat) (at_ t ex ey : Int), i ≤ h + 1 ∧ (0 ≤ t ∧ t ≤ 2147483648 + 4000000 * (i : Int)) ∧ a.tmps.size = 173 ∧ a.defers = [] ∧ a.tmps[3]? = some (.int .i64 (h : Int)) ∧ a.tmps[4]? = some (.int .i64 late) ∧ a.tmps[5]? = some (.int .i64 oa) ∧ a.tmps[6]? = some (.pointer (some ⟨g, 0, none⟩)) ∧ a.tmps[13]? = some (.pointer (some ⟨g13, 0, none⟩)) ∧ a.tmps[15]? = some (.pointer (some ⟨g15, 0, none⟩)) ∧ a.tmps[16]? = some (.slice Aq ks.length cq) ∧ a.tmps[19]? = some (.pointer (some ⟨g19, 0, none⟩)) ∧ a.tmps[20]? = some (.int .i64 (i : Int)) ∧ a.tmps[17]? = some (.int .i64 at_) ∧ a.tmps[18]? = some (.int .i64 t) ∧ Below w.heap.size w w' ∧ Blk w' g19 61 #[.int .i64 ex, .int .i64 ey] ∧ TInv C off f es.length es ks h i at_ t (ex, ey)) (fun a _ => h + 1 - (intOf (a.tmps.getD 20 undef)).toNat) ?_ ?_
  · exact ⟨0, f.src, T0, 0, 0, by omega, by omega, hs, hd, e3, e4, e5, e6, e13, e15, e16, e19, e20, e17, e18, LA, B19, hst0⟩
  clear hs hd e20 e17 e18 e3 e4 e5 e6 e13 e15 e16 e19 a LA B19 hst0
  rintro a w3 ⟨i, at_, t, ex, ey, hi, ⟨htA, htB⟩, hs, hd, e3, e4, e5, e6, e13, e15, e16, e19, e20, e17, e18, hb3, B19, hT⟩
  have HT := Lib.hid hT
  clear hT
  have hm := slot e20
  refine wp_seq_k fun Kq4 hKq4 => ?_
  refine wp_seq_k fun Kq5 hKq5 => ?_
  by_cases hlt : i ≤ h
  ·
    have dj : decide ((i : Int) ≤ (h : Int)) = true := decide_eq_true (by omega)
    have dj2 : decide (i ≤ h) = true := decide_eq_true hlt
    have ht := HT.out
    rcases ht with ⟨_, hstp, S1, low, high, hinv, hlo, hhi⟩ | ⟨he, _⟩
    rotate_left
    · omega
    obtain ⟨e, k, l, nxt, hop⟩ := steps_hop hstp (by omega)
    obtain ⟨hnb, hmem, S2, hinv2⟩ := hop_in hinv HOKK.out hop
    have hlw := HW.out.links l (List.mem_of_getElem? hop.hl)
    have hl1 := hlw.lo
    have hl2 := hlw.hi
    have hl3 := hlw.most
    have hne := HNE.out l (List.mem_of_getElem? hop.hl)
    have HOP := Lib.hid hop
    have HI2 := Lib.hid hinv2
    have HI1 := Lib.hid hinv
    have hkN := hop.hkl
    clear hstp hop hinv2 hmem hlw hinv
    have BC3 := BC.below hb3 hz
    have hC3 := hC.below (hb3.mono (Nat.le_of_lt hz))
    have hk3 := hk.below (hb3.mono (Nat.le_of_lt hz))
    obtain ⟨bd, hD, hbdb, hcd⟩ := reads_at lkc_len hC3.links HOP.out.hl hkN
    obtain ⟨ad2, u, hA2, hadb2, hu, hc2⟩ := hk3.at_ (k := i) (by omega)
    obtain ⟨kk, hkk, rfl⟩ := getElem?_map_some hu
    have hkk2 : kk = (k : Int) := by have h1 := HOP.out.hk; rw [hkk] at h1; exact Option.some.inj h1
    subst hkk2
    clear hkk hu
    have zg : g < w3.heap.size := Nat.lt_of_lt_of_le hz hb3.size
    have hlink : ∀ w', Below w3.heap.size w3 w' → ∀ j v, (lkc l).toArray.toList[j]? = some v → w'.cell? ((bd.add (k * 6)).add j) = some v := fun w' hw' j v hv => (hw'.cell (p := (bd.add (k * 6)).add j) (by rw [add_blk, add_blk]; omega)).trans (hcd j v (by simpa using hv))
    have hway : ∀ w', Below w3.heap.size w3 w' → w'.cell? (ad2.add i) = some (.int .i64 (k : Int)) := fun w' hw' => (hw'.cell (p := ad2.add i) (by rw [add_blk]; omega)).trans hc2
    have hw0 : ∀ w', Below w3.heap.size w3 w' → w'.cell? ⟨g, 1, none⟩ = some (.slice (some bd) C.links.length Y.L.c) := fun w' hw' => by rw [← hD]; exact (BC3.below hw' zg).cellOf 1 rfl
    have HALL := Lib.hid (And.intro hlink (And.intro hway hw0))
    have HA2 := Lib.hid hA2
    have hik : (i : Int) < (ks.length : Int) := by omega
    have hi0 : (0 : Int) ≤ (i : Int) := by omega
    have hk0 : (0 : Int) ≤ (k : Int) := by omega
    have hkM : (k : Int) < (C.links.length : Int) := by omega
    clear hlink hway hw0 hcd hc2 hD hA2
    rw [HA2.out] at e16
    refine sm_list [3, 20] 80 3 hs hd (by kernel_rfl) (agC e3 (agC e20 agN)) (by simp only [List.append_eq, List.cons_append, List.nil_append, List.map_cons, List.map_nil, reOper, reOp, reO, reC, reK, Option.map_some, Option.map_none, fS_ite, ix_ite, Nat.reduceLeDiff, Nat.reduceEqDiff, if_true, if_false, ↓reduceIte, List.length_cons, List.length_nil, Nat.reduceAdd, Nat.reduceSub, List.map_toArray]; rfl) ?_
    simp only [List.replicate_succ, List.replicate_zero, List.cons_append, List.nil_append, List.drop_succ_cons, List.drop_zero, List.take_succ_cons, List.take_zero]
    go_wp2_with fail
    intro a H
    replace hs := H.size.trans hs
    replace hd : a.defers = [] := H.defers
    replace e3 : a.tmps[3]? = some _ := H.got rfl rfl
    replace e4 : a.tmps[4]? = some _ := H.keep e4 rfl
    replace e5 : a.tmps[5]? = some _ := H.keep e5 rfl
    replace e6 : a.tmps[6]? = some _ := H.keep e6 rfl
    replace e13 : a.tmps[13]? = some _ := H.keep e13 rfl
    replace e15 : a.tmps[15]? = some _ := H.keep e15 rfl
    replace e16 : a.tmps[16]? = some _ := H.keep e16 rfl
    replace e19 : a.tmps[19]? = some _ := H.keep e19 rfl
    replace e20 : a.tmps[20]? = some _ := H.got rfl rfl
    replace e17 : a.tmps[17]? = some _ := H.keep e17 rfl
    replace e18 : a.tmps[18]? = some _ := H.keep e18 rfl
    have e82 : a.tmps[82]? = some _ := H.got rfl rfl
    clear H
    refine hKq5 _ _ ?_
    clear hKq5 Kq5
    refine wp_cond_true (slotE e82) ?_
    clear e82
    refine wp_skip ?_
    refine hKq4 _ _ ?_
    clear hKq4 Kq4
    refine wp_seq_k fun Kq6 hKq6 => ?_
    refine wp_block ?_
    refine wp_seq_k fun Kq7 hKq7 => ?_
    suffices HK : ∀ (a' : Act) (w8 : World), a'.tmps.size = a.tmps.size → a'.defers = [] → a'.tmps[3]? = a.tmps[3]? → a'.tmps[4]? = a.tmps[4]? → a'.tmps[5]? = a.tmps[5]? → a'.tmps[6]? = a.tmps[6]? → a'.tmps[13]? = a.tmps[13]? → a'.tmps[15]? = a.tmps[15]? → a'.tmps[16]? = a.tmps[16]? → a'.tmps[19]? = a.tmps[19]? → a'.tmps[20]? = a.tmps[20]? → a'.tmps[17]? = a.tmps[17]? → a'.tmps[18]? = a.tmps[18]? → a'.tmps[21]? = some (.pointer (some ⟨w3.heap.size, 0, none⟩)) → Blk w8 w3.heap.size 80 (lkc l).toArray → Below w3.heap.size w3 w8 → Kq7 a' w8 by
      refine sm_any [6, 16, 20, 21] 85 8 (by kernel_rfl) hs hd (by kernel_rfl) (agC e6 (agC e16 (agC e20 (agU agN)))) (by simp only [List.append_eq, List.cons_append, List.nil_append, List.map_cons, List.map_nil, reOper, reOp, reO, reC, reK, Option.map_some, Option.map_none, fS_ite, ix_ite, Nat.reduceLeDiff, Nat.reduceEqDiff, if_true, if_false, ↓reduceIte, List.length_cons, List.length_nil, Nat.reduceAdd, Nat.reduceSub, List.map_toArray]; rfl) (any_script [(0, true), (1, true), (2, true), (3, true), (4, true), (5, true), (6, true), (7, true), (8, false), (9, false)] (fun w' => Below w3.heap.size w3 w') (by kernel_rfl) (fun _ _ _ _ _ h => h) ((Below.refl _ _).drew) ?_)
      simp only [List.replicate_succ, List.replicate_zero, List.cons_append, List.nil_append, List.drop_succ_cons, List.drop_zero, List.take_succ_cons, List.take_zero]
      obtain ⟨we, hwe⟩ : ∃ we, we = w3.drew := ⟨_, rfl⟩
      have hLe : Below w3.heap.size w3 we := by rw [hwe]; exact (Below.refl _ _).drew
      have hze : we.heap.size = w3.heap.size := by rw [hwe]; rfl
      rw [← hwe]
      have HWE := Lib.hid hwe
      clear hwe
      repeat (first | (refine script_take (v := .agg ((lkc l).toArray)) rfl ?_ (fun w' hw' => run_load_cells_d 80 (.tmp 10) rfl (bd.add (k * 6)) rfl ((lkc l).toArray) (HALL.out.1 w' hw') Try.underlying80 rfl (by kernel_rfl)) ?_; (first | exact wanted_none rfl | exact wanted_on rfl rfl rfl); simp only [Act.put, List.setIfInBounds_toArray, List.set_cons_zero, List.set_cons_succ]) | (with_reducible (refine script_take (v := ?_) rfl ?_ ?_ ?_); rotate_left; (first | exact wanted_none rfl | exact wanted_on rfl rfl rfl); (rintro w' hw'; have q1 := HALL.out.2.1 w' hw'; have q2 := HALL.out.2.2 w' hw'; go_simp; with_reducible rfl); simp only [Act.put, List.setIfInBounds_toArray, List.set_cons_zero, List.set_cons_succ]))
      have hLf : Below w3.heap.size w3 (we.alloc (.cells (lkc l).toArray 80)) := hLe.alloc (Nat.le_of_eq hze.symm) _
      have hLz0 : Below w3.heap.size w3 (we.alloc (.cells #[.int .i64 0, .int .i64 0, .int .i64 0, .int .i64 0, .int .i64 0, .int .i64 0] 80)) := hLe.alloc (Nat.le_of_eq hze.symm) _
      (refine script_run (v := ?_) (w' := ?_) rfl ?_ ?_ ?_ ?_; rotate_left 2; (first | rfl | (go_simp; done)); (go_simp; refine ⟨?_, ?_⟩ <;> with_reducible rfl); (exact hLz0); simp only [Act.put, List.setIfInBounds_toArray, List.set_cons_zero, List.set_cons_succ])
      refine script_store_new rfl rfl 80 (.tmp 3) (.tmp 11) rfl rfl hze.symm rfl rfl (by kernel_rfl) (by rw [← Array.all_toList]; rfl) ⟨hLf, ?_⟩
      simp only [Act.put, List.setIfInBounds_toArray, List.set_cons_zero, List.set_cons_succ]
      refine script_nil ?_
      all_goals
        intro a' H
        refine HK a' _ H.size H.defers (H.out 3 rfl) (H.out 4 rfl) (H.out 5 rfl) ((H.got rfl rfl).trans e6.symm) (H.out 13 rfl) (H.out 15 rfl) ((H.got rfl rfl).trans e16.symm) (H.out 19 rfl) ((H.got rfl rfl).trans e20.symm) (H.out 17 rfl) (H.out 18 rfl) ?_ ?_ ?_
        · (refine (H.got (t := 21) rfl rfl).trans (congrArg some ?_); simp [hze])
        · exact Blk.at_new _ _ _ hze.symm
        · exact hLf
    intro a' w8 g_s g_d g3 g4 g5 g6 g13 g15 g16 g19 g20 g17 g18 f21 B21 b8
    replace hs := g_s.trans hs
    replace hd := g_d
    replace e3 := g3.trans e3
    replace e4 := g4.trans e4
    replace e5 := g5.trans e5
    replace e6 := g6.trans e6
    replace e13 := g13.trans e13
    replace e15 := g15.trans e15
    replace e16 := g16.trans e16
    replace e19 := g19.trans e19
    replace e20 := g20.trans e20
    replace e17 := g17.trans e17
    replace e18 := g18.trans e18
    clear g_s g_d g3 g4 g5 g6 g13 g15 g16 g19 g20 g17 g18
    have e21 := f21
    clear f21
    clear a
    obtain ⟨a, rfl⟩ : ∃ a, a = a' := ⟨_, rfl⟩
    refine hKq7 _ _ ?_
    clear hKq7 Kq7
    refine wp_seq_k fun Kq8 hKq8 => ?_
    rw [← HA2.out] at e16
    have hb8 := hb3.trans (b8.mono hb3.size)
    have BC8 := BC3.kept b8
    have B198 := B19.kept b8
    have B158 : Blk w8 g15 74 (fwc f sl).toArray := B15.kept hb8
    have hg19z : g19 < w3.heap.size := B19.lt
    obtain ⟨g21, hg21⟩ : ∃ q, q = w3.heap.size := ⟨_, rfl⟩
    rw [← hg21] at B21 e21 hg19z
    clear hg21 b8 BC3 B19 HALL hC3 hk3
    have y0 := B21.cellOf (v := .int .i64 l.n0) 0 rfl
    have y2 := B21.cellOf (v := .int .i64 l.n1) 2 rfl
    refine sm_list [] 22 1 hs hd (by kernel_rfl) agN (by simp only [List.append_eq, List.cons_append, List.nil_append, List.map_cons, List.map_nil, reOper, reOp, reO, reC, reK, Option.map_some, Option.map_none, fS_ite, ix_ite, Nat.reduceLeDiff, Nat.reduceEqDiff, if_true, if_false, ↓reduceIte, List.length_cons, List.length_nil, Nat.reduceAdd, Nat.reduceSub, List.map_toArray]; rfl) ?_
    simp only [List.replicate_succ, List.replicate_zero, List.cons_append, List.nil_append, List.drop_succ_cons, List.drop_zero, List.take_succ_cons, List.take_zero]
    go_wp2_with fail
    intro a H
    replace hs := H.size.trans hs
    replace hd : a.defers = [] := H.defers
    replace e3 : a.tmps[3]? = some _ := H.keep e3 rfl
    replace e4 : a.tmps[4]? = some _ := H.keep e4 rfl
    replace e5 : a.tmps[5]? = some _ := H.keep e5 rfl
    replace e6 : a.tmps[6]? = some _ := H.keep e6 rfl
    replace e13 : a.tmps[13]? = some _ := H.keep e13 rfl
    replace e15 : a.tmps[15]? = some _ := H.keep e15 rfl
    replace e16 : a.tmps[16]? = some _ := H.keep e16 rfl
    replace e19 : a.tmps[19]? = some _ := H.keep e19 rfl
    replace e20 : a.tmps[20]? = some _ := H.keep e20 rfl
    replace e17 : a.tmps[17]? = some _ := H.keep e17 rfl
    replace e18 : a.tmps[18]? = some _ := H.keep e18 rfl
    replace e21 : a.tmps[21]? = some _ := H.keep e21 rfl
    have e22 : a.tmps[22]? = some _ := H.got rfl rfl
    clear H
    refine hKq8 _ _ ?_
    clear hKq8 Kq8
    refine wp_seq_k fun Kq9 hKq9 => ?_
    refine wp_seq_k fun Kq10 hKq10 => ?_
    have hway := HOP.out.hway
    have hat := HOP.out.hat
    rcases hway with ⟨he, hnx⟩ | ⟨he, hn0, hnx⟩
    rotate_left
    · have hn1 : (l.n1 == at_) = true := by rw [← hat, he]; exact beq_self_eq_true _
      refine sm_list [17, 21] 93 6 hs hd (by kernel_rfl) (agC e17 (agC e21 agN)) (by simp only [List.append_eq, List.cons_append, List.nil_append, List.map_cons, List.map_nil, reOper, reOp, reO, reC, reK, Option.map_some, Option.map_none, fS_ite, ix_ite, Nat.reduceLeDiff, Nat.reduceEqDiff, if_true, if_false, ↓reduceIte, List.length_cons, List.length_nil, Nat.reduceAdd, Nat.reduceSub, List.map_toArray]; rfl) ?_
      simp only [List.replicate_succ, List.replicate_zero, List.cons_append, List.nil_append, List.drop_succ_cons, List.drop_zero, List.take_succ_cons, List.take_zero]
      go_wp2_with fail
      intro a H
      replace hs := H.size.trans hs
      replace hd : a.defers = [] := H.defers
      replace e3 : a.tmps[3]? = some _ := H.keep e3 rfl
      replace e4 : a.tmps[4]? = some _ := H.keep e4 rfl
      replace e5 : a.tmps[5]? = some _ := H.keep e5 rfl
      replace e6 : a.tmps[6]? = some _ := H.keep e6 rfl
      replace e13 : a.tmps[13]? = some _ := H.keep e13 rfl
      replace e15 : a.tmps[15]? = some _ := H.keep e15 rfl
      replace e16 : a.tmps[16]? = some _ := H.keep e16 rfl
      replace e19 : a.tmps[19]? = some _ := H.keep e19 rfl
      replace e20 : a.tmps[20]? = some _ := H.keep e20 rfl
      replace e17 : a.tmps[17]? = some _ := H.got rfl rfl
      replace e18 : a.tmps[18]? = some _ := H.keep e18 rfl
      replace e21 : a.tmps[21]? = some _ := H.got rfl rfl
      replace e22 : a.tmps[22]? = some _ := H.keep e22 rfl
      have e98 : a.tmps[98]? = some _ := H.got rfl rfl
      clear H
      refine hKq10 _ _ ?_
      clear hKq10 Kq10
      refine wp_cond_true (slotE e98) ?_
      clear e98
      refine sm_list [] 22 1 hs hd (by kernel_rfl) agN (by simp only [List.append_eq, List.cons_append, List.nil_append, List.map_cons, List.map_nil, reOper, reOp, reO, reC, reK, Option.map_some, Option.map_none, fS_ite, ix_ite, Nat.reduceLeDiff, Nat.reduceEqDiff, if_true, if_false, ↓reduceIte, List.length_cons, List.length_nil, Nat.reduceAdd, Nat.reduceSub, List.map_toArray]; rfl) ?_
      simp only [List.replicate_succ, List.replicate_zero, List.cons_append, List.nil_append, List.drop_succ_cons, List.drop_zero, List.take_succ_cons, List.take_zero]
      go_wp2_with fail
      intro a H
      replace hs := H.size.trans hs
      replace hd : a.defers = [] := H.defers
      replace e3 : a.tmps[3]? = some _ := H.keep e3 rfl
      replace e4 : a.tmps[4]? = some _ := H.keep e4 rfl
      replace e5 : a.tmps[5]? = some _ := H.keep e5 rfl
      replace e6 : a.tmps[6]? = some _ := H.keep e6 rfl
      replace e13 : a.tmps[13]? = some _ := H.keep e13 rfl
      replace e15 : a.tmps[15]? = some _ := H.keep e15 rfl
      replace e16 : a.tmps[16]? = some _ := H.keep e16 rfl
      replace e19 : a.tmps[19]? = some _ := H.keep e19 rfl
      replace e20 : a.tmps[20]? = some _ := H.keep e20 rfl
      replace e17 : a.tmps[17]? = some _ := H.keep e17 rfl
      replace e18 : a.tmps[18]? = some _ := H.keep e18 rfl
      replace e21 : a.tmps[21]? = some _ := H.keep e21 rfl
      replace e22 : a.tmps[22]? = some _ := H.got rfl rfl
      clear H
      refine hKq9 _ _ ?_
      clear hKq9 Kq9
      refine wp_seq_k fun Kq11 hKq11 => ?_
      clear hn1 y0 y2
      have HB19 := Lib.hid B198
      have HB21 := Lib.hid B21
      have hx2 : ∀ (j : Nat) (v : Value), (#[.int .i64 l.n1, .int .i64 l.p1] : Array Value).toList[j]? = some v → w8.cell? ((⟨g21, 2, none⟩ : Addr).add j) = some v := fun j v hv => by
        rcases j with _ | _ | j <;> simp at hv <;> subst hv
        · exact HB21.out.cellOf 2 rfl
        · exact HB21.out.cellOf 3 rfl
      have HX2 := Lib.hid hx2
      clear hx2
      refine sm_list [19, 21, 22] 99 4 hs hd (by kernel_rfl) (agC e19 (agC e21 (agC e22 agN))) (by simp only [List.append_eq, List.cons_append, List.nil_append, List.map_cons, List.map_nil, reOper, reOp, reO, reC, reK, Option.map_some, Option.map_none, fS_ite, ix_ite, Nat.reduceLeDiff, Nat.reduceEqDiff, if_true, if_false, ↓reduceIte, List.length_cons, List.length_nil, Nat.reduceAdd, Nat.reduceSub, List.map_toArray]; rfl) ?_
      simp only [List.replicate_succ, List.replicate_zero, List.cons_append, List.nil_append, List.drop_succ_cons, List.drop_zero, List.take_succ_cons, List.take_zero]
      go_wp2_with (first | (refine wpList_load_any_d rfl 61 (.tmp 5) rfl ⟨g21, 2, none⟩ rfl (#[.int .i64 l.n1, .int .i64 l.p1]) _ HX2.out Try.underlying61 rfl (by kernel_rfl) ?_) | (refine wpList_store_part rfl 61 (.tmp 0) (.tmp 6) rfl (off := 0) rfl HB19.out rfl (by simp) (by kernel_rfl) (by rw [← Array.all_toList]; rfl) ?_; intro w9 Bq zq grq) | fail)
      intro a H
      replace hs := H.size.trans hs
      replace hd : a.defers = [] := H.defers
      replace e3 : a.tmps[3]? = some _ := H.keep e3 rfl
      replace e4 : a.tmps[4]? = some _ := H.keep e4 rfl
      replace e5 : a.tmps[5]? = some _ := H.keep e5 rfl
      replace e6 : a.tmps[6]? = some _ := H.keep e6 rfl
      replace e13 : a.tmps[13]? = some _ := H.keep e13 rfl
      replace e15 : a.tmps[15]? = some _ := H.keep e15 rfl
      replace e16 : a.tmps[16]? = some _ := H.keep e16 rfl
      replace e19 : a.tmps[19]? = some _ := H.got rfl rfl
      replace e20 : a.tmps[20]? = some _ := H.keep e20 rfl
      replace e17 : a.tmps[17]? = some _ := H.keep e17 rfl
      replace e18 : a.tmps[18]? = some _ := H.keep e18 rfl
      replace e21 : a.tmps[21]? = some _ := H.got rfl rfl
      replace e22 : a.tmps[22]? = some _ := H.got rfl rfl
      clear H
      refine hKq11 _ _ ?_
      clear hKq11 Kq11
      refine wp_seq_k fun Kq12 hKq12 => ?_
      have B199 : Blk w9 g19 61 #[.int .i64 l.n1, .int .i64 l.p1] := by simpa [putAll] using Bq
      have B219 := HB21.out.grown grq (fun e => by injection e with e; omega)
      have hb9 := hb8.grown grq hb8.size (fun k hk => by cases hk; exact hgg19)
      have y0 := B219.cellOf (v := .int .i64 l.n0) 0 rfl
      have y2 := B219.cellOf (v := .int .i64 l.n1) 2 rfl
      have y4 := B219.cellOf (v := .int .i64 l.lo) 4 rfl
      have y5 := B219.cellOf (v := .int .i64 l.hi) 5 rfl
      have B159 : Blk w9 g15 74 (fwc f sl).toArray := B15.kept hb9
      have BC9 := BC.below hb9 hz
      have f6 := B159.cellOf (v := .int .i64 f.size) 6 rfl
      have c7 := BC9.cellOf (v := .int .i64 C.proc) 7 rfl
      clear HB19 HB21 HX2 Bq zq grq B198 B158 BC8
      refine sm_list [17, 21, 22] 103 6 hs hd (by kernel_rfl) (agC e17 (agC e21 (agC e22 agN))) (by simp only [List.append_eq, List.cons_append, List.nil_append, List.map_cons, List.map_nil, reOper, reOp, reO, reC, reK, Option.map_some, Option.map_none, fS_ite, ix_ite, Nat.reduceLeDiff, Nat.reduceEqDiff, if_true, if_false, ↓reduceIte, List.length_cons, List.length_nil, Nat.reduceAdd, Nat.reduceSub, List.map_toArray]; rfl) ?_
      simp only [List.replicate_succ, List.replicate_zero, List.cons_append, List.nil_append, List.drop_succ_cons, List.drop_zero, List.take_succ_cons, List.take_zero]
      go_wp2_with fail
      intro a H
      replace hs := H.size.trans hs
      replace hd : a.defers = [] := H.defers
      replace e3 : a.tmps[3]? = some _ := H.keep e3 rfl
      replace e4 : a.tmps[4]? = some _ := H.keep e4 rfl
      replace e5 : a.tmps[5]? = some _ := H.keep e5 rfl
      replace e6 : a.tmps[6]? = some _ := H.keep e6 rfl
      replace e13 : a.tmps[13]? = some _ := H.keep e13 rfl
      replace e15 : a.tmps[15]? = some _ := H.keep e15 rfl
      replace e16 : a.tmps[16]? = some _ := H.keep e16 rfl
      replace e19 : a.tmps[19]? = some _ := H.keep e19 rfl
      replace e20 : a.tmps[20]? = some _ := H.keep e20 rfl
      replace e18 : a.tmps[18]? = some _ := H.keep e18 rfl
      replace e21 : a.tmps[21]? = some _ := H.got rfl rfl
      replace e22 : a.tmps[22]? = some _ := H.got rfl rfl
      replace e17 : a.tmps[17]? = some _ := H.got rfl rfl
      clear H
      refine hKq12 _ _ ?_
      clear hKq12 Kq12
      refine wp_seq_k fun Kq13 hKq13 => ?_
      rw [← hnx] at e17
      have hee : e = (l.n1, l.p1) := he
      have HEE := Lib.hid hee
      clear hee he hnx hat
      by_cases hih : i < h
      · have di : decide ((i : Int) < (h : Int)) = true := decide_eq_true (by omega)
        have di2 : decide (i < h) = true := decide_eq_true hih
        refine sm_list [3, 20] 109 3 hs hd (by kernel_rfl) (agC e3 (agC e20 agN)) (by simp only [List.append_eq, List.cons_append, List.nil_append, List.map_cons, List.map_nil, reOper, reOp, reO, reC, reK, Option.map_some, Option.map_none, fS_ite, ix_ite, Nat.reduceLeDiff, Nat.reduceEqDiff, if_true, if_false, ↓reduceIte, List.length_cons, List.length_nil, Nat.reduceAdd, Nat.reduceSub, List.map_toArray]; rfl) ?_
        simp only [List.replicate_succ, List.replicate_zero, List.cons_append, List.nil_append, List.drop_succ_cons, List.drop_zero, List.take_succ_cons, List.take_zero]
        go_wp2_with fail
        intro a H
        replace hs := H.size.trans hs
        replace hd : a.defers = [] := H.defers
        replace e3 : a.tmps[3]? = some _ := H.got rfl rfl
        replace e4 : a.tmps[4]? = some _ := H.keep e4 rfl
        replace e5 : a.tmps[5]? = some _ := H.keep e5 rfl
        replace e6 : a.tmps[6]? = some _ := H.keep e6 rfl
        replace e13 : a.tmps[13]? = some _ := H.keep e13 rfl
        replace e15 : a.tmps[15]? = some _ := H.keep e15 rfl
        replace e16 : a.tmps[16]? = some _ := H.keep e16 rfl
        replace e19 : a.tmps[19]? = some _ := H.keep e19 rfl
        replace e20 : a.tmps[20]? = some _ := H.got rfl rfl
        replace e18 : a.tmps[18]? = some _ := H.keep e18 rfl
        replace e21 : a.tmps[21]? = some _ := H.keep e21 rfl
        replace e22 : a.tmps[22]? = some _ := H.keep e22 rfl
        replace e17 : a.tmps[17]? = some _ := H.keep e17 rfl
        have e111 : a.tmps[111]? = some _ := H.got rfl rfl
        clear H
        refine hKq13 _ _ ?_
        clear hKq13 Kq13
        refine wp_cond_true (slotE e111) ?_
        clear e111
        refine wp_seq_k fun Kq14 hKq14 => ?_
        refine sm_list [6, 15, 18, 21] 112 11 hs hd (by kernel_rfl) (agC e6 (agC e15 (agC e18 (agC e21 agN)))) (by simp only [List.append_eq, List.cons_append, List.nil_append, List.map_cons, List.map_nil, reOper, reOp, reO, reC, reK, Option.map_some, Option.map_none, fS_ite, ix_ite, Nat.reduceLeDiff, Nat.reduceEqDiff, if_true, if_false, ↓reduceIte, List.length_cons, List.length_nil, Nat.reduceAdd, Nat.reduceSub, List.map_toArray]; rfl) ?_
        simp only [List.replicate_succ, List.replicate_zero, List.cons_append, List.nil_append, List.drop_succ_cons, List.drop_zero, List.take_succ_cons, List.take_zero]
        go_wp2_with fail
        intro a H
        replace hs := H.size.trans hs
        replace hd : a.defers = [] := H.defers
        replace e3 : a.tmps[3]? = some _ := H.keep e3 rfl
        replace e4 : a.tmps[4]? = some _ := H.keep e4 rfl
        replace e5 : a.tmps[5]? = some _ := H.keep e5 rfl
        replace e6 : a.tmps[6]? = some _ := H.got rfl rfl
        replace e13 : a.tmps[13]? = some _ := H.keep e13 rfl
        replace e15 : a.tmps[15]? = some _ := H.got rfl rfl
        replace e16 : a.tmps[16]? = some _ := H.keep e16 rfl
        replace e19 : a.tmps[19]? = some _ := H.keep e19 rfl
        replace e20 : a.tmps[20]? = some _ := H.keep e20 rfl
        replace e21 : a.tmps[21]? = some _ := H.got rfl rfl
        replace e22 : a.tmps[22]? = some _ := H.keep e22 rfl
        replace e17 : a.tmps[17]? = some _ := H.keep e17 rfl
        replace e18 : a.tmps[18]? = some _ := H.got rfl rfl
        clear H
        refine hKq14 _ _ ?_
        clear hKq14 Kq14
        refine wp_seq_k fun Kq15 hKq15 => ?_
        obtain ⟨t1, ht1e⟩ : ∃ z, z = t + (8 * f.size + C.proc + l.lo) := ⟨_, rfl⟩
        rw [← ht1e] at e18
        have ht1b : 0 ≤ t1 ∧ t1 ≤ 2147483648 + 4000000 * (i : Int) + 2200000 := by omega
        have HT1 := Lib.hid ht1e
        clear ht1e c7 f6
        by_cases hgt : l.lo < l.hi
        · have dg : decide (l.lo < l.hi) = true := decide_eq_true hgt
          refine sm_list [21] 123 5 hs hd (by kernel_rfl) (agC e21 agN) (by simp only [List.append_eq, List.cons_append, List.nil_append, List.map_cons, List.map_nil, reOper, reOp, reO, reC, reK, Option.map_some, Option.map_none, fS_ite, ix_ite, Nat.reduceLeDiff, Nat.reduceEqDiff, if_true, if_false, ↓reduceIte, List.length_cons, List.length_nil, Nat.reduceAdd, Nat.reduceSub, List.map_toArray]; rfl) ?_
          simp only [List.replicate_succ, List.replicate_zero, List.cons_append, List.nil_append, List.drop_succ_cons, List.drop_zero, List.take_succ_cons, List.take_zero]
          go_wp2_with fail
          intro a H
          replace hs := H.size.trans hs
          replace hd : a.defers = [] := H.defers
          replace e3 : a.tmps[3]? = some _ := H.keep e3 rfl
          replace e4 : a.tmps[4]? = some _ := H.keep e4 rfl
          replace e5 : a.tmps[5]? = some _ := H.keep e5 rfl
          replace e6 : a.tmps[6]? = some _ := H.keep e6 rfl
          replace e13 : a.tmps[13]? = some _ := H.keep e13 rfl
          replace e15 : a.tmps[15]? = some _ := H.keep e15 rfl
          replace e16 : a.tmps[16]? = some _ := H.keep e16 rfl
          replace e19 : a.tmps[19]? = some _ := H.keep e19 rfl
          replace e20 : a.tmps[20]? = some _ := H.keep e20 rfl
          replace e21 : a.tmps[21]? = some _ := H.got rfl rfl
          replace e22 : a.tmps[22]? = some _ := H.keep e22 rfl
          replace e17 : a.tmps[17]? = some _ := H.keep e17 rfl
          replace e18 : a.tmps[18]? = some _ := H.keep e18 rfl
          have e127 : a.tmps[127]? = some _ := H.got rfl rfl
          clear H
          refine hKq15 _ _ ?_
          clear hKq15 Kq15
          refine wp_cond_true (slotE e127) ?_
          clear e127
          obtain ⟨m8, hm8, hm80, hm81⟩ := and_mask (i : Int) 3 7 rfl (by omega)
          obtain ⟨msk, hmsk, hmb⟩ : ∃ m : Int → Int, (∀ Z, bits .and .i64 Z 65535 = m Z) ∧ ∀ Z, 0 ≤ m Z ∧ m Z ≤ 65535 := ⟨fun Z => bits .and .i64 Z 65535, fun _ => rfl, fun Z => by obtain ⟨x, h1, h2, h3⟩ := and_mask Z 16 65535 rfl (by omega); show 0 ≤ bits .and .i64 Z 65535 ∧ bits .and .i64 Z 65535 ≤ 65535; rw [h1]; exact ⟨h2, h3⟩⟩
          have hdz : l.hi - l.lo + 1 ≠ 0 := by omega
          have HMB := Lib.hid hmb
          clear hmb
          refine sm_list [4, 18, 20, 21] 128 15 hs hd (by kernel_rfl) (agC e4 (agC e18 (agC e20 (agC e21 agN)))) (by simp only [List.append_eq, List.cons_append, List.nil_append, List.map_cons, List.map_nil, reOper, reOp, reO, reC, reK, Option.map_some, Option.map_none, fS_ite, ix_ite, Nat.reduceLeDiff, Nat.reduceEqDiff, if_true, if_false, ↓reduceIte, List.length_cons, List.length_nil, Nat.reduceAdd, Nat.reduceSub, List.map_toArray]; rfl) ?_
          simp only [List.replicate_succ, List.replicate_zero, List.cons_append, List.nil_append, List.drop_succ_cons, List.drop_zero, List.take_succ_cons, List.take_zero]
          go_wp2_with fail
          intro a H
          replace hs := H.size.trans hs
          replace hd : a.defers = [] := H.defers
          replace e3 : a.tmps[3]? = some _ := H.keep e3 rfl
          replace e4 : a.tmps[4]? = some _ := H.got rfl rfl
          replace e5 : a.tmps[5]? = some _ := H.keep e5 rfl
          replace e6 : a.tmps[6]? = some _ := H.keep e6 rfl
          replace e13 : a.tmps[13]? = some _ := H.keep e13 rfl
          replace e15 : a.tmps[15]? = some _ := H.keep e15 rfl
          replace e16 : a.tmps[16]? = some _ := H.keep e16 rfl
          replace e19 : a.tmps[19]? = some _ := H.keep e19 rfl
          replace e20 : a.tmps[20]? = some _ := H.got rfl rfl
          replace e21 : a.tmps[21]? = some _ := H.got rfl rfl
          replace e22 : a.tmps[22]? = some _ := H.keep e22 rfl
          replace e17 : a.tmps[17]? = some _ := H.keep e17 rfl
          replace e18 : a.tmps[18]? = some _ := H.got rfl rfl
          clear H
          refine hKq6 _ _ ?_
          clear hKq6 Kq6
          have hrr : 0 ≤ (msk (late / 2 ^ m8.toNat)).tmod (l.hi - l.lo + 1) ∧ (msk (late / 2 ^ m8.toNat)).tmod (l.hi - l.lo + 1) < l.hi - l.lo + 1 := ⟨Int.tmod_nonneg _ (HMB.out _).1, Int.tmod_lt_of_pos _ (by omega)⟩
          generalize (msk (late / 2 ^ m8.toNat)).tmod (l.hi - l.lo + 1) = rr at e18 hrr
          have hwr : RowKit.wrap64 (t1 + rr) = t1 + rr := IntWalk.wrap64_in _ ⟨by omega, by omega⟩
          rw [hwr] at e18
          clear hwr hm8 hmsk hdz dg y4 y5
          clear e21
          clear e22
          refine sm_list [20] 83 2 hs hd (by kernel_rfl) (agC e20 agN) (by simp only [List.append_eq, List.cons_append, List.nil_append, List.map_cons, List.map_nil, reOper, reOp, reO, reC, reK, Option.map_some, Option.map_none, fS_ite, ix_ite, Nat.reduceLeDiff, Nat.reduceEqDiff, if_true, if_false, ↓reduceIte, List.length_cons, List.length_nil, Nat.reduceAdd, Nat.reduceSub, List.map_toArray]; rfl) ?_
          simp only [List.replicate_succ, List.replicate_zero, List.cons_append, List.nil_append, List.drop_succ_cons, List.drop_zero, List.take_succ_cons, List.take_zero]
          go_wp2_with fail
          intro a H
          replace hs := H.size.trans hs
          replace hd : a.defers = [] := H.defers
          replace e3 : a.tmps[3]? = some _ := H.keep e3 rfl
          replace e4 : a.tmps[4]? = some _ := H.keep e4 rfl
          replace e5 : a.tmps[5]? = some _ := H.keep e5 rfl
          replace e6 : a.tmps[6]? = some _ := H.keep e6 rfl
          replace e13 : a.tmps[13]? = some _ := H.keep e13 rfl
          replace e15 : a.tmps[15]? = some _ := H.keep e15 rfl
          replace e16 : a.tmps[16]? = some _ := H.keep e16 rfl
          replace e19 : a.tmps[19]? = some _ := H.keep e19 rfl
          replace e17 : a.tmps[17]? = some _ := H.keep e17 rfl
          replace e18 : a.tmps[18]? = some _ := H.keep e18 rfl
          replace e20 : a.tmps[20]? = some _ := H.got rfl rfl
          clear H
          have hfin : TInv C off f es.length es ks h (i + 1) nxt (t1 + rr) (l.n1, l.p1) := .inl ⟨by omega, HOP.out.hrest, S2, _, _, HI2.out, by rw [if_pos (by omega)]; have := HT1.out; omega, by rw [if_pos (by omega)]; have := HT1.out; omega⟩
          exact ⟨⟨i + 1, nxt, (t1 + rr), l.n1, l.p1, by omega, by omega, hs, hd, e3, e4, e5, e6, e13, e15, e16, e19, e20, e17, e18, hb9, B199, hfin⟩, by first | (simp only [hm, slot e20, intOf]; omega) | (simp [e20, intOf]; omega)⟩
        · have dg : decide (l.lo < l.hi) = false := decide_eq_false hgt
          refine sm_list [21] 123 5 hs hd (by kernel_rfl) (agC e21 agN) (by simp only [List.append_eq, List.cons_append, List.nil_append, List.map_cons, List.map_nil, reOper, reOp, reO, reC, reK, Option.map_some, Option.map_none, fS_ite, ix_ite, Nat.reduceLeDiff, Nat.reduceEqDiff, if_true, if_false, ↓reduceIte, List.length_cons, List.length_nil, Nat.reduceAdd, Nat.reduceSub, List.map_toArray]; rfl) ?_
          simp only [List.replicate_succ, List.replicate_zero, List.cons_append, List.nil_append, List.drop_succ_cons, List.drop_zero, List.take_succ_cons, List.take_zero]
          go_wp2_with fail
          intro a H
          replace hs := H.size.trans hs
          replace hd : a.defers = [] := H.defers
          replace e3 : a.tmps[3]? = some _ := H.keep e3 rfl
          replace e4 : a.tmps[4]? = some _ := H.keep e4 rfl
          replace e5 : a.tmps[5]? = some _ := H.keep e5 rfl
          replace e6 : a.tmps[6]? = some _ := H.keep e6 rfl
          replace e13 : a.tmps[13]? = some _ := H.keep e13 rfl
          replace e15 : a.tmps[15]? = some _ := H.keep e15 rfl
          replace e16 : a.tmps[16]? = some _ := H.keep e16 rfl
          replace e19 : a.tmps[19]? = some _ := H.keep e19 rfl
          replace e20 : a.tmps[20]? = some _ := H.keep e20 rfl
          replace e21 : a.tmps[21]? = some _ := H.got rfl rfl
          replace e22 : a.tmps[22]? = some _ := H.keep e22 rfl
          replace e17 : a.tmps[17]? = some _ := H.keep e17 rfl
          replace e18 : a.tmps[18]? = some _ := H.keep e18 rfl
          have e127 : a.tmps[127]? = some _ := H.got rfl rfl
          clear H
          refine hKq15 _ _ ?_
          clear hKq15 Kq15
          refine wp_cond_false (slotE e127) ?_
          clear e127
          refine wp_skip ?_
          refine hKq6 _ _ ?_
          clear hKq6 Kq6
          clear dg y4 y5
          clear e21
          clear e22
          refine sm_list [20] 83 2 hs hd (by kernel_rfl) (agC e20 agN) (by simp only [List.append_eq, List.cons_append, List.nil_append, List.map_cons, List.map_nil, reOper, reOp, reO, reC, reK, Option.map_some, Option.map_none, fS_ite, ix_ite, Nat.reduceLeDiff, Nat.reduceEqDiff, if_true, if_false, ↓reduceIte, List.length_cons, List.length_nil, Nat.reduceAdd, Nat.reduceSub, List.map_toArray]; rfl) ?_
          simp only [List.replicate_succ, List.replicate_zero, List.cons_append, List.nil_append, List.drop_succ_cons, List.drop_zero, List.take_succ_cons, List.take_zero]
          go_wp2_with fail
          intro a H
          replace hs := H.size.trans hs
          replace hd : a.defers = [] := H.defers
          replace e3 : a.tmps[3]? = some _ := H.keep e3 rfl
          replace e4 : a.tmps[4]? = some _ := H.keep e4 rfl
          replace e5 : a.tmps[5]? = some _ := H.keep e5 rfl
          replace e6 : a.tmps[6]? = some _ := H.keep e6 rfl
          replace e13 : a.tmps[13]? = some _ := H.keep e13 rfl
          replace e15 : a.tmps[15]? = some _ := H.keep e15 rfl
          replace e16 : a.tmps[16]? = some _ := H.keep e16 rfl
          replace e19 : a.tmps[19]? = some _ := H.keep e19 rfl
          replace e17 : a.tmps[17]? = some _ := H.keep e17 rfl
          replace e18 : a.tmps[18]? = some _ := H.keep e18 rfl
          replace e20 : a.tmps[20]? = some _ := H.got rfl rfl
          clear H
          have hfin : TInv C off f es.length es ks h (i + 1) nxt t1 (l.n1, l.p1) := .inl ⟨by omega, HOP.out.hrest, S2, _, _, HI2.out, by rw [if_pos (by omega)]; have := HT1.out; omega, by rw [if_pos (by omega)]; have := HT1.out; omega⟩
          exact ⟨⟨i + 1, nxt, t1, l.n1, l.p1, by omega, by omega, hs, hd, e3, e4, e5, e6, e13, e15, e16, e19, e20, e17, e18, hb9, B199, hfin⟩, by first | (simp only [hm, slot e20, intOf]; omega) | (simp [e20, intOf]; omega)⟩
      · have di : decide ((i : Int) < (h : Int)) = false := decide_eq_false (by omega)
        have di2 : decide (i < h) = false := decide_eq_false hih
        refine sm_list [3, 20] 109 3 hs hd (by kernel_rfl) (agC e3 (agC e20 agN)) (by simp only [List.append_eq, List.cons_append, List.nil_append, List.map_cons, List.map_nil, reOper, reOp, reO, reC, reK, Option.map_some, Option.map_none, fS_ite, ix_ite, Nat.reduceLeDiff, Nat.reduceEqDiff, if_true, if_false, ↓reduceIte, List.length_cons, List.length_nil, Nat.reduceAdd, Nat.reduceSub, List.map_toArray]; rfl) ?_
        simp only [List.replicate_succ, List.replicate_zero, List.cons_append, List.nil_append, List.drop_succ_cons, List.drop_zero, List.take_succ_cons, List.take_zero]
        go_wp2_with fail
        intro a H
        replace hs := H.size.trans hs
        replace hd : a.defers = [] := H.defers
        replace e3 : a.tmps[3]? = some _ := H.got rfl rfl
        replace e4 : a.tmps[4]? = some _ := H.keep e4 rfl
        replace e5 : a.tmps[5]? = some _ := H.keep e5 rfl
        replace e6 : a.tmps[6]? = some _ := H.keep e6 rfl
        replace e13 : a.tmps[13]? = some _ := H.keep e13 rfl
        replace e15 : a.tmps[15]? = some _ := H.keep e15 rfl
        replace e16 : a.tmps[16]? = some _ := H.keep e16 rfl
        replace e19 : a.tmps[19]? = some _ := H.keep e19 rfl
        replace e20 : a.tmps[20]? = some _ := H.got rfl rfl
        replace e18 : a.tmps[18]? = some _ := H.keep e18 rfl
        replace e21 : a.tmps[21]? = some _ := H.keep e21 rfl
        replace e22 : a.tmps[22]? = some _ := H.keep e22 rfl
        replace e17 : a.tmps[17]? = some _ := H.keep e17 rfl
        have e111 : a.tmps[111]? = some _ := H.got rfl rfl
        clear H
        refine hKq13 _ _ ?_
        clear hKq13 Kq13
        refine wp_cond_false (slotE e111) ?_
        clear e111
        refine wp_skip ?_
        refine hKq6 _ _ ?_
        clear hKq6 Kq6
        clear e21
        clear e22
        refine sm_list [20] 83 2 hs hd (by kernel_rfl) (agC e20 agN) (by simp only [List.append_eq, List.cons_append, List.nil_append, List.map_cons, List.map_nil, reOper, reOp, reO, reC, reK, Option.map_some, Option.map_none, fS_ite, ix_ite, Nat.reduceLeDiff, Nat.reduceEqDiff, if_true, if_false, ↓reduceIte, List.length_cons, List.length_nil, Nat.reduceAdd, Nat.reduceSub, List.map_toArray]; rfl) ?_
        simp only [List.replicate_succ, List.replicate_zero, List.cons_append, List.nil_append, List.drop_succ_cons, List.drop_zero, List.take_succ_cons, List.take_zero]
        go_wp2_with fail
        intro a H
        replace hs := H.size.trans hs
        replace hd : a.defers = [] := H.defers
        replace e3 : a.tmps[3]? = some _ := H.keep e3 rfl
        replace e4 : a.tmps[4]? = some _ := H.keep e4 rfl
        replace e5 : a.tmps[5]? = some _ := H.keep e5 rfl
        replace e6 : a.tmps[6]? = some _ := H.keep e6 rfl
        replace e13 : a.tmps[13]? = some _ := H.keep e13 rfl
        replace e15 : a.tmps[15]? = some _ := H.keep e15 rfl
        replace e16 : a.tmps[16]? = some _ := H.keep e16 rfl
        replace e19 : a.tmps[19]? = some _ := H.keep e19 rfl
        replace e18 : a.tmps[18]? = some _ := H.keep e18 rfl
        replace e17 : a.tmps[17]? = some _ := H.keep e17 rfl
        replace e20 : a.tmps[20]? = some _ := H.got rfl rfl
        clear H
        have hih2 : i = h := by omega
        have hfin : TInv C off f es.length es ks h (i + 1) nxt t (l.n1, l.p1) := .inr ⟨by omega, by rw [← hih2, ← HEE.out]; exact HOP.out.he, S1, low, high, by rw [← hih2]; exact HI1.out, hlo, hhi⟩
        clear hih2
        exact ⟨⟨i + 1, nxt, t, l.n1, l.p1, by omega, by omega, hs, hd, e3, e4, e5, e6, e13, e15, e16, e19, e20, e17, e18, hb9, B199, hfin⟩, by first | (simp only [hm, slot e20, intOf]; omega) | (simp [e20, intOf]; omega)⟩
    · have hn1 : (l.n1 == at_) = false := by rw [← hat, he]; exact beq_eq_false_iff_ne.2 (fun h => hne h.symm)
      refine sm_list [17, 21] 93 6 hs hd (by kernel_rfl) (agC e17 (agC e21 agN)) (by simp only [List.append_eq, List.cons_append, List.nil_append, List.map_cons, List.map_nil, reOper, reOp, reO, reC, reK, Option.map_some, Option.map_none, fS_ite, ix_ite, Nat.reduceLeDiff, Nat.reduceEqDiff, if_true, if_false, ↓reduceIte, List.length_cons, List.length_nil, Nat.reduceAdd, Nat.reduceSub, List.map_toArray]; rfl) ?_
      simp only [List.replicate_succ, List.replicate_zero, List.cons_append, List.nil_append, List.drop_succ_cons, List.drop_zero, List.take_succ_cons, List.take_zero]
      go_wp2_with fail
      intro a H
      replace hs := H.size.trans hs
      replace hd : a.defers = [] := H.defers
      replace e3 : a.tmps[3]? = some _ := H.keep e3 rfl
      replace e4 : a.tmps[4]? = some _ := H.keep e4 rfl
      replace e5 : a.tmps[5]? = some _ := H.keep e5 rfl
      replace e6 : a.tmps[6]? = some _ := H.keep e6 rfl
      replace e13 : a.tmps[13]? = some _ := H.keep e13 rfl
      replace e15 : a.tmps[15]? = some _ := H.keep e15 rfl
      replace e16 : a.tmps[16]? = some _ := H.keep e16 rfl
      replace e19 : a.tmps[19]? = some _ := H.keep e19 rfl
      replace e20 : a.tmps[20]? = some _ := H.keep e20 rfl
      replace e17 : a.tmps[17]? = some _ := H.got rfl rfl
      replace e18 : a.tmps[18]? = some _ := H.keep e18 rfl
      replace e21 : a.tmps[21]? = some _ := H.got rfl rfl
      replace e22 : a.tmps[22]? = some _ := H.keep e22 rfl
      have e98 : a.tmps[98]? = some _ := H.got rfl rfl
      clear H
      refine hKq10 _ _ ?_
      clear hKq10 Kq10
      refine wp_cond_false (slotE e98) ?_
      clear e98
      refine wp_skip ?_
      refine hKq9 _ _ ?_
      clear hKq9 Kq9
      refine wp_seq_k fun Kq11 hKq11 => ?_
      clear hn1 y0 y2
      have HB19 := Lib.hid B198
      have HB21 := Lib.hid B21
      have hx2 : ∀ (j : Nat) (v : Value), (#[.int .i64 l.n0, .int .i64 l.p0] : Array Value).toList[j]? = some v → w8.cell? ((⟨g21, 0, none⟩ : Addr).add j) = some v := fun j v hv => by
        rcases j with _ | _ | j <;> simp at hv <;> subst hv
        · exact HB21.out.cellOf 0 rfl
        · exact HB21.out.cellOf 1 rfl
      have HX2 := Lib.hid hx2
      clear hx2
      refine sm_list [19, 21, 22] 99 4 hs hd (by kernel_rfl) (agC e19 (agC e21 (agC e22 agN))) (by simp only [List.append_eq, List.cons_append, List.nil_append, List.map_cons, List.map_nil, reOper, reOp, reO, reC, reK, Option.map_some, Option.map_none, fS_ite, ix_ite, Nat.reduceLeDiff, Nat.reduceEqDiff, if_true, if_false, ↓reduceIte, List.length_cons, List.length_nil, Nat.reduceAdd, Nat.reduceSub, List.map_toArray]; rfl) ?_
      simp only [List.replicate_succ, List.replicate_zero, List.cons_append, List.nil_append, List.drop_succ_cons, List.drop_zero, List.take_succ_cons, List.take_zero]
      go_wp2_with (first | (refine wpList_load_any_d rfl 61 (.tmp 5) rfl ⟨g21, 0, none⟩ rfl (#[.int .i64 l.n0, .int .i64 l.p0]) _ HX2.out Try.underlying61 rfl (by kernel_rfl) ?_) | (refine wpList_store_part rfl 61 (.tmp 0) (.tmp 6) rfl (off := 0) rfl HB19.out rfl (by simp) (by kernel_rfl) (by rw [← Array.all_toList]; rfl) ?_; intro w9 Bq zq grq) | fail)
      intro a H
      replace hs := H.size.trans hs
      replace hd : a.defers = [] := H.defers
      replace e3 : a.tmps[3]? = some _ := H.keep e3 rfl
      replace e4 : a.tmps[4]? = some _ := H.keep e4 rfl
      replace e5 : a.tmps[5]? = some _ := H.keep e5 rfl
      replace e6 : a.tmps[6]? = some _ := H.keep e6 rfl
      replace e13 : a.tmps[13]? = some _ := H.keep e13 rfl
      replace e15 : a.tmps[15]? = some _ := H.keep e15 rfl
      replace e16 : a.tmps[16]? = some _ := H.keep e16 rfl
      replace e19 : a.tmps[19]? = some _ := H.got rfl rfl
      replace e20 : a.tmps[20]? = some _ := H.keep e20 rfl
      replace e17 : a.tmps[17]? = some _ := H.keep e17 rfl
      replace e18 : a.tmps[18]? = some _ := H.keep e18 rfl
      replace e21 : a.tmps[21]? = some _ := H.got rfl rfl
      replace e22 : a.tmps[22]? = some _ := H.got rfl rfl
      clear H
      refine hKq11 _ _ ?_
      clear hKq11 Kq11
      refine wp_seq_k fun Kq12 hKq12 => ?_
      have B199 : Blk w9 g19 61 #[.int .i64 l.n0, .int .i64 l.p0] := by simpa [putAll] using Bq
      have B219 := HB21.out.grown grq (fun e => by injection e with e; omega)
      have hb9 := hb8.grown grq hb8.size (fun k hk => by cases hk; exact hgg19)
      have y0 := B219.cellOf (v := .int .i64 l.n0) 0 rfl
      have y2 := B219.cellOf (v := .int .i64 l.n1) 2 rfl
      have y4 := B219.cellOf (v := .int .i64 l.lo) 4 rfl
      have y5 := B219.cellOf (v := .int .i64 l.hi) 5 rfl
      have B159 : Blk w9 g15 74 (fwc f sl).toArray := B15.kept hb9
      have BC9 := BC.below hb9 hz
      have f6 := B159.cellOf (v := .int .i64 f.size) 6 rfl
      have c7 := BC9.cellOf (v := .int .i64 C.proc) 7 rfl
      clear HB19 HB21 HX2 Bq zq grq B198 B158 BC8
      refine sm_list [17, 21, 22] 103 6 hs hd (by kernel_rfl) (agC e17 (agC e21 (agC e22 agN))) (by simp only [List.append_eq, List.cons_append, List.nil_append, List.map_cons, List.map_nil, reOper, reOp, reO, reC, reK, Option.map_some, Option.map_none, fS_ite, ix_ite, Nat.reduceLeDiff, Nat.reduceEqDiff, if_true, if_false, ↓reduceIte, List.length_cons, List.length_nil, Nat.reduceAdd, Nat.reduceSub, List.map_toArray]; rfl) ?_
      simp only [List.replicate_succ, List.replicate_zero, List.cons_append, List.nil_append, List.drop_succ_cons, List.drop_zero, List.take_succ_cons, List.take_zero]
      go_wp2_with fail
      intro a H
      replace hs := H.size.trans hs
      replace hd : a.defers = [] := H.defers
      replace e3 : a.tmps[3]? = some _ := H.keep e3 rfl
      replace e4 : a.tmps[4]? = some _ := H.keep e4 rfl
      replace e5 : a.tmps[5]? = some _ := H.keep e5 rfl
      replace e6 : a.tmps[6]? = some _ := H.keep e6 rfl
      replace e13 : a.tmps[13]? = some _ := H.keep e13 rfl
      replace e15 : a.tmps[15]? = some _ := H.keep e15 rfl
      replace e16 : a.tmps[16]? = some _ := H.keep e16 rfl
      replace e19 : a.tmps[19]? = some _ := H.keep e19 rfl
      replace e20 : a.tmps[20]? = some _ := H.keep e20 rfl
      replace e18 : a.tmps[18]? = some _ := H.keep e18 rfl
      replace e21 : a.tmps[21]? = some _ := H.got rfl rfl
      replace e22 : a.tmps[22]? = some _ := H.got rfl rfl
      replace e17 : a.tmps[17]? = some _ := H.got rfl rfl
      clear H
      refine hKq12 _ _ ?_
      clear hKq12 Kq12
      refine wp_seq_k fun Kq13 hKq13 => ?_
      rw [← hnx] at e17
      have hee : e = (l.n0, l.p0) := he
      have HEE := Lib.hid hee
      clear hee he hnx hat
      by_cases hih : i < h
      · have di : decide ((i : Int) < (h : Int)) = true := decide_eq_true (by omega)
        have di2 : decide (i < h) = true := decide_eq_true hih
        refine sm_list [3, 20] 109 3 hs hd (by kernel_rfl) (agC e3 (agC e20 agN)) (by simp only [List.append_eq, List.cons_append, List.nil_append, List.map_cons, List.map_nil, reOper, reOp, reO, reC, reK, Option.map_some, Option.map_none, fS_ite, ix_ite, Nat.reduceLeDiff, Nat.reduceEqDiff, if_true, if_false, ↓reduceIte, List.length_cons, List.length_nil, Nat.reduceAdd, Nat.reduceSub, List.map_toArray]; rfl) ?_
        simp only [List.replicate_succ, List.replicate_zero, List.cons_append, List.nil_append, List.drop_succ_cons, List.drop_zero, List.take_succ_cons, List.take_zero]
        go_wp2_with fail
        intro a H
        replace hs := H.size.trans hs
        replace hd : a.defers = [] := H.defers
        replace e3 : a.tmps[3]? = some _ := H.got rfl rfl
        replace e4 : a.tmps[4]? = some _ := H.keep e4 rfl
        replace e5 : a.tmps[5]? = some _ := H.keep e5 rfl
        replace e6 : a.tmps[6]? = some _ := H.keep e6 rfl
        replace e13 : a.tmps[13]? = some _ := H.keep e13 rfl
        replace e15 : a.tmps[15]? = some _ := H.keep e15 rfl
        replace e16 : a.tmps[16]? = some _ := H.keep e16 rfl
        replace e19 : a.tmps[19]? = some _ := H.keep e19 rfl
        replace e20 : a.tmps[20]? = some _ := H.got rfl rfl
        replace e18 : a.tmps[18]? = some _ := H.keep e18 rfl
        replace e21 : a.tmps[21]? = some _ := H.keep e21 rfl
        replace e22 : a.tmps[22]? = some _ := H.keep e22 rfl
        replace e17 : a.tmps[17]? = some _ := H.keep e17 rfl
        have e111 : a.tmps[111]? = some _ := H.got rfl rfl
        clear H
        refine hKq13 _ _ ?_
        clear hKq13 Kq13
        refine wp_cond_true (slotE e111) ?_
        clear e111
        refine wp_seq_k fun Kq14 hKq14 => ?_
        refine sm_list [6, 15, 18, 21] 112 11 hs hd (by kernel_rfl) (agC e6 (agC e15 (agC e18 (agC e21 agN)))) (by simp only [List.append_eq, List.cons_append, List.nil_append, List.map_cons, List.map_nil, reOper, reOp, reO, reC, reK, Option.map_some, Option.map_none, fS_ite, ix_ite, Nat.reduceLeDiff, Nat.reduceEqDiff, if_true, if_false, ↓reduceIte, List.length_cons, List.length_nil, Nat.reduceAdd, Nat.reduceSub, List.map_toArray]; rfl) ?_
        simp only [List.replicate_succ, List.replicate_zero, List.cons_append, List.nil_append, List.drop_succ_cons, List.drop_zero, List.take_succ_cons, List.take_zero]
        go_wp2_with fail
        intro a H
        replace hs := H.size.trans hs
        replace hd : a.defers = [] := H.defers
        replace e3 : a.tmps[3]? = some _ := H.keep e3 rfl
        replace e4 : a.tmps[4]? = some _ := H.keep e4 rfl
        replace e5 : a.tmps[5]? = some _ := H.keep e5 rfl
        replace e6 : a.tmps[6]? = some _ := H.got rfl rfl
        replace e13 : a.tmps[13]? = some _ := H.keep e13 rfl
        replace e15 : a.tmps[15]? = some _ := H.got rfl rfl
        replace e16 : a.tmps[16]? = some _ := H.keep e16 rfl
        replace e19 : a.tmps[19]? = some _ := H.keep e19 rfl
        replace e20 : a.tmps[20]? = some _ := H.keep e20 rfl
        replace e21 : a.tmps[21]? = some _ := H.got rfl rfl
        replace e22 : a.tmps[22]? = some _ := H.keep e22 rfl
        replace e17 : a.tmps[17]? = some _ := H.keep e17 rfl
        replace e18 : a.tmps[18]? = some _ := H.got rfl rfl
        clear H
        refine hKq14 _ _ ?_
        clear hKq14 Kq14
        refine wp_seq_k fun Kq15 hKq15 => ?_
        obtain ⟨t1, ht1e⟩ : ∃ z, z = t + (8 * f.size + C.proc + l.lo) := ⟨_, rfl⟩
        rw [← ht1e] at e18
        have ht1b : 0 ≤ t1 ∧ t1 ≤ 2147483648 + 4000000 * (i : Int) + 2200000 := by omega
        have HT1 := Lib.hid ht1e
        clear ht1e c7 f6
        by_cases hgt : l.lo < l.hi
        · have dg : decide (l.lo < l.hi) = true := decide_eq_true hgt
          refine sm_list [21] 123 5 hs hd (by kernel_rfl) (agC e21 agN) (by simp only [List.append_eq, List.cons_append, List.nil_append, List.map_cons, List.map_nil, reOper, reOp, reO, reC, reK, Option.map_some, Option.map_none, fS_ite, ix_ite, Nat.reduceLeDiff, Nat.reduceEqDiff, if_true, if_false, ↓reduceIte, List.length_cons, List.length_nil, Nat.reduceAdd, Nat.reduceSub, List.map_toArray]; rfl) ?_
          simp only [List.replicate_succ, List.replicate_zero, List.cons_append, List.nil_append, List.drop_succ_cons, List.drop_zero, List.take_succ_cons, List.take_zero]
          go_wp2_with fail
          intro a H
          replace hs := H.size.trans hs
          replace hd : a.defers = [] := H.defers
          replace e3 : a.tmps[3]? = some _ := H.keep e3 rfl
          replace e4 : a.tmps[4]? = some _ := H.keep e4 rfl
          replace e5 : a.tmps[5]? = some _ := H.keep e5 rfl
          replace e6 : a.tmps[6]? = some _ := H.keep e6 rfl
          replace e13 : a.tmps[13]? = some _ := H.keep e13 rfl
          replace e15 : a.tmps[15]? = some _ := H.keep e15 rfl
          replace e16 : a.tmps[16]? = some _ := H.keep e16 rfl
          replace e19 : a.tmps[19]? = some _ := H.keep e19 rfl
          replace e20 : a.tmps[20]? = some _ := H.keep e20 rfl
          replace e21 : a.tmps[21]? = some _ := H.got rfl rfl
          replace e22 : a.tmps[22]? = some _ := H.keep e22 rfl
          replace e17 : a.tmps[17]? = some _ := H.keep e17 rfl
          replace e18 : a.tmps[18]? = some _ := H.keep e18 rfl
          have e127 : a.tmps[127]? = some _ := H.got rfl rfl
          clear H
          refine hKq15 _ _ ?_
          clear hKq15 Kq15
          refine wp_cond_true (slotE e127) ?_
          clear e127
          obtain ⟨m8, hm8, hm80, hm81⟩ := and_mask (i : Int) 3 7 rfl (by omega)
          obtain ⟨msk, hmsk, hmb⟩ : ∃ m : Int → Int, (∀ Z, bits .and .i64 Z 65535 = m Z) ∧ ∀ Z, 0 ≤ m Z ∧ m Z ≤ 65535 := ⟨fun Z => bits .and .i64 Z 65535, fun _ => rfl, fun Z => by obtain ⟨x, h1, h2, h3⟩ := and_mask Z 16 65535 rfl (by omega); show 0 ≤ bits .and .i64 Z 65535 ∧ bits .and .i64 Z 65535 ≤ 65535; rw [h1]; exact ⟨h2, h3⟩⟩
          have hdz : l.hi - l.lo + 1 ≠ 0 := by omega
          have HMB := Lib.hid hmb
          clear hmb
          refine sm_list [4, 18, 20, 21] 128 15 hs hd (by kernel_rfl) (agC e4 (agC e18 (agC e20 (agC e21 agN)))) (by simp only [List.append_eq, List.cons_append, List.nil_append, List.map_cons, List.map_nil, reOper, reOp, reO, reC, reK, Option.map_some, Option.map_none, fS_ite, ix_ite, Nat.reduceLeDiff, Nat.reduceEqDiff, if_true, if_false, ↓reduceIte, List.length_cons, List.length_nil, Nat.reduceAdd, Nat.reduceSub, List.map_toArray]; rfl) ?_
          simp only [List.replicate_succ, List.replicate_zero, List.cons_append, List.nil_append, List.drop_succ_cons, List.drop_zero, List.take_succ_cons, List.take_zero]
          go_wp2_with fail
          intro a H
          replace hs := H.size.trans hs
          replace hd : a.defers = [] := H.defers
          replace e3 : a.tmps[3]? = some _ := H.keep e3 rfl
          replace e4 : a.tmps[4]? = some _ := H.got rfl rfl
          replace e5 : a.tmps[5]? = some _ := H.keep e5 rfl
          replace e6 : a.tmps[6]? = some _ := H.keep e6 rfl
          replace e13 : a.tmps[13]? = some _ := H.keep e13 rfl
          replace e15 : a.tmps[15]? = some _ := H.keep e15 rfl
          replace e16 : a.tmps[16]? = some _ := H.keep e16 rfl
          replace e19 : a.tmps[19]? = some _ := H.keep e19 rfl
          replace e20 : a.tmps[20]? = some _ := H.got rfl rfl
          replace e21 : a.tmps[21]? = some _ := H.got rfl rfl
          replace e22 : a.tmps[22]? = some _ := H.keep e22 rfl
          replace e17 : a.tmps[17]? = some _ := H.keep e17 rfl
          replace e18 : a.tmps[18]? = some _ := H.got rfl rfl
          clear H
          refine hKq6 _ _ ?_
          clear hKq6 Kq6
          have hrr : 0 ≤ (msk (late / 2 ^ m8.toNat)).tmod (l.hi - l.lo + 1) ∧ (msk (late / 2 ^ m8.toNat)).tmod (l.hi - l.lo + 1) < l.hi - l.lo + 1 := ⟨Int.tmod_nonneg _ (HMB.out _).1, Int.tmod_lt_of_pos _ (by omega)⟩
          generalize (msk (late / 2 ^ m8.toNat)).tmod (l.hi - l.lo + 1) = rr at e18 hrr
          have hwr : RowKit.wrap64 (t1 + rr) = t1 + rr := IntWalk.wrap64_in _ ⟨by omega, by omega⟩
          rw [hwr] at e18
          clear hwr hm8 hmsk hdz dg y4 y5
          clear e21
          clear e22
          refine sm_list [20] 83 2 hs hd (by kernel_rfl) (agC e20 agN) (by simp only [List.append_eq, List.cons_append, List.nil_append, List.map_cons, List.map_nil, reOper, reOp, reO, reC, reK, Option.map_some, Option.map_none, fS_ite, ix_ite, Nat.reduceLeDiff, Nat.reduceEqDiff, if_true, if_false, ↓reduceIte, List.length_cons, List.length_nil, Nat.reduceAdd, Nat.reduceSub, List.map_toArray]; rfl) ?_
          simp only [List.replicate_succ, List.replicate_zero, List.cons_append, List.nil_append, List.drop_succ_cons, List.drop_zero, List.take_succ_cons, List.take_zero]
          go_wp2_with fail
          intro a H
          replace hs := H.size.trans hs
          replace hd : a.defers = [] := H.defers
          replace e3 : a.tmps[3]? = some _ := H.keep e3 rfl
          replace e4 : a.tmps[4]? = some _ := H.keep e4 rfl
          replace e5 : a.tmps[5]? = some _ := H.keep e5 rfl
          replace e6 : a.tmps[6]? = some _ := H.keep e6 rfl
          replace e13 : a.tmps[13]? = some _ := H.keep e13 rfl
          replace e15 : a.tmps[15]? = some _ := H.keep e15 rfl
          replace e16 : a.tmps[16]? = some _ := H.keep e16 rfl
          replace e19 : a.tmps[19]? = some _ := H.keep e19 rfl
          replace e17 : a.tmps[17]? = some _ := H.keep e17 rfl
          replace e18 : a.tmps[18]? = some _ := H.keep e18 rfl
          replace e20 : a.tmps[20]? = some _ := H.got rfl rfl
          clear H
          have hfin : TInv C off f es.length es ks h (i + 1) nxt (t1 + rr) (l.n0, l.p0) := .inl ⟨by omega, HOP.out.hrest, S2, _, _, HI2.out, by rw [if_pos (by omega)]; have := HT1.out; omega, by rw [if_pos (by omega)]; have := HT1.out; omega⟩
          exact ⟨⟨i + 1, nxt, (t1 + rr), l.n0, l.p0, by omega, by omega, hs, hd, e3, e4, e5, e6, e13, e15, e16, e19, e20, e17, e18, hb9, B199, hfin⟩, by first | (simp only [hm, slot e20, intOf]; omega) | (simp [e20, intOf]; omega)⟩
        · have dg : decide (l.lo < l.hi) = false := decide_eq_false hgt
          refine sm_list [21] 123 5 hs hd (by kernel_rfl) (agC e21 agN) (by simp only [List.append_eq, List.cons_append, List.nil_append, List.map_cons, List.map_nil, reOper, reOp, reO, reC, reK, Option.map_some, Option.map_none, fS_ite, ix_ite, Nat.reduceLeDiff, Nat.reduceEqDiff, if_true, if_false, ↓reduceIte, List.length_cons, List.length_nil, Nat.reduceAdd, Nat.reduceSub, List.map_toArray]; rfl) ?_
          simp only [List.replicate_succ, List.replicate_zero, List.cons_append, List.nil_append, List.drop_succ_cons, List.drop_zero, List.take_succ_cons, List.take_zero]
          go_wp2_with fail
          intro a H
          replace hs := H.size.trans hs
          replace hd : a.defers = [] := H.defers
          replace e3 : a.tmps[3]? = some _ := H.keep e3 rfl
          replace e4 : a.tmps[4]? = some _ := H.keep e4 rfl
          replace e5 : a.tmps[5]? = some _ := H.keep e5 rfl
          replace e6 : a.tmps[6]? = some _ := H.keep e6 rfl
          replace e13 : a.tmps[13]? = some _ := H.keep e13 rfl
          replace e15 : a.tmps[15]? = some _ := H.keep e15 rfl
          replace e16 : a.tmps[16]? = some _ := H.keep e16 rfl
          replace e19 : a.tmps[19]? = some _ := H.keep e19 rfl
          replace e20 : a.tmps[20]? = some _ := H.keep e20 rfl
          replace e21 : a.tmps[21]? = some _ := H.got rfl rfl
          replace e22 : a.tmps[22]? = some _ := H.keep e22 rfl
          replace e17 : a.tmps[17]? = some _ := H.keep e17 rfl
          replace e18 : a.tmps[18]? = some _ := H.keep e18 rfl
          have e127 : a.tmps[127]? = some _ := H.got rfl rfl
          clear H
          refine hKq15 _ _ ?_
          clear hKq15 Kq15
          refine wp_cond_false (slotE e127) ?_
          clear e127
          refine wp_skip ?_
          refine hKq6 _ _ ?_
          clear hKq6 Kq6
          clear dg y4 y5
          clear e21
          clear e22
          refine sm_list [20] 83 2 hs hd (by kernel_rfl) (agC e20 agN) (by simp only [List.append_eq, List.cons_append, List.nil_append, List.map_cons, List.map_nil, reOper, reOp, reO, reC, reK, Option.map_some, Option.map_none, fS_ite, ix_ite, Nat.reduceLeDiff, Nat.reduceEqDiff, if_true, if_false, ↓reduceIte, List.length_cons, List.length_nil, Nat.reduceAdd, Nat.reduceSub, List.map_toArray]; rfl) ?_
          simp only [List.replicate_succ, List.replicate_zero, List.cons_append, List.nil_append, List.drop_succ_cons, List.drop_zero, List.take_succ_cons, List.take_zero]
          go_wp2_with fail
          intro a H
          replace hs := H.size.trans hs
          replace hd : a.defers = [] := H.defers
          replace e3 : a.tmps[3]? = some _ := H.keep e3 rfl
          replace e4 : a.tmps[4]? = some _ := H.keep e4 rfl
          replace e5 : a.tmps[5]? = some _ := H.keep e5 rfl
          replace e6 : a.tmps[6]? = some _ := H.keep e6 rfl
          replace e13 : a.tmps[13]? = some _ := H.keep e13 rfl
          replace e15 : a.tmps[15]? = some _ := H.keep e15 rfl
          replace e16 : a.tmps[16]? = some _ := H.keep e16 rfl
          replace e19 : a.tmps[19]? = some _ := H.keep e19 rfl
          replace e17 : a.tmps[17]? = some _ := H.keep e17 rfl
          replace e18 : a.tmps[18]? = some _ := H.keep e18 rfl
          replace e20 : a.tmps[20]? = some _ := H.got rfl rfl
          clear H
          have hfin : TInv C off f es.length es ks h (i + 1) nxt t1 (l.n0, l.p0) := .inl ⟨by omega, HOP.out.hrest, S2, _, _, HI2.out, by rw [if_pos (by omega)]; have := HT1.out; omega, by rw [if_pos (by omega)]; have := HT1.out; omega⟩
          exact ⟨⟨i + 1, nxt, t1, l.n0, l.p0, by omega, by omega, hs, hd, e3, e4, e5, e6, e13, e15, e16, e19, e20, e17, e18, hb9, B199, hfin⟩, by first | (simp only [hm, slot e20, intOf]; omega) | (simp [e20, intOf]; omega)⟩
      · have di : decide ((i : Int) < (h : Int)) = false := decide_eq_false (by omega)
        have di2 : decide (i < h) = false := decide_eq_false hih
        refine sm_list [3, 20] 109 3 hs hd (by kernel_rfl) (agC e3 (agC e20 agN)) (by simp only [List.append_eq, List.cons_append, List.nil_append, List.map_cons, List.map_nil, reOper, reOp, reO, reC, reK, Option.map_some, Option.map_none, fS_ite, ix_ite, Nat.reduceLeDiff, Nat.reduceEqDiff, if_true, if_false, ↓reduceIte, List.length_cons, List.length_nil, Nat.reduceAdd, Nat.reduceSub, List.map_toArray]; rfl) ?_
        simp only [List.replicate_succ, List.replicate_zero, List.cons_append, List.nil_append, List.drop_succ_cons, List.drop_zero, List.take_succ_cons, List.take_zero]
        go_wp2_with fail
        intro a H
        replace hs := H.size.trans hs
        replace hd : a.defers = [] := H.defers
        replace e3 : a.tmps[3]? = some _ := H.got rfl rfl
        replace e4 : a.tmps[4]? = some _ := H.keep e4 rfl
        replace e5 : a.tmps[5]? = some _ := H.keep e5 rfl
        replace e6 : a.tmps[6]? = some _ := H.keep e6 rfl
        replace e13 : a.tmps[13]? = some _ := H.keep e13 rfl
        replace e15 : a.tmps[15]? = some _ := H.keep e15 rfl
        replace e16 : a.tmps[16]? = some _ := H.keep e16 rfl
        replace e19 : a.tmps[19]? = some _ := H.keep e19 rfl
        replace e20 : a.tmps[20]? = some _ := H.got rfl rfl
        replace e18 : a.tmps[18]? = some _ := H.keep e18 rfl
        replace e21 : a.tmps[21]? = some _ := H.keep e21 rfl
        replace e22 : a.tmps[22]? = some _ := H.keep e22 rfl
        replace e17 : a.tmps[17]? = some _ := H.keep e17 rfl
        have e111 : a.tmps[111]? = some _ := H.got rfl rfl
        clear H
        refine hKq13 _ _ ?_
        clear hKq13 Kq13
        refine wp_cond_false (slotE e111) ?_
        clear e111
        refine wp_skip ?_
        refine hKq6 _ _ ?_
        clear hKq6 Kq6
        clear e21
        clear e22
        refine sm_list [20] 83 2 hs hd (by kernel_rfl) (agC e20 agN) (by simp only [List.append_eq, List.cons_append, List.nil_append, List.map_cons, List.map_nil, reOper, reOp, reO, reC, reK, Option.map_some, Option.map_none, fS_ite, ix_ite, Nat.reduceLeDiff, Nat.reduceEqDiff, if_true, if_false, ↓reduceIte, List.length_cons, List.length_nil, Nat.reduceAdd, Nat.reduceSub, List.map_toArray]; rfl) ?_
        simp only [List.replicate_succ, List.replicate_zero, List.cons_append, List.nil_append, List.drop_succ_cons, List.drop_zero, List.take_succ_cons, List.take_zero]
        go_wp2_with fail
        intro a H
        replace hs := H.size.trans hs
        replace hd : a.defers = [] := H.defers
        replace e3 : a.tmps[3]? = some _ := H.keep e3 rfl
        replace e4 : a.tmps[4]? = some _ := H.keep e4 rfl
        replace e5 : a.tmps[5]? = some _ := H.keep e5 rfl
        replace e6 : a.tmps[6]? = some _ := H.keep e6 rfl
        replace e13 : a.tmps[13]? = some _ := H.keep e13 rfl
        replace e15 : a.tmps[15]? = some _ := H.keep e15 rfl
        replace e16 : a.tmps[16]? = some _ := H.keep e16 rfl
        replace e19 : a.tmps[19]? = some _ := H.keep e19 rfl
        replace e18 : a.tmps[18]? = some _ := H.keep e18 rfl
        replace e17 : a.tmps[17]? = some _ := H.keep e17 rfl
        replace e20 : a.tmps[20]? = some _ := H.got rfl rfl
        clear H
        have hih2 : i = h := by omega
        have hfin : TInv C off f es.length es ks h (i + 1) nxt t (l.n0, l.p0) := .inr ⟨by omega, by rw [← hih2, ← HEE.out]; exact HOP.out.he, S1, low, high, by rw [← hih2]; exact HI1.out, hlo, hhi⟩
        clear hih2
        exact ⟨⟨i + 1, nxt, t, l.n0, l.p0, by omega, by omega, hs, hd, e3, e4, e5, e6, e13, e15, e16, e19, e20, e17, e18, hb9, B199, hfin⟩, by first | (simp only [hm, slot e20, intOf]; omega) | (simp [e20, intOf]; omega)⟩
  · have dj : decide ((i : Int) ≤ (h : Int)) = false := decide_eq_false (by omega)
    have dj2 : decide (i ≤ h) = false := decide_eq_false hlt
    have ht := HT.out
    rcases ht with ⟨hc, _⟩ | ⟨hih, hee, S1, low, high, hinv, hlo, hhi⟩
    · omega
    clear hih
    refine sm_list [3, 20] 80 3 hs hd (by kernel_rfl) (agC e3 (agC e20 agN)) (by simp only [List.append_eq, List.cons_append, List.nil_append, List.map_cons, List.map_nil, reOper, reOp, reO, reC, reK, Option.map_some, Option.map_none, fS_ite, ix_ite, Nat.reduceLeDiff, Nat.reduceEqDiff, if_true, if_false, ↓reduceIte, List.length_cons, List.length_nil, Nat.reduceAdd, Nat.reduceSub, List.map_toArray]; rfl) ?_
    simp only [List.replicate_succ, List.replicate_zero, List.cons_append, List.nil_append, List.drop_succ_cons, List.drop_zero, List.take_succ_cons, List.take_zero]
    go_wp2_with fail
    intro a H
    replace hs := H.size.trans hs
    replace hd : a.defers = [] := H.defers
    replace e3 : a.tmps[3]? = some _ := H.got rfl rfl
    replace e4 : a.tmps[4]? = some _ := H.keep e4 rfl
    replace e5 : a.tmps[5]? = some _ := H.keep e5 rfl
    replace e6 : a.tmps[6]? = some _ := H.keep e6 rfl
    replace e13 : a.tmps[13]? = some _ := H.keep e13 rfl
    replace e15 : a.tmps[15]? = some _ := H.keep e15 rfl
    replace e16 : a.tmps[16]? = some _ := H.keep e16 rfl
    replace e19 : a.tmps[19]? = some _ := H.keep e19 rfl
    replace e20 : a.tmps[20]? = some _ := H.got rfl rfl
    replace e17 : a.tmps[17]? = some _ := H.keep e17 rfl
    replace e18 : a.tmps[18]? = some _ := H.keep e18 rfl
    have e82 : a.tmps[82]? = some _ := H.got rfl rfl
    clear H
    refine hKq5 _ _ ?_
    clear hKq5 Kq5
    refine wp_cond_false (slotE e82) ?_
    clear e82
    refine wp_exit ?_
    refine exit_then rfl ?_
    clear hKq4 Kq4
    refine exit_then rfl ?_
    refine exit_hit ?_
    refine hKq2 _ _ ?_
    clear hKq2 Kq2
    refine wp_seq_k fun Kq6 hKq6 => ?_
    clear e3
    clear e4
    clear e16
    clear e17
    clear e20
    obtain ⟨x2, hx2, hx20, hx21⟩ := and_mask oa 24 16777215 rfl (by omega)
    obtain ⟨r2, hr2⟩ : ∃ z, x2.tmod (4 * off + 1) = z := ⟨_, rfl⟩
    have hr2b : 0 ≤ r2 ∧ r2 ≤ 4 * off := by rw [← hr2]; exact ⟨Int.tmod_nonneg _ hx20, by have := Int.tmod_lt_of_pos x2 (show 0 < 4 * off + 1 by omega); omega⟩
    have hdz : 4 * off + 1 ≠ 0 := by omega
    have B133 := B13.kept hb3
    have k0 := B133.cellOf (v := .int .i64 off) 0 rfl
    have hg13 : g13 < w3.heap.size := B133.lt
    obtain ⟨T, hTe⟩ : ∃ z, z = t + (r2 - 2 * off) := ⟨_, rfl⟩
    have HTE := Lib.hid hTe
    clear hTe
    have u1 : IntKind.i64.wrap (4 * off) = 4 * off := wrap64 (by omega) (by omega)
    have u2 : IntKind.i64.wrap (4 * off + 1) = 4 * off + 1 := wrap64 (by omega) (by omega)
    have u3 : IntKind.i64.wrap (2 * off) = 2 * off := wrap64 (by omega) (by omega)
    have u4 : IntKind.i64.wrap (r2 - 2 * off) = r2 - 2 * off := wrap64 (by omega) (by omega)
    have u5 : IntKind.i64.wrap (t + (r2 - 2 * off)) = t + (r2 - 2 * off) := wrap64 (by omega) (by omega)
    suffices HK : ∀ (a' : Act) (w4 : World), a'.tmps.size = a.tmps.size → a'.defers = [] → a'.tmps[5]? = a.tmps[5]? → a'.tmps[6]? = a.tmps[6]? → a'.tmps[13]? = a.tmps[13]? → a'.tmps[15]? = a.tmps[15]? → a'.tmps[19]? = a.tmps[19]? → a'.tmps[18]? = some (.int .i64 T) → Below w3.heap.size w3 w4 → Kq6 a' w4 by
      refine sm_any [5, 13, 18] 143 13 (by kernel_rfl) hs hd (by kernel_rfl) (agC e5 (agC e13 (agC e18 agN))) (by simp only [List.append_eq, List.cons_append, List.nil_append, List.map_cons, List.map_nil, reOper, reOp, reO, reC, reK, Option.map_some, Option.map_none, fS_ite, ix_ite, Nat.reduceLeDiff, Nat.reduceEqDiff, if_true, if_false, ↓reduceIte, List.length_cons, List.length_nil, Nat.reduceAdd, Nat.reduceSub, List.map_toArray]; rfl) (any_class (fun w' => Below w3.heap.size w3 w') (by kernel_rfl) ((Below.refl _ _).drew) ?_)
      simp only [List.replicate_succ, List.replicate_zero, List.cons_append, List.nil_append, List.drop_succ_cons, List.drop_zero, List.take_succ_cons, List.take_zero]
      repeat (first | (with_reducible (refine wpQuiet_skip ?_ ?_); (first | exact wanted_off rfl rfl rfl rfl | exact wanted_off2 rfl rfl rfl); simp only [Act.put, List.setIfInBounds_toArray, List.set_cons_zero, List.set_cons_succ]) | (with_reducible (refine wpQuiet_val (v := ?_) ?_ ?_ ?_); rotate_left; (first | exact wanted_none rfl | exact wanted_on rfl rfl rfl); (intro w' hw'; obtain ⟨hc, hf⟩ := bcell hw'; go_simp; with_reducible rfl); simp only [Act.put, List.setIfInBounds_toArray, List.set_cons_zero, List.set_cons_succ]))
      refine wpQuiet_nil ?_
      intro w4 hw6
      all_goals
        intro a' H
        refine HK a' _ H.size H.defers ((H.got rfl rfl).trans e5.symm) (H.out 6 rfl) ((H.got rfl rfl).trans e13.symm) (H.out 15 rfl) (H.out 19 rfl) ?_ ?_
        · (refine (H.got (t := 18) rfl rfl).trans (congrArg some ?_); rw [HTE.out])
        · exact hw6
    intro a' w4 g_s g_d g5 g6 g13 g15 g19 f18 b4
    replace hs := g_s.trans hs
    replace hd := g_d
    replace e5 := g5.trans e5
    replace e6 := g6.trans e6
    replace e13 := g13.trans e13
    replace e15 := g15.trans e15
    replace e19 := g19.trans e19
    clear e18
    clear g_s g_d g5 g6 g13 g15 g19
    have e18 := f18
    clear f18
    clear a
    obtain ⟨a, rfl⟩ : ∃ a, a = a' := ⟨_, rfl⟩
    refine hKq6 _ _ ?_
    clear hKq6 Kq6
    refine wp_seq_k fun Kq7 hKq7 => ?_
    clear e5
    clear hx2 hr2 k0 hdz u1 u2 u3 u4 u5
    have hmem := span_in hinv HOKK.out hee hhk
    obtain ⟨hnb, hin⟩ := hmem
    have hinS := HSUB.out _ hin
    have hTl : f.start + low - 2 * off ≤ T := by have := HTE.out; omega
    have hTh : T + 8 * f.size ≤ f.start + f.len + high + 8 * f.size + 2 * off := by have := HTE.out; omega
    have hb4 := hb3.trans (b4.mono hb3.size)
    have GT4 := GT.keep hb4
    have hends : (ex, ey) ∈ endsTo C C.nodes.length := span_end HMK.out hinS
    obtain ⟨v, hv⟩ := Option.isSome_iff_exists.1 ((GT4.has (ex, ey)).2 hends)
    obtain ⟨sv, ss, ts, rfl, hpm, _, hgo, hown⟩ := GT4.row (ex, ey) v hv
    obtain ⟨hGd, j, hj1, hj2⟩ := plan_gates HMK.out HGD.out hends hinS hpm hgo
    simp only at hj1 hj2
    have hj3 := preS_succ hj1
    simp only at hj3
    have hpT : 0 ≤ T ∧ T < C.cycle := by omega
    have hjT : preS ts j ≤ T ∧ T < preS ts (j + 1) := by omega
    have hjD : 8 * f.size ≤ preS ts (j + 1) - T := by omega
    obtain ⟨Av, cv, rfl, _, hrv⟩ := ownsRow_reads hown
    have B194 := B19.kept b4
    have B134 := B133.kept b4
    have HB19 := Lib.hid B194
    have k2 := B134.cellOf (v := .map (some gG)) 2 rfl
    have HGT := Lib.hid GT4.E
    have HV := Lib.hid hv
    have hoke : okE (ex, ey) := span_ok HMK.out hinS
    have HOKE := Lib.hid hoke
    have HPJ := Lib.hid (And.intro hGd (And.intro hpT (And.intro hj1 hjT)))
    clear hv hpm hgo GT4 hoke hinS hin hnb hinv hee hends hj1 hj2 hj3 hjT B194 B133 hown
    refine sm_list [13, 19, 23] 156 4 hs hd (by kernel_rfl) (agC e13 (agC e19 (agU agN))) (by simp only [List.append_eq, List.cons_append, List.nil_append, List.map_cons, List.map_nil, reOper, reOp, reO, reC, reK, Option.map_some, Option.map_none, fS_ite, ix_ite, Nat.reduceLeDiff, Nat.reduceEqDiff, if_true, if_false, ↓reduceIte, List.length_cons, List.length_nil, Nat.reduceAdd, Nat.reduceSub, List.map_toArray]; rfl) ?_
    simp only [List.replicate_succ, List.replicate_zero, List.cons_append, List.nil_append, List.drop_succ_cons, List.drop_zero, List.take_succ_cons, List.take_zero]
    go_wp2_with (first | (refine wpList_load_any_d rfl 61 (.tmp 1) rfl ⟨g19, 0, none⟩ rfl (#[.int .i64 ex, .int .i64 ey]) _ (blk_cells HB19.out) Try.underlying61 rfl (by kernel_rfl) ?_) | (refine wpList_lookup_E rfl (.tmp 4) (.tmp 5) 30 rfl rfl HGT.out endKey Try.underlying30 (zero_list _) (ex, ey) rfl HOKE.out ?_; rw [show (fg (ex, ey)).getD (.agg #[.int .i64 0, .int .i64 0, .slice none 0 0]) = .agg (#[.int .i64 0, .int .i64 C.cycle, .slice Av ts.length cv]) from by rw [HV.out]; rfl]) | (refine wpList_store_new rfl 58 (.tmp 2) (.tmp 6) rfl rfl rfl rfl rfl (by kernel_rfl) (by rw [← Array.all_toList]; rfl) ?_) | fail)
    intro a H
    replace hs := H.size.trans hs
    replace hd : a.defers = [] := H.defers
    replace e6 : a.tmps[6]? = some _ := H.keep e6 rfl
    replace e13 : a.tmps[13]? = some _ := H.got rfl rfl
    replace e15 : a.tmps[15]? = some _ := H.keep e15 rfl
    replace e19 : a.tmps[19]? = some _ := H.got rfl rfl
    replace e18 : a.tmps[18]? = some _ := H.keep e18 rfl
    have e23 : a.tmps[23]? = some _ := H.got rfl rfl
    clear H
    refine hKq7 _ _ ?_
    clear hKq7 Kq7
    refine wp_seq_k fun Kq8 hKq8 => ?_
    have B23 := Blk.new w4 58 #[.int .i64 0, .int .i64 C.cycle, .slice Av ts.length cv]
    have L5 : Below w4.heap.size w4 (w4.alloc (.cells #[.int .i64 0, .int .i64 C.cycle, .slice Av ts.length cv] 58)) := (Below.refl _ _).alloc (Nat.le_refl _) _
    have hb5 := hb4.trans (L5.mono hb4.size)
    have hrv5 := (hrv.below L5).more L5.size
    have B155 := (B15.kept hb4).kept L5
    obtain ⟨g23, hg23⟩ : ∃ q, q = w4.heap.size := ⟨_, rfl⟩
    rw [← hg23] at B23 e23
    generalize (w4.alloc (.cells #[.int .i64 0, .int .i64 C.cycle, .slice Av ts.length cv] 58)) = w5 at *
    clear hg23 L5 hb4 hb3 b4 k2 hrv HGT HV HB19 B134
    have f6 := B155.cellOf (v := .int .i64 f.size) 6 rfl
    have h15z : g15 < w5.heap.size := B155.lt
    have hw8 : IntKind.i64.wrap (8 * f.size) = 8 * f.size := wrap64 (by omega) (by omega)
    suffices HK : ∀ (a' : Act) (w8 : World), a'.tmps.size = a.tmps.size → a'.defers = [] → a'.tmps[6]? = a.tmps[6]? → a'.tmps[13]? = a.tmps[13]? → a'.tmps[15]? = a.tmps[15]? → a'.tmps[19]? = a.tmps[19]? → a'.tmps[18]? = a.tmps[18]? → a'.tmps[23]? = a.tmps[23]? → a'.tmps[12]? = some (.bool true) → Below w5.heap.size w5 w8 → Kq8 a' w8 by
      refine sm_any [12, 15, 18, 23] 160 13 (by kernel_rfl) hs hd (by kernel_rfl) (agU (agC e15 (agC e18 (agC e23 agN)))) (by simp only [List.append_eq, List.cons_append, List.nil_append, List.map_cons, List.map_nil, reOper, reOp, reO, reC, reK, Option.map_some, Option.map_none, fS_ite, ix_ite, Nat.reduceLeDiff, Nat.reduceEqDiff, if_true, if_false, ↓reduceIte, List.length_cons, List.length_nil, Nat.reduceAdd, Nat.reduceSub, List.map_toArray]; rfl) (any_tree [] (.take 0 (.take 1 (.take 3 (.take 4 (.take 5 (.one 2 (.take 6 (.take 7 (.take 8 (.take 9 (.one 10 (.take 11 (.take 12 (.take 13 .nil)))))))))))))) (fun (w' : World) => Below w5.heap.size w5 w') (by kernel_rfl) (fun _ _ _ _ _ h => h) ((Below.refl _ _).drew) ?_)
      simp only [List.replicate_succ, List.replicate_zero, List.cons_append, List.nil_append, List.drop_succ_cons, List.drop_zero, List.take_succ_cons, List.take_zero]
      have hwd : Below w5.heap.size w5 w5.drew := (Below.refl _ _).drew
      obtain ⟨wd, hwde⟩ : ∃ wd, wd = w5.drew := ⟨_, rfl⟩
      rw [← hwde] at hwd ⊢
      clear hwde
      (refine tr_take (v := .agg (#[.int .i64 0, .int .i64 C.cycle, .slice Av ts.length cv])) rfl ?_ (fun w' hw' => run_load_whole_d 58 (.tmp 3) rfl rfl (B23.kept hw') Try.underlying58 rfl (by kernel_rfl)) ?_; (first | exact wanted_none rfl | exact wanted_on rfl rfl rfl); simp only [Act.put, List.setIfInBounds_toArray, List.set_cons_zero, List.set_cons_succ])
      iterate 4 (first | (with_reducible (refine tr_take (v := ?_) rfl ?_ ?_ ?_); rotate_left; (first | exact wanted_none rfl | exact wanted_on rfl rfl rfl); (rintro w' hw'; obtain ⟨hc, hf⟩ := bcell hw'; go_simp; with_reducible rfl); simp only [Act.put, List.setIfInBounds_toArray, List.set_cons_zero, List.set_cons_succ]))
      (with_reducible (refine tr_call 17 ?_ rfl ?_ ?_ ?_); rotate_left; (first | exact wanted_none rfl | exact wanted_on rfl rfl rfl); (go_simp; with_reducible rfl))
      refine (left_l ts C.cycle Av cv T _ j wd ((hrv5.below hwd).more hwd.size) HPJ.out.1 HPJ.out.2.1 HPJ.out.2.2.1 HPJ.out.2.2.2).mono ?_
      rintro e w6 ⟨⟨r, rfl, hr6⟩, hb6⟩
      have S6 : Below w5.heap.size w5 w6 := hwd.trans (hb6.mono hwd.size)
      have dge : decide (8 * f.size ≤ r) = true := decide_eq_true (by omega)
      clear hr6 hjD hTl hTh
      refine ⟨_, rfl, S6, ?_⟩
      simp only [Act.put, List.setIfInBounds_toArray, List.set_cons_zero, List.set_cons_succ]
      iterate 2 (first | (with_reducible (refine tr_take (v := ?_) rfl ?_ ?_ ?_); rotate_left; (first | exact wanted_none rfl | exact wanted_on rfl rfl rfl); (rintro w' hw'; obtain ⟨hc, hf⟩ := bcell hw'; go_simp; with_reducible rfl); simp only [Act.put, List.setIfInBounds_toArray, List.set_cons_zero, List.set_cons_succ]))
      (refine tr_take (v := .agg (#[.int .i64 0, .int .i64 C.cycle, .slice Av ts.length cv])) rfl ?_ (fun w' hw' => run_load_whole_d 58 (.tmp 3) rfl rfl (B23.kept hw') Try.underlying58 rfl (by kernel_rfl)) ?_; (first | exact wanted_none rfl | exact wanted_on rfl rfl rfl); simp only [Act.put, List.setIfInBounds_toArray, List.set_cons_zero, List.set_cons_succ])
      iterate 1 (first | (with_reducible (refine tr_take (v := ?_) rfl ?_ ?_ ?_); rotate_left; (first | exact wanted_none rfl | exact wanted_on rfl rfl rfl); (rintro w' hw'; obtain ⟨hc, hf⟩ := bcell hw'; go_simp; with_reducible rfl); simp only [Act.put, List.setIfInBounds_toArray, List.set_cons_zero, List.set_cons_succ]))
      (with_reducible (refine tr_call 18 ?_ rfl ?_ ?_ ?_); rotate_left; (first | exact wanted_none rfl | exact wanted_on rfl rfl rfl); (go_simp; with_reducible rfl))
      refine (state_l ts C.cycle Av cv T _ j w6 ((hrv5.below S6).more S6.size) HPJ.out.1 HPJ.out.2.1 HPJ.out.2.2.1 HPJ.out.2.2.2).mono ?_
      rintro e w7 ⟨rfl, hb7⟩
      have S7 : Below w5.heap.size w5 w7 := S6.trans (hb7.mono S6.size)
      refine ⟨_, rfl, S7, ?_⟩
      simp only [Act.put, List.setIfInBounds_toArray, List.set_cons_zero, List.set_cons_succ]
      iterate 3 (first | (with_reducible (refine tr_take (v := ?_) rfl ?_ ?_ ?_); rotate_left; (first | exact wanted_none rfl | exact wanted_on rfl rfl rfl); (rintro w' hw'; obtain ⟨hc, hf⟩ := bcell hw'; go_simp; with_reducible rfl); simp only [Act.put, List.setIfInBounds_toArray, List.set_cons_zero, List.set_cons_succ]))
      refine tr_nil ?_
      all_goals
        intro a' H
        refine HK a' _ H.size H.defers (H.out 6 rfl) (H.out 13 rfl) ((H.got rfl rfl).trans e15.symm) (H.out 19 rfl) ((H.got rfl rfl).trans e18.symm) ((H.got rfl rfl).trans e23.symm) ?_ ?_
        · exact H.got rfl rfl
        · exact S7
    intro a' w8 g_s g_d g6 g13 g15 g19 g18 g23 f12 b8
    replace hs := g_s.trans hs
    replace hd := g_d
    replace e6 := g6.trans e6
    replace e13 := g13.trans e13
    replace e15 := g15.trans e15
    replace e19 := g19.trans e19
    replace e18 := g18.trans e18
    replace e23 := g23.trans e23
    clear g_s g_d g6 g13 g15 g19 g18 g23
    have e12 := f12
    clear f12
    clear a
    obtain ⟨a, rfl⟩ : ∃ a, a = a' := ⟨_, rfl⟩
    refine hKq8 _ _ ?_
    clear hKq8 Kq8
    refine wp_ret ?_
    exact HRET.out a w8 hs hd e12 (hb5.trans (b8.mono hb5.size))
end Go.Proofs.Ytaegngcbiefckaa
