/-
  A flow's spans and its ways, plain: each hop's end, where its span lies, and that a port's gates are a list that is right.
-/
import Derived.Test.YtaegngcbiefckaaPlnTp
namespace Go.Proofs.Ytaegngcbiefckaa
set_option linter.unusedSimpArgs false
set_option linter.unusedVariables false
open Go.RowKit Go.WideShapes Go.ChangeShapes

/-! ### A way, hop by hop -/
def Steps (C : Cf) : Int → List (Int × Int) → List Int → Prop
  | at_, e :: es, k :: ks => e.1 = at_ ∧ ∃ (l : Lk) (nxt : Int), (0 ≤ k ∧ k < (C.links.length : Int)) ∧ C.links[k.toNat]? = some l ∧ ((e = (l.n0, l.p0) ∧ nxt = l.n1) ∨ (e = (l.n1, l.p1) ∧ l.n0 ≠ at_ ∧ nxt = l.n0)) ∧ Steps C nxt es ks
  | _, [], [] => True
  | _, _, _ => False
theorem wayGo_steps (C : Cf) (n : Nat) : ∀ (ks : List Int) (i : Nat) (at_ : Int) (seen : List Int) (out : List (Int × Int)) (r : Int × List (Int × Int)), seen = out.map (·.1) ++ [at_] → seen.Nodup → wayGo C n i at_ seen out ks = some r →
    ∃ es, r.2 = out ++ es ∧ es.length = ks.length ∧ Steps C at_ es ks ∧ (r.2.map (·.1)).Nodup
  | [], _, at_, seen, out, r, hs, hn, h => by
    rw [wayGo] at h
    obtain rfl := Option.some.inj h
    refine ⟨[], by simp, rfl, trivial, ?_⟩
    rw [hs] at hn
    exact (List.nodup_append.1 hn).1
  | k :: ks, i, at_, seen, out, r, hs, hn, h => by
    rw [wayGo] at h
    by_cases hk : k < 0 ∨ (C.links.length : Int) ≤ k
    · rw [if_pos hk] at h; cases h
    rw [if_neg hk] at h
    cases hl : C.links[k.toNat]? with
    | none => rw [hl] at h; cases h
    | some l =>
      rw [hl] at h
      simp only at h
      have key : ∀ (nx pt : Int), (if hopBad C n i seen nx then none else wayGo C n (i + 1) nx (seen ++ [nx]) (out ++ [(at_, pt)]) ks) = some r → ∃ es, r.2 = out ++ (at_, pt) :: es ∧ es.length = ks.length ∧ Steps C nx es ks ∧ (r.2.map (·.1)).Nodup := fun nx pt h => by
        by_cases hb : hopBad C n i seen nx = true
        · rw [if_pos hb] at h; cases h
        rw [if_neg hb] at h
        have hnx : nx ∉ seen := fun hm => hb (by unfold hopBad; rw [List.contains_iff_mem.2 hm]; rfl)
        obtain ⟨es, h1, h2, h3, h4⟩ := wayGo_steps C n ks (i + 1) nx (seen ++ [nx]) (out ++ [(at_, pt)]) r (by rw [hs]; simp) (by
          rw [List.nodup_append]
          refine ⟨hn, by simp, fun a ha b hb => ?_⟩
          simp at hb
          subst hb
          exact fun e => hnx (e ▸ ha)) h
        exact ⟨es, by rw [h1]; simp, h2, h3, h4⟩
      by_cases h0 : l.n0 = at_
      · rw [if_pos h0] at h
        subst h0
        obtain ⟨es, h1, h2, h3, h4⟩ := key _ _ h
        exact ⟨_ :: es, h1, by simp [h2], ⟨rfl, l, l.n1, by omega, hl, .inl ⟨rfl, rfl⟩, h3⟩, h4⟩
      rw [if_neg h0] at h
      by_cases h5 : l.n1 = at_
      · rw [if_pos h5] at h
        subst h5
        obtain ⟨es, h1, h2, h3, h4⟩ := key _ _ h
        exact ⟨_ :: es, h1, by simp [h2], ⟨rfl, l, l.n0, by omega, hl, .inr ⟨rfl, h0, rfl⟩, h3⟩, h4⟩
      rw [if_neg h5] at h; cases h
theorem wayV_steps {C : Cf} {src dst : Int} {ks : List Int} {es : List (Int × Int)} (h : wayV C src dst ks = some es) : es.length = ks.length ∧ 0 < es.length ∧ Steps C src es ks ∧ (es.map (·.1)).Nodup := by
  unfold wayV at h
  cases hg : wayGo C ks.length 0 src [src] [] ks with
  | none => rw [hg] at h; cases h
  | some r =>
    obtain ⟨at_, out⟩ := r
    rw [hg] at h
    simp only at h
    by_cases hc : 0 < out.length ∧ at_ = dst
    · rw [if_pos hc] at h
      obtain rfl := Option.some.inj h
      obtain ⟨es', h1, h2, h3, h4⟩ := wayGo_steps C _ ks 0 src [src] [] _ rfl (by simp) hg
      simp only [List.nil_append] at h1
      subst h1
      exact ⟨h2, hc.1, h3, h4⟩
    · rw [if_neg hc] at h; cases h
theorem linksV_ne {C : Cf} : ∀ (ls : List Lk) (used : List (Int × Int)), linksV C used ls = 0 → ∀ l ∈ ls, l.n0 ≠ l.n1
  | [], _, _, _, hl => by cases hl
  | m :: ls, used, h, l, hl => by
    rw [linksV] at h
    by_cases h0 : badEnd C used (m.n0, m.p0) = true
    · rw [if_pos h0] at h; cases h
    rw [if_neg h0] at h
    by_cases h1 : badEnd C ((m.n0, m.p0) :: used) (m.n1, m.p1) = true
    · rw [if_pos h1] at h; cases h
    rw [if_neg h1] at h
    by_cases h2 : badLink m = true
    · rw [if_pos h2] at h; cases h
    rw [if_neg h2] at h
    rcases List.mem_cons.1 hl with rfl | hl
    · exact fun e => h2 (badLink_iff.2 (.inl e))
    · exact linksV_ne ls _ h l hl

/-! ### The spans of a way -/
theorem hopsGo_ends {C : Cf} {off : Int} {f : Fw} {n : Nat} : ∀ (es : List (Int × Int)) (is : List Int) (k : Nat) (low high : Int) (r : List Sp × Int × Int), es.length = is.length → hopsGo C off f n k [] es is low high = .ok r →
    r.1.map (·.1) = es ∧ ∀ e es', es = e :: es' → ∃ T', r.1 = (e, (f.start + low - 2 * off, f.start + f.len + high + 8 * f.size + 2 * off)) :: T'
  | [], is, k, low, high, r, _, h => by
    simp [hopsGo] at h
    subst h
    exact ⟨rfl, fun e es' h => by cases h⟩
  | e :: es, [], k, low, high, r, hl, h => by simp at hl
  | e :: es, i :: is, k, low, high, r, hl, h => by
    rw [hopsGo] at h
    split at h
    · cases h
    · cases hi : C.links[i.toNat]? with
      | none => rw [hi] at h; cases h
      | some l =>
        rw [hi] at h
        simp only [List.nil_append] at h
        rw [hopsGo_acc] at h
        cases h2 : hopsGo C off f n (k + 1) [] es is (low + (8 * f.size + l.lo) + if k + 1 < n then C.proc else 0) (high + (8 * f.size + l.hi) + if k + 1 < n then C.proc else 0) with
        | error x => rw [h2] at h; cases h
        | ok r2 =>
          obtain ⟨T, lo, hi'⟩ := r2
          rw [h2] at h
          cases h
          obtain ⟨h3, _⟩ := hopsGo_ends es is (k + 1) _ _ _ (by simpa using hl) h2
          simp only at h3
          exact ⟨by simp [h3], fun e' es' he => by cases he; exact ⟨T, rfl⟩⟩
structure Parts (C : Cf) (off : Int) (f : Fw) (T : List Sp) : Prop where
  good : ¬ badFlow C f
  both : ∃ (xs ys : List (Int × Int)) (S1 T1 : List Sp) (lo0 hi0 lo1 hi1 : Int), wayV C f.src f.dst f.w0 = some xs ∧ wayV C f.src f.dst f.w1 = some ys ∧ apartV f.w0 f.w1 xs ys = true ∧
    hopsGo C off f xs.length 0 [] xs f.w0 0 0 = .ok (S1, lo0, hi0) ∧ hopsGo C off f ys.length 0 [] ys f.w1 0 0 = .ok (T1, lo1, hi1) ∧ T = S1 ++ T1
theorem flow_parts {C : Cf} {off : Int} {f : Fw} {T : List Sp} {w : Int × Int} (h : flowGo C off [] f = .ok (T, w)) : Parts C off f T := by
  unfold flowGo at h
  split at h
  · cases h
  rename_i hb
  split at h
  · cases h
  split at h
  · rename_i xs ys hx hy
    split at h
    · rename_i hap
      cases h0 : hopsGo C off f xs.length 0 [] xs f.w0 0 0 with
      | error e => rw [h0] at h; cases h
      | ok r0 =>
        obtain ⟨S1, lo0, hi0⟩ := r0
        rw [h0] at h
        simp only at h
        rw [hopsGo_acc] at h
        cases h1 : hopsGo C off f ys.length 0 [] ys f.w1 0 0 with
        | error e => rw [h1] at h; cases h
        | ok r1 =>
          obtain ⟨T1, lo1, hi1⟩ := r1
          rw [h1] at h
          simp only at h
          split at h
          · cases h
          · cases h
            exact ⟨hb, xs, ys, S1, T1, lo0, hi0, lo1, hi1, hx, hy, hap, h0, h1, rfl⟩
    · cases h
  · cases h
theorem atEnd_app (S T : List Sp) (e : Int × Int) : atEnd (S ++ T) e = atEnd S e ++ atEnd T e := by
  unfold atEnd
  rw [List.filterMap_append]
theorem atEnd_mem {S : List Sp} {e : Int × Int} {x : Int × Int} : x ∈ atEnd S e ↔ (e, x) ∈ S := by
  unfold atEnd
  rw [List.mem_filterMap]
  constructor
  · rintro ⟨⟨a, b⟩, h1, h2⟩
    simp only at h2
    split at h2
    · rename_i he
      cases h2
      rw [← he]; exact h1
    · cases h2
  · intro h
    exact ⟨(e, x), h, by simp⟩
/-- A list whose ends differ lies at an end once. -/
theorem atEnd_once (e : Int × Int) : ∀ (S : List Sp), (S.map (·.1)).Nodup → (atEnd S e).length ≤ 1
  | [], _ => by simp [atEnd]
  | (a, b) :: S, h => by
    rw [List.map_cons, List.nodup_cons] at h
    have ih := atEnd_once e S h.2
    by_cases ha : a = e
    · subst ha
      have h0 : atEnd S a = [] := by
        cases hS : atEnd S a with
        | nil => rfl
        | cons x r =>
          have hx : x ∈ atEnd S a := by rw [hS]; exact List.mem_cons_self ..
          exact absurd (List.mem_map.2 ⟨(a, x), atEnd_mem.1 hx, rfl⟩) h.1
      show (List.filterMap _ _).length ≤ 1
      rw [List.filterMap_cons]
      simp only [if_true]
      rw [show List.filterMap (fun x : Sp => if x.1 = a then some x.2 else none) S = atEnd S a from rfl, h0]
      simp
    · show (List.filterMap _ _).length ≤ 1
      rw [List.filterMap_cons]
      simp only [if_neg ha]
      exact ih
theorem nodup_fst {es : List (Int × Int)} (h : (es.map (·.1)).Nodup) : es.Nodup := by
  induction es with
  | nil => exact List.nodup_nil
  | cons e es ih =>
    rw [List.map_cons, List.nodup_cons] at h
    rw [List.nodup_cons]
    exact ⟨fun hm => h.1 (List.mem_map.2 ⟨e, hm, rfl⟩), ih h.2⟩
/-- A flow's frames have one span at an end, if what lies there is apart. -/
theorem Parts.once {C : Cf} {off : Int} {f : Fw} {T : List Sp} (h : Parts C off f T) (hoff : 0 ≤ off) {e : Int × Int} (hd : Disj (atEnd T e)) : (atEnd T e).length ≤ 1 := by
  obtain ⟨hb, xs, ys, S1, T1, lo0, hi0, lo1, hi1, hx, hy, hap, h0, h1, rfl⟩ := h
  unfold badFlow at hb
  obtain ⟨hxl, hx0, _, hxn⟩ := wayV_steps hx
  obtain ⟨hyl, hy0, _, hyn⟩ := wayV_steps hy
  obtain ⟨m0, c0⟩ := hopsGo_ends xs f.w0 0 0 0 _ hxl h0
  obtain ⟨m1, c1⟩ := hopsGo_ends ys f.w1 0 0 0 _ hyl h1
  simp only at m0 m1 c0 c1
  have l0 := atEnd_once e S1 (by rw [m0]; exact nodup_fst hxn)
  have l1 := atEnd_once e T1 (by rw [m1]; exact nodup_fst hyn)
  rw [atEnd_app] at hd ⊢
  cases ha : atEnd S1 e with
  | nil => rw [ha] at l0; simpa [ha] using l1
  | cons a ra =>
    cases hbb : atEnd T1 e with
    | nil => rw [ha] at l0; simpa [ha, hbb] using l0
    | cons b rb =>
      exfalso
      have ma : (e, a) ∈ S1 := atEnd_mem.1 (by rw [ha]; exact List.mem_cons_self ..)
      have mb : (e, b) ∈ T1 := atEnd_mem.1 (by rw [hbb]; exact List.mem_cons_self ..)
      have ex : e ∈ xs := by rw [← m0]; exact List.mem_map.2 ⟨_, ma, rfl⟩
      have ey : e ∈ ys := by rw [← m1]; exact List.mem_map.2 ⟨_, mb, rfl⟩
      obtain ⟨i, hi⟩ := List.mem_iff_getElem?.1 ex
      obtain ⟨k, hk⟩ := List.mem_iff_getElem?.1 ey
      have hz : i + k = 0 := by
        by_cases hz : i + k = 0
        · exact hz
        · have := apartV_node (w0 := f.w0) (w1 := f.w1) hi hk ⟨rfl, by omega⟩
          rw [hap] at this
          cases this
      obtain rfl : i = 0 := by omega
      obtain rfl : k = 0 := by omega
      cases hxs : xs with
      | nil => rw [hxs] at hi; cases hi
      | cons x0 xr =>
        cases hys : ys with
        | nil => rw [hys] at hk; cases hk
        | cons y0 yr =>
          rw [hxs] at hi
          rw [hys] at hk
          cases hi
          cases hk
          obtain ⟨S1', e0⟩ := c0 _ _ hxs
          obtain ⟨T1', e1⟩ := c1 _ _ hys
          have ha' : (f.start + 0 - 2 * off, f.start + f.len + 0 + 8 * f.size + 2 * off) ∈ atEnd S1 e := atEnd_mem.2 (by rw [e0]; exact List.mem_cons_self ..)
          have hb' : (f.start + 0 - 2 * off, f.start + f.len + 0 + 8 * f.size + 2 * off) ∈ atEnd T1 e := atEnd_mem.2 (by rw [e1]; exact List.mem_cons_self ..)
          have hp := (List.pairwise_append.1 hd).2.2 _ ha' _ hb'
          simp only at hp
          omega
theorem atEnd_flat (e : Int × Int) : ∀ (rs : List (List Sp × (Int × Int))), (∀ r ∈ rs, (atEnd r.1 e).length ≤ 1) → (atEnd (rs.flatMap (·.1)) e).length ≤ rs.length
  | [], _ => by simp [atEnd]
  | r :: rs, h => by
    have h1 := atEnd_flat e rs fun q hq => h q (List.mem_cons_of_mem _ hq)
    have h2 := h r (List.mem_cons_self ..)
    rw [List.flatMap_cons, atEnd_app, List.length_append, List.length_cons]
    omega
theorem FlowsOk.parts {C : Cf} {off : Int} : ∀ {fs : List Fw} {rs : List (List Sp × (Int × Int))}, FlowsOk C off fs rs → (∀ r ∈ rs, ∃ f, Parts C off f r.1) ∧ ∀ (i : Nat) (f : Fw), fs[i]? = some f → ∃ r, r ∈ rs ∧ Parts C off f r.1
  | [], [], _ => ⟨fun r h => (by cases h), fun i f h => (by simp at h)⟩
  | [], _ :: _, h => h.elim
  | _ :: _, [], h => h.elim
  | g :: fs, r :: rs, h => by
    obtain ⟨ih1, ih2⟩ := FlowsOk.parts h.2
    have hp : Parts C off g r.1 := flow_parts (w := r.2) h.1
    refine ⟨fun q hq => ?_, fun i f hi => ?_⟩
    · rcases List.mem_cons.1 hq with rfl | hq
      · exact ⟨g, hp⟩
      · exact ih1 q hq
    · cases i with
      | zero => simp at hi; subst hi; exact ⟨r, List.mem_cons_self .., hp⟩
      | succ i =>
        obtain ⟨q, h1, h2⟩ := ih2 i f (by simpa using hi)
        exact ⟨q, List.mem_cons_of_mem _ h1, h2⟩
theorem disj_sub {S T : List Sp} (h : T.Sublist S) {e : Int × Int} (hd : Disj (atEnd S e)) : Disj (atEnd T e) := Disj.sub (atEnd_sub h e) hd
theorem mem_sub_flat {rs : List (List Sp × (Int × Int))} : ∀ {r : List Sp × (Int × Int)}, r ∈ rs → r.1.Sublist (rs.flatMap (·.1)) := by
  intro r hr
  induction rs with
  | nil => cases hr
  | cons q rs ih =>
    rw [List.flatMap_cons]
    rcases List.mem_cons.1 hr with rfl | hr
    · exact List.sublist_append_left _ _
    · exact (ih hr).trans (List.sublist_append_right _ _)
/-- Of a plan that is made: at an end that has a span the gates are a list that is right. -/
theorem plan_gates {C : Cf} {S : List Sp} {W : List (Int × Int)} (h : makeV C = .ok (S, W)) (hg : ∀ x ∈ S, GoodSp C x) {e x : Int × Int} (he : e ∈ endsTo C C.nodes.length) (hx : (e, x) ∈ S) {ss t : List (Int × Int)} (hp : ss.Perm (atEnd S e)) (ht : goV C.cycle 0 ss = some t) :
    Gd t C.cycle ∧ ∃ i, t[i]? = some (128, x.2 - x.1) ∧ preS t i = x.1 := by
  obtain ⟨h0, hpo, rs, h1, rfl, rfl⟩ := makeV_ok.1 h
  have hw := well h0
  have hd := portsOk_iff.1 hpo e he
  have hoff := (offV_bounds hw.off).1
  have hlen : (atEnd (rs.flatMap (·.1)) e).length ≤ 16 := by
    refine Nat.le_trans (atEnd_flat e rs fun r hr => ?_) (by rw [h1.length]; exact hw.flows)
    obtain ⟨f, hf⟩ := h1.parts.1 r hr
    exact hf.once (by omega) (disj_sub (mem_sub_flat hr) hd)
  have hgs : ∀ y ∈ ss, 0 ≤ y.1 ∧ y.1 < y.2 ∧ y.2 ≤ C.cycle := fun y hy => atEnd_good hg y (hp.subset hy)
  obtain ⟨g1, g2, g3, g4⟩ := goV_slots C.cycle ss 0 t ht (by have := hw.c1; omega) fun y hy => (hgs y hy).2
  have hxs : x ∈ ss := hp.symm.subset (atEnd_mem.2 hx)
  obtain ⟨i, hi1, hi2⟩ := g4 x hxs
  have hit := (List.getElem?_eq_some_iff.1 hi1).1
  have hsl := hp.length_eq
  exact ⟨⟨by omega, by omega, hw.c1, hw.c2, g1, by rw [g2]; omega⟩, i, hi1, by omega⟩
/-- Of a way of a flow in a plan: its hops, and that its spans are the plan's. -/
theorem plan_way {C : Cf} {S : List Sp} {W : List (Int × Int)} (h : makeV C = .ok (S, W)) {i : Nat} {f : Fw} (hf : C.flows[i]? = some f) (q : Nat) (hq : q < 2) :
    ¬ badFlow C f ∧ ∃ (es : List (Int × Int)) (r : List Sp × Int × Int), wayV C f.src f.dst (two f.w0 f.w1 q) = some es ∧ hopsGo C (offV C) f es.length 0 [] es (two f.w0 f.w1 q) 0 0 = .ok r ∧ ∀ x ∈ r.1, x ∈ S := by
  obtain ⟨h0, hpo, rs, h1, rfl, rfl⟩ := makeV_ok.1 h
  obtain ⟨r, hr, hb, xs, ys, S1, T1, lo0, hi0, lo1, hi1, hx, hy, hap, h3, h4, e⟩ := h1.parts.2 i f hf
  have hsub : ∀ x ∈ r.1, x ∈ rs.flatMap (·.1) := fun x hx => (mem_sub_flat hr).subset hx
  refine ⟨hb, ?_⟩
  rcases (by omega : q = 0 ∨ q = 1) with rfl | rfl
  · exact ⟨xs, _, hx, h3, fun x hx => hsub x (by rw [e]; exact List.mem_append.2 (.inl hx))⟩
  · exact ⟨ys, _, hy, h4, fun x hx => hsub x (by rw [e]; exact List.mem_append.2 (.inr hx))⟩
end Go.Proofs.Ytaegngcbiefckaa
