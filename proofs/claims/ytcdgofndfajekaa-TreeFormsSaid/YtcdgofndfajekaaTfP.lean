/-
  TreeForms, plain: what a port has heard is true, or a lie that grows old.
-/
import Derived.Test.YtcdgofndfajekaaTfM
namespace Go.Proofs.Ytcdgofndfajekaa
set_option linter.unusedSimpArgs false
set_option linter.unusedVariables false
open Go.RowKit

def Link (W : List Wire) (x y : Nat × Nat) : Prop := ∃ w ∈ W, (w.1 = x ∧ w.2 = y) ∨ (w.1 = y ∧ w.2 = x)
theorem Link.symm {W : List Wire} {x y : Nat × Nat} (h : Link W x y) : Link W y x := by
  obtain ⟨w, hw, h⟩ := h
  exact ⟨w, hw, h.symm⟩
theorem Link.adj {W : List Wire} {x y : Nat × Nat} (h : Link W x y) : Adj W x.1 y.1 := by
  obtain ⟨w, hw, h⟩ := h
  refine ⟨w, hw, ?_⟩
  rcases h with ⟨rfl, rfl⟩ | ⟨rfl, rfl⟩
  · exact .inl ⟨rfl, rfl⟩
  · exact .inr ⟨rfl, rfl⟩
theorem Adj.link {W : List Wire} {a b : Nat} (h : Adj W a b) : ∃ p q, Link W (a, p) (b, q) := by
  obtain ⟨⟨⟨a1, p⟩, ⟨b1, q⟩⟩, hw, h⟩ := h
  rcases h with ⟨rfl, rfl⟩ | ⟨rfl, rfl⟩
  · exact ⟨p, q, _, hw, .inl ⟨rfl, rfl⟩⟩
  · exact ⟨q, p, _, hw, .inr ⟨rfl, rfl⟩⟩
/-- Wires between free ports of unlike clocks. -/
structure Net (n : Nat) (W : List Wire) : Prop where
  within : Within n W
  ports : ∀ w ∈ W, w.1.2 < 8 ∧ w.2.2 < 8
  apart : ∀ w ∈ W, w.1.1 ≠ w.2.1
  one : ∀ x y z, Link W x y → Link W x z → y = z
theorem Net.lt {n : Nat} {W : List Wire} (h : Net n W) {x y : Nat × Nat} (hl : Link W x y) : x.1 < n ∧ y.1 < n ∧ x.2 < 8 ∧ y.2 < 8 ∧ x.1 ≠ y.1 := by
  obtain ⟨w, hw, hh⟩ := hl
  have h1 := h.within w hw
  have h2 := h.ports w hw
  have h3 := h.apart w hw
  rcases hh with ⟨rfl, rfl⟩ | ⟨rfl, rfl⟩
  · exact ⟨h1.1, h1.2, h2.1, h2.2, h3⟩
  · exact ⟨h1.2, h1.1, h2.2, h2.1, fun e => h3 e.symm⟩
/-- A network of clocks as it stands. -/
structure Sys (P : Nat → Pr) (n : Nat) (W : List Wire) (L : List Tre) : Prop where
  len : L.length = n
  tok : ∀ i t, L[i]? = some t → TOk (P i) 0 5 8 t
  up : ∀ i p e, ent L i p = some e → (e.up = true ↔ ∃ y, Link W (i, p) y)
theorem Sys.tre {P : Nat → Pr} {n : Nat} {W : List Wire} {L : List Tre} (h : Sys P n W L) {i : Nat} (hi : i < n) : ∃ t, L[i]? = some t ∧ TOk (P i) 0 5 8 t := by
  have h1 : i < L.length := by rw [h.len]; exact hi
  exact ⟨_, List.getElem?_eq_getElem h1, h.tok i _ (List.getElem?_eq_getElem h1)⟩
theorem TOk.at_ {own : Pr} {t : Tre} (h : TOk own 0 5 8 t) {p : Nat} (hp : p < 8) : ∃ e, t.es[p]? = some e ∧ EOk e := by
  have h1 : p < t.es.length := by rw [h.len]; exact hp
  exact ⟨_, List.getElem?_eq_getElem h1, h.all _ (List.getElem_mem h1)⟩
/-- What was heard truly: who that neighbour's best clock is, and the way from there. -/
structure TrueE (P : Nat → Pr) (W : List Wire) (i p : Nat) (e : En) (r m j q : Nat) : Prop where
  link : Link W (j, q) (i, p)
  walk : Walk W r j m
  vec : e.vec = ⟨P r, m, 10 + (j : Int), q, 0⟩
  path : ∀ (a : Nat) (x : Int), e.path[a]? = some x → ∃ v : Nat, x = 10 + (v : Int) ∧ Walk W r v a
  len : e.path.length = m + 1
def LieE (n : Nat) (e : En) : Prop := ∃ S : List Nat, S.Nodup ∧ (∀ v ∈ S, v < n ∧ (10 + (v : Int)) ∈ e.path) ∧ e.at_ ≤ 5 * (S.length : Int)
def Cls (P : Nat → Pr) (n : Nat) (W : List Wire) (i p : Nat) (now : Int) (e : En) : Prop :=
  e.ok = true → (10 + (i : Int)) ∉ e.path ∧ e.at_ ≤ now ∧ ((∃ r m j q, TrueE P W i p e r m j q) ∨ LieE n e)
structure Inv (P : Nat → Pr) (n : Nat) (W : List Wire) (now : Int) (L : List Tre) : Prop where
  sys : Sys P n W L
  cls : ∀ i p e, ent L i p = some e → Cls P n W i p now e
theorem Inv.later {P : Nat → Pr} {n : Nat} {W : List Wire} {now : Int} {L : List Tre} (h : Inv P n W now L) {k : Int} (hk : now ≤ k) : Inv P n W k L :=
  ⟨h.sys, fun i p e he hok => by
    obtain ⟨h1, h2, h3⟩ := h.cls i p e he hok
    exact ⟨h1, by omega, h3⟩⟩
/-! ### One entry turned -/
def putE (L : List Tre) (b q : Nat) (e : En) : List Tre := match L[b]? with | some u => L.set b { u with es := u.es.set q e } | none => L
theorem putE_ent {L : List Tre} {b q : Nat} {e e0 : En} (h : ent L b q = some e0) (i p : Nat) : ent (putE L b q e) i p = if i = b ∧ p = q then some e else ent L i p := by
  unfold ent at h
  cases hu : L[b]? with
  | none => rw [hu] at h; cases h
  | some u =>
    rw [hu] at h
    have hb := (List.getElem?_eq_some_iff.1 hu).1
    have hq := (List.getElem?_eq_some_iff.1 h).1
    unfold putE ent
    rw [hu]
    simp only
    rw [List.getElem?_set]
    by_cases hi : b = i
    · subst hi
      rw [if_pos rfl, if_pos hb]
      simp only
      rw [List.getElem?_set]
      by_cases hp : q = p
      · subst hp
        rw [if_pos rfl, if_pos hq]
        simp
      · rw [if_neg hp, if_neg (fun a => hp a.2.symm), hu]
    · rw [if_neg hi, if_neg (fun a => hi a.1.symm)]
theorem putE_sys {P : Nat → Pr} {n : Nat} {W : List Wire} {L : List Tre} {b q : Nat} {e e0 : En} (h : Sys P n W L) (h0 : ent L b q = some e0) (hE : EOk e) (hu : e.up = e0.up) : Sys P n W (putE L b q e) := by
  have hent := putE_ent (e := e) h0
  refine ⟨?_, fun i t ht => ?_, fun i p x hx => ?_⟩
  · unfold putE
    split
    · rw [List.length_set]; exact h.len
    · exact h.len
  · unfold putE at ht
    split at ht
    · rename_i u hu
      rw [List.getElem?_set] at ht
      split at ht
      · rename_i hb
        subst hb
        split at ht
        · injection ht with ht
          subst ht
          exact tok_set (h.tok b u hu) hE
        · cases ht
      · exact h.tok i t ht
    · exact h.tok i t ht
  · rw [hent] at hx
    split at hx
    · rename_i hh
      obtain ⟨rfl, rfl⟩ := hh
      injection hx with hx
      subst hx
      rw [hu]
      exact h.up i p e0 h0
    · exact h.up i p x hx
/-! ### A live top -/
theorem live_parts {e : En} {now : Int} (h : e.live 5 now = true) : e.ok = true ∧ e.at_ ≤ now ∧ now ≤ e.at_ + 5 := by
  unfold En.live at h
  simp only [Bool.and_eq_true, decide_eq_true_eq] at h
  exact ⟨h.1, h.2.1, by omega⟩
theorem live_of {e : En} {now : Int} (h : e.ok = true) (h1 : e.at_ ≤ now) (h2 : now ≤ e.at_ + 5) : e.live 5 now = true := by
  unfold En.live
  simp only [Bool.and_eq_true, decide_eq_true_eq]
  exact ⟨h, h1, by omega⟩
theorem top_cases {P : Nat → Pr} {i : Nat} {t : Tre} (hok : TOk (P i) 0 5 8 t) (now : Int) :
    (t.top now = ownVec (P i) ∧ ∀ (p : Nat) (e : En), t.es[p]? = some e → e.up = true → e.live 5 now = true → ¬ cmpP e.vec.root (P i) < 0) ∨
    (∃ (k : Nat) (e : En), t.es[k]? = some e ∧ e.up = true ∧ e.live 5 now = true ∧ cmpP e.vec.root (P i) < 0 ∧ t.top now = { e.vec with at_ := (k : Int) } ∧
      ∀ (p : Nat) (x : En), t.es[p]? = some x → x.up = true → x.live 5 now = true → cmpP x.vec.root (P i) < 0 → cmpV (t.top now) { x.vec with at_ := (p : Int) } ≤ 0) := by
  have hat : ∀ (p : Nat) (e : En), t.es[p]? = some e → (t.hs now)[p]? = some (⟨e.up, e.live 5 now, e.vec⟩ : Hd) := fun p e he => by rw [hs_at he, hok.most]
  rcases topOf_good t.own (t.hs now) with ⟨h1, h2⟩ | ⟨j, x, h2, h3, h4, _⟩
  · rw [hok.own_] at h1 h2
    refine .inl ⟨by unfold Tre.top; rw [hok.own_]; exact h1, fun p e he hu hl hc => ?_⟩
    exact h2 _ (List.mem_of_getElem? (hat p e he)) ⟨hu, hl, hc⟩
  · rw [hok.own_] at h3 h4
    have hj : j < t.es.length := by
      have := (List.getElem?_eq_some_iff.1 h2).1
      unfold Tre.hs at this
      simpa using this
    have he := List.getElem?_eq_getElem hj
    have h5 := hat j _ he
    rw [h2] at h5
    injection h5 with h5
    subst h5
    refine .inr ⟨j, _, he, h3.1, h3.2.1, h3.2.2, by unfold Tre.top; rw [hok.own_]; exact h4, fun p y hy hu hl hc => ?_⟩
    have := topOf_min t.own (t.hs now) p _ (hat p y hy) (by rw [hok.own_]; exact ⟨hu, hl, hc⟩)
    exact this.2
/-! ### What is sent -/
theorem out_low {t : Tre} {p : Nat} {s now : Int} {own : Pr} (hT : t.top now = ownVec own) (ho : t.own = own) : t.outM p s now = om t p s (ownVec own) 0 [own.id] := by
  unfold Tre.outM
  rw [hT, if_pos (by show (-1 : Int) < 0; decide), ho]
theorem out_high {t : Tre} {p k : Nat} {s now : Int} {e : En} (hT : t.top now = { e.vec with at_ := (k : Int) }) (he : t.es[k]? = some e) (h1 : 0 ≤ e.vec.steps ∧ e.vec.steps ≤ 254) : t.outM p s now = om t p s { e.vec with at_ := (k : Int) } (e.vec.steps + 1) (e.path ++ [t.own.id]) := by
  unfold Tre.outM
  rw [hT, if_neg (by show ¬ (k : Int) < 0; omega)]
  have hj2 : ((k : Int)).toNat = k := by simp
  simp only [hj2, he]
  rw [show wrap64 (e.vec.steps + 1) = e.vec.steps + 1 by unfold wrap64; omega]
theorem path_app {x : Int} {l : List Int} {y : Int} {a : Nat} (h : (l ++ [y])[a]? = some x) : (l[a]? = some x) ∨ (a = l.length ∧ x = y) := by
  rcases Nat.lt_or_ge a l.length with h1 | h1
  · rw [List.getElem?_append_left h1] at h
    exact .inl h
  · rw [List.getElem?_append_right h1] at h
    have h2 := (List.getElem?_eq_some_iff.1 h).1
    simp at h2
    have h3 : a - l.length = 0 := by omega
    rw [h3] at h
    simp at h
    exact .inr ⟨by omega, h.symm⟩
/-- What a message leaves at the other end is true, or a lie that is as old as it is long. -/
theorem send_cls {P : Nat → Pr} {n : Nat} {W : List Wire} {now s : Int} {L : List Tre} (hP : Who P n) (hN : Net n W) (h : Inv P n W now L) {a p b q : Nat} (hl : Link W (a, p) (b, q)) {t : Tre} (ht : L[a]? = some t) {e0 : En}
    (hno : (10 + (b : Int)) ∉ (t.outM p s now).path) : Cls P n W b q now (newE e0 (t.outM p s now) now) := by
  intro _
  have hlt := hN.lt hl
  have hok := h.sys.tok a t ht
  have hid : t.own.id = 10 + (a : Int) := by rw [hok.own_]; exact (hP.2 a hlt.1).1
  refine ⟨hno, Int.le_refl _, ?_⟩
  rcases top_cases hok now with ⟨hT, _⟩ | ⟨k, e, he, hu, hlv, _, hT, _⟩
  · left
    refine ⟨a, 0, a, p, hl, .nil, ?_, fun c x hx => ?_, ?_⟩
    · unfold newE
      rw [out_low hT hok.own_]
      simp [om, ownVec, hid]
    · have hx' : ([(P a).id] : List Int)[c]? = some x := by
        have : (newE e0 (t.outM p s now) now).path = [(P a).id] := by unfold newE; rw [out_low hT hok.own_]; rfl
        rw [this] at hx; exact hx
      cases c with
      | zero =>
        simp at hx'
        exact ⟨a, by rw [← hx']; exact (hP.2 a hlt.1).1, .nil⟩
      | succ c => simp at hx'
    · unfold newE
      rw [out_low hT hok.own_]
      rfl
  · have hE := hok.all e (List.mem_of_getElem? he)
    have hst := okN_mem hE.2.2.2.1 e.vec.steps (by simp)
    have hm := out_high (p := p) (s := s) hT he ⟨hst.1, hE.2.2.2.2.1⟩
    have hee : ent L a k = some e := by rw [ent_at ht]; exact he
    obtain ⟨hlk, hlt2, hlt3⟩ := live_parts hlv
    obtain ⟨h1, h2, h3⟩ := h.cls a k e hee hlk
    have hpth : (newE e0 (t.outM p s now) now).path = e.path ++ [10 + (a : Int)] := by unfold newE; rw [hm]; show e.path ++ [t.own.id] = _; rw [hid]
    rcases h3 with ⟨r, m, j, q', T⟩ | ⟨S, hS1, hS2, hS3⟩
    · left
      have hw : Walk W r a (m + 1) := .snoc T.walk T.link.adj
      refine ⟨r, m + 1, a, p, hl, hw, ?_, fun c x hx => ?_, ?_⟩
      · unfold newE
        rw [hm]
        have hv := T.vec
        rw [hv]
        simp [om, hid]
      · rw [hpth] at hx
        rcases path_app hx with hx | ⟨hc, hx2⟩
        · exact T.path c x hx
        · rw [T.len] at hc
          subst hc
          exact ⟨a, hx2, hw⟩
      · rw [hpth, List.length_append, T.len]
        rfl
    · right
      refine ⟨a :: S, List.nodup_cons.2 ⟨fun hc => h1 (hS2 a hc).2, hS1⟩, fun v hv => ?_, ?_⟩
      · rw [hpth]
        rcases List.mem_cons.1 hv with rfl | hv
        · exact ⟨hlt.1, by simp⟩
        · exact ⟨(hS2 v hv).1, by simp [(hS2 v hv).2]⟩
      · show now ≤ 5 * ((S.length + 1 : Nat) : Int)
        push_cast
        omega
/-- What sending over a wire does. -/
theorem sends_cases {P : Nat → Pr} {n : Nat} {W : List Wire} {now s : Int} {L : List Tre} (hP : Who P n) (hN : Net n W) (h : Inv P n W now L) (hs : 0 ≤ s ∧ s ≤ 65535) (hnow : 0 ≤ now ∧ now ≤ 1000) {a p b q : Nat} (hl : Link W (a, p) (b, q)) :
    ∃ t u e0, L[a]? = some t ∧ TOk (P a) 0 5 8 t ∧ L[b]? = some u ∧ TOk (P b) 0 5 8 u ∧ ent L b q = some e0 ∧ EOk e0 ∧
    ((sends L (a, p) (b, q) s now = L ∧ (roleAt t.own (t.top now) (t.hs now) p = 1 → (t.outM p s now).src = u.own.id ∨ u.own.id ∈ (t.outM p s now).path ∨ 255 ≤ (t.outM p s now).steps ∨ 32 ≤ (t.outM p s now).path.length)) ∨
     (roleAt t.own (t.top now) (t.hs now) p = 1 ∧ sends L (a, p) (b, q) s now = putE L b q (newE e0 (t.outM p s now) now) ∧ EOk (newE e0 (t.outM p s now) now) ∧ Cls P n W b q now (newE e0 (t.outM p s now) now))) := by
  have hlt := hN.lt hl
  obtain ⟨t, ht, tok⟩ := h.sys.tre hlt.1
  obtain ⟨u, hu, uok⟩ := h.sys.tre hlt.2.1
  obtain ⟨e0, he0, hE0⟩ := uok.at_ hlt.2.2.2.1
  have hee : ent L b q = some e0 := by rw [ent_at hu]; exact he0
  have hup : e0.up = true := (h.sys.up b q e0 hee).2 ⟨_, hl.symm⟩
  refine ⟨t, u, e0, ht, tok, hu, uok, hee, hE0, ?_⟩
  have hbL := (List.getElem?_eq_some_iff.1 hu).1
  by_cases hr : roleAt t.own (t.top now) (t.hs now) p = 1
  · have e1 : sends L (a, p) (b, q) s now = L.set b (u.in_ q (t.outM p s now) now) := by unfold sends; simp only [ht, hu]; rw [if_pos hr]
    have hc := tell_ok (s := s) (now := now) hP hlt.1 tok hlt.2.2.1 hs
    rcases heard_ok hc (by rw [tok.dom, uok.dom]) he0 hup with ⟨h1, h2⟩ | ⟨h1, h2⟩
    · left
      refine ⟨?_, fun _ => h2⟩
      rw [e1, in_no (by rw [h1]; decide)]
      have hu2 := (List.getElem?_eq_some_iff.1 hu).2
      rw [← hu2]
      exact List.set_getElem_self hbL
    · right
      refine ⟨hr, ?_, newE_ok h1 ⟨by omega, by omega⟩, send_cls hP hN h hl ht fun hc2 => h2 (.inr (.inl ?_))⟩
      · rw [e1, in_at h1 he0]
        unfold putE
        rw [hu]
      · rw [uok.own_, (hP.2 b hlt.2.1).1]
        exact hc2
  · left
    refine ⟨?_, fun hh => absurd hh hr⟩
    unfold sends
    simp only [ht, hu]
    rw [if_neg hr]
theorem sends_inv {P : Nat → Pr} {n : Nat} {W : List Wire} {now s : Int} {L : List Tre} (hP : Who P n) (hN : Net n W) (h : Inv P n W now L) (hs : 0 ≤ s ∧ s ≤ 65535) (hnow : 0 ≤ now ∧ now ≤ 1000) {x y : Nat × Nat} (hl : Link W x y) : Inv P n W now (sends L x y s now) := by
  obtain ⟨a, p⟩ := x
  obtain ⟨b, q⟩ := y
  obtain ⟨t, u, e0, _, _, _, _, he0, _, hh⟩ := sends_cases hP hN h hs hnow hl
  rcases hh with ⟨h1, _⟩ | ⟨_, h1, h2, h3⟩
  · rw [h1]; exact h
  · rw [h1]
    refine ⟨putE_sys h.sys he0 h2 rfl, fun i k e he => ?_⟩
    rw [putE_ent he0] at he
    split at he
    · rename_i hh
      obtain ⟨rfl, rfl⟩ := hh
      injection he with he
      subst he
      exact h3
    · exact h.cls i k e he
end Go.Proofs.Ytcdgofndfajekaa
