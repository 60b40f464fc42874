/-
  TreeForms, plain: clocks that have heard nothing, wired one wire at a time; then what was said ahead.
-/
import Derived.Test.YtcdgofndfajekaaTfF
import Derived.Test.YtcdgofndfajekaaTfN
namespace Go.Proofs.Ytcdgofndfajekaa
set_option linter.unusedSimpArgs false
set_option linter.unusedVariables false
open Go.RowKit

def frAt (fr : List Nat) (i : Nat) : Nat := fr.getD i 0
theorem frAt_set {fr : List Nat} {a x : Nat} (ha : a < fr.length) (i : Nat) : frAt (fr.set a x) i = if i = a then x else frAt fr i := by
  unfold frAt
  rw [List.getD_eq_getElem?_getD, List.getElem?_set]
  by_cases h : a = i
  · subst h
    rw [if_pos rfl, if_pos rfl, if_pos ha]
    rfl
  · rw [if_neg h, if_neg (fun e => h e.symm), List.getD_eq_getElem?_getD]
/-- Clocks that have heard nothing, each with its first ports in use. -/
structure Lnk (P : Nat → Pr) (n : Nat) (fr : List Nat) (W : List Wire) (L : List Tre) : Prop where
  flen : fr.length = n
  most : ∀ i, i < n → frAt fr i ≤ 8
  len : L.length = n
  tok : ∀ i t, L[i]? = some t → TOk (P i) 0 5 8 t
  quiet : ∀ i p e, ent L i p = some e → e.ok = false ∧ e.path = [] ∧ (e.up = true ↔ p < frAt fr i)
  net : Net n W
  used : ∀ i p, i < n → p < frAt fr i → ∃ y, Link W (i, p) y
  low : ∀ x y, Link W x y → x.2 < frAt fr x.1
section
variable {P : Nat → Pr} {n : Nat} {fr : List Nat} {W : List Wire} {L : List Tre}
theorem Lnk.paths (h : Lnk P n fr W L) : ∀ t ∈ L, ∀ e ∈ t.es, e.path = [] := fun t ht e he => by
  obtain ⟨i, hi⟩ := List.getElem?_of_mem ht
  obtain ⟨p, hp⟩ := List.getElem?_of_mem he
  exact (h.quiet i p e (by rw [ent_at hi]; exact hp)).2.1
theorem link_app {W : List Wire} {w : Wire} {x y : Nat × Nat} : Link (W ++ [w]) x y ↔ Link W x y ∨ (w.1 = x ∧ w.2 = y) ∨ (w.1 = y ∧ w.2 = x) := by
  unfold Link
  constructor
  · rintro ⟨v, hv, h⟩
    rcases List.mem_append.1 hv with h1 | h1
    · exact .inl ⟨v, h1, h⟩
    · simp at h1
      subst h1
      exact .inr h
  · rintro (⟨v, hv, h⟩ | h)
    · exact ⟨v, List.mem_append_left _ hv, h⟩
    · exact ⟨w, by simp, h⟩
theorem ent_set {L : List Tre} {a : Nat} {t u : Tre} (ha : L[a]? = some t) (i p : Nat) : ent (L.set a u) i p = if i = a then u.es[p]? else ent L i p := by
  have hl := (List.getElem?_eq_some_iff.1 ha).1
  unfold ent
  rw [List.getElem?_set]
  by_cases h : a = i
  · subst h
    rw [if_pos rfl, if_pos rfl, if_pos hl]
  · rw [if_neg h, if_neg (fun e => h e.symm)]
theorem up_es {t : Tre} {q : Nat} (hq : q < t.es.length) (hno : ∀ e, t.es[q]? = some e → e.up = false) (p : Nat) : ∃ e0, t.es[q]? = some e0 ∧ (t.upI (q : Int) true).es[p]? = if p = q then some ⟨true, false, Vc.zero, [], e0.at_⟩ else t.es[p]? := by
  obtain ⟨e0, he⟩ : ∃ e, t.es[q]? = some e := ⟨_, List.getElem?_eq_getElem hq⟩
  refine ⟨e0, he, ?_⟩
  have hu : (t.upI (q : Int) true) = { t with es := t.es.set q ⟨true, false, Vc.zero, [], e0.at_⟩ } := by
    unfold Tre.upI
    rw [if_neg (by omega), Int.toNat_natCast]
    unfold Tre.up
    rw [he]
    exact if_neg (by rw [hno e0 he]; decide)
  rw [hu]
  show (t.es.set q _)[p]? = _
  rw [List.getElem?_set]
  by_cases h : q = p
  · subst h
    rw [if_pos rfl, if_pos rfl, if_pos hq]
  · rw [if_neg h, if_neg (fun e => h e.symm)]
theorem set_cases {α : Type} {L : List α} {a i : Nat} {u x : α} (h : (L.set a u)[i]? = some x) : (i = a ∧ x = u) ∨ L[i]? = some x := by
  by_cases e : a = i
  · subst e
    have hl : a < L.length := by have := (List.getElem?_eq_some_iff.1 h).1; simpa using this
    rw [List.getElem?_set_self hl] at h
    injection h with h
    exact .inl ⟨rfl, h.symm⟩
  · rw [List.getElem?_set_ne e] at h
    exact .inr h
/-- A wire more. -/
theorem Lnk.wire (h : Lnk P n fr W L) {a b : Nat} {t u : Tre} (ha : L[a]? = some t) (hb : L[b]? = some u) (hab : a ≠ b) (h8a : frAt fr a < 8) (h8b : frAt fr b < 8) :
    Lnk P n ((fr.set a (frAt fr a + 1)).set b (frAt fr b + 1)) (W ++ [((a, frAt fr a), (b, frAt fr b))]) ((L.set a (t.upI ((frAt fr a : Nat) : Int) true)).set b (u.upI ((frAt fr b : Nat) : Int) true)) := by
  have hla := (List.getElem?_eq_some_iff.1 ha).1
  have hlb := (List.getElem?_eq_some_iff.1 hb).1
  have hna : a < n := by rw [← h.len]; exact hla
  have hnb : b < n := by rw [← h.len]; exact hlb
  have hf : ∀ i, frAt ((fr.set a (frAt fr a + 1)).set b (frAt fr b + 1)) i = if i = b then frAt fr b + 1 else if i = a then frAt fr a + 1 else frAt fr i := fun i => by
    rw [frAt_set (by rw [List.length_set, h.flen]; exact hnb), frAt_set (by rw [h.flen]; exact hna)]
  have hb' : (L.set a (t.upI ((frAt fr a : Nat) : Int) true))[b]? = some u := by rw [List.getElem?_set_ne hab]; exact hb
  have hta : frAt fr a < t.es.length := by rw [(h.tok a t ha).len]; exact h8a
  have htb : frAt fr b < u.es.length := by rw [(h.tok b u hb).len]; exact h8b
  have noA : ∀ e, t.es[frAt fr a]? = some e → e.up = false := fun e he => by
    have := (h.quiet a _ e (by rw [ent_at ha]; exact he)).2.2
    cases hu : e.up with
    | false => rfl
    | true => exact absurd (this.1 hu) (by omega)
  have noB : ∀ e, u.es[frAt fr b]? = some e → e.up = false := fun e he => by
    have := (h.quiet b _ e (by rw [ent_at hb]; exact he)).2.2
    cases hu : e.up with
    | false => rfl
    | true => exact absurd (this.1 hu) (by omega)
  have hent : ∀ i p, ent ((L.set a (t.upI ((frAt fr a : Nat) : Int) true)).set b (u.upI ((frAt fr b : Nat) : Int) true)) i p = if i = b then (u.upI ((frAt fr b : Nat) : Int) true).es[p]? else if i = a then (t.upI ((frAt fr a : Nat) : Int) true).es[p]? else ent L i p := fun i p => by
    rw [ent_set hb', ent_set ha]
  refine ⟨by simp [h.flen], fun i hi => ?_, by simp [h.len], fun i x hx => ?_, fun i p e he => ?_, ⟨fun w hw => ?_, fun w hw => ?_, fun w hw => ?_, fun x y z h1 h2 => ?_⟩, fun i p hi hp => ?_, fun x y hl => ?_⟩
  · rw [hf]
    have := h.most i hi
    split
    · omega
    · split
      · omega
      · exact this
  · rcases set_cases hx with ⟨rfl, rfl⟩ | hx
    · exact tok_up (h.tok _ u hb) _ _
    · rcases set_cases hx with ⟨rfl, rfl⟩ | hx
      · exact tok_up (h.tok _ t ha) _ _
      · exact h.tok i x hx
  · rw [hent] at he
    rw [hf]
    by_cases e1 : i = b
    · subst e1
      rw [if_pos rfl] at he
      rw [if_pos rfl]
      obtain ⟨e0, _, h1⟩ := up_es htb noB p
      rw [h1] at he
      by_cases e2 : p = frAt fr i
      · rw [if_pos e2] at he
        injection he with he
        subst he
        exact ⟨rfl, rfl, by simp; omega⟩
      · rw [if_neg e2] at he
        obtain ⟨q1, q2, q3⟩ := h.quiet i p e (by rw [ent_at hb]; exact he)
        exact ⟨q1, q2, q3.trans (by omega)⟩
    · rw [if_neg e1] at he
      rw [if_neg e1]
      by_cases e2 : i = a
      · subst e2
        rw [if_pos rfl] at he
        rw [if_pos rfl]
        obtain ⟨e0, _, h1⟩ := up_es hta noA p
        rw [h1] at he
        by_cases e3 : p = frAt fr i
        · rw [if_pos e3] at he
          injection he with he
          subst he
          exact ⟨rfl, rfl, by simp; omega⟩
        · rw [if_neg e3] at he
          obtain ⟨q1, q2, q3⟩ := h.quiet i p e (by rw [ent_at ha]; exact he)
          exact ⟨q1, q2, q3.trans (by omega)⟩
      · rw [if_neg e2] at he
        rw [if_neg e2]
        exact h.quiet i p e he
  · rcases List.mem_append.1 hw with h1 | h1
    · exact h.net.within w h1
    · simp at h1
      subst h1
      exact ⟨hna, hnb⟩
  · rcases List.mem_append.1 hw with h1 | h1
    · exact h.net.ports w h1
    · simp at h1
      subst h1
      exact ⟨h8a, h8b⟩
  · rcases List.mem_append.1 hw with h1 | h1
    · exact h.net.apart w h1
    · simp at h1
      subst h1
      exact hab
  · have key : ∀ y, Link W (a, frAt fr a) y → False := fun y hl => by have := h.low _ _ hl; simp at this
    have key2 : ∀ y, Link W (b, frAt fr b) y → False := fun y hl => by have := h.low _ _ hl; simp at this
    rcases link_app.1 h1 with h1 | ⟨h1, h1'⟩ | ⟨h1, h1'⟩
    · rcases link_app.1 h2 with h2 | ⟨h2, h2'⟩ | ⟨h2, h2'⟩
      · exact h.net.one x y z h1 h2
      · simp only at h2
        subst h2
        exact (key _ h1).elim
      · simp only at h2'
        subst h2'
        exact (key2 _ h1).elim
    · rcases link_app.1 h2 with h2 | ⟨h2, h2'⟩ | ⟨h2, h2'⟩
      · simp only at h1
        subst h1
        exact (key _ h2).elim
      · exact h1'.symm.trans h2'
      · simp only at h1 h2'
        rw [← h1] at h2'
        injection h2' with e1 _
        exact absurd e1.symm hab
    · rcases link_app.1 h2 with h2 | ⟨h2, h2'⟩ | ⟨h2, h2'⟩
      · simp only at h1'
        subst h1'
        exact (key2 _ h2).elim
      · simp only at h2 h1'
        rw [← h2] at h1'
        injection h1' with e1 _
        exact absurd e1.symm hab
      · exact h1.symm.trans h2
  · rw [hf] at hp
    by_cases e1 : i = b
    · subst e1
      rw [if_pos rfl] at hp
      by_cases e2 : p = frAt fr i
      · subst e2
        exact ⟨_, link_app.2 (.inr (.inr ⟨rfl, rfl⟩))⟩
      · obtain ⟨y, hy⟩ := h.used i p hi (by omega)
        exact ⟨y, link_app.2 (.inl hy)⟩
    · rw [if_neg e1] at hp
      by_cases e2 : i = a
      · subst e2
        rw [if_pos rfl] at hp
        by_cases e3 : p = frAt fr i
        · subst e3
          exact ⟨_, link_app.2 (.inr (.inl ⟨rfl, rfl⟩))⟩
        · obtain ⟨y, hy⟩ := h.used i p hi (by omega)
          exact ⟨y, link_app.2 (.inl hy)⟩
      · rw [if_neg e2] at hp
        obtain ⟨y, hy⟩ := h.used i p hi hp
        exact ⟨y, link_app.2 (.inl hy)⟩
  · rw [hf]
    rcases link_app.1 hl with h1 | ⟨h1, _⟩ | ⟨_, h1⟩
    · have := h.low x y h1
      split
      · rename_i e
        rw [e] at this
        omega
      · split
        · rename_i e
          rw [e] at this
          omega
        · exact this
    · subst h1
      show _ < if a = b then _ else if a = a then _ else _
      rw [if_neg hab, if_pos rfl]
      exact Nat.lt_succ_self _
    · subst h1
      show _ < if b = b then _ else _
      rw [if_pos rfl]
      exact Nat.lt_succ_self _
theorem Lnk.start (hP : ∀ i, i < n → TOk (P i) 0 5 8 (Tre.new 0 (P i) 5 8)) : Lnk P n (List.replicate n 0) [] ((List.range n).map fun i => Tre.new 0 (P i) 5 8) := by
  have hf : ∀ i, frAt (List.replicate n 0) i = 0 := fun i => by
    unfold frAt
    rw [List.getD_eq_getElem?_getD, List.getElem?_replicate]
    split <;> rfl
  have hg : ∀ i t, ((List.range n).map fun i => Tre.new 0 (P i) 5 8)[i]? = some t → i < n ∧ t = Tre.new 0 (P i) 5 8 := fun i t h => by
    rw [List.getElem?_map] at h
    by_cases hi : i < n
    · rw [List.getElem?_range hi] at h
      injection h with h
      exact ⟨hi, h.symm⟩
    · rw [List.getElem?_eq_none (by simp; omega)] at h
      cases h
  refine ⟨by simp, fun i hi => by rw [hf]; omega, by simp, fun i t h => ?_, fun i p e he => ?_, ⟨fun _ h => by simp at h, fun _ h => by simp at h, fun _ h => by simp at h, fun _ _ _ ⟨_, h, _⟩ => by simp at h⟩, fun i p hi hp => by rw [hf] at hp; omega, fun _ _ ⟨_, h, _⟩ => by simp at h⟩
  · obtain ⟨h1, rfl⟩ := hg i t h
    exact hP i h1
  · unfold ent at he
    split at he
    · rename_i t ht
      obtain ⟨h1, rfl⟩ := hg i t ht
      have := List.mem_of_getElem? he
      unfold Tre.new at this
      simp only at this
      have := List.eq_of_mem_replicate this
      subst this
      rw [hf]
      exact ⟨rfl, rfl, by simp [En.new]⟩
    · cases he
theorem Lnk.inv (h : Lnk P n fr W L) : Inv P n W 0 L := by
  refine ⟨⟨h.len, h.tok, fun i p e he => ?_⟩, fun i p e he hok => by rw [(h.quiet i p e he).1] at hok; cases hok⟩
  obtain ⟨_, _, h3⟩ := h.quiet i p e he
  rw [h3]
  constructor
  · intro hp
    refine h.used i p ?_ hp
    unfold ent at he
    split at he
    · rename_i t ht
      rw [← h.len]
      exact (List.getElem?_eq_some_iff.1 ht).1
    · cases he
  · rintro ⟨y, hy⟩
    exact h.low _ _ hy
/-- What was said ahead, whatever it is. -/
theorem Inv.lie (h : Inv P n W 0 L) (hP : Who P n) {i : Nat} {t : Tre} (hi : L[i]? = some t) (at_ : Int) (m : Mg) : Inv P n W 0 (L.set i (t.in_ at_ m 0)) := by
  by_cases hz : t.inE at_ m = 0
  · obtain ⟨_, _, _, h4, h5, h6, _, _⟩ := inE_zero hz
    have hin : i < n := by rw [← h.sys.len]; exact (List.getElem?_eq_some_iff.1 hi).1
    have hk : 0 ≤ at_ ∧ at_.toNat < t.es.length := by
      unfold Tre.upAt at h4
      by_cases h0 : 0 ≤ at_
      · refine ⟨h0, ?_⟩
        rcases Nat.lt_or_ge at_.toNat t.es.length with h1 | h1
        · exact h1
        · rw [List.getElem?_eq_none h1] at h4; simp at h4
      · rw [decide_eq_false h0] at h4; cases h4
    obtain ⟨k, rfl⟩ : ∃ k : Nat, at_ = (k : Int) := ⟨at_.toNat, by omega⟩
    rw [Int.toNat_natCast] at hk
    obtain ⟨e0, he0⟩ : ∃ e, t.es[k]? = some e := ⟨_, List.getElem?_eq_getElem hk.2⟩
    rw [in_at hz he0]
    have hE : EOk (newE e0 m 0) := newE_ok hz ⟨by omega, by omega⟩
    have hee : ent L i k = some e0 := by rw [ent_at hi]; exact he0
    have hput : putE L i k (newE e0 m 0) = L.set i { t with es := t.es.set k (newE e0 m 0) } := by unfold putE; rw [hi]
    rw [← hput]
    refine ⟨putE_sys h.sys hee hE rfl, fun a p e he hok => ?_⟩
    rw [putE_ent hee] at he
    split at he
    · rename_i hh
      injection he with he
      subst he
      refine ⟨fun hm => h6 ?_, Int.le_refl _, .inr ⟨[], by simp, by simp, by show (0 : Int) ≤ _; simp⟩⟩
      rw [(h.sys.tok i t hi).own_, (hP.2 i hin).1, ← hh.1]
      exact hm
    · exact h.cls a p e he hok
  · rw [in_no hz]
    have : L.set i t = L := by
      apply List.ext_getElem?
      intro j
      rw [List.getElem?_set]
      split
      · rename_i e
        subst e
        split
        · exact hi.symm
        · rename_i h1
          exact absurd (List.getElem?_eq_some_iff.1 hi).1 h1
      · rfl
    rw [this]
    exact h
theorem Nt.far0 {w w' : World} {F : List Nat} {Bs : List Bks} {PS : List (List Value)} {S : List Nat} (h : Nt w F Bs L PS) (hp : ∀ t ∈ L, ∀ e ∈ t.es, e.path = []) (hf : Fr S w w') (hn : ∀ b ∈ Bs, ∀ g ∈ b.all, g ∉ S) : Nt w' F Bs L PS :=
  ⟨h.lenB, h.lenP, fun i b t ps hb ht hps => (h.tat i b t ps hb ht hps).far0 hf (fun k hk hk2 => hn b (List.mem_of_getElem? hb) k hk2 hk) (hp t (List.mem_of_getElem? ht)), h.pth, h.sub, h.apart, fun g hg => Nat.lt_of_lt_of_le (h.old g hg) hf.size⟩
end
end Go.Proofs.Ytcdgofndfajekaa
