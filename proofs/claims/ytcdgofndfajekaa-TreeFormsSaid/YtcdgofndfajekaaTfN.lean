/-
  TreeForms: the clocks of a network in memory.
-/
import Derived.Test.YtcdgofndfajekaaTreeS
namespace Go.Proofs.Ytcdgofndfajekaa
set_option linter.unusedSimpArgs false
set_option linter.unusedVariables false
open Go.RowKit

/-- Each clock lies in five blocks of its own; `F`: blocks that no path lies in (the clocks' own, and the law's). -/
structure Nt (w : World) (F : List Nat) (Bs : List Bks) (L : List Tre) (PS : List (List Value)) : Prop where
  lenB : Bs.length = L.length
  lenP : PS.length = L.length
  tat : ∀ (i : Nat) (b : Bks) (t : Tre) (ps : List Value), Bs[i]? = some b → L[i]? = some t → PS[i]? = some ps → TAt w b t ps
  pth : ∀ (i : Nat) (ps : List Value), PS[i]? = some ps → ∀ (k : Nat) (A : Option Addr) (n c : Nat), ps[k]? = some (Value.slice A n c) → 0 < n → ∀ ad, A = some ad → ad.block ∉ F
  sub : ∀ b ∈ Bs, ∀ g ∈ b.all, g ∈ F
  apart : ∀ (i j : Nat) (b b' : Bks), Bs[i]? = some b → Bs[j]? = some b' → i ≠ j → ∀ g ∈ b.all, g ∉ b'.all
  old : ∀ g ∈ F, g < w.heap.size
section
variable {w w' : World} {F : List Nat} {Bs : List Bks} {L : List Tre} {PS : List (List Value)}
theorem Nt.nil (w : World) : Nt w [] [] [] [] := ⟨rfl, rfl, by simp, by simp, by simp, by simp, by simp⟩
theorem Nt.get (h : Nt w F Bs L PS) {i : Nat} {t : Tre} (ht : L[i]? = some t) : ∃ b ps, Bs[i]? = some b ∧ PS[i]? = some ps ∧ TAt w b t ps := by
  have hi := (List.getElem?_eq_some_iff.1 ht).1
  have h1 : i < Bs.length := by rw [h.lenB]; exact hi
  have h2 : i < PS.length := by rw [h.lenP]; exact hi
  exact ⟨_, _, List.getElem?_eq_getElem h1, List.getElem?_eq_getElem h2, h.tat i _ _ _ (List.getElem?_eq_getElem h1) ht (List.getElem?_eq_getElem h2)⟩
/-- Other blocks turn; more of them are kept. -/
theorem Nt.far (h : Nt w F Bs L PS) {S F' : List Nat} (hf : Fr S w w') (hS : ∀ k ∈ S, k ∈ F) (hn : ∀ b ∈ Bs, ∀ g ∈ b.all, g ∉ S) (hF : ∀ g ∈ F, g ∈ F') (hF2 : ∀ g ∈ F', g ∈ F ∨ w.heap.size ≤ g) (hF3 : ∀ g ∈ F', g < w'.heap.size) : Nt w' F' Bs L PS := by
  have hlt : ∀ (i : Nat) (ps : List Value), PS[i]? = some ps → ∀ (k : Nat) (A : Option Addr) (n c : Nat), ps[k]? = some (Value.slice A n c) → 0 < n → ∀ ad, A = some ad → ad.block < w.heap.size := by
    intro i ps hps k A n c hk h0 ad hA
    have hi := (List.getElem?_eq_some_iff.1 hps).1
    rw [h.lenP] at hi
    have ht := List.getElem?_eq_getElem hi
    obtain ⟨b, ps', hb, hps', T⟩ := h.get ht
    rw [hps] at hps'
    injection hps' with hps'
    subst hps'
    have hk2 := (List.getElem?_eq_some_iff.1 hk).1
    rw [T.len] at hk2
    obtain ⟨A', c', h1, _, h3⟩ := T.pth k _ (List.getElem?_eq_getElem hk2)
    rw [hk] at h1
    injection h1 with h1
    injection h1 with h1 h1' _
    subst h1
    rw [h1'] at h0
    obtain ⟨ad', e1, hl, _, _⟩ := h3 h0
    rw [hA] at e1
    injection e1 with e1
    rw [e1]
    exact hl
  refine ⟨h.lenB, h.lenP, fun i b t ps hb ht hps => ?_, fun i ps hps k A n c hk h0 ad hA hc => ?_, fun b hb g hg => hF g (h.sub b hb g hg), h.apart, hF3⟩
  · have T := h.tat i b t ps hb ht hps
    refine T.far hf (fun k hk hb2 => hn b (List.mem_of_getElem? hb) k hb2 hk) fun k e A c he hk h0 => ?_
    obtain ⟨A', c', h1, _, h3⟩ := T.pth k e he
    rw [hk] at h1
    injection h1 with h1
    injection h1 with h1 _ _
    subst h1
    obtain ⟨ad, e1, hl, _, hc⟩ := h3 h0
    exact ⟨ad, e1, hl, fun hh => h.pth i ps hps k A _ c hk h0 ad e1 (hS _ hh), hc⟩
  · rcases hF2 _ hc with h1 | h1
    · exact h.pth i ps hps k A n c hk h0 ad hA h1
    · have := hlt i ps hps k A n c hk h0 ad hA
      omega
theorem Nt.kept (h : Nt w F Bs L PS) (hb : Below w.heap.size w w') : Nt w' F Bs L PS :=
  h.far (S := []) (Fr.be hb) (by simp) (by simp) (fun _ a => a) (fun _ a => .inl a) (fun g hg => Nat.lt_of_lt_of_le (h.old g hg) hb.size)
/-- One clock turns. -/
theorem Nt.set (h : Nt w F Bs L PS) {i : Nat} {b : Bks} {t t' : Tre} {ps ps' : List Value} (hb : Bs[i]? = some b) (ht : L[i]? = some t) (hps : PS[i]? = some ps) (T : TAt w' b t' ps') (N : PNew w ps ps') (hf : Fr b.turn w w') : Nt w' F Bs (L.set i t') (PS.set i ps') := by
  have hturn : ∀ k ∈ b.turn, k ∈ b.all := fun k hk => turn_all hk
  refine ⟨by rw [List.length_set]; exact h.lenB, by rw [List.length_set, List.length_set]; exact h.lenP, fun j b' u qs hb' hu hqs => ?_, fun j qs hqs k A n c hk h0 ad hA => ?_, h.sub, h.apart, fun g hg => Nat.lt_of_lt_of_le (h.old g hg) hf.size⟩
  · by_cases e : i = j
    · subst e
      rw [List.getElem?_set_self (List.getElem?_eq_some_iff.1 ht).1] at hu
      rw [List.getElem?_set_self (List.getElem?_eq_some_iff.1 hps).1] at hqs
      rw [hb] at hb'
      injection hb' with hb'
      injection hu with hu
      injection hqs with hqs
      subst hb' hu hqs
      exact T
    · rw [List.getElem?_set_ne e] at hu hqs
      have T2 := h.tat j b' u qs hb' hu hqs
      refine T2.far hf (fun k hk hb2 => h.apart i j b b' hb hb' e k (hturn k hk) hb2) fun k e' A c he hk h0 => ?_
      obtain ⟨A', c', h1, _, h3⟩ := T2.pth k e' he
      rw [hk] at h1
      injection h1 with h1
      injection h1 with h1 _ _
      subst h1
      obtain ⟨ad, e1, hl, _, hc⟩ := h3 h0
      exact ⟨ad, e1, hl, fun hh => h.pth j qs hqs k A _ c hk h0 ad e1 (h.sub b (List.mem_of_getElem? hb) _ (hturn _ hh)), hc⟩
  · by_cases e : i = j
    · subst e
      rw [List.getElem?_set_self (List.getElem?_eq_some_iff.1 hps).1] at hqs
      injection hqs with hqs
      subst hqs
      rcases N k _ hk with h1 | ⟨A', n', c', h1, h2⟩
      · exact h.pth i ps hps k A n c h1 h0 ad hA
      · injection h1 with h1 _ _
        subst h1
        intro hc
        have := h2 ad hA
        have := h.old _ hc
        omega
    · rw [List.getElem?_set_ne e] at hqs
      exact h.pth j qs hqs k A n c hk h0 ad hA
/-- A clock more. -/
theorem Nt.push (h : Nt w F Bs L PS) {b : Bks} {t : Tre} {ps : List Value} (hw : Below w.heap.size w w') (T : TAt w' b t ps) (hb : ∀ g ∈ b.all, w.heap.size ≤ g) (hp : ∀ (k : Nat) (A : Option Addr) (n c : Nat), ps[k]? = some (Value.slice A n c) → 0 < n → False) : Nt w' (b.all ++ F) (Bs ++ [b]) (L ++ [t]) (PS ++ [ps]) := by
  have hlt := T.lt
  have h' : Nt w' (b.all ++ F) Bs L PS := h.far (S := []) (Fr.be hw) (by simp) (by simp) (fun g a => by simp [a]) (fun g a => by
    rcases List.mem_append.1 a with a | a
    · exact .inr (hb g a)
    · exact .inl a) (fun g a => by
    rcases List.mem_append.1 a with a | a
    · exact hlt g a
    · exact Nat.lt_of_lt_of_le (h.old g a) hw.size)
  have key : ∀ {α : Type} (l : List α) (x y : α) (i : Nat), (l ++ [x])[i]? = some y → l[i]? = some y ∨ (i = l.length ∧ y = x) := fun l x y i hh => by
    rcases Nat.lt_or_ge i l.length with h1 | h1
    · rw [List.getElem?_append_left h1] at hh; exact .inl hh
    · rw [List.getElem?_append_right h1] at hh
      have h2 := (List.getElem?_eq_some_iff.1 hh).1
      simp at h2
      have h3 : i - l.length = 0 := by omega
      rw [h3] at hh
      simp at hh
      exact .inr ⟨by omega, hh.symm⟩
  have lb := h.lenB
  have lp := h.lenP
  refine ⟨by simp [lb], by simp [lp], fun i b' u qs hb' hu hqs => ?_, fun i qs hqs k A n c hk h0 ad hA => ?_, fun b' hb' g hg => ?_, fun i j b1 b2 h1 h2 hne g hg hg2 => ?_, h'.old⟩
  · rcases key _ _ _ _ hb' with h1 | ⟨h1, rfl⟩
    · have hi := (List.getElem?_eq_some_iff.1 h1).1
      rcases key _ _ _ _ hu with h2 | ⟨h2, _⟩
      · rcases key _ _ _ _ hqs with h3 | ⟨h3, _⟩
        · exact h'.tat i b' u qs h1 h2 h3
        · omega
      · omega
    · rcases key _ _ _ _ hu with h2 | ⟨h2, rfl⟩
      · have := (List.getElem?_eq_some_iff.1 h2).1
        omega
      · rcases key _ _ _ _ hqs with h3 | ⟨h3, rfl⟩
        · have := (List.getElem?_eq_some_iff.1 h3).1
          omega
        · exact T
  · rcases key _ _ _ _ hqs with h3 | ⟨h3, rfl⟩
    · exact h'.pth i qs h3 k A n c hk h0 ad hA
    · exact absurd (hp k A n c hk h0) id
  · rcases List.mem_append.1 hb' with h1 | h1
    · exact h'.sub b' h1 g hg
    · simp at h1
      subst h1
      exact List.mem_append_left _ hg
  · rcases key _ _ _ _ h1 with a1 | ⟨a1, rfl⟩
    · rcases key _ _ _ _ h2 with a2 | ⟨a2, rfl⟩
      · exact h.apart i j b1 b2 a1 a2 hne g hg hg2
      · have := h.old g (h.sub b1 (List.mem_of_getElem? a1) g hg)
        have := hb g hg2
        omega
    · rcases key _ _ _ _ h2 with a2 | ⟨a2, rfl⟩
      · have := h.old g (h.sub b2 (List.mem_of_getElem? a2) g hg2)
        have := hb g hg
        omega
      · omega
end
end Go.Proofs.Ytcdgofndfajekaa
