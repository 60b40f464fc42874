/-
  TreeForms, plain: the top is the least of what is better; what is sent over a wire, and what it leaves.
-/
import Derived.Test.YtcdgofndfajekaaTreeS
import Derived.Test.YtcdgofndfajekaaTfW
namespace Go.Proofs.Ytcdgofndfajekaa
set_option linter.unusedSimpArgs false
set_option linter.unusedVariables false
open Go.RowKit

theorem cmpV_le_trans (p q r : Vc) (h1 : cmpV p q ≤ 0) (h2 : cmpV q r ≤ 0) : cmpV p r ≤ 0 := by
  rw [← cmpV_lex] at *
  exact (lexR_trans p.ints q.ints r.ints rfl rfl h1 h2).1
/-! ### The top is the least -/
def TopMin (own : Pr) (seen : List Hd) (top : Vc) : Prop := ∀ (j : Nat) (h : Hd), seen[j]? = some h → better own h → 0 ≤ top.at_ ∧ cmpV top { h.vec with at_ := (j : Int) } ≤ 0
theorem topFrom_min (own : Pr) : ∀ (rest seen : List Hd) (top : Vc), TopMin own seen top → TopMin own (seen ++ rest) (topFrom (ownVec own) top seen.length rest)
  | [], seen, top, h => by simpa [topFrom] using h
  | x :: rest, seen, top, h => by
    have key : TopMin own (seen ++ [x]) (topStep (ownVec own) top seen.length x) := by
      intro j y hy hb
      have hj : j < seen.length ∨ (j = seen.length ∧ y = x) := by
        rcases Nat.lt_or_ge j seen.length with h1 | h1
        · exact .inl h1
        · rw [List.getElem?_append_right h1] at hy
          have h2 := (List.getElem?_eq_some_iff.1 hy).1
          simp at h2
          have h3 : j - seen.length = 0 := by omega
          rw [h3] at hy
          simp at hy
          exact .inr ⟨by omega, hy.symm⟩
      by_cases hs : x.up = true ∧ x.ok = true ∧ cmpP x.vec.root (ownVec own).root < 0 ∧ (top.at_ < 0 ∨ cmpV { x.vec with at_ := (seen.length : Int) } top < 0)
      · have e : topStep (ownVec own) top seen.length x = { x.vec with at_ := (seen.length : Int) } := if_pos hs
        rw [e]
        refine ⟨by show (0 : Int) ≤ (seen.length : Int); omega, ?_⟩
        rcases hj with hj | ⟨hj, rfl⟩
        · rw [List.getElem?_append_left hj] at hy
          have h1 := h j y hy hb
          rcases hs.2.2.2 with h2 | h2
          · omega
          · exact cmpV_le_trans _ _ _ (Int.le_of_lt h2) h1.2
        · subst hj
          rw [cmpV_self]
          exact Int.le_refl _
      · have e : topStep (ownVec own) top seen.length x = top := if_neg hs
        rw [e]
        rcases hj with hj | ⟨hj, rfl⟩
        · rw [List.getElem?_append_left hj] at hy
          exact h j y hy hb
        · subst hj
          have h1 : ¬ (top.at_ < 0 ∨ cmpV { y.vec with at_ := (seen.length : Int) } top < 0) := fun hh => hs ⟨hb.1, hb.2.1, hb.2.2, hh⟩
          have h2 := cmpV_neg { y.vec with at_ := (seen.length : Int) } top
          refine ⟨by by_cases h3 : top.at_ < 0; exact absurd (.inl h3) h1; omega, ?_⟩
          by_cases h3 : cmpV { y.vec with at_ := (seen.length : Int) } top < 0
          · exact absurd (.inr h3) h1
          · omega
    have := topFrom_min own rest (seen ++ [x]) _ key
    simpa [topFrom] using this
theorem topOf_min (own : Pr) (hs : List Hd) : TopMin own hs (topOf own hs) := by
  have h := topFrom_min own hs [] (ownVec own) (fun j h hj => by simp at hj)
  rw [List.nil_append] at h
  exact h
/-! ### The order, by parts -/
theorem cmpV_le {v w : Vc} (h : cmpV v w ≤ 0) : cmpP v.root w.root < 0 ∨ (cmpP v.root w.root = 0 ∧ v.steps ≤ w.steps) := by
  unfold cmpV at h
  rw [orI_cons] at h
  by_cases h0 : cmpP v.root w.root = 0
  · rw [if_pos h0, orI_cons] at h
    refine .inr ⟨h0, ?_⟩
    unfold cmpI at h
    by_cases h1 : v.steps < w.steps
    · omega
    · rw [if_neg h1] at h
      by_cases h2 : w.steps < v.steps
      · rw [if_pos h2] at h
        simp at h
      · omega
  · rw [if_neg h0] at h
    exact .inl (by omega)
theorem cmpV_pos {v w : Vc} (h : 0 < cmpP v.root w.root ∨ (cmpP v.root w.root = 0 ∧ (w.steps < v.steps ∨ (v.steps = w.steps ∧ w.src < v.src)))) : ¬ cmpV v w < 0 := by
  unfold cmpV
  rw [orI_cons]
  rcases h with h | ⟨h0, h⟩
  · rw [if_neg (by omega)]
    omega
  · rw [if_pos h0, orI_cons]
    rcases h with h | ⟨h1, h⟩
    · have e : cmpI v.steps w.steps = 1 := by unfold cmpI; rw [if_neg (by omega), if_pos h]
      rw [e, if_neg (by decide)]
      decide
    · have e : cmpI v.steps w.steps = 0 := by unfold cmpI; rw [if_neg (by omega), if_neg (by omega)]
      have e2 : cmpI v.src w.src = 1 := by unfold cmpI; rw [if_neg (by omega), if_pos h]
      rw [e, if_pos rfl, orI_cons, e2, if_neg (by decide)]
      decide
theorem cmpV_neg' {v w : Vc} (h0 : cmpP v.root w.root = 0) (h : v.steps < w.steps ∨ (v.steps = w.steps ∧ v.src < w.src)) : cmpV v w < 0 := by
  unfold cmpV
  rw [orI_cons, if_pos h0, orI_cons]
  rcases h with h | ⟨h1, h⟩
  · have e : cmpI v.steps w.steps = -1 := by unfold cmpI; rw [if_pos h]
    rw [e, if_neg (by decide)]
    decide
  · have e : cmpI v.steps w.steps = 0 := by unfold cmpI; rw [if_neg (by omega), if_neg (by omega)]
    have e2 : cmpI v.src w.src = -1 := by unfold cmpI; rw [if_pos h]
    rw [e, if_pos rfl, orI_cons, e2, if_neg (by decide)]
    decide
theorem cmpV_at {v w : Vc} (h : cmpV v w = 0) : v.at_ = w.at_ := by
  unfold cmpV at h
  rw [orI_cons] at h
  split at h
  · rw [orI_cons] at h
    split at h
    · rw [orI_cons] at h
      split at h
      · rw [orI_cons] at h
        split at h
        · rw [orI_cons] at h
          split at h
          · rename_i hh
            unfold cmpI at hh
            split at hh
            · omega
            · split at hh <;> omega
          · contradiction
        · contradiction
      · contradiction
    · contradiction
  · contradiction
theorem cmpP_id {p q : Pr} (h : cmpP p q = 0) : p.id = q.id := by
  unfold cmpP at h
  rw [orI_cons] at h
  split at h
  · rw [orI_cons] at h
    split at h
    · rw [orI_cons] at h
      split at h
      · rw [orI_cons] at h
        split at h
        · rename_i hh
          unfold cmpI at hh
          split at hh
          · omega
          · split at hh <;> omega
        · contradiction
      · contradiction
    · contradiction
  · contradiction
/-! ### The clocks -/
def Who (P : Nat → Pr) (n : Nat) : Prop := n ≤ 7 ∧ ∀ i, i < n → (P i).id = 10 + (i : Int) ∧ (0 ≤ (P i).one ∧ (P i).one ≤ 3) ∧ (0 ≤ (P i).cls ∧ (P i).cls ≤ 1) ∧ (0 ≤ (P i).two ∧ (P i).two ≤ 1)
theorem Who.ne {P : Nat → Pr} {n : Nat} (h : Who P n) {i k : Nat} (hi : i < n) (hk : k < n) (hne : i ≠ k) : cmpP (P i) (P k) ≠ 0 := fun h0 => by
  have := cmpP_id h0
  rw [(h.2 i hi).1, (h.2 k hk).1] at this
  omega
theorem Who.okr {P : Nat → Pr} {n : Nat} (h : Who P n) {i : Nat} (hi : i < n) : okN 255 [(P i).one, (P i).cls, (P i).two, 0] = true ∧ okN ids [(P i).id] = true ∧ (0 ≤ (P i).id ∧ (P i).id ≤ ids) := by
  obtain ⟨h1, h2, h3, h4⟩ := h.2 i hi
  have h5 := h.1
  have h6 : 0 ≤ (P i).id ∧ (P i).id ≤ ids := by unfold ids; omega
  exact ⟨okN_more (by omega) (okN_more (by omega) (okN_more (by omega) (okN_one (by omega)))), okN_one h6, h6⟩
/-! ### What is sent -/
def ent (L : List Tre) (i p : Nat) : Option En := match L[i]? with | some t => t.es[p]? | none => none
theorem ent_at {L : List Tre} {i p : Nat} {t : Tre} (h : L[i]? = some t) : ent L i p = t.es[p]? := by unfold ent; rw [h]
noncomputable def sends (L : List Tre) (x y : Nat × Nat) (s now : Int) : List Tre :=
  match L[x.1]?, L[y.1]? with
  | some t, some u => if roleAt t.own (t.top now) (t.hs now) x.2 = 1 then L.set y.1 (u.in_ y.2 (t.outM x.2 s now) now) else L
  | _, _ => L
/-- All that a message takes, of a clock that may tell. -/
theorem tell_ok {P : Nat → Pr} {n i p : Nat} {t : Tre} {s now : Int} (hP : Who P n) (hi : i < n) (hok : TOk (P i) 0 5 8 t) (hp : p < 8) (hs : 0 ≤ s ∧ s ≤ 65535) : checkV (t.outM p s now) = 0 := by
  obtain ⟨h1, h2, h3⟩ := hP.okr hi
  have hid : 0 ≤ t.own.id ∧ t.own.id ≤ ids := by rw [hok.own_]; exact h3
  have hd : 0 ≤ t.dom ∧ t.dom ≤ 127 := by rw [hok.dom]; decide
  unfold Tre.outM
  by_cases h0 : (t.top now).at_ < 0
  · rw [if_pos h0]
    have hT := top_low (own := t.own) (hs := t.hs now) h0
    refine om_right hd hp hs hid ?_ ?_ (by simp) (okN_one hid)
    · rw [show t.top now = ownVec t.own from hT]
      show okN 255 [t.own.one, t.own.cls, t.own.two, 0] = true
      rw [hok.own_]
      exact h1
    · rw [show t.top now = ownVec t.own from hT]
      show okN ids [t.own.id] = true
      rw [hok.own_]
      exact h2
  · rw [if_neg h0]
    obtain ⟨j, e, he, hj, hT⟩ := tre_high hok (now := now) (by omega)
    have hE := hok.all e (List.mem_of_getElem? he)
    obtain ⟨_, hE2, hE3, hE4, hE5, hE6, _⟩ := hE
    rw [hT]
    have hj2 : ((j : Int)).toNat = j := by simp
    rw [hj2, he]
    have hst := okN_mem hE4 e.vec.steps (by simp)
    have hw : wrap64 (e.vec.steps + 1) = e.vec.steps + 1 := by unfold wrap64; omega
    refine om_right hd hp hs hid ?_ hE6 (by simp; omega) (okN_app hE3 (okN_one hid))
    rw [hw]
    have a1 := okN_mem hE4 e.vec.root.one (by simp)
    have a2 := okN_mem hE4 e.vec.root.cls (by simp)
    have a3 := okN_mem hE4 e.vec.root.two (by simp)
    exact okN_more a1 (okN_more a2 (okN_more a3 (okN_one (by omega))))
theorem out_kind (t : Tre) (p : Nat) (s now : Int) : (t.outM p s now).kind = 11 ∧ (t.outM p s now).domain = t.dom ∧ (t.outM p s now).src = t.own.id ∧ (t.outM p s now).port = (p : Int) := by
  unfold Tre.outM
  split <;> exact ⟨rfl, rfl, rfl, rfl⟩
/-- What comes of a message that may be told. -/
theorem heard_ok {t u : Tre} {p q : Nat} {s now : Int} {e : En} (hc : checkV (t.outM p s now) = 0) (hd : t.dom = u.dom) (he : u.es[q]? = some e) (hu : e.up = true) :
    (u.inE q (t.outM p s now) = 31 ∧ ((t.outM p s now).src = u.own.id ∨ u.own.id ∈ (t.outM p s now).path ∨ 255 ≤ (t.outM p s now).steps ∨ 32 ≤ (t.outM p s now).path.length)) ∨
    (u.inE q (t.outM p s now) = 0 ∧ ¬ ((t.outM p s now).src = u.own.id ∨ u.own.id ∈ (t.outM p s now).path ∨ 255 ≤ (t.outM p s now).steps ∨ 32 ≤ (t.outM p s now).path.length)) := by
  obtain ⟨k1, k2, _, _⟩ := out_kind t p s now
  have h1 : ¬ ((t.outM p s now).kind ≠ 11 ∨ checkV (t.outM p s now) ≠ 0 ∨ (t.outM p s now).domain ≠ u.dom) := by
    rw [k1, k2, hc, hd]
    simp
  have h2 : u.upAt q = true := by rw [upAt_at he]; exact hu
  by_cases h3 : (t.outM p s now).src = u.own.id ∨ u.own.id ∈ (t.outM p s now).path ∨ 255 ≤ (t.outM p s now).steps ∨ 32 ≤ (t.outM p s now).path.length
  · exact .inl ⟨inE_31 h1 h2 h3, h3⟩
  · exact .inr ⟨inE_0 h1 h2 h3, h3⟩
end Go.Proofs.Ytcdgofndfajekaa
