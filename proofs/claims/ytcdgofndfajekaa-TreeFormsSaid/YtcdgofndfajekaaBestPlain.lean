/-
  The best clock that is known, and what each port is to do: plain laws, no program in sight.
-/
import Derived.Test.YtcdgofndfajekaaBestChoose0
namespace Go.Proofs.Ytcdgofndfajekaa

def better (own : Pr) (h : Hd) : Prop := h.up = true ∧ h.ok = true ∧ cmpP h.vec.root own < 0
theorem root_le {p q : Vc} (h : cmpV p q ≤ 0) : cmpP p.root q.root ≤ 0 := by
  unfold cmpV at h
  rw [orI_cons] at h
  by_cases h0 : cmpP p.root q.root = 0
  · omega
  · rw [if_neg h0] at h
    exact h
def TopGood (own : Pr) (seen : List Hd) (top : Vc) : Prop :=
  (top = ownVec own ∧ ∀ h ∈ seen, ¬ better own h) ∨
  (∃ (j : Nat) (h : Hd), seen[j]? = some h ∧ better own h ∧ top = { h.vec with at_ := (j : Int) } ∧ ∀ h' ∈ seen, better own h' → cmpP top.root h'.vec.root ≤ 0)
theorem topFrom_good (own : Pr) : ∀ (rest seen : List Hd) (top : Vc), TopGood own seen top → TopGood own (seen ++ rest) (topFrom (ownVec own) top seen.length rest)
  | [], seen, top, h => by simpa [topFrom] using h
  | x :: rest, seen, top, h => by
    have key : TopGood own (seen ++ [x]) (topStep (ownVec own) top seen.length x) := by
      by_cases hb : better own x
      · by_cases hc : top.at_ < 0 ∨ cmpV { x.vec with at_ := (seen.length : Int) } top < 0
        · have e : topStep (ownVec own) top seen.length x = { x.vec with at_ := (seen.length : Int) } := if_pos ⟨hb.1, hb.2.1, hb.2.2, hc⟩
          rw [e]
          refine .inr ⟨seen.length, x, by simp, hb, rfl, fun h' hh' hb' => ?_⟩
          rcases List.mem_append.1 hh' with hh | hh
          · rcases h with ⟨rfl, hn⟩ | ⟨j, y, hj, hy, rfl, hall⟩
            · exact absurd hb' (hn h' hh)
            · have h1 := hall h' hh hb'
              have h2 : cmpP x.vec.root y.vec.root ≤ 0 := by
                rcases hc with hc | hc
                · exact absurd hc (by simp only; omega)
                · exact root_le (p := { x.vec with at_ := (seen.length : Int) }) (q := { y.vec with at_ := (j : Int) }) (by omega)
              exact (cmpP_trans _ _ _ h2 h1).1
          · simp at hh
            subst hh
            show cmpP h'.vec.root h'.vec.root ≤ 0
            rw [cmpP_self]
            exact Int.le_refl _
        · have e : topStep (ownVec own) top seen.length x = top := if_neg (fun hh => hc hh.2.2.2)
          rw [e]
          rcases h with ⟨rfl, hn⟩ | ⟨j, y, hj, hy, htop, hall⟩
          · exact absurd (.inl (show (-1 : Int) < 0 by omega)) hc
          · refine .inr ⟨j, y, by rw [List.getElem?_append_left (List.getElem?_eq_some_iff.1 hj).1]; exact hj, hy, htop, fun h' hh' hb' => ?_⟩
            rcases List.mem_append.1 hh' with hh | hh
            · exact hall h' hh hb'
            · simp at hh
              subst hh
              have h3 : cmpV top { h'.vec with at_ := (seen.length : Int) } ≤ 0 := by
                rw [cmpV_neg { h'.vec with at_ := (seen.length : Int) } top]
                have : ¬ cmpV { h'.vec with at_ := (seen.length : Int) } top < 0 := fun hh => hc (.inr hh)
                omega
              exact root_le (q := { h'.vec with at_ := (seen.length : Int) }) h3
      · have e : topStep (ownVec own) top seen.length x = top := if_neg (fun hh => hb ⟨hh.1, hh.2.1, hh.2.2.1⟩)
        rw [e]
        rcases h with ⟨rfl, hn⟩ | ⟨j, y, hj, hy, htop, hall⟩
        · refine .inl ⟨rfl, fun h' hh' => ?_⟩
          rcases List.mem_append.1 hh' with hh | hh
          · exact hn h' hh
          · simp at hh
            subst hh
            exact hb
        · refine .inr ⟨j, y, by rw [List.getElem?_append_left (List.getElem?_eq_some_iff.1 hj).1]; exact hj, hy, htop, fun h' hh' hb' => ?_⟩
          rcases List.mem_append.1 hh' with hh | hh
          · exact hall h' hh hb'
          · simp at hh
            subst hh
            exact absurd hb' hb
    have := topFrom_good own rest (seen ++ [x]) _ key
    simpa [topFrom] using this
theorem topOf_good (own : Pr) (hs : List Hd) : TopGood own hs (topOf own hs) := by
  have h := topFrom_good own hs [] (ownVec own) (.inl ⟨rfl, by simp⟩)
  rw [List.nil_append] at h
  exact h
theorem roleOf_range (own : Pr) (top : Vc) (k : Nat) (h : Hd) : 0 ≤ roleOf own top k h ∧ roleOf own top k h ≤ 3 := by
  unfold roleOf; repeat' split
  all_goals omega
theorem roleOf_down (own : Pr) (top : Vc) (k : Nat) (h : Hd) (hu : h.up = false) : roleOf own top k h = 0 := if_pos hu
theorem roleOf_at (own : Pr) (top : Vc) (k : Nat) (h : Hd) (hu : h.up = true) (hk : (k : Int) = top.at_) : roleOf own top k h = 2 := by rw [roleOf, if_neg (by rw [hu]; simp), if_pos hk]
theorem roleOf_else (own : Pr) (top : Vc) (k : Nat) (h : Hd) (hu : h.up = true) (hk : ¬ (k : Int) = top.at_) : roleOf own top k h = 1 ∨ roleOf own top k h = 3 := by
  rw [roleOf, if_neg (by rw [hu]; simp), if_neg hk]
  split
  · exact .inr rfl
  · exact .inl rfl
def betterB (own : Pr) (h : Hd) : Bool := h.up && (h.ok && decide (cmpP h.vec.root own < 0))
theorem betterB_iff (own : Pr) (h : Hd) : betterB own h = true ↔ better own h := by simp [betterB, better]
structure TopFacts (own : Pr) (hs : List Hd) (top : Vc) : Prop where
  least : ∀ h ∈ hs, better own h → cmpP top.root h.vec.root ≤ 0
  chosen : ∀ (k : Nat) (h : Hd), (k : Int) = top.at_ → hs[k]? = some h → better own h
  lt : top.at_ < hs.length
  any : (hs.any (betterB own)) = decide (0 ≤ top.at_)
  own_ : cmpP top.root own ≤ 0
theorem top_facts (own : Pr) (hs : List Hd) : TopFacts own hs (topOf own hs) := by
  rcases topOf_good own hs with ⟨h1, h2⟩ | ⟨j, h, h1, h2, h3, h4⟩
  · rw [h1]
    refine ⟨fun h hh hb => absurd hb (h2 h hh), fun k h hk _ => ?_, ?_, ?_, ?_⟩
    · simp only [ownVec] at hk; omega
    · simp only [ownVec]; omega
    · have e : decide (0 ≤ (ownVec own).at_) = false := by simp [ownVec]
      rw [e, List.any_eq_false]
      intro x hx
      rw [betterB_iff]
      exact h2 x hx
    · show cmpP own own ≤ 0
      rw [cmpP_self]; exact Int.le_refl _
  · have hj := (List.getElem?_eq_some_iff.1 h1).1
    refine ⟨h4, fun k h' hk hh' => ?_, ?_, ?_, ?_⟩
    · rw [h3] at hk
      simp only at hk
      obtain rfl : k = j := by omega
      rw [h1] at hh'
      cases hh'
      exact h2
    · rw [h3]; simp only; omega
    · have e : decide (0 ≤ (topOf own hs).at_) = true := by rw [h3]; simp
      rw [e, List.any_eq_true]
      exact ⟨h, List.mem_of_getElem? h1, (betterB_iff own h).2 h2⟩
    · rw [h3]
      have := h2.2.2
      show cmpP h.vec.root own ≤ 0
      omega
end Go.Proofs.Ytcdgofndfajekaa
