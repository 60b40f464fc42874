/-
  A list of gates that is right, plain: where its slots lie.
-/
import Derived.Test.YtaegngcbiefckaaPlnLs
namespace Go.Proofs.Ytaegngcbiefckaa
set_option linter.unusedSimpArgs false
set_option linter.unusedVariables false
open Go.RowKit Go.WideShapes Go.ChangeShapes

def preS (t : List (Int × Int)) (i : Nat) : Int := ((t.take i).map (·.2)).sum
theorem preS_zero (t : List (Int × Int)) : preS t 0 = 0 := rfl
theorem preS_succ {t : List (Int × Int)} {i : Nat} {s : Int × Int} (h : t[i]? = some s) : preS t (i + 1) = preS t i + s.2 := by
  unfold preS
  rw [List.take_add_one, h]
  simp
structure Gd (t : List (Int × Int)) (cyc : Int) : Prop where
  l1 : 1 ≤ t.length
  l2 : t.length ≤ 64
  c1 : 1 ≤ cyc
  c2 : cyc ≤ 1073741824
  o : ∀ s ∈ t, (s.1 = 127 ∨ s.1 = 128) ∧ 1 ≤ s.2
  sum : preS t t.length = cyc
theorem preS_le {t : List (Int × Int)} (ho : ∀ s ∈ t, (s.1 = 127 ∨ s.1 = 128) ∧ 1 ≤ s.2) : ∀ (d i : Nat), i + d ≤ t.length → preS t i ≤ preS t (i + d)
  | 0, i, _ => Int.le_refl _
  | d + 1, i, h => by
    have h1 := preS_le ho d i (by omega)
    obtain ⟨s, hs⟩ : ∃ s, t[i + d]? = some s := ⟨_, List.getElem?_eq_getElem (by omega)⟩
    have h2 := preS_succ hs
    have h3 := (ho s (List.mem_of_getElem? hs)).2
    rw [show i + (d + 1) = i + d + 1 from rfl, h2]
    omega
theorem Gd.pre {t : List (Int × Int)} {cyc : Int} (h : Gd t cyc) {i : Nat} (hi : i ≤ t.length) : 0 ≤ preS t i ∧ preS t i ≤ cyc := by
  have h1 := preS_le h.o i 0 (by omega)
  have h2 := preS_le h.o (t.length - i) i (by omega)
  rw [show i + (t.length - i) = t.length by omega, h.sum] at h2
  rw [Nat.zero_add, preS_zero] at h1
  exact ⟨h1, h2⟩
/-- A place in the cycle lies in one slot alone. -/
theorem Gd.one {t : List (Int × Int)} {cyc p : Int} (h : Gd t cyc) {i j : Nat} (hi : i < t.length) (hj : j < t.length) (h1 : preS t i ≤ p) (h2 : p < preS t (i + 1)) (h3 : preS t j ≤ p) (h4 : p < preS t (j + 1)) : i = j := by
  rcases Nat.lt_trichotomy i j with hlt | he | hlt
  · have := preS_le h.o (j - (i + 1)) (i + 1) (by omega)
    rw [show i + 1 + (j - (i + 1)) = j by omega] at this
    omega
  · exact he
  · have := preS_le h.o (i - (j + 1)) (j + 1) (by omega)
    rw [show j + 1 + (i - (j + 1)) = i by omega] at this
    omega
theorem preS_cons (x : Int × Int) (t : List (Int × Int)) (i : Nat) : preS (x :: t) (i + 1) = x.2 + preS t i := by
  simp [preS]
/-- What a port's gates do, slot by slot. -/
theorem goV_slots (cyc : Int) : ∀ (d : List (Int × Int)) (at_ : Int) (t : List (Int × Int)), goV cyc at_ d = some t → at_ ≤ cyc → (∀ x ∈ d, x.1 < x.2 ∧ x.2 ≤ cyc) →
    (∀ s ∈ t, (s.1 = 127 ∨ s.1 = 128) ∧ 1 ≤ s.2) ∧ preS t t.length = cyc - at_ ∧ t.length ≤ 2 * d.length + 1 ∧ ∀ x ∈ d, ∃ i, t[i]? = some (128, x.2 - x.1) ∧ at_ + preS t i = x.1
  | [], at_, t, h, ha, _ => by
    rw [goV] at h
    obtain rfl := Option.some.inj h
    by_cases hc : at_ < cyc
    · rw [if_pos hc]
      refine ⟨fun s hs => ?_, ?_, by simp, fun x hx => (by cases hx)⟩
      · simp at hs; subst hs; exact ⟨.inl rfl, by simp only; omega⟩
      · simp [preS]
    · rw [if_neg hc]
      refine ⟨fun s hs => (by cases hs), ?_, by simp, fun x hx => (by cases hx)⟩
      show (0 : Int) = _
      omega
  | (a, b) :: r, at_, t, h, ha, hx => by
    rw [goV] at h
    by_cases hlt : a < at_
    · rw [if_pos hlt] at h; cases h
    rw [if_neg hlt] at h
    cases hr : goV cyc b r with
    | none => rw [hr] at h; cases h
    | some u =>
      rw [hr] at h
      obtain rfl := Option.some.inj h
      have hab := hx (a, b) (List.mem_cons_self ..)
      simp only at hab
      obtain ⟨h1, h2, h3, h4⟩ := goV_slots cyc r b u hr hab.2 fun x h => hx x (List.mem_cons_of_mem _ h)
      by_cases hg : at_ < a
      · rw [if_pos hg]
        simp only [List.cons_append, List.nil_append]
        refine ⟨fun s hs => ?_, ?_, by simp; omega, fun x hx' => ?_⟩
        · rcases List.mem_cons.1 hs with rfl | hs
          · exact ⟨.inl rfl, by simp only; omega⟩
          · rcases List.mem_cons.1 hs with rfl | hs
            · exact ⟨.inr rfl, by simp only; omega⟩
            · exact h1 s hs
        · rw [List.length_cons, preS_cons, List.length_cons, preS_cons, h2]
          simp only
          omega
        · rcases List.mem_cons.1 hx' with rfl | hx'
          · exact ⟨1, rfl, by rw [preS_cons, preS_zero]; simp only; omega⟩
          · obtain ⟨i, hi1, hi2⟩ := h4 x hx'
            exact ⟨i + 2, hi1, by rw [preS_cons, preS_cons]; simp only; omega⟩
      · rw [if_neg hg]
        simp only [List.nil_append]
        refine ⟨fun s hs => ?_, ?_, by simp; omega, fun x hx' => ?_⟩
        · rcases List.mem_cons.1 hs with rfl | hs
          · exact ⟨.inr rfl, by simp only; omega⟩
          · exact h1 s hs
        · rw [List.length_cons, preS_cons, h2]
          simp only
          omega
        · rcases List.mem_cons.1 hx' with rfl | hx'
          · exact ⟨0, rfl, by rw [preS_zero]; simp only; omega⟩
          · obtain ⟨i, hi1, hi2⟩ := h4 x hx'
            exact ⟨i + 1, hi1, by rw [preS_cons]; simp only; omega⟩
end Go.Proofs.Ytaegngcbiefckaa
