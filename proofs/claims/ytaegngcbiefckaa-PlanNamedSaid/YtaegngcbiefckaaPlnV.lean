/-
  What a network's plan is, as a function of its lists.
-/
import Derived.Test.YtaegngcbiefckaaPlnWyB
import Derived.Test.YtaegngcbiefckaaPlnCkB
import Derived.Test.YtaegngcbiefckaaPlnOff
namespace Go.Proofs.Ytaegngcbiefckaa
set_option linter.unusedSimpArgs false
set_option linter.unusedVariables false

/-! ### What a port's gates do -/
def goV (cycle : Int) : Int → List (Int × Int) → Option (List (Int × Int))
  | at_, [] => some (if at_ < cycle then [(127, cycle - at_)] else [])
  | at_, (a, b) :: r => if a < at_ then none else (goV cycle b r).map fun t => (if at_ < a then [(127, a - at_)] else []) ++ (128, b - a) :: t
def Disj (ss : List (Int × Int)) : Prop := ss.Pairwise fun x y => x.2 ≤ y.1 ∨ y.2 ≤ x.1
instance (ss : List (Int × Int)) : Decidable (Disj ss) := by unfold Disj; infer_instance
theorem Disj.perm {ss ss' : List (Int × Int)} (h : ss.Perm ss') : Disj ss ↔ Disj ss' := h.pairwise_iff (fun {x y} h => h.symm)
theorem Disj.sub {ss ss' : List (Int × Int)} (h : ss.Sublist ss') (hd : Disj ss') : Disj ss := List.Pairwise.sublist h hd
theorem goV_some (cycle : Int) : ∀ (d : List (Int × Int)) (at_ : Int), d.Pairwise (fun x y => x.1 ≤ y.1) → (∀ x ∈ d, x.1 < x.2) → ((goV cycle at_ d).isSome = true ↔ (∀ x ∈ d, at_ ≤ x.1) ∧ Disj d)
  | [], at_, _, _ => by simp [goV, Disj]
  | (a, b) :: r, at_, hs, hl => by
    obtain ⟨h1, h2⟩ := List.pairwise_cons.1 hs
    have ih := goV_some cycle r b h2 fun x hx => hl x (List.mem_cons_of_mem _ hx)
    have hab : a < b := hl (a, b) (List.mem_cons_self ..)
    rw [goV]
    by_cases hlt : a < at_
    · rw [if_pos hlt]
      constructor
      · intro h; cases h
      · rintro ⟨h, _⟩
        have := h (a, b) (List.mem_cons_self ..)
        simp only at this
        omega
    · rw [if_neg hlt, Option.isSome_map, ih]
      constructor
      · rintro ⟨h3, h4⟩
        refine ⟨fun x hx => ?_, List.pairwise_cons.2 ⟨fun x hx => .inl (h3 x hx), h4⟩⟩
        rcases List.mem_cons.1 hx with rfl | hx
        · simp only; omega
        · have := h3 x hx; omega
      · rintro ⟨h3, h4⟩
        obtain ⟨h5, h6⟩ := List.pairwise_cons.1 h4
        refine ⟨fun x hx => ?_, h6⟩
        rcases h5 x hx with h | h
        · exact h
        · have e1 := h1 x hx
          have e2 := hl x (List.mem_cons_of_mem _ hx)
          simp only at e1 h
          omega

/-! ### Flows -/
abbrev Sp := (Int × Int) × (Int × Int)
def badFlow (C : Cf) (f : Fw) : Prop :=
  f.src < 0 ∨ (C.nodes.length : Int) ≤ f.src ∨ f.dst < 0 ∨ (C.nodes.length : Int) ≤ f.dst ∨ f.src = f.dst ∨ f.start < 0 ∨ C.cycle < f.start ∨ f.len < 0 ∨ C.cycle < f.len ∨ f.size < 64 ∨ 1600 < f.size ∨ f.late < 0
instance (C : Cf) (f : Fw) : Decidable (badFlow C f) := by unfold badFlow; infer_instance
/-- The spans of one way, from its k-th end on, behind those that are there. -/
def hopsGo (C : Cf) (off : Int) (f : Fw) (n : Nat) : Nat → List Sp → List (Int × Int) → List Int → Int → Int → Except Int (List Sp × Int × Int)
  | k, S, e :: es, i :: is, low, high =>
    let a := f.start + low - 2 * off
    let b := f.start + f.len + high + 8 * f.size + 2 * off
    if a < 0 ∨ C.cycle < b then .error 61
    else match C.links[i.toNat]? with
      | none => .error 61
      | some l => hopsGo C off f n (k + 1) (S ++ [(e, (a, b))]) es is (low + (8 * f.size + l.lo) + if k + 1 < n then C.proc else 0) (high + (8 * f.size + l.hi) + if k + 1 < n then C.proc else 0)
  | _, S, _, _, low, high => .ok (S, low, high)
def flowGo (C : Cf) (off : Int) (S : List Sp) (f : Fw) : Except Int (List Sp × (Int × Int)) :=
  if badFlow C f then .error 1
  else if 16 < f.w0.length ∨ 16 < f.w1.length then .error 60
  else match wayV C f.src f.dst f.w0, wayV C f.src f.dst f.w1 with
    | some xs, some ys =>
      if apartV f.w0 f.w1 xs ys then
        match hopsGo C off f xs.length 0 S xs f.w0 0 0 with
        | .error e => .error e
        | .ok (S1, lo0, hi0) =>
          match hopsGo C off f ys.length 0 S1 ys f.w1 0 0 with
          | .error e => .error e
          | .ok (S2, lo1, hi1) => if f.late < max (max 0 hi0) hi1 then .error 62 else .ok (S2, (min (min 4611686018427387904 lo0) lo1, max (max 0 hi0) hi1))
      else .error 60
    | _, _ => .error 60
def flowsGo (C : Cf) (off : Int) : List Sp → List (Int × Int) → List Fw → Except Int (List Sp × List (Int × Int))
  | S, W, [] => .ok (S, W)
  | S, W, f :: fs => match flowGo C off S f with
    | .error e => .error e
    | .ok (S', w) => flowsGo C off S' (W ++ [w]) fs
/-- What lies at an end. -/
def atEnd (S : List Sp) (e : Int × Int) : List (Int × Int) := S.filterMap fun x => if x.1 = e then some x.2 else none
def portsOk (C : Cf) (S : List Sp) : Bool :=
  (List.range C.nodes.length).all fun i => match C.nodes[i]? with
    | some n => (List.range n.ports.toNat).all fun p => decide (Disj (atEnd S ((i : Int), (p : Int))))
    | none => true
def makeV (C : Cf) : Except Int (List Sp × List (Int × Int)) :=
  if checkV C ≠ 0 then .error (checkV C)
  else match flowsGo C (offV C) [] [] C.flows with
    | .error e => .error e
    | .ok (S, W) => if portsOk C S then .ok (S, W) else .error 61
end Go.Proofs.Ytaegngcbiefckaa
