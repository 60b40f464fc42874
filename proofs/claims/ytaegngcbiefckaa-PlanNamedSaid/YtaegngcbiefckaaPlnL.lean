/-
  Plans: what holds of them, in plain words.
-/
import Derived.Test.YtaegngcbiefckaaPlnV
namespace Go.Proofs.Ytaegngcbiefckaa
set_option linter.unusedSimpArgs false
set_option linter.unusedVariables false

theorem hopsGo_acc (C : Cf) (off : Int) (f : Fw) (n : Nat) : ∀ (es : List (Int × Int)) (is : List Int) (k : Nat) (S : List Sp) (low high : Int),
    hopsGo C off f n k S es is low high = match hopsGo C off f n k [] es is low high with | .error e => .error e | .ok (T, lo, hi) => .ok (S ++ T, lo, hi)
  | [], _, k, S, low, high => by simp [hopsGo]
  | e :: es, [], k, S, low, high => by simp [hopsGo]
  | e :: es, i :: is, k, S, low, high => by
    rw [hopsGo, hopsGo]
    split
    · rfl
    · cases hl : C.links[i.toNat]? with
      | none => rfl
      | some l =>
        simp only
        rw [hopsGo_acc C off f n es is (k + 1) (S ++ _), hopsGo_acc C off f n es is (k + 1) ([] ++ _)]
        cases hopsGo C off f n (k + 1) [] es is (low + (8 * f.size + l.lo) + if k + 1 < n then C.proc else 0) (high + (8 * f.size + l.hi) + if k + 1 < n then C.proc else 0) with
        | error e => rfl
        | ok r => simp
theorem flowGo_acc (C : Cf) (off : Int) (S : List Sp) (f : Fw) : flowGo C off S f = match flowGo C off [] f with | .error e => .error e | .ok (T, w) => .ok (S ++ T, w) := by
  unfold flowGo
  split
  · rfl
  · split
    · rfl
    · cases wayV C f.src f.dst f.w0 with
      | none => rfl
      | some xs =>
        cases wayV C f.src f.dst f.w1 with
        | none => rfl
        | some ys =>
          simp only
          split
          · rw [hopsGo_acc C off f xs.length xs f.w0 0 S]
            cases hopsGo C off f xs.length 0 [] xs f.w0 0 0 with
            | error e => rfl
            | ok r =>
              obtain ⟨T, lo0, hi0⟩ := r
              simp only
              rw [hopsGo_acc C off f ys.length ys f.w1 0 (S ++ T), hopsGo_acc C off f ys.length ys f.w1 0 T]
              cases hopsGo C off f ys.length 0 [] ys f.w1 0 0 with
              | error e => rfl
              | ok r =>
                obtain ⟨T2, lo1, hi1⟩ := r
                simp only
                split <;> simp
          · rfl
def FlowsOk (C : Cf) (off : Int) : List Fw → List (List Sp × (Int × Int)) → Prop
  | [], [] => True
  | f :: fs, r :: rs => flowGo C off [] f = .ok r ∧ FlowsOk C off fs rs
  | _, _ => False
theorem flowsGo_ok (C : Cf) (off : Int) : ∀ (fs : List Fw) (S : List Sp) (W : List (Int × Int)) (S' : List Sp) (W' : List (Int × Int)),
    flowsGo C off S W fs = .ok (S', W') ↔ ∃ rs, FlowsOk C off fs rs ∧ S' = S ++ rs.flatMap (·.1) ∧ W' = W ++ rs.map (·.2)
  | [], S, W, S', W' => by
    rw [flowsGo]
    constructor
    · intro h
      cases h
      exact ⟨[], trivial, by simp, by simp⟩
    · rintro ⟨rs, h1, h2, h3⟩
      cases rs with
      | nil => simp at h2 h3; rw [h2, h3]
      | cons r rs => exact h1.elim
  | f :: fs, S, W, S', W' => by
    rw [flowsGo, flowGo_acc]
    cases hf : flowGo C off [] f with
    | error e =>
      constructor
      · intro h; cases h
      · rintro ⟨rs, h1, _⟩
        cases rs with
        | nil => exact h1.elim
        | cons r rs => rw [h1.1] at hf; cases hf
    | ok r =>
      obtain ⟨T, w⟩ := r
      simp only
      rw [flowsGo_ok C off fs]
      constructor
      · rintro ⟨rs, h1, h2, h3⟩
        exact ⟨(T, w) :: rs, ⟨hf, h1⟩, by simp [h2], by simp [h3]⟩
      · rintro ⟨rs, h1, h2, h3⟩
        cases rs with
        | nil => exact h1.elim
        | cons r rs =>
          obtain ⟨h4, h5⟩ := h1
          rw [hf] at h4
          cases h4
          exact ⟨rs, h5, by simp [h2], by simp [h3]⟩
theorem FlowsOk.length {C : Cf} {off : Int} : ∀ {fs : List Fw} {rs : List (List Sp × (Int × Int))}, FlowsOk C off fs rs → rs.length = fs.length
  | [], [], _ => rfl
  | [], _ :: _, h => h.elim
  | _ :: _, [], h => h.elim
  | f :: fs, r :: rs, h => by simp [FlowsOk.length h.2]
theorem FlowsOk.erase {C : Cf} {off : Int} : ∀ {fs : List Fw} {rs : List (List Sp × (Int × Int))} (i : Nat), FlowsOk C off fs rs → FlowsOk C off (fs.take i ++ fs.drop (i + 1)) (rs.take i ++ rs.drop (i + 1))
  | [], [], i, _ => by simp [FlowsOk]
  | [], _ :: _, _, h => h.elim
  | _ :: _, [], _, h => h.elim
  | f :: fs, r :: rs, 0, h => by simpa using h.2
  | f :: fs, r :: rs, i + 1, h => by simpa using ⟨h.1, FlowsOk.erase i h.2⟩

/-! ### Only the flows are others -/
theorem wayGo_flows (C : Cf) (F : List Fw) (n : Nat) : ∀ (ks : List Int) (i : Nat) (at_ : Int) (seen : List Int) (out : List (Int × Int)), wayGo { C with flows := F } n i at_ seen out ks = wayGo C n i at_ seen out ks
  | [], _, _, _, _ => rfl
  | k :: ks, i, at_, seen, out => by
    rw [wayGo, wayGo]
    simp only [hopBad, wayGo_flows C F n ks]
    rfl
theorem hopsGo_flows (C : Cf) (F : List Fw) (off : Int) (f : Fw) (n : Nat) : ∀ (es : List (Int × Int)) (is : List Int) (k : Nat) (S : List Sp) (low high : Int), hopsGo { C with flows := F } off f n k S es is low high = hopsGo C off f n k S es is low high
  | [], _, _, _, _, _ => by simp [hopsGo]
  | _ :: _, [], _, _, _, _ => by simp [hopsGo]
  | e :: es, i :: is, k, S, low, high => by
    rw [hopsGo, hopsGo]
    simp only [hopsGo_flows C F off f n es is]
theorem flowGo_flows (C : Cf) (F : List Fw) (off : Int) (S : List Sp) (f : Fw) : flowGo { C with flows := F } off S f = flowGo C off S f := by
  unfold flowGo
  simp only [hopsGo_flows, wayV, wayGo_flows]
  rfl
theorem flowsGo_flows (C : Cf) (F : List Fw) (off : Int) : ∀ (fs : List Fw) (S : List Sp) (W : List (Int × Int)), flowsGo { C with flows := F } off S W fs = flowsGo C off S W fs
  | [], _, _ => rfl
  | f :: fs, S, W => by
    rw [flowsGo, flowsGo, flowGo_flows]
    simp only [flowsGo_flows C F off fs]
theorem linksV_flows (C : Cf) (F : List Fw) : ∀ (ls : List Lk) (used : List (Int × Int)), linksV { C with flows := F } used ls = linksV C used ls
  | [], _ => rfl
  | l :: ls, used => by
    rw [linksV, linksV]
    simp only [badEnd, linksV_flows C F ls]
    rfl
theorem atEnd_sub {S S' : List Sp} (h : S.Sublist S') (e : Int × Int) : (atEnd S e).Sublist (atEnd S' e) := h.filterMap _
theorem portsOk_sub {C : Cf} {S S' : List Sp} (h : S.Sublist S') (hp : portsOk C S' = true) : portsOk C S = true := by
  unfold portsOk at *
  rw [List.all_eq_true] at *
  intro i hi
  have := hp i hi
  cases hn : C.nodes[i]? with
  | none => rfl
  | some n =>
    rw [hn] at this
    simp only [List.all_eq_true] at this ⊢
    intro p hpp
    exact decide_eq_true (Disj.sub (atEnd_sub h _) (of_decide_eq_true (this p hpp)))
end Go.Proofs.Ytaegngcbiefckaa
