/-
  Plans: one flow fewer; one that may set out longer; all later.
-/
import Derived.Test.YtaegngcbiefckaaPlnL
namespace Go.Proofs.Ytaegngcbiefckaa
set_option linter.unusedSimpArgs false
set_option linter.unusedVariables false

theorem checkV_zero {C : Cf} : checkV C = 0 ↔ ¬ Many C ∧ ¬ Arg C ∧ (∀ n ∈ C.nodes, ¬ (n.ports < 0 ∨ 8 < n.ports)) ∧ linksV C [] C.links = 0 := by
  by_cases h1 : Many C
  · rw [checkV_many h1]
    exact ⟨fun h => (by cases h), fun h => absurd h1 h.1⟩
  by_cases h2 : Arg C
  · rw [checkV_arg h1 h2]
    exact ⟨fun h => (by cases h), fun h => absurd h2 h.2.1⟩
  by_cases h3 : ∀ n ∈ C.nodes, ¬ (n.ports < 0 ∨ 8 < n.ports)
  · rw [checkV_links h1 h2 h3]
    exact ⟨fun h => ⟨h1, h2, h3, h⟩, fun h => h.2.2.2⟩
  · obtain ⟨n, hn⟩ := Classical.not_forall.1 h3
    obtain ⟨hn, hb⟩ := Classical.not_imp.1 hn
    rw [checkV_node h1 h2 hn (Classical.not_not.1 hb)]
    exact ⟨fun h => (by cases h), fun h => absurd h.2.2.1 h3⟩
theorem checkV_flows {C : Cf} {F : List Fw} (h : checkV C = 0) (hF : F.length ≤ 16) : checkV { C with flows := F } = 0 := by
  obtain ⟨h1, h2, h3, h4⟩ := checkV_zero.1 h
  refine checkV_zero.2 ⟨?_, h2, h3, (linksV_flows C F C.links []).trans h4⟩
  unfold Many at *
  simp only
  omega
theorem makeV_ok {C : Cf} {S : List Sp} {W : List (Int × Int)} : makeV C = .ok (S, W) ↔ checkV C = 0 ∧ portsOk C S = true ∧ ∃ rs, FlowsOk C (offV C) C.flows rs ∧ S = rs.flatMap (·.1) ∧ W = rs.map (·.2) := by
  unfold makeV
  by_cases h : checkV C ≠ 0
  · rw [if_pos h]
    exact ⟨fun h => (by cases h), fun h2 => absurd h2.1 h⟩
  rw [if_neg h]
  have h0 : checkV C = 0 := Classical.not_not.1 h
  have key := fun S' W' => flowsGo_ok C (offV C) C.flows [] [] S' W'
  cases hf : flowsGo C (offV C) [] [] C.flows with
  | error e =>
    refine ⟨fun h => (by cases h), fun ⟨_, _, rs, h1, h2, h3⟩ => ?_⟩
    have := (key S W).2 ⟨rs, h1, by simpa using h2, by simpa using h3⟩
    rw [hf] at this
    cases this
  | ok r =>
    obtain ⟨S1, W1⟩ := r
    obtain ⟨rs, h1, h2, h3⟩ := (key S1 W1).1 hf
    simp only
    by_cases hp : portsOk C S1 = true
    · rw [if_pos hp]
      refine ⟨fun h => by cases h; exact ⟨h0, hp, rs, h1, by simpa using h2, by simpa using h3⟩, fun ⟨_, _, rs', h1', h2', h3'⟩ => ?_⟩
      have := (key S W).2 ⟨rs', h1', by simpa using h2', by simpa using h3'⟩
      rw [hf] at this
      cases this
      rfl
    · rw [if_neg hp]
      refine ⟨fun h => (by cases h), fun ⟨_, hp', rs', h1', h2', h3'⟩ => ?_⟩
      have := (key S W).2 ⟨rs', h1', by simpa using h2', by simpa using h3'⟩
      rw [hf] at this
      cases this
      exact absurd hp' hp
theorem FlowsOk.flows {C : Cf} {F : List Fw} {off : Int} : ∀ {fs : List Fw} {rs : List (List Sp × (Int × Int))}, FlowsOk C off fs rs → FlowsOk { C with flows := F } off fs rs
  | [], [], _ => trivial
  | [], _ :: _, h => h.elim
  | _ :: _, [], h => h.elim
  | f :: fs, r :: rs, h => ⟨(flowGo_flows C F off [] f).trans h.1, FlowsOk.flows h.2⟩
theorem flatMap_sub {α β : Type} {f : α → List β} {l l' : List α} (h : l.Sublist l') : (l.flatMap f).Sublist (l'.flatMap f) := by
  induction h with
  | slnil => simp
  | cons a h ih => rw [List.flatMap_cons]; exact ih.trans (List.sublist_append_right _ _)
  | cons_cons a h ih => rw [List.flatMap_cons, List.flatMap_cons]; exact ih.append_left _
theorem erase_sub {α : Type} : ∀ (l : List α) (i : Nat), (l.take i ++ l.drop (i + 1)).Sublist l
  | [], _ => by simp
  | a :: l, 0 => by simp
  | a :: l, i + 1 => by simpa using (erase_sub l i).cons_cons a
/-- PlanLess. -/
theorem make_less {C : Cf} {S : List Sp} {W : List (Int × Int)} (h : makeV C = .ok (S, W)) (i : Nat) :
    W.length = C.flows.length ∧ ∃ S', makeV { C with flows := C.flows.take i ++ C.flows.drop (i + 1) } = .ok (S', W.take i ++ W.drop (i + 1)) := by
  obtain ⟨h0, hp, rs, h1, rfl, rfl⟩ := makeV_ok.1 h
  refine ⟨by rw [List.length_map, h1.length], _, makeV_ok.2 ⟨checkV_flows h0 ?_, ?_, rs.take i ++ rs.drop (i + 1), ?_, rfl, ?_⟩⟩
  · have := (checkV_zero.1 h0).1
    unfold Many at this
    have := (erase_sub C.flows i).length_le
    omega
  · exact portsOk_sub (C := C) (flatMap_sub (erase_sub rs i)) hp
  · exact (h1.erase i).flows
  · rw [List.map_append, List.map_take, List.map_drop]

/-! ### A flow that sets out at another time -/
def sumGo (C : Cf) (size : Int) (n : Nat) : Nat → List (Int × Int) → List Int → Int → Int → Int × Int
  | k, _ :: es, i :: is, low, high => match C.links[i.toNat]? with
    | none => (low, high)
    | some l => sumGo C size n (k + 1) es is (low + (8 * size + l.lo) + if k + 1 < n then C.proc else 0) (high + (8 * size + l.hi) + if k + 1 < n then C.proc else 0)
  | _, _, _, low, high => (low, high)
theorem hopsGo_sum (C : Cf) (off : Int) (f : Fw) (n : Nat) : ∀ (es : List (Int × Int)) (is : List Int) (k : Nat) (S : List Sp) (low high : Int),
    (∃ S', hopsGo C off f n k S es is low high = .ok (S', sumGo C f.size n k es is low high)) ∨ hopsGo C off f n k S es is low high = .error 61
  | [], _, k, S, low, high => .inl ⟨S, by simp [hopsGo, sumGo]⟩
  | e :: es, [], k, S, low, high => .inl ⟨S, by simp [hopsGo, sumGo]⟩
  | e :: es, i :: is, k, S, low, high => by
    rw [hopsGo, sumGo]
    split
    · exact .inr rfl
    · cases C.links[i.toNat]? with
      | none => exact .inr rfl
      | some l => exact hopsGo_sum C off f n es is (k + 1) _ _ _
structure Like (f g : Fw) : Prop where
  src : g.src = f.src
  dst : g.dst = f.dst
  w0 : g.w0 = f.w0
  w1 : g.w1 = f.w1
  size : g.size = f.size
  late : g.late = f.late
theorem flowGo_like {C : Cf} {off : Int} {f g : Fw} {T : List Sp} {w : Int × Int} (hl : Like f g) (h : flowGo C off [] f = .ok (T, w)) :
    (∃ T', flowGo C off [] g = .ok (T', w)) ∨ flowGo C off [] g = .error 61 ∨ (flowGo C off [] g = .error 1 ∧ badFlow C g) := by
  obtain ⟨g1, g2, g3, g4, g5, g6, g7, g8⟩ := g
  obtain ⟨e1, e2, e3, e4, e5, e6⟩ := hl
  simp only at e1 e2 e3 e4 e5 e6
  subst e1 e2 e3 e4 e5 e6
  unfold flowGo at h ⊢
  by_cases hb : badFlow C f
  · rw [if_pos hb] at h; cases h
  rw [if_neg hb] at h
  by_cases hg : badFlow C ⟨f.src, f.dst, f.w0, f.w1, g5, g6, f.size, f.late⟩
  · exact .inr (.inr ⟨if_pos hg, hg⟩)
  rw [if_neg hg]
  simp only
  by_cases h16 : 16 < f.w0.length ∨ 16 < f.w1.length
  · rw [if_pos h16] at h; cases h
  rw [if_neg h16] at h ⊢
  cases hx : wayV C f.src f.dst f.w0 with
  | none => rw [hx] at h; cases h
  | some xs =>
    cases hy : wayV C f.src f.dst f.w1 with
    | none => rw [hx, hy] at h; cases h
    | some ys =>
      rw [hx, hy] at h
      simp only at h ⊢
      by_cases ha : apartV f.w0 f.w1 xs ys = true
      · rw [if_pos ha] at h ⊢
        rcases hopsGo_sum C off f xs.length xs f.w0 0 [] 0 0 with ⟨S1, h1⟩ | h1
        · rw [h1] at h
          simp only at h
          rcases hopsGo_sum C off f ys.length ys f.w1 0 S1 0 0 with ⟨S2, h2⟩ | h2
          · rw [h2] at h
            simp only at h
            by_cases hlt : f.late < max (max 0 (sumGo C f.size xs.length 0 xs f.w0 0 0).2) (sumGo C f.size ys.length 0 ys f.w1 0 0).2
            · rw [if_pos hlt] at h; cases h
            rw [if_neg hlt] at h
            cases h
            rcases hopsGo_sum C off ⟨f.src, f.dst, f.w0, f.w1, g5, g6, f.size, f.late⟩ xs.length xs f.w0 0 [] 0 0 with ⟨S3, h3⟩ | h3
            · rw [h3]
              simp only
              rcases hopsGo_sum C off ⟨f.src, f.dst, f.w0, f.w1, g5, g6, f.size, f.late⟩ ys.length ys f.w1 0 S3 0 0 with ⟨S4, h4⟩ | h4
              · rw [h4]
                simp only
                rw [if_neg hlt]
                exact .inl ⟨S4, rfl⟩
              · rw [h4]; exact .inr (.inl rfl)
            · rw [h3]; exact .inr (.inl rfl)
          · rw [h2] at h; cases h
        · rw [h1] at h; cases h
      · rw [if_neg ha] at h; cases h
end Go.Proofs.Ytaegngcbiefckaa
