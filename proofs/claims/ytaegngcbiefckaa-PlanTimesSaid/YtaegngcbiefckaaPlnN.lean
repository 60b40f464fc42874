/-
  Plans: with flows that are alike but for the time at which they set out, and how long they may.
-/
import Derived.Test.YtaegngcbiefckaaPlnM
namespace Go.Proofs.Ytaegngcbiefckaa
set_option linter.unusedSimpArgs false
set_option linter.unusedVariables false

def Likes : List Fw → List Fw → Prop
  | [], [] => True
  | f :: fs, g :: gs => Like f g ∧ Likes fs gs
  | _, _ => False
theorem Likes.length : ∀ {fs gs : List Fw}, Likes fs gs → gs.length = fs.length
  | [], [], _ => rfl
  | [], _ :: _, h => h.elim
  | _ :: _, [], h => h.elim
  | f :: fs, g :: gs, h => by simp [Likes.length h.2]
theorem flowGo_good {C : Cf} {off : Int} {S : List Sp} {f : Fw} {r : List Sp × (Int × Int)} (h : flowGo C off S f = .ok r) : ¬ badFlow C f := by
  intro hb
  unfold flowGo at h
  rw [if_pos hb] at h
  cases h
theorem FlowsOk.good {C : Cf} {off : Int} : ∀ {fs : List Fw} {rs : List (List Sp × (Int × Int))}, FlowsOk C off fs rs → ∀ f ∈ fs, ¬ badFlow C f
  | [], _, _, _, hf => by cases hf
  | _ :: _, [], h, _, _ => h.elim
  | g :: fs, r :: rs, h, f, hf => by
    rcases List.mem_cons.1 hf with rfl | hf
    · exact flowGo_good h.1
    · exact FlowsOk.good h.2 f hf
theorem flowsGo_like (C : Cf) (off : Int) : ∀ (fs gs : List Fw) (rs : List (List Sp × (Int × Int))), Likes fs gs → FlowsOk C off fs rs →
    (∃ rs', FlowsOk C off gs rs' ∧ rs'.map (·.2) = rs.map (·.2)) ∨ (∀ S W, flowsGo C off S W gs = .error 61) ∨ ((∃ (k : Nat) (g : Fw), gs[k]? = some g ∧ badFlow C g) ∧ ∀ S W, flowsGo C off S W gs = .error 1)
  | [], [], [], _, _ => .inl ⟨[], trivial, rfl⟩
  | [], [], _ :: _, _, h => h.elim
  | [], _ :: _, _, h, _ => h.elim
  | _ :: _, [], _, h, _ => h.elim
  | _ :: _, _ :: _, [], _, h => h.elim
  | f :: fs, g :: gs, (T, w) :: rs, hl, ho => by
    rcases flowGo_like hl.1 ho.1 with ⟨T', h⟩ | h | ⟨h, hb⟩
    · rcases flowsGo_like C off fs gs rs hl.2 ho.2 with ⟨rs', h1, h2⟩ | h1 | ⟨⟨k, g', hk, hb⟩, h1⟩
      · exact .inl ⟨(T', w) :: rs', ⟨h, h1⟩, by simp [h2]⟩
      · refine .inr (.inl fun S W => ?_)
        rw [flowsGo, flowGo_acc, h]
        exact h1 _ _
      · refine .inr (.inr ⟨⟨k + 1, g', by simpa using hk, hb⟩, fun S W => ?_⟩)
        rw [flowsGo, flowGo_acc, h]
        exact h1 _ _
    · refine .inr (.inl fun S W => ?_)
      rw [flowsGo, flowGo_acc, h]
    · refine .inr (.inr ⟨⟨0, g, rfl, hb⟩, fun S W => ?_⟩)
      rw [flowsGo, flowGo_acc, h]
/-- PlanWider, PlanLater. -/
theorem make_like {C : Cf} {S : List Sp} {W : List (Int × Int)} {F : List Fw} (h : makeV C = .ok (S, W)) (hl : Likes C.flows F) :
    (∃ S', makeV { C with flows := F } = .ok (S', W)) ∨ makeV { C with flows := F } = .error 61 ∨ (makeV { C with flows := F } = .error 1 ∧ ∃ (k : Nat) (g : Fw), F[k]? = some g ∧ badFlow C g) := by
  obtain ⟨h0, hp, rs, h1, rfl, rfl⟩ := makeV_ok.1 h
  have h16 : F.length ≤ 16 := by
    have := (checkV_zero.1 h0).1
    unfold Many at this
    have := hl.length
    omega
  have h0' := checkV_flows (F := F) h0 h16
  have hmk : makeV { C with flows := F } = match flowsGo C (offV C) [] [] F with | .error e => .error e | .ok (S, W) => if portsOk C S then .ok (S, W) else .error 61 := by
    unfold makeV
    rw [if_neg (by rw [h0']; exact fun h => h rfl)]
    simp only [flowsGo_flows]
    rfl
  rw [hmk]
  rcases flowsGo_like C (offV C) C.flows F rs hl h1 with ⟨rs', h2, h3⟩ | h2 | ⟨hb, h2⟩
  · have := (flowsGo_ok C (offV C) F [] [] _ _).2 ⟨rs', h2, rfl, rfl⟩
    rw [this]
    simp only [List.nil_append]
    by_cases hp' : portsOk C (rs'.flatMap (·.1)) = true
    · rw [if_pos hp', h3]
      exact .inl ⟨_, rfl⟩
    · rw [if_neg hp']
      exact .inr (.inl rfl)
  · rw [h2]; exact .inr (.inl rfl)
  · rw [h2]; exact .inr (.inr ⟨rfl, hb⟩)
theorem Likes.refl : ∀ (fs : List Fw), Likes fs fs
  | [] => trivial
  | f :: fs => ⟨⟨rfl, rfl, rfl, rfl, rfl, rfl⟩, Likes.refl fs⟩
theorem Likes.set : ∀ (fs : List Fw) (i : Nat) (f : Fw) (m : Int), fs[i]? = some f → Likes fs (fs.set i { f with len := f.len + m })
  | [], _, _, _, h => by simp at h
  | g :: fs, 0, f, m, h => by
    simp at h
    subst h
    exact ⟨⟨rfl, rfl, rfl, rfl, rfl, rfl⟩, Likes.refl fs⟩
  | g :: fs, i + 1, f, m, h => ⟨⟨rfl, rfl, rfl, rfl, rfl, rfl⟩, Likes.set fs i f m (by simpa using h)⟩
theorem Likes.later (by_ : Int) : ∀ (fs : List Fw), Likes fs (fs.map fun f => { f with start := f.start + by_ })
  | [] => trivial
  | f :: fs => ⟨⟨rfl, rfl, rfl, rfl, rfl, rfl⟩, Likes.later by_ fs⟩
theorem offV_every {C : Cf} {ev : Int} (h : OffOk C) (h1 : C.every ≤ ev) : offV C ≤ offV { C with every := ev } := by
  obtain ⟨hn1, hn2, hl1, hl, he1, he2, hp1, hp2, hg1, hg2⟩ := h
  unfold offV
  simp only
  have a1 : 8 * C.ppm * C.every ≤ 8 * C.ppm * ev := Int.mul_le_mul_of_nonneg_left h1 (by omega)
  have a0 : 0 ≤ 8 * C.ppm * C.every := Int.mul_nonneg (by omega) (by omega)
  have m0 : 0 ≤ 8 * C.ppm * ((C.nodes.length : Int) + 8) := Int.mul_nonneg (by omega) (by omega)
  have b1 : 8 * C.ppm * ((C.nodes.length : Int) + 8) * C.every ≤ 8 * C.ppm * ((C.nodes.length : Int) + 8) * ev := Int.mul_le_mul_of_nonneg_left h1 m0
  have b0 : 0 ≤ 8 * C.ppm * ((C.nodes.length : Int) + 8) * C.every := Int.mul_nonneg m0 (by omega)
  rw [Int.tdiv_eq_ediv_of_nonneg a0, Int.tdiv_eq_ediv_of_nonneg b0, Int.tdiv_eq_ediv_of_nonneg (Int.le_trans a0 a1), Int.tdiv_eq_ediv_of_nonneg (Int.le_trans b0 b1)]
  have c1 : 8 * C.ppm * C.every / 1000000 ≤ 8 * C.ppm * ev / 1000000 := Int.ediv_le_ediv (by omega) a1
  have c2 : 8 * C.ppm * ((C.nodes.length : Int) + 8) * C.every / 1000000 ≤ 8 * C.ppm * ((C.nodes.length : Int) + 8) * ev / 1000000 := Int.ediv_le_ediv (by omega) b1
  have c3 := Int.mul_le_mul_of_nonneg_left (show (C.links.foldl (fun s l => max s (l.hi - l.lo)) 0) + 8 * C.grain + 8 * C.ppm * C.every / 1000000 ≤ (C.links.foldl (fun s l => max s (l.hi - l.lo)) 0) + 8 * C.grain + 8 * C.ppm * ev / 1000000 by omega) (show 0 ≤ (C.nodes.length : Int) - 1 by omega)
  omega
end Go.Proofs.Ytaegngcbiefckaa
