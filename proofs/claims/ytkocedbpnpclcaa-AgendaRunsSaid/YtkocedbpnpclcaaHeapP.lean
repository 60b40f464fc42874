/-
  A heap of what is to come, plain: no program in sight.
-/
import Derived.Test.YtkocedbpnpclcaaKit
namespace Go.Proofs.Ytkocedbpnpclcaa
set_option linter.unusedSimpArgs false
set_option linter.unusedVariables false

/-- Something to come: when, its number, what. -/
structure It where
  at_ : Int
  turn : Int
  what : Int
/-- .. and the block in which it lies. -/
structure El where
  blk : Nat
  it : It
def It.lt (a b : It) : Prop := a.at_ < b.at_ ∨ a.at_ = b.at_ ∧ a.turn < b.turn
instance (a b : It) : Decidable (a.lt b) := by unfold It.lt; infer_instance
def It.le (a b : It) : Prop := a.at_ < b.at_ ∨ a.at_ = b.at_ ∧ a.turn ≤ b.turn
def El.lt (a b : El) : Prop := a.it.lt b.it
def El.le (a b : El) : Prop := a.it.le b.it
instance (a b : El) : Decidable (a.lt b) := by unfold El.lt; infer_instance
theorem It.le_refl (a : It) : a.le a := .inr ⟨rfl, Int.le_refl _⟩
theorem It.le_trans {a b c : It} (h : a.le b) (h' : b.le c) : a.le c := by unfold It.le at *; omega
theorem It.lt_le {a b : It} (h : a.lt b) : a.le b := by unfold It.le; unfold It.lt at h; omega
theorem It.not_lt {a b : It} (h : ¬ b.lt a) : a.le b := by unfold It.le; unfold It.lt at h; omega
theorem El.le_trans {a b c : El} (h : a.le b) (h' : b.le c) : a.le c := It.le_trans h h'
theorem El.lt_le {a b : El} (h : a.lt b) : a.le b := It.lt_le h
theorem El.not_lt {a b : El} (h : ¬ b.lt a) : a.le b := It.not_lt h
theorem El.le_refl (a : El) : a.le a := It.le_refl _

/-! ### Two swapped -/
def sw (xs : List El) (i k : Nat) : List El := match xs[i]?, xs[k]? with | some a, some b => (xs.set i b).set k a | _, _ => xs
theorem sw_eq {xs : List El} {i k : Nat} {a b : El} (hi : xs[i]? = some a) (hk : xs[k]? = some b) : sw xs i k = (xs.set i b).set k a := by unfold sw; rw [hi, hk]
theorem sw_len (xs : List El) (i k : Nat) : (sw xs i k).length = xs.length := by unfold sw; split <;> simp
theorem sw_at {xs : List El} {i k : Nat} {a b : El} (hi : xs[i]? = some a) (hk : xs[k]? = some b) (j : Nat) : (sw xs i k)[j]? = if j = k then some a else if j = i then some b else xs[j]? := by
  rw [sw_eq hi hk, List.getElem?_set, List.getElem?_set, List.length_set]
  have h1 := (List.getElem?_eq_some_iff.1 hi).1
  have h2 := (List.getElem?_eq_some_iff.1 hk).1
  by_cases hjk : k = j
  · rw [if_pos hjk, if_pos h2, if_pos hjk.symm]
  · rw [if_neg hjk, if_neg (Ne.symm hjk)]
    by_cases hji : i = j
    · rw [if_pos hji, if_pos h1, if_pos hji.symm]
    · rw [if_neg hji, if_neg (Ne.symm hji)]
theorem sw_perm (xs : List El) (i k : Nat) : (sw xs i k).Perm xs := by
  unfold sw
  split
  · rename_i a b h1 h2
    obtain ⟨l1, e1⟩ := List.getElem?_eq_some_iff.1 h1
    obtain ⟨l2, e2⟩ := List.getElem?_eq_some_iff.1 h2
    rw [← e1, ← e2]
    exact List.set_set_perm l1 l2
  · exact List.Perm.refl _
theorem at_lt {xs : List El} {j : Nat} {a : El} (h : xs[j]? = some a) : j < xs.length := (List.getElem?_eq_some_iff.1 h).1

/-! ### What a heap is; but for one place -/
def HeapN (xs : List El) (n : Nat) : Prop := ∀ k a b, 0 < k → k < n → xs[(k - 1) / 2]? = some a → xs[k]? = some b → a.le b
def Skip (xs : List El) (n i : Nat) : Prop := ∀ c a b, 0 < i → 0 < c → c < n → (c - 1) / 2 = i → xs[(i - 1) / 2]? = some a → xs[c]? = some b → a.le b
structure UpTo (xs : List El) (n j : Nat) : Prop where
  rest : ∀ k a b, 0 < k → k < n → k ≠ j → xs[(k - 1) / 2]? = some a → xs[k]? = some b → a.le b
  skip : Skip xs n j
structure Both (xs : List El) (n i : Nat) : Prop where
  rest : ∀ k a b, 0 < k → k < n → k ≠ i → (k - 1) / 2 ≠ i → xs[(k - 1) / 2]? = some a → xs[k]? = some b → a.le b
  skip : Skip xs n i
structure DownTo (xs : List El) (n i : Nat) : Prop where
  rest : ∀ k a b, 0 < k → k < n → (k - 1) / 2 ≠ i → xs[(k - 1) / 2]? = some a → xs[k]? = some b → a.le b
  skip : Skip xs n i
theorem DownTo.both {xs : List El} {n i : Nat} (h : DownTo xs n i) : Both xs n i := ⟨fun k a b h0 h1 _ h2 => h.rest k a b h0 h1 h2, h.skip⟩
theorem HeapN.upTo {xs : List El} {n : Nat} (h : HeapN xs n) : UpTo xs (n + 1) n := by
  refine ⟨fun k a b h0 h1 h2 => h k a b h0 (by omega), fun c a b h0 h1 h2 h3 => ?_⟩
  omega
theorem sw_i {xs : List El} {i k : Nat} {a b : El} (hi : xs[i]? = some a) (hk : xs[k]? = some b) (hn : i ≠ k) : (sw xs i k)[i]? = some b := by rw [sw_at hi hk, if_neg hn, if_pos rfl]
theorem sw_k {xs : List El} {i k : Nat} {a b : El} (hi : xs[i]? = some a) (hk : xs[k]? = some b) : (sw xs i k)[k]? = some a := by rw [sw_at hi hk, if_pos rfl]
theorem sw_o {xs : List El} {i k j : Nat} {a b : El} (hi : xs[i]? = some a) (hk : xs[k]? = some b) (h1 : j ≠ i) (h2 : j ≠ k) : (sw xs i k)[j]? = xs[j]? := by rw [sw_at hi hk, if_neg h2, if_neg h1]
theorem up_step {xs : List El} {n i j : Nat} {a b : El} (h : UpTo xs n j) (hj : 0 < j) (hn : j < n) (hi : (j - 1) / 2 = i) (ha : xs[i]? = some a) (hb : xs[j]? = some b) (hl : b.lt a) : UpTo (sw xs i j) n i := by
  have hij : i ≠ j := by omega
  constructor
  · intro k u v h0 h1 h2 hu hv
    by_cases hkj : k = j
    · subst hkj
      rw [sw_k ha hb] at hv
      rw [hi, sw_i ha hb hij] at hu
      injection hu with hu
      injection hv with hv
      subst hu
      subst hv
      exact El.lt_le hl
    · rw [sw_o ha hb h2 hkj] at hv
      by_cases hpi : (k - 1) / 2 = i
      · rw [hpi, sw_i ha hb hij] at hu
        injection hu with hu
        subst hu
        exact El.le_trans (El.lt_le hl) (h.rest k a v h0 h1 hkj (by rw [hpi]; exact ha) hv)
      · by_cases hpj : (k - 1) / 2 = j
        · rw [hpj, sw_k ha hb] at hu
          injection hu with hu
          subst hu
          exact h.skip k a v hj h0 h1 hpj (by rw [hi]; exact ha) hv
        · rw [sw_o ha hb hpi hpj] at hu
          exact h.rest k u v h0 h1 hkj hu hv
  · intro c u v h0 hc h1 h3 hu hv
    rw [sw_o ha hb (by omega) (by omega)] at hu
    have h4 := h.rest i u a h0 (by omega) hij hu ha
    by_cases hcj : c = j
    · subst hcj
      rw [sw_k ha hb] at hv
      injection hv with hv
      subst hv
      exact h4
    · rw [sw_o ha hb (by omega) hcj] at hv
      exact El.le_trans h4 (h.rest c a v hc h1 hcj (by rw [h3]; exact ha) hv)
theorem up_top {xs : List El} {n : Nat} (h : UpTo xs n 0) : HeapN xs n := fun k a b h0 h1 => h.rest k a b h0 h1 (by omega)
theorem up_end {xs : List El} {n j : Nat} {a b : El} (h : UpTo xs n j) (ha : xs[(j - 1) / 2]? = some a) (hb : xs[j]? = some b) (hl : ¬ b.lt a) : HeapN xs n := by
  intro k u v h0 h1 hu hv
  by_cases hkj : k = j
  · subst hkj
    rw [ha] at hu
    rw [hb] at hv
    injection hu with hu
    injection hv with hv
    subst hu
    subst hv
    exact El.not_lt hl
  · exact h.rest k u v h0 h1 hkj hu hv
theorem down_step {xs : List El} {n i j : Nat} {a b : El} (h : Both xs n i) (hj : 0 < j) (hn : j < n) (hi : (j - 1) / 2 = i) (ha : xs[i]? = some a) (hb : xs[j]? = some b) (hl : b.lt a)
    (hs : ∀ c x, 0 < c → c < n → (c - 1) / 2 = i → xs[c]? = some x → b.le x) : DownTo (sw xs i j) n j := by
  have hij : i ≠ j := by omega
  constructor
  · intro k u v h0 h1 h2 hu hv
    by_cases hki : k = i
    · subst hki
      rw [sw_i ha hb hij] at hv
      rw [sw_o ha hb (by omega) (by omega)] at hu
      injection hv with hv
      subst hv
      exact h.skip j u b h0 hj hn hi hu hb
    · by_cases hkj : k = j
      · subst hkj
        rw [sw_k ha hb] at hv
        rw [hi, sw_i ha hb hij] at hu
        injection hu with hu
        injection hv with hv
        subst hu
        subst hv
        exact El.lt_le hl
      · rw [sw_o ha hb hki hkj] at hv
        by_cases hpi : (k - 1) / 2 = i
        · rw [hpi, sw_i ha hb hij] at hu
          injection hu with hu
          subst hu
          exact hs k v h0 h1 hpi hv
        · rw [sw_o ha hb hpi h2] at hu
          exact h.rest k u v h0 h1 hki hpi hu hv
  · intro c u v h0 hc h1 h3 hu hv
    rw [hi, sw_i ha hb hij] at hu
    rw [sw_o ha hb (by omega) (by omega)] at hv
    injection hu with hu
    subst hu
    exact h.rest c b v hc h1 (by omega) (by omega) (by rw [h3]; exact hb) hv
theorem down_end {xs : List El} {n i : Nat} {a : El} (h : DownTo xs n i) (ha : xs[i]? = some a) (hs : ∀ c x, 0 < c → c < n → (c - 1) / 2 = i → xs[c]? = some x → a.le x) : HeapN xs n := by
  intro k u v h0 h1 hu hv
  by_cases hp : (k - 1) / 2 = i
  · rw [hp, ha] at hu
    injection hu with hu
    subst hu
    exact hs k v h0 h1 hp hv
  · exact h.rest k u v h0 h1 hp hu hv
theorem both_end {xs : List El} {n i : Nat} {a : El} (h : Both xs n i) (ha : xs[i]? = some a) (hs : ∀ c x, 0 < c → c < n → (c - 1) / 2 = i → xs[c]? = some x → a.le x) : UpTo xs n i := by
  refine ⟨fun k u v h0 h1 hk hu hv => ?_, h.skip⟩
  by_cases hp : (k - 1) / 2 = i
  · rw [hp, ha] at hu
    injection hu with hu
    subst hu
    exact hs k v h0 h1 hp hv
  · exact h.rest k u v h0 h1 hk hp hu hv
/-- The last one in the place of another one. -/
theorem both_last {xs : List El} {n i : Nat} {a b : El} (h : HeapN xs (n + 1)) (hi : i < n) (ha : xs[i]? = some a) (hb : xs[n]? = some b) : Both (sw xs i n) n i := by
  constructor
  · intro k u v h0 h1 h2 h3 hu hv
    rw [sw_o ha hb h3 (by omega)] at hu
    rw [sw_o ha hb h2 (by omega)] at hv
    exact h k u v h0 (by omega) hu hv
  · intro c u v h0 hc h1 h3 hu hv
    rw [sw_o ha hb (by omega) (by omega)] at hu
    rw [sw_o ha hb (by omega) (by omega)] at hv
    exact El.le_trans (h i u a h0 (by omega) hu ha) (h c a v hc (by omega) (by rw [h3]; exact ha) hv)
theorem heap_min {xs : List El} {n : Nat} {a : El} (h : HeapN xs n) (hn : n ≤ xs.length) (ha : xs[0]? = some a) : ∀ (k : Nat) (b : El), k < n → xs[k]? = some b → a.le b := by
  intro k
  induction k using Nat.strongRecOn with
  | _ k ih =>
    intro b hk hb
    by_cases h0 : k = 0
    · subst h0
      rw [ha] at hb
      injection hb with hb
      subst hb
      exact El.le_refl _
    · obtain ⟨p, hp⟩ : ∃ p, xs[(k - 1) / 2]? = some p := ⟨_, List.getElem?_eq_getElem (by omega)⟩
      exact El.le_trans (ih ((k - 1) / 2) (by omega) p (by omega) hp) (h k p b (by omega) hk hp hb)
theorem heap_min_mem {xs : List El} {a : El} (h : HeapN xs xs.length) (ha : xs[0]? = some a) : ∀ b ∈ xs, a.le b := by
  intro b hb
  obtain ⟨k, hk, e⟩ := List.getElem_of_mem hb
  exact heap_min h (Nat.le_refl _) ha k b hk (by rw [List.getElem?_eq_getElem hk, e])
theorem heap_take {xs : List El} {n : Nat} (h : HeapN xs n) : HeapN (xs.take n) (xs.take n).length := by
  intro k a b h0 h1 ha hb
  have hl := List.length_take_le n xs
  rw [List.getElem?_take] at ha hb
  split at ha
  · split at hb
    · exact h k a b h0 (by omega) ha hb
    · cases hb
  · cases ha
theorem heap_snoc {xs : List El} (x : El) (h : HeapN xs xs.length) : UpTo (xs ++ [x]) (xs.length + 1) xs.length := by
  refine ⟨fun k a b h0 h1 h2 ha hb => ?_, fun c a b h0 h1 h2 h3 => by omega⟩
  rw [List.getElem?_append_left (by omega)] at ha hb
  exact h k a b h0 (by omega) ha hb
end Go.Proofs.Ytkocedbpnpclcaa
