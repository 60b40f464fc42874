/-
  TreeForms, plain: wires, walks along them, how far a clock is from another one, and which reach each other. No program in sight.
-/
import Derived.Test.YtcdgofndfajekaaKit
namespace Go.Proofs.Ytcdgofndfajekaa
set_option linter.unusedSimpArgs false
set_option linter.unusedVariables false

abbrev Wire := (Nat × Nat) × (Nat × Nat)
def Adj (W : List Wire) (a b : Nat) : Prop := ∃ w ∈ W, (w.1.1 = a ∧ w.2.1 = b) ∨ (w.1.1 = b ∧ w.2.1 = a)
theorem Adj.symm {W : List Wire} {a b : Nat} (h : Adj W a b) : Adj W b a := by
  obtain ⟨w, hw, h⟩ := h
  exact ⟨w, hw, h.symm⟩
inductive Walk (W : List Wire) (a : Nat) : Nat → Nat → Prop
  | nil : Walk W a a 0
  | snoc {b c m : Nat} : Walk W a b m → Adj W b c → Walk W a c (m + 1)
theorem Walk.trans {W : List Wire} {a b c m k : Nat} (h : Walk W a b m) (h2 : Walk W b c k) : Walk W a c (m + k) := by
  induction h2 with
  | nil => exact h
  | snoc _ ha ih => exact .snoc ih ha
theorem Walk.symm {W : List Wire} {a b m : Nat} (h : Walk W a b m) : Walk W b a m := by
  induction h with
  | nil => exact .nil
  | @snoc b c m _ ha ih =>
    have h1 : Walk W c b 1 := .snoc .nil ha.symm
    have := h1.trans ih
    rw [Nat.add_comm] at this
    exact this
def Conn (W : List Wire) (a b : Nat) : Prop := ∃ m, Walk W a b m
theorem Conn.refl (W : List Wire) (a : Nat) : Conn W a a := ⟨0, .nil⟩
theorem Conn.symm {W : List Wire} {a b : Nat} (h : Conn W a b) : Conn W b a := ⟨h.choose, h.choose_spec.symm⟩
theorem Conn.trans {W : List Wire} {a b c : Nat} (h : Conn W a b) (h2 : Conn W b c) : Conn W a c := ⟨_, h.choose_spec.trans h2.choose_spec⟩
theorem Conn.of_adj {W : List Wire} {a b : Nat} (h : Adj W a b) : Conn W a b := ⟨1, .snoc .nil h⟩
def Dist (W : List Wire) (g v d : Nat) : Prop := Walk W g v d ∧ ∀ m, Walk W g v m → d ≤ m
theorem dist_ex {W : List Wire} {g v : Nat} : ∀ m, Walk W g v m → ∃ d, Dist W g v d := by
  intro m
  induction m using Nat.strongRecOn with
  | _ m ih =>
    intro h
    by_cases hx : ∃ k, k < m ∧ Walk W g v k
    · obtain ⟨k, hk, hw⟩ := hx
      exact ih k hk hw
    · exact ⟨m, h, fun k hk => by
        rcases Nat.lt_or_ge k m with h1 | h1
        · exact absurd ⟨k, h1, hk⟩ hx
        · exact h1⟩
theorem Dist.uniq {W : List Wire} {g v d e : Nat} (h : Dist W g v d) (h2 : Dist W g v e) : d = e := Nat.le_antisymm (h.2 _ h2.1) (h2.2 _ h.1)
theorem Dist.zero (W : List Wire) (g : Nat) : Dist W g g 0 := ⟨.nil, fun _ _ => Nat.zero_le _⟩
theorem Dist.eq_zero {W : List Wire} {g v : Nat} (h : Dist W g v 0) : v = g := by
  cases h.1 with
  | nil => rfl
theorem Dist.adj {W : List Wire} {g u v d : Nat} (h : Dist W g u d) (ha : Adj W u v) : ∃ e, Dist W g v e ∧ e ≤ d + 1 ∧ d ≤ e + 1 := by
  obtain ⟨e, he⟩ := dist_ex _ (Walk.snoc h.1 ha)
  exact ⟨e, he, he.2 _ (.snoc h.1 ha), h.2 _ (.snoc he.1 ha.symm)⟩
theorem Dist.pred {W : List Wire} {g v d : Nat} (h : Dist W g v (d + 1)) : ∃ u, Dist W g u d ∧ Adj W u v := by
  cases h.1 with
  | @snoc u _ _ hw ha => exact ⟨u, ⟨hw, fun m hm => by have := h.2 _ (.snoc hm ha); omega⟩, ha⟩
/-! ### So many numbers below n -/
theorem few_below : ∀ (n : Nat) (l : List Nat), l.Nodup → (∀ x ∈ l, x < n) → l.length ≤ n
  | 0, l, _, h => by
    cases l with
    | nil => simp
    | cons x _ => exact absurd (h x (by simp)) (by omega)
  | n + 1, l, hn, h => by
    have h1 : (l.erase n).length ≤ n := few_below n (l.erase n) (hn.erase n) fun x hx => by
      have h2 := h x (List.mem_of_mem_erase hx)
      have h3 : x ≠ n := by
        intro e
        subst e
        exact (hn.mem_erase_iff.1 hx).1 rfl
      omega
    by_cases hm : n ∈ l
    · rw [List.length_erase_of_mem hm] at h1
      omega
    · rw [List.erase_of_not_mem hm] at h1
      omega
def Within (n : Nat) (W : List Wire) : Prop := ∀ w ∈ W, w.1.1 < n ∧ w.2.1 < n
theorem Within.adj {n : Nat} {W : List Wire} (h : Within n W) {a b : Nat} (ha : Adj W a b) : a < n ∧ b < n := by
  obtain ⟨w, hw, hh⟩ := ha
  have := h w hw
  rcases hh with ⟨rfl, rfl⟩ | ⟨rfl, rfl⟩
  · exact this
  · exact ⟨this.2, this.1⟩
theorem Walk.lt {n : Nat} {W : List Wire} (h : Within n W) {g v m : Nat} (hg : g < n) (hw : Walk W g v m) : v < n := by
  cases hw with
  | nil => exact hg
  | snoc _ ha => exact (h.adj ha).2
theorem dist_line {W : List Wire} {g : Nat} : ∀ (d v : Nat), Dist W g v d → ∃ l : List Nat, l.length = d + 1 ∧ l.Nodup ∧ ∀ x ∈ l, ∃ a, a ≤ d ∧ Dist W g x a
  | 0, v, h => ⟨[v], rfl, by simp, fun x hx => by simp at hx; subst hx; exact ⟨0, Nat.le_refl _, h⟩⟩
  | d + 1, v, h => by
    obtain ⟨u, hu, _⟩ := h.pred
    obtain ⟨l, h1, h2, h3⟩ := dist_line d u hu
    refine ⟨v :: l, by simp [h1], List.nodup_cons.2 ⟨fun hv => ?_, h2⟩, fun x hx => ?_⟩
    · obtain ⟨a, ha, hd⟩ := h3 v hv
      have := hd.uniq h
      omega
    · rcases List.mem_cons.1 hx with rfl | hx
      · exact ⟨d + 1, Nat.le_refl _, h⟩
      · obtain ⟨a, ha, hd⟩ := h3 x hx
        exact ⟨a, by omega, hd⟩
theorem Dist.lt {n : Nat} {W : List Wire} (hW : Within n W) {g v d : Nat} (hg : g < n) (h : Dist W g v d) : d < n := by
  obtain ⟨l, h1, h2, h3⟩ := dist_line d v h
  have := few_below n l h2 fun x hx => by
    obtain ⟨a, _, hd⟩ := h3 x hx
    exact hd.1.lt hW hg
  omega
/-! ### Groups: the least number that is reached -/
def gAt (gr : List Nat) (i : Nat) : Nat := gr.getD i 0
def gStep (gr : List Nat) (w : Wire) : List Nat := (gr.set w.1.1 (min (gAt gr w.1.1) (gAt gr w.2.1))).set w.2.1 (min (gAt gr w.1.1) (gAt gr w.2.1))
def gPass (W : List Wire) (gr : List Nat) : List Nat := W.foldl gStep gr
def gTimes (W : List Wire) : Nat → List Nat → List Nat
  | 0, gr => gr
  | k + 1, gr => gPass W (gTimes W k gr)
theorem gStep_len (gr : List Nat) (w : Wire) : (gStep gr w).length = gr.length := by simp [gStep]
theorem gPass_len : ∀ (W : List Wire) (gr : List Nat), (gPass W gr).length = gr.length
  | [], gr => rfl
  | w :: W, gr => by
    show (gPass W (gStep gr w)).length = _
    rw [gPass_len W, gStep_len]
theorem gTimes_len (W : List Wire) (gr : List Nat) : ∀ k, (gTimes W k gr).length = gr.length
  | 0 => rfl
  | k + 1 => by rw [gTimes, gPass_len, gTimes_len W gr k]
theorem gStep_at {gr : List Nat} {w : Wire} (h1 : w.1.1 < gr.length) (h2 : w.2.1 < gr.length) (i : Nat) :
    gAt (gStep gr w) i = if i = w.1.1 ∨ i = w.2.1 then min (gAt gr w.1.1) (gAt gr w.2.1) else gAt gr i := by
  unfold gStep gAt
  rw [List.getD_eq_getElem?_getD, List.getElem?_set]
  by_cases hb : w.2.1 = i
  · subst hb
    rw [if_pos rfl, if_pos (by simpa using h2), if_pos (.inr rfl)]
    rfl
  · rw [if_neg hb, List.getElem?_set]
    by_cases ha : w.1.1 = i
    · subst ha
      rw [if_pos rfl, if_pos h1, if_pos (.inl rfl)]
      rfl
    · rw [if_neg ha, if_neg (fun hh => by rcases hh with hh | hh <;> simp_all), List.getD_eq_getElem?_getD]
theorem gStep_le {gr : List Nat} {w : Wire} (h1 : w.1.1 < gr.length) (h2 : w.2.1 < gr.length) (i : Nat) : gAt (gStep gr w) i ≤ gAt gr i := by
  rw [gStep_at h1 h2]
  split
  · rename_i h
    rcases h with rfl | rfl
    · exact Nat.min_le_left _ _
    · exact Nat.min_le_right _ _
  · exact Nat.le_refl _
theorem gPass_le : ∀ (W : List Wire) (gr : List Nat), Within gr.length W → ∀ i, gAt (gPass W gr) i ≤ gAt gr i
  | [], gr, _, i => Nat.le_refl _
  | w :: W, gr, h, i => by
    have hw := h w (by simp)
    exact Nat.le_trans (gPass_le W (gStep gr w) (fun x hx => by rw [gStep_len]; exact h x (by simp [hx])) i) (gStep_le hw.1 hw.2 i)
theorem gPass_near : ∀ (W : List Wire) (gr : List Nat), Within gr.length W → ∀ w ∈ W, gAt (gPass W gr) w.1.1 ≤ gAt gr w.2.1 ∧ gAt (gPass W gr) w.2.1 ≤ gAt gr w.1.1
  | [], gr, _, w, hw => by simp at hw
  | x :: W, gr, h, w, hw => by
    have hx := h x (by simp)
    have hr : Within (gStep gr x).length W := fun y hy => by rw [gStep_len]; exact h y (by simp [hy])
    rcases List.mem_cons.1 hw with rfl | hw
    · have h1 := gPass_le W (gStep gr w) hr w.1.1
      have h2 := gPass_le W (gStep gr w) hr w.2.1
      rw [gStep_at hx.1 hx.2, if_pos (.inl rfl)] at h1
      rw [gStep_at hx.1 hx.2, if_pos (.inr rfl)] at h2
      exact ⟨Nat.le_trans h1 (Nat.min_le_right _ _), Nat.le_trans h2 (Nat.min_le_left _ _)⟩
    · have h1 := gPass_near W (gStep gr x) hr w hw
      exact ⟨Nat.le_trans h1.1 (gStep_le hx.1 hx.2 _), Nat.le_trans h1.2 (gStep_le hx.1 hx.2 _)⟩
theorem gPass_adj {W : List Wire} {gr : List Nat} (h : Within gr.length W) {a b : Nat} (ha : Adj W a b) : gAt (gPass W gr) b ≤ gAt gr a := by
  obtain ⟨w, hw, hh⟩ := ha
  have := gPass_near W gr h w hw
  rcases hh with ⟨rfl, rfl⟩ | ⟨rfl, rfl⟩
  · exact this.2
  · exact this.1
def GSound (W : List Wire) (n : Nat) (gr : List Nat) : Prop := gr.length = n ∧ ∀ i, i < n → gAt gr i < n ∧ Conn W i (gAt gr i)
theorem gStep_sound {W : List Wire} {n : Nat} {gr : List Nat} (h : GSound W n gr) {w : Wire} (hw : w ∈ W) (hn : w.1.1 < n ∧ w.2.1 < n) : GSound W n (gStep gr w) := by
  refine ⟨by rw [gStep_len]; exact h.1, fun i hi => ?_⟩
  rw [gStep_at (by rw [h.1]; exact hn.1) (by rw [h.1]; exact hn.2)]
  have hc : Conn W w.1.1 w.2.1 := .of_adj ⟨w, hw, .inl ⟨rfl, rfl⟩⟩
  split
  · rename_i hh
    rcases Nat.le_total (gAt gr w.1.1) (gAt gr w.2.1) with hl | hl
    · rw [Nat.min_eq_left hl]
      have := h.2 w.1.1 hn.1
      rcases hh with rfl | rfl
      · exact this
      · exact ⟨this.1, hc.symm.trans this.2⟩
    · rw [Nat.min_eq_right hl]
      have := h.2 w.2.1 hn.2
      rcases hh with rfl | rfl
      · exact ⟨this.1, hc.trans this.2⟩
      · exact this
  · exact h.2 i hi
theorem gPass_sound {V : List Wire} {n : Nat} : ∀ (W : List Wire) (gr : List Nat), GSound V n gr → (∀ w ∈ W, w ∈ V) → Within n W → GSound V n (gPass W gr)
  | [], gr, h, _, _ => h
  | w :: W, gr, h, hV, hn => gPass_sound W (gStep gr w) (gStep_sound h (hV w (by simp)) (hn w (by simp))) (fun x hx => hV x (by simp [hx])) (fun x hx => hn x (by simp [hx]))
theorem gTimes_sound {W : List Wire} {n : Nat} (hW : Within n W) : ∀ k, GSound W n (gTimes W k (List.range n))
  | 0 => ⟨by simp [gTimes], fun i hi => by
      have : gAt (gTimes W 0 (List.range n)) i = i := by simp [gTimes, gAt, List.getD_eq_getElem?_getD, List.getElem?_range hi]
      rw [this]
      exact ⟨hi, .refl W i⟩⟩
  | k + 1 => gPass_sound W _ (gTimes_sound hW k) (fun _ h => h) hW
theorem gTimes_near {W : List Wire} {n : Nat} (hW : Within n W) : ∀ (k v i m : Nat), v < n → m ≤ k → Walk W v i m → gAt (gTimes W k (List.range n)) i ≤ v
  | 0, v, i, m, hv, hm, hw => by
    obtain rfl : m = 0 := by omega
    cases hw with
    | nil => simp [gTimes, gAt, List.getD_eq_getElem?_getD, List.getElem?_range hv]
  | k + 1, v, i, m, hv, hm, hw => by
    have hl : Within (gTimes W k (List.range n)).length W := by rw [(gTimes_sound hW k).1]; exact hW
    cases hw with
    | nil => exact Nat.le_trans (gPass_le W _ hl v) (gTimes_near hW k v v 0 hv (by omega) .nil)
    | @snoc j _ m hw ha => exact Nat.le_trans (gPass_adj hl ha) (gTimes_near hW k v j m hv (by omega) hw)
/-- Two clocks have one group just if they reach each other. -/
theorem group_iff {W : List Wire} {n : Nat} (hW : Within n W) {i k : Nat} (hi : i < n) (hk : k < n) :
    gAt (gTimes W n (List.range n)) i = gAt (gTimes W n (List.range n)) k ↔ Conn W i k := by
  have S := gTimes_sound hW n
  have key : ∀ i k, i < n → k < n → Conn W i k → gAt (gTimes W n (List.range n)) i ≤ gAt (gTimes W n (List.range n)) k := fun i k hi hk h => by
    obtain ⟨h1, h2⟩ := S.2 k hk
    obtain ⟨m, hm⟩ := (h.trans h2).symm
    obtain ⟨d, hd⟩ := dist_ex m hm
    exact gTimes_near hW n _ i d h1 (Nat.le_of_lt (hd.lt hW h1)) hd.1
  constructor
  · intro h
    have h1 := (S.2 i hi).2
    rw [h] at h1
    exact h1.trans (S.2 k hk).2.symm
  · intro h
    exact Nat.le_antisymm (key i k hi hk h) (key k i hk hi h.symm)
end Go.Proofs.Ytcdgofndfajekaa
