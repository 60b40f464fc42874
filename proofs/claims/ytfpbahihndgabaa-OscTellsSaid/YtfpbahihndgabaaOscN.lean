/-
  Layer 7: a clock that is made.
-/
import Derived.Test.YtfpbahihndgabaaOscC
import Derived.Test.YtfpbahihndgabaaKitD
import Derived.Deep.DeepCutAuto
import Derived.Deep.CutBlock
namespace Go.Proofs.Ytfpbahihndgabaa
set_option linter.unusedSimpArgs false
set_option linter.unusedVariables false
open Go.RowKit

theorem rcheck_ok (r : Int) (h : 2181843386368 ≤ r ∧ r ≤ 2216203124736) (w : World) : Calls Try.prog 20 #[.int .i64 r] w fun e w' => e = .returned (.int .i64 0) ∧ w = w' := by
  obtain ⟨h1, h2⟩ := h
  have d1 : decide (r < 2181843386368) = false := by simp; omega
  have d2 : decide (2216203124736 < r) = false := by simp; omega
  clear h1 h2
  go_enter Try.func20, Try.ntmps20
  go_wp2
  go_ret
  exact ⟨rfl, rfl⟩
theorem rcheck_bad (r : Int) (h : ¬ (2181843386368 ≤ r ∧ r ≤ 2216203124736)) (w : World) : Calls Try.prog 20 #[.int .i64 r] w fun e w' => e = .returned (.int .i64 50) ∧ w = w' := by
  by_cases h1 : r < 2181843386368
  · go_enter Try.func20, Try.ntmps20
    go_wp2
    go_ret
    exact ⟨rfl, rfl⟩
  · have d1 : decide (r < 2181843386368) = false := by simp; omega
    have d2 : 2216203124736 < r := by omega
    clear h h1
    go_enter Try.func20, Try.ntmps20
    go_wp2
    go_ret
    exact ⟨rfl, rfl⟩
/-! ### What New says of some turns -/
def turnE (tA tR : Nat → Int) (i : Nat) : Int :=
  if 1099511627776 < tA i ∨ (0 < i ∧ tA i ≤ tA (i - 1)) then 31 else if 2181843386368 ≤ tR i ∧ tR i ≤ 2216203124736 then 0 else 50
def scanE (tA tR : Nat → Int) : Nat → Int
  | 0 => 0
  | m + 1 => if scanE tA tR m ≠ 0 then scanE tA tR m else turnE tA tR m
def newE (S : Int) (gr : Int) (n : Nat) (tA tR : Nat → Int) : Int :=
  if 64 < n then 4 else if n = 0 ∨ tA 0 ≠ 0 ∨ gr < 1 ∨ 1000 < gr ∨ S < -1152921504606846976 ∨ 1152921504606846976 < S then 1 else scanE tA tR n
def baseV (S : Int) (tA tR : Nat → Int) : Nat → Int
  | 0 => S
  | i + 1 => baseV S tA tR i + runV (tA (i + 1) - tA i) (tR i)
theorem scan_keep {tA tR : Nat → Int} {m : Nat} (h : scanE tA tR m ≠ 0) : ∀ {n : Nat}, m ≤ n → scanE tA tR n = scanE tA tR m
  | 0, hn => by obtain rfl : m = 0 := by omega
                rfl
  | n + 1, hn => by
    rcases Nat.lt_or_ge m (n + 1) with h1 | h1
    · have ih := scan_keep h (n := n) (by omega)
      rw [scanE, if_pos (by rw [ih]; exact h), ih]
    · obtain rfl : m = n + 1 := by omega
      rfl
theorem scan_at {tA tR : Nat → Int} {n : Nat} (h : scanE tA tR n = 0) : ∀ i, i < n → turnE tA tR i = 0 := by
  induction n with
  | zero => intro i hi; omega
  | succ m ih =>
    rw [scanE] at h
    split at h
    · rename_i hx; exact absurd h hx
    · rename_i hx
      intro i hi
      rcases Nat.lt_or_ge i m with h1 | h1
      · exact ih (Decidable.not_not.1 hx) i h1
      · obtain rfl : i = m := by omega
        exact h
theorem turn_at {tA tR : Nat → Int} {i : Nat} (h : turnE tA tR i = 0) : tA i ≤ 1099511627776 ∧ (0 < i → tA (i - 1) < tA i) ∧ 2181843386368 ≤ tR i ∧ tR i ≤ 2216203124736 := by
  unfold turnE at h
  split at h
  · cases h
  · split at h
    · rename_i h1 h2
      exact ⟨by omega, fun hi => by omega, h2⟩
    · cases h
theorem scan_turns {tA tR : Nat → Int} {n : Nat} (h : scanE tA tR n = 0) (h0 : 0 < n) (h1 : n ≤ 64) (h2 : tA 0 = 0) : Turns n tA tR :=
  ⟨h0, h1, h2, fun i hi => by have := (turn_at (scan_at h (i + 1) hi)).2.1 (Nat.succ_pos _); simpa using this, fun i hi => (turn_at (scan_at h i hi)).1, fun i hi => (turn_at (scan_at h i hi)).2.2⟩
theorem base_is {S : Int} {n : Nat} {tA tR : Nat → Int} (h1 : -1152921504606846976 ≤ S) (h2 : S ≤ 1152921504606846976) : Bases S n tA tR (baseV S tA tR) := ⟨h1, h2, rfl, fun _ _ => rfl⟩
theorem new_ok {S gr : Int} {n : Nat} {tA tR : Nat → Int} (h : newE S gr n tA tR = 0) : Turns n tA tR ∧ Bases S n tA tR (baseV S tA tR) ∧ 1 ≤ gr ∧ gr ≤ 1000 := by
  unfold newE at h
  split at h
  · cases h
  · split at h
    · cases h
    · rename_i h1 h2
      exact ⟨scan_turns h (by omega) (by omega) (by omega), base_is (by omega) (by omega), by omega, by omega⟩
/-! ### Turns as they come in -/
def tcv (tA tR : Nat → Int) (k : Nat) : List Value := [.int .i64 (tA k), .int .i64 (tR k)]
def TIn (w : World) (A : Option Addr) (n : Nat) (tA tR : Nat → Int) : Prop :=
  0 < n → ∃ ad : Addr, A = some ad ∧ ad.block < w.heap.size ∧ ∀ k, k < n → ∀ j v, (tcv tA tR k)[j]? = some v → w.cell? ((ad.add (k * 2)).add j) = some v
theorem TIn.below {w w' : World} {A : Option Addr} {n : Nat} {tA tR : Nat → Int} (h : TIn w A n tA tR) (hb : Below w.heap.size w w') : TIn w' A n tA tR := fun hn => by
  obtain ⟨ad, e, hl, hc⟩ := h hn
  refine ⟨ad, e, Nat.lt_of_lt_of_le hl hb.size, fun k hk j v hv => ?_⟩
  rw [hb.cell (by rw [block_of_add, block_of_add]; exact hl)]
  exact hc k hk j v hv
theorem TIn.less {w : World} {A : Option Addr} {n m : Nat} {tA tR : Nat → Int} (h : TIn w A n tA tR) (hm : m ≤ n) : TIn w A m tA tR := fun h0 => by
  obtain ⟨ad, e, hl, hc⟩ := h (by omega)
  exact ⟨ad, e, hl, fun k hk => hc k (by omega)⟩
def xs1 (tA tR : Nat → Int) (k : Nat) : List Value := (List.range k).flatMap (tcv tA tR)
def xs2 (bs : Nat → Int) (k : Nat) : List Value := (List.range k).map fun i => .int .i64 (bs i)
theorem xs1_succ (tA tR : Nat → Int) (k : Nat) : xs1 tA tR (k + 1) = xs1 tA tR k ++ #[Value.int .i64 (tA k), .int .i64 (tR k)].toList := by
  unfold xs1
  rw [List.range_succ, List.flatMap_append]
  simp [tcv]
theorem xs2_succ (bs : Nat → Int) (k : Nat) : xs2 bs (k + 1) = xs2 bs k ++ #[Value.int .i64 (bs k)].toList := by
  unfold xs2
  rw [List.range_succ, List.map_append]
  simp
def ClkB (B : Nat) (w : World) (g n : Nat) (tA tR bs : Nat → Int) (gr : Int) : Prop := ∃ g1 c1 g2 c2, B ≤ g1 ∧ B ≤ g2 ∧ ClkIn w g n tA tR bs gr g1 c1 g2 c2
theorem clk_of {w : World} {g n B : Nat} {tA tR bs : Nat → Int} {gr : Int} {s1 s2 : Value} (hn : 0 < n) (hb : Blk w g 52 #[s1, s2, .int .i64 gr]) (h1 : w.ownsRow B 38 2 s1 n (xs1 tA tR n)) (h2 : w.ownsRow B 22 1 s2 n (xs2 bs n)) : ClkB B w g n tA tR bs gr := by
  have ha : ∀ b j : Nat, (⟨b, 0, none⟩ : Addr).add j = ⟨b, j, none⟩ := fun b j => by by_cases hj : j = 0 <;> simp [Addr.add, hj]
  obtain ⟨l1, l2⟩ := h1
  obtain ⟨m1, m2⟩ := h2
  rcases l2 with ⟨_, l2⟩ | ⟨g1, c1, cur1, rfl, w1, e1, f1, _, k1, t1⟩
  · omega
  rcases m2 with ⟨_, m2⟩ | ⟨g2, c2, cur2, rfl, w2, e2, f2, _, k2, t2⟩
  · omega
  have b1 : Blk w g1 38 cur1 := e1
  have b2 : Blk w g2 22 cur2 := e2
  have hx1 : ∀ j v, (xs1 tA tR n)[j]? = some v → cur1[j]? = some v := fun j v hv => by
    rw [← t1, List.getElem?_take] at hv
    split at hv
    · simpa using hv
    · cases hv
  have hx2 : ∀ j v, (xs2 bs n)[j]? = some v → cur2[j]? = some v := fun j v hv => by
    rw [← t2, List.getElem?_take] at hv
    split at hv
    · simpa using hv
    · cases hv
  have hg : ∀ k, k < n → ∀ j, j < 2 → (xs1 tA tR n)[k * 2 + j]? = (tcv tA tR k)[j]? := fun k hk j hj => flatMap_get (f := tcv tA tR) (size := 2) (fun _ => rfl) (show (List.range n)[k]? = some k by rw [List.getElem?_range hk]) j hj
  refine ⟨g1, c1, g2, c2, w1, w2, hb, f1, f2, b1.lt, b2.lt, fun k hk => ?_, fun k hk => ?_, fun k hk => ?_⟩
  · rw [b1.cell]; exact hx1 _ _ (by have := hg k hk 0 (by omega); rw [Nat.add_zero] at this; rw [this]; rfl)
  · rw [b1.cell]; exact hx1 _ _ (by rw [hg k hk 1 (by omega)]; rfl)
  · rw [b2.cell]; exact hx2 _ _ (by unfold xs2; rw [List.getElem?_map, List.getElem?_range hk]; rfl)
theorem styT : SliceTy Try.prog 23 38 2 16 := sliceTy_mk (z := .agg #[.int .i64 0, .int .i64 0]) Try.underlying23 (by kernel_rfl) rfl
theorem styS : SliceTy Try.prog 50 22 1 8 := sliceTy_mk (z := .int .i64 0) Try.underlying50 (by kernel_rfl) rfl
theorem TIn.at_ {w : World} {ad : Addr} {n k : Nat} {tA tR : Nat → Int} (h : TIn w (some ad) n tA tR) (hk : k < n) : w.cell? (ad.add (k * 2)) = some (.int .i64 (tA k)) ∧ w.cell? ⟨(ad.add (k * 2)).block, (ad.add (k * 2)).off + 1, none⟩ = some (.int .i64 (tR k)) := by
  obtain ⟨ad', e, _, hc⟩ := h (by omega)
  injection e with e
  subst e
  have h0 := hc k hk 0 _ rfl
  have h1 := hc k hk 1 _ rfl
  have e0 : (ad.add (k * 2)).add 0 = ad.add (k * 2) := by simp [Addr.add]
  have e1 : (ad.add (k * 2)).add 1 = ⟨(ad.add (k * 2)).block, (ad.add (k * 2)).off + 1, none⟩ := by
    generalize ad.add (k * 2) = b
    simp [Addr.add]
  rw [e0] at h0
  rw [e1] at h1
  exact ⟨h0, h1⟩
theorem own_own_ne {w : World} {B B' size size' n n' : Nat} {e e' : TypeId} {v v' : Value} {xs xs' : List Value} (h : w.ownsRow B e size v n xs) (h' : w.ownsRow B' e' size' v' n' xs') (hne : e ≠ e') : v.ownBlock = none ∨ v.ownBlock ≠ v'.ownBlock := by
  rcases h.2 with ⟨rfl, _⟩ | ⟨g, cap, cur, rfl, _, hh, _⟩
  · exact .inl rfl
  · refine .inr fun he => ?_
    rcases h'.2 with ⟨rfl, _⟩ | ⟨g', cap', cur', rfl, _, hh', _⟩
    · cases he
    · have : g = g' := by simpa [Value.ownBlock] using he
      subst this
      rw [hh] at hh'
      injection hh' with hh'
      injection hh' with _ ht
      exact hne ht
/-- Where New stands at its two appends. -/
structure St (w W : World) (g gt : Nat) (C : Array Value) (a0 a1 : Int) (s1 s2 : Value) (i j : Nat) (tA tR bs : Nat → Int) : Prop where
  X : Blk W g 52 C
  T : Blk W gt 38 #[.int .i64 a0, .int .i64 a1]
  o1 : W.ownsRow (w.heap.size + 1) 38 2 s1 i (xs1 tA tR i)
  o2 : W.ownsRow (w.heap.size + 1) 22 1 s2 j (xs2 bs j)
  L : Below w.heap.size w W
  z : w.heap.size < W.heap.size
section
variable {w W W' : World} {g gt i j : Nat} {C : Array Value} {a0 a1 : Int} {s1 s2 v1 v2 : Value} {tA tR bs : Nat → Int}
theorem St.drew (h : St w W g gt C a0 a1 s1 s2 i j tA tR bs) : St w W.drew g gt C a0 a1 s1 s2 i j tA tR bs := ⟨h.X, h.T, h.o1, h.o2, h.L.drew, h.z⟩
theorem St.alloc (h : St w W g gt C a0 a1 s1 s2 i j tA tR bs) (o : Obj) : St w (W.alloc o) g gt C a0 a1 s1 s2 i j tA tR bs :=
  ⟨h.X.alloc o, h.T.alloc o, h.o1.alloc o, h.o2.alloc o, h.L.alloc (Nat.le_of_lt h.z) o, by have := h.z; simp; omega⟩
theorem St.kept (h : St w W g gt C a0 a1 s1 s2 i j tA tR bs) (hb : Below W.heap.size W W') : St w W' g gt C a0 a1 s1 s2 i j tA tR bs :=
  ⟨h.X.below hb h.X.lt, h.T.below hb h.T.lt, ownsRow_keep h.o1 hb, ownsRow_keep h.o2 hb, h.L.trans (hb.mono (Nat.le_of_lt h.z)), Nat.lt_of_lt_of_le h.z hb.size⟩
theorem St.grow1 (h : St w W g gt C a0 a1 s1 s2 i j tA tR bs) (hgt : s1.ownBlock ≠ some gt) (hg : W.grownBy W' s1.ownBlock) (ho : W'.ownsRow (w.heap.size + 1) 38 2 v1 (i + 1) (xs1 tA tR i ++ #[Value.int .i64 (tA i), .int .i64 (tR i)].toList)) : St w W' g gt C a0 a1 v1 s2 (i + 1) j tA tR bs :=
  ⟨h.X.grown hg (Ne.symm (own_blk_ne h.o1 h.X (by decide))), h.T.grown hg (Ne.symm hgt), by rw [xs1_succ]; exact ho, h.o2.kept hg (own_own_ne h.o2 h.o1 (by decide)), h.L.grown hg (Nat.le_of_lt h.z) (fun k hk => by have := (ownsRow_lt h.o1 k hk).1; omega), Nat.lt_of_lt_of_le h.z hg.size⟩
theorem St.grow2 (h : St w W g gt C a0 a1 s1 s2 i j tA tR bs) (hg : W.grownBy W' s2.ownBlock) (ho : W'.ownsRow (w.heap.size + 1) 22 1 v2 (j + 1) (xs2 bs j ++ #[Value.int .i64 (bs j)].toList)) : St w W' g gt C a0 a1 s1 v2 i (j + 1) tA tR bs :=
  ⟨h.X.grown hg (Ne.symm (own_blk_ne h.o2 h.X (by decide))), h.T.grown hg (Ne.symm (own_blk_ne h.o2 h.T (by decide))), h.o1.kept hg (own_own_ne h.o1 h.o2 (by decide)), by rw [xs2_succ]; exact ho, h.L.grown hg (Nat.le_of_lt h.z) (fun k hk => by have := (ownsRow_lt h.o2 k hk).1; omega), Nat.lt_of_lt_of_le h.z hg.size⟩
theorem St.done {gr : Int} (h : St w W g gt C a0 a1 v1 v2 i j tA tR bs) (hg : w.heap.size ≤ g) (hC : ∃ c0 c1, C = #[c0, c1, .int .i64 gr]) :
    Blk ((W.setCell ⟨g, 0, none⟩ v1).setCell ⟨g, 1, none⟩ v2) g 52 #[v1, v2, .int .i64 gr] ∧ ((W.setCell ⟨g, 0, none⟩ v1).setCell ⟨g, 1, none⟩ v2).ownsRow (w.heap.size + 1) 38 2 v1 i (xs1 tA tR i) ∧ ((W.setCell ⟨g, 0, none⟩ v1).setCell ⟨g, 1, none⟩ v2).ownsRow (w.heap.size + 1) 22 1 v2 j (xs2 bs j) ∧ w.heap.size < ((W.setCell ⟨g, 0, none⟩ v1).setCell ⟨g, 1, none⟩ v2).heap.size ∧ Below w.heap.size w ((W.setCell ⟨g, 0, none⟩ v1).setCell ⟨g, 1, none⟩ v2) := by
  obtain ⟨c0, c1, rfl⟩ := hC
  have b2 := (h.X.set_ 0 v1).set_ 1 v2
  have gg : W.grownBy ((W.setCell ⟨g, 0, none⟩ v1).setCell ⟨g, 1, none⟩ v2) (some g) := gr_set (gr_set (grownBy_refl _ _) 0 v1) 1 v2
  refine ⟨by simpa using b2, h.o1.kept gg (.inr (own_blk_ne h.o1 h.X (by decide))), h.o2.kept gg (.inr (own_blk_ne h.o2 h.X (by decide))), by simpa [World.setCell] using h.z, (h.L.setCell (p := ⟨g, 0, none⟩) hg v1).setCell (p := ⟨g, 1, none⟩) hg v2⟩
end
end Go.Proofs.Ytfpbahihndgabaa
