/-
  The reference's digits (read only): trim, Add, Cmp, Sub by the numbers themselves.
-/
import Derived.Test.YtfpbahihndgabaaDig
namespace Go.Proofs.Ytfpbahihndgabaa
set_option linter.unusedSimpArgs false
set_option linter.unusedVariables false
open Go.RowKit

def nd (x : Nat) : Nat := (digs x).length
theorem digs_get : ∀ (i x : Nat), (digs x)[i]? = if 0 < x / 65536 ^ i then some (x / 65536 ^ i % 65536) else none
  | 0, x => by
    rcases Nat.eq_zero_or_pos x with rfl | h
    · simp [digs_zero]
    · rw [digs_pos h]; simp [h]
  | i + 1, x => by
    rcases Nat.eq_zero_or_pos x with rfl | h
    · simp [digs_zero]
    · rw [digs_pos h, List.getElem?_cons_succ, digs_get i (x / 65536), Nat.div_div_eq_div_mul, Nat.pow_succ, Nat.mul_comm 65536]
theorem nd_lt {i x : Nat} : i < nd x ↔ 0 < x / 65536 ^ i := by
  have h := digs_get i x
  constructor
  · intro hi
    unfold nd at hi
    rw [List.getElem?_eq_getElem hi] at h
    by_cases h0 : 0 < x / 65536 ^ i
    · exact h0
    · rw [if_neg h0] at h; cases h
  · intro h0
    rw [if_pos h0] at h
    unfold nd
    exact (List.getElem?_eq_some_iff.1 h).1
theorem digs_at {i x : Nat} (h : i < nd x) : (digs x)[i]? = some (x / 65536 ^ i % 65536) := by rw [digs_get, if_pos (nd_lt.1 h)]
/-- The number of digits. -/
def dv : List Nat → Nat
  | [] => 0
  | a :: l => a + 65536 * dv l
theorem dv_append : ∀ (l m : List Nat), dv (l ++ m) = dv l + 65536 ^ l.length * dv m
  | [], m => by simp [dv]
  | a :: l, m => by
    show a + 65536 * dv (l ++ m) = a + 65536 * dv l + 65536 ^ (l.length + 1) * dv m
    rw [dv_append l m, Nat.mul_add, Nat.pow_succ, ← Nat.mul_assoc, Nat.mul_comm 65536 (65536 ^ l.length)]
    omega
def Small (l : List Nat) : Prop := ∀ d ∈ l, d < 65536
theorem dv_pos_of_last : ∀ (l : List Nat) (d : Nat), 0 < d → 0 < dv (l ++ [d])
  | [], d, h => by show 0 < d + 65536 * 0; omega
  | a :: l, d, h => by
    have := dv_pos_of_last l d h
    show 0 < a + 65536 * dv (l ++ [d])
    omega
theorem digs_of : ∀ (l : List Nat) (d : Nat), Small (l ++ [d]) → 0 < d → digs (dv (l ++ [d])) = l ++ [d]
  | [], d, hs, h => by
    have hd : d < 65536 := hs d (by simp)
    show digs (d + 65536 * 0) = [d]
    rw [Nat.mul_zero, Nat.add_zero, digs_pos h, Nat.mod_eq_of_lt hd, Nat.div_eq_of_lt hd, digs_zero]
  | a :: l, d, hs, h => by
    have ha : a < 65536 := hs a (by simp)
    have hp := dv_pos_of_last l d h
    have ih := digs_of l d (fun x hx => hs x (by simp at hx ⊢; right; exact hx)) h
    show digs (a + 65536 * dv (l ++ [d])) = a :: (l ++ [d])
    rw [digs_pos (by omega), show (a + 65536 * dv (l ++ [d])) % 65536 = a by omega, show (a + 65536 * dv (l ++ [d])) / 65536 = dv (l ++ [d]) by omega, ih]
theorem dv_zeros : ∀ (l : List Nat), (∀ d ∈ l, d = 0) → dv l = 0
  | [], _ => rfl
  | a :: l, h => by
    have h1 := h a (by simp)
    have h2 := dv_zeros l (fun d hd => h d (by simp [hd]))
    show a + 65536 * dv l = 0
    omega
/-- Without the noughts ahead. -/
theorem digs_trim {l : List Nat} {n : Nat} (hs : Small l) (hn : n ≤ l.length) (hz : ∀ i, n ≤ i → ∀ d, l[i]? = some d → d = 0) (hl : n = 0 ∨ ∃ d, l[n - 1]? = some d ∧ d ≠ 0) : digs (dv l) = l.take n := by
  have h0 : dv l = dv (l.take n) := by
    have e := dv_append (l.take n) (l.drop n)
    rw [List.take_append_drop] at e
    rw [e, dv_zeros (l.drop n) (fun d hd => by
      obtain ⟨i, hi⟩ := List.getElem?_of_mem hd
      rw [List.getElem?_drop] at hi
      exact hz _ (by omega) d hi)]
    simp
  rw [h0]
  rcases hl with rfl | ⟨d, hd, hne⟩
  · simp [dv, digs_zero]
  · have hp : 0 < n := by
      rcases Nat.eq_zero_or_pos n with rfl | h
      · exfalso
        exact hne (hz 0 (Nat.le_refl _) d hd)
      · exact h
    obtain ⟨k, rfl⟩ : ∃ k, n = k + 1 := ⟨n - 1, by omega⟩
    rw [Nat.add_sub_cancel] at hd
    have ht : l.take (k + 1) = l.take k ++ [d] := by rw [List.take_add_one, hd]; rfl
    rw [ht]
    refine digs_of _ _ (fun x hx => hs x ?_) (by omega)
    rw [← ht] at hx
    exact List.mem_of_mem_take hx
theorem Reads.prefix_ {w : World} {B n m : Nat} {A : Option Addr} {xs : List Value} (h : Reads w B 1 A m xs) (hn : n ≤ m) : Reads w B 1 A n (xs.take n) := by
  refine ⟨by rw [List.length_take, h.1]; omega, fun hp => ?_⟩
  obtain ⟨ad, e, hb, hc⟩ := h.2 (by omega)
  refine ⟨ad, e, hb, fun j u hu => hc j u ?_⟩
  rw [List.getElem?_take] at hu
  split at hu
  · exact hu
  · cases hu
/-- A slice whose cells are a number's digits. -/
def Dg (w : World) (v : Value) (x : Nat) : Prop := ∃ A n c, v = .slice A n c ∧ n ≤ c ∧ n = nd x ∧ n ≤ 5000 ∧ Reads w w.heap.size 1 A n ((digs x).map iv)
theorem Dg.below {w w' : World} {v : Value} {x : Nat} (h : Dg w v x) (hb : Below w.heap.size w w') : Dg w' v x := by
  obtain ⟨A, n, c, e, h1, h2, h3, h4⟩ := h
  exact ⟨A, n, c, e, h1, h2, h3, (h4.below hb).more hb.size⟩
/-- A slice that lies in a block of the call's own, if anywhere. -/
def Own (B : Nat) (v : Value) : Prop := ∀ k, v.ownBlock = some k → B ≤ k
theorem Own.mono {B B' : Nat} {v : Value} (h : Own B v) (hB : B' ≤ B) : Own B' v := fun k hk => Nat.le_trans hB (h k hk)
theorem Dg.far {w : World} {v : Value} {x B g p : Nat} {u : Value} (h : Dg w v x) (ho : Own B v) (hg : g < B) : Dg (w.setCell ⟨g, p, none⟩ u) v x := by
  obtain ⟨A, n, c, rfl, h1, h2, h3, h4⟩ := h
  refine ⟨A, n, c, rfl, h1, h2, h3, h4.1, fun hp => ?_⟩
  obtain ⟨ad, e, hb, hc⟩ := h4.2 hp
  have hk : B ≤ ad.block := by subst e; exact ho _ rfl
  exact ⟨ad, e, by simpa [World.setCell] using hb, fun j u hu => by
    rw [← hc j u hu]
    have hbk : (ad.add j).block = ad.block := by unfold Addr.add; split <;> rfl
    exact World.cell?_setCell_other w _ _ _ (fun e => by have e2 := congrArg Addr.block e; rw [hbk] at e2; simp at e2; omega)⟩
theorem Dg.zero (w : World) (A : Option Addr) (c : Nat) : Dg w (.slice A 0 c) 0 := ⟨A, 0, c, rfl, Nat.zero_le _, by simp [nd, digs_zero], by omega, by simp [digs_zero], fun h => by omega⟩
set_option maxRecDepth 100000 in
set_option maxHeartbeats 2000000 in
theorem trim_any (A : Option Addr) (m c : Nat) (l : List Nat) (w : World) (B : Nat) (hr : Reads w B 1 A m (l.map iv)) (hs : Small l) (hc : m ≤ c) (hm : m ≤ 5000) :
    Calls Try.prog 49 #[.slice A m c] w fun e w' => ∃ n, e = .returned (.slice A n c) ∧ n ≤ m ∧ digs (dv l) = l.take n ∧ w = w' := by
  have hl : l.length = m := by have := hr.1; simpa using this
  have HS := Lib.hid hs
  have HR := Lib.hid hr
  have HL := Lib.hid hl
  clear hs hr hl
  go_enter Try.func49, Try.ntmps49
  go_wp2_with fail
  go_loop [3] (fun i => ∃ n : Nat, n ≤ m ∧ i = .int .i64 n ∧ Hid (∀ i, n ≤ i → ∀ d, l[i]? = some d → d = 0)) (fun i => (intOf i).toNat)
  case atStart => exact ⟨m, Nat.le_refl _, rfl, Lib.hid fun i hi d hd => by rw [List.getElem?_eq_none (by rw [HL.out]; exact hi)] at hd; cases hd⟩
  case round =>
    obtain ⟨n, hn, rfl, hz⟩ := hrel
    rcases Nat.eq_zero_or_pos n with rfl | hp
    · have HE := Lib.hid (digs_trim HS.out (by rw [HL.out]; exact hn) hz.out (.inl rfl))
      clear hz
      go_wp2_with fail
      go_ret
      exact ⟨0, rfl, hn, HE.out, rfl⟩
    · obtain ⟨k, rfl⟩ : ∃ k, n = k + 1 := ⟨n - 1, by omega⟩
      obtain ⟨ad, rfl, _, hcell⟩ := HR.out.2 (by omega)
      have hk : k < l.length := by rw [HL.out]; omega
      have hx := hcell k (iv l[k]) (by rw [List.getElem?_map, List.getElem?_eq_getElem hk]; rfl)
      have hd : l[k]? = some l[k] := List.getElem?_eq_getElem hk
      generalize l[k] = d at *
      unfold iv at hx
      obtain ⟨K, hK⟩ : ∃ K : Int, K = ((k + 1 : Nat) : Int) := ⟨_, rfl⟩
      rw [← hK]
      have s1 : IntKind.i64.wrap (K - 1) = (k : Int) := by rw [hK, show ((k + 1 : Nat) : Int) - 1 = (k : Int) by omega]; exact IntWalk.i64_in _ ⟨by omega, by omega⟩
      have hkm : k < m := by omega
      have hKp : 0 < K := by omega
      have HKM := Lib.hid hK
      by_cases h0 : d = 0
      · have HZ : Hid (∀ i, k ≤ i → ∀ d, l[i]? = some d → d = 0) := Lib.hid fun i hi d' hd' => by
          rcases Nat.eq_or_lt_of_le hi with rfl | h
          · rw [hd] at hd'; injection hd' with hd'; omega
          · exact hz.out i h d' hd'
        subst h0
        clear hz hd hcell hK hk hn
        go_wp2_with fail
        go_round
        case rel => exact ⟨k, by omega, by first | rfl | rw [s1], HZ⟩
        case measure => have hKe := HKM.out; simp only [intOf, s1]; omega
      · have b0 : ((d : Int) == 0) = false := beq_eq_false_iff_ne.2 (by omega)
        have HE := Lib.hid (digs_trim HS.out (by rw [HL.out]; exact hn) hz.out (.inr ⟨d, hd, h0⟩))
        have hKc : K ≤ (c : Int) := by omega
        clear hz hd hcell h0
        subst hK
        go_wp2_with fail
        go_ret
        exact ⟨k + 1, rfl, hn, HE.out, rfl⟩
end Go.Proofs.Ytfpbahihndgabaa
