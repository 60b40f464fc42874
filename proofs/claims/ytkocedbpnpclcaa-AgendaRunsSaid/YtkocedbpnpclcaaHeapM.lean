/-
  A heap of what is to come, in memory: a row of pointers, each to a block of its own.
-/
import Derived.Test.YtkocedbpnpclcaaHeapP
import Derived.Test.YtkocedbpnpclcaaFr
import Derived.Test.YtkocedbpnpclcaaKitD
namespace Go.Proofs.Ytkocedbpnpclcaa
set_option linter.unusedSimpArgs false
set_option linter.unusedVariables false
open Go.RowKit

def pv (g : Nat) : Value := .pointer (some ⟨g, 0, none⟩)
def icells (wk : IntKind) (x : It) (p : Int) : Array Value := #[.int .i64 x.at_, .int .i64 x.turn, .int wk x.what, .int .i64 p]
structure HL (ti tp : TypeId) (wk : IntKind) (w : World) (ga c : Nat) (xs : List El) : Prop where
  arr : ∃ cur : Array Value, Blk w ga tp cur ∧ cur.size = c ∧ ∀ (i : Nat) (x : El), xs[i]? = some x → cur[i]? = some (pv x.blk)
  le : xs.length ≤ c
  itm : ∀ (i : Nat) (x : El), xs[i]? = some x → Blk w x.blk ti (icells wk x.it i)
  nd : (ga :: xs.map El.blk).Nodup
  cm : c ≤ maxLen
section
variable {ti tp : TypeId} {wk : IntKind} {w w' : World} {ga c : Nat} {xs : List El}
def blks (ga : Nat) (xs : List El) : List Nat := ga :: xs.map El.blk
theorem blk_mem {i : Nat} {a : El} (h : xs[i]? = some a) : a.blk ∈ xs.map El.blk := List.mem_map.2 ⟨a, List.mem_of_getElem? h, rfl⟩
theorem HL.ne (h : HL ti tp wk w ga c xs) {i : Nat} {a : El} (ha : xs[i]? = some a) : a.blk ≠ ga := fun e => (List.nodup_cons.1 h.nd).1 (e ▸ blk_mem ha)
theorem HL.ne2 (h : HL ti tp wk w ga c xs) {i k : Nat} {a b : El} (ha : xs[i]? = some a) (hb : xs[k]? = some b) (hik : i ≠ k) : a.blk ≠ b.blk := fun e => by
  have h1 := (List.nodup_cons.1 h.nd).2
  have h2 := at_lt ha
  have h3 := at_lt hb
  have h4 := (List.getElem_inj (h₀ := by simpa using h2) (h₁ := by simpa using h3) h1).1 (by
    rw [List.getElem_map, List.getElem_map]
    rw [List.getElem?_eq_getElem h2] at ha
    rw [List.getElem?_eq_getElem h3] at hb
    injection ha with ha
    injection hb with hb
    rw [ha, hb]; exact e)
  exact hik h4
theorem HL.ptr_at (h : HL ti tp wk w ga c xs) {i : Nat} {a : El} (ha : xs[i]? = some a) : w.cell? ⟨ga, i, none⟩ = some (.pointer (some ⟨a.blk, 0, none⟩)) := by
  obtain ⟨cur, B, _, hp⟩ := h.arr
  exact B.cellOf i (hp i a ha)
theorem HL.lt (h : HL ti tp wk w ga c xs) : ga < w.heap.size := by
  obtain ⟨cur, B, _, _⟩ := h.arr
  exact B.lt
theorem HL.fr {S : List Nat} (h : HL ti tp wk w ga c xs) (hf : Fr S w w') (hS : ∀ k ∈ S, k ∉ blks ga xs) : HL ti tp wk w' ga c xs := by
  obtain ⟨cur, B, e, hp⟩ := h.arr
  exact ⟨⟨cur, hf.blk B (fun a => hS _ a (List.mem_cons_self ..)), e, hp⟩, h.le, fun i x hx => hf.blk (h.itm i x hx) (fun a => hS _ a (List.mem_cons_of_mem _ (blk_mem hx))), h.nd, h.cm⟩
theorem HL.kept (h : HL ti tp wk w ga c xs) (hb : Below w.heap.size w w') : HL ti tp wk w' ga c xs := h.fr (S := []) (Fr.be hb) (by simp)
theorem HL.mem_lt (h : HL ti tp wk w ga c xs) : ∀ k ∈ blks ga xs, k < w.heap.size := by
  intro k hk
  rcases List.mem_cons.1 hk with rfl | hk
  · exact h.lt
  · obtain ⟨x, hx, rfl⟩ := List.mem_map.1 hk
    obtain ⟨i, hi, e⟩ := List.getElem_of_mem hx
    exact (h.itm i x (by rw [List.getElem?_eq_getElem hi, e])).lt
theorem sw_blks (i k : Nat) : (blks ga (sw xs i k)).Perm (blks ga xs) := List.Perm.cons _ ((sw_perm xs i k).map _)
theorem sw_self {i : Nat} {a : El} (h : xs[i]? = some a) : sw xs i i = xs := by
  apply List.ext_getElem?
  intro j
  rw [sw_at h h]
  split
  · rename_i e; rw [e, h]
  · rfl
/-- What a Swap leaves. -/
theorem hl_sw (h : HL ti tp wk w ga c xs) {i k : Nat} {a b : El} (ha : xs[i]? = some a) (hb : xs[k]? = some b) {cur : Array Value} (hB : Blk w ga tp cur) (hc : cur.size = c) (hp : ∀ (i : Nat) (x : El), xs[i]? = some x → cur[i]? = some (pv x.blk))
    (hf : Fr [ga, a.blk, b.blk] w w') (hA : Blk w' ga tp ((cur.setIfInBounds i (pv b.blk)).setIfInBounds k (pv a.blk))) (h1 : Blk w' a.blk ti (icells wk a.it k)) (h2 : i ≠ k → Blk w' b.blk ti (icells wk b.it i)) : HL ti tp wk w' ga c (sw xs i k) := by
  refine ⟨⟨_, hA, by simp [hc], fun j x hx => ?_⟩, by rw [sw_len]; exact h.le, fun j x hx => ?_, (sw_blks i k).nodup_iff.2 h.nd, h.cm⟩
  · have hl1 := at_lt ha
    have hl2 := at_lt hb
    have hle := h.le
    rw [sw_at ha hb] at hx
    rw [Array.getElem?_setIfInBounds, Array.getElem?_setIfInBounds]
    by_cases hjk : k = j
    · rw [if_pos hjk.symm] at hx
      injection hx with hx
      rw [if_pos hjk, if_pos (by simp; omega), hx]
    · rw [if_neg (Ne.symm hjk)] at hx
      rw [if_neg hjk]
      by_cases hji : i = j
      · rw [if_pos hji.symm] at hx
        injection hx with hx
        rw [if_pos hji, if_pos (by omega), hx]
      · rw [if_neg (Ne.symm hji)] at hx
        rw [if_neg hji]
        exact hp j x hx
  · rw [sw_at ha hb] at hx
    by_cases hjk : j = k
    · rw [if_pos hjk] at hx
      injection hx with hx
      rw [← hx, hjk]
      exact h1
    · rw [if_neg hjk] at hx
      by_cases hji : j = i
      · rw [if_pos hji] at hx
        injection hx with hx
        rw [← hx, hji]
        exact h2 (fun e => hjk (hji.trans e))
      · rw [if_neg hji] at hx
        refine hf.blk (h.itm j x hx) ?_
        have n1 := h.ne hx
        have n2 := h.ne2 hx ha hji
        have n3 := h.ne2 hx hb hjk
        simp [n1, n2, n3]
theorem sub_sw {i k : Nat} {a b : El} (ha : xs[i]? = some a) (hb : xs[k]? = some b) : ∀ q ∈ [ga, a.blk, b.blk], q ∈ blks ga xs := by
  intro q hq
  simp at hq
  rcases hq with rfl | rfl | rfl
  · exact List.mem_cons_self ..
  · exact List.mem_cons_of_mem _ (blk_mem ha)
  · exact List.mem_cons_of_mem _ (blk_mem hb)
/-! ### A list, or none yet -/
def AL (ti tp : TypeId) (wk : IntKind) (w : World) (A : Option Addr) (c : Nat) (xs : List El) : Prop := (xs = [] ∧ A = none ∧ c = 0) ∨ ∃ ga, A = some ⟨ga, 0, none⟩ ∧ HL ti tp wk w ga c xs
def ablks (A : Option Addr) (xs : List El) : List Nat := (match A with | some a => [a.block] | none => []) ++ xs.map El.blk
theorem ablks_some (ga : Nat) (xs : List El) : ablks (some ⟨ga, 0, none⟩) xs = blks ga xs := rfl
theorem AL.fr {A : Option Addr} {S : List Nat} (h : AL ti tp wk w A c xs) (hf : Fr S w w') (hS : ∀ k ∈ S, k ∉ ablks A xs) : AL ti tp wk w' A c xs := by
  rcases h with h | ⟨ga, rfl, h⟩
  · exact .inl h
  · exact .inr ⟨ga, rfl, h.fr hf hS⟩
theorem AL.own {A : Option Addr} (h : AL ti tp wk w A c xs) {n : Nat} (hn : xs.length = n) : w.ownsRow 0 tp 1 (.slice A n c) n (xs.map fun x => pv x.blk) := by
  refine ⟨by simp [hn], ?_⟩
  rcases h with ⟨rfl, rfl, rfl⟩ | ⟨ga, rfl, h⟩
  · exact .inl ⟨by rw [← hn]; rfl, by rw [← hn]; rfl⟩
  · obtain ⟨cur, B, hc, hp⟩ := h.arr
    have hle := h.le
    refine .inr ⟨ga, c, cur, rfl, Nat.zero_le _, B, by omega, h.cm, by omega, ?_⟩
    apply List.ext_getElem?
    intro j
    rw [List.getElem?_take, Nat.mul_one, List.getElem?_map]
    by_cases hj : j < n
    · obtain ⟨x, hx⟩ : ∃ x, xs[j]? = some x := ⟨_, List.getElem?_eq_getElem (by omega)⟩
      rw [if_pos hj, hx]
      have := hp j x hx
      simpa using this
    · rw [if_neg hj, List.getElem?_eq_none (by omega)]; rfl
theorem hl_of_own {v : Value} {n : Nat} {ys : List El} (h : w.ownsRow 0 tp 1 v n (ys.map fun x => pv x.blk)) (hn : 0 < n) :
    ∃ ga c cur, v = .slice (some ⟨ga, 0, none⟩) n c ∧ Blk w ga tp cur ∧ cur.size = c ∧ n ≤ c ∧ c ≤ maxLen ∧ ∀ (i : Nat) (x : El), ys[i]? = some x → cur[i]? = some (pv x.blk) := by
  have hl := h.1
  rcases h.2 with ⟨_, h2⟩ | ⟨g, cap, cur, hv, _, hh, hle, hm, hsz, ht⟩
  · omega
  · refine ⟨g, cap, cur, hv, hh, by omega, hle, hm, fun i x hx => ?_⟩
    have e : (cur.toList.take (n * 1))[i]? = some (pv x.blk) := by rw [ht, List.getElem?_map, hx]; rfl
    rw [List.getElem?_take] at e
    split at e
    · simpa using e
    · cases e
theorem take_last {ys : List El} {n : Nat} {x : El} (hn : ys.length = n + 1) (hx : ys[n]? = some x) : ys.take n ++ [x] = ys := by
  rw [← take_get hx, List.take_of_length_le (by omega)]
theorem acs_nodup {g gm : Nat} {A : Option Addr} (h : (g :: gm :: ablks A xs).Nodup) : g ≠ gm ∧ g ∉ ablks A xs ∧ gm ∉ ablks A xs := by
  have h1 := List.nodup_cons.1 h
  have h2 := List.nodup_cons.1 h1.2
  exact ⟨fun e => h1.1 (e ▸ List.mem_cons_self ..), fun a => h1.1 (List.mem_cons_of_mem _ a), h2.1⟩
end
end Go.Proofs.Ytkocedbpnpclcaa
