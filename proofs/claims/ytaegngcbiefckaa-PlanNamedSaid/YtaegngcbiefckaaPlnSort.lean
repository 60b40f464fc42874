/-
  Spans sorted in their own row.
-/
import Derived.Test.YtaegngcbiefckaaPlnSpan
import Derived.Shelf.SlSortCmp.WholeK
import Derived.Shelf.SlSortCmp.NoneTotal
namespace Go.Proofs.Ytaegngcbiefckaa
set_option linter.unusedSimpArgs false
set_option linter.unusedVariables false
open Go.Shelf Go.RowKit Go.Lib Go.Sort

theorem flatK_spc (ss : List (Int × Int)) : (flatK spc 2 ss.toArray).toList = ss.flatMap spc := by
  refine List.ext_getElem? fun t => ?_
  by_cases ht : t < ss.length * 2
  · have hk : t / 2 < ss.length := by omega
    have hx : ss[t / 2]? = some ss[t / 2] := List.getElem?_eq_getElem hk
    have h1 := flatMap_get spc_len hx (t % 2) (Nat.mod_lt _ (by omega))
    rw [show t / 2 * 2 + t % 2 = t by omega] at h1
    rw [h1]
    have hsz : t < (flatK spc 2 ss.toArray).size := by simpa using ht
    have h2 := get_flatK spc 2 ss.toArray t (by simpa using ht)
    rw [Array.getElem?_toList, Array.getElem?_eq_getElem hsz, ← getElem!_pos (flatK spc 2 ss.toArray) t hsz, h2]
    have h3 : ss.toArray[t / 2]! = ss[t / 2] := by simp [hk]
    rw [h3]
    rcases Nat.mod_two_eq_zero_or_one t with h | h <;> simp [h, spc]
  · rw [List.getElem?_eq_none (by simpa using ht), List.getElem?_eq_none (by rw [flatMap_length spc_len]; omega)]
theorem holds_row {w : World} {B n cap blk : Nat} {e : TypeId} {ss : List (Int × Int)} (h : w.ownsRow B e 2 (.slice (some ⟨blk, 0, none⟩) n cap) n (ss.flatMap spc)) : HoldsK spc 2 w blk 0 ss.toArray := by
  intro j hj
  have hj' : j < (ss.flatMap spc).length := by rw [← flatK_spc]; simpa using hj
  have hc := h.cells rfl j _ (List.getElem?_eq_getElem hj')
  have ha : (⟨blk, 0, none⟩ : Addr).add j = ⟨blk, 0 + j, none⟩ := by unfold Addr.add; split <;> simp_all
  rw [ha] at hc
  refine ⟨?_, ?_⟩
  · rw [hc]
    have : (flatK spc 2 ss.toArray)[j]! = (ss.flatMap spc)[j] := by
      rw [getElem!_pos _ j hj]
      have := flatK_spc ss
      simp only [← this, Array.getElem_toList]
    rw [this]; rfl
  · rcases h.2 with ⟨h0, _⟩ | ⟨g, cp, cur, hv, _, hgg, _⟩
    · cases h0
    · cases hv
      simp [World.frozen?, hgg]
theorem sorted_row {w : World} {B n cap blk m : Nat} {e : TypeId} {ss ss' : List (Int × Int)} {os : Array Obj} (h : w.ownsRow B e 2 (.slice (some ⟨blk, 0, none⟩) n cap) n (ss.flatMap spc)) (hl : ss'.length = ss.length) :
    (sortWorldK spc 2 w blk 0 m ss'.toArray os).ownsRow B e 2 (.slice (some ⟨blk, 0, none⟩) n cap) n (ss'.flatMap spc) ∧ w.grownBy (sortWorldK spc 2 w blk 0 m ss'.toArray os) (some blk) := by
  obtain ⟨hlen, hrow⟩ := h
  rcases hrow with ⟨h0, _⟩ | ⟨g, cp, cur, hv, hB, hgg, hn, hcap, hsz, htk⟩
  · cases h0
  cases hv
  have hlt : blk < w.heap.size := (Array.getElem?_eq_some_iff.1 hgg).1
  have hsl : ss.length * 2 = n * 2 := by rw [← hlen, flatMap_length spc_len]
  have hfl : (flatK spc 2 ss'.toArray).size = n * 2 := by simp [hl, hsl]
  refine ⟨⟨by rw [flatMap_length spc_len, hl, hsl], .inr ⟨blk, cap, putCells id 0 (flatK spc 2 ss'.toArray) cur, rfl, hB, ?_, hn, hcap, by simpa [putCells] using hsz, ?_⟩⟩, ⟨rfl, rfl, rfl, ?_, fun i hi hne => ?_⟩⟩
  · unfold sortWorldK grow putRowK putRow mapBlock Go.Sort.ahead
    simp [Array.getElem?_append_left, Array.getElem?_modify, hlt]
    rw [Array.getElem_modify, if_pos rfl, (Array.getElem?_eq_some_iff.1 hgg).2]
    rfl
  · rw [← flatK_spc]
    refine List.ext_getElem? fun t => ?_
    by_cases ht : t < n * 2
    · have htc : t < cur.size := by rw [hsz]; have := Nat.mul_le_mul_right 2 hn; omega
      rw [List.getElem?_take_of_lt ht, Array.getElem?_toList, Array.getElem?_toList, Array.getElem?_eq_getElem (show t < (flatK spc 2 ss'.toArray).size by rw [hfl]; exact ht)]
      simp [putCells, htc, hfl, ht]
    · rw [List.getElem?_eq_none (by simp; omega), List.getElem?_eq_none (by simp [hl]; omega)]
  · unfold sortWorldK grow putRowK putRow mapBlock Go.Sort.ahead
    simp
  · unfold sortWorldK grow putRowK putRow mapBlock Go.Sort.ahead
    have hne' : blk ≠ i := fun e => hne (by rw [e])
    simp [Array.getElem?_append_left, Array.getElem?_modify, hi]
    rw [Array.getElem_modify, if_neg hne']
theorem isAgg_span (w : World) : (isAgg 93).run Try.prog w = .ok true w := Try.isAgg93 w
theorem sizeOf_span (w : World) : (Go.sizeOf 93).run Try.prog w = .ok 2 w := Try.sizeOf93 w
set_option maxRecDepth 100000 in
theorem sort_row (B n cap blk : Nat) (ss : List (Int × Int)) (w : World) (h : w.ownsRow B 93 2 (.slice (some ⟨blk, 0, none⟩) n cap) n (ss.flatMap spc)) (hn : n < 4611686018427387904) :
    Calls Try.prog 35 #[.slice (some ⟨blk, 0, none⟩) n cap, .func (.func 36) #[] #[]] w fun e w' =>
      e = .returned (.tuple #[]) ∧ ∃ ss' : List (Int × Int), ss'.Perm ss ∧ ss'.Pairwise (fun x y => x.1 ≤ y.1) ∧ w'.ownsRow B 93 2 (.slice (some ⟨blk, 0, none⟩) n cap) n (ss'.flatMap spc) ∧ w.grownBy w' (some blk) := by
  have hl : ss.length = n := by have := h.1; rw [flatMap_length spc_len] at this; omega
  have hblk : blk < w.heap.size := (h.lt blk rfl).2
  have eg : ∀ args w, (callFunc 36 args).run Try.prog w = .ok (.enter 36 args) w := enters_of Try.func36 (by kernel_rfl) rfl
  have hcon := AnyQ.slices_SortFunc sortSpan 2 isAgg_span sizeOf_span spc (fun _ => rfl) (fun x v hv => by simp [spc] at hv; rcases hv with rfl | rfl <;> rfl) (fun x y => Lib.compareInt x.1 y.1) swo_from 36 #[] blk 0 cap ss.toArray w eg (fun _ _ _ _ x y => spanCmp_any x y _) (holds_row h) hblk (by simpa [hl] using hn)
  change Calls Try.prog 35 _ _ _ at hcon
  rw [show ss.toArray.size = n by simpa using hl] at hcon
  refine hcon.mono ?_
  rintro e w' ⟨rfl, d', m, os, ⟨hp1, _, hp3⟩, hs, rfl⟩
  have hsz : d'.size = n := by simpa [hl] using hp1
  have hperm : d'.toList.Perm ss := by simpa [hsz, hl, Array.extract_eq_self_of_le] using hp3
  have key := sorted_row (m := m) (os := os) (ss' := d'.toList) h (by simp [hsz, hl])
  refine ⟨rfl, d'.toList, hperm, ?_, by simpa using key.1, by simpa using key.2⟩
  rw [List.pairwise_iff_getElem]
  intro i j hi hj hij
  have := hs i j (Nat.zero_le _) hij (by simpa [hsz] using hj)
  rw [lt_from] at this
  have h1 : d'[i]! = d'.toList[i] := by rw [getElem!_pos d' i (by simpa using hi)]; simp
  have h2 : d'[j]! = d'.toList[j] := by rw [getElem!_pos d' j (by simpa using hj)]; simp
  rw [h1, h2] at this
  have := of_decide_eq_false this
  omega
theorem sort_none (p : Option Addr) (cap : Nat) (fv : Value) (w : World) : Calls Try.prog 35 #[.slice p 0 cap, fv] w fun e w' => e = .returned (.tuple #[]) ∧ w' = w :=
  AnyF.slices_SortFunc_none sortSpan p cap fv w
/-- At any row of spans, nil too. -/
theorem sort_any (B n : Nat) (v : Value) (ss : List (Int × Int)) (w : World) (h : w.ownsRow B 93 2 v n (ss.flatMap spc)) (hn : n < 4611686018427387904) :
    Calls Try.prog 35 #[v, .func (.func 36) #[] #[]] w fun e w' =>
      e = .returned (.tuple #[]) ∧ ∃ ss' : List (Int × Int), ss'.Perm ss ∧ ss'.Pairwise (fun x y => x.1 ≤ y.1) ∧ w'.ownsRow B 93 2 v n (ss'.flatMap spc) ∧ w.grownBy w' v.ownBlock := by
  rcases h.2 with ⟨rfl, rfl⟩ | ⟨g, cap, cur, rfl, _⟩
  · have hl := h.1
    rw [flatMap_length spc_len] at hl
    obtain rfl : ss = [] := List.eq_nil_of_length_eq_zero (by omega)
    refine (sort_none none 0 _ w).mono ?_
    rintro e w' ⟨rfl, rfl⟩
    exact ⟨rfl, [], List.Perm.refl _, List.Pairwise.nil, h, ⟨rfl, rfl, rfl, Nat.le_refl _, fun _ _ _ => rfl⟩⟩
  · exact sort_row B n cap g ss w h hn
end Go.Proofs.Ytaegngcbiefckaa
