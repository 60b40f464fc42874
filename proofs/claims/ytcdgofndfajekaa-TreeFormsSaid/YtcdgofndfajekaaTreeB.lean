/-
  Layer 20: slices.Contains, slices.Clone.
-/
import Derived.Test.YtcdgofndfajekaaTreeA
import Derived.Test.YtcdgofndfajekaaKitE
import Derived.Lib.BufferMore
namespace Go.Proofs.Ytcdgofndfajekaa
set_option linter.unusedSimpArgs false
set_option linter.unusedVariables false
open Go.RowKit
attribute [local go_sem ↓] Go.wp_at_zero Go.wp_at_succ

theorem index_any (xs : List Int) (x : Int) (A : Option Addr) (n c : Nat) (w : World) (hr : Reads w w.heap.size 1 A n (vs xs)) (hn : n ≤ maxLen) :
    Calls Try.prog 29 #[.slice A n c, .int .i64 x] w fun e w' => ∃ i : Int, e = .returned (.int .i64 i) ∧ (0 ≤ i ↔ x ∈ xs) ∧ w = w' := by
  have hl : xs.length = n := by have := hr.1; rw [vs_length] at this; omega
  have HR := Lib.hid hr
  have HL := Lib.hid hl
  clear hr hl
  go_enter Try.func29, Try.ntmps29
  go_wp2_with fail
  go_loopw [8] (fun i wr => ∃ k : Nat, i = .int .i64 (k : Nat) ∧ k ≤ n ∧ wr = w ∧ Hid (∀ j, j < k → xs[j]? ≠ some x)) (fun i _ => n - (intOf i).toNat)
  case atStart => exact ⟨0, rfl, Nat.zero_le _, rfl, Lib.hid fun j h => absurd h (by omega)⟩
  case round =>
    obtain ⟨k, rfl, hk, rfl, hs⟩ := hrel
    by_cases hlt : k < n
    · obtain ⟨ad, u, rfl, _, hu, hc⟩ := HR.out.at_ hlt
      obtain ⟨y, hy, rfl⟩ : ∃ y, xs[k]? = some y ∧ u = .int .i64 y := by
        unfold vs at hu
        rw [List.getElem?_map] at hu
        cases hx : xs[k]? with
        | none => rw [hx] at hu; cases hu
        | some y => rw [hx] at hu; injection hu with hu; exact ⟨y, rfl, hu.symm⟩
      have HY := Lib.hid hy
      have hmx : n ≤ 9223372036854775807 := by unfold maxLen at hn; omega
      clear hy hu
      by_cases he : x = y
      · have hd : (x == y) = true := beq_iff_eq.2 he
        have HE := Lib.hid he
        clear he
        go_wp2_with fail
        go_ret
        exact ⟨(k : Int), rfl, ⟨fun _ => by rw [HE.out]; exact List.mem_of_getElem? HY.out, fun _ => by omega⟩, rfl⟩
      · have hd : (x == y) = false := beq_eq_false_iff_ne.2 he
        have HE : Hid (∀ j, j < k + 1 → xs[j]? ≠ some x) := Lib.hid fun j hj => by
          rcases Nat.lt_or_ge j k with h | h
          · exact hs.out j h
          · obtain rfl : j = k := by omega
            rw [HY.out]
            intro h2
            injection h2 with h2
            exact he h2.symm
        clear he
        go_wp2_with fail
        go_roundw
        case rel => exact ⟨k + 1, by first | rfl | (refine congrArg (Value.int IntKind.i64) ?_; rw [IntWalk.wrap64_in _ ⟨by omega, by omega⟩]; rfl), by omega, by first | rfl | trivial, HE⟩
        case measure => simp [intOf]; omega
    · obtain rfl : k = n := by omega
      have dn : decide (k < k) = false := by simp
      clear hlt hk
      go_wp2_with fail
      go_ret
      refine ⟨-1, rfl, ⟨fun h => absurd h (by decide), fun h => ?_⟩, rfl⟩
      obtain ⟨j, hj, hx⟩ := List.mem_iff_getElem.1 h
      exact absurd (by rw [List.getElem?_eq_getElem hj, hx]) (hs.out j (by rw [HL.out] at hj; exact hj))
theorem contains_any (xs : List Int) (x : Int) (A : Option Addr) (n c : Nat) (w : World) (hr : Reads w w.heap.size 1 A n (vs xs)) (hn : n ≤ maxLen) :
    Calls Try.prog 22 #[.slice A n c, .int .i64 x] w fun e w' => e = .returned (.bool (decide (x ∈ xs))) ∧ w = w' := by
  have HI := Lib.hid (index_any xs x A n c w hr hn)
  obtain ⟨b, hb⟩ : ∃ b, b = decide (x ∈ xs) := ⟨_, rfl⟩
  rw [← hb]
  have HB := Lib.hid hb
  clear hr hb
  go_enter Try.func22, Try.ntmps22
  go_wp2_with fail
  refine HI.out.mono ?_
  rintro e w1 ⟨i, rfl, hi, rfl⟩
  by_cases h : x ∈ xs
  · have h0 : 0 ≤ i := hi.2 h
    obtain rfl : b = true := HB.out.trans (decide_eq_true h)
    clear hi h HB
    go_wp2_with fail
    go_ret
    exact ⟨rfl, rfl⟩
  · have h0 : decide (0 ≤ i) = false := decide_eq_false fun h1 => h (hi.1 h1)
    obtain rfl : b = false := HB.out.trans (decide_eq_false h)
    clear hi h HB
    go_wp2_with fail
    go_ret
    exact ⟨rfl, rfl⟩
theorem contains_be (xs : List Int) (x : Int) (A : Option Addr) (n c : Nat) (w : World) (hr : Reads w w.heap.size 1 A n (vs xs)) (hn : n ≤ maxLen) :
    Calls Try.prog 22 #[.slice A n c, .int .i64 x] w fun e w' => e = .returned (.bool (decide (x ∈ xs))) ∧ Below w.heap.size w w' :=
  (contains_any xs x A n c w hr hn).mono fun e w' h => ⟨h.1, h.2 ▸ Below.refl _ _⟩
theorem styN : SliceTy Try.prog 32 3 1 8 := sliceTy_mk (z := .int .i64 0) Try.underlying32 (by kernel_rfl) rfl
theorem styH : SliceTy Try.prog 73 80 10 72 := sliceTy_mk (z := .agg #[.bool false, .bool false, .int .i64 0, .int .i64 0, .int .i64 0, .int .i64 0, .int .i64 0, .int .i64 0, .int .i64 0, .int .i64 0]) Try.underlying73 (by kernel_rfl) rfl
theorem vs_one (xs : List Int) : ∀ u ∈ vs xs, u.oneCell' = true := by
  intro u hu
  unfold vs at hu
  obtain ⟨x, _, rfl⟩ := List.mem_map.1 hu
  rfl
theorem hcells_one (hs : List Hd) : ∀ u ∈ hcells hs, u.oneCell' = true := by
  intro u hu
  unfold hcells at hu
  obtain ⟨h, _, hu⟩ := List.mem_flatMap.1 hu
  simp [Hd.cells, Vc.cells, Pr.cells, iz] at hu
  rcases hu with h | h | h | h | h | h | h | h | h | h <;> (subst h; rfl)
theorem clone_ints (xs : List Int) (A : Option Addr) (n c : Nat) (w : World) (hr : Reads w w.heap.size 1 A n (vs xs)) (hn : n ≤ 1000) :
    Calls Try.prog 21 #[.slice A n c] w fun e w' => ∃ v, e = .returned v ∧ w'.ownsRow w.heap.size 3 1 v n (vs xs) ∧ Below w.heap.size w w' := by
  cases A with
  | none =>
    have h0 : n = 0 := by
      rcases Nat.eq_zero_or_pos n with h | h
      · exact h
      · obtain ⟨ad, e, _⟩ := hr.2 h
        cases e
    subst h0
    have hx : vs xs = [] := List.eq_nil_of_length_eq_zero (by rw [hr.1, Nat.zero_mul])
    rw [hx]
    have hnil : ∀ W, (binOp .eql 32 (.slice none 0 c) (.slice none 0 0)).run Try.prog W = .ok (.bool true) W := fun W => Lib.run_eql_slice_nil_nil W _ _ Try.underlying32
    clear hr hx
    go_enter Try.func21, Try.ntmps21
    go_wp2_with fail
    go_ret
    exact ⟨_, rfl, ownsRow_nil _ _ _ _, Below.refl _ _⟩
  | some ad =>
    have O0 := ownsRow_new (e := 3) (size := 1) (n := 0) (cs := #[]) w (base := w.heap.size) (Nat.le_refl _) rfl (Nat.zero_le _)
    have L0 := (Below.refl w.heap.size w).alloc (Nat.le_refl _) (.cells #[] 3)
    have R0 := hr.below L0
    have HO := Lib.hid (And.intro O0 (And.intro L0 R0))
    have hnil : ∀ W, (binOp .eql 32 (.slice (some ad) n c) (.slice none 0 0)).run Try.prog W = .ok (.bool false) W := fun W => Lib.run_eql_slice_some_nil W _ _ _ Try.underlying32
    clear O0 L0 R0 hr
    go_enter Try.func21, Try.ntmps21
    go_wp2_with (at_builtin; refine wpList_pushR rfl (.tmp 5) (.tmp 6) 32 rfl styN rfl HO.out.2.2 (vs_one xs) rfl HO.out.1 (by omega) (by simp) ?_; intro v9 w2 own9 gr9; have HM := Lib.hid (And.intro own9 gr9); clear own9 gr9)
    go_ret
    exact ⟨_, rfl, by simpa using HM.out.1, HO.out.2.1.trans (below_of_grown HM.out.2 HO.out.1 (by simp))⟩
theorem clone_heards (hs : List Hd) (A : Option Addr) (n c : Nat) (w : World) (hr : Reads w w.heap.size 10 A n (hcells hs)) (hn : n ≤ 1000) :
    Calls Try.prog 28 #[.slice A n c] w fun e w' => ∃ v, e = .returned v ∧ w'.ownsRow w.heap.size 80 10 v n (hcells hs) ∧ Below w.heap.size w w' := by
  cases A with
  | none =>
    have h0 : n = 0 := by
      rcases Nat.eq_zero_or_pos n with h | h
      · exact h
      · obtain ⟨ad, e, _⟩ := hr.2 h
        cases e
    subst h0
    have hx : hcells hs = [] := List.eq_nil_of_length_eq_zero (by rw [hr.1, Nat.zero_mul])
    rw [hx]
    have hnil : ∀ W, (binOp .eql 73 (.slice none 0 c) (.slice none 0 0)).run Try.prog W = .ok (.bool true) W := fun W => Lib.run_eql_slice_nil_nil W _ _ Try.underlying73
    clear hr hx
    go_enter Try.func28, Try.ntmps28
    go_wp2_with fail
    go_ret
    exact ⟨_, rfl, ownsRow_nil _ _ _ _, Below.refl _ _⟩
  | some ad =>
    have O0 := ownsRow_new (e := 80) (size := 10) (n := 0) (cs := #[]) w (base := w.heap.size) (Nat.le_refl _) rfl (Nat.zero_le _)
    have L0 := (Below.refl w.heap.size w).alloc (Nat.le_refl _) (.cells #[] 80)
    have R0 := hr.below L0
    have HO := Lib.hid (And.intro O0 (And.intro L0 R0))
    have hnil : ∀ W, (binOp .eql 73 (.slice (some ad) n c) (.slice none 0 0)).run Try.prog W = .ok (.bool false) W := fun W => Lib.run_eql_slice_some_nil W _ _ _ Try.underlying73
    clear O0 L0 R0 hr
    go_enter Try.func28, Try.ntmps28
    go_wp2_with (at_builtin; refine wpList_pushR rfl (.tmp 5) (.tmp 6) 73 rfl styH rfl HO.out.2.2 (hcells_one hs) rfl HO.out.1 (by omega) (by simp) ?_; intro v9 w2 own9 gr9; have HM := Lib.hid (And.intro own9 gr9); clear own9 gr9)
    go_ret
    exact ⟨_, rfl, by simpa using HM.out.1, HO.out.2.1.trans (below_of_grown HM.out.2 HO.out.1 (by simp))⟩
end Go.Proofs.Ytcdgofndfajekaa
