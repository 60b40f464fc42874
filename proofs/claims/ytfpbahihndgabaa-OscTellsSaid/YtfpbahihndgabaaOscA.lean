/-
  Layer 7: how far a clock runs; the search by halves.
-/
import Derived.Test.YtfpbahihndgabaaMulDivV
namespace Go.Proofs.Ytfpbahihndgabaa
set_option linter.unusedSimpArgs false
set_option linter.unusedVariables false
open Go.RowKit

def runV (ns r : Int) : Int := (mulDivV ns r 33554432 0).1
theorem run_any (ns r : Int) (hn : I64 ns) (hr : I64 r) (w : World) :
    Calls Try.prog 21 #[.int .i64 ns, .int .i64 r] w fun e w' => e = .returned (.int .i64 (runV ns r)) ∧ Below w.heap.size w w' := by
  have hm := fun W => mulDiv_any ns r 33554432 0 hn hr (by unfold I64; omega) (.inl rfl) W
  unfold runV
  generalize mulDivV ns r 33554432 0 = x at *
  obtain ⟨x1, x2⟩ := x
  have HM := Lib.hid hm
  clear hm
  go_enter Try.func21, Try.ntmps21
  go_wp2_with fail
  refine (HM.out _).mono ?_
  rintro e w1 ⟨rfl, hb1⟩
  go_wp2_with fail
  go_ret
  exact ⟨rfl, hb1⟩
set_option maxRecDepth 100000 in
set_option maxHeartbeats 2000000 in
theorem search_any (n : Nat) (hn : n ≤ 2199023255552) (f : FuncId) (c1 c2 : Value) (p : Nat → Bool) (w : World)
    (hf : ∀ i : Nat, i < n → ∀ W, Below w.heap.size w W → Calls Try.prog f #[.int .i64 i, c1, c2] W fun e w' => e = .returned (.bool (p i)) ∧ Below W.heap.size W w')
    (hp : ∀ i j, i ≤ j → j < n → p i = true → p j = true)
    (hcf : ∀ (i : Int) (W : World), (callFunc f #[.int .i64 i, c1, c2]).run Try.prog W = .ok (.enter f #[.int .i64 i, c1, c2]) W) :
    Calls Try.prog 22 #[.int .i64 n, .func (.func f) #[] #[c1, c2]] w fun e w' => ∃ k : Nat, e = .returned (.int .i64 k) ∧ k ≤ n ∧ (∀ i, i < k → p i = false) ∧ (∀ i, k ≤ i → i < n → p i = true) ∧ Below w.heap.size w w' := by
  have HF := Lib.hid hf
  have HP := Lib.hid hp
  clear hf hp
  go_enter Try.func22, Try.ntmps22
  go_wp2_with fail
  go_loopw [5, 6] (fun lo hi wr => ∃ a b : Nat, lo = .int .i64 (a : Nat) ∧ hi = .int .i64 (b : Nat) ∧ a ≤ b ∧ b ≤ n ∧ Hid ((∀ i, i < a → p i = false) ∧ (∀ i, b ≤ i → i < n → p i = true)) ∧ Below w.heap.size w wr) (fun lo hi _ => (intOf hi).toNat - (intOf lo).toNat)
  case atStart => exact ⟨0, n, rfl, rfl, Nat.zero_le _, Nat.le_refl _, Lib.hid ⟨fun i hi => absurd hi (by omega), fun i h1 h2 => absurd h1 (by omega)⟩, Below.refl _ _⟩
  case round =>
    obtain ⟨a, b, rfl, rfl, hab, hbn, hI, hb⟩ := hrel
    by_cases hlt : a < b
    · obtain ⟨s, hs⟩ : ∃ s, s = a + b := ⟨_, rfl⟩
      obtain ⟨h, hh⟩ : ∃ h, h = s / 2 := ⟨_, rfl⟩
      have hh1 : a ≤ h := by omega
      have hh2 : h < b := by omega
      have f1 : IntKind.i64.wrap ((a : Int) + (b : Int)) = (s : Int) := by rw [show (a : Int) + (b : Int) = (s : Int) by omega]; exact IntWalk.i64_in _ ⟨by omega, by omega⟩
      have f2 : IntKind.u64.wrap (s : Int) = (s : Int) := by rw [IntKind.wrap_u64]; omega
      have f3 : (s : Int) / 2 = (h : Int) := by rw [hh]; rfl
      have f4 : IntKind.i64.wrap (h : Int) = (h : Int) := IntWalk.i64_in _ ⟨by omega, by omega⟩
      have f5 : IntKind.i64.wrap ((h : Int) + 1) = ((h + 1 : Nat) : Int) := by rw [show (h : Int) + 1 = ((h + 1 : Nat) : Int) by omega]; exact IntWalk.i64_in _ ⟨by omega, by omega⟩
      have HC := Lib.hid (HF.out h (by omega) _ hb)
      clear hs hh
      go_wp2_with fail
      refine HC.out.mono ?_
      rintro e w1 ⟨rfl, b1⟩
      have hz := hb.size
      have hb1 := hb.trans (b1.mono hz)
      clear HC b1 hz hb
      cases hph : p h
      · have HI : Hid ((∀ i, i < h + 1 → p i = false) ∧ (∀ i, b ≤ i → i < n → p i = true)) := Lib.hid ⟨fun i hi => by
          cases hpi : p i
          · rfl
          · have h5 := HP.out i h (by omega) (by omega) hpi
            exact absurd (hph.symm.trans h5) (by decide), hI.out.2⟩
        clear hph hI
        go_wp2_with fail
        go_roundw
        case rel => exact ⟨h + 1, b, by first | rfl | (refine congrArg (Value.int IntKind.i64) ?_; rw [IntWalk.wrap64_in _ ⟨by omega, by omega⟩]; rfl), rfl, by omega, hbn, HI, hb1⟩
        case measure => simp [intOf]; omega
      · have HI : Hid ((∀ i, i < a → p i = false) ∧ (∀ i, h ≤ i → i < n → p i = true)) := Lib.hid ⟨hI.out.1, fun i h1 h2 => HP.out h i h1 h2 hph⟩
        clear hph hI
        go_wp2_with fail
        go_roundw
        case rel => exact ⟨a, h, rfl, rfl, hh1, by omega, HI, hb1⟩
        case measure => simp [intOf]; omega
    · obtain rfl : a = b := by omega
      have d : decide ((a : Int) < (a : Int)) = false := by simp
      clear hlt
      go_wp2_with fail
      go_ret
      exact ⟨a, rfl, hbn, hI.out.1, hI.out.2, hb⟩
end Go.Proofs.Ytfpbahihndgabaa
