/-
  What the laws of layer 7 share: masks, arguments.
-/
import Derived.Test.YtfpbahihndgabaaOscE
namespace Go.Proofs.Ytfpbahihndgabaa
set_option linter.unusedSimpArgs false
set_option linter.unusedVariables false
open Go.RowKit Go.WideShapes Go.ChangeShapes

theorem andI (x : Int) (k : Nat) (hk : k ≤ 62) (m : Int) (hm : m = ((2 ^ k - 1 : Nat) : Int)) : bits .and .i64 x m = x % ((2 ^ k : Nat) : Int) := by
  subst hm
  have hp : 2 ^ k ≤ 2 ^ 62 := Nat.pow_le_pow_right (by omega) hk
  have hp0 : 0 < 2 ^ k := Nat.pow_pos (by omega)
  have h : bits .and .i64 x ((2 ^ k - 1 : Nat) : Int) = IntKind.i64.wrap ((BitVec.ofInt 64 x &&& BitVec.ofInt 64 ((2 ^ k - 1 : Nat) : Int)).toNat : Int) := rfl
  have e1 : (BitVec.ofInt 64 ((2 ^ k - 1 : Nat) : Int)).toNat = 2 ^ k - 1 := ofInt_u64 _ (by omega)
  have e2 : (BitVec.ofInt 64 x).toNat = (x % 18446744073709551616).toNat := by rw [BitVec.toNat_ofInt]; simp
  have e3 : ((x % 18446744073709551616).toNat % 2 ^ k : Nat) = (x % ((2 ^ k : Nat) : Int)).toNat := by
    have hd : ((2 ^ k : Nat) : Int) ∣ 18446744073709551616 := by
      have : (2 ^ k : Nat) ∣ 18446744073709551616 := by
        rw [show (18446744073709551616 : Nat) = 2 ^ 64 from by decide]
        exact Nat.pow_dvd_pow 2 (by omega)
      exact Int.natCast_dvd_natCast.2 this
    have h1 : x % 18446744073709551616 % ((2 ^ k : Nat) : Int) = x % ((2 ^ k : Nat) : Int) := Int.emod_emod_of_dvd x hd
    have h2 : ((x % 18446744073709551616).toNat : Int) = x % 18446744073709551616 := Int.toNat_of_nonneg (by omega)
    have h3 : x % 18446744073709551616 % ((2 ^ k : Nat) : Int) = (((x % 18446744073709551616).toNat % 2 ^ k : Nat) : Int) := by rw [Int.natCast_emod, h2]
    rw [← h1, h3, Int.toNat_natCast]
  rw [h, BitVec.toNat_and, e1, e2, Nat.and_two_pow_sub_one_eq_mod, e3]
  have hnn : 0 ≤ x % ((2 ^ k : Nat) : Int) := Int.emod_nonneg _ (by omega)
  have hlt : x % ((2 ^ k : Nat) : Int) < ((2 ^ k : Nat) : Int) := Int.emod_lt_of_pos _ (by omega)
  rw [Int.toNat_of_nonneg hnn]
  have : IntKind.i64.wrap (x % ((2 ^ k : Nat) : Int)) = x % ((2 ^ k : Nat) : Int) := IntWalk.i64_in _ (by constructor <;> omega)
  exact this

/-- What the three numbers come to. -/
theorem and_mask (a : Int) (k : Nat) (m : Int) (hm : m = ((2 ^ k - 1 : Nat) : Int)) (hk : k ≤ 62) : ∃ x, bits .and .i64 a m = x ∧ 0 ≤ x ∧ x ≤ m := by
  refine ⟨_, rfl, ?_⟩
  rw [andI a k hk m hm]
  have hp : 0 < 2 ^ k := Nat.pow_pos (by omega)
  have h1 := Int.emod_nonneg a (show ((2 ^ k : Nat) : Int) ≠ 0 by omega)
  have h2 := Int.emod_lt_of_pos a (show (0 : Int) < ((2 ^ k : Nat) : Int) by omega)
  omega
section
variable {H : Type} {enc : TypeId × Value → H} {P : Program} {w : World} {base : Nat} {spare : Nat → Bool} {held : Bool}
theorem trodAll_five {t0 t1 t2 t3 t4 : TypeId} {args : Array Value} {ds : List (DataW H)} {ps : List MemPlace} (h : DataW.TrodAll enc P w base spare held [t0, t1, t2, t3, t4] args.toList ds ps) :
    ∃ v0 v1 v2 v3 v4 d0 d1 d2 d3 d4 p0 p1 p2 p3 p4, args = #[v0, v1, v2, v3, v4] ∧ ds = [d0, d1, d2, d3, d4] ∧ ps = p0 ++ p1 ++ p2 ++ p3 ++ p4 ∧ DataW.Trod enc P w base spare held t0 v0 d0 p0 ∧ DataW.Trod enc P w base spare held t1 v1 d1 p1 ∧ DataW.Trod enc P w base spare held t2 v2 d2 p2 ∧ DataW.Trod enc P w base spare held t3 v3 d3 p3 ∧ DataW.Trod enc P w base spare held t4 v4 d4 p4 := by
  obtain ⟨v0, vs0, d0, ds0, p0, q0, hargs, rfl, rfl, hd0, hr0⟩ := trodAll_cons h
  obtain ⟨v1, vs1, d1, ds1, p1, q1, rfl, rfl, rfl, hd1, hr1⟩ := trodAll_cons hr0
  obtain ⟨v2, vs2, d2, ds2, p2, q2, rfl, rfl, rfl, hd2, hr2⟩ := trodAll_cons hr1
  obtain ⟨v3, vs3, d3, ds3, p3, q3, rfl, rfl, rfl, hd3, hr3⟩ := trodAll_cons hr2
  obtain ⟨v4, vs4, d4, ds4, p4, q4, rfl, rfl, rfl, hd4, hr4⟩ := trodAll_cons hr3
  obtain ⟨rfl, rfl, rfl⟩ := trodAll_nil hr4
  exact ⟨v0, v1, v2, v3, v4, d0, d1, d2, d3, d4, p0, p1, p2, p3, p4, by cases args; simp_all, rfl, by simp, hd0, hd1, hd2, hd3, hd4⟩
end
theorem own : ownKnob Try.prog.godebug = none := by kernel_rfl
theorem laidOut : laidOutB Try.prog = true := by kernel_rfl
theorem open_turns {H : Type} {enc : TypeId × Value → H} {W : World} {v : Value} {d : DataW H} {p : List MemPlace} {b0 : Nat} (hv : Value.okWide Try.prog W .any b0 23 v)
    (h : DataW.Trod enc Try.prog W 0 (fun _ => true) true 23 v d p) (hlt : ∀ x ∈ p, x.block < W.heap.size) :
    ∃ (A : Option Addr) (n c : Nat) (tA tR : Nat → Int), v = .slice A n c ∧ n ≤ c ∧ TIn W A n tA tR ∧ n ≤ maxLen := by
  obtain ⟨A, n, c, xs, rfl, h1, h2, _, hr, hall⟩ := open_slice_arg (n := 5) (ls := [3, 36]) Try.underlying23 (by kernel_rfl) (by kernel_rfl) rfl hv h hlt
  have key : ∀ i, ∃ x : Int × Int, i < n → xs[i * 2]? = some (.int .i64 x.1) ∧ xs[i * 2 + 1]? = some (.int .i64 x.2) := fun i => by
    by_cases hi : i < n
    · have ha := hall i hi
      have hl : i * 2 + 1 < xs.length := by have := hr.1; simp only [List.length_cons, List.length_nil] at this; omega
      simp only [List.length_cons, List.length_nil] at ha
      rw [show i * (0 + 1 + 1) = i * 2 by omega, List.drop_eq_getElem_cons (show i * 2 < xs.length by omega), List.drop_eq_getElem_cons hl] at ha
      obtain ⟨l0, l1, _⟩ := ha
      obtain ⟨n0, h0, _⟩ := l0.i64 Try.underlying3
      obtain ⟨n1, h1, _⟩ := l1.i64 Try.underlying36
      exact ⟨(n0, n1), fun _ => ⟨by rw [List.getElem?_eq_getElem (show i * 2 < xs.length by omega), h0], by rw [List.getElem?_eq_getElem hl, h1]⟩⟩
    · exact ⟨(0, 0), fun h => absurd h hi⟩
  refine ⟨A, n, c, fun i => (Classical.choose (key i)).1, fun i => (Classical.choose (key i)).2, rfl, h1, fun h0 => ?_, by omega⟩
  obtain ⟨ad, e, hb, hc⟩ := hr.2 h0
  refine ⟨ad, e, hb, fun k hk j v hv => ?_⟩
  have hs := Classical.choose_spec (key k) hk
  rw [add_of_add]
  match j, hv with
  | 0, hv => exact hc (k * 2) v (by rw [hs.1]; exact hv)
  | 1, hv => exact hc (k * 2 + 1) v (by rw [hs.2]; exact hv)
end Go.Proofs.Ytfpbahihndgabaa
