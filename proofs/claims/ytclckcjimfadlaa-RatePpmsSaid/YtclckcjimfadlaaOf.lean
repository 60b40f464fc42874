/-
  The rate of any float: rate.Of by its word.
-/
import Derived.Test.YtclckcjimfadlaaFlo
import Derived.Test.YtclckcjimfadlaaRate
import Derived.Test.YtclckcjimfadlaaDiv64
import Derived.Deep.DeepCutAuto
import Derived.Deep.CutBlock
namespace Go.Proofs.Ytclckcjimfadlaa
set_option linter.unusedSimpArgs false
set_option linter.unusedVariables false
open Go.RowKit
attribute [local go_sem] f64bits f64frombits

theorem abs_any (b : Nat) (hb : b < 18446744073709551616) (w : World) : Calls Try.prog 42 #[.float .f64 b] w fun e w' => e = .returned (.float .f64 (rungW b)) ∧ w = w' := by
  have h := u64_andNot_nat b 9223372036854775808 hb (by omega)
  rw [show (18446744073709551615 - 9223372036854775808 : Nat) = 2 ^ 63 - 1 by decide, Nat.and_two_pow_sub_one_eq_mod] at h
  have h' : bits .andNot .u64 (b : Int) 9223372036854775808 = ((rungW b : Nat) : Int) := h
  clear h
  go_enter Try.func42, Try.ntmps42
  go_wp2_with fail
  go_ret
  exact ⟨by simp, rfl⟩
theorem sign_any (b : Nat) (hb : b < 18446744073709551616) (w : World) : Calls Try.prog 28 #[.float .f64 b] w fun e w' => e = .returned (.bool (negW b)) ∧ w = w' := by
  have h : decide (wrap64 (b : Int) < 0) = negW b := by
    unfold negW
    congr 1
    simp only [eq_iff_iff]
    unfold wrap64
    omega
  go_enter Try.func28, Try.ntmps28
  go_wp2_with fail
  go_ret
  exact ⟨rfl, rfl⟩
def infW (b : Nat) : Bool := decide (rungW b = 9218868437227405312)
theorem isInf_any (b : Nat) (hb : b < 18446744073709551616) (hn : FinW b ∨ rungW b = 9218868437227405312) (w : World) : Calls Try.prog 36 #[.float .f64 b, .int .i64 0] w fun e w' => e = .returned (.bool (infW b)) ∧ w = w' := by
  have ho : (FloatKind.f64.format.order (rungW b) 9218868437227405311 == some Ordering.gt) = infW b := by
    show (Ieee.double.order (rungW b) 9218868437227405311 == some Ordering.gt) = infW b
    have hl : rungW b < 9223372036854775808 := Nat.mod_lt _ (by omega)
    rcases hn with hf | hf
    · have h1 : FinW (rungW b) := by unfold FinW rungW at *; omega
      rw [order_fin (by omega) (by omega) h1 (by decide)]
      have e1 : infW b = false := by unfold infW; unfold FinW at hf; exact decide_eq_false (by omega)
      have e2 : sV (rungW b) = (vR (rungW b) : Int) := by
        unfold sV negW
        rw [decide_eq_false (by omega)]
        have : rungW (rungW b) = rungW b := by unfold rungW at *; omega
        rw [this]
        rfl
      have e3 : sV 9218868437227405311 = (vR 9218868437227405311 : Int) := rfl
      have hm := vR_mono (r := rungW b) (r' := 9218868437227405311) (by unfold FinW at hf; omega)
      rw [e1, e2, e3]
      have : compare (vR (rungW b) : Int) (vR 9218868437227405311 : Int) ≠ .gt := by
        intro h
        have := Int.compare_eq_gt.1 h
        omega
      revert this
      cases compare (vR (rungW b) : Int) (vR 9218868437227405311 : Int) <;> simp
    · rw [hf]
      have e1 : infW b = true := by unfold infW; exact decide_eq_true hf
      rw [e1]
      decide +kernel
  have HA := Lib.hid (abs_any b hb)
  clear hn hb
  go_enter Try.func36, Try.ntmps36
  go_wp2_with fail
  refine (HA.out _).mono ?_
  rintro e w1 ⟨rfl, rfl⟩
  go_wp2_with fail
  go_ret
  exact ⟨rfl, rfl⟩
def bigW (b : Nat) : Bool := (Ieee.double.order b 4662219572839972864 == some Ordering.gt) || (Ieee.double.order b 13885591609694748672 == some Ordering.lt)
def ofV (b : Nat) : Int × Int :=
  if nanB b = true then (0, 12) else if infW b = true then (0, 13) else if bigW b = true then (0, 50)
  else (if negW b = true then 2199023255552 - (qW b : Int) else 2199023255552 + (qW b : Int), 0)
theorem order_self {b : Nat} (h : nanB b = false) : FinW b ∨ rungW b = 9218868437227405312 := by
  by_cases hf : FinW b
  · exact .inl hf
  · rcases read_not hf with ⟨_, _, h1⟩ | ⟨s, f, h1, _⟩
    · exact .inr h1
    · exfalso
      unfold nanB at h
      rw [show FloatKind.f64.format.order b b = Ieee.double.order b b from rfl] at h
      unfold Ieee.Format.order at h
      rw [h1] at h
      simp [Ieee.Datum.order] at h
theorem of_nan (b : Nat) (hn : nanB b = true) (w : World) : Calls Try.prog 16 #[.float .f64 b] w fun e w' => e = .returned (.tuple #[.int .i64 (ofV b).1, .int .i64 (ofV b).2]) ∧ w = w' := by
  have hV : ofV b = (0, 12) := by unfold ofV; rw [if_pos hn]
  rw [hV]
  have n1 := Lib.hid (isNaN_any b)
  go_enter Try.func16, Try.ntmps16
  go_wp2_with fail
  refine (n1.out _).mono ?_
  rintro e w1 ⟨rfl, rfl⟩
  rw [hn]
  go_wp2_with fail
  go_ret2
  exact ⟨rfl, rfl⟩
theorem of_inf (b : Nat) (hb : b < 18446744073709551616) (hn : nanB b = false) (hi : infW b = true) (w : World) : Calls Try.prog 16 #[.float .f64 b] w fun e w' => e = .returned (.tuple #[.int .i64 (ofV b).1, .int .i64 (ofV b).2]) ∧ w = w' := by
  have hV : ofV b = (0, 13) := by unfold ofV; rw [if_neg (by rw [hn]; simp), if_pos hi]
  rw [hV]
  have n1 := Lib.hid (isNaN_any b)
  have n2 := Lib.hid (isInf_any b hb (order_self hn))
  go_enter Try.func16, Try.ntmps16
  go_wp2_with fail
  refine (n1.out _).mono ?_
  rintro e w1 ⟨rfl, rfl⟩
  rw [hn]
  go_wp2_with fail
  refine (n2.out _).mono ?_
  rintro e w1 ⟨rfl, rfl⟩
  rw [hi]
  go_wp2_with fail
  go_ret2
  exact ⟨rfl, rfl⟩
theorem of_big (b : Nat) (hb : b < 18446744073709551616) (hn : nanB b = false) (hi : infW b = false) (hg : bigW b = true) (w : World) : Calls Try.prog 16 #[.float .f64 b] w fun e w' => e = .returned (.tuple #[.int .i64 (ofV b).1, .int .i64 (ofV b).2]) ∧ w = w' := by
  have hV : ofV b = (0, 50) := by unfold ofV; rw [if_neg (by rw [hn]; simp), if_neg (by rw [hi]; simp), if_pos hg]
  rw [hV]
  have n1 := Lib.hid (isNaN_any b)
  have n2 := Lib.hid (isInf_any b hb (order_self hn))
  have hg' : (FloatKind.f64.format.order b 4662219572839972864 == some Ordering.gt) = true ∨ ((FloatKind.f64.format.order b 4662219572839972864 == some Ordering.gt) = false ∧ (FloatKind.f64.format.order b 13885591609694748672 == some Ordering.lt) = true) := by
    have h : ((FloatKind.f64.format.order b 4662219572839972864 == some Ordering.gt) || (FloatKind.f64.format.order b 13885591609694748672 == some Ordering.lt)) = true := hg
    revert h
    cases (FloatKind.f64.format.order b 4662219572839972864 == some Ordering.gt) <;> simp
  have HN := Lib.hid (And.intro hn hi)
  clear hg hn hi hV
  rcases hg' with h | ⟨h, h'⟩
  all_goals
    go_enter Try.func16, Try.ntmps16
    go_wp2_with fail
    refine (n1.out _).mono ?_
    rintro e w1 ⟨rfl, rfl⟩
    rw [HN.out.1]
    go_wp2_with fail
    refine (n2.out _).mono ?_
    rintro e w1 ⟨rfl, rfl⟩
    rw [HN.out.2]
    go_wp2_with fail
    go_ret2
    exact ⟨rfl, rfl⟩
set_option maxRecDepth 100000 in
set_option maxHeartbeats 4000000 in
theorem of_mid (b : Nat) (hb : b < 18446744073709551616) (hn : nanB b = false) (hi : infW b = false) (hg : bigW b = false) (k : Nat) (hk : 1040 = k + e1W b) (hE0 : exW b ≠ 0) (hk40 : k ≤ 40) (w : World) :
    Calls Try.prog 16 #[.float .f64 b] w fun e w' => e = .returned (.tuple #[.int .i64 (ofV b).1, .int .i64 (ofV b).2]) ∧ w = w' := by
  have hf : frW b < 4503599627370496 := Nat.mod_lt _ (by omega)
  have hF : bits .and .u64 (b : Int) 4503599627370495 = ((frW b : Nat) : Int) := by
    have h := andU_nat b 4503599627370495 hb (by omega)
    rw [show (4503599627370495 : Nat) = 2 ^ 52 - 1 by decide, Nat.and_two_pow_sub_one_eq_mod] at h
    exact h
  have hE : bits .and .u64 ((b : Int) / 4503599627370496) 2047 = ((exW b : Nat) : Int) := by
    have h := andU_nat (b / 4503599627370496) 2047 (by omega) (by omega)
    rw [show (2047 : Nat) = 2 ^ 11 - 1 by decide, Nat.and_two_pow_sub_one_eq_mod] at h
    exact h
  have hO : bits .or .u64 ((frW b : Nat) : Int) 4503599627370496 = ((maW b : Nat) : Int) := by
    have h0 : frW b ||| 4503599627370496 = maW b := by
      have := Nat.two_pow_add_eq_or_of_lt (i := 52) (b := frW b) hf 1
      rw [Nat.or_comm]
      unfold maW
      rw [if_neg hE0]
      simp only [Nat.mul_one] at this
      rw [show (4503599627370496 : Nat) = 2 ^ 52 by decide, ← this, Nat.add_comm]
    have h := orU_nat (frW b) 4503599627370496 (by omega) (by omega) (by rw [h0]; have := maW_lt b; omega)
    rw [h0] at h
    exact h
  have hg' : (FloatKind.f64.format.order b 4662219572839972864 == some Ordering.gt) = false ∧ (FloatKind.f64.format.order b 13885591609694748672 == some Ordering.lt) = false := by
    have h : ((FloatKind.f64.format.order b 4662219572839972864 == some Ordering.gt) || (FloatKind.f64.format.order b 13885591609694748672 == some Ordering.lt)) = false := hg
    revert h
    cases (FloatKind.f64.format.order b 4662219572839972864 == some Ordering.gt) <;> simp
  obtain ⟨g1, g2⟩ := hg'
  have he : exW b < 2048 := Nat.mod_lt _ (by omega)
  have hke : 1040 = k + exW b := by unfold e1W at hk; rw [if_neg hE0] at hk; exact hk
  have v1 : wrap64 ((exW b : Nat) : Int) = ((exW b : Nat) : Int) := IntWalk.wrap64_in _ ⟨by omega, by omega⟩
  have v2 : wrap64 (1040 - ((exW b : Nat) : Int)) = (k : Int) := by
    rw [show (1040 - ((exW b : Nat) : Int)) = (k : Int) by omega]
    exact IntWalk.wrap64_in _ ⟨by omega, by omega⟩
  have b1 : (((exW b : Nat) : Int) == 0) = false := beq_eq_false_iff_ne.2 (by omega)
  have d1 : decide ((k : Int) ≤ 40) = true := by simp; omega
  have hV : ofV b = (if negW b = true then 2199023255552 - (qW b : Int) else 2199023255552 + (qW b : Int), 0) := by unfold ofV; rw [if_neg (by rw [hn]; simp), if_neg (by rw [hi]; simp), if_neg (by rw [hg]; simp)]
  obtain ⟨D, hD⟩ : ∃ D : Nat, D = 15625 * 2 ^ k := ⟨_, rfl⟩
  have hDp : 0 < D := by rw [hD]; exact Nat.mul_pos (by decide) (Nat.pow_pos (by decide))
  have hDl : D ≤ 15625 * 1099511627776 := by rw [hD]; exact Nat.mul_le_mul_left _ (Nat.pow_le_pow_right (by decide) hk40)
  have eD : IntKind.u64.wrap (15625 * (2 : Int) ^ k) = (D : Int) := by rw [pow_cast, show (15625 : Int) = ((15625 : Nat) : Int) from rfl, ← Int.natCast_mul, ← hD, wrapLt (by omega)]
  have eD' : IntKind.u64.wrap (15625 * (2 : Int) ^ min k 64) = (D : Int) := by rw [show min k 64 = k by omega]; exact eD
  have HV := Lib.hid hV
  have hq := qW_parts (b := b) k hk
  rw [if_pos hk40, ← hD] at hq
  have HQ := Lib.hid hq
  have HN := Lib.hid (And.intro hn hi)
  have n1 := Lib.hid (isNaN_any b)
  have n2 := Lib.hid (isInf_any b hb (order_self hn))
  have n3 := Lib.hid (sign_any b hb)
  clear hn hi hg hV hke he hk hE0 hf hb hq hD
  have hmb := maW_lt b
  generalize exW b = E at *
  generalize frW b = F at *
  generalize maW b = m at *
  go_enter Try.func16, Try.ntmps16
  go_wp2_with fail
  refine (n1.out _).mono ?_
  rintro e w1 ⟨rfl, rfl⟩
  rw [HN.out.1]
  go_wp2_with fail
  refine (n2.out _).mono ?_
  rintro e w1 ⟨rfl, rfl⟩
  rw [HN.out.2]
  go_upto_if 39 with fail
  simp only [v1, v2, d1]
  clear v1 v2 b1 hE hF hO g1 g2 d1 eD hk40
  have hK0 : (0 : Int) ≤ (k : Int) := by omega
  have eK : IntKind.u64.wrap (15625 * (2 : Int) ^ min (k : Int).toNat 64) = (D : Int) := eD'
  clear eD'
  generalize (k : Int) = K at *
  have hD0 : D ≠ 0 := by omega
  obtain ⟨q, hq⟩ : ∃ q, q = m / D := ⟨_, rfl⟩
  obtain ⟨r, hr⟩ : ∃ r, r = m % D := ⟨_, rfl⟩
  have hrD : r < D := by rw [hr]; exact Nat.mod_lt _ hDp
  have hqm : q ≤ m := by rw [hq]; exact Nat.div_le_self _ _
  obtain ⟨l, hl⟩ : ∃ l, l = D - r := ⟨_, rfl⟩
  have f1 : IntKind.u64.wrap ((m : Int) / (D : Int)) = (q : Int) := by rw [show (m : Int) / (D : Int) = ((m / D : Nat) : Int) from rfl, ← hq, wrapLt (by omega)]
  have f2 : (m : Int).tmod (D : Int) = (r : Int) := by rw [hr]; rfl
  have f3 : IntKind.u64.wrap ((D : Int) - (r : Int)) = (l : Int) := by rw [show (D : Int) - (r : Int) = ((D - r : Nat) : Int) by omega, ← hl, wrapLt (by omega)]
  have f4 : bits .and .u64 (q : Int) 1 = ((q % 2 : Nat) : Int) := by
    have h := andU_nat q 1 (by omega) (by omega)
    rw [show (1 : Nat) = 2 ^ 1 - 1 by decide, Nat.and_two_pow_sub_one_eq_mod] at h
    exact h
  have hqw : qW b = if l < r ∨ (r = l ∧ q % 2 = 1) then q + 1 else q := by rw [HQ.out, hl, hq, hr]; rfl
  have u1 : IntKind.u64.wrap ((q : Int) + 1) = ((q + 1 : Nat) : Int) := by rw [show (q : Int) + 1 = ((q + 1 : Nat) : Int) by omega, wrapLt (by omega)]
  by_cases c1 : l < r
  · have d2 : decide ((l : Int) < (r : Int)) = true := by simp; omega
    have hQ : qW b = q + 1 := hqw.trans (if_pos (.inl c1))
    rw [hQ] at HV
    clear hq hr hqw hQ HQ hrD hl hDp hDl
    have hQb : q + 1 ≤ 9007199254740993 := by omega
    clear hqm hmb
    obtain ⟨Q, hQQ⟩ : ∃ Q : Nat, Q = q + 1 := ⟨_, rfl⟩
    rw [← hQQ] at u1 HV hQb
    clear hQQ
    have HQ := Lib.hid hQb
    clear hQb
    go_upto_if 66 with fail
    clear eK hD0 f1 f2 f3 f4
    go_wp2_with fail
    refine (n3.out _).mono ?_
    rintro e w1 ⟨rfl, rfl⟩
    have y1 : wrap64 (Q : Int) = (Q : Int) := IntWalk.wrap64_in _ ⟨by have := HQ.out; omega, by have := HQ.out; omega⟩
    have y2 : IntKind.i64.wrap (2199023255552 - (Q : Int)) = 2199023255552 - (Q : Int) := IntWalk.i64_in _ ⟨by have := HQ.out; omega, by have := HQ.out; omega⟩
    have y3 : IntKind.i64.wrap (2199023255552 + (Q : Int)) = 2199023255552 + (Q : Int) := IntWalk.i64_in _ ⟨by have := HQ.out; omega, by have := HQ.out; omega⟩
    have hv := HV.out
    clear HV HQ u1
    cases hs : negW b with
    | true =>
      have HH := Lib.hid (hv.trans (by rw [hs]))
      clear hv
      go_wp2_with fail
      go_ret2
      exact ⟨by rw [HH.out]; rfl, rfl⟩
    | false =>
      have HH := Lib.hid (hv.trans (by rw [hs]))
      clear hv
      go_wp2_with fail
      go_ret2
      exact ⟨by rw [HH.out]; rfl, rfl⟩
  · have d2 : decide ((l : Int) < (r : Int)) = false := by simp; omega
    have d2' : decide (l < r) = false := by simp; omega
    by_cases c2 : r = l
    · have d3 : ((r : Int) == (l : Int)) = true := by rw [c2]; simp
      by_cases c3 : q % 2 = 1
      · have d4 : (((q % 2 : Nat) : Int) == 1) = true := by rw [c3]; rfl
        have hQ : qW b = q + 1 := hqw.trans (if_pos (.inr ⟨c2, c3⟩))
        clear c1 c2 c3
        rw [hQ] at HV
        clear hq hr hqw hQ HQ hrD hl hDp hDl
        have hQb : q + 1 ≤ 9007199254740993 := by omega
        clear hqm hmb
        obtain ⟨Q, hQQ⟩ : ∃ Q : Nat, Q = q + 1 := ⟨_, rfl⟩
        rw [← hQQ] at u1 HV hQb
        clear hQQ
        have HQ := Lib.hid hQb
        clear hQb
        go_upto_if 66 with fail
        clear eK hD0 f1 f2 f3 f4
        go_wp2_with fail
        refine (n3.out _).mono ?_
        rintro e w1 ⟨rfl, rfl⟩
        have y1 : wrap64 (Q : Int) = (Q : Int) := IntWalk.wrap64_in _ ⟨by have := HQ.out; omega, by have := HQ.out; omega⟩
        have y2 : IntKind.i64.wrap (2199023255552 - (Q : Int)) = 2199023255552 - (Q : Int) := IntWalk.i64_in _ ⟨by have := HQ.out; omega, by have := HQ.out; omega⟩
        have y3 : IntKind.i64.wrap (2199023255552 + (Q : Int)) = 2199023255552 + (Q : Int) := IntWalk.i64_in _ ⟨by have := HQ.out; omega, by have := HQ.out; omega⟩
        have hv := HV.out
        clear HV HQ u1
        cases hs : negW b with
        | true =>
          have HH := Lib.hid (hv.trans (by rw [hs]))
          clear hv
          go_wp2_with fail
          go_ret2
          exact ⟨by rw [HH.out]; rfl, rfl⟩
        | false =>
          have HH := Lib.hid (hv.trans (by rw [hs]))
          clear hv
          go_wp2_with fail
          go_ret2
          exact ⟨by rw [HH.out]; rfl, rfl⟩
      · have d4 : (((q % 2 : Nat) : Int) == 1) = false := beq_eq_false_iff_ne.2 (by omega)
        have hQ : qW b = q := hqw.trans (if_neg (by omega))
        clear c1 c2 c3
        rw [hQ] at HV
        clear hq hr hqw hQ HQ hrD hl hDp hDl
        have hQb : q ≤ 9007199254740993 := by omega
        clear hqm hmb
        obtain ⟨Q, hQQ⟩ : ∃ Q : Nat, Q = q := ⟨_, rfl⟩
        subst hQQ
        have HQ := Lib.hid hQb
        clear hQb
        go_upto_if 66 with fail
        clear eK hD0 f1 f2 f3 f4
        go_wp2_with fail
        refine (n3.out _).mono ?_
        rintro e w1 ⟨rfl, rfl⟩
        have y1 : wrap64 (Q : Int) = (Q : Int) := IntWalk.wrap64_in _ ⟨by have := HQ.out; omega, by have := HQ.out; omega⟩
        have y2 : IntKind.i64.wrap (2199023255552 - (Q : Int)) = 2199023255552 - (Q : Int) := IntWalk.i64_in _ ⟨by have := HQ.out; omega, by have := HQ.out; omega⟩
        have y3 : IntKind.i64.wrap (2199023255552 + (Q : Int)) = 2199023255552 + (Q : Int) := IntWalk.i64_in _ ⟨by have := HQ.out; omega, by have := HQ.out; omega⟩
        have hv := HV.out
        clear HV HQ u1
        cases hs : negW b with
        | true =>
          have HH := Lib.hid (hv.trans (by rw [hs]))
          clear hv
          go_wp2_with fail
          go_ret2
          exact ⟨by rw [HH.out]; rfl, rfl⟩
        | false =>
          have HH := Lib.hid (hv.trans (by rw [hs]))
          clear hv
          go_wp2_with fail
          go_ret2
          exact ⟨by rw [HH.out]; rfl, rfl⟩
    · have d3 : ((r : Int) == (l : Int)) = false := beq_eq_false_iff_ne.2 (by omega)
      have hQ : qW b = q := hqw.trans (if_neg (by omega))
      clear c1 c2
      rw [hQ] at HV
      clear hq hr hqw hQ HQ hrD hl hDp hDl
      have hQb : q ≤ 9007199254740993 := by omega
      clear hqm hmb
      obtain ⟨Q, hQQ⟩ : ∃ Q : Nat, Q = q := ⟨_, rfl⟩
      subst hQQ
      have HQ := Lib.hid hQb
      clear hQb
      go_upto_if 66 with fail
      clear eK hD0 f1 f2 f3 f4
      go_wp2_with fail
      refine (n3.out _).mono ?_
      rintro e w1 ⟨rfl, rfl⟩
      have y1 : wrap64 (Q : Int) = (Q : Int) := IntWalk.wrap64_in _ ⟨by have := HQ.out; omega, by have := HQ.out; omega⟩
      have y2 : IntKind.i64.wrap (2199023255552 - (Q : Int)) = 2199023255552 - (Q : Int) := IntWalk.i64_in _ ⟨by have := HQ.out; omega, by have := HQ.out; omega⟩
      have y3 : IntKind.i64.wrap (2199023255552 + (Q : Int)) = 2199023255552 + (Q : Int) := IntWalk.i64_in _ ⟨by have := HQ.out; omega, by have := HQ.out; omega⟩
      have hv := HV.out
      clear HV HQ u1
      cases hs : negW b with
      | true =>
        have HH := Lib.hid (hv.trans (by rw [hs]))
        clear hv
        go_wp2_with fail
        go_ret2
        exact ⟨by rw [HH.out]; rfl, rfl⟩
      | false =>
        have HH := Lib.hid (hv.trans (by rw [hs]))
        clear hv
        go_wp2_with fail
        go_ret2
        exact ⟨by rw [HH.out]; rfl, rfl⟩
set_option maxRecDepth 100000 in
set_option maxHeartbeats 4000000 in
theorem of_low (b : Nat) (hb : b < 18446744073709551616) (hn : nanB b = false) (hi : infW b = false) (hg : bigW b = false) (k : Nat) (hk : 1040 = k + e1W b) (hk40 : 40 < k) (w : World) :
    Calls Try.prog 16 #[.float .f64 b] w fun e w' => e = .returned (.tuple #[.int .i64 (ofV b).1, .int .i64 (ofV b).2]) ∧ w = w' := by
  have hf : frW b < 4503599627370496 := Nat.mod_lt _ (by omega)
  have hF : bits .and .u64 (b : Int) 4503599627370495 = ((frW b : Nat) : Int) := by
    have h := andU_nat b 4503599627370495 hb (by omega)
    rw [show (4503599627370495 : Nat) = 2 ^ 52 - 1 by decide, Nat.and_two_pow_sub_one_eq_mod] at h
    exact h
  have hE : bits .and .u64 ((b : Int) / 4503599627370496) 2047 = ((exW b : Nat) : Int) := by
    have h := andU_nat (b / 4503599627370496) 2047 (by omega) (by omega)
    rw [show (2047 : Nat) = 2 ^ 11 - 1 by decide, Nat.and_two_pow_sub_one_eq_mod] at h
    exact h
  have hg' : (FloatKind.f64.format.order b 4662219572839972864 == some Ordering.gt) = false ∧ (FloatKind.f64.format.order b 13885591609694748672 == some Ordering.lt) = false := by
    have h : ((FloatKind.f64.format.order b 4662219572839972864 == some Ordering.gt) || (FloatKind.f64.format.order b 13885591609694748672 == some Ordering.lt)) = false := hg
    revert h
    cases (FloatKind.f64.format.order b 4662219572839972864 == some Ordering.gt) <;> simp
  obtain ⟨g1, g2⟩ := hg'
  have he : exW b < 2048 := Nat.mod_lt _ (by omega)
  have hV : ofV b = (2199023255552, 0) := by
    have hq := qW_parts (b := b) k hk
    rw [if_neg (by omega)] at hq
    unfold ofV; rw [if_neg (by rw [hn]; simp), if_neg (by rw [hi]; simp), if_neg (by rw [hg]; simp), hq]
    split <;> rfl
  rw [hV]
  have v1 : wrap64 ((exW b : Nat) : Int) = ((exW b : Nat) : Int) := IntWalk.wrap64_in _ ⟨by omega, by omega⟩
  have HN := Lib.hid (And.intro hn hi)
  have n1 := Lib.hid (isNaN_any b)
  have n2 := Lib.hid (isInf_any b hb (order_self hn))
  have n3 := Lib.hid (sign_any b hb)
  have hX : exW b = 0 ∨ (exW b ≠ 0 ∧ 40 < 1040 - ((exW b : Nat) : Int)) := by
    unfold e1W at hk
    by_cases h0 : exW b = 0
    · exact .inl h0
    · rw [if_neg h0] at hk; exact .inr ⟨h0, by omega⟩
  clear hn hi hg hV hk hk40 hb
  generalize frW b = F at *
  generalize exW b = E at *
  rcases hX with rfl | ⟨h0, h40⟩
  · clear he hf
    go_enter Try.func16, Try.ntmps16
    go_wp2_with fail
    refine (n1.out _).mono ?_
    rintro e w1 ⟨rfl, rfl⟩
    rw [HN.out.1]
    go_wp2_with fail
    refine (n2.out _).mono ?_
    rintro e w1 ⟨rfl, rfl⟩
    rw [HN.out.2]
    go_wp2_with fail
    refine (n3.out _).mono ?_
    rintro e w1 ⟨rfl, rfl⟩
    cases hs : negW b with
    | true =>
      go_wp2_with fail
      go_ret2
      exact ⟨rfl, rfl⟩
    | false =>
      go_wp2_with fail
      go_ret2
      exact ⟨rfl, rfl⟩
  · have b1 : ((E : Int) == 0) = false := beq_eq_false_iff_ne.2 (by omega)
    have v2 : wrap64 (1040 - (E : Int)) = 1040 - (E : Int) := IntWalk.wrap64_in _ ⟨by omega, by omega⟩
    have d1 : decide (1040 - (E : Int) ≤ 40) = false := by simp; omega
    clear he hf h0
    go_enter Try.func16, Try.ntmps16
    go_wp2_with fail
    refine (n1.out _).mono ?_
    rintro e w1 ⟨rfl, rfl⟩
    rw [HN.out.1]
    go_wp2_with fail
    refine (n2.out _).mono ?_
    rintro e w1 ⟨rfl, rfl⟩
    rw [HN.out.2]
    go_upto_if 39 with fail
    try simp only [v1, v2, d1]
    clear v1 v2 d1 b1 hE hF g1 g2 h40
    go_wp2_with fail
    refine (n3.out _).mono ?_
    rintro e w1 ⟨rfl, rfl⟩
    cases hs : negW b with
    | true =>
      go_wp2_with fail
      go_ret2
      exact ⟨rfl, rfl⟩
    | false =>
      go_wp2_with fail
      go_ret2
      exact ⟨rfl, rfl⟩
def v5000 : Nat := vR 4662219572839972864
theorem inf_fin {b : Nat} (hn : nanB b = false) (hi : infW b = false) : FinW b := by
  rcases order_self hn with h | h
  · exact h
  · unfold infW at hi; rw [h] at hi; simp at hi
theorem big_is {b : Nat} (hb : b < 18446744073709551616) (hf : FinW b) : bigW b = decide (v5000 < vR (rungW b)) := by
  unfold bigW
  rw [order_fin hb (by omega) hf (by decide), order_fin hb (by omega) hf (by decide)]
  rw [show sV 4662219572839972864 = (v5000 : Int) from rfl, show sV 13885591609694748672 = -(v5000 : Int) from rfl]
  unfold sV
  generalize v5000 = V
  generalize vR (rungW b) = X
  have g : ∀ (x y : Int), (some (compare x y) == some Ordering.gt) = decide (y < x) := fun x y => by
    rcases Int.lt_trichotomy x y with h | h | h
    · rw [Int.compare_eq_lt.2 h, decide_eq_false (by omega)]; rfl
    · rw [Int.compare_eq_eq.2 h, decide_eq_false (by omega)]; rfl
    · rw [Int.compare_eq_gt.2 h, decide_eq_true h]; rfl
  have l : ∀ (x y : Int), (some (compare x y) == some Ordering.lt) = decide (x < y) := fun x y => by
    rcases Int.lt_trichotomy x y with h | h | h
    · rw [Int.compare_eq_lt.2 h, decide_eq_true h]; rfl
    · rw [Int.compare_eq_eq.2 h, decide_eq_false (by omega)]; rfl
    · rw [Int.compare_eq_gt.2 h, decide_eq_false (by omega)]; rfl
  rw [g, l, ← Bool.decide_or]
  congr 1
  simp only [eq_iff_iff]
  cases negW b
  · simp only [Bool.false_eq_true, if_false]; omega
  · simp only [if_true]; omega
theorem v5000_lt : v5000 < vR 4665729213955833856 := by decide +kernel
theorem small_ex {b : Nat} (hb : b < 18446744073709551616) (hf : FinW b) (hg : bigW b = false) : e1W b ≤ 1035 := by
  rw [big_is hb hf] at hg
  have hg := of_decide_eq_false hg
  have he : exW b ≤ 1035 := by
    rcases Nat.lt_or_ge (exW b) 1036 with h | h
    · omega
    · exfalso
      have hr : rungW b = exW b * 4503599627370496 + frW b := by unfold rungW exW frW; omega
      have := vR_mono (r := 4665729213955833856) (r' := rungW b) (by omega)
      have := v5000_lt
      omega
  unfold e1W; split <;> omega
theorem of_any (b : Nat) (hb : b < 18446744073709551616) (w : World) : Calls Try.prog 16 #[.float .f64 b] w fun e w' => e = .returned (.tuple #[.int .i64 (ofV b).1, .int .i64 (ofV b).2]) ∧ w = w' := by
  cases hn : nanB b with
  | true => exact of_nan b hn w
  | false =>
    cases hi : infW b with
    | true => exact of_inf b hb hn hi w
    | false =>
      cases hg : bigW b with
      | true => exact of_big b hb hn hi hg w
      | false =>
        have he := small_ex hb (inf_fin hn hi) hg
        rcases Nat.lt_or_ge 40 (1040 - e1W b) with h | h
        · exact of_low b hb hn hi hg (1040 - e1W b) (by omega) h w
        · exact of_mid b hb hn hi hg (1040 - e1W b) (by omega) (by unfold e1W at h; split at h <;> omega) h w
end Go.Proofs.Ytclckcjimfadlaa
