/-
  RateSigns: for any two floats the law returns true: a number and its negative are as far from One; noughts are One; the greater number has no lesser rate. No condition.
-/
import Derived.Test.YtclckcjimfadlaaOf
import Derived.Test.YtclckcjimfadlaaRateBetween
namespace Go.Proofs.Ytclckcjimfadlaa
set_option linter.unusedSimpArgs false
set_option linter.unusedVariables false
open Go.RowKit Go.WideShapes Go.ChangeShapes
attribute [local go_sem] f64bits f64frombits

theorem copysign_zero (w : World) : Calls Try.prog 27 #[.float .f64 0, .float .f64 13830554455654793216] w fun e w' => e = .returned (.float .f64 9223372036854775808) ∧ w = w' := by
  have b1 : bits .andNot .u64 0 9223372036854775808 = 0 := by decide +kernel
  have b2 : bits .and .u64 13830554455654793216 9223372036854775808 = 9223372036854775808 := by decide +kernel
  have b3 : bits .or .u64 0 9223372036854775808 = 9223372036854775808 := by decide +kernel
  go_enter Try.func27, Try.ntmps27
  go_wp2_with fail
  go_ret
  exact ⟨rfl, rfl⟩
theorem ppm_one (w : World) : Calls Try.prog 20 #[.int .i64 2199023255552] w fun e w' => e = .returned (.float .f64 0) ∧ w = w' := by
  have hc := Lib.hid (rcheck_ok 2199023255552 (by unfold Rg; omega))
  have hq : ∀ w, (binOp .quo 23 (.float .f64 (floatOfInt .f64 0)) (.float .f64 4764808405757984768)).run Try.prog w = .ok (.float .f64 0) w := fun w => run_float_arith _ _ _ _ _ _ _ (by decide +kernel)
  go_enter Try.func20, Try.ntmps20
  go_wp2_with fail
  refine (hc.out _).mono ?_
  rintro e w1 ⟨rfl, rfl⟩
  go_wp2_with fail
  go_ret
  exact ⟨rfl, rfl⟩
def negF (b : Nat) : Nat := if 9223372036854775808 ≤ b then b - 9223372036854775808 else b + 9223372036854775808
theorem negF_lt {b : Nat} (hb : b < 18446744073709551616) : negF b < 18446744073709551616 := by unfold negF; split <;> omega
theorem negF_rung (b : Nat) (hb : b < 18446744073709551616) : rungW (negF b) = rungW b := by unfold negF rungW; split <;> omega
theorem negF_neg (b : Nat) (hb : b < 18446744073709551616) : negW (negF b) = !negW b := by
  unfold negF negW
  split
  · rename_i h; rw [decide_eq_true h, decide_eq_false (by omega)]; rfl
  · rename_i h; rw [decide_eq_false h, decide_eq_true (by omega)]; rfl
theorem negF_is (b : Nat) (hb : b < 18446744073709551616) : Op.negFloat .f64 b = negF b := by
  show b ^^^ 2 ^ 63 = negF b
  have h1 : (b ^^^ 2 ^ 63) % 2 ^ 63 = b % 2 ^ 63 := by rw [Nat.xor_mod_two_pow, Nat.mod_self, Nat.xor_zero]
  have h2 : (b ^^^ 2 ^ 63) / 2 ^ 63 = b / 2 ^ 63 ^^^ 1 := by rw [Nat.xor_div_two_pow, Nat.div_self (Nat.two_pow_pos 63)]
  generalize b ^^^ 2 ^ 63 = c at *
  simp only [show (2 : Nat) ^ 63 = 9223372036854775808 by decide] at h1 h2
  have h3 : b / 9223372036854775808 = 0 ∨ b / 9223372036854775808 = 1 := by omega
  unfold negF
  rcases h3 with h | h
  · rw [h] at h2
    have h2 : c / 9223372036854775808 = 1 := h2
    rw [if_neg (by omega)]; omega
  · rw [h] at h2
    have h2 : c / 9223372036854775808 = 0 := h2
    rw [if_pos (by omega)]; omega
/-! ### The law, in plain Lean -/
theorem nan_is {b : Nat} (hb : b < 18446744073709551616) : nanB b = decide (9218868437227405312 < rungW b) := by
  by_cases hf : FinW b
  · have : nanB b = false := by
      unfold nanB
      rw [show FloatKind.f64.format.order b b = Ieee.double.order b b from rfl, order_fin hb hb hf hf, Int.compare_eq_eq.2 rfl]
      rfl
    rw [this, decide_eq_false]
    unfold FinW at hf; omega
  · unfold nanB
    rw [show FloatKind.f64.format.order b b = Ieee.double.order b b from rfl]
    unfold Ieee.Format.order
    unfold FinW at hf
    rcases read_not (b := b) (by unfold FinW; exact hf) with ⟨s, h, h1⟩ | ⟨s, f, h, h1⟩
    · rw [h, h1]; cases s <;> rfl
    · rw [h, decide_eq_true (by omega)]; rfl
theorem ofV_neg (b : Nat) (hb : b < 18446744073709551616) : (ofV (negF b)).2 = (ofV b).2 ∧ ((ofV b).2 = 0 → (ofV (negF b)).1 = 4398046511104 - (ofV b).1) := by
  have hr := negF_rung b hb
  have e1 : nanB (negF b) = nanB b := by rw [nan_is hb, nan_is (negF_lt hb), hr]
  have e2 : infW (negF b) = infW b := by unfold infW; rw [hr]
  unfold ofV
  rw [e1, e2]
  cases hn : nanB b
  · simp only [Bool.false_eq_true, if_false]
    cases hi : infW b
    · simp only [Bool.false_eq_true, if_false]
      have hf := inf_fin hn hi
      have hf' : FinW (negF b) := by unfold FinW; rw [hr]; exact hf
      have e3 : bigW (negF b) = bigW b := by rw [big_is hb hf, big_is (negF_lt hb) hf', hr]
      rw [e3]
      cases bigW b
      · have e4 : qW (negF b) = qW b := by unfold qW; rw [hr]
        simp only [Bool.false_eq_true, if_false, negF_neg b hb, e4, true_and]
        intro _
        cases negW b
        · simp only [Bool.not_false, Bool.false_eq_true, if_true, if_false]; omega
        · simp only [Bool.not_true, Bool.false_eq_true, if_true, if_false]; omega
      · exact ⟨rfl, fun h => by simp at h⟩
    · exact ⟨rfl, fun h => by simp at h⟩
  · exact ⟨rfl, fun h => by simp at h⟩
theorem ofV_ok {b : Nat} (hb : b < 18446744073709551616) (h : (ofV b).2 = 0) : FinW b ∧ (ofV b).1 = if negW b = true then 2199023255552 - (qW b : Int) else 2199023255552 + (qW b : Int) := by
  unfold ofV at h ⊢
  cases hn : nanB b
  · rw [hn] at h
    simp only [Bool.false_eq_true, if_false] at h ⊢
    cases hi : infW b
    · rw [hi] at h
      simp only [Bool.false_eq_true, if_false] at h ⊢
      refine ⟨inf_fin hn hi, ?_⟩
      cases hg : bigW b
      · simp
      · rw [hg] at h; simp at h
    · rw [hi] at h; simp at h
  · rw [hn] at h; simp at h
theorem ofV_mono {x y : Nat} (hx : x < 18446744073709551616) (hy : y < 18446744073709551616) (h1 : (ofV x).2 = 0) (h2 : (ofV y).2 = 0) (h : sV x ≤ sV y) : (ofV x).1 ≤ (ofV y).1 := by
  obtain ⟨_, e1⟩ := ofV_ok hx h1
  obtain ⟨_, e2⟩ := ofV_ok hy h2
  rw [e1, e2]
  unfold sV at h
  have z : ∀ b, vR (rungW b) = 0 → qW b = 0 := fun b hb => by unfold qW; rw [hb]; exact rne_zero _
  have m1 : vR (rungW x) ≤ vR (rungW y) → qW x ≤ qW y := qW_mono
  have m2 : vR (rungW y) ≤ vR (rungW x) → qW y ≤ qW x := qW_mono
  have zx := z x
  have zy := z y
  generalize vR (rungW x) = X at *
  generalize vR (rungW y) = Y at *
  generalize negW x = nx at *
  generalize negW y = ny at *
  cases nx <;> cases ny <;> simp only [Bool.false_eq_true, if_true, if_false] at h ⊢
  · have := m1 (by omega); omega
  · have := zx (by omega); have := zy (by omega); omega
  · omega
  · have := m2 (by omega); omega
theorem order_ok {x y : Nat} (hx : x < 18446744073709551616) (hy : y < 18446744073709551616) (h1 : (ofV x).2 = 0) (h2 : (ofV y).2 = 0) :
    (FloatKind.f64.format.order x y = some .lt ∧ ¬ (ofV y).1 < (ofV x).1) ∨ (FloatKind.f64.format.order x y = some .gt ∧ ¬ (ofV x).1 < (ofV y).1) ∨ (FloatKind.f64.format.order x y = some .eq ∧ (ofV x).1 = (ofV y).1) := by
  have ho : FloatKind.f64.format.order x y = some (compare (sV x) (sV y)) := order_fin hx hy (ofV_ok hx h1).1 (ofV_ok hy h2).1
  rw [ho]
  rcases Int.lt_trichotomy (sV x) (sV y) with h | h | h
  · have := ofV_mono hx hy h1 h2 (by omega)
    exact .inl ⟨by rw [Int.compare_eq_lt.2 h], by omega⟩
  · have a := ofV_mono hx hy h1 h2 (by omega)
    have b := ofV_mono hy hx h2 h1 (by omega)
    exact .inr (.inr ⟨by rw [Int.compare_eq_eq.2 h], by omega⟩)
  · have := ofV_mono hy hx h2 h1 (by omega)
    exact .inr (.inl ⟨by rw [Int.compare_eq_gt.2 h], by omega⟩)
set_option maxRecDepth 100000 in
theorem ofV_zero : ofV 9223372036854775808 = (2199023255552, 0) := by decide +kernel
set_option maxRecDepth 100000 in
theorem qW_5000 : qW 4662219572839972864 = 10995116278 := by decide +kernel
theorem ofV_i64 {b : Nat} (hb : b < 18446744073709551616) (h : (ofV b).2 = 0) : 2188028139274 ≤ (ofV b).1 ∧ (ofV b).1 ≤ 2210018371830 := by
  obtain ⟨hf, e1⟩ := ofV_ok hb h
  have hg : bigW b = false := by
    cases hg : bigW b
    · rfl
    · exfalso
      unfold ofV at h
      rw [hg] at h
      revert h
      cases nanB b <;> cases infW b <;> simp
  rw [big_is hb hf] at hg
  have hle : vR (rungW b) ≤ v5000 := by have := of_decide_eq_false hg; omega
  have hq : qW b ≤ 10995116278 := by rw [← qW_5000]; exact qW_mono hle
  rw [e1]
  split <;> omega
set_option maxRecDepth 100000 in
theorem ofV_one : ofV 4607182418800017408 = (2199025454575, 0) := by decide +kernel
theorem made_all (w : World) : Calls Try.prog 15 #[] w fun e w' => e = .returned (.bool true) ∧ w = w' := by
  have C := Lib.hid (of_any 4607182418800017408 (by omega))
  have HV := Lib.hid ofV_one
  go_enter Try.func15, Try.ntmps15
  go_wp2_with fail
  refine (C.out _).mono ?_
  rintro e w1 ⟨rfl, rfl⟩
  rw [HV.out]
  go_wp2_with fail
  go_ret
  exact ⟨rfl, rfl⟩
set_option maxRecDepth 100000 in
set_option maxHeartbeats 4000000 in
theorem rateSigns_calls (x y : Nat) (hx : x < 18446744073709551616) (hy : y < 18446744073709551616) (w : World) : Calls Try.prog 6 #[.float .f64 x, .float .f64 y] w fun e w' => e = .returned (.bool true) ∧ w = w' := by
  have hng := negF_is x hx
  have hn := ofV_neg x hx
  have C1 := Lib.hid (of_any x hx)
  have C2 := Lib.hid (of_any (negF x) (negF_lt hx))
  have C3 := Lib.hid (of_any y hy)
  have C4 := Lib.hid (fun w => show Calls Try.prog 16 #[.float .f64 9223372036854775808] w fun e w' => e = .returned (.tuple #[.int .i64 2199023255552, .int .i64 0]) ∧ w = w' by have := of_any 9223372036854775808 (by omega) w; rw [ofV_zero] at this; exact this)
  have C5 := Lib.hid (sign_any 0 (by omega))
  have hord : (ofV x).2 = 0 → (ofV y).2 = 0 → _ := order_ok hx hy
  have hb1 := ofV_i64 hx
  obtain ⟨⟨a, e⟩, hV1⟩ : ∃ v, v = ofV x := ⟨_, rfl⟩
  obtain ⟨⟨b, f⟩, hV2⟩ : ∃ v, v = ofV (negF x) := ⟨_, rfl⟩
  obtain ⟨⟨c, g⟩, hV3⟩ : ∃ v, v = ofV y := ⟨_, rfl⟩
  rw [← hV1] at hn C1 hord hb1
  rw [← hV2] at hn C2
  rw [← hV3] at C3 hord
  clear hV1 hV2 hV3 hx hy
  simp only at hn hord hb1
  obtain ⟨rfl, hn2⟩ := hn
  have HNG := Lib.hid hng
  have HN := Lib.hid hn2
  have HO := Lib.hid hord
  have HB := Lib.hid hb1
  clear hng hn2 hord hb1
  have hun : Op.unary UnOp.neg (.float .f64 x) = pure (.float .f64 (negF x)) := by show pure (Value.float .f64 (Op.negFloat .f64 x)) = _; rw [HNG.out]
  clear HNG
  go_enter Try.func6, Try.ntmps6
  go_wp2_with fail
  refine (made_all w).mono ?_
  rintro e w1 ⟨rfl, rfl⟩
  go_wp2_with fail
  refine (C1.out _).mono ?_
  rintro e w1 ⟨rfl, rfl⟩
  go_wp2_with fail
  refine (C2.out _).mono ?_
  rintro e w1 ⟨rfl, rfl⟩
  clear hun C1 C2
  by_cases hf : f = 0
  · have hf0 := hf
    obtain rfl := HN.out hf0
    have hB := HB.out hf0
    have hO := HO.out hf0
    clear HN HB HO hf0
    subst hf
    obtain ⟨d, hd⟩ : ∃ d, d = a - 2199023255552 := ⟨_, rfl⟩
    have f1 : IntKind.i64.wrap (a - 2199023255552) = d := by rw [hd]; exact IntWalk.i64_in _ ⟨by omega, by omega⟩
    have f2 : IntKind.i64.wrap (2199023255552 - (4398046511104 - a)) = d := by rw [hd, show 2199023255552 - (4398046511104 - a) = a - 2199023255552 by omega]; exact IntWalk.i64_in _ ⟨by omega, by omega⟩
    clear hd hB
    go_wp2_with fail
    refine (C3.out _).mono ?_
    rintro e w1 ⟨rfl, rfl⟩
    clear f1 f2 C3
    by_cases hg : g = 0
    · have h := hO hg
      clear hO
      subst hg
      rcases h with ⟨ho, h⟩ | ⟨ho, h⟩ | ⟨ho, h⟩
      · have d1 : decide (c < a) = false := by simp; omega
        clear h
        go_wp2_with fail
        refine (copysign_zero _).mono ?_
        rintro e w1 ⟨rfl, rfl⟩
        go_wp2_with fail
        refine (C4.out _).mono ?_
        rintro e w1 ⟨rfl, rfl⟩
        go_wp2_with fail
        refine (ppm_one _).mono ?_
        rintro e w1 ⟨rfl, rfl⟩
        go_wp2_with fail
        refine (C5.out _).mono ?_
        rintro e w1 ⟨rfl, rfl⟩
        rw [show negW 0 = false from rfl]
        go_wp2_with fail
        go_ret
        exact ⟨rfl, rfl⟩
      · have d1 : decide (a < c) = false := by simp; omega
        clear h
        go_wp2_with fail
        refine (copysign_zero _).mono ?_
        rintro e w1 ⟨rfl, rfl⟩
        go_wp2_with fail
        refine (C4.out _).mono ?_
        rintro e w1 ⟨rfl, rfl⟩
        go_wp2_with fail
        refine (ppm_one _).mono ?_
        rintro e w1 ⟨rfl, rfl⟩
        go_wp2_with fail
        refine (C5.out _).mono ?_
        rintro e w1 ⟨rfl, rfl⟩
        rw [show negW 0 = false from rfl]
        go_wp2_with fail
        go_ret
        exact ⟨rfl, rfl⟩
      · subst h
        go_wp2_with fail
        refine (copysign_zero _).mono ?_
        rintro e w1 ⟨rfl, rfl⟩
        go_wp2_with fail
        refine (C4.out _).mono ?_
        rintro e w1 ⟨rfl, rfl⟩
        go_wp2_with fail
        refine (ppm_one _).mono ?_
        rintro e w1 ⟨rfl, rfl⟩
        go_wp2_with fail
        refine (C5.out _).mono ?_
        rintro e w1 ⟨rfl, rfl⟩
        rw [show negW 0 = false from rfl]
        go_wp2_with fail
        go_ret
        exact ⟨rfl, rfl⟩
    · have bg : (g == 0) = false := beq_eq_false_iff_ne.2 hg
      clear hO hg
      go_wp2_with fail
      refine (copysign_zero _).mono ?_
      rintro e w1 ⟨rfl, rfl⟩
      go_wp2_with fail
      refine (C4.out _).mono ?_
      rintro e w1 ⟨rfl, rfl⟩
      go_wp2_with fail
      refine (ppm_one _).mono ?_
      rintro e w1 ⟨rfl, rfl⟩
      go_wp2_with fail
      refine (C5.out _).mono ?_
      rintro e w1 ⟨rfl, rfl⟩
      rw [show negW 0 = false from rfl]
      go_wp2_with fail
      go_ret
      exact ⟨rfl, rfl⟩
  · have bf : (f == 0) = false := beq_eq_false_iff_ne.2 hf
    clear HN HB HO hf
    go_wp2_with fail
    refine (C3.out _).mono ?_
    rintro e w1 ⟨rfl, rfl⟩
    clear C3
    go_wp2_with fail
    refine (copysign_zero _).mono ?_
    rintro e w1 ⟨rfl, rfl⟩
    go_wp2_with fail
    refine (C4.out _).mono ?_
    rintro e w1 ⟨rfl, rfl⟩
    go_wp2_with fail
    refine (ppm_one _).mono ?_
    rintro e w1 ⟨rfl, rfl⟩
    go_wp2_with fail
    refine (C5.out _).mono ?_
    rintro e w1 ⟨rfl, rfl⟩
    rw [show negW 0 = false from rfl]
    go_wp2_with fail
    go_ret
    exact ⟨rfl, rfl⟩
theorem open_f64 {H : Type} {enc : TypeId × Value → H} {W : World} {v : Value} {d : DataW H} {p : List MemPlace} {b0 : Nat} (hv : Value.okWide Try.prog W .any b0 23 v)
    (h : DataW.Trod enc Try.prog W 0 (fun _ => true) true 23 v d p) : ∃ b, v = .float .f64 b ∧ b < 18446744073709551616 := by
  have ht : Try.prog.underlying 23 = some (.float .f64) := Try.underlying23
  have hv' : ∃ b, v = .float .f64 b := by
    simp only [Value.okWide, ht, Cell.okWide] at hv
    cases v <;> simp_all [Cell.ok]
  obtain ⟨b, rfl⟩ := hv'
  obtain ⟨fuel, hf⟩ := h
  obtain ⟨n, hn, hw⟩ := trod_float' (cs := [.float .f64 b]) ht (by simpa [Value.cells] using hf)
  simp only [List.cons.injEq, and_true, Value.float.injEq, true_and] at hn
  subst hn
  exact ⟨b, rfl, by simpa [Lit.wf] using hw⟩

/-! ### The row's step -/
set_option maxRecDepth 100000 in
theorem rateSigns_lifted (os : Os) (started : os.Started) (H : Type) (enc : TypeId × Value → H) :
    ReturnsInHanded {} Try.checked os 6 .any (Rows.rateSignsSpec.pre6 enc Try.prog Try.f6 Rows.rateSignsRow.domain false) (Rows.rateSignsSpec.post enc Try.prog Try.f6 false true false false) := by
  refine returnsInHanded_of_change (C := Try.checked) own started (by kernel_rfl) Try.func6
    (ChangeSpec.witness6 (enc := enc) (C := Try.checked) false ⟨#[], #[.float .f64 0, .float .f64 0], []⟩ 8 (by kernel_rfl) (by kernel_rfl) (by kernel_rfl) (by kernel_rfl)) ?_
  intro W base args ds gs before hval0 hW _ _
  have hval : ∀ (j : Nat) t v, Try.f6.params[j]? = some t → args[j]? = some v → Value.okWide Try.prog W .any base t v := hval0
  have hW' := hW
  obtain ⟨p, q, hA0, hV, rfl, hfz, hnd⟩ := hW
  have hA : DataW.TrodAll enc Try.prog W 0 (fun _ => true) true Try.f6.params.toList args.toList ds p := hA0
  rw [Try.params6] at hA hval
  obtain ⟨v0, v1, d0, d1, p0, p1, rfl, rfl, rfl, h0, h1⟩ := trodAll_two hA
  obtain ⟨x1, rfl, hx1⟩ := open_f64 (hval 0 23 v0 rfl rfl) h0
  obtain ⟨x2, rfl, hx2⟩ := open_f64 (hval 1 23 v1 rfl rfl) h1
  exact law_post laidOut (by kernel_rfl) rfl (by kernel_rfl) Try.underlying4 rfl hW' ((rateSigns_calls x1 x2 hx1 hx2 W).mono fun e w' h => ⟨h.1, by rw [← h.2]; exact Below.refl _ _⟩)

theorem rateSigns_holds : Rows.RateSignsSaid :=
  OpenClaim.holds_of_wide 6 Try.f6 rfl rfl rfl rfl rfl rfl rfl ⟨rfl, rfl, rfl, rfl, rfl⟩ rfl rfl rfl rfl rfl (by kernel_rfl) Try.func6 (by kernel_rfl)
    (of_decide_eq_true (by kernel_rfl)) (by unfold Func.isWrapper; first | (rw [if_pos (by decide +kernel)]; kernel_rfl) | (rw [if_neg (by decide +kernel)]; exact ⟨rfl, rfl⟩))
    (fun os started H enc _ => rateSigns_lifted os started H enc)

#print axioms rateSigns_holds
end Go.Proofs.Ytclckcjimfadlaa
