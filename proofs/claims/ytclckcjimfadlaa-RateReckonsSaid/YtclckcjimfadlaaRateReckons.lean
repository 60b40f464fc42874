/-
  RateReckons: whatever the two numbers, the law returns true: one rate by another one, a rate turned round, and the rate of how far two clocks have come are the document's, by its own digits. No condition.
-/
import Derived.Test.YtclckcjimfadlaaMade
import Derived.Test.YtclckcjimfadlaaDigH
namespace Go.Proofs.Ytclckcjimfadlaa
set_option linter.unusedSimpArgs false
set_option linter.unusedVariables false
open Go.RowKit Go.WideShapes Go.ChangeShapes
attribute [local go_sem ↓] Go.wp_at_zero Go.wp_at_succ

theorem rcheck_bad (r : Int) (h : ¬ Rg r) (w : World) : Calls Try.prog 18 #[.int .i64 r] w fun e w' => e = .returned (.int .i64 50) ∧ w = w' := by
  unfold Rg at h
  by_cases h1 : r < 2181843386368
  · go_enter Try.func18, Try.ntmps18
    go_wp2
    go_ret
    exact ⟨rfl, rfl⟩
  · have d1 : decide (r < 2181843386368) = false := by simp; omega
    have d2 : 2216203124736 < r := by omega
    clear h h1
    go_enter Try.func18, Try.ntmps18
    go_wp2
    go_ret
    exact ⟨rfl, rfl⟩
def betweenV (a b : Int) : Int × Int :=
  if a < 0 ∨ b < 0 then (0, 1) else if (mulDivV a 2199023255552 b 2).2 ≠ 0 then (0, (mulDivV a 2199023255552 b 2).2) else if 2181843386368 ≤ (mulDivV a 2199023255552 b 2).1 ∧ (mulDivV a 2199023255552 b 2).1 ≤ 2216203124736 then ((mulDivV a 2199023255552 b 2).1, 0) else (0, 50)
theorem between_any (a b : Int) (ha : I64 a) (hb : I64 b) (w : World) :
    Calls Try.prog 29 #[.int .i64 a, .int .i64 b] w fun e w' => e = .returned (.tuple #[.int .i64 (betweenV a b).1, .int .i64 (betweenV a b).2]) ∧ Below w.heap.size w w' := by
  by_cases hn : a < 0 ∨ b < 0
  · rw [betweenV, if_pos hn]
    rcases hn with h | h
    · go_enter Try.func29, Try.ntmps29
      go_wp2_with fail
      go_ret2
      exact ⟨rfl, Below.refl _ _⟩
    · by_cases h2 : a < 0
      · go_enter Try.func29, Try.ntmps29
        go_wp2_with fail
        go_ret2
        exact ⟨rfl, Below.refl _ _⟩
      · have d1 : decide (a < 0) = false := by simp; omega
        clear h2
        go_enter Try.func29, Try.ntmps29
        go_wp2_with fail
        go_ret2
        exact ⟨rfl, Below.refl _ _⟩
  · have hm := fun W => mulDiv_any a 2199023255552 b 2 ha (by unfold I64; omega) hb (.inr (.inr rfl)) W
    rw [betweenV, if_neg hn]
    have d1 : decide (a < 0) = false := by simp; omega
    have d2 : decide (b < 0) = false := by simp; omega
    generalize mulDivV a 2199023255552 b 2 = x at *
    obtain ⟨x1, x2⟩ := x
    have HM := Lib.hid hm
    clear hm hn ha hb
    by_cases hx : x2 ≠ 0
    · rw [if_pos hx]
      have d3 : (x2 != 0) = true := bne_iff_ne.2 hx
      have d4 : (x2 == 0) = false := beq_eq_false_iff_ne.2 hx
      clear hx
      go_enter Try.func29, Try.ntmps29
      go_wp2_with fail
      refine (HM.out _).mono ?_
      rintro e w1 ⟨rfl, hb1⟩
      go_wp2_with fail
      go_ret2
      exact ⟨rfl, hb1⟩
    · rw [if_neg hx]
      obtain rfl : x2 = 0 := Decidable.not_not.1 hx
      clear hx
      by_cases hr : Rg x1
      · rw [if_pos (show 2181843386368 ≤ x1 ∧ x1 ≤ 2216203124736 from hr)]
        have HC := Lib.hid (fun W => rcheck_ok x1 hr W)
        clear hr
        go_enter Try.func29, Try.ntmps29
        go_wp2_with fail
        refine (HM.out _).mono ?_
        rintro e w1 ⟨rfl, hb1⟩
        go_wp2_with fail
        refine (HC.out _).mono ?_
        rintro e w2 ⟨rfl, rfl⟩
        go_wp2_with fail
        go_ret2
        exact ⟨rfl, hb1⟩
      · rw [if_neg (show ¬ (2181843386368 ≤ x1 ∧ x1 ≤ 2216203124736) from hr)]
        have HC := Lib.hid (fun W => rcheck_bad x1 hr W)
        clear hr
        go_enter Try.func29, Try.ntmps29
        go_wp2_with fail
        refine (HM.out _).mono ?_
        rintro e w1 ⟨rfl, hb1⟩
        go_wp2_with fail
        refine (HC.out _).mono ?_
        rintro e w2 ⟨rfl, rfl⟩
        go_wp2_with fail
        go_ret2
        exact ⟨rfl, hb1⟩
theorem rnd_md (x y : Nat) (m : Bool) (rd : Int) (hy : 0 < y) : rndV x y m rd = x / y + (mdMore m rd (x % y) y (x / y)).toNat := by
  have hr := Nat.mod_lt x hy
  unfold rndV mdMore rndMore
  generalize x % y = r at *
  generalize x / y = q at *
  by_cases h0 : r = 0
  · rw [if_pos h0, if_pos h0]; rfl
  · rw [if_neg h0, if_neg h0]
    by_cases h1 : rd = 0
    · rw [if_pos h1, if_pos h1]
    · rw [if_neg h1, if_neg h1]
      by_cases h2 : rd = 1
      · rw [if_pos h2, if_pos h2]
      · rw [if_neg h2, if_neg h2]
        have e1 : decide (y < r + r) = decide (y - r < r) := decide_eq_decide.2 (by omega)
        have e2 : decide (r + r = y) = decide (r = y - r) := decide_eq_decide.2 (by omega)
        rw [e1, e2]
theorem mdr_is (a b c rd : Int) (hr : 0 ≤ rd ∧ rd ≤ 2) : mdrV a b c rd = mulDivV a b c rd := by
  unfold mdrV mulDivV
  rw [if_neg (by omega)]
  by_cases hc : c = 0
  · rw [if_pos hc, if_pos hc]
  · rw [if_neg hc, if_neg hc]
    have hC : 0 < c.natAbs := by omega
    have e : rndV (a.natAbs * b.natAbs) c.natAbs (mdMinus a b c) rd = mdQ a b c rd := rnd_md _ _ _ _ hC
    show (if (intV (rndV (a.natAbs * b.natAbs) c.natAbs (mdMinus a b c) rd) (mdMinus a b c && decide (0 < rndV (a.natAbs * b.natAbs) c.natAbs (mdMinus a b c) rd))).2 = true then _ else _) = _
    rw [e]
    generalize mdQ a b c rd = q
    generalize mdMinus a b c = m
    unfold intV mdEnd
    cases m
    · simp only [Bool.false_and, Bool.toNat_false, Bool.false_eq_true, if_false]
      by_cases h : 9223372036854775807 + 0 < q
      · simp [h]
      · simp [h]
    · rcases Nat.eq_zero_or_pos q with rfl | hq
      · rfl
      · rw [decide_eq_true hq]
        simp only [Bool.true_and, Bool.toNat_true, if_true]
        by_cases h : 9223372036854775807 + 1 < q
        · simp [h]
        · simp [h]
theorem refRight_any (r : Int) (w : World) : Calls Try.prog 19 #[.int .i64 r] w fun e w' => e = .returned (.bool (decide (2181843386368 ≤ r ∧ r ≤ 2216203124736))) ∧ w = w' := by
  by_cases h1 : 2181843386368 ≤ r
  · by_cases h2 : r ≤ 2216203124736
    · have e : decide (2181843386368 ≤ r ∧ r ≤ 2216203124736) = true := decide_eq_true ⟨h1, h2⟩
      rw [e]
      clear e
      go_enter Try.func19, Try.ntmps19
      go_wp2_with fail
      go_ret
      exact ⟨rfl, rfl⟩
    · have e : decide (2181843386368 ≤ r ∧ r ≤ 2216203124736) = false := decide_eq_false (fun h => h2 h.2)
      have d2 : decide (r ≤ 2216203124736) = false := decide_eq_false h2
      rw [e]
      clear e h2
      go_enter Try.func19, Try.ntmps19
      go_wp2_with fail
      go_ret
      exact ⟨rfl, rfl⟩
  · have e : decide (2181843386368 ≤ r ∧ r ≤ 2216203124736) = false := decide_eq_false (fun h => h1 h.1)
    have d2 : decide (2181843386368 ≤ r) = false := decide_eq_false h1
    rw [e]
    clear e h1
    go_enter Try.func19, Try.ntmps19
    go_wp2_with fail
    go_ret
    exact ⟨rfl, rfl⟩
theorem refBetween_any (a b : Int) (ha : I64 a) (hb : I64 b) (w : World) :
    Calls Try.prog 33 #[.int .i64 a, .int .i64 b] w fun e w' => e = .returned (.tuple #[.int .i64 (betweenV a b).1, .int .i64 (betweenV a b).2]) ∧ Below w.heap.size w w' := by
  by_cases hn : a < 0 ∨ b < 0
  · rw [betweenV, if_pos hn]
    rcases hn with h | h
    · go_enter Try.func33, Try.ntmps33
      go_wp2_with fail
      go_ret2
      exact ⟨rfl, Below.refl _ _⟩
    · by_cases h2 : a < 0
      · go_enter Try.func33, Try.ntmps33
        go_wp2_with fail
        go_ret2
        exact ⟨rfl, Below.refl _ _⟩
      · have d1 : decide (a < 0) = false := by simp; omega
        clear h2
        go_enter Try.func33, Try.ntmps33
        go_wp2_with fail
        go_ret2
        exact ⟨rfl, Below.refl _ _⟩
  · have hm := fun W => refMulDiv_any a 2199023255552 b 2 W ha (by unfold I64; omega) hb
    rw [mdr_is _ _ _ _ (by omega)] at hm
    rw [betweenV, if_neg hn]
    have d1 : decide (a < 0) = false := by simp; omega
    have d2 : decide (b < 0) = false := by simp; omega
    generalize mulDivV a 2199023255552 b 2 = x at *
    obtain ⟨x1, x2⟩ := x
    have HM := Lib.hid hm
    clear hm hn ha hb
    by_cases hx : x2 ≠ 0
    · rw [if_pos hx]
      have d3 : (x2 != 0) = true := bne_iff_ne.2 hx
      have d4 : (x2 == 0) = false := beq_eq_false_iff_ne.2 hx
      clear hx
      go_enter Try.func33, Try.ntmps33
      go_wp2_with fail
      refine (HM.out _).mono ?_
      rintro e w1 ⟨rfl, hb1⟩
      go_wp2_with fail
      go_ret2
      exact ⟨rfl, hb1⟩
    · rw [if_neg hx]
      obtain rfl : x2 = 0 := Decidable.not_not.1 hx
      clear hx
      have HC := Lib.hid (fun W => refRight_any x1 W)
      obtain ⟨o, ho⟩ : ∃ o, o = decide (2181843386368 ≤ x1 ∧ x1 ≤ 2216203124736) := ⟨_, rfl⟩
      rw [← ho] at HC
      have hif : ∀ (u v : Int × Int), (if 2181843386368 ≤ x1 ∧ x1 ≤ 2216203124736 then u else v) = bif o then u else v := fun u v => by rw [ho]; by_cases h : 2181843386368 ≤ x1 ∧ x1 ≤ 2216203124736 <;> simp [h]
      rw [hif]
      clear hif ho
      cases o
      all_goals
        go_enter Try.func33, Try.ntmps33
        go_wp2_with fail
        refine (HM.out _).mono ?_
        rintro e w1 ⟨rfl, hb1⟩
        go_wp2_with fail
        refine (HC.out _).mono ?_
        rintro e w2 ⟨rfl, rfl⟩
        go_wp2_with fail
        go_ret2
        exact ⟨rfl, hb1⟩
set_option maxRecDepth 100000 in
set_option maxHeartbeats 4000000 in
theorem rateReckons_calls (r s : Int) (hr : I64 r) (hs : I64 s) (w : World) :
    Calls Try.prog 9 #[.int .i64 r, .int .i64 s] w fun e w' => e = .returned (.bool true) ∧ Below w.heap.size w w' := by
  have c1 := fun W => rmul_any r s hr hs W
  have c2 := fun W => refMulDiv_any r s 2199023255552 2 W hr hs (by unfold I64; omega)
  have c3 := fun W => inv_any r hr W
  have c4 := fun W => refMulDiv_any 2199023255552 2199023255552 r 2 W (by unfold I64; omega) (by unfold I64; omega) hr
  have c5 := fun W => between_any r s hr hs W
  have c6 := fun W => refBetween_any r s hr hs W
  rw [mdr_is _ _ _ _ (by omega)] at c2 c4
  generalize mulDivV r s 2199023255552 2 = x at *
  generalize mulDivV 2199023255552 2199023255552 r 2 = y at *
  generalize betweenV r s = z at *
  obtain ⟨x1, x2⟩ := x
  obtain ⟨y1, y2⟩ := y
  obtain ⟨z1, z2⟩ := z
  have HC := Lib.hid (And.intro c1 (And.intro c2 (And.intro c3 (And.intro c4 (And.intro c5 c6)))))
  clear c1 c2 c3 c4 c5 c6 hr hs
  go_enter Try.func9, Try.ntmps9
  go_wp2_with fail
  refine (made_any _).mono ?_
  rintro e w1 ⟨rfl, rfl⟩
  go_wp2_with fail
  refine (HC.out.1 _).mono ?_
  rintro e w1 ⟨rfl, b1⟩
  go_wp2_with fail
  refine (HC.out.2.1 _).mono ?_
  rintro e w2 ⟨rfl, b2⟩
  have hz := b1.size
  have bw2 := b1.trans (b2.mono hz)
  clear b1 b2 hz
  go_wp2_with fail
  refine (HC.out.2.2.1 _).mono ?_
  rintro e w3 ⟨rfl, b3⟩
  have hz := bw2.size
  have bw3 := bw2.trans (b3.mono hz)
  clear bw2 b3 hz
  go_wp2_with fail
  refine (HC.out.2.2.2.1 _).mono ?_
  rintro e w4 ⟨rfl, b4⟩
  have hz := bw3.size
  have bw4 := bw3.trans (b4.mono hz)
  clear bw3 b4 hz
  go_wp2_with fail
  refine (HC.out.2.2.2.2.1 _).mono ?_
  rintro e w5 ⟨rfl, b5⟩
  have hz := bw4.size
  have bw5 := bw4.trans (b5.mono hz)
  clear bw4 b5 hz
  go_wp2_with fail
  refine (HC.out.2.2.2.2.2 _).mono ?_
  rintro e w6 ⟨rfl, b6⟩
  have hz := bw5.size
  have bw6 := bw5.trans (b6.mono hz)
  clear bw5 b6 hz
  go_wp2_with fail
  go_ret
  exact ⟨rfl, bw6⟩
theorem open_int {W : World} {v : Value} {b0 : Nat} (hv : Value.okWide Try.prog W .any b0 3 v) : ∃ n, v = .int .i64 n ∧ I64 n := by
  obtain ⟨n, rfl⟩ := okWide_int Try.underlying3 hv
  refine ⟨n, rfl, ?_⟩
  have ht : Try.prog.underlying 3 = some (.int .i64) := Try.underlying3
  simp [Value.okWide, ht, Cell.okWide, Cell.ok, IntKind.has] at hv
  unfold I64
  have h1 : IntKind.i64.min = -9223372036854775808 := by decide
  have h2 : IntKind.i64.max = 9223372036854775807 := by decide
  omega

/-! ### The row's step -/
set_option maxRecDepth 100000 in
theorem rateReckons_lifted (os : Os) (started : os.Started) (H : Type) (enc : TypeId × Value → H) :
    ReturnsInHanded {} Try.checked os 9 .any (Rows.rateReckonsSpec.pre6 enc Try.prog Try.f9 Rows.rateReckonsRow.domain false) (Rows.rateReckonsSpec.post enc Try.prog Try.f9 false true false false) := by
  refine returnsInHanded_of_change (C := Try.checked) own started (by kernel_rfl) Try.func9
    (ChangeSpec.witness6 (enc := enc) (C := Try.checked) false ⟨#[], #[.int .i64 0, .int .i64 0], []⟩ 8 (by kernel_rfl) (by kernel_rfl) (by kernel_rfl) (by kernel_rfl)) ?_
  intro W base args ds gs before hval0 hW _ _
  have hval : ∀ (j : Nat) t v, Try.f9.params[j]? = some t → args[j]? = some v → Value.okWide Try.prog W .any base t v := hval0
  have hW' := hW
  obtain ⟨p, q, hA0, hV, rfl, hfz, hnd⟩ := hW
  have hA : DataW.TrodAll enc Try.prog W 0 (fun _ => true) true Try.f9.params.toList args.toList ds p := hA0
  rw [Try.params9] at hA hval
  obtain ⟨v0, v1, d0, d1, p0, p1, rfl, rfl, rfl, h0, h1⟩ := trodAll_two hA
  obtain ⟨a, rfl, ha⟩ := open_int (hval 0 3 v0 rfl rfl)
  obtain ⟨b, rfl, hb⟩ := open_int (hval 1 3 v1 rfl rfl)
  exact law_post laidOut (by kernel_rfl) rfl (by kernel_rfl) Try.underlying4 rfl hW' (rateReckons_calls a b ha hb W)

theorem rateReckons_holds : Rows.RateReckonsSaid :=
  OpenClaim.holds_of_wide 9 Try.f9 rfl rfl rfl rfl rfl rfl rfl ⟨rfl, rfl, rfl, rfl, rfl⟩ rfl rfl rfl rfl rfl (by kernel_rfl) Try.func9 (by kernel_rfl)
    (of_decide_eq_true (by kernel_rfl)) (by unfold Func.isWrapper; first | (rw [if_pos (by decide +kernel)]; kernel_rfl) | (rw [if_neg (by decide +kernel)]; exact ⟨rfl, rfl⟩))
    (fun os started H enc _ => rateReckons_lifted os started H enc)

#print axioms rateReckons_holds
end Go.Proofs.Ytclckcjimfadlaa
