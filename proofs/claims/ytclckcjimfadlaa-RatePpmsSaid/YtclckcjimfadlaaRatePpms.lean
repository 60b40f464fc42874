/-
  RatePpms: whatever the number, the law returns true: how many millionths faster a rate is, is exact by the document's digits, and made again it is the rate; of one that isn't right there is no number. No condition.
-/
import Derived.Test.YtclckcjimfadlaaDigQ
import Derived.Test.YtclckcjimfadlaaPpm
namespace Go.Proofs.Ytclckcjimfadlaa
set_option linter.unusedSimpArgs false
set_option linter.unusedVariables false
open Go.RowKit Go.WideShapes Go.ChangeShapes
attribute [local go_sem] f64bits f64frombits

theorem rcheck_bad (r : Int) (h : ¬ Rg r) (w : World) : Calls Try.prog 18 #[.int .i64 r] w fun e w' => e = .returned (.int .i64 50) ∧ w = w' := by
  unfold Rg at h
  by_cases h1 : r < 2181843386368
  · go_enter Try.func18, Try.ntmps18
    go_wp2
    go_ret
    exact ⟨rfl, rfl⟩
  · have d1 : decide (r < 2181843386368) = false := by simp; omega
    have d2 : 2216203124736 < r := by omega
    clear h h1
    go_enter Try.func18, Try.ntmps18
    go_wp2
    go_ret
    exact ⟨rfl, rfl⟩
theorem refRight_ok (r : Int) (h : Rg r) (w : World) : Calls Try.prog 19 #[.int .i64 r] w fun e w' => e = .returned (.bool true) ∧ w = w' := by
  obtain ⟨h1, h2⟩ := h
  go_enter Try.func19, Try.ntmps19
  go_wp2_with fail
  go_ret
  exact ⟨rfl, rfl⟩
theorem refRight_bad (r : Int) (h : ¬ Rg r) (w : World) : Calls Try.prog 19 #[.int .i64 r] w fun e w' => e = .returned (.bool false) ∧ w = w' := by
  unfold Rg at h
  by_cases h1 : 2181843386368 ≤ r
  · have d2 : decide (r ≤ 2216203124736) = false := by simp; omega
    clear h
    go_enter Try.func19, Try.ntmps19
    go_wp2_with fail
    go_ret
    exact ⟨rfl, rfl⟩
  · have d2 : decide (2181843386368 ≤ r) = false := by simp; omega
    clear h h1
    go_enter Try.func19, Try.ntmps19
    go_wp2_with fail
    go_ret
    exact ⟨rfl, rfl⟩
theorem ppm_bad (r : Int) (h : ¬ Rg r) (w : World) : Calls Try.prog 20 #[.int .i64 r] w fun e w' => e = .returned (.float .f64 9221120237041090561) ∧ w = w' := by
  have HC := Lib.hid (fun W => rcheck_bad r h W)
  have HN := Lib.hid (fun W => nan_any W)
  clear h
  go_enter Try.func20, Try.ntmps20
  go_wp2_with fail
  refine (HC.out _).mono ?_
  rintro e w1 ⟨rfl, rfl⟩
  go_wp2_with fail
  refine (HN.out _).mono ?_
  rintro e w1 ⟨rfl, rfl⟩
  go_wp2_with fail
  go_ret
  exact ⟨rfl, rfl⟩
theorem ppm_ok (r d : Int) (h : Rg r) (hd : d = r - 2199023255552) (w : World) : Calls Try.prog 20 #[.int .i64 r] w fun e w' => e = .returned (.float .f64 (pW d)) ∧ w = w' := by
  have HC := Lib.hid (fun W => rcheck_ok r h W)
  obtain ⟨h1, h2⟩ := h
  obtain ⟨z, hz⟩ : ∃ z, z = d * 15625 := ⟨_, rfl⟩
  have hp := ppm_div (d := d) (by omega)
  rw [← hz] at hp
  have f1 : IntKind.i64.wrap (r - 2199023255552) = d := by rw [← hd]; exact IntWalk.i64_in _ ⟨by omega, by omega⟩
  have f2 : IntKind.i64.wrap (d * 15625) = z := by rw [← hz]; exact IntWalk.i64_in _ ⟨by omega, by omega⟩
  obtain ⟨q, hq⟩ : ∃ q, q = pW d := ⟨_, rfl⟩
  rw [← hq] at hp ⊢
  have hqq : ∀ w, (binOp .quo 23 (.float .f64 (floatOfInt .f64 z)) (.float .f64 4764808405757984768)).run Try.prog w = .ok (.float .f64 q) w := fun w => run_float_arith _ _ _ _ _ _ _ hp
  clear hp hq hz hd h1 h2
  go_enter Try.func20, Try.ntmps20
  go_wp2_with fail
  refine (HC.out _).mono ?_
  rintro e w1 ⟨rfl, rfl⟩
  go_wp2_with fail
  go_ret
  exact ⟨rfl, rfl⟩
/-- What the law asks of the number's word. -/
structure PpmF (d : Int) (b M k : Nat) : Prop where
  lt : b < 18446744073709551616
  m : mant b = M
  ml : M < 9007199254740992
  ke : kexp b = (k : Int)
  kl : k ≤ 1074
  ok : okB b = true
  ng : negB b = decide (d < 0)
  nought : d = 0 → M = 0
  eq : d ≠ 0 → M * two 41 = d.natAbs * 1000000 * two k
  back : bigW b = false → ofV b = (2199023255552 + d, 0)
theorem ppm_zero : PpmF 0 0 0 1074 := by
  refine ⟨by decide, by rfl, by decide, by rfl, by decide, by rfl, by rfl, fun _ => rfl, fun h => absurd rfl h, fun _ => ?_⟩
  decide +kernel
theorem ppm_facts {d : Int} (h0 : d ≠ 0) (hd : d.natAbs ≤ 17179869184) : ∃ M k, PpmF d (pW d) M k := by
  obtain ⟨N, l, M, hN, hl1, hl2, e1, e2, hM, hM1, hM2, hw⟩ := pW_big h0 hd
  refine ⟨M, 87 - l, ?_⟩
  have hlt : pW d < 18446744073709551616 := by rw [hw]; split <;> omega
  have hex : exW (pW d) = l + 988 := by rw [hw]; unfold exW; split <;> omega
  have hfr : frW (pW d) = M - 4503599627370496 := by rw [hw]; unfold frW; split <;> omega
  have hrung : rungW (pW d) = (l + 987) * 4503599627370496 + M := by rw [hw]; unfold rungW; split <;> omega
  have hneg : negW (pW d) = decide (d < 0) := by
    rw [hw]; unfold negW
    by_cases h : d < 0
    · rw [if_pos h, decide_eq_true h, decide_eq_true]; omega
    · rw [if_neg h, decide_eq_false h, decide_eq_false]; omega
  have hma : maW (pW d) = M := by unfold maW; rw [hex, if_neg (by omega), hfr]; omega
  have he1 : e1W (pW d) = l + 988 := by unfold e1W; rw [hex, if_neg (by omega)]
  have hq : qW (pW d) = d.natAbs := by
    rw [qW_parts (52 - l) (by rw [he1]; omega), if_pos (by omega), hma, hM, hN]
    have : d.natAbs * 15625 * 2 ^ (52 - l) = d.natAbs * (15625 * 2 ^ (52 - l)) := Nat.mul_assoc _ _ _
    rw [this]
    have hr := rne_scale d.natAbs 1 (15625 * 2 ^ (52 - l)) (Nat.mul_pos (by decide) (Nat.pow_pos (by decide)))
    rw [Nat.one_mul] at hr
    rw [hr]
    unfold rne
    rw [Nat.mod_one, Nat.div_one, if_neg (by omega)]
  generalize pW d = b at *
  have hmant : mant b = M := by
    unfold mant
    rw [show expo b = l + 988 from hex, if_neg (by omega), if_neg (by omega), show frac b = M - 4503599627370496 from hfr]
    omega
  have hkexp : kexp b = ((87 - l : Nat) : Int) := by
    unfold kexp
    rw [show expo b = l + 988 from hex, if_neg (by omega), if_neg (by omega)]
    omega
  refine ⟨hlt, hmant, hM2, hkexp, by omega, ?_, ?_, fun h => absurd h h0, fun _ => ?_, fun hbig => ?_⟩
  · unfold okB
    rw [show expo b = l + 988 from hex, show (((l + 988 : Nat) : Int) == 2047) = false from beq_eq_false_iff_ne.2 (by omega)]
    rfl
  · rw [← hneg]; unfold negB negW; exact decide_eq_decide.2 (by omega)
  · rw [hM, hN]
    show _ * two (52 - l) * two 41 = _
    rw [Nat.mul_assoc, two_add, show 52 - l + 41 = 6 + (87 - l) by omega, ← two_add, show two 6 = 64 from rfl]
    generalize two (87 - l) = t
    grind
  · have hn : nanB b = false := by rw [nan_is hlt, decide_eq_false]; omega
    have hi : infW b = false := by unfold infW; rw [decide_eq_false]; omega
    unfold ofV
    rw [hn, hi, hbig, hneg, hq]
    simp only [Bool.false_eq_true, if_false]
    by_cases h : d < 0
    · rw [decide_eq_true h, if_pos rfl]; congr 1; omega
    · rw [decide_eq_false h, if_neg (by decide)]; congr 1; omega
theorem ppm_all {d : Int} (hd : d.natAbs ≤ 17179869184) : ∃ M k, PpmF d (pW d) M k := by
  by_cases h0 : d = 0
  · subst h0; exact ⟨0, 1074, ppm_zero⟩
  · exact ppm_facts h0 hd
set_option maxRecDepth 100000 in
set_option maxHeartbeats 4000000 in
theorem ratePpms_calls (r : Int) (hr : I64 r) (w : World) :
    Calls Try.prog 5 #[.int .i64 r] w fun e w' => e = .returned (.bool true) ∧ Below w.heap.size w w' := by
  by_cases hR : Rg r
  · obtain ⟨d, hd⟩ : ∃ d, d = r - 2199023255552 := ⟨_, rfl⟩
    have hR' := hR
    obtain ⟨r1, r2⟩ := hR'
    have hdl : d.natAbs ≤ 17179869184 := by omega
    obtain ⟨M, k, F⟩ := ppm_all hdl
    have HC1 := Lib.hid (fun W => rcheck_ok r hR W)
    have HC2 := Lib.hid (fun W => refRight_ok r hR W)
    have HC3 := fun W => ppm_ok r d hR hd W
    have HA := Lib.hid (fun W => Abs_any d W (by omega) (by omega))
    have f1 : IntKind.i64.wrap (r - 2199023255552) = d := by rw [← hd]; exact IntWalk.i64_in _ ⟨by omega, by omega⟩
    have hrd : r = 2199023255552 + d := by omega
    generalize pW d = b at *
    have hpt : ∀ W, Calls Try.prog 13 #[.int .u64 b] W fun e w' => ∃ v, e = .returned (.tuple #[.bool (decide (d < 0)), v, .int .i64 k, .bool true, .bool (infB b)]) ∧ Dg w' v M ∧ Below W.heap.size W w' := by
      intro W
      refine (parts_dg b W F.lt).mono ?_
      rintro e w' ⟨v, rfl, d1, o, hb'⟩
      exact ⟨v, by rw [F.ng, F.ke, F.ok], by rw [← F.m]; exact d1, hb'⟩
    have HPT := Lib.hid hpt
    have HOF := Lib.hid (fun W => of_any b F.lt W)
    have HF := Lib.hid F
    have HC3' := Lib.hid HC3
    have HRD := Lib.hid hrd
    have hkl := F.kl
    clear F hpt HC3 hrd hd hR r1 r2
    have nM : nd M ≤ 4 := nd_four (by have := HF.out.ml; omega)
    have nA : nd d.natAbs ≤ 4 := nd_four (by omega)
    have n6 : nd 1000000 ≤ 4 := nd_four (by decide)
    have nR : nd (d.natAbs * 1000000) ≤ 8 := nd_mul _ _ 4 4 nA n6
    have HN := Lib.hid (And.intro nM (And.intro nA (And.intro n6 nR)))
    obtain ⟨R, hRR⟩ : ∃ R, R = d.natAbs * 1000000 := ⟨_, rfl⟩
    have HRR := Lib.hid hRR
    clear nM nA n6 nR hRR
    go_enter Try.func5, Try.ntmps5
    go_wp2_with fail
    refine (made_all _).mono ?_
    rintro e w1 ⟨rfl, rfl⟩
    go_wp2_with fail
    refine (HC1.out _).mono ?_
    rintro e w1 ⟨rfl, rfl⟩
    go_wp2_with fail
    refine (HC2.out _).mono ?_
    rintro e w1 ⟨rfl, rfl⟩
    go_wp2_with fail
    refine (HC3'.out _).mono ?_
    rintro e w1 ⟨rfl, rfl⟩
    go_wp2_with fail
    refine (HC2.out _).mono ?_
    rintro e w1 ⟨rfl, rfl⟩
    go_wp2_with fail
    refine (HPT.out _).mono ?_
    rintro e w1 ⟨v1, rfl, d1, b1⟩
    have D1 := Lib.hid d1
    clear d1
    go_wp2_with fail
    refine (HA.out _).mono ?_
    rintro e w2 ⟨v2, rfl, d2, o2, b2⟩
    have bz := b1.size
    have bw2 := b1.trans (b2.mono bz)
    have D12 := Lib.hid (D1.out.below b2)
    have D22 := Lib.hid d2
    clear b1 o2 b2 d2 bz D1
    go_wp2_with fail
    refine (of_dg 1000000 _ (by decide)).mono ?_
    rintro e w3 ⟨v3, rfl, d3, o3, b3⟩
    have bz := bw2.size
    have bw3 := bw2.trans (b3.mono bz)
    have D13 := Lib.hid (D12.out.below b3)
    have HM := Lib.hid (Mul_any d.natAbs 1000000 _ v3 w3 (D22.out.below b3) d3 (by have := HN.out; omega))
    clear bw2 D12 D22 d3 o3 b3 bz
    go_wp2_with fail
    refine HM.out.mono ?_
    rintro e w4 ⟨v4, rfl, d4, o4, b4⟩
    rw [← HRR.out] at d4
    have bz := bw3.size
    have bw4 := bw3.trans (b4.mono bz)
    have D14 := Lib.hid (D13.out.below b4)
    have D44 := Lib.hid d4
    clear HM bw3 D13 o4 b4 bz d4
    go_wp2_with fail
    go_loopw [11, 13] (fun v i wr => ∃ j : Nat, i = .int .i64 (j : Nat) ∧ j ≤ 41 ∧ Hid (Dg wr v (M * two j)) ∧ Hid (Dg wr v1 M) ∧ Hid (Dg wr v4 R) ∧ Below w.heap.size w wr) (fun _ i _ => 41 - (intOf i).toNat)
    case atStart => exact ⟨0, rfl, by omega, Lib.hid (by rw [show two 0 = 1 from rfl, Nat.mul_one]; exact D14.out), D14, D44, bw4⟩
    case round =>
      clear D14 D44 bw4
      obtain ⟨j, rfl, hj, hL, hv1, hv4, hb⟩ := hrel
      by_cases hlt : j < 41
      · have h1 := nd_mul M (two j) 4 5 (HN.out.1) (Nat.le_trans (nd_two j) (by omega))
        have h2 := nd_mul M (two (j + 1)) 4 5 (HN.out.1) (Nat.le_trans (nd_two (j + 1)) (by omega))
        rw [two_succ, Nat.mul_add] at h2
        have HAA := Lib.hid (Add_any (M * two j) (M * two j) _ _ wr hL.out hL.out (by omega) (by omega) (by omega))
        have f5 : IntKind.i64.wrap ((j : Int) + 1) = ((j + 1 : Nat) : Int) := by rw [show (j : Int) + 1 = ((j + 1 : Nat) : Int) by omega]; exact IntWalk.i64_in _ ⟨by omega, by omega⟩
        clear h1 h2
        go_wp2_with fail
        refine HAA.out.mono ?_
        rintro e w5 ⟨v5, rfl, d5, o5, b5⟩
        have bz := hb.size
        have hb5 := hb.trans (b5.mono bz)
        have e1 := hv1.out.below b5
        have e4 := hv4.out.below b5
        have E1 := Lib.hid e1
        have E4 := Lib.hid e4
        rw [← Nat.mul_add, ← two_succ] at d5
        have E5 := Lib.hid d5
        clear e1 e4 d5 o5 b5 bz HAA hb hv1 hv4 hL
        go_wp2_with fail
        go_roundw
        case rel => exact ⟨j + 1, by first | rfl | (refine congrArg (Value.int IntKind.i64) ?_; rw [IntWalk.wrap64_in _ ⟨by omega, by omega⟩]; rfl), by omega, E5, E1, E4, hb5⟩
        case measure => simp [intOf]; omega
      · have dj : decide ((j : Int) < 41) = false := by simp; omega
        obtain rfl : j = 41 := by omega
        clear hlt hj dj
        rw [show ((41 : Nat) : Int) = 41 from rfl]
        go_wp2_with fail
        obtain ⟨wo, rfl⟩ : ∃ wo : World, wo = wr := ⟨_, rfl⟩
        go_loopw [12, 14] (fun v i wr => ∃ j : Nat, i = .int .i64 (j : Nat) ∧ j ≤ k ∧ Hid (Dg wr u11 (M * two 41)) ∧ Hid (Dg wr v1 M) ∧ Hid (Dg wr v (R * two j)) ∧ Below w.heap.size w wr) (fun _ i _ => k - (intOf i).toNat)
        case atStart => exact ⟨0, rfl, by omega, hL, hv1, Lib.hid (by rw [show two 0 = 1 from rfl, Nat.mul_one]; exact hv4.out), hb⟩
        case round =>
          clear hL hv1 hv4 hb
          obtain ⟨j, rfl, hj, hL, hv1, hv4, hb⟩ := hrel
          by_cases hlt : j < k
          · have h1 := nd_mul R (two j) 8 68 (by rw [HRR.out]; exact HN.out.2.2.2) (Nat.le_trans (nd_two j) (by omega))
            have h2 := nd_mul R (two (j + 1)) 8 69 (by rw [HRR.out]; exact HN.out.2.2.2) (Nat.le_trans (nd_two (j + 1)) (by omega))
            rw [two_succ, Nat.mul_add] at h2
            have HAA := Lib.hid (Add_any (R * two j) (R * two j) _ _ wr hv4.out hv4.out (by omega) (by omega) (by omega))
            have f5 : IntKind.i64.wrap ((j : Int) + 1) = ((j + 1 : Nat) : Int) := by rw [show (j : Int) + 1 = ((j + 1 : Nat) : Int) by omega]; exact IntWalk.i64_in _ ⟨by omega, by omega⟩
            have t2 : (j : Int) < 1100 := by omega
            clear h1 h2
            go_wp2_with fail
            refine HAA.out.mono ?_
            rintro e w5 ⟨v5, rfl, d5, o5, b5⟩
            have bz := hb.size
            have hb5 := hb.trans (b5.mono bz)
            have e1 := hv1.out.below b5
            have e4 := hL.out.below b5
            have E1 := Lib.hid e1
            have E4 := Lib.hid e4
            rw [← Nat.mul_add, ← two_succ] at d5
            have E5 := Lib.hid d5
            clear e1 e4 d5 o5 b5 bz HAA hb hv1 hv4 hL
            go_wp2_with fail
            go_roundw
            case rel => exact ⟨j + 1, by first | rfl | (refine congrArg (Value.int IntKind.i64) ?_; rw [IntWalk.wrap64_in _ ⟨by omega, by omega⟩]; rfl), by omega, E4, E1, E5, hb5⟩
            case measure => simp [intOf]; omega
          · have dj : decide ((j : Int) < (k : Int)) = false := by simp; omega
            obtain rfl : j = k := by omega
            clear hlt hj
            by_cases h0 : d = 0
            · have hM0 := HF.out.nought h0
              obtain ⟨A, n, c, rfl, hn1, hn2, hn3, hn4⟩ := hv1.out
              have hn0 : ((n : Int) == 0) = true := by
                have : nd M = 0 := by rw [hM0]; rfl
                simp; omega
              have d0 : (d == 0) = true := beq_iff_eq.2 h0
              clear h0 hM0 hn2 hn3 hn1 hn4
              go_wp2_with fail
              go_ret
              exact ⟨rfl, hb⟩
            · have hq := HF.out.eq h0
              rw [← HRR.out] at hq
              have d0 : (d == 0) = false := beq_eq_false_iff_ne.2 h0
              have hc := Cmp_any (M * two 41) (R * two j) _ _ wr hL.out hv4.out
              rw [hq, cmp_eq] at hc
              have HC := Lib.hid hc
              clear hc hq h0
              have dk : decide ((j : Int) < 0) = false := by simp
              go_wp2_with fail
              refine HC.out.mono ?_
              rintro e w5 ⟨rfl, b5⟩
              have bz := hb.size
              have hb5 := hb.trans (b5.mono bz)
              clear b5 bz hb hL hv1 hv4 HC
              cases hg : bigW b
              · have hg' : (FloatKind.f64.format.order b 4662219572839972864 == some Ordering.gt) = false ∧ (FloatKind.f64.format.order b 13885591609694748672 == some Ordering.lt) = false := by
                  have h : ((FloatKind.f64.format.order b 4662219572839972864 == some Ordering.gt) || (FloatKind.f64.format.order b 13885591609694748672 == some Ordering.lt)) = false := hg
                  exact Bool.or_eq_false_iff.1 h
                obtain ⟨g1, g2⟩ := hg'
                have hV := HF.out.back hg
                have ho := HOF.out wr
                have HV := Lib.hid hV
                clear hg hV ho
                go_wp2_with fail
                refine (HOF.out _).mono ?_
                rintro e w6 ⟨rfl, rfl⟩
                rw [HV.out, ← HRD.out]
                go_wp2_with fail
                go_ret
                exact ⟨rfl, hb5⟩
              · have hg' : (FloatKind.f64.format.order b 4662219572839972864 == some Ordering.gt) = true ∨ ((FloatKind.f64.format.order b 4662219572839972864 == some Ordering.gt) = false ∧ (FloatKind.f64.format.order b 13885591609694748672 == some Ordering.lt) = true) := by
                  have h : ((FloatKind.f64.format.order b 4662219572839972864 == some Ordering.gt) || (FloatKind.f64.format.order b 13885591609694748672 == some Ordering.lt)) = true := hg
                  revert h
                  cases (FloatKind.f64.format.order b 4662219572839972864 == some Ordering.gt) <;> simp
                clear hg
                rcases hg' with h | ⟨h, h'⟩
                all_goals
                  go_wp2_with fail
                  go_ret
                  exact ⟨rfl, hb5⟩
  · have HC1 := Lib.hid (fun W => rcheck_bad r hR W)
    have HC2 := Lib.hid (fun W => refRight_bad r hR W)
    have HC3 := Lib.hid (fun W => ppm_bad r hR W)
    have hnan : nanB 9221120237041090561 = true := by decide +kernel
    have HNN := Lib.hid hnan
    clear hR hnan
    go_enter Try.func5, Try.ntmps5
    go_wp2_with fail
    refine (made_all _).mono ?_
    rintro e w1 ⟨rfl, rfl⟩
    go_wp2_with fail
    refine (HC1.out _).mono ?_
    rintro e w1 ⟨rfl, rfl⟩
    go_wp2_with fail
    refine (HC2.out _).mono ?_
    rintro e w1 ⟨rfl, rfl⟩
    go_wp2_with fail
    refine (HC3.out _).mono ?_
    rintro e w1 ⟨rfl, rfl⟩
    go_wp2_with fail
    refine (HC2.out _).mono ?_
    rintro e w1 ⟨rfl, rfl⟩
    go_wp2_with fail
    refine (isNaN_any _ _).mono ?_
    rintro e w1 ⟨rfl, rfl⟩
    rw [HNN.out]
    go_wp2_with fail
    refine (HC1.out _).mono ?_
    rintro e w1 ⟨rfl, rfl⟩
    go_wp2_with fail
    go_ret
    exact ⟨rfl, Below.refl _ _⟩
theorem open_int {W : World} {v : Value} {b0 : Nat} (hv : Value.okWide Try.prog W .any b0 3 v) : ∃ n, v = .int .i64 n ∧ I64 n := by
  obtain ⟨n, rfl⟩ := okWide_int Try.underlying3 hv
  refine ⟨n, rfl, ?_⟩
  have ht : Try.prog.underlying 3 = some (.int .i64) := Try.underlying3
  simp [Value.okWide, ht, Cell.okWide, Cell.ok, IntKind.has] at hv
  unfold I64
  have h1 : IntKind.i64.min = -9223372036854775808 := by decide
  have h2 : IntKind.i64.max = 9223372036854775807 := by decide
  omega

/-! ### The row's step -/
set_option maxRecDepth 100000 in
theorem ratePpms_lifted (os : Os) (started : os.Started) (H : Type) (enc : TypeId × Value → H) :
    ReturnsInHanded {} Try.checked os 5 .any (Rows.ratePpmsSpec.pre6 enc Try.prog Try.f5 Rows.ratePpmsRow.domain false) (Rows.ratePpmsSpec.post enc Try.prog Try.f5 false true false false) := by
  refine returnsInHanded_of_change (C := Try.checked) own started (by kernel_rfl) Try.func5
    (ChangeSpec.witness6 (enc := enc) (C := Try.checked) false ⟨#[], #[.int .i64 0], []⟩ 8 (by kernel_rfl) (by kernel_rfl) (by kernel_rfl) (by kernel_rfl)) ?_
  intro W base args ds gs before hval0 hW _ _
  have hval : ∀ (j : Nat) t v, Try.f5.params[j]? = some t → args[j]? = some v → Value.okWide Try.prog W .any base t v := hval0
  have hW' := hW
  obtain ⟨p, q, hA0, hV, rfl, hfz, hnd⟩ := hW
  have hA : DataW.TrodAll enc Try.prog W 0 (fun _ => true) true Try.f5.params.toList args.toList ds p := hA0
  rw [Try.params5] at hA hval
  obtain ⟨v0, d0, rfl, rfl, h0⟩ := trodAll_one hA
  obtain ⟨a, rfl, ha⟩ := open_int (hval 0 3 v0 rfl rfl)
  exact law_post laidOut (by kernel_rfl) rfl (by kernel_rfl) Try.underlying4 rfl hW' (ratePpms_calls a ha W)

theorem ratePpms_holds : Rows.RatePpmsSaid :=
  OpenClaim.holds_of_wide 5 Try.f5 rfl rfl rfl rfl rfl rfl rfl ⟨rfl, rfl, rfl, rfl, rfl⟩ rfl rfl rfl rfl rfl (by kernel_rfl) Try.func5 (by kernel_rfl)
    (of_decide_eq_true (by kernel_rfl)) (by unfold Func.isWrapper; first | (rw [if_pos (by decide +kernel)]; kernel_rfl) | (rw [if_neg (by decide +kernel)]; exact ⟨rfl, rfl⟩))
    (fun os started H enc _ => ratePpms_lifted os started H enc)

#print axioms ratePpms_holds
end Go.Proofs.Ytclckcjimfadlaa
