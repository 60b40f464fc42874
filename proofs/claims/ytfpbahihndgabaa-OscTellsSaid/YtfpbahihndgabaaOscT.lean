/-
  Layer 7: the reference: what a clock of its kind is refused for.
-/
import Derived.Test.YtfpbahihndgabaaOscS
namespace Go.Proofs.Ytfpbahihndgabaa
set_option linter.unusedSimpArgs false
set_option linter.unusedVariables false
open Go.RowKit

def CIn (w : World) (A1 A2 : Option Addr) (n c1 c2 : Nat) (tA tR : Nat → Int) : Prop := 0 < n → ∃ g1 g2, A1 = some ⟨g1, 0, none⟩ ∧ A2 = some ⟨g2, 0, none⟩ ∧ Ints w g1 n tA ∧ Ints w g2 n tR ∧ n ≤ c1 ∧ n ≤ c2
theorem CIn.below {w w' : World} {A1 A2 : Option Addr} {n c1 c2 : Nat} {tA tR : Nat → Int} (h : CIn w A1 A2 n c1 c2 tA tR) (hb : Below w.heap.size w w') : CIn w' A1 A2 n c1 c2 tA tR := fun hn => by
  obtain ⟨g1, g2, e1, e2, i1, i2, k1, k2⟩ := h hn
  exact ⟨g1, g2, e1, e2, i1.below hb, i2.below hb, k1, k2⟩
set_option maxRecDepth 100000 in
set_option maxHeartbeats 4000000 in
theorem refCheck_any (S gr : Int) (A1 A2 : Option Addr) (n c1 c2 : Nat) (tA tR : Nat → Int) (w : World) (hC : CIn w A1 A2 n c1 c2 tA tR) :
    Calls Try.prog 15 #[.agg #[.int .i64 S, .int .i64 gr, .slice A1 n c1, .slice A2 n c2]] w fun e w' => e = .returned (.int .i64 (newE S gr n tA tR)) ∧ Below w.heap.size w w' := by
  have L0 := (Below.refl w.heap.size w).alloc (Nat.le_refl _) (.cells #[.int .i64 S, .int .i64 gr, .slice A1 n c1, .slice A2 n c2] 43)
  by_cases hn : 64 < n
  · have e : newE S gr n tA tR = 4 := if_pos hn
    rw [e]
    have d1 : (64 : Int) < (n : Int) := by omega
    clear e hC hn
    go_enter Try.func15, Try.ntmps15
    go_wp2_with fail
    go_ret
    exact ⟨rfl, L0⟩
  have d1 : decide ((64 : Int) < (n : Int)) = false := by simp; omega
  by_cases hbad : n = 0 ∨ tA 0 ≠ 0 ∨ gr < 1 ∨ 1000 < gr ∨ S < -1152921504606846976 ∨ 1152921504606846976 < S
  · have e : newE S gr n tA tR = 1 := by rw [newE, if_neg hn, if_pos hbad]
    rw [e]
    clear e
    by_cases h0 : n = 0
    · subst h0
      clear hC hn d1
      go_enter Try.func15, Try.ntmps15
      go_wp2_with fail
      go_ret
      exact ⟨rfl, L0⟩
    have d2 : ((n : Int) == 0) = false := beq_eq_false_iff_ne.2 (by omega)
    obtain ⟨g1, g2, rfl, rfl, I1, I2, k1, k2⟩ := hC (by omega)
    have c0 := (I1.below L0).at_ 0 (by omega)
    have zz := (I1.below L0).lt
    have dn : 0 < n := by omega
    have HL := Lib.hid L0
    clear hC I1 I2 L0
    generalize tA 0 = a0 at *
    by_cases h1 : a0 ≠ 0
    · have d3 : (a0 != 0) = true := bne_iff_ne.2 h1
      clear hn hbad h0 h1
      go_enter Try.func15, Try.ntmps15
      go_wp2_with fail
      go_ret
      exact ⟨rfl, HL.out⟩
    obtain rfl : a0 = 0 := Decidable.not_not.1 h1
    by_cases h2 : gr < 1
    · clear hn hbad h0 h1
      go_enter Try.func15, Try.ntmps15
      go_wp2_with fail
      go_ret
      exact ⟨rfl, HL.out⟩
    have e0 : decide (gr < 1) = false := decide_eq_false h2
    by_cases h3 : 1000 < gr
    · clear hn hbad h0 h1 h2
      go_enter Try.func15, Try.ntmps15
      go_wp2_with fail
      go_ret
      exact ⟨rfl, HL.out⟩
    have e1 : decide (1000 < gr) = false := decide_eq_false h3
    by_cases h4 : S < -1152921504606846976
    · clear hn hbad h0 h1 h2 h3
      go_enter Try.func15, Try.ntmps15
      go_wp2_with fail
      go_ret
      exact ⟨rfl, HL.out⟩
    have e2 : decide (S < -1152921504606846976) = false := decide_eq_false h4
    have h5 : 1152921504606846976 < S := by omega
    clear hn hbad h0 h1 h2 h3 h4
    go_enter Try.func15, Try.ntmps15
    go_wp2_with fail
    go_ret
    exact ⟨rfl, HL.out⟩
  · have e : newE S gr n tA tR = scanE tA tR n := by rw [newE, if_neg hn, if_neg hbad]
    rw [e]
    obtain ⟨E, hE⟩ : ∃ E, E = scanE tA tR n := ⟨_, rfl⟩
    rw [← hE]
    have hn0 : 0 < n := by omega
    have hn64 : n ≤ 64 := by omega
    have ht0 : tA 0 = 0 := by omega
    have d2 : ((n : Int) == 0) = false := beq_eq_false_iff_ne.2 (by omega)
    have d4 : decide (gr < 1) = false := decide_eq_false (by omega)
    have d5 : decide (1000 < gr) = false := decide_eq_false (by omega)
    have d6 : decide (S < -1152921504606846976) = false := decide_eq_false (by omega)
    have d7 : decide (1152921504606846976 < S) = false := decide_eq_false (by omega)
    have HE := Lib.hid hE
    obtain ⟨g1, g2, rfl, rfl, I1, I2, k1, k2⟩ := hC hn0
    have c0 := (I1.below L0).at_ 0 hn0
    rw [ht0] at c0
    have zz := (I1.below L0).lt
    have B0 := Blk.new w 43 #[.int .i64 S, .int .i64 gr, .slice (some ⟨g1, 0, none⟩) n c1, .slice (some ⟨g2, 0, none⟩) n c2]
    have HB1 := Lib.hid B0
    have HII := Lib.hid (And.intro (I1.below L0) (I2.below L0))
    have HL := Lib.hid L0
    clear e hE hbad hn hC B0 I1 I2 ht0 L0
    go_enter Try.func15, Try.ntmps15
    go_wp2_with fail
    clear d2 d4 d5 d6 d7 c0 d1
    generalize w.alloc (.cells #[.int .i64 S, .int .i64 gr, .slice (some ⟨g1, 0, none⟩) n c1, .slice (some ⟨g2, 0, none⟩) n c2] 43) = w1 at *
    have HR1 := Lib.hid (Below.refl w1.heap.size w1)
    go_loopw [42] (fun i wr => ∃ k : Nat, i = .int .i64 (k : Nat) ∧ k ≤ n ∧ Hid (scanE tA tR k = 0) ∧ Below w1.heap.size w1 wr) (fun i _ => n - (intOf i).toNat)
    case atStart => exact ⟨0, rfl, Nat.zero_le _, Lib.hid rfl, HR1.out⟩
    case round =>
      obtain ⟨k, rfl, hk, hsc, hb⟩ := hrel
      by_cases hlt : k < n
      · have x1 := (HII.out.1.below hb).at_ k hlt
        have x2 := (HII.out.2.below hb).at_ k hlt
        have y2 := (HB1.out.below hb HB1.out.lt).cellOf (v := .slice (some ⟨g1, 0, none⟩) n c1) 2 rfl
        have y3 := (HB1.out.below hb HB1.out.lt).cellOf (v := .slice (some ⟨g2, 0, none⟩) n c2) 3 rfl
        have q0 := (HB1.out.below hb HB1.out.lt).lt
        have q1 := (HII.out.1.below hb).lt
        have q2 := (HII.out.2.below hb).lt
        have HBR := Lib.hid hb
        have hEt : turnE tA tR k ≠ 0 → E = turnE tA tR k := fun h => by
          have h1 : scanE tA tR (k + 1) = turnE tA tR k := by rw [scanE, if_neg (by rw [hsc.out]; decide)]
          rw [HE.out, scan_keep (m := k + 1) (by rw [h1]; exact h) (by omega), h1]
        have HET := Lib.hid hEt
        clear hEt hb
        by_cases hl : 1099511627776 < tA k
        · have hk31 : turnE tA tR k = 31 := if_pos (.inl hl)
          have hE31 : E = 31 := by rw [HET.out (by rw [hk31]; decide), hk31]
          have H31 := Lib.hid hE31
          clear hk31 hE31
          go_wp2_with fail
          refine wp_region_class (fun w' => Below wr.heap.size wr w') (by kernel_rfl) (by kernel_rfl) (Below.refl _ _).drew ?_
          repeat (first | (with_reducible (refine wpQuiet_skip ?_ ?_); (first | exact wanted_off rfl rfl rfl rfl | exact wanted_off2 rfl rfl rfl); simp only [Act.put, List.setIfInBounds_toArray, List.set_cons_zero, List.set_cons_succ]) | (with_reducible (refine wpQuiet_val (v := ?_) ?_ ?_ ?_); rotate_left; (first | exact wanted_none rfl | exact wanted_on rfl rfl rfl); (intro w' hw'; obtain ⟨hc, hf⟩ := bcell hw'; go_simp; with_reducible rfl); simp only [Act.put, List.setIfInBounds_toArray, List.set_cons_zero, List.set_cons_succ]))
          refine wpQuiet_nil ?_
          intro w4 hw4
          have hw := HL.out.trans ((HBR.out.trans (hw4.mono HBR.out.size)).mono HL.out.size)
          clear x1 x2 y2 y3 hw4 q0 q1 q2
          go_wp2_with fail
          rw [H31.out]
          go_ret
          exact ⟨rfl, hw⟩
        have dl : decide (1099511627776 < tA k) = false := decide_eq_false hl
        rcases Nat.eq_zero_or_pos k with hk0 | hkp
        · have ik : decide (0 < k) = false := decide_eq_false (by omega)
          have HJ : Hid (¬ 1099511627776 < tA k ∧ ¬ (0 < k ∧ tA k ≤ tA (k - 1))) := Lib.hid ⟨hl, by omega⟩
          clear hk0 hl
          go_wp2_with fail
          refine wp_region_class (fun w' => Below wr.heap.size wr w') (by kernel_rfl) (by kernel_rfl) (Below.refl _ _).drew ?_
          repeat (first | (with_reducible (refine wpQuiet_skip ?_ ?_); (first | exact wanted_off rfl rfl rfl rfl | exact wanted_off2 rfl rfl rfl); simp only [Act.put, List.setIfInBounds_toArray, List.set_cons_zero, List.set_cons_succ]) | (with_reducible (refine wpQuiet_val (v := ?_) ?_ ?_ ?_); rotate_left; (first | exact wanted_none rfl | exact wanted_on rfl rfl rfl); (intro w' hw'; obtain ⟨hc, hf⟩ := bcell hw'; go_simp; with_reducible rfl); simp only [Act.put, List.setIfInBounds_toArray, List.set_cons_zero, List.set_cons_succ]))
          refine wpQuiet_nil ?_
          intro w4 hw4
          have hb4 := HBR.out.trans (hw4.mono HBR.out.size)
          have x2 := (HII.out.2.below hb4).at_ k hlt
          have y3 := (HB1.out.below hb4 HB1.out.lt).cellOf (v := .slice (some ⟨g2, 0, none⟩) n c2) 3 rfl
          have z0 := (HB1.out.below hb4 HB1.out.lt).lt
          have z2 := (HII.out.2.below hb4).lt
          have HB4 := Lib.hid hb4
          clear x1 y2 hw4 q0 q1 q2 hb4
          go_wp2_with fail
          refine (refRight_any _ _).mono ?_
          rintro e w5 ⟨rfl, rfl⟩
          have hw := HL.out.trans (HB4.out.mono HL.out.size)
          by_cases hrt : 2181843386368 ≤ tR k ∧ tR k ≤ 2216203124736
          · have hrd : decide (2181843386368 ≤ tR k ∧ tR k ≤ 2216203124736) = true := decide_eq_true hrt
            have hs1 : scanE tA tR (k + 1) = 0 := by
              have h0 : turnE tA tR k = 0 := by unfold turnE; rw [if_neg (by have := HJ.out; omega), if_pos hrt]
              rw [scanE, if_neg (by rw [hsc.out]; decide), h0]
            have HS1 := Lib.hid hs1
            rw [hrd]
            clear hrt hrd hs1 hw
            go_wp2_with fail
            go_roundw
            case rel => exact ⟨k + 1, by first | rfl | (refine congrArg (Value.int IntKind.i64) ?_; rw [IntWalk.wrap64_in _ ⟨by omega, by omega⟩]; rfl), by omega, HS1, HB4.out⟩
            case measure => simp [intOf]; omega
          · have hrd : decide (2181843386368 ≤ tR k ∧ tR k ≤ 2216203124736) = false := decide_eq_false hrt
            have h50 : turnE tA tR k = 50 := by unfold turnE; rw [if_neg (by have := HJ.out; omega), if_neg hrt]
            have hE50 : E = 50 := by rw [HET.out (by rw [h50]; decide), h50]
            have H50 := Lib.hid hE50
            rw [hrd]
            clear hrt hrd h50 hE50
            go_wp2_with fail
            rw [H50.out]
            go_ret
            exact ⟨rfl, hw⟩
        · obtain ⟨j, hkj⟩ : ∃ j, k = j + 1 := ⟨k - 1, by omega⟩
          have f0 : IntKind.i64.wrap ((k : Int) - 1) = (j : Int) := by rw [show (k : Int) - 1 = (j : Int) by omega]; exact IntWalk.i64_in _ ⟨by omega, by omega⟩
          have hjn : j < n := by omega
          have x3 := (HII.out.1.below HBR.out).at_ j hjn
          have HKJ : Hid (k - 1 = j) := Lib.hid (by omega)
          clear hkj
          by_cases hle : tA k ≤ tA j
          · have hk31 : turnE tA tR k = 31 := if_pos (.inr ⟨hkp, by rw [HKJ.out]; exact hle⟩)
            have hE31 : E = 31 := by rw [HET.out (by rw [hk31]; decide), hk31]
            have H31 := Lib.hid hE31
            clear hk31 hE31 hl
            go_wp2_with fail
            refine wp_region_class (fun w' => Below wr.heap.size wr w') (by kernel_rfl) (by kernel_rfl) (Below.refl _ _).drew ?_
            repeat (first | (with_reducible (refine wpQuiet_skip ?_ ?_); (first | exact wanted_off rfl rfl rfl rfl | exact wanted_off2 rfl rfl rfl); simp only [Act.put, List.setIfInBounds_toArray, List.set_cons_zero, List.set_cons_succ]) | (with_reducible (refine wpQuiet_val (v := ?_) ?_ ?_ ?_); rotate_left; (first | exact wanted_none rfl | exact wanted_on rfl rfl rfl); (intro w' hw'; obtain ⟨hc, hf⟩ := bcell hw'; go_simp; with_reducible rfl); simp only [Act.put, List.setIfInBounds_toArray, List.set_cons_zero, List.set_cons_succ]))
            refine wpQuiet_nil ?_
            intro w4 hw4
            have hw := HL.out.trans ((HBR.out.trans (hw4.mono HBR.out.size)).mono HL.out.size)
            clear x1 x2 y2 y3 hw4 q0 q1 q2
            go_wp2_with fail
            rw [H31.out]
            go_ret
            exact ⟨rfl, hw⟩
          · have dle : decide (tA k ≤ tA j) = false := decide_eq_false hle
            have HJ : Hid (¬ 1099511627776 < tA k ∧ ¬ (0 < k ∧ tA k ≤ tA (k - 1))) := Lib.hid ⟨hl, by rw [HKJ.out]; omega⟩
            clear hle hl
            go_wp2_with fail
            refine wp_region_class (fun w' => Below wr.heap.size wr w') (by kernel_rfl) (by kernel_rfl) (Below.refl _ _).drew ?_
            repeat (first | (with_reducible (refine wpQuiet_skip ?_ ?_); (first | exact wanted_off rfl rfl rfl rfl | exact wanted_off2 rfl rfl rfl); simp only [Act.put, List.setIfInBounds_toArray, List.set_cons_zero, List.set_cons_succ]) | (with_reducible (refine wpQuiet_val (v := ?_) ?_ ?_ ?_); rotate_left; (first | exact wanted_none rfl | exact wanted_on rfl rfl rfl); (intro w' hw'; obtain ⟨hc, hf⟩ := bcell hw'; go_simp; with_reducible rfl); simp only [Act.put, List.setIfInBounds_toArray, List.set_cons_zero, List.set_cons_succ]))
            refine wpQuiet_nil ?_
            intro w4 hw4
            have hb4 := HBR.out.trans (hw4.mono HBR.out.size)
            have x2 := (HII.out.2.below hb4).at_ k hlt
            have y3 := (HB1.out.below hb4 HB1.out.lt).cellOf (v := .slice (some ⟨g2, 0, none⟩) n c2) 3 rfl
            have z0 := (HB1.out.below hb4 HB1.out.lt).lt
            have z2 := (HII.out.2.below hb4).lt
            have HB4 := Lib.hid hb4
            clear x1 y2 hw4 q0 q1 q2 hb4
            go_wp2_with fail
            refine (refRight_any _ _).mono ?_
            rintro e w5 ⟨rfl, rfl⟩
            have hw := HL.out.trans (HB4.out.mono HL.out.size)
            by_cases hrt : 2181843386368 ≤ tR k ∧ tR k ≤ 2216203124736
            · have hrd : decide (2181843386368 ≤ tR k ∧ tR k ≤ 2216203124736) = true := decide_eq_true hrt
              have hs1 : scanE tA tR (k + 1) = 0 := by
                have h0 : turnE tA tR k = 0 := by unfold turnE; rw [if_neg (by have := HJ.out; omega), if_pos hrt]
                rw [scanE, if_neg (by rw [hsc.out]; decide), h0]
              have HS1 := Lib.hid hs1
              rw [hrd]
              clear hrt hrd hs1 hw
              go_wp2_with fail
              go_roundw
              case rel => exact ⟨k + 1, by first | rfl | (refine congrArg (Value.int IntKind.i64) ?_; rw [IntWalk.wrap64_in _ ⟨by omega, by omega⟩]; rfl), by omega, HS1, HB4.out⟩
              case measure => simp [intOf]; omega
            · have hrd : decide (2181843386368 ≤ tR k ∧ tR k ≤ 2216203124736) = false := decide_eq_false hrt
              have h50 : turnE tA tR k = 50 := by unfold turnE; rw [if_neg (by have := HJ.out; omega), if_neg hrt]
              have hE50 : E = 50 := by rw [HET.out (by rw [h50]; decide), h50]
              have H50 := Lib.hid hE50
              rw [hrd]
              clear hrt hrd h50 hE50
              go_wp2_with fail
              rw [H50.out]
              go_ret
              exact ⟨rfl, hw⟩
      · obtain rfl : k = n := by omega
        have dn : decide (k < k) = false := by simp
        have hw := HL.out.trans (hb.mono HL.out.size)
        have hE0 : Hid (E = 0) := Lib.hid (by rw [HE.out]; exact hsc.out)
        clear hlt hk
        go_wp2_with fail
        rw [hE0.out]
        go_ret
        exact ⟨rfl, hw⟩
end Go.Proofs.Ytfpbahihndgabaa
