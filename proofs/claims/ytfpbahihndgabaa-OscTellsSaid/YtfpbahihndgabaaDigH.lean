/-
  The reference's digits: Abs, Int, MulDiv.
-/
import Derived.Test.YtfpbahihndgabaaDigG
import Derived.Test.YtfpbahihndgabaaMulDivV
namespace Go.Proofs.Ytfpbahihndgabaa
set_option linter.unusedSimpArgs false
set_option linter.unusedVariables false
open Go.RowKit

theorem nd_four {x : Nat} (h : x < 18446744073709551616) : nd x ≤ 4 := nd_le.2 (by simpa using h)
theorem of_dg (x : Nat) (w : World) (hx : x < 18446744073709551616) :
    Calls Try.prog 50 #[.int .u64 x] w fun e w' => ∃ v, e = .returned v ∧ Dg w' v x ∧ Own w.heap.size v ∧ Below w.heap.size w w' := by
  refine (Of_any x w hx).mono ?_
  rintro e w' ⟨v, rfl, hown, hb⟩
  have HO := ownsRow_lt hown
  obtain ⟨A, c, rfl, hc, hr⟩ := ownsRow_reads hown
  exact ⟨_, rfl, ⟨A, _, c, rfl, hc, rfl, by have : nd x ≤ 4 := nd_four hx; unfold nd at this; omega, hr⟩, fun k hk => (HO k (by cases A <;> exact hk)).1, hb⟩
theorem natAbs_neg {x : Int} (h : x < 0) : ((x.natAbs - 1 : Nat) : Int) = -(x + 1) := by omega
set_option maxRecDepth 100000 in
set_option maxHeartbeats 4000000 in
theorem Abs_any (x : Int) (w : World) (h1 : -9223372036854775808 ≤ x) (h2 : x ≤ 9223372036854775807) :
    Calls Try.prog 43 #[.int .i64 x] w fun e w' => ∃ v, e = .returned v ∧ Dg w' v x.natAbs ∧ Own w.heap.size v ∧ Below w.heap.size w w' := by
  by_cases hn : x < 0
  · obtain ⟨n, hnn⟩ : ∃ n, n = x.natAbs - 1 := ⟨_, rfl⟩
    have e1 : x.natAbs = n + 1 := by omega
    have f1 : IntKind.i64.wrap (x + 1) = x + 1 := IntWalk.i64_in _ ⟨by omega, by omega⟩
    have f2 : IntKind.i64.wrap (-(x + 1)) = (n : Int) := by rw [show -(x + 1) = (n : Int) by omega]; exact IntWalk.i64_in _ ⟨by omega, by omega⟩
    have f3 : IntKind.u64.wrap (n : Int) = (n : Int) := wrapLt (by omega)
    have f3' : IntKind.u64.wrap (-(x + 1)) = (n : Int) := by rw [show -(x + 1) = (n : Int) by omega]; exact f3
    have hO := Lib.hid (of_dg n w (by omega))
    have hl : n < 18446744073709551615 := by omega
    have HE := Lib.hid e1
    have HL := Lib.hid hl
    rw [HE.out]
    clear hnn e1 h1 hl h2
    go_enter Try.func43, Try.ntmps43
    go_wp2_with fail
    refine hO.out.mono ?_
    rintro e w1 ⟨v1, rfl, d1, o1, b1⟩
    go_wp2_with fail
    have hbs := b1.size
    have bwo := b1.alloc b1.size (.cells #[.int .i64 1] 3)
    have hl := HL.out
    have hn1 : nd n ≤ 4 := nd_four (by omega)
    have hn2 : nd (n + 1) ≤ 4 := nd_four (by omega)
    refine (Add_any n 1 _ _ _ (d1.below ((Below.refl _ _).alloc (Nat.le_refl _) (.cells #[.int .i64 1] 3))) (dg_one _ 3) (by omega) (by decide) (by omega)).mono ?_
    rintro e w4 ⟨v4, rfl, d4, o4, b4⟩
    have bw4 : Below w.heap.size w w4 := bwo.trans (b4.mono (by simp; omega))
    have O4 : Own w.heap.size v4 := o4.mono (by simp; omega)
    clear hbs bwo hl hn1 hn2 b4 o4 o1 d1 b1
    go_wp2_with fail
    go_ret
    exact ⟨_, rfl, d4, O4, bw4⟩
  · obtain ⟨n, rfl⟩ : ∃ n : Nat, x = (n : Int) := ⟨x.toNat, by omega⟩
    have dn : decide ((n : Int) < 0) = false := by simp
    have f3 : IntKind.u64.wrap (n : Int) = (n : Int) := wrapLt (by omega)
    have hO := Lib.hid (of_dg n w (by omega))
    rw [Int.natAbs_natCast]
    clear hn h1
    go_enter Try.func43, Try.ntmps43
    go_wp2_with fail
    refine hO.out.mono ?_
    rintro e w1 ⟨v1, rfl, d1, o1, b1⟩
    go_wp2_with fail
    go_ret
    exact ⟨_, rfl, d1, o1, b1⟩
def intV (x : Nat) (m : Bool) : Int × Bool := if 9223372036854775807 + m.toNat < x then (0, false) else (if m = true then -(x : Int) else (x : Int), true)
theorem cmp_pos (x y : Nat) : decide (0 < cmpV x y) = decide (y < x) := by
  rcases Nat.lt_trichotomy x y with h | h | h
  · rw [cmp_lt h]; simp; omega
  · subst h; rw [cmp_eq]; simp
  · rw [cmp_gt h]; simp; omega
set_option maxRecDepth 100000 in
set_option maxHeartbeats 4000000 in
theorem Int_any (x : Nat) (va : Value) (m : Bool) (w : World) (ha : Dg w va x) :
    Calls Try.prog 44 #[va, .bool m] w fun e w' => e = .returned (.tuple #[.int .i64 (intV x m).1, .bool (intV x m).2]) ∧ Below w.heap.size w w' := by
  obtain ⟨L, hL⟩ : ∃ L : Int, L = if m = true then -9223372036854775808 else 9223372036854775807 := ⟨_, rfl⟩
  have hLr : -9223372036854775808 ≤ L ∧ L ≤ 9223372036854775807 := by rw [hL]; split <;> omega
  have hLn : L.natAbs = 9223372036854775807 + m.toNat := by rw [hL]; cases m <;> rfl
  have hAbs := Abs_any L w hLr.1 hLr.2
  obtain ⟨K, hK⟩ : ∃ K, K = L.natAbs := ⟨_, rfl⟩
  rw [← hK] at hAbs hLn
  have HAbs := Lib.hid hAbs
  clear hAbs hK
  obtain ⟨A, n, c, rfl, h1, h2, h3, h4⟩ := ha
  have hD : Dg w (.slice A n c) x := ⟨A, n, c, rfl, h1, h2, h3, h4⟩
  have HD := Lib.hid hD
  have HR := Lib.hid h4
  have HX := Lib.hid h2
  have HLN := Lib.hid hLn
  have HV : Hid (intV x m = if K < x then (0, false) else (if m = true then -(x : Int) else (x : Int), true)) := Lib.hid (by rw [hLn]; rfl)
  have hKm : K ≤ 9223372036854775808 := by cases m <;> (simp at hLn; omega)
  have HKM := Lib.hid hKm
  clear hKm
  obtain ⟨V1, hV1⟩ : ∃ V1, V1 = (intV x m).1 := ⟨_, rfl⟩
  obtain ⟨V2, hV2⟩ : ∃ V2, V2 = (intV x m).2 := ⟨_, rfl⟩
  rw [← hV1, ← hV2]
  have HVV := Lib.hid (And.intro hV1 hV2)
  clear h4 hD h2 hLr hLn hV1 hV2 h1
  have hwalk : ∀ w2 : World, Below w.heap.size w w2 → decide (0 < cmpV x K) = decide (K < x) := fun w2 _ => by rw [cmp_pos]
  have HW := Lib.hid (hwalk w (Below.refl _ _))
  clear hwalk
  have HL := Lib.hid hL
  clear hL
  have f0 : IntKind.i64.wrap ((n : Int) - 1) = (n : Int) - 1 := IntWalk.i64_in _ ⟨by omega, by omega⟩
  go_enter Try.func44, Try.ntmps44
  cases m
  all_goals
    first
    | (have hLL : L = 9223372036854775807 := HL.out
       subst hLL)
    | (have hLL : L = -9223372036854775808 := HL.out
       subst hLL)
    go_wp2_with fail
    refine HAbs.out.mono ?_
    rintro e w1 ⟨v1, rfl, d1, o1, b1⟩
    have HC := Lib.hid (Cmp_any x _ _ v1 w1 (HD.out.below b1) d1)
    clear d1 o1
    go_wp2_with fail
    refine HC.out.mono ?_
    rintro e w2 ⟨rfl, b2⟩
    have hbs := b1.size
    have bw2 : Below w.heap.size w w2 := b1.trans (b2.mono hbs)
    have hcp := HW.out
    obtain ⟨cv, hcv⟩ : ∃ cv, cv = cmpV x K := ⟨_, rfl⟩
    rw [← hcv] at hcp ⊢
    clear HC hcv b1 b2 hbs
    by_cases hbig : K < x
    · rw [decide_eq_true hbig] at hcp
      have hvv := HVV.out
      rw [HV.out, if_pos hbig] at hvv
      obtain ⟨rfl, rfl⟩ := hvv
      clear hbig
      go_wp2_with fail
      go_ret2
      exact ⟨rfl, bw2⟩
    · rw [decide_eq_false hbig] at hcp
      have hvv := HVV.out
      rw [HV.out, if_neg hbig] at hvv
      have HVV2 := Lib.hid hvv
      have hxl : x ≤ 9223372036854775808 := by have := HKM.out; omega
      have HXL := Lib.hid hbig
      clear hvv hbig
      go_wp2_with fail
      go_loopw [6, 7] (fun s i wr => ∃ (j : Nat) (S : Nat), j ≤ n ∧ i = .int .i64 ((j : Int) - 1) ∧ s = .int .u64 (S : Nat) ∧ Hid (S = x / 65536 ^ j) ∧ Below w.heap.size w wr) (fun _ i _ => (intOf i + 1).toNat)
      case atStart =>
        have h0 : x / 65536 ^ n = 0 := by
          rw [HX.out]
          exact Nat.div_eq_of_lt (nd_le.1 (Nat.le_refl _))
        exact ⟨n, 0, Nat.le_refl _, rfl, rfl, Lib.hid h0.symm, bw2⟩
      case round =>
        obtain ⟨j, S, hj, rfl, rfl, hS, hb⟩ := hrel
        rcases Nat.eq_zero_or_pos j with rfl | hp
        · have hSx : S = x := by have := hS.out; simpa using this
          subst hSx
          rw [show (((0 : Nat) : Int) - 1) = -1 from rfl]
          obtain ⟨y, hy⟩ : ∃ y : Nat, y = (18446744073709551616 - S) % 18446744073709551616 := ⟨_, rfl⟩
          have g1 : IntKind.u64.wrap (-(S : Int)) = (y : Int) := by rw [show IntKind.u64.wrap (-(S : Int)) = (-(S : Int)) % 18446744073709551616 from rfl]; omega
          have g2 : IntKind.i64.wrap (y : Int) = -(S : Int) := by
            rw [IntKind.wrap_i64]
            omega
          have g3 : S < 9223372036854775808 → IntKind.i64.wrap (S : Int) = (S : Int) := fun h => IntWalk.i64_in _ ⟨by omega, by omega⟩
          clear hy hS
          first
          | (have g4 := g3 (by have h1 := HXL.out; have h2 := HLN.out; rw [Bool.toNat_false] at h2; omega)
             clear g3 g1 g2
             go_wp2_with fail
             go_ret2
             exact ⟨by rw [HVV2.out.1, HVV2.out.2]; rfl, hb⟩)
          | (clear g3
             go_wp2_with fail
             go_ret2
             exact ⟨by rw [HVV2.out.1, HVV2.out.2]; rfl, hb⟩)
        · obtain ⟨k, rfl⟩ : ∃ k, j = k + 1 := ⟨j - 1, by omega⟩
          rw [show (((k + 1 : Nat) : Int) - 1) = (k : Int) by omega]
          obtain ⟨ad, rfl, _, hcl⟩ := (HR.out.below hb).2 (by omega)
          have c1 := hcl k (iv (x / 65536 ^ k % 65536)) (by rw [List.getElem?_map, digs_at (by rw [← HX.out]; omega)]; rfl)
          unfold iv at c1
          obtain ⟨X, hX⟩ : ∃ X, X = x / 65536 ^ k := ⟨_, rfl⟩
          have hXS : S = X / 65536 := by rw [hX, hS.out, pow_step]
          have hXl : X ≤ 9223372036854775808 := by rw [hX]; exact Nat.le_trans (Nat.div_le_self _ _) hxl
          rw [← hX] at c1
          obtain ⟨d, hd⟩ : ∃ d, d = X % 65536 := ⟨_, rfl⟩
          rw [← hd] at c1
          obtain ⟨T, hT⟩ : ∃ T, T = S * 65536 := ⟨_, rfl⟩
          have e1 : IntKind.u64.wrap ((S : Int) * 65536) = (T : Int) := by rw [show (S : Int) * 65536 = (T : Int) by omega]; exact wrapLt (by omega)
          have e2 : IntKind.u64.wrap (d : Int) = (d : Int) := wrapLt (by omega)
          have e3 : IntKind.u64.wrap ((T : Int) + (d : Int)) = (X : Int) := by rw [show (T : Int) + (d : Int) = (X : Int) by omega]; exact wrapLt (by omega)
          have e4 : IntKind.i64.wrap ((k : Int) - 1) = (k : Int) - 1 := IntWalk.i64_in _ ⟨by omega, by omega⟩
          have HX2 := Lib.hid hX
          have hkn : k < n := by omega
          have hdl : d < 65536 := by omega
          clear hX hS hXS hd hT hcl hXl hj hp
          go_wp2_with fail
          go_roundw
          case rel => exact ⟨k, X, by omega, rfl, rfl, HX2, hb⟩
          case measure => simp [intOf]
def mdrV (a b c rd : Int) : Int × Int :=
  if rd < 0 ∨ 2 < rd then (0, 1) else if c = 0 then (0, 11) else
    let m := mdMinus a b c
    let q := rndV (a.natAbs * b.natAbs) c.natAbs m rd
    let v := intV q (m && decide (0 < q))
    if v.2 = true then (v.1, 0) else (0, 10)
set_option maxRecDepth 100000 in
set_option maxHeartbeats 4000000 in
theorem refMulDiv_any (a b c rd : Int) (w : World) (ha : I64 a) (hb : I64 b) (hc : I64 c) :
    Calls Try.prog 36 #[.int .i64 a, .int .i64 b, .int .i64 c, .int .i64 rd] w fun e w' => e = .returned (.tuple #[.int .i64 (mdrV a b c rd).1, .int .i64 (mdrV a b c rd).2]) ∧ Below w.heap.size w w' := by
  by_cases hr : rd < 0 ∨ 2 < rd
  · have e : mdrV a b c rd = (0, 1) := if_pos hr
    rw [e]
    clear e ha hb hc
    rcases hr with h | h
    · go_enter Try.func36, Try.ntmps36
      go_wp2_with fail
      go_ret2
      exact ⟨rfl, Below.refl _ _⟩
    · have h0 : decide (rd < 0) = false := by simp; omega
      go_enter Try.func36, Try.ntmps36
      go_wp2_with fail
      go_ret2
      exact ⟨rfl, Below.refl _ _⟩
  · have h0 : decide (rd < 0) = false := by simp; omega
    have h1 : decide (2 < rd) = false := by simp; omega
    by_cases hz : c = 0
    · have e : mdrV a b c rd = (0, 11) := by rw [mdrV, if_neg hr, if_pos hz]
      rw [e]
      subst hz
      clear e ha hb hc hr
      go_enter Try.func36, Try.ntmps36
      go_wp2_with fail
      go_ret2
      exact ⟨rfl, Below.refl _ _⟩
    · obtain ⟨m, hm⟩ : ∃ m, m = mdMinus a b c := ⟨_, rfl⟩
      obtain ⟨q, hq⟩ : ∃ q, q = rndV (a.natAbs * b.natAbs) c.natAbs m rd := ⟨_, rfl⟩
      obtain ⟨m2, hm2⟩ : ∃ m2, m2 = (m && decide (0 < q)) := ⟨_, rfl⟩
      obtain ⟨V1, hV1⟩ : ∃ V1, V1 = (intV q m2).1 := ⟨_, rfl⟩
      obtain ⟨V2, hV2⟩ : ∃ V2, V2 = (intV q m2).2 := ⟨_, rfl⟩
      have e : mdrV a b c rd = if V2 = true then (V1, 0) else (0, 10) := by rw [mdrV, if_neg hr, if_neg hz, hV1, hV2, hm2, hq, hm]
      rw [e]
      have t2 : (c == 0) = false := beq_eq_false_iff_ne.2 hz
      have hcp : 0 < c.natAbs := by omega
      obtain ⟨A, hA⟩ : ∃ A, A = a.natAbs := ⟨_, rfl⟩
      obtain ⟨B, hB⟩ : ∃ B, B = b.natAbs := ⟨_, rfl⟩
      obtain ⟨C, hC⟩ : ∃ C, C = c.natAbs := ⟨_, rfl⟩
      have hAl : A ≤ 9223372036854775808 := by have := ha.1; have := ha.2; omega
      have hBl : B ≤ 9223372036854775808 := by have := hb.1; have := hb.2; omega
      have hCl : C ≤ 9223372036854775808 := by have := hc.1; have := hc.2; omega
      have cA := fun W => Abs_any a W ha.1 ha.2
      have cB := fun W => Abs_any b W hb.1 hb.2
      have cC := fun W => Abs_any c W hc.1 hc.2
      rw [← hA, ← hB, ← hC] at hq
      rw [← hA] at cA
      rw [← hB] at cB
      rw [← hC] at cC
      have nA : nd A ≤ 4 := nd_four (by omega)
      have nB : nd B ≤ 4 := nd_four (by omega)
      have nC : nd C ≤ 4 := nd_four (by omega)
      have nAB : nd (A * B) ≤ 1000 := by
        refine Nat.le_trans (nd_mono (Nat.mul_le_mul hAl hBl)) ?_
        have h8 : nd (9223372036854775808 * 9223372036854775808) ≤ 8 := nd_le.2 (by decide)
        exact Nat.le_trans h8 (by decide)
      rw [← hC] at hcp
      have HK := Lib.hid (And.intro cA (And.intro cB cC))
      have HN := Lib.hid (And.intro nA (And.intro nB (And.intro nC (And.intro nAB hcp))))
      have HQ := Lib.hid (And.intro hq (And.intro hm2 (And.intro hV1 hV2)))
      obtain ⟨sa, hsa⟩ : ∃ sa, decide (a < 0) = sa := ⟨_, rfl⟩
      obtain ⟨sb, hsb⟩ : ∃ sb, decide (b < 0) = sb := ⟨_, rfl⟩
      obtain ⟨sc, hsc⟩ : ∃ sc, decide (c < 0) = sc := ⟨_, rfl⟩
      have hms : m = ((sa != sb) != sc) := by rw [hm, mdMinus, hsa, hsb, hsc]
      have HMS := Lib.hid hms
      have cR : ∀ (v3 v4 : Value) (w4 : World), Dg w4 v3 (A * B) → Dg w4 v4 C → Calls Try.prog 41 #[v3, v4, .bool m, .int .i64 rd] w4 fun e w' => ∃ v, e = .returned (.tuple #[v, .bool m2]) ∧ Dg w' v q ∧ Below w4.heap.size w4 w' := by
        intro v3 v4 w4 d3 d4
        refine (Round_any (A * B) C v3 v4 m rd w4 d3 d4 hcp nAB (by omega)).mono ?_
        rintro e w5 ⟨v5, rfl, d5, o5, b5⟩
        exact ⟨v5, by rw [hm2, hq], by rw [hq]; exact d5, b5⟩
      rw [hms] at cR
      have HR := Lib.hid cR
      have cI : ∀ (v : Value) (w4 : World), Dg w4 v q → Calls Try.prog 44 #[v, .bool m2] w4 fun e w' => e = .returned (.tuple #[.int .i64 V1, .bool V2]) ∧ Below w4.heap.size w4 w' := fun v w4 d => by rw [hV1, hV2]; exact Int_any q v m2 w4 d
      have HI0 := Lib.hid cI
      clear cR cI
      clear ha hb hc hr hz e hm hq hm2 hV1 hV2 hcp hA hB hC hAl hBl hCl cA cB cC nA nB nC nAB hms
      go_enter Try.func36, Try.ntmps36
      cases sa <;> cases sb <;> cases sc
      all_goals
        go_wp2_with fail
        refine (HK.out.1 _).mono ?_
        rintro e w1 ⟨v1, rfl, d1, o1, b1⟩
        go_wp2_with fail
        refine (HK.out.2.1 _).mono ?_
        rintro e w2 ⟨v2, rfl, d2, o2, b2⟩
        have hz1 := b1.size
        have d1' := d1.below b2
        have bw2 := b1.trans (b2.mono hz1)
        have HM := Lib.hid (Mul_any A B v1 v2 w2 d1' d2 (by have := HN.out; omega))
        clear d1 d1' o1 o2 b1 b2 d2 hz1
        go_wp2_with fail
        refine HM.out.mono ?_
        rintro e w3 ⟨v3, rfl, d3, o3, b3⟩
        go_wp2_with fail
        refine (HK.out.2.2 _).mono ?_
        rintro e w4 ⟨v4, rfl, d4, o4, b4⟩
        have hz1 := bw2.size
        have bw3 := bw2.trans (b3.mono hz1)
        have hz2 := bw3.size
        have bw4 := bw3.trans (b4.mono hz2)
        have d3' := d3.below b4
        clear HM bw2 b3 hz1 bw3 b4 hz2 d3 o3 o4
        go_wp2_with fail
        refine (HR.out v3 v4 w4 d3' d4).mono ?_
        rintro e w5 ⟨v5, rfl, d5, b5⟩
        have hz1 := bw4.size
        have bw5 := bw4.trans (b5.mono hz1)
        have HI := Lib.hid (HI0.out v5 w5 d5)
        clear d3' d4 bw4 b5 hz1 d5
        go_wp2_with fail
        refine HI.out.mono ?_
        rintro e w6 ⟨rfl, b6⟩
        have hz1 := bw5.size
        have bw6 := bw5.trans (b6.mono hz1)
        clear bw5 b6 hz1 HI
        cases V2
        all_goals
          go_wp2_with fail
          go_ret2
          exact ⟨rfl, bw6⟩
end Go.Proofs.Ytfpbahihndgabaa
