/-
  Layer 1: wide's MulDiv: what it gives.
-/
import Derived.Test.YtjjpmckefglhnaaMulDiv
import Derived.Deep.DeepCutAuto
import Derived.Deep.CutBlock
namespace Go.Proofs.Ytjjpmckefglhnaa
set_option linter.unusedSimpArgs false
set_option linter.unusedVariables false
open Go.RowKit
attribute [local go_sem ↓] Go.wp_at_zero Go.wp_at_succ

def mdMinus (a b c : Int) : Bool := (decide (a < 0) != decide (b < 0)) != decide (c < 0)
def mdMore (minus : Bool) (round : Int) (r C q : Nat) : Bool :=
  if r = 0 then false else if round = 0 then minus else if round = 1 then !minus else decide (C - r < r) || (decide (r = C - r) && decide (q % 2 = 1))
def mdEnd (minus : Bool) (q : Nat) : Int × Int := if 9223372036854775807 + minus.toNat < q then (0, 10) else (if minus = true then -(q : Int) else (q : Int), 0)
def mdQ (a b c : Int) (round : Int) : Nat := a.natAbs * b.natAbs / c.natAbs + (mdMore (mdMinus a b c) round (a.natAbs * b.natAbs % c.natAbs) c.natAbs (a.natAbs * b.natAbs / c.natAbs)).toNat
def mulDivV (a b c round : Int) : Int × Int := if c = 0 then (0, 11) else mdEnd (mdMinus a b c) (mdQ a b c round)
def I64 (x : Int) : Prop := -9223372036854775808 ≤ x ∧ x ≤ 9223372036854775807

set_option maxRecDepth 100000 in
set_option maxHeartbeats 4000000 in
theorem mulDiv_any (a b c round : Int) (ha : I64 a) (hb : I64 b) (hc : I64 c) (hr : round = 0 ∨ round = 1 ∨ round = 2) (w : World) :
    Calls Try.prog 36 #[.int .i64 a, .int .i64 b, .int .i64 c, .int .i64 round] w fun e w' => e = .returned (.tuple #[.int .i64 (mulDivV a b c round).1, .int .i64 (mulDivV a b c round).2]) ∧ Below w.heap.size w w' := by
  have hA := fun W => wabs_any a ha W
  have hB := fun W => wabs_any b hb W
  have hC := fun W => wabs_any c hc W
  by_cases hc0 : c = 0
  · subst hc0
    have hV : mulDivV a b 0 round = (0, 11) := if_pos rfl
    rw [hV]
    have hM := fun W => wmul_any a.natAbs b.natAbs (by unfold I64 at ha; omega) (by unfold I64 at hb; omega) W
    generalize a.natAbs * b.natAbs / 18446744073709551616 = Ph at *
    generalize a.natAbs * b.natAbs % 18446744073709551616 = Pl at *
    generalize a.natAbs = A at *
    generalize b.natAbs = B at *
    have hC' : ∀ W : World, Calls Try.prog 40 #[.int .i64 0] W fun e w' => e = .returned (.int .u64 0) ∧ W = w' := fun W => hC W
    have hD := fun W => wdiv_zero Ph Pl W
    have t3 : decide (round < 0) = false := by rcases hr with rfl | rfl | rfl <;> rfl
    have t4 : decide (2 < round) = false := by rcases hr with rfl | rfl | rfl <;> rfl
    have HA := Lib.hid (And.intro hA (And.intro hB (And.intro hC' (And.intro hM hD))))
    clear hA hB hC hC' hM hD ha hb hc hr hV
    go_enter Try.func36, Try.ntmps36
    go_wp2_with fail
    refine (HA.out.1 _).mono ?_
    rintro e w1 ⟨rfl, rfl⟩
    go_wp2_with fail
    refine (HA.out.2.1 _).mono ?_
    rintro e w1 ⟨rfl, rfl⟩
    go_wp2_with fail
    refine (HA.out.2.2.2.1 _).mono ?_
    rintro e w1 ⟨rfl, hb1⟩
    go_wp2_with fail
    refine (HA.out.2.2.1 _).mono ?_
    rintro e w2 ⟨rfl, rfl⟩
    go_wp2_with fail
    refine (HA.out.2.2.2.2 _).mono ?_
    rintro e w2 ⟨rfl, hb2⟩
    have hb : Below w.heap.size w w2 := hb1.trans (hb2.mono hb1.size)
    have hz := hb.size
    clear hb1 hb2
    go_wp2_with fail
    go_ret2
    exact ⟨rfl, hb.alloc hz _⟩
  · have hV : mulDivV a b c round = mdEnd (mdMinus a b c) (mdQ a b c round) := if_neg hc0
    rw [hV]
    unfold mdQ
    have hCpos : 0 < c.natAbs := by omega
    obtain ⟨A, hAd⟩ : ∃ A, A = a.natAbs := ⟨_, rfl⟩
    obtain ⟨B, hBd⟩ : ∃ B, B = b.natAbs := ⟨_, rfl⟩
    obtain ⟨C, hCd⟩ : ∃ C, C = c.natAbs := ⟨_, rfl⟩
    have hA64 : A ≤ 9223372036854775808 := by unfold I64 at ha; omega
    have hB64 : B ≤ 9223372036854775808 := by unfold I64 at hb; omega
    have hC64 : C ≤ 9223372036854775808 := by unfold I64 at hc; omega
    rw [← hAd] at hA
    rw [← hBd] at hB
    rw [← hCd] at hC hCpos
    rw [← hAd, ← hBd, ← hCd]
    have hM := fun W => wmul_any A B (by omega) (by omega) W
    obtain ⟨P, hPd⟩ : ∃ P, P = A * B := ⟨_, rfl⟩
    have hP : P ≤ 9223372036854775808 * 9223372036854775808 := by rw [hPd]; exact Nat.mul_le_mul hA64 hB64
    rw [← hPd] at hM
    rw [← hPd]
    obtain ⟨Ph, hPh⟩ : ∃ Ph, Ph = P / 18446744073709551616 := ⟨_, rfl⟩
    obtain ⟨Pl, hPl⟩ : ∃ Pl, Pl = P % 18446744073709551616 := ⟨_, rfl⟩
    rw [← hPh, ← hPl] at hM
    have hD := fun W => wdiv_any Ph Pl C (by omega) (by omega) hCpos (by omega) W
    have hPs : P = Ph * 18446744073709551616 + Pl := by omega
    have htq := Dv.two_digits (u := 0) (u1 := Ph) (u0 := Pl) (y := C) (B := 18446744073709551616) hCpos
    have htr := Dv.two_rest (u := 0) (u1 := Ph) (u0 := Pl) (y := C) (B := 18446744073709551616)
    simp only [Nat.zero_mul, Nat.zero_add] at htq htr
    rw [← hPs] at htq htr
    obtain ⟨qh, hqh⟩ : ∃ qh, qh = Ph / C := ⟨_, rfl⟩
    obtain ⟨ql, hql⟩ : ∃ ql, ql = (Ph % C * 18446744073709551616 + Pl) / C := ⟨_, rfl⟩
    obtain ⟨rr, hrr⟩ : ∃ rr, rr = P % C := ⟨_, rfl⟩
    obtain ⟨q, hq⟩ : ∃ q, q = P / C := ⟨_, rfl⟩
    rw [htr, ← hqh, ← hql, ← hrr] at hD
    rw [← hqh, ← hql, ← hq] at htq
    have hqllt : ql < 18446744073709551616 := by
      rw [hql]
      refine (Nat.div_lt_iff_lt_mul hCpos).2 ?_
      have := Nat.mod_lt Ph hCpos
      omega
    have hqle : q ≤ P := by rw [hq]; exact Nat.div_le_self _ _
    have hrC : rr < C := by rw [hrr]; exact Nat.mod_lt _ hCpos
    rw [← hrr, ← hq]
    have HA := Lib.hid (And.intro hA (And.intro hB (And.intro hC (And.intro hM hD))))
    have HQ := Lib.hid htq
    have HLE := Lib.hid (And.intro hqle (And.intro hP hqllt))
    have t3 : decide (round < 0) = false := by rcases hr with rfl | rfl | rfl <;> rfl
    have t4 : decide (2 < round) = false := by rcases hr with rfl | rfl | rfl <;> rfl
    have HR := Lib.hid hr
    obtain ⟨m, hm⟩ : ∃ m, m = mdMinus a b c := ⟨_, rfl⟩
    have hm2 : (!((!(decide (a < 0) == decide (b < 0))) == decide (c < 0))) = m := by rw [hm]; rfl
    rw [← hm]
    obtain ⟨mo, hmo⟩ : ∃ mo, mo = mdMore m round rr C q := ⟨_, rfl⟩
    rw [← hmo]
    have HMO := Lib.hid hmo
    clear hmo
    obtain ⟨q2, hq2⟩ : ∃ q2, q2 = q + mo.toNat := ⟨_, rfl⟩
    rw [← hq2]
    obtain ⟨h2, hh2⟩ : ∃ h2, h2 = q2 / 18446744073709551616 := ⟨_, rfl⟩
    obtain ⟨l2, hl2⟩ : ∃ l2, l2 = q2 % 18446744073709551616 := ⟨_, rfl⟩
    have HQ2 := Lib.hid (And.intro hq2 (And.intro hh2 hl2))
    obtain ⟨x1, hx1⟩ : ∃ x1, x1 = (mdEnd m q2).1 := ⟨_, rfl⟩
    obtain ⟨x2, hx2⟩ : ∃ x2, x2 = (mdEnd m q2).2 := ⟨_, rfl⟩
    rw [← hx1, ← hx2]
    have HX := Lib.hid (And.intro hx1 hx2)
    clear hx1 hx2 hq2 hh2 hl2
    clear hA hB hC hM hD htq htr hqh hql hrr hq hPs hPh hPl hPd hP hAd hBd hCd hqle hV hc0 hr hm ha hb hc
    go_enter Try.func36, Try.ntmps36
    go_wp2_with fail
    refine (HA.out.1 _).mono ?_
    rintro e w1 ⟨rfl, rfl⟩
    go_wp2_with fail
    refine (HA.out.2.1 _).mono ?_
    rintro e w1 ⟨rfl, rfl⟩
    go_wp2_with fail
    refine (HA.out.2.2.2.1 _).mono ?_
    rintro e w1 ⟨rfl, hb1⟩
    go_wp2_with fail
    refine (HA.out.2.2.1 _).mono ?_
    rintro e w2 ⟨rfl, rfl⟩
    go_wp2_with fail
    refine (HA.out.2.2.2.2 _).mono ?_
    rintro e w2 ⟨rfl, hb2⟩
    have hb : Below w.heap.size w w2 := hb1.trans (hb2.mono hb1.size)
    have hz := hb.size
    clear hb1 hb2
    have B0 : Blk (w2.alloc (.cells #[.int .u64 qh, .int .u64 ql] 78)) w2.heap.size 78 #[.int .u64 qh, .int .u64 ql] := Blk.new _ _ _
    go_upto_block 0 with fail
    go_cut [14] (fun s14 wx => s14 = .bool mo ∧ w2.alloc (.cells #[.int .u64 qh, .int .u64 ql] 78) = wx)
    case first =>
      by_cases hrr : rr = 0
      · have t5 : ((rr : Int) == 0) = true := by simp [hrr]
        have hv : mo = false := by rw [HMO.out, mdMore, if_pos hrr]
        have HV := Lib.hid hv
        clear hrr hv hm2
        go_wp2_with fail
        go_meet
        exact ⟨by rw [HV.out], rfl⟩
      · have t5 : ((rr : Int) == 0) = false := beq_eq_false_iff_ne.2 (by omega)
        rcases HR.out with rfl | rfl | rfl
        · have hv : mo = m := by rw [HMO.out, mdMore, if_neg hrr, if_pos rfl]
          have HV := Lib.hid hv
          clear hrr hv
          go_wp2_with fail
          go_meet
          exact ⟨by rw [HV.out], rfl⟩
        · have hv : mo = !m := by rw [HMO.out, mdMore, if_neg hrr, if_neg (by omega), if_pos rfl]
          have HV := Lib.hid hv
          clear hrr hv
          go_wp2_with fail
          go_meet
          exact ⟨by rw [HV.out], rfl⟩
        · have hv : mo = (decide (C - rr < rr) || (decide (rr = C - rr) && decide (q % 2 = 1))) := by rw [HMO.out, mdMore, if_neg hrr, if_neg (by omega), if_neg (by omega)]
          obtain ⟨l, hl⟩ : ∃ l, l = C - rr := ⟨_, rfl⟩
          rw [← hl] at hv
          have eL : IntKind.u64.wrap ((C : Int) - (rr : Int)) = (l : Int) := by rw [show (C : Int) - (rr : Int) = (l : Int) from by omega, wrapLt (by omega)]
          have eO : bits .and .u64 (ql : Int) 1 = ((ql % 2 : Nat) : Int) := by
            have h := andU_nat ql 1 hqllt (by omega)
            rw [show (1 : Nat) = 2 ^ 1 - 1 from rfl, Nat.and_two_pow_sub_one_eq_mod] at h
            exact h
          have hq2 : q % 2 = ql % 2 := by have := HQ.out; omega
          rw [hq2] at hv
          obtain ⟨od, hod⟩ : ∃ od, od = ql % 2 := ⟨_, rfl⟩
          rw [← hod] at hv eO
          have HV := Lib.hid hv
          have HO := Lib.hid hod
          clear hrr hv hq2 hod hl
          by_cases h1 : l < rr
          · have d0 : ((l : Int) < (rr : Int)) := by omega
            go_wp2_with fail
            refine (HA.out.2.2.1 _).mono ?_
            rintro e w3 ⟨rfl, rfl⟩
            go_wp2_with fail
            go_meet
            exact ⟨by rw [HV.out]; simp [h1], rfl⟩
          · have d0 : decide (l < rr) = false := by simp; omega
            by_cases h2 : rr = l
            · have d1 : ((rr : Int) == (l : Int)) = true := by simp [h2]
              have H2 := Lib.hid (And.intro h1 h2)
              clear h1 h2
              by_cases h3 : od = 1
              · have d2 : ((od : Int) == 1) = true := by simp [h3]
                have H3 := Lib.hid h3
                clear h3
                go_wp2_with fail
                refine (HA.out.2.2.1 _).mono ?_
                rintro e w3 ⟨rfl, rfl⟩
                go_wp2_with fail
                go_meet
                exact ⟨by rw [HV.out]; simp [H2.out.2, H3.out], rfl⟩
              · have d2 : ((od : Int) == 1) = false := beq_eq_false_iff_ne.2 (by omega)
                have H3 := Lib.hid h3
                clear h3
                go_wp2_with fail
                refine (HA.out.2.2.1 _).mono ?_
                rintro e w3 ⟨rfl, rfl⟩
                go_wp2_with fail
                go_meet
                exact ⟨by rw [HV.out]; simp [H3.out, H2.out.1], rfl⟩
            · have d1 : ((rr : Int) == (l : Int)) = false := beq_eq_false_iff_ne.2 (by omega)
              have H2 := Lib.hid (And.intro h1 h2)
              clear h1 h2
              go_wp2_with fail
              refine (HA.out.2.2.1 _).mono ?_
              rintro e w3 ⟨rfl, rfl⟩
              go_wp2_with fail
              go_meet
              exact ⟨by rw [HV.out]; simp [H2.out.1, H2.out.2], rfl⟩
    case rest =>
      obtain ⟨rfl, rfl⟩ := hcut
      clear hm2
      go_upto_if 76 with fail
      go_cut [12] (fun s12 wx => s12 = .int .i64 0 ∧ Blk wx w2.heap.size 78 #[.int .u64 h2, .int .u64 l2] ∧ Below w.heap.size w wx)
      case first =>
        obtain ⟨hqle, hP, hql64⟩ := HLE.out
        have hqq := HQ.out
        obtain ⟨e1, e2, e3⟩ := HQ2.out
        cases mo
        · have f1 : h2 = qh := by rw [e2, e1]; simp; omega
          have f2 : l2 = ql := by rw [e3, e1]; simp; omega
          have HF := Lib.hid (And.intro f1 f2)
          clear hqle hP hql64 hqq e1 e2 e3 f1 f2
          go_wp2_with fail
          go_meet
          exact ⟨rfl, by rw [HF.out.1, HF.out.2]; exact B0, hb.alloc hz _⟩
        · have hadd := fun W => wadd_one qh ql hqllt (by omega) W
          have f1 : qh + (ql + 1) / 18446744073709551616 = h2 := by rw [e2, e1]; simp; omega
          have f2 : (ql + 1) % 18446744073709551616 = l2 := by rw [e3, e1]; simp; omega
          rw [f1, f2] at hadd
          have HADD := Lib.hid hadd
          have hof : ∀ W : World, Calls Try.prog 43 #[.int .u64 1] W fun e w' => e = .returned (.agg #[.int .u64 0, .int .u64 1]) ∧ Below W.heap.size W w' := fun W => wof_any 1 W
          have HOF := Lib.hid hof
          clear hqle hP hql64 hqq e1 e2 e3 f1 f2 hadd hof
          have b0 := B0.cell 0
          have b1 := B0.cell 1
          simp at b0 b1
          go_wp2_with fail
          refine wp_region_script2 [] 0 1 [(1, false), (2, false), (3, true), (4, true), (5, true), (6, false), (7, false)] [(0, false), (2, false), (3, true), (4, true), (5, true), (6, false), (7, false)] (fun w' => True) (by kernel_rfl) (by kernel_rfl) (fun _ _ _ _ _ h => h) trivial ?_
          refine script_nil ?_
          refine ⟨?_, ?_⟩
          · (refine script_run (v := ?_) (w' := ?_) rfl ?_ ?_ ?_ ?_; rotate_left 2; (first | rfl | (go_simp; done)); (go_simp; refine ⟨?_, ?_⟩ <;> with_reducible rfl); (exact trivial); simp only [Act.put, List.setIfInBounds_toArray, List.set_cons_zero, List.set_cons_succ])
            (refine script_call 43 ?_ rfl ?_ ?_ ?_; rotate_left; (first | rfl | (go_simp; done)); (go_simp; with_reducible rfl))
            refine (HOF.out _).mono ?_
            rintro e w3 ⟨rfl, hb3⟩
            refine ⟨_, rfl, trivial, ?_⟩
            simp only [Act.put, List.setIfInBounds_toArray, List.set_cons_zero, List.set_cons_succ]
            (refine script_call 42 ?_ rfl ?_ ?_ ?_; rotate_left; (first | rfl | (go_simp; done)); (go_simp; with_reducible rfl))
            refine (HADD.out _).mono ?_
            rintro e w4 ⟨rfl, hb4⟩
            have HB := (Below.refl (w2.alloc (.cells #[.int .u64 qh, .int .u64 ql] 78)).heap.size (w2.alloc (.cells #[.int .u64 qh, .int .u64 ql] 78))).drew.trans (hb3.trans (hb4.mono hb3.size))
            have hb4' : Below w.heap.size w w4 := (hb.alloc hz (.cells #[.int .u64 qh, .int .u64 ql] 78)).trans (HB.mono (by simp; omega))
            have B4 : Blk w4 w2.heap.size 78 _ := B0.below HB (by simp)
            refine ⟨_, rfl, trivial, ?_⟩
            simp only [Act.put, List.setIfInBounds_toArray, List.set_cons_zero, List.set_cons_succ]
            (refine script_take (v := ?_) rfl ?_ ?_ ?_; rotate_left; (first | rfl | (go_simp; done)); (intro w' _; go_simp; with_reducible rfl); simp only [Act.put, List.setIfInBounds_toArray, List.set_cons_zero, List.set_cons_succ])
            (refine script_take (v := ?_) rfl ?_ ?_ ?_; rotate_left; (first | rfl | (go_simp; done)); (intro w' _; go_simp; with_reducible rfl); simp only [Act.put, List.setIfInBounds_toArray, List.set_cons_zero, List.set_cons_succ])
            (refine script_take (v := ?_) rfl ?_ ?_ ?_; rotate_left; (first | rfl | (go_simp; done)); (intro w' _; go_simp; with_reducible rfl); simp only [Act.put, List.setIfInBounds_toArray, List.set_cons_zero, List.set_cons_succ])
            have c0 := B4.cell 0
            have c1 := B4.cell 1
            have f0 := B4.frozen
            simp at c0 c1
            (refine script_run0 (w' := ?_) rfl ?_ ?_ ?_ ?_; rotate_left; (first | rfl | (go_simp; done)); (go_simp; with_reducible rfl); (exact trivial); simp only [Act.put, List.setIfInBounds_toArray, List.set_cons_zero, List.set_cons_succ])
            (refine script_run (v := ?_) (w' := ?_) rfl ?_ ?_ ?_ ?_; rotate_left 2; (first | rfl | (go_simp; done)); (go_simp; refine ⟨?_, ?_⟩ <;> with_reducible rfl); (exact trivial); simp only [Act.put, List.setIfInBounds_toArray, List.set_cons_zero, List.set_cons_succ])
            refine script_nil ?_
            go_wp2_with fail
            go_meet
            exact ⟨rfl, stores_all B4 [.int .u64 h2, .int .u64 l2] rfl, (hb4'.setCell (by simp; omega) _).setCell (by simp; omega) _⟩
          · (refine script_call 43 ?_ rfl ?_ ?_ ?_; rotate_left; (first | rfl | (go_simp; done)); (go_simp; with_reducible rfl))
            refine (HOF.out _).mono ?_
            rintro e w3 ⟨rfl, hb3⟩
            have B3 : Blk w3 w2.heap.size 78 _ := B0.drew.below hb3 (by simp)
            have b3 := B3.cell 0
            have b4 := B3.cell 1
            simp at b3 b4
            refine ⟨_, rfl, trivial, ?_⟩
            simp only [Act.put, List.setIfInBounds_toArray, List.set_cons_zero, List.set_cons_succ]
            (refine script_run (v := ?_) (w' := ?_) rfl ?_ ?_ ?_ ?_; rotate_left 2; (first | rfl | (go_simp; done)); (go_simp; refine ⟨?_, ?_⟩ <;> with_reducible rfl); (exact trivial); simp only [Act.put, List.setIfInBounds_toArray, List.set_cons_zero, List.set_cons_succ])
            (refine script_call 42 ?_ rfl ?_ ?_ ?_; rotate_left; (first | rfl | (go_simp; done)); (go_simp; with_reducible rfl))
            refine (HADD.out _).mono ?_
            rintro e w4 ⟨rfl, hb4⟩
            have HB := (Below.refl (w2.alloc (.cells #[.int .u64 qh, .int .u64 ql] 78)).heap.size (w2.alloc (.cells #[.int .u64 qh, .int .u64 ql] 78))).drew.trans (hb3.trans (hb4.mono hb3.size))
            have hb4' : Below w.heap.size w w4 := (hb.alloc hz (.cells #[.int .u64 qh, .int .u64 ql] 78)).trans (HB.mono (by simp; omega))
            have B4 : Blk w4 w2.heap.size 78 _ := B0.below HB (by simp)
            refine ⟨_, rfl, trivial, ?_⟩
            simp only [Act.put, List.setIfInBounds_toArray, List.set_cons_zero, List.set_cons_succ]
            (refine script_take (v := ?_) rfl ?_ ?_ ?_; rotate_left; (first | rfl | (go_simp; done)); (intro w' _; go_simp; with_reducible rfl); simp only [Act.put, List.setIfInBounds_toArray, List.set_cons_zero, List.set_cons_succ])
            (refine script_take (v := ?_) rfl ?_ ?_ ?_; rotate_left; (first | rfl | (go_simp; done)); (intro w' _; go_simp; with_reducible rfl); simp only [Act.put, List.setIfInBounds_toArray, List.set_cons_zero, List.set_cons_succ])
            (refine script_take (v := ?_) rfl ?_ ?_ ?_; rotate_left; (first | rfl | (go_simp; done)); (intro w' _; go_simp; with_reducible rfl); simp only [Act.put, List.setIfInBounds_toArray, List.set_cons_zero, List.set_cons_succ])
            have c0 := B4.cell 0
            have c1 := B4.cell 1
            have f0 := B4.frozen
            simp at c0 c1
            (refine script_run0 (w' := ?_) rfl ?_ ?_ ?_ ?_; rotate_left; (first | rfl | (go_simp; done)); (go_simp; with_reducible rfl); (exact trivial); simp only [Act.put, List.setIfInBounds_toArray, List.set_cons_zero, List.set_cons_succ])
            (refine script_run (v := ?_) (w' := ?_) rfl ?_ ?_ ?_ ?_; rotate_left 2; (first | rfl | (go_simp; done)); (go_simp; refine ⟨?_, ?_⟩ <;> with_reducible rfl); (exact trivial); simp only [Act.put, List.setIfInBounds_toArray, List.set_cons_zero, List.set_cons_succ])
            refine script_nil ?_
            go_wp2_with fail
            go_meet
            exact ⟨rfl, stores_all B4 [.int .u64 h2, .int .u64 l2] rfl, (hb4'.setCell (by simp; omega) _).setCell (by simp; omega) _⟩
      case rest =>
        clear B0
        obtain ⟨rfl, B2, hb2⟩ := hcut
        have c0 := B2.cell 0
        have c1 := B2.cell 1
        simp at c0 c1
        obtain ⟨hqle, hP, hql64⟩ := HLE.out
        have hqq := HQ.out
        obtain ⟨e1, e2, e3⟩ := HQ2.out
        obtain ⟨y1, y2⟩ := HX.out
        have mle : mo.toNat ≤ 1 := by cases mo <;> simp
        cases m
        · by_cases ho : 9223372036854775807 < q2
          · have hv : mdEnd false q2 = (0, 10) := if_pos (by simpa using ho)
            have HV := Lib.hid (show x1 = 0 ∧ x2 = 10 by rw [y1, y2, hv]; exact ⟨rfl, rfl⟩)
            by_cases hh : h2 = 0
            · have d1 : ((h2 : Int) != 0) = false := by simp [hh]
              have d2 : (9223372036854775807 : Int) < (l2 : Int) := by omega
              clear hqle hP hql64 hqq e1 e2 e3 y1 y2 mle ho hv hh
              go_wp2_with fail
              go_ret2
              exact ⟨by rw [HV.out.1, HV.out.2]; rfl, hb2⟩
            · have d1 : ((h2 : Int) != 0) = true := by rw [bne_iff_ne]; omega
              clear hqle hP hql64 hqq e1 e2 e3 y1 y2 mle ho hv hh
              go_wp2_with fail
              go_ret2
              exact ⟨by rw [HV.out.1, HV.out.2]; rfl, hb2⟩
          · have hv : mdEnd false q2 = ((q2 : Int), 0) := by unfold mdEnd; rw [if_neg (by simpa using ho)]; rfl
            have HV := Lib.hid (show x1 = (l2 : Int) ∧ x2 = 0 by rw [y1, y2, hv]; exact ⟨by show (q2 : Int) = (l2 : Int); omega, rfl⟩)
            have d1 : ((h2 : Int) != 0) = false := by have : h2 = 0 := by omega
                                                      simp [this]
            have d2 : decide ((9223372036854775807 : Int) < (l2 : Int)) = false := by simp; omega
            have bl : (l2 : Int) ≤ 9223372036854775807 := by omega
            clear hqle hP hql64 hqq e1 e2 e3 y1 y2 mle ho hv
            go_wp2_with fail
            go_ret2
            exact ⟨by rw [HV.out.1, HV.out.2]; rfl, hb2⟩
        · by_cases ho : 9223372036854775808 < q2
          · have hv : mdEnd true q2 = (0, 10) := if_pos (by simpa using ho)
            have HV := Lib.hid (show x1 = 0 ∧ x2 = 10 by rw [y1, y2, hv]; exact ⟨rfl, rfl⟩)
            by_cases hh : h2 = 0
            · have d1 : ((h2 : Int) != 0) = false := by simp [hh]
              have d2 : (9223372036854775808 : Int) < (l2 : Int) := by omega
              clear hqle hP hql64 hqq e1 e2 e3 y1 y2 mle ho hv hh
              go_wp2_with fail
              go_ret2
              exact ⟨by rw [HV.out.1, HV.out.2]; rfl, hb2⟩
            · have d1 : ((h2 : Int) != 0) = true := by rw [bne_iff_ne]; omega
              clear hqle hP hql64 hqq e1 e2 e3 y1 y2 mle ho hv hh
              go_wp2_with fail
              go_ret2
              exact ⟨by rw [HV.out.1, HV.out.2]; rfl, hb2⟩
          · have hv : mdEnd true q2 = (-(q2 : Int), 0) := by unfold mdEnd; rw [if_neg (by simpa using ho)]; rfl
            have HV := Lib.hid (show x1 = -(l2 : Int) ∧ x2 = 0 by rw [y1, y2, hv]; exact ⟨by show -(q2 : Int) = -(l2 : Int); omega, rfl⟩)
            have d1 : ((h2 : Int) != 0) = false := by have : h2 = 0 := by omega
                                                      simp [this]
            have d2 : decide ((9223372036854775808 : Int) < (l2 : Int)) = false := by simp; omega
            have bl : l2 ≤ 9223372036854775808 := by omega
            have eN : wrap64 (IntKind.u64.wrap (-(l2 : Int))) = -(l2 : Int) := by rw [wrapU]; unfold wrap64; omega
            have HBL := Lib.hid bl
            clear hqle hP hql64 hqq e1 e2 e3 y1 y2 mle ho hv bl
            go_wp2_with fail
            go_ret2
            exact ⟨by rw [HV.out.1, HV.out.2]; exact congrArg (fun z => Ending.returned (.tuple #[.int .i64 z, .int .i64 0])) eN, hb2⟩
end Go.Proofs.Ytjjpmckefglhnaa
