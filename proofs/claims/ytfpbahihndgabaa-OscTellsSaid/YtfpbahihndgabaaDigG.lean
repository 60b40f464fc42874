/-
  The reference's digits: Round.
-/
import Derived.Test.YtfpbahihndgabaaDigF
import Derived.Deep.DeepCutAuto
import Derived.Deep.CutBlock
namespace Go.Proofs.Ytfpbahihndgabaa
set_option linter.unusedSimpArgs false
set_option linter.unusedVariables false
open Go.RowKit

theorem nd_succ (q : Nat) : nd (q + 1) ≤ nd q + 1 := by
  refine nd_le.2 ?_
  have h := nd_le.1 (Nat.le_refl (nd q))
  rw [Nat.pow_succ]
  generalize 65536 ^ nd q = p at *
  omega
theorem nd_pos {x : Nat} : 0 < nd x ↔ 0 < x := by
  have h := nd_lt (i := 0) (x := x)
  rwa [Nat.pow_zero, Nat.div_one] at h
theorem tri_1 {y z : Nat} {b : Bool} (h : y < z) : true = (decide (y < z) || b) := by rw [decide_eq_true h]; rfl
theorem tri_2 {y z : Nat} {b : Bool} (h : z = y) : b = (decide (y < z) || (decide (z = y) && b)) := by rw [decide_eq_false (show ¬ y < z by omega), decide_eq_true h]; simp
theorem tri_3 {y z : Nat} {b : Bool} (h : z < y) : false = (decide (y < z) || (decide (z = y) && b)) := by rw [decide_eq_false (show ¬ y < z by omega), decide_eq_false (show ¬ z = y by omega)]; simp
theorem odd_is (d : Nat) : (((d % 2 : Nat) : Int) == 1) = decide (d % 2 = 1) := by
  generalize d % 2 = e
  by_cases h : e = 1
  · subst h; rfl
  · rw [decide_eq_false h]; exact beq_eq_false_iff_ne.2 (by omega)
def rndMore (m : Bool) (rd : Int) (r y q : Nat) : Bool := if rd = 0 then m else if rd = 1 then !m else decide (y < r + r) || (decide (r + r = y) && decide (q % 2 = 1))
def rndV (x y : Nat) (m : Bool) (rd : Int) : Nat := if x % y = 0 then x / y else x / y + (rndMore m rd (x % y) y (x / y)).toNat
set_option maxRecDepth 100000 in
set_option maxHeartbeats 4000000 in
theorem Round_any (x y : Nat) (va vb : Value) (m : Bool) (rd : Int) (w : World) (ha : Dg w va x) (hb : Dg w vb y) (hy : 0 < y) (hx1 : nd x ≤ 1000) (hy1 : nd y ≤ 1000) :
    Calls Try.prog 41 #[va, vb, .bool m, .int .i64 rd] w fun e w' => ∃ q, e = .returned (.tuple #[q, .bool (m && decide (0 < rndV x y m rd))]) ∧ Dg w' q (rndV x y m rd) ∧ Own w.heap.size q ∧ Below w.heap.size w w' := by
  have HDiv := Lib.hid (Div_any x y va vb w ha hb hy hx1 hy1)
  have hDB := Lib.hid hb
  obtain ⟨V, hV⟩ : ∃ V, V = rndV x y m rd := ⟨_, rfl⟩
  rw [← hV]
  obtain ⟨q, hq⟩ : ∃ q, q = x / y := ⟨_, rfl⟩
  obtain ⟨r, hr⟩ : ∃ r, r = x % y := ⟨_, rfl⟩
  have hnq : nd q ≤ 1000 := Nat.le_trans (nd_mono (by rw [hq]; exact Nat.div_le_self _ _)) hx1
  have hry : r < y := by rw [hr]; exact Nat.mod_lt _ hy
  have hnr : nd r ≤ 1000 := Nat.le_trans (nd_mono (Nat.le_of_lt hry)) hy1
  have hn2 : nd (r + r) ≤ 1001 := Nat.le_trans (nd_twice (y := y) (by omega)) (by omega)
  have hn1 : nd (q + 1) ≤ 1001 := Nat.le_trans (nd_succ q) (by omega)
  have hv : V = if r = 0 then q else q + (rndMore m rd r y q).toNat := by rw [hV, hq, hr]; rfl
  rw [← hq, ← hr] at HDiv
  have HV := Lib.hid hv
  have HN := Lib.hid (And.intro hnq (And.intro hnr (And.intro hn2 hn1)))
  clear ha hb hV hq hr hx1 hy1 hv hnq hnr hn2 hn1 hy
  go_enter Try.func41, Try.ntmps41
  go_wp2_with fail
  refine HDiv.out.mono ?_
  rintro e w1 ⟨vq, vr, rfl, dq, oq, dr, or_, b1⟩
  have DQ := Lib.hid dq
  have DR := Lib.hid dr
  obtain ⟨Aq, nq, cq, rfl, hq1, hq2, hq3, hq4⟩ := dq
  obtain ⟨Ar, nr, cr, rfl, hr1, hr2, hr3, hr4⟩ := dr
  have hpr : 0 < nr ↔ 0 < r := by rw [hr2]; exact nd_pos
  have hpq : 0 < nq ↔ 0 < q := by rw [hq2]; exact nd_pos
  have HQ4 := Lib.hid (And.intro hq2 hq4)
  have hrv : (m && decide (0 < nq)) = (m && decide (0 < q)) := by rw [decide_eq_decide.2 hpq]
  have HRV := Lib.hid hrv
  have OQ := Lib.hid oq
  clear hq4 hr4 hq2 hr2 HDiv oq or_ hrv
  by_cases h0 : r = 0
  · have d0 : ((nr : Int) == 0) = true := by simp; omega
    have hVV : V = q := by rw [HV.out, if_pos h0]
    have HVV := Lib.hid hVV
    have HP := Lib.hid hpq
    clear h0 hpr hpq hVV hry hr1 hr3
    cases m
    · go_wp2_with fail
      go_ret2
      exact ⟨_, rfl, by rw [HVV.out]; exact DQ.out, OQ.out, b1⟩
    · go_wp2_with fail
      go_ret2
      exact ⟨_, by rw [HVV.out]; simp [HP.out], by rw [HVV.out]; exact DQ.out, OQ.out, b1⟩
  · have d0 : ((nr : Int) == 0) = false := beq_eq_false_iff_ne.2 (by omega)
    obtain ⟨mo, hmo⟩ : ∃ mo, mo = rndMore m rd r y q := ⟨_, rfl⟩
    have hVV : V = q + mo.toNat := by rw [HV.out, if_neg h0, hmo]
    have HVV := Lib.hid hVV
    have HMO := Lib.hid hmo
    have HP := Lib.hid hpq
    clear h0 hpr hpq hVV hmo
    go_upto_block 0 with fail
    go_cut [12] (fun s12 wx => s12 = .bool mo ∧ Hid (Dg wx (.slice Aq nq cq) q) ∧ Below w.heap.size w wx)
    case first =>
      by_cases h1 : rd = 0
      · have t1 : ((rd : Int) == 0) = true := by simp [h1]
        have hv : mo = m := by rw [HMO.out, rndMore, if_pos h1]
        have HV := Lib.hid hv
        clear hv h1 hr1 hr3 hry
        go_wp2_with fail
        go_meet
        exact ⟨by rw [HV.out], DQ, b1⟩
      · have t1 : ((rd : Int) == 0) = false := beq_eq_false_iff_ne.2 h1
        by_cases h2 : rd = 1
        · have t2 : ((rd : Int) == 1) = true := by simp [h2]
          have hv : mo = !m := by rw [HMO.out, rndMore, if_neg h1, if_pos h2]
          have HV := Lib.hid hv
          clear hv h1 h2 hr1 hr3 hry
          go_wp2_with fail
          go_meet
          exact ⟨by rw [HV.out], DQ, b1⟩
        · have t2 : ((rd : Int) == 1) = false := beq_eq_false_iff_ne.2 h2
          have hv : mo = (decide (y < r + r) || (decide (r + r = y) && decide (q % 2 = 1))) := by rw [HMO.out, rndMore, if_neg h1, if_neg h2]
          have HV := Lib.hid hv
          have HAdd := Lib.hid (Add_any r r _ _ w1 DR.out DR.out (by have := HN.out; omega) (by have := HN.out; omega) (by have := HN.out; omega))
          clear hv h1 h2 hr1 hr3 hry
          go_wp2_with fail
          refine HAdd.out.mono ?_
          rintro e w2 ⟨v2, rfl, d2, o2, b2⟩
          have hbs := b1.size
          have bw2 : Below w.heap.size w w2 := b1.trans (b2.mono hbs)
          have dq2 := DQ.out.below b2
          have DQ2 := Lib.hid dq2
          have HC := Lib.hid (Cmp_any (r + r) y v2 vb w2 d2 (hDB.out.below bw2))
          clear dq2 HAdd d2 o2 b2 hbs
          go_wp2_with fail
          refine HC.out.mono ?_
          rintro e w3 ⟨rfl, b3⟩
          have hbs2 := bw2.size
          have bw3 : Below w.heap.size w w3 := bw2.trans (b3.mono hbs2)
          have DQ3 := Lib.hid (DQ2.out.below b3)
          have hq3' := HQ4.out.2
          obtain ⟨cv, hcv⟩ : ∃ cv, cv = cmpV (r + r) y := ⟨_, rfl⟩
          rw [← hcv]
          have hcv2 : (cv = 1 ∧ y < r + r) ∨ (cv = 0 ∧ r + r = y) ∨ (cv = -1 ∧ r + r < y) := by
            rcases Nat.lt_trichotomy (r + r) y with h | h | h
            · right; right; exact ⟨by rw [hcv]; exact cmp_lt h, h⟩
            · right; left; exact ⟨by rw [hcv, h]; exact cmp_eq _, h⟩
            · left; exact ⟨by rw [hcv]; exact cmp_gt h, h⟩
          have hodd : nq = 0 ∧ decide (q % 2 = 1) = false ∨ 0 < nq ∧ ∃ (ad : Addr) (d : Nat), Aq = some ad ∧ w3.cell? ad = some (.int .i64 (d : Nat)) ∧ decide (q % 2 = 1) = decide (d % 2 = 1) ∧ d < 65536 := by
            rcases Nat.eq_zero_or_pos nq with h | h
            · left
              refine ⟨h, ?_⟩
              have : q = 0 := by have := HP.out; omega
              simp [this]
            · right
              refine ⟨h, ?_⟩
              obtain ⟨_, _, _, he, _, _, _, hR⟩ := DQ3.out
              injection he with e1 e2 e3
              subst e1; subst e2; subst e3
              obtain ⟨ad, rfl, _, hc⟩ := hR.2 h
              have hc0 := hc 0 (iv (q % 65536)) (by rw [List.getElem?_map, digs_at (by rw [← HQ4.out.1]; exact h)]; simp)
              have hz : ad.add 0 = ad := by cases ad; simp [Addr.add]
              rw [hz] at hc0
              exact ⟨ad, q % 65536, rfl, hc0, by rw [Nat.mod_mod_of_dvd _ (by decide)], by omega⟩
          clear hcv DQ2 bw2 b3 hbs2 HC hq3'
          rcases hodd with ⟨h1, hod⟩ | ⟨h1, ad, d, rfl, hcell, hod, hd⟩
          · have hvv : mo = (decide (y < r + r) || (decide (r + r = y) && false)) := by rw [HV.out, hod]
            have HVV2 := Lib.hid hvv
            clear hod hvv
            subst h1
            rcases hcv2 with ⟨rfl, h⟩ | ⟨rfl, h⟩ | ⟨rfl, h⟩
            all_goals
              have HH := Lib.hid h
              clear h
              go_wp2_with fail
              go_meet
              exact ⟨by rw [HVV2.out]; exact congrArg Value.bool (by first | exact tri_1 HH.out | exact tri_2 HH.out | exact tri_3 HH.out), DQ3, bw3⟩
          · have t3 : 0 < (nq : Int) := by omega
            obtain ⟨o, ho⟩ : ∃ o, o = decide (d % 2 = 1) := ⟨_, rfl⟩
            have f2 : ((d : Int) % 2 == 1) = o := by rw [ho]; exact odd_is d
            have hvv : mo = (decide (y < r + r) || (decide (r + r = y) && o)) := by rw [HV.out, hod, ho]
            have HVV2 := Lib.hid hvv
            clear hod ho hvv h1
            rcases hcv2 with ⟨rfl, h⟩ | ⟨rfl, h⟩ | ⟨rfl, h⟩
            all_goals
              have HH := Lib.hid h
              clear h
              cases o
              all_goals
                go_wp2_with fail
                go_meet
                exact ⟨by rw [HVV2.out]; exact congrArg Value.bool (by first | exact tri_1 HH.out | exact tri_2 HH.out | exact tri_3 HH.out), DQ3, bw3⟩
    case rest =>
      obtain ⟨rfl, DQ3, bw3⟩ := hcut
      clear hry hr1 hr3
      cases mo
      · have hVV : V = q := by rw [HVV.out]; rfl
        have HVV2 := Lib.hid hVV
        clear hVV
        cases m
        · go_wp2_with fail
          go_ret2
          exact ⟨_, rfl, by rw [HVV2.out]; exact DQ3.out, OQ.out, bw3⟩
        · go_wp2_with fail
          go_ret2
          exact ⟨_, by rw [HVV2.out]; simp [HP.out], by rw [HVV2.out]; exact DQ3.out, OQ.out, bw3⟩
      · have hVV : V = q + 1 := by rw [HVV.out]; rfl
        have HVV2 := Lib.hid hVV
        clear hVV
        go_wp2_with fail
        have bwo := bw3.alloc bw3.size (.cells #[.int .i64 1] 3)
        refine (Add_any q 1 _ _ _ (DQ3.out.below ((Below.refl _ _).alloc (Nat.le_refl _) (.cells #[.int .i64 1] 3))) (dg_one _ 3) (by have := HN.out; omega) (by decide) (by have := HN.out; omega)).mono ?_
        rintro e w4 ⟨v4, rfl, d4, o4, b4⟩
        have hbs := bw3.size
        have bw4 : Below w.heap.size w w4 := bwo.trans (b4.mono (by simp; omega))
        have O4 : Own w.heap.size v4 := o4.mono (by simp; omega)
        have D4 := Lib.hid d4
        obtain ⟨A4, n4, c4, rfl, h41, h42, h43, h44⟩ := d4
        have h4p : 0 < n4 := by rw [h42]; exact nd_pos.2 (Nat.succ_pos _)
        have t4 : 0 < (n4 : Int) := by omega
        clear h44 h42 bwo b4 o4
        cases m
        · go_wp2_with fail
          go_ret2
          exact ⟨_, rfl, by rw [HVV2.out]; exact D4.out, O4, bw4⟩
        · go_wp2_with fail
          go_ret2
          exact ⟨_, by rw [HVV2.out]; simp, by rw [HVV2.out]; exact D4.out, O4, bw4⟩
end Go.Proofs.Ytfpbahihndgabaa
