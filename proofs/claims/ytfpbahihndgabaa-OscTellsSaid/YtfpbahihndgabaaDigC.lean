/-
  The reference's digits: Cmp.
-/
import Derived.Test.YtfpbahihndgabaaDigB
import Derived.Test.YtfpbahihndgabaaKitB
namespace Go.Proofs.Ytfpbahihndgabaa
set_option linter.unusedSimpArgs false
set_option linter.unusedVariables false
open Go.RowKit

def cmpV (x y : Nat) : Int := if x < y then -1 else if x = y then 0 else 1
theorem nd_less {x y : Nat} (h : nd x < nd y) : x < y := by
  have h1 : 0 < y / 65536 ^ (nd x) := nd_lt.1 h
  have h2 : ¬ 0 < x / 65536 ^ (nd x) := fun h => by have := nd_lt.2 h; omega
  have hp : 0 < 65536 ^ (nd x) := Nat.pow_pos (by omega)
  rcases Nat.lt_or_ge x y with h3 | h3
  · exact h3
  · have := Nat.div_le_div_right (c := 65536 ^ (nd x)) h3
    omega
theorem top_less {x y i : Nat} (h : x / 65536 ^ i < y / 65536 ^ i) : x < y := by
  rcases Nat.lt_or_ge x y with h3 | h3
  · exact h3
  · have := Nat.div_le_div_right (c := 65536 ^ i) h3
    omega
theorem cmp_lt {x y : Nat} (h : x < y) : cmpV x y = -1 := if_pos h
theorem cmp_gt {x y : Nat} (h : y < x) : cmpV x y = 1 := by unfold cmpV; rw [if_neg (by omega), if_neg (by omega)]
theorem cmp_eq (x : Nat) : cmpV x x = 0 := by unfold cmpV; rw [if_neg (by omega), if_pos rfl]
set_option maxRecDepth 100000 in
set_option maxHeartbeats 4000000 in
theorem Cmp_any (x y : Nat) (va vb : Value) (w : World) (ha : Dg w va x) (hb : Dg w vb y) :
    Calls Try.prog 47 #[va, vb] w fun e w' => e = .returned (.int .i64 (cmpV x y)) ∧ Below w.heap.size w w' := by
  obtain ⟨A, na, ca, rfl, ha1, ha2, ha3, ha4⟩ := ha
  obtain ⟨A2, nb, cb, rfl, hb1, hb2, hb3, hb4⟩ := hb
  by_cases hne : na = nb
  · have HA := Lib.hid ha2
    have HB := Lib.hid (hb2.symm.trans rfl)
    have hbl : nb = nd y := hb2
    have HBB := Lib.hid hbl
    have hnx : nd x = nd y := by omega
    have HR := Lib.hid (And.intro ha4 hb4)
    have htop : x / 65536 ^ na = y / 65536 ^ na := by
      have h1 : ¬ 0 < x / 65536 ^ na := fun h => by have := nd_lt.2 h; omega
      have h2 : ¬ 0 < y / 65536 ^ na := fun h => by have := nd_lt.2 h; omega
      rw [Nat.eq_zero_of_not_pos h1, Nat.eq_zero_of_not_pos h2]
    have s0 : IntKind.i64.wrap ((na : Int) - 1) = (na : Int) - 1 := IntWalk.i64_in _ ⟨by omega, by omega⟩
    have HT := Lib.hid htop
    subst hne
    clear ha2 hb2 ha4 hb4 htop hnx hbl HB
    go_enter Try.func47, Try.ntmps47
    go_wp2_with fail
    go_loopw [5] (fun i wr => ∃ k : Nat, k ≤ na ∧ i = .int .i64 ((k : Int) - 1) ∧ Hid (x / 65536 ^ k = y / 65536 ^ k) ∧ Below w.heap.size w wr) (fun i _ => (intOf i + 1).toNat)
    case atStart => exact ⟨na, Nat.le_refl _, rfl, HT, Below.refl _ _⟩
    case round =>
      obtain ⟨k, hk, rfl, hE, hb⟩ := hrel
      rcases Nat.eq_zero_or_pos k with rfl | hp
      · have hxy : x = y := by have := hE.out; simpa using this
        have HV := Lib.hid (show cmpV x y = 0 by rw [hxy]; exact cmp_eq y)
        clear hxy hE
        rw [show (((0 : Nat) : Int) - 1) = -1 from rfl]
        go_wp2_with fail
        go_ret
        exact ⟨by rw [HV.out]; rfl, hb⟩
      · obtain ⟨j, rfl⟩ : ∃ j, k = j + 1 := ⟨k - 1, by omega⟩
        rw [show (((j + 1 : Nat) : Int) - 1) = (j : Int) by omega]
        obtain ⟨ad, rfl, _, h1⟩ := (HR.out.1.below hb).2 (by omega)
        obtain ⟨ad2, rfl, _, h2⟩ := (HR.out.2.below hb).2 (by omega)
        have c1 := h1 j (iv (x / 65536 ^ j % 65536)) (by rw [List.getElem?_map, digs_at (by rw [← HA.out]; omega)]; rfl)
        have c2 := h2 j (iv (y / 65536 ^ j % 65536)) (by rw [List.getElem?_map, digs_at (by rw [← HBB.out]; omega)]; rfl)
        unfold iv at c1 c2
        obtain ⟨X, hX⟩ : ∃ X, X = x / 65536 ^ j := ⟨_, rfl⟩
        obtain ⟨Y, hY⟩ : ∃ Y, Y = y / 65536 ^ j := ⟨_, rfl⟩
        have hE' : X / 65536 = Y / 65536 := by rw [hX, hY, ← pow_step, ← pow_step]; exact hE.out
        have hlt1 : X % 65536 < Y % 65536 → cmpV x y = -1 := fun h => cmp_lt (top_less (i := j) (by rw [← hX, ← hY]; omega))
        have hlt2 : Y % 65536 < X % 65536 → cmpV x y = 1 := fun h => cmp_gt (top_less (i := j) (by rw [← hX, ← hY]; omega))
        have heq : X % 65536 = Y % 65536 → x / 65536 ^ j = y / 65536 ^ j := fun h => by rw [← hX, ← hY]; omega
        rw [← hX] at c1
        rw [← hY] at c2
        have HL1 := Lib.hid hlt1
        have HL2 := Lib.hid hlt2
        have HEQ := Lib.hid heq
        have hjn : j < na := by omega
        have f5 : IntKind.i64.wrap ((j : Int) - 1) = (j : Int) - 1 := IntWalk.i64_in _ ⟨by omega, by omega⟩
        have S0 : wr.drew.cell? (ad.add j) = some (.int .i64 ((X % 65536 : Nat) : Int)) ∧ wr.drew.cell? (ad2.add j) = some (.int .i64 ((Y % 65536 : Nat) : Int)) := ⟨c1, c2⟩
        have S1 : wr.drew.drew.cell? (ad.add j) = some (.int .i64 ((X % 65536 : Nat) : Int)) ∧ wr.drew.drew.cell? (ad2.add j) = some (.int .i64 ((Y % 65536 : Nat) : Int)) := ⟨c1, c2⟩
        have hb1 : Below w.heap.size w wr.drew := hb.drew
        have hb2 : Below w.heap.size w wr.drew.drew := hb.drew.drew
        clear hX hY hE' hlt1 hlt2 heq h1 h2 c1 c2 hE
        generalize X % 65536 = p at *
        generalize Y % 65536 = q at *
        by_cases g1 : p < q
        · have d1 : decide (p < q) = true := by simp; omega
          go_wp2_with fail
          refine wp_region_script [(0, true), (1, true), (2, true), (3, true), (4, true), (5, true), (6, true), (7, true), (8, true)] (fun w' => w'.cell? (ad.add j) = some (.int .i64 (p : Int)) ∧ w'.cell? (ad2.add j) = some (.int .i64 (q : Int))) (by kernel_rfl) (by kernel_rfl) (fun _ _ _ _ _ h => h) S0 ?_
          iterate 9 (refine script_take (v := ?_) rfl ?_ ?_ ?_; rotate_left; (first | rfl | (go_simp; done)); (rintro w' ⟨u1, u2⟩;  go_simp; with_reducible rfl); simp only [Act.put, List.setIfInBounds_toArray, List.set_cons_zero, List.set_cons_succ])
          refine script_nil ?_
          go_wp2_with fail
          go_ret
          exact ⟨by rw [HL1.out g1]; rfl, hb1⟩
        · have d1 : decide (p < q) = false := by simp; omega
          by_cases g2 : q < p
          · have d2 : decide (q < p) = true := by simp; omega
            go_wp2_with fail
            refine wp_region_script [(0, true), (1, true), (2, true), (3, true), (4, true), (5, true), (6, true), (7, true), (8, true)] (fun w' => w'.cell? (ad.add j) = some (.int .i64 (p : Int)) ∧ w'.cell? (ad2.add j) = some (.int .i64 (q : Int))) (by kernel_rfl) (by kernel_rfl) (fun _ _ _ _ _ h => h) S0 ?_
            iterate 9 (refine script_take (v := ?_) rfl ?_ ?_ ?_; rotate_left; (first | rfl | (go_simp; done)); (rintro w' ⟨u1, u2⟩;  go_simp; with_reducible rfl); simp only [Act.put, List.setIfInBounds_toArray, List.set_cons_zero, List.set_cons_succ])
            refine script_nil ?_
            go_wp2_with fail
            refine wp_region_script [(0, true), (1, true), (2, true), (3, true), (4, true), (5, true), (6, true), (7, true), (8, true)] (fun w' => w'.cell? (ad.add j) = some (.int .i64 (p : Int)) ∧ w'.cell? (ad2.add j) = some (.int .i64 (q : Int))) (by kernel_rfl) (by kernel_rfl) (fun _ _ _ _ _ h => h) S1 ?_
            iterate 9 (refine script_take (v := ?_) rfl ?_ ?_ ?_; rotate_left; (first | rfl | (go_simp; done)); (rintro w' ⟨u1, u2⟩;  go_simp; with_reducible rfl); simp only [Act.put, List.setIfInBounds_toArray, List.set_cons_zero, List.set_cons_succ])
            refine script_nil ?_
            go_wp2_with fail
            go_ret
            exact ⟨by rw [HL2.out g2]; rfl, hb2⟩
          · have d2 : decide (q < p) = false := by simp; omega
            have HE2 := Lib.hid (HEQ.out (by omega))
            clear g1 g2
            go_wp2_with fail
            refine wp_region_script [(0, true), (1, true), (2, true), (3, true), (4, true), (5, true), (6, true), (7, true), (8, true)] (fun w' => w'.cell? (ad.add j) = some (.int .i64 (p : Int)) ∧ w'.cell? (ad2.add j) = some (.int .i64 (q : Int))) (by kernel_rfl) (by kernel_rfl) (fun _ _ _ _ _ h => h) S0 ?_
            iterate 9 (refine script_take (v := ?_) rfl ?_ ?_ ?_; rotate_left; (first | rfl | (go_simp; done)); (rintro w' ⟨u1, u2⟩;  go_simp; with_reducible rfl); simp only [Act.put, List.setIfInBounds_toArray, List.set_cons_zero, List.set_cons_succ])
            refine script_nil ?_
            go_wp2_with fail
            refine wp_region_script [(0, true), (1, true), (2, true), (3, true), (4, true), (5, true), (6, true), (7, true), (8, true)] (fun w' => w'.cell? (ad.add j) = some (.int .i64 (p : Int)) ∧ w'.cell? (ad2.add j) = some (.int .i64 (q : Int))) (by kernel_rfl) (by kernel_rfl) (fun _ _ _ _ _ h => h) S1 ?_
            iterate 9 (refine script_take (v := ?_) rfl ?_ ?_ ?_; rotate_left; (first | rfl | (go_simp; done)); (rintro w' ⟨u1, u2⟩;  go_simp; with_reducible rfl); simp only [Act.put, List.setIfInBounds_toArray, List.set_cons_zero, List.set_cons_succ])
            refine script_nil ?_
            go_wp2_with fail
            go_roundw
            case rel => exact ⟨j, by omega, rfl, HE2, hb2⟩
            case measure => simp [intOf]
  · have b0 : ((na : Int) != (nb : Int)) = true := bne_iff_ne.2 (by omega)
    have HN := Lib.hid (And.intro ha2 hb2)
    by_cases hlt : na < nb
    · have d : decide ((na : Int) < (nb : Int)) = true := by simp; omega
      have HV := Lib.hid (cmp_lt (nd_less (x := x) (y := y) (by omega)))
      clear ha2 hb2 hne
      go_enter Try.func47, Try.ntmps47
      go_wp2_with fail
      go_ret
      exact ⟨by rw [HV.out]; rfl, Below.refl _ _⟩
    · have d : decide ((na : Int) < (nb : Int)) = false := by simp; omega
      have HV := Lib.hid (cmp_gt (nd_less (x := y) (y := x) (by omega)))
      clear ha2 hb2 hne
      go_enter Try.func47, Try.ntmps47
      go_wp2_with fail
      go_ret
      exact ⟨by rw [HV.out]; rfl, Below.refl _ _⟩
end Go.Proofs.Ytfpbahihndgabaa
