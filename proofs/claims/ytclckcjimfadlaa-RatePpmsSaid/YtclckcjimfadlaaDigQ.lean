/-
  The reference's rate of a float's bits: its walk.
-/
import Derived.Test.YtclckcjimfadlaaDigP
namespace Go.Proofs.Ytclckcjimfadlaa
set_option linter.unusedSimpArgs false
set_option linter.unusedVariables false
open Go.RowKit

set_option maxRecDepth 100000 in
set_option maxHeartbeats 4000000 in
theorem refOf_any (b : Nat) (w : World) (hb : b < 18446744073709551616) :
    Calls Try.prog 17 #[.int .u64 b] w fun e w' => e = .returned (.tuple #[.int .i64 (refOfV b).1, .int .i64 (refOfV b).2]) ∧ Below w.heap.size w w' := by
  obtain ⟨ib, hib⟩ : ∃ x, x = infB b := ⟨_, rfl⟩
  obtain ⟨ok, hok⟩ : ∃ x, x = okB b := ⟨_, rfl⟩
  obtain ⟨ng, hng⟩ : ∃ x, x = negB b := ⟨_, rfl⟩
  obtain ⟨K, hK⟩ : ∃ x, x = kexp b := ⟨_, rfl⟩
  obtain ⟨M, hM⟩ : ∃ x, x = mant b := ⟨_, rfl⟩
  obtain ⟨N, hN⟩ : ∃ x, x = numB b := ⟨_, rfl⟩
  obtain ⟨D, hD⟩ : ∃ x, x = denB b := ⟨_, rfl⟩
  obtain ⟨Q, hQ⟩ : ∃ x, x = refQ b := ⟨_, rfl⟩
  obtain ⟨V, hV⟩ : ∃ V, V = refOfV b := ⟨_, rfl⟩
  rw [← hV]
  unfold refOfV at hV
  rw [← hib, ← hok, ← hng, ← hN, ← hD, ← hQ] at hV
  have hp : Calls Try.prog 13 #[.int .u64 b] w fun e w' => ∃ v, e = .returned (.tuple #[.bool ng, v, .int .i64 K, .bool ok, .bool ib]) ∧ Dg w' v M ∧ Below w.heap.size w w' := by
    refine (parts_dg b w hb).mono ?_
    rintro e w' ⟨v, rfl, d, o, hb'⟩
    exact ⟨v, by rw [hng, hK, hok, hib], by rw [hM]; exact d, hb'⟩
  have hNv : N = if 0 < K then M else M * two (-K).toNat := by rw [hN, hK, hM]; rfl
  have hDv : D = if 0 < K then two K.toNat else 1 := by rw [hD, hK]; rfl
  have hkl : -972 ≤ K ∧ K ≤ 1074 := by rw [hK]; exact kexp_lim b
  have hDp : 0 < D := by rw [hD]; exact denB_pos b
  have nN : nd N ≤ 70 := by rw [hN]; exact nd_num b
  have nD : nd D ≤ 70 := by rw [hD]; exact nd_den b
  have nM : nd M ≤ 4 := nd_four (by rw [hM]; have := mant_lt b; omega)
  have hQv : Q = rndV (N * 2199023255552) (D * 1000000) false 2 := by rw [hQ, hN, hD]; rfl
  have hQl : ¬ D * 5000 < N → Q ≤ 10995116279 := by rw [hQ, hN, hD]; exact refQ_le
  have HP := Lib.hid hp
  have HV := Lib.hid hV
  have HF := Lib.hid (And.intro hNv (And.intro hDv (And.intro hQv hQl)))
  have HN := Lib.hid (And.intro nN (And.intro nD (And.intro nM hDp)))
  clear hib hok hng hK hM hN hD hQ hV hp hNv hDv hDp nN nD nM hQv hQl
  go_enter Try.func17, Try.ntmps17
  go_wp2_with fail
  refine HP.out.mono ?_
  rintro e w1 ⟨v1, rfl, d1, b1⟩
  cases ib
  case true =>
    have hv : V = (0, 13) := by rw [HV.out, if_pos rfl]
    have HV2 := Lib.hid hv
    clear hv
    go_wp2_with fail
    go_ret2
    exact ⟨by rw [HV2.out]; rfl, b1⟩
  cases ok
  case false =>
    have hv : V = (0, 12) := by rw [HV.out]; rfl
    have HV2 := Lib.hid hv
    clear hv
    go_wp2_with fail
    go_ret2
    exact ⟨by rw [HV2.out]; rfl, b1⟩
  have hv : V = if D * 5000 < N then (0, 50) else (if ng = true then 2199023255552 - (Q : Int) else 2199023255552 + (Q : Int), 0) := by rw [HV.out]; rfl
  have HV2 := Lib.hid hv
  have D1 := Lib.hid d1
  clear hv d1
  go_upto_if 29 with fail
  go_cut [9, 10] (fun s9 s10 wx => Hid (Dg wx s9 N) ∧ Hid (Dg wx s10 D) ∧ Below w.heap.size w wx)
  case first =>
    have bwo := b1.alloc b1.size (.cells #[.int .i64 1] 3)
    have hz1 := b1.size
    have d1o := D1.out.below ((Below.refl _ _).alloc (Nat.le_refl _) (.cells #[.int .i64 1] 3))
    have D1o := Lib.hid d1o
    clear d1o
    by_cases hk : 0 < K
    · obtain ⟨k, rfl⟩ : ∃ k : Nat, K = (k : Int) := ⟨K.toNat, by omega⟩
      have HW := fun W => Lib.hid (power_any k W (by omega))
      have hn : N = M := by rw [HF.out.1, if_pos hk]
      have hd : D = two k := by rw [HF.out.2.1, if_pos hk, Int.toNat_natCast]
      have HND := Lib.hid (And.intro hn hd)
      clear hn hd hkl
      go_wp2_with fail
      refine (HW _).out.mono ?_
      rintro e w2 ⟨v2, rfl, d2, o2, b2⟩
      go_wp2_with fail
      go_meet
      exact ⟨Lib.hid (by rw [HND.out.1]; exact D1o.out.below b2), Lib.hid (by rw [HND.out.2]; exact d2), bwo.trans (b2.mono (by simp; omega))⟩
    · obtain ⟨k, hkk⟩ : ∃ k : Nat, K = -(k : Int) := ⟨(-K).toNat, by omega⟩
      subst hkk
      have dk : decide (0 < -(k : Int)) = false := by simp
      have f1 : IntKind.i64.wrap (-(-(k : Int))) = (k : Int) := by rw [Int.neg_neg]; exact IntWalk.i64_in _ ⟨by omega, by omega⟩
      have f2 : IntKind.i64.wrap (k : Int) = (k : Int) := IntWalk.i64_in _ ⟨by omega, by omega⟩
      have HW := fun W => Lib.hid (power_any k W (by omega))
      have hn : N = M * two k := by rw [HF.out.1, if_neg hk, Int.neg_neg, Int.toNat_natCast]
      have hd : D = 1 := by rw [HF.out.2.1, if_neg hk]
      have HND := Lib.hid (And.intro hn hd)
      have nk : nd (two k) ≤ 70 := Nat.le_trans (nd_two k) (by omega)
      have HNK := Lib.hid nk
      clear hn hd hkl hk nk
      go_wp2_with fail
      refine (HW _).out.mono ?_
      rintro e w2 ⟨v2, rfl, d2, o2, b2⟩
      have bw2 : Below w.heap.size w w2 := bwo.trans (b2.mono (by simp; omega))
      have HM := Lib.hid (Mul_any M (two k) v1 v2 w2 (D1o.out.below b2) d2 (by have h1 := HNK.out; have h2 := HN.out; omega))
      have e1 := (dg_one w1 3).below b2
      have E1 := Lib.hid e1
      clear o2 b2 d2 e1 bwo
      go_wp2_with fail
      refine HM.out.mono ?_
      rintro e w3 ⟨v3, rfl, d3, o3, b3⟩
      have bz := bw2.size
      go_wp2_with fail
      go_meet
      exact ⟨Lib.hid (by rw [HND.out.1]; exact d3), Lib.hid (by rw [HND.out.2]; exact E1.out.below b3), bw2.trans (b3.mono bz)⟩
  case rest =>
    obtain ⟨dN, dD, bx⟩ := hcut
    clear hkl b1
    have n1 : nd 5000 ≤ 4 := nd_four (by decide)
    have n2 : nd 2199023255552 ≤ 4 := nd_four (by decide)
    have n3 : nd 1000000 ≤ 4 := nd_four (by decide)
    have m1 : nd (D * 5000) ≤ 74 := nd_mul _ _ 70 4 HN.out.2.1 n1
    have m2 : nd (N * 2199023255552) ≤ 74 := nd_mul _ _ 70 4 HN.out.1 n2
    have m3 : nd (D * 1000000) ≤ 74 := nd_mul _ _ 70 4 HN.out.2.1 n3
    have HNN := Lib.hid (And.intro n1 (And.intro n2 (And.intro n3 (And.intro m1 (And.intro m2 m3)))))
    clear n1 n2 n3 m1 m2 m3
    go_wp2_with fail
    refine (of_dg 5000 _ (by decide)).mono ?_
    rintro e w3 ⟨v3, rfl, d3, o3, b3⟩
    have bz := bx.size
    have bw3 := bx.trans (b3.mono bz)
    have dN3 := Lib.hid (dN.out.below b3)
    have dD3 := Lib.hid (dD.out.below b3)
    have HM := Lib.hid (Mul_any D 5000 _ v3 w3 dD3.out d3 (by have h1 := HNN.out; have h2 := HN.out; omega))
    clear dN dD bx d3 o3 b3 bz
    go_wp2_with fail
    refine HM.out.mono ?_
    rintro e w4 ⟨v4, rfl, d4, o4, b4⟩
    have bz := bw3.size
    have bw4 := bw3.trans (b4.mono bz)
    have dN4 := Lib.hid (dN3.out.below b4)
    have dD4 := Lib.hid (dD3.out.below b4)
    have HC := Lib.hid (Cmp_any N (D * 5000) _ v4 w4 dN4.out d4)
    clear HM dN3 dD3 bw3 b4 d4 o4 bz
    go_wp2_with fail
    refine HC.out.mono ?_
    rintro e w5 ⟨rfl, b5⟩
    have bz := bw4.size
    have bw5 := bw4.trans (b5.mono bz)
    have dN5 := Lib.hid (dN4.out.below b5)
    have dD5 := Lib.hid (dD4.out.below b5)
    have hcp := cmp_pos N (D * 5000)
    obtain ⟨cv, hcv⟩ : ∃ cv, cv = cmpV N (D * 5000) := ⟨_, rfl⟩
    rw [← hcv] at hcp ⊢
    clear HC hcv dN4 dD4 bw4 b5 bz
    by_cases hbig : D * 5000 < N
    · rw [decide_eq_true hbig] at hcp
      have hv : V = (0, 50) := by rw [HV2.out, if_pos hbig]
      have HV3 := Lib.hid hv
      clear hbig hv
      go_wp2_with fail
      go_ret2
      exact ⟨by rw [HV3.out]; rfl, bw5⟩
    · rw [decide_eq_false hbig] at hcp
      have hv : V = (if ng = true then 2199023255552 - (Q : Int) else 2199023255552 + (Q : Int), 0) := by rw [HV2.out, if_neg hbig]
      have HV3 := Lib.hid hv
      have hql := HF.out.2.2.2 hbig
      clear hbig hv
      go_wp2_with fail
      refine (of_dg 2199023255552 _ (by decide)).mono ?_
      rintro e w6 ⟨v6, rfl, d6, o6, b6⟩
      have bz := bw5.size
      have bw6 := bw5.trans (b6.mono bz)
      have dN6 := Lib.hid (dN5.out.below b6)
      have dD6 := Lib.hid (dD5.out.below b6)
      have HM := Lib.hid (Mul_any N 2199023255552 _ v6 w6 dN6.out d6 (by have h1 := HNN.out; have h2 := HN.out; omega))
      clear dN5 dD5 bw5 d6 o6 b6 bz
      go_wp2_with fail
      refine HM.out.mono ?_
      rintro e w7 ⟨v7, rfl, d7, o7, b7⟩
      have bz := bw6.size
      have bw7 := bw6.trans (b7.mono bz)
      have dD7 := Lib.hid (dD6.out.below b7)
      have dA7 := Lib.hid d7
      clear HM dN6 dD6 bw6 d7 o7 b7 bz
      go_wp2_with fail
      refine (of_dg 1000000 _ (by decide)).mono ?_
      rintro e w8 ⟨v8, rfl, d8, o8, b8⟩
      have bz := bw7.size
      have bw8 := bw7.trans (b8.mono bz)
      have dD8 := Lib.hid (dD7.out.below b8)
      have dA8 := Lib.hid (dA7.out.below b8)
      have HM := Lib.hid (Mul_any D 1000000 _ v8 w8 dD8.out d8 (by have h1 := HNN.out; have h2 := HN.out; omega))
      clear dD7 dA7 bw7 d8 o8 b8 bz
      go_wp2_with fail
      refine HM.out.mono ?_
      rintro e w9 ⟨v9, rfl, d9, o9, b9⟩
      have bz := bw8.size
      have bw9 := bw8.trans (b9.mono bz)
      have dA9 := Lib.hid (dA8.out.below b9)
      have HR := Lib.hid (Round_any (N * 2199023255552) (D * 1000000) v7 v9 false 2 w9 dA9.out d9 (by have := HN.out; omega) (by have := HNN.out; omega) (by have := HNN.out; omega))
      clear HM dD8 dA8 bw8 d9 o9 b9 bz
      go_wp2_with fail
      refine HR.out.mono ?_
      rintro e w10 ⟨v10, rfl, d10, o10, b10⟩
      have bz := bw9.size
      have bw10 := bw9.trans (b10.mono bz)
      rw [← HF.out.2.2.1] at d10
      have hi := Int_any Q v10 false w10 d10
      have hiv : intV Q false = ((Q : Int), true) := by unfold intV; rw [Bool.toNat_false, if_neg (by omega)]; rfl
      rw [hiv] at hi
      have HI := Lib.hid hi
      clear HR dA9 bw9 d10 o10 b10 bz hi hiv
      go_wp2_with fail
      refine HI.out.mono ?_
      rintro e w11 ⟨rfl, b11⟩
      have bz := bw10.size
      have bw11 := bw10.trans (b11.mono bz)
      have g1 : IntKind.i64.wrap (2199023255552 - (Q : Int)) = 2199023255552 - (Q : Int) := IntWalk.i64_in _ ⟨by omega, by omega⟩
      have g2 : IntKind.i64.wrap (2199023255552 + (Q : Int)) = 2199023255552 + (Q : Int) := IntWalk.i64_in _ ⟨by omega, by omega⟩
      clear HI bw10 b11 bz
      cases ng
      · go_wp2_with fail
        go_ret2
        exact ⟨by rw [HV3.out]; rfl, bw11⟩
      · go_wp2_with fail
        go_ret2
        exact ⟨by rw [HV3.out]; rfl, bw11⟩
end Go.Proofs.Ytclckcjimfadlaa
