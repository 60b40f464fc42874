/-
  TreeForms: all the rounds.
-/
import Derived.Test.YtcdgofndfajekaaFmQ
namespace Go.Proofs.Ytcdgofndfajekaa
set_option linter.unusedSimpArgs false
set_option linter.unusedVariables false
open Go.RowKit Go.WideShapes Go.ChangeShapes
attribute [local go_sem ↓] Go.wp_at_zero Go.wp_at_succ

set_option maxRecDepth 100000 in
set_option maxHeartbeats 4000000 in
theorem tf_rounds (R : Nat → Pr) (n c0 g0 g8 g14 h8 c8 h14 c14 : Nat) (W : List Wire) (F : List Nat) (Bs : List Bks) (L0 : List Tre) (PS0 : List (List Value)) (w0 w1 : World) (a : Act)
    (SC : Sc w0 w1 g0 g8 g14 n h8 c8 h14 c14 (fun k => maskP (R k) k) W F Bs L0 PS0) (hI : Inv (fun k => maskP (R k) k) n W 0 L0) (hN : Net n W) (hn : 1 ≤ n ∧ n ≤ 7) (hW : W.length ≤ 12)
    (hs : a.tmps.size = 463) (hd : a.defers = []) (e0 : a.tmps[0]? = some (.slice (some ⟨g0, 0, none⟩) n c0)) (e6 : a.tmps[6]? = some (.bool false)) (e7 : a.tmps[7]? = some (.int .i64 (n : Int))) (e8 : a.tmps[8]? = some (.pointer (some ⟨g8, 0, none⟩))) (e14 : a.tmps[14]? = some (.pointer (some ⟨g14, 0, none⟩)))
    (hend : ∀ (a : Act) (w : World) (PS : List (List Value)), a.tmps.size = 463 → a.defers = [] → a.tmps[0]? = some (.slice (some ⟨g0, 0, none⟩) n c0) → a.tmps[6]? = some (.bool false) → a.tmps[7]? = some (.int .i64 (n : Int)) → a.tmps[8]? = some (.pointer (some ⟨g8, 0, none⟩)) → a.tmps[14]? = some (.pointer (some ⟨g14, 0, none⟩)) → a.tmps[20]? = some (.func (.func 17) #[] #[.pointer (some ⟨g14, 0, none⟩), .pointer (some ⟨g8, 0, none⟩)]) → a.tmps[21]? = some (.int .i64 ((8 * (n + 2) + 1 : Nat) : Int)) → Sc w0 w g0 g8 g14 n h8 c8 h14 c14 (fun k => maskP (R k) k) W F Bs (runS W L0 (8 * (n + 2))) PS → Code.wp Try.prog (sub [true, true, true, true, true, true, true, true, true, true, true, true, true, true] (bodyOf Try.f4)) (bodyPost Try.prog Try.f4 fun e w' => e = .returned (.bool true) ∧ Below w0.heap.size w0 w') a w) :
    Code.wp Try.prog (sub [true, true, true, true, true, true, true, true, true, true, true] (bodyOf Try.f4)) (bodyPost Try.prog Try.f4 fun e w' => e = .returned (.bool true) ∧ Below w0.heap.size w0 w') a w1 := by
  have HEND := Lib.hid hend
  have HI := Lib.hid (And.intro hI (And.intro hN (And.intro hW (mask_who (R := R) hn.2))))
  clear hend hI hN hW
  conv => arg 2; whnf
  refine wp_seq_k fun Kq1 hKq1 => ?_
  refine sm_list [8, 14, 20] 223 1 hs hd (by kernel_rfl) (agC e8 (agC e14 (agU agN))) rfl ?_
  simp only [seval]
  go_wp2_with fail
  intro a H; replace hs := H.s hs; replace hd := H.d rfl; replace e8 := H.g 8 rfl rfl; replace e14 := H.g 14 rfl rfl; replace e0 := H.k e0 rfl; replace e6 := H.k e6 rfl; replace e7 := H.k e7 rfl; have e20 := H.g 20 rfl rfl; clear H; refine hKq1 _ _ ?_; clear hKq1 Kq1; refine wp_seq_k fun Kq2 hKq2 => ?_
  refine sm_list [] 21 1 hs hd (by kernel_rfl) agN rfl ?_
  simp only [seval]
  go_wp2_with fail
  intro a H; replace hs := H.s hs; replace hd := H.d rfl; replace e0 := H.k e0 rfl; replace e6 := H.k e6 rfl; replace e7 := H.k e7 rfl; replace e8 := H.k e8 rfl; replace e14 := H.k e14 rfl; replace e20 := H.k e20 rfl; have e21 := H.g 21 rfl rfl; clear H; refine hKq2 _ _ ?_; clear hKq2 Kq2; refine wp_seq_k fun Kq3 hKq3 => ?_; refine wp_block ?_
  obtain ⟨M, hM⟩ : ∃ M, M = 8 * (n + 2) := ⟨_, rfl⟩
  have w1_ : IntKind.i64.wrap ((n : Int) + 2) = (n : Int) + 2 := IntWalk.i64_in _ ⟨by omega, by omega⟩
  have w2_ : IntKind.i64.wrap (8 * ((n : Int) + 2)) = (M : Int) := (IntWalk.i64_in _ ⟨by omega, by omega⟩).trans (by omega)
  have HMM := Lib.hid hM
  have hM72 : M ≤ 72 := by omega
  clear hM
  refine wp_loop (fun a w => ∃ (k K : Nat) (PS : List (List Value)), k ≤ 8 * (n + 2) ∧ K = k + 1 ∧ a.tmps.size = 463 ∧ a.defers = [] ∧ a.tmps[0]? = some (.slice (some ⟨g0, 0, none⟩) n c0) ∧ a.tmps[6]? = some (.bool false) ∧ a.tmps[7]? = some (.int .i64 (n : Int)) ∧ a.tmps[8]? = some (.pointer (some ⟨g8, 0, none⟩)) ∧ a.tmps[14]? = some (.pointer (some ⟨g14, 0, none⟩)) ∧ a.tmps[20]? = some (.func (.func 17) #[] #[.pointer (some ⟨g14, 0, none⟩), .pointer (some ⟨g8, 0, none⟩)]) ∧ a.tmps[21]? = some (.int .i64 (K : Int)) ∧ Sc w0 w g0 g8 g14 n h8 c8 h14 c14 (fun k => maskP (R k) k) W F Bs (runS W L0 k) PS) (fun a _ => M + 1 - (intOf (a.tmps.getD 21 undef)).toNat) ?_ ?_
  · exact ⟨0, 1, PS0, by omega, rfl, hs, hd, e0, e6, e7, e8, e14, e20, e21, SC⟩
  clear hs hd e21 e0 e6 e7 e8 e14 e20 a SC PS0
  rintro a w4 ⟨k, K, PS, hk, hK, hs, hd, e0, e6, e7, e8, e14, e20, e21, SC⟩
  have hm := slot e21
  have HK := Lib.hid hK
  have HSC := Lib.hid SC
  have hK1 : K ≤ M + 1 := by have := HMM.out; omega
  have hk0 := Lib.hid hk
  clear SC hK hk; refine wp_seq_k fun Kq4 hKq4 => ?_; refine wp_seq_k fun Kq5 hKq5 => ?_
  by_cases hlt3 : K ≤ M
  ·
    have dj : decide ((K : Int) ≤ (M : Int)) = true := decide_eq_true (by omega)
    have hk2 : k < 8 * (n + 2) := by have := HK.out; have := HMM.out; omega
    have HK2 := Lib.hid hk2
    clear hk2
    refine sm_list [7, 21] 224 5 hs hd (by kernel_rfl) (agC e7 (agC e21 agN)) rfl ?_
    simp only [seval]
    go_wp2_with fail
    intro a H; replace hs := H.s hs; replace hd := H.d rfl; replace e7 := H.g 7 rfl rfl; replace e21 := H.g 21 rfl rfl; replace e0 := H.k e0 rfl; replace e6 := H.k e6 rfl; replace e8 := H.k e8 rfl; replace e14 := H.k e14 rfl; replace e20 := H.k e20 rfl; have e228 := H.g 228 rfl rfl; clear H; refine hKq5 _ _ ?_; clear hKq5 Kq5
    refine wp_cond_true (slotE e228) ?_
    clear e228; refine wp_skip ?_; refine hKq4 _ _ ?_; clear hKq4 Kq4; refine wp_seq_k fun Kq6 hKq6 => ?_; refine wp_block ?_; refine wp_seq_k fun Kq7 hKq7 => ?_
    obtain ⟨hI, hN, hW, hP⟩ := HI.out
    have hI4 : Inv (fun k => maskP (R k) k) n W (K : Int) (runS W L0 k) := by
      have hk72 : k ≤ 1000 := by have := hk0.out; omega
      exact (run_inv hP hN hI k hk72).later (by have := HK.out; omega)
    have hK1000 : K ≤ 1000 := by omega
    have hRA := Lib.hid (round_any hP hN hI4 HSC.out.nt HSC.out.wr hK1000 (by omega))
    clear hI hN hW hP hI4 hK1000
    refine sm_list [20, 21] 231 4 hs hd (by kernel_rfl) (agC e20 (agC e21 agN)) rfl ?_
    simp only [seval]
    go_wp2_with fail
    refine hRA.out.mono ?_
    rintro e w5 ⟨rfl, ⟨PS2, N5⟩, F5⟩
    have S5 := HSC.out.trn F5 N5
    have HS5 := Lib.hid S5
    clear N5 F5 S5
    go_wp2_with fail
    intro a H; replace hs := H.s hs; replace hd := H.d rfl; replace e20 := H.g 20 rfl rfl; replace e21 := H.g 21 rfl rfl; replace e0 := H.k e0 rfl; replace e6 := H.k e6 rfl; replace e7 := H.k e7 rfl; replace e8 := H.k e8 rfl; replace e14 := H.k e14 rfl; have e234 := H.g 234 rfl rfl; clear H; refine hKq7 _ _ ?_; clear hKq7 Kq7
    refine wp_cond_false (slotE e234) ?_
    clear e234; refine wp_skip ?_; refine hKq6 _ _ ?_; clear hKq6 Kq6
    have hrs : roundS W ((K % 256 : Nat) : Int) (K : Int) (runS W L0 k) = (runS W L0 (k + 1)) := by rw [HK.out]; rfl
    have S5 := HS5.out
    rw [hrs] at S5
    have hwK : IntKind.i64.wrap ((K : Int) + 1) = ((K + 1 : Nat) : Int) := (IntWalk.i64_in _ ⟨by omega, by omega⟩).trans (by omega)
    clear hrs HS5 HSC hRA
    refine sm_list [21] 229 2 hs hd (by kernel_rfl) (agC e21 agN) rfl ?_
    simp only [seval]
    go_wp2_with fail
    intro a H; replace hs := H.s hs; replace hd := H.d rfl; replace e0 := H.k e0 rfl; replace e6 := H.k e6 rfl; replace e7 := H.k e7 rfl; replace e8 := H.k e8 rfl; replace e14 := H.k e14 rfl; replace e20 := H.k e20 rfl; replace e21 := H.g 21 rfl rfl; clear H
    have hKK : K + 1 = k + 1 + 1 := by rw [HK.out]
    refine ⟨⟨k + 1, K + 1, PS2, HK2.out, hKK, hs, hd, e0, e6, e7, e8, e14, e20, by first | exact e21 | simpa using e21, S5⟩, ?_⟩
    have e21b : a.tmps.getD 21 undef = .int .i64 ((K + 1 : Nat) : Int) := by first | exact slot e21 | (rw [slot e21]; simp)
    simp only [hm, e21b, intOf]
    omega
  · have dj : decide ((K : Int) ≤ (M : Int)) = false := decide_eq_false (by omega)
    have dj2 : decide (K ≤ M) = false := decide_eq_false hlt3
    have hkM : k = 8 * (n + 2) := by have := HK.out; have := HMM.out; have := hk0.out; omega
    clear hm
    refine sm_list [7, 21] 224 5 hs hd (by kernel_rfl) (agC e7 (agC e21 agN)) rfl ?_
    simp only [seval]
    go_wp2_with fail
    intro a H; replace hs := H.s hs; replace hd := H.d rfl; replace e7 := H.g 7 rfl rfl; replace e21 := H.g 21 rfl rfl; replace e0 := H.k e0 rfl; replace e6 := H.k e6 rfl; replace e8 := H.k e8 rfl; replace e14 := H.k e14 rfl; replace e20 := H.k e20 rfl; have e228 := H.g 228 rfl rfl; clear H; refine hKq5 _ _ ?_; clear hKq5 Kq5
    refine wp_cond_false (slotE e228) ?_
    clear e228; refine wp_exit ?_; refine exit_then rfl ?_; clear hKq4 Kq4; refine exit_then rfl ?_; refine exit_hit ?_; refine hKq3 _ _ ?_; clear hKq3 Kq3
    have hKe : K = 8 * (n + 2) + 1 := by rw [HK.out, hkM]
    have S4 := HSC.out
    rw [hkM] at S4
    rw [hKe] at e21
    exact HEND.out a w4 PS hs hd e0 e6 e7 e8 e14 e20 e21 S4
end Go.Proofs.Ytcdgofndfajekaa
