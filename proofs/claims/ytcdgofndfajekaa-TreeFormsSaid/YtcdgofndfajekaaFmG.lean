/-
  TreeForms: the slaves are counted.
-/
import Derived.Test.YtcdgofndfajekaaFmT
namespace Go.Proofs.Ytcdgofndfajekaa
set_option linter.unusedSimpArgs false
set_option linter.unusedVariables false
open Go.RowKit Go.WideShapes Go.ChangeShapes
attribute [local go_sem ↓] Go.wp_at_zero Go.wp_at_succ

set_option maxRecDepth 100000 in
set_option maxHeartbeats 4000000 in
theorem tf_slaves (g36 c36 : Nat) (f : Nat → Int) (cur : Array Value) (z0 z6 z7 z8 z14 z20 z21 z22 z28 z29 z30 z31 z32 z33 z289 z290 z291 : Value) (w1 : World) (a : Act) (Q : Exit → Act → World → Prop)
    (BG : Blk w1 g36 3 cur) (hcur : ∀ j, j < 8 → cur[j]? = some (.int .i64 (f j)))
    (hs : a.tmps.size = 463) (hd : a.defers = []) (e0 : a.tmps[0]? = some (z0)) (e6 : a.tmps[6]? = some (z6)) (e7 : a.tmps[7]? = some (z7)) (e8 : a.tmps[8]? = some (z8)) (e14 : a.tmps[14]? = some (z14)) (e20 : a.tmps[20]? = some (z20)) (e21 : a.tmps[21]? = some (z21)) (e22 : a.tmps[22]? = some (z22)) (e28 : a.tmps[28]? = some (z28)) (e29 : a.tmps[29]? = some (z29)) (e30 : a.tmps[30]? = some (z30)) (e31 : a.tmps[31]? = some (z31)) (e32 : a.tmps[32]? = some (z32)) (e33 : a.tmps[33]? = some (z33)) (e36 : a.tmps[36]? = some (.slice (some ⟨g36, 0, none⟩) 8 c36)) (e37 : a.tmps[37]? = some (.int .i64 0)) (e289 : a.tmps[289]? = some (z289)) (e290 : a.tmps[290]? = some (z290)) (e291 : a.tmps[291]? = some (z291))
    (hend : ∀ (a : Act), a.tmps.size = 463 → a.defers = [] → a.tmps[0]? = some (z0) → a.tmps[6]? = some (z6) → a.tmps[7]? = some (z7) → a.tmps[8]? = some (z8) → a.tmps[14]? = some (z14) → a.tmps[20]? = some (z20) → a.tmps[21]? = some (z21) → a.tmps[22]? = some (z22) → a.tmps[28]? = some (z28) → a.tmps[29]? = some (z29) → a.tmps[30]? = some (z30) → a.tmps[31]? = some (z31) → a.tmps[32]? = some (z32) → a.tmps[33]? = some (z33) → a.tmps[36]? = some (.slice (some ⟨g36, 0, none⟩) 8 c36) → a.tmps[37]? = some (.int .i64 ((slavesN f 8 : Nat) : Int)) → a.tmps[289]? = some (z289) → a.tmps[290]? = some (z290) → a.tmps[291]? = some (z291) → Q .normal a w1) :
    Code.wp Try.prog (sub [true, true, true, true, true, true, true, true, true, true, true, true, true, true, true, true, true, true, false, true, false, false, true, false, false, true, false, true, false, false, true, true, false, false, true, true, true, true, true, true, false] (bodyOf Try.f4)) Q a w1 := by
  have HEND := Lib.hid hend
  have HC := Lib.hid hcur
  have HBG := Lib.hid BG
  clear hend BG hcur
  conv => arg 2; whnf
  refine wp_seq_k fun Kq1 hKq1 => ?_
  refine sm_list [36] 343 3 hs hd (by kernel_rfl) (agC e36 agN) rfl ?_
  simp only [seval]
  go_wp2_with fail
  intro a H; replace hs := H.s hs; replace hd := H.d rfl; replace e36 := H.g 36 rfl rfl; replace e0 := H.k e0 rfl; replace e6 := H.k e6 rfl; replace e7 := H.k e7 rfl; replace e8 := H.k e8 rfl; replace e14 := H.k e14 rfl; replace e20 := H.k e20 rfl; replace e21 := H.k e21 rfl; replace e22 := H.k e22 rfl; replace e28 := H.k e28 rfl; replace e29 := H.k e29 rfl; replace e30 := H.k e30 rfl; replace e31 := H.k e31 rfl; replace e32 := H.k e32 rfl; replace e33 := H.k e33 rfl; replace e37 := H.k e37 rfl; replace e289 := H.k e289 rfl; replace e290 := H.k e290 rfl; replace e291 := H.k e291 rfl
  have e343 := H.g 343 rfl rfl; have e344 := H.g 344 rfl rfl; have e345 := H.g 345 rfl rfl; clear H; refine hKq1 _ _ ?_; clear hKq1 Kq1; refine wp_block ?_
  refine wp_loop (fun a w => ∃ (k m : Nat), k ≤ 8 ∧ m = slavesN f k ∧ m ≤ k ∧ a.tmps.size = 463 ∧ a.defers = [] ∧ a.tmps[0]? = some (z0) ∧ a.tmps[6]? = some (z6) ∧ a.tmps[7]? = some (z7) ∧ a.tmps[8]? = some (z8) ∧ a.tmps[14]? = some (z14) ∧ a.tmps[20]? = some (z20) ∧ a.tmps[21]? = some (z21) ∧ a.tmps[22]? = some (z22) ∧ a.tmps[28]? = some (z28) ∧ a.tmps[29]? = some (z29) ∧ a.tmps[30]? = some (z30) ∧ a.tmps[31]? = some (z31) ∧ a.tmps[32]? = some (z32) ∧ a.tmps[33]? = some (z33) ∧ a.tmps[36]? = some (.slice (some ⟨g36, 0, none⟩) 8 c36) ∧ a.tmps[289]? = some (z289) ∧ a.tmps[290]? = some (z290) ∧ a.tmps[291]? = some (z291) ∧ a.tmps[343]? = some (.slice (some ⟨g36, 0, none⟩) 8 c36) ∧ a.tmps[344]? = some (.int .i64 8) ∧ a.tmps[37]? = some (.int .i64 (m : Int)) ∧ a.tmps[345]? = some (.int .i64 (k : Int)) ∧ w = w1) (fun a _ => 8 - (intOf (a.tmps.getD 345 undef)).toNat) ?_ ?_
  · exact ⟨0, 0, Nat.zero_le _, rfl, Nat.le_refl _, hs, hd, e0, e6, e7, e8, e14, e20, e21, e22, e28, e29, e30, e31, e32, e33, e36, e289, e290, e291, e343, e344, e37, e345, rfl⟩
  clear hs hd e37 e345 e0 e6 e7 e8 e14 e20 e21 e22 e28 e29 e30 e31 e32 e33 e36 e289 e290 e291 e343 e344 a
  rintro a w4 ⟨k, m, hk, hmm, hmk, hs, hd, e0, e6, e7, e8, e14, e20, e21, e22, e28, e29, e30, e31, e32, e33, e36, e289, e290, e291, e343, e344, e37, e345, rfl⟩
  have hm := slot e345
  have HM := Lib.hid hmm
  clear hmm; refine wp_seq_k fun Kq2 hKq2 => ?_
  by_cases hlt3 : k < 8
  ·
    have dj : (k : Int) < 8 := by omega
    have hk0 : (0 : Int) ≤ (k : Int) := by omega
    have q0 := HBG.out.cellOf _ (HC.out k hlt3)
    obtain ⟨x, hx⟩ : ∃ x, x = f k := ⟨_, rfl⟩
    rw [← hx] at q0
    have HX := Lib.hid hx
    clear hx
    refine sm_list [344, 345] 346 1 hs hd (by kernel_rfl) (agC e344 (agC e345 agN)) rfl ?_
    simp only [seval]
    go_wp2_with fail
    intro a H; replace hs := H.s hs; replace hd := H.d rfl; replace e344 := H.g 344 rfl rfl; replace e345 := H.g 345 rfl rfl; replace e0 := H.k e0 rfl; replace e6 := H.k e6 rfl; replace e7 := H.k e7 rfl; replace e8 := H.k e8 rfl; replace e14 := H.k e14 rfl; replace e20 := H.k e20 rfl; replace e21 := H.k e21 rfl; replace e22 := H.k e22 rfl; replace e28 := H.k e28 rfl; replace e29 := H.k e29 rfl; replace e30 := H.k e30 rfl; replace e31 := H.k e31 rfl; replace e32 := H.k e32 rfl; replace e33 := H.k e33 rfl; replace e36 := H.k e36 rfl; replace e289 := H.k e289 rfl; replace e290 := H.k e290 rfl; replace e291 := H.k e291 rfl; replace e343 := H.k e343 rfl; replace e37 := H.k e37 rfl
    have e346 := H.g 346 rfl rfl; clear H; refine hKq2 _ _ ?_; clear hKq2 Kq2; refine wp_seq_k fun Kq3 hKq3 => ?_
    refine wp_cond_true (slotE e346) ?_
    clear e346; refine wp_skip ?_; refine hKq3 _ _ ?_; clear hKq3 Kq3; refine wp_seq_k fun Kq4 hKq4 => ?_; refine wp_block ?_; refine wp_seq_k fun Kq5 hKq5 => ?_
    refine sm_list [39, 343, 345] 347 2 hs hd (by kernel_rfl) (agU (agC e343 (agC e345 agN))) rfl ?_
    simp only [seval]
    go_wp2_with fail
    intro a H; replace hs := H.s hs; replace hd := H.d rfl; replace e343 := H.g 343 rfl rfl; replace e345 := H.g 345 rfl rfl; replace e0 := H.k e0 rfl; replace e6 := H.k e6 rfl; replace e7 := H.k e7 rfl; replace e8 := H.k e8 rfl; replace e14 := H.k e14 rfl; replace e20 := H.k e20 rfl; replace e21 := H.k e21 rfl; replace e22 := H.k e22 rfl; replace e28 := H.k e28 rfl; replace e29 := H.k e29 rfl; replace e30 := H.k e30 rfl; replace e31 := H.k e31 rfl; replace e32 := H.k e32 rfl; replace e33 := H.k e33 rfl; replace e36 := H.k e36 rfl; replace e289 := H.k e289 rfl; replace e290 := H.k e290 rfl; replace e291 := H.k e291 rfl; replace e344 := H.k e344 rfl; replace e37 := H.k e37 rfl
    have e39 := H.g 39 rfl rfl; clear H; refine hKq5 _ _ ?_; clear hKq5 Kq5; refine wp_seq_k fun Kq6 hKq6 => ?_; clear q0
    by_cases h2 : x = 2
    · subst h2
      have hsn : slavesN f (k + 1) = m + 1 := by unfold slavesN; rw [← HM.out, ← HX.out, if_pos rfl]
      have HS := Lib.hid hsn
      have hwr : IntKind.i64.wrap ((m : Int) + 1) = ((m + 1 : Nat) : Int) := (IntWalk.i64_in _ ⟨by omega, by omega⟩).trans (by omega)
      clear hsn HX
      refine sm_list [39] 349 2 hs hd (by kernel_rfl) (agC e39 agN) rfl ?_
      simp only [seval]
      go_wp2_with fail
      intro a H; replace hs := H.s hs; replace hd := H.d rfl; replace e39 := H.g 39 rfl rfl; replace e0 := H.k e0 rfl; replace e6 := H.k e6 rfl; replace e7 := H.k e7 rfl; replace e8 := H.k e8 rfl; replace e14 := H.k e14 rfl; replace e20 := H.k e20 rfl; replace e21 := H.k e21 rfl; replace e22 := H.k e22 rfl; replace e28 := H.k e28 rfl; replace e29 := H.k e29 rfl; replace e30 := H.k e30 rfl; replace e31 := H.k e31 rfl; replace e32 := H.k e32 rfl; replace e33 := H.k e33 rfl; replace e36 := H.k e36 rfl; replace e289 := H.k e289 rfl; replace e290 := H.k e290 rfl; replace e291 := H.k e291 rfl; replace e343 := H.k e343 rfl; replace e344 := H.k e344 rfl; replace e37 := H.k e37 rfl; replace e345 := H.k e345 rfl
      have e350 := H.g 350 rfl rfl; clear H; refine hKq6 _ _ ?_; clear hKq6 Kq6
      refine wp_cond_true (slotE e350) ?_
      clear e350
      refine sm_list [37] 351 2 hs hd (by kernel_rfl) (agC e37 agN) rfl ?_
      simp only [seval]
      go_wp2_with fail
      intro a H; replace hs := H.s hs; replace hd := H.d rfl; replace e0 := H.k e0 rfl; replace e6 := H.k e6 rfl; replace e7 := H.k e7 rfl; replace e8 := H.k e8 rfl; replace e14 := H.k e14 rfl; replace e20 := H.k e20 rfl; replace e21 := H.k e21 rfl; replace e22 := H.k e22 rfl; replace e28 := H.k e28 rfl; replace e29 := H.k e29 rfl; replace e30 := H.k e30 rfl; replace e31 := H.k e31 rfl; replace e32 := H.k e32 rfl; replace e33 := H.k e33 rfl; replace e36 := H.k e36 rfl; replace e289 := H.k e289 rfl; replace e290 := H.k e290 rfl; replace e291 := H.k e291 rfl; replace e343 := H.k e343 rfl; replace e344 := H.k e344 rfl; replace e345 := H.k e345 rfl; replace e39 := H.k e39 rfl
      replace e37 := H.g 37 rfl rfl; clear H; refine hKq4 _ _ ?_; clear hKq4 Kq4; clear e39; clear hwr
      refine sm_list [345] 353 1 hs hd (by kernel_rfl) (agC e345 agN) rfl ?_
      simp only [seval]
      go_wp2_with fail
      intro a H; replace hs := H.s hs; replace hd := H.d rfl; replace e0 := H.k e0 rfl; replace e6 := H.k e6 rfl; replace e7 := H.k e7 rfl; replace e8 := H.k e8 rfl; replace e14 := H.k e14 rfl; replace e20 := H.k e20 rfl; replace e21 := H.k e21 rfl; replace e22 := H.k e22 rfl; replace e28 := H.k e28 rfl; replace e29 := H.k e29 rfl; replace e30 := H.k e30 rfl; replace e31 := H.k e31 rfl; replace e32 := H.k e32 rfl; replace e33 := H.k e33 rfl; replace e36 := H.k e36 rfl; replace e289 := H.k e289 rfl; replace e290 := H.k e290 rfl; replace e291 := H.k e291 rfl; replace e343 := H.k e343 rfl; replace e344 := H.k e344 rfl; replace e37 := H.k e37 rfl
      replace e345 := H.g 345 rfl rfl; clear H
      exact ⟨⟨k + 1, m + 1, by omega, HS.out.symm, by omega, hs, hd, e0, e6, e7, e8, e14, e20, e21, e22, e28, e29, e30, e31, e32, e33, e36, e289, e290, e291, e343, e344, by first | exact e37 | simpa using e37, e345, rfl⟩, by first | (simp only [hm, slot e345, intOf]; omega) | (simp [hm, slot e345, intOf]; omega)⟩
    · have d2 : (x == 2) = false := beq_eq_false_iff_ne.2 h2
      have hsn : slavesN f (k + 1) = m := by unfold slavesN; rw [← HM.out, ← HX.out, if_neg h2]; rfl
      have HS := Lib.hid hsn
      clear hsn HX h2
      refine sm_list [39] 349 2 hs hd (by kernel_rfl) (agC e39 agN) rfl ?_
      simp only [seval]
      go_wp2_with fail
      intro a H; replace hs := H.s hs; replace hd := H.d rfl; replace e39 := H.g 39 rfl rfl; replace e0 := H.k e0 rfl; replace e6 := H.k e6 rfl; replace e7 := H.k e7 rfl; replace e8 := H.k e8 rfl; replace e14 := H.k e14 rfl; replace e20 := H.k e20 rfl; replace e21 := H.k e21 rfl; replace e22 := H.k e22 rfl; replace e28 := H.k e28 rfl; replace e29 := H.k e29 rfl; replace e30 := H.k e30 rfl; replace e31 := H.k e31 rfl; replace e32 := H.k e32 rfl; replace e33 := H.k e33 rfl; replace e36 := H.k e36 rfl; replace e289 := H.k e289 rfl; replace e290 := H.k e290 rfl; replace e291 := H.k e291 rfl; replace e343 := H.k e343 rfl; replace e344 := H.k e344 rfl; replace e37 := H.k e37 rfl; replace e345 := H.k e345 rfl
      have e350 := H.g 350 rfl rfl; clear H; refine hKq6 _ _ ?_; clear hKq6 Kq6
      refine wp_cond_false (slotE e350) ?_
      clear e350; refine wp_skip ?_; refine hKq4 _ _ ?_; clear hKq4 Kq4; clear e39
      refine sm_list [345] 353 1 hs hd (by kernel_rfl) (agC e345 agN) rfl ?_
      simp only [seval]
      go_wp2_with fail
      intro a H; replace hs := H.s hs; replace hd := H.d rfl; replace e0 := H.k e0 rfl; replace e6 := H.k e6 rfl; replace e7 := H.k e7 rfl; replace e8 := H.k e8 rfl; replace e14 := H.k e14 rfl; replace e20 := H.k e20 rfl; replace e21 := H.k e21 rfl; replace e22 := H.k e22 rfl; replace e28 := H.k e28 rfl; replace e29 := H.k e29 rfl; replace e30 := H.k e30 rfl; replace e31 := H.k e31 rfl; replace e32 := H.k e32 rfl; replace e33 := H.k e33 rfl; replace e36 := H.k e36 rfl; replace e289 := H.k e289 rfl; replace e290 := H.k e290 rfl; replace e291 := H.k e291 rfl; replace e343 := H.k e343 rfl; replace e344 := H.k e344 rfl; replace e37 := H.k e37 rfl
      replace e345 := H.g 345 rfl rfl; clear H
      exact ⟨⟨k + 1, m, by omega, HS.out.symm, by omega, hs, hd, e0, e6, e7, e8, e14, e20, e21, e22, e28, e29, e30, e31, e32, e33, e36, e289, e290, e291, e343, e344, e37, e345, rfl⟩, by first | (simp only [hm, slot e345, intOf]; omega) | (simp [hm, slot e345, intOf]; omega)⟩
  · have hkn : k = 8 := by omega
    subst hkn
    clear hm
    refine sm_list [344, 345] 346 1 hs hd (by kernel_rfl) (agC e344 (agC e345 agN)) rfl ?_
    simp only [seval]
    go_wp2_with fail
    intro a H; replace hs := H.s hs; replace hd := H.d rfl; replace e344 := H.g 344 rfl rfl; replace e345 := H.g 345 rfl rfl; replace e0 := H.k e0 rfl; replace e6 := H.k e6 rfl; replace e7 := H.k e7 rfl; replace e8 := H.k e8 rfl; replace e14 := H.k e14 rfl; replace e20 := H.k e20 rfl; replace e21 := H.k e21 rfl; replace e22 := H.k e22 rfl; replace e28 := H.k e28 rfl; replace e29 := H.k e29 rfl; replace e30 := H.k e30 rfl; replace e31 := H.k e31 rfl; replace e32 := H.k e32 rfl; replace e33 := H.k e33 rfl; replace e36 := H.k e36 rfl; replace e289 := H.k e289 rfl; replace e290 := H.k e290 rfl; replace e291 := H.k e291 rfl; replace e343 := H.k e343 rfl; replace e37 := H.k e37 rfl
    have e346 := H.g 346 rfl rfl; clear H; refine hKq2 _ _ ?_; clear hKq2 Kq2; refine wp_seq_k fun Kq3 hKq3 => ?_
    refine wp_cond_false (slotE e346) ?_
    clear e346; refine wp_exit ?_; refine exit_then rfl ?_; clear hKq3 Kq3; refine exit_then rfl ?_; refine exit_hit ?_
    rw [HM.out] at e37
    exact HEND.out a hs hd e0 e6 e7 e8 e14 e20 e21 e22 e28 e29 e30 e31 e32 e33 e36 e37 e289 e290 e291
end Go.Proofs.Ytcdgofndfajekaa
