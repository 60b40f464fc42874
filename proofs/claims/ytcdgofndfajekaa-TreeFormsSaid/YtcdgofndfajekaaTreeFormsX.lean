/-
  TreeForms: the roles are as before.
-/
import Derived.Test.YtcdgofndfajekaaFmT
import Derived.Test.YtcdgofndfajekaaFmH
import Derived.Test.YtcdgofndfajekaaFmI
import Derived.Test.YtcdgofndfajekaaFmB
import Derived.Test.YtcdgofndfajekaaFmC
import Derived.Test.YtcdgofndfajekaaFmD
import Derived.Test.YtcdgofndfajekaaFmE
namespace Go.Proofs.Ytcdgofndfajekaa
set_option linter.unusedSimpArgs false
set_option linter.unusedVariables false
open Go.RowKit Go.WideShapes Go.ChangeShapes
attribute [local go_sem ↓] Go.wp_at_zero Go.wp_at_succ

set_option maxRecDepth 100000 in
set_option maxHeartbeats 4000000 in
theorem tf_roles (n m c28 c30 : Nat) (A28 : Option Addr) (A30 : Addr) (S S2 : List Nat) (f : Nat → Nat → Int) (z0 z6 z7 z8 z14 z20 z21 z22 z29 : Value) (w1 : World) (a : Act) (Q : Exit → Act → World → Prop)
    (hm : m ≤ n) (hn : n ≤ 7) (R28 : 0 < m → ∃ A, A28 = some A ∧ Rl w1 S A m f) (R30 : Rl w1 S2 A30 n f)
    (hs : a.tmps.size = 463) (hd : a.defers = []) (e0 : a.tmps[0]? = some (z0)) (e6 : a.tmps[6]? = some (z6)) (e7 : a.tmps[7]? = some (z7)) (e8 : a.tmps[8]? = some (z8)) (e14 : a.tmps[14]? = some (z14)) (e20 : a.tmps[20]? = some (z20)) (e21 : a.tmps[21]? = some (z21)) (e22 : a.tmps[22]? = some (z22)) (e28 : a.tmps[28]? = some (.slice A28 m c28)) (e29 : a.tmps[29]? = some (z29)) (e30 : a.tmps[30]? = some (.slice (some A30) n c30))
    (hend : ∀ (a : Act) (w : World), a.tmps.size = 463 → a.defers = [] → a.tmps[0]? = some (z0) → a.tmps[6]? = some (z6) → a.tmps[7]? = some (z7) → a.tmps[8]? = some (z8) → a.tmps[14]? = some (z14) → a.tmps[20]? = some (z20) → a.tmps[21]? = some (z21) → a.tmps[22]? = some (z22) → a.tmps[28]? = some (.slice A28 m c28) → a.tmps[29]? = some (z29) → a.tmps[30]? = some (.slice (some A30) n c30) → Below w1.heap.size w1 w → Q .normal a w) :
    Code.wp Try.prog (sub [true, true, true, true, true, true, true, true, true, true, true, true, true, true, true, true, true, true, false, true, false, false, true, false, false, true, true, true, false] (bodyOf Try.f4)) Q a w1 := by
  have HEND := Lib.hid hend
  have HR := Lib.hid (And.intro R28 R30)
  clear hend R28 R30
  conv => arg 2; whnf
  refine wp_seq_k fun Kq1 hKq1 => ?_
  refine sm_list [28] 426 3 hs hd (by kernel_rfl) (agC e28 agN) rfl ?_
  simp only [seval]
  go_wp2_with fail
  intro a H; replace hs := H.s hs; replace hd := H.d rfl; replace e28 := H.g 28 rfl rfl; replace e0 := H.k e0 rfl; replace e6 := H.k e6 rfl; replace e7 := H.k e7 rfl; replace e8 := H.k e8 rfl; replace e14 := H.k e14 rfl; replace e20 := H.k e20 rfl; replace e21 := H.k e21 rfl; replace e22 := H.k e22 rfl; replace e29 := H.k e29 rfl; replace e30 := H.k e30 rfl; have e427 := H.g 427 rfl rfl; have e428 := H.g 428 rfl rfl
  clear H; refine hKq1 _ _ ?_; clear hKq1 Kq1; refine wp_block ?_
  refine wp_loop (fun a w => ∃ (i : Nat), i ≤ m ∧ a.tmps.size = 463 ∧ a.defers = [] ∧ a.tmps[0]? = some (z0) ∧ a.tmps[6]? = some (z6) ∧ a.tmps[7]? = some (z7) ∧ a.tmps[8]? = some (z8) ∧ a.tmps[14]? = some (z14) ∧ a.tmps[20]? = some (z20) ∧ a.tmps[21]? = some (z21) ∧ a.tmps[22]? = some (z22) ∧ a.tmps[28]? = some (.slice A28 m c28) ∧ a.tmps[29]? = some (z29) ∧ a.tmps[30]? = some (.slice (some A30) n c30) ∧ a.tmps[427]? = some (.int .i64 (m : Int)) ∧ a.tmps[428]? = some (.int .i64 (i : Int)) ∧ Below w1.heap.size w1 w) (fun a _ => m - (intOf (a.tmps.getD 428 undef)).toNat) ?_ ?_
  · exact ⟨0, Nat.zero_le _, hs, hd, e0, e6, e7, e8, e14, e20, e21, e22, e28, e29, e30, e427, e428, Below.refl _ _⟩
  clear hs hd e428 e0 e6 e7 e8 e14 e20 e21 e22 e28 e29 e30 e427 a
  rintro a w4 ⟨i, hi, hs, hd, e0, e6, e7, e8, e14, e20, e21, e22, e28, e29, e30, e427, e428, LL⟩
  have hmm := slot e428
  have HLL := Lib.hid LL
  clear LL; refine wp_seq_k fun Kq2 hKq2 => ?_
  by_cases hlt3 : i < m
  ·
    have dj : decide ((i : Int) < (m : Int)) = true := decide_eq_true (by omega)
    obtain ⟨A, rfl, R28⟩ := HR.out.1 (by omega)
    have Ra := R28.kept HLL.out
    have Rb := HR.out.2.kept HLL.out
    have hin : i < n := by omega
    obtain ⟨ga, ca, ha1, ha2, _, ha4⟩ := Ra.row i hlt3
    obtain ⟨gb, cb, hb1, hb2, _, hb4⟩ := Rb.row i hin
    have i0 : (0 : Int) ≤ (i : Int) := by omega
    have i1 : (i : Int) < (m : Int) := by omega
    have i2 : (i : Int) < (n : Int) := by omega
    have m7 : (m : Int) ≤ 7 := by omega
    have n7 : (n : Int) ≤ 7 := by omega
    have HAB := Lib.hid (And.intro ha1 (And.intro ha2 (And.intro ha4 (And.intro hb1 (And.intro hb2 (And.intro hb4 (And.intro Ra.lt Rb.lt)))))))
    clear ha2 ha4 hb1 hb2 hb4 Ra Rb R28
    refine sm_list [427, 428] 429 1 hs hd (by kernel_rfl) (agC e427 (agC e428 agN)) rfl ?_
    simp only [seval]
    go_wp2_with fail
    intro a H; replace hs := H.s hs; replace hd := H.d rfl; replace e427 := H.g 427 rfl rfl; replace e428 := H.g 428 rfl rfl; replace e0 := H.k e0 rfl; replace e6 := H.k e6 rfl; replace e7 := H.k e7 rfl; replace e8 := H.k e8 rfl; replace e14 := H.k e14 rfl; replace e20 := H.k e20 rfl; replace e21 := H.k e21 rfl; replace e22 := H.k e22 rfl; replace e28 := H.k e28 rfl; replace e29 := H.k e29 rfl; replace e30 := H.k e30 rfl
    have e429 := H.g 429 rfl rfl; clear H; refine hKq2 _ _ ?_; clear hKq2 Kq2; refine wp_seq_k fun Kq3 hKq3 => ?_
    refine wp_cond_true (slotE e429) ?_
    clear e429; refine wp_skip ?_; refine hKq3 _ _ ?_; clear hKq3 Kq3; refine wp_seq_k fun Kq4 hKq4 => ?_; refine wp_block ?_; refine wp_seq_k fun Kq5 hKq5 => ?_
    refine sm_list [44, 428] 430 1 hs hd (by kernel_rfl) (agU (agC e428 agN)) rfl ?_
    simp only [seval]
    go_wp2_with fail
    intro a H; replace hs := H.s hs; replace hd := H.d rfl; replace e428 := H.g 428 rfl rfl; replace e0 := H.k e0 rfl; replace e6 := H.k e6 rfl; replace e7 := H.k e7 rfl; replace e8 := H.k e8 rfl; replace e14 := H.k e14 rfl; replace e20 := H.k e20 rfl; replace e21 := H.k e21 rfl; replace e22 := H.k e22 rfl; replace e28 := H.k e28 rfl; replace e29 := H.k e29 rfl; replace e30 := H.k e30 rfl; replace e427 := H.k e427 rfl
    have e44 := H.g 44 rfl rfl; clear H; refine hKq5 _ _ ?_; clear hKq5 Kq5; refine wp_seq_k fun Kq6 hKq6 => ?_
    refine sm_list [28, 44] 431 6 hs hd (by kernel_rfl) (agC e28 (agC e44 agN)) rfl ?_
    simp only [seval]
    go_wp2_with fail
    intro a H; replace hs := H.s hs; replace hd := H.d rfl; replace e28 := H.g 28 rfl rfl; replace e44 := H.g 44 rfl rfl; replace e0 := H.k e0 rfl; replace e6 := H.k e6 rfl; replace e7 := H.k e7 rfl; replace e8 := H.k e8 rfl; replace e14 := H.k e14 rfl; replace e20 := H.k e20 rfl; replace e21 := H.k e21 rfl; replace e22 := H.k e22 rfl; replace e29 := H.k e29 rfl; replace e30 := H.k e30 rfl; replace e427 := H.k e427 rfl; replace e428 := H.k e428 rfl
    have e435 := H.g 435 rfl rfl; have e436 := H.g 436 rfl rfl; clear H; refine hKq6 _ _ ?_; clear hKq6 Kq6; refine wp_block ?_; clear ha1 dj
    refine wp_loop (fun a w => ∃ (j : Nat), j ≤ 8 ∧ a.tmps.size = 463 ∧ a.defers = [] ∧ a.tmps[0]? = some (z0) ∧ a.tmps[6]? = some (z6) ∧ a.tmps[7]? = some (z7) ∧ a.tmps[8]? = some (z8) ∧ a.tmps[14]? = some (z14) ∧ a.tmps[20]? = some (z20) ∧ a.tmps[21]? = some (z21) ∧ a.tmps[22]? = some (z22) ∧ a.tmps[28]? = some (.slice (some A) m c28) ∧ a.tmps[29]? = some (z29) ∧ a.tmps[30]? = some (.slice (some A30) n c30) ∧ a.tmps[44]? = some (.int .i64 (i : Int)) ∧ a.tmps[427]? = some (.int .i64 (m : Int)) ∧ a.tmps[428]? = some (.int .i64 (i : Int)) ∧ a.tmps[435]? = some (.int .i64 8) ∧ a.tmps[436]? = some (.int .i64 (j : Int)) ∧ Below w4.heap.size w4 w) (fun a _ => 8 - (intOf (a.tmps.getD 436 undef)).toNat) ?_ ?_
    · exact ⟨0, Nat.zero_le _, hs, hd, e0, e6, e7, e8, e14, e20, e21, e22, e28, e29, e30, e44, e427, e428, e435, e436, Below.refl _ _⟩
    clear hs hd e436 e0 e6 e7 e8 e14 e20 e21 e22 e28 e29 e30 e44 e427 e428 e435 a
    rintro a w5 ⟨j, hj, hs, hd, e0, e6, e7, e8, e14, e20, e21, e22, e28, e29, e30, e44, e427, e428, e435, e436, L5⟩
    have hmj := slot e436
    have HL5 := Lib.hid L5
    clear L5; refine wp_seq_k fun Kq7 hKq7 => ?_
    by_cases hlt5 : j < 8
    ·
      have dj : (j : Int) < 8 := by omega
      have j0 : (0 : Int) ≤ (j : Int) := by omega
      obtain ⟨ha1, ha2, ha4, hb1, hb2, hb4, la, lb⟩ := HAB.out
      have b5 := HL5.out
      have hall : Hid (∀ w', Below w5.heap.size w5 w' → w'.cell? (A.add i) = some (.slice (some ⟨ga, 0, none⟩) 8 ca) ∧ w'.cell? (A30.add i) = some (.slice (some ⟨gb, 0, none⟩) 8 cb)) := Lib.hid fun w' hw => by
          have hb := b5.trans (hw.mono b5.size)
          exact ⟨by rw [hb.cell (by rw [block_of_add]; exact la)]; exact ha1, by rw [hb.cell (by rw [block_of_add]; exact lb)]; exact hb1⟩
      obtain ⟨x, hx⟩ : ∃ x, x = f i j := ⟨_, rfl⟩
      have y0 : w5.cell? ⟨ga, j, none⟩ = some (.int .i64 x) := ((bcell b5).1 _ _ ha2).trans (by rw [hx]; exact ha4 j hlt5)
      have y1 : w5.cell? ⟨gb, j, none⟩ = some (.int .i64 x) := ((bcell b5).1 _ _ hb2).trans (by rw [hx]; exact hb4 j hlt5)
      have lga : ga < w5.heap.size := Nat.lt_of_lt_of_le ha2 b5.size
      have lgb : gb < w5.heap.size := Nat.lt_of_lt_of_le hb2 b5.size
      have nx : (x != x) = false := by simp
      clear ha1 ha2 ha4 hb1 hb2 hb4 la lb b5 hx
      refine sm_list [435, 436] 437 1 hs hd (by kernel_rfl) (agC e435 (agC e436 agN)) rfl ?_
      simp only [seval]
      go_wp2_with fail
      intro a H; replace hs := H.s hs; replace hd := H.d rfl; replace e435 := H.g 435 rfl rfl; replace e436 := H.g 436 rfl rfl; replace e0 := H.k e0 rfl; replace e6 := H.k e6 rfl; replace e7 := H.k e7 rfl; replace e8 := H.k e8 rfl; replace e14 := H.k e14 rfl; replace e20 := H.k e20 rfl; replace e21 := H.k e21 rfl; replace e22 := H.k e22 rfl; replace e28 := H.k e28 rfl; replace e29 := H.k e29 rfl; replace e30 := H.k e30 rfl; replace e44 := H.k e44 rfl; replace e427 := H.k e427 rfl; replace e428 := H.k e428 rfl
      have e437 := H.g 437 rfl rfl; clear H; refine hKq7 _ _ ?_; clear hKq7 Kq7; refine wp_seq_k fun Kq8 hKq8 => ?_
      refine wp_cond_true (slotE e437) ?_
      clear e437; refine wp_skip ?_; refine hKq8 _ _ ?_; clear hKq8 Kq8; refine wp_seq_k fun Kq9 hKq9 => ?_; refine wp_block ?_; refine wp_seq_k fun Kq10 hKq10 => ?_
      refine sm_list [45, 436] 438 1 hs hd (by kernel_rfl) (agU (agC e436 agN)) rfl ?_
      simp only [seval]
      go_wp2_with fail
      intro a H; replace hs := H.s hs; replace hd := H.d rfl; replace e436 := H.g 436 rfl rfl; replace e0 := H.k e0 rfl; replace e6 := H.k e6 rfl; replace e7 := H.k e7 rfl; replace e8 := H.k e8 rfl; replace e14 := H.k e14 rfl; replace e20 := H.k e20 rfl; replace e21 := H.k e21 rfl; replace e22 := H.k e22 rfl; replace e28 := H.k e28 rfl; replace e29 := H.k e29 rfl; replace e30 := H.k e30 rfl; replace e44 := H.k e44 rfl; replace e427 := H.k e427 rfl; replace e428 := H.k e428 rfl; replace e435 := H.k e435 rfl
      have e45 := H.g 45 rfl rfl; clear H; refine hKq10 _ _ ?_; clear hKq10 Kq10; refine wp_seq_k fun Kq11 hKq11 => ?_
      suffices HK : ∀ (a' : Act) (w6 : World), a'.tmps.size = a.tmps.size → a'.defers = [] → a'.tmps[0]? = a.tmps[0]? → a'.tmps[6]? = a.tmps[6]? → a'.tmps[7]? = a.tmps[7]? → a'.tmps[8]? = a.tmps[8]? → a'.tmps[14]? = a.tmps[14]? → a'.tmps[20]? = a.tmps[20]? → a'.tmps[21]? = a.tmps[21]? → a'.tmps[22]? = a.tmps[22]? → a'.tmps[28]? = a.tmps[28]? → a'.tmps[29]? = a.tmps[29]? → a'.tmps[30]? = a.tmps[30]? → a'.tmps[44]? = a.tmps[44]? → a'.tmps[427]? = a.tmps[427]? → a'.tmps[428]? = a.tmps[428]? → a'.tmps[435]? = a.tmps[435]? → a'.tmps[436]? = a.tmps[436]? → a'.tmps[45]? = a.tmps[45]? → a'.tmps[453]? = some (.bool false) → Below w5.heap.size w5 w6 → Kq11 a' w6 by
        refine sm_any [28, 30, 44, 45] 439 15 (by kernel_rfl) hs hd (by kernel_rfl) (agC e28 (agC e30 (agC e44 (agC e45 agN)))) rfl (any_class (fun w' => Below w5.heap.size w5 w') (by kernel_rfl) ((Below.refl _ _).drew) ?_)
        simp only [seval]
        iterate 15 (with_reducible (refine wpQuiet_val (v := ?_) ?_ ?_ ?_); rotate_left; (first | exact wanted_none rfl | exact wanted_on rfl rfl rfl); (intro w' hw'; have hq2 := hall.out w' hw'; obtain ⟨hqa, hqb⟩ := hq2; obtain ⟨hc, hf⟩ := bcell hw'; go_simp; with_reducible rfl); simp only [Act.put, List.setIfInBounds_toArray, List.set_cons_zero, List.set_cons_succ])
        refine wpQuiet_nil ?_
        intro w6 hw6
        all_goals
          intro a' H
          refine HK a' _ H.size H.defers (H.out 0 rfl) (H.out 6 rfl) (H.out 7 rfl) (H.out 8 rfl) (H.out 14 rfl) (H.out 20 rfl) (H.out 21 rfl) (H.out 22 rfl) ((H.got rfl rfl).trans e28.symm) (H.out 29 rfl) ((H.got rfl rfl).trans e30.symm) ((H.got rfl rfl).trans e44.symm) (H.out 427 rfl) (H.out 428 rfl) (H.out 435 rfl) (H.out 436 rfl) ((H.got rfl rfl).trans e45.symm) ?_ ?_
          · exact H.got rfl rfl
          · exact hw6
      intro a' w6 g_s g_d g0 g6 g7 g8 g14 g20 g21 g22 g28 g29 g30 g44 g427 g428 g435 g436 g45 f453 hw6
      replace hs := g_s.trans hs; replace hd := g_d; replace e0 := g0.trans e0; replace e6 := g6.trans e6; replace e7 := g7.trans e7; replace e8 := g8.trans e8; replace e14 := g14.trans e14; replace e20 := g20.trans e20; replace e21 := g21.trans e21; replace e22 := g22.trans e22; replace e28 := g28.trans e28; replace e29 := g29.trans e29; replace e30 := g30.trans e30; replace e44 := g44.trans e44; replace e427 := g427.trans e427
      replace e428 := g428.trans e428; replace e435 := g435.trans e435; replace e436 := g436.trans e436; replace e45 := g45.trans e45; clear g_s g_d g0 g6 g7 g8 g14 g20 g21 g22 g28 g29 g30 g44 g427 g428 g435 g436 g45
      have e453 := f453
      clear f453
      first | clear a | skip
      obtain ⟨a, rfl⟩ : ∃ a, a = a' := ⟨_, rfl⟩
      refine hKq11 _ _ ?_; clear hKq11 Kq11; have L6 := HL5.out.trans (hw6.mono HL5.out.size); clear hall y0 y1 lga lgb nx hw6 HL5
      refine wp_cond_false (slotE e453) ?_
      clear e453; refine wp_skip ?_; refine hKq9 _ _ ?_; clear hKq9 Kq9; clear e45
      refine sm_list [436] 454 1 hs hd (by kernel_rfl) (agC e436 agN) rfl ?_
      simp only [seval]
      go_wp2_with fail
      intro a H; replace hs := H.s hs; replace hd := H.d rfl; replace e0 := H.k e0 rfl; replace e6 := H.k e6 rfl; replace e7 := H.k e7 rfl; replace e8 := H.k e8 rfl; replace e14 := H.k e14 rfl; replace e20 := H.k e20 rfl; replace e21 := H.k e21 rfl; replace e22 := H.k e22 rfl; replace e28 := H.k e28 rfl; replace e29 := H.k e29 rfl; replace e30 := H.k e30 rfl; replace e44 := H.k e44 rfl; replace e427 := H.k e427 rfl; replace e428 := H.k e428 rfl; replace e435 := H.k e435 rfl
      replace e436 := H.g 436 rfl rfl; clear H
      exact ⟨⟨j + 1, by omega, hs, hd, e0, e6, e7, e8, e14, e20, e21, e22, e28, e29, e30, e44, e427, e428, e435, e436, L6⟩, by first | (simp only [hmj, slot e436, intOf]; omega) | (simp [hmj, slot e436, intOf]; omega)⟩
    · have hkn : j = 8 := by omega
      subst hkn
      clear hmj
      refine sm_list [435, 436] 437 1 hs hd (by kernel_rfl) (agC e435 (agC e436 agN)) rfl ?_
      simp only [seval]
      go_wp2_with fail
      intro a H; replace hs := H.s hs; replace hd := H.d rfl; replace e435 := H.g 435 rfl rfl; replace e436 := H.g 436 rfl rfl; replace e0 := H.k e0 rfl; replace e6 := H.k e6 rfl; replace e7 := H.k e7 rfl; replace e8 := H.k e8 rfl; replace e14 := H.k e14 rfl; replace e20 := H.k e20 rfl; replace e21 := H.k e21 rfl; replace e22 := H.k e22 rfl; replace e28 := H.k e28 rfl; replace e29 := H.k e29 rfl; replace e30 := H.k e30 rfl; replace e44 := H.k e44 rfl; replace e427 := H.k e427 rfl; replace e428 := H.k e428 rfl
      have e437 := H.g 437 rfl rfl; clear H; refine hKq7 _ _ ?_; clear hKq7 Kq7; refine wp_seq_k fun Kq8 hKq8 => ?_
      refine wp_cond_false (slotE e437) ?_
      clear e437; refine wp_exit ?_; refine exit_then rfl ?_; clear hKq8 Kq8; refine exit_then rfl ?_; refine exit_hit ?_; refine hKq4 _ _ ?_; clear hKq4 Kq4; have LL6 := HLL.out.trans (HL5.out.mono HLL.out.size); clear e44; clear e435; clear e436
      refine sm_list [428] 455 1 hs hd (by kernel_rfl) (agC e428 agN) rfl ?_
      simp only [seval]
      go_wp2_with fail
      intro a H; replace hs := H.s hs; replace hd := H.d rfl; replace e0 := H.k e0 rfl; replace e6 := H.k e6 rfl; replace e7 := H.k e7 rfl; replace e8 := H.k e8 rfl; replace e14 := H.k e14 rfl; replace e20 := H.k e20 rfl; replace e21 := H.k e21 rfl; replace e22 := H.k e22 rfl; replace e28 := H.k e28 rfl; replace e29 := H.k e29 rfl; replace e30 := H.k e30 rfl; replace e427 := H.k e427 rfl; replace e428 := H.g 428 rfl rfl
      clear H
      exact ⟨⟨i + 1, by omega, hs, hd, e0, e6, e7, e8, e14, e20, e21, e22, e28, e29, e30, e427, e428, LL6⟩, by first | (simp only [hmm, slot e428, intOf]; omega) | (simp [hmm, slot e428, intOf]; omega)⟩
  · have hkn : i = m := by omega
    have dj : decide ((i : Int) < (m : Int)) = false := decide_eq_false (by omega)
    have dj2 : decide (i < m) = false := decide_eq_false (by omega)
    clear hmm
    refine sm_list [427, 428] 429 1 hs hd (by kernel_rfl) (agC e427 (agC e428 agN)) rfl ?_
    simp only [seval]
    go_wp2_with fail
    intro a H; replace hs := H.s hs; replace hd := H.d rfl; replace e427 := H.g 427 rfl rfl; replace e428 := H.g 428 rfl rfl; replace e0 := H.k e0 rfl; replace e6 := H.k e6 rfl; replace e7 := H.k e7 rfl; replace e8 := H.k e8 rfl; replace e14 := H.k e14 rfl; replace e20 := H.k e20 rfl; replace e21 := H.k e21 rfl; replace e22 := H.k e22 rfl; replace e28 := H.k e28 rfl; replace e29 := H.k e29 rfl; replace e30 := H.k e30 rfl
    have e429 := H.g 429 rfl rfl; clear H; refine hKq2 _ _ ?_; clear hKq2 Kq2; refine wp_seq_k fun Kq3 hKq3 => ?_
    refine wp_cond_false (slotE e429) ?_
    clear e429; refine wp_exit ?_; refine exit_then rfl ?_; clear hKq3 Kq3; refine exit_then rfl ?_; refine exit_hit ?_
    exact HEND.out a w4 hs hd e0 e6 e7 e8 e14 e20 e21 e22 e28 e29 e30 HLL.out
end Go.Proofs.Ytcdgofndfajekaa

namespace Go.Proofs.Ytcdgofndfajekaa
set_option linter.unusedSimpArgs false
set_option linter.unusedVariables false
open Go.RowKit Go.WideShapes Go.ChangeShapes
attribute [local go_sem ↓] Go.wp_at_zero Go.wp_at_succ

set_option maxRecDepth 100000 in
set_option maxHeartbeats 4000000 in
theorem tf_turn (R : Nat → Pr) (n m c0 c28 g0 g8 g14 g22 h8 c8 h14 c14 now : Nat) (A28 : Option Addr) (W : List Wire) (F : List Nat) (Bs : List Bks) (L : List Tre) (PS : List (List Value)) (z7 z29 : Value) (w0 w1 : World) (a : Act) (Q : Exit → Act → World → Prop)
    (SC : Sc w0 w1 g0 g8 g14 n h8 c8 h14 c14 (fun k => maskP (R k) k) W F Bs L PS) (BG : Blk w1 g22 3 (frc (gTimes W n (List.range n)))) (h22 : g22 ∉ turns Bs) (FN : Fin (fun k => maskP (R k) k) n W (now : Int) L) (hI : Inv (fun k => maskP (R k) k) n W ((now + 1 : Nat) : Int) L) (hnow : now + 1 ≤ 1000) (hn : 1 ≤ n ∧ n ≤ 7) (hW : W.length ≤ 12) (hm : m ≤ n) (R28 : 0 < m → ∃ A, A28 = some A ∧ Rl w1 (turns Bs) A m (rolesF L (now : Int)))
    (hs : a.tmps.size = 463) (hd : a.defers = []) (e0 : a.tmps[0]? = some (.slice (some ⟨g0, 0, none⟩) n c0)) (e6 : a.tmps[6]? = some (.bool false)) (e7 : a.tmps[7]? = some (z7)) (e8 : a.tmps[8]? = some (.pointer (some ⟨g8, 0, none⟩))) (e14 : a.tmps[14]? = some (.pointer (some ⟨g14, 0, none⟩))) (e20 : a.tmps[20]? = some (.func (.func 17) #[] #[.pointer (some ⟨g14, 0, none⟩), .pointer (some ⟨g8, 0, none⟩)])) (e21 : a.tmps[21]? = some (.int .i64 (now : Int))) (e22 : a.tmps[22]? = some (.slice (some ⟨g22, 0, none⟩) n n)) (e28 : a.tmps[28]? = some (.slice A28 m c28)) (e29 : a.tmps[29]? = some (z29))
    (hend : ∀ (a : Act) (w : World) (PS : List (List Value)) (A30 : Addr) (c30 : Nat), a.tmps.size = 463 → a.defers = [] → a.tmps[0]? = some (.slice (some ⟨g0, 0, none⟩) n c0) → a.tmps[6]? = some (.bool false) → a.tmps[7]? = some (z7) → a.tmps[8]? = some (.pointer (some ⟨g8, 0, none⟩)) → a.tmps[14]? = some (.pointer (some ⟨g14, 0, none⟩)) → a.tmps[20]? = some (.func (.func 17) #[] #[.pointer (some ⟨g14, 0, none⟩), .pointer (some ⟨g8, 0, none⟩)]) → a.tmps[22]? = some (.slice (some ⟨g22, 0, none⟩) n n) → a.tmps[29]? = some (z29) → a.tmps[21]? = some (.int .i64 ((now + 1 : Nat) : Int)) → a.tmps[28]? = some (.slice (some A30) n c30) → Sc w0 w g0 g8 g14 n h8 c8 h14 c14 (fun k => maskP (R k) k) W F Bs (roundS W (((now + 1) % 256 : Nat) : Int) ((now + 1 : Nat) : Int) L) PS → Blk w g22 3 (frc (gTimes W n (List.range n))) → Rl w (turns Bs) A30 n (rolesF L (now : Int)) → Q .normal a w) :
    Code.wp Try.prog (sub [true, true, true, true, true, true, true, true, true, true, true, true, true, true, true, true, true, true, false, true, false, false, true, false] (bodyOf Try.f4)) Q a w1 := by
  have HEND := Lib.hid hend
  have HSC := Lib.hid (And.intro SC (And.intro BG (And.intro FN (And.intro hI R28))))
  clear hend SC BG FN hI R28
  conv => arg 2; whnf
  refine wp_block ?_; refine wp_seq_k fun Kq1 hKq1 => ?_
  refine sm_list [30] 288 1 hs hd (by kernel_rfl) (agU agN) rfl ?_
  simp only [seval]
  go_wp2_with fail
  intro a H; replace hs := H.s hs; replace hd := H.d rfl; replace e0 := H.k e0 rfl; replace e6 := H.k e6 rfl; replace e7 := H.k e7 rfl; replace e8 := H.k e8 rfl; replace e14 := H.k e14 rfl; replace e20 := H.k e20 rfl; replace e21 := H.k e21 rfl; replace e22 := H.k e22 rfl; replace e28 := H.k e28 rfl; replace e29 := H.k e29 rfl; have e30 := H.g 30 rfl rfl; clear H; refine hKq1 _ _ ?_; clear hKq1 Kq1
  refine wp_seq_k fun Kq2 hKq2 => ?_
  have L2 := (Below.refl w1.heap.size w1).alloc (Nat.le_refl _) (.cells #[] 32)
  have O2 := ownsRow_new (e := 32) (size := 1) (n := 0) (cs := #[]) w1 (base := w1.heap.size) (Nat.le_refl _) rfl (Nat.zero_le _)
  generalize w1.alloc (.cells #[] 32) = w2 at *
  obtain ⟨v30, hv30⟩ : ∃ v, v = Value.slice (some ⟨w1.heap.size, 0, none⟩) 0 0 := ⟨_, rfl⟩
  rw [← hv30] at e30 O2
  clear hv30
  have HT : ∀ k ∈ turns Bs, k < w1.heap.size := fun k hk => by
      obtain ⟨b, hb, hk2⟩ := List.mem_flatMap.1 hk
      exact HSC.out.1.nt.old k (HSC.out.1.nt.sub b hb k (turn_all hk2))
  have HTU := Lib.hid HT
  clear HT
  refine tf_tops R n c0 g0 g8 g14 g22 h8 c8 h14 c14 now W F Bs L PS _ _ _ _ _ _ v30 w0 w1 w2 a _ HSC.out.1 HSC.out.2.1 HSC.out.2.2.1 hn L2 O2 hs hd e0 e6 e7 e8 e14 e20 e21 e22 e28 e29 e30 ?_
  clear hs hd e0 e6 e7 e8 e14 e20 e21 e22 e28 e29 e30 a L2 O2 v30
  intro a w3 v30 vs hs hd e0 e6 e7 e8 e14 e20 e21 e22 e28 e29 e30 L3 own3 RW3
  refine hKq2 _ _ ?_; clear hKq2 Kq2; refine wp_seq_k fun Kq3 hKq3 => ?_
  have hvl : vs.length = n := by have := own3.1; omega
  obtain ⟨A30, c30, rfl, RL3⟩ := RW3.rl hvl (by omega) HTU.out own3
  clear own3 RW3 hvl; have S3 := HSC.out.1.kept L3
  refine tf_wires R n c30 g0 g8 g14 h8 c8 h14 c14 now A30 W F Bs L PS _ _ _ _ _ _ _ _ _ w0 w3 a _ S3 RL3 HSC.out.2.2.1 hn hW hs hd e0 e6 e7 e8 e14 e20 e21 e22 e28 e29 e30 ?_
  clear hs hd e0 e6 e7 e8 e14 e20 e21 e22 e28 e29 e30 a
  intro a w4 hs hd e0 e6 e7 e8 e14 e20 e21 e22 e28 e29 e30 L4
  refine hKq3 _ _ ?_; clear hKq3 Kq3; refine wp_seq_k fun Kq4 hKq4 => ?_
  have b4 := L3.trans (L4.mono L3.size)
  have RL4 := RL3.kept L4
  have R284 : 0 < m → ∃ A, A28 = some A ∧ Rl w4 (turns Bs) A m (rolesF L (now : Int)) := fun h => by
      obtain ⟨A, h1, h2⟩ := HSC.out.2.2.2.2 h
      exact ⟨A, h1, h2.kept b4⟩
  clear RL3 S3 L3 L4
  refine tf_roles n m c28 c30 A28 A30 (turns Bs) (turns Bs) (rolesF L (now : Int)) _ _ _ _ _ _ _ _ _ w4 a _ hm hn.2 R284 RL4 hs hd e0 e6 e7 e8 e14 e20 e21 e22 e28 e29 e30 ?_
  clear hs hd e0 e6 e7 e8 e14 e20 e21 e22 e28 e29 e30 a
  intro a w5 hs hd e0 e6 e7 e8 e14 e20 e21 e22 e28 e29 e30 L5
  refine hKq4 _ _ ?_; clear hKq4 Kq4; refine wp_seq_k fun Kq5 hKq5 => ?_
  have b5 := b4.trans (L5.mono b4.size)
  have RL5 := RL4.kept L5
  have S5 := HSC.out.1.kept b5; have BG5 := HSC.out.2.1.kept b5
  have H5 := Lib.hid (And.intro S5 (And.intro BG5 RL5))
  clear b4 b5 RL4 R284 L5 S5 BG5 RL5
  have hwn : IntKind.i64.wrap ((now : Int) + 1) = ((now + 1 : Nat) : Int) := (IntWalk.i64_in _ ⟨by omega, by omega⟩).trans (by omega)
  refine sm_list [28, 30] 456 1 hs hd (by kernel_rfl) (agC e28 (agC e30 agN)) rfl ?_
  simp only [seval]
  go_wp2_with fail
  intro a H; replace hs := H.s hs; replace hd := H.d rfl; replace e30 := H.g 30 rfl rfl; replace e0 := H.k e0 rfl; replace e6 := H.k e6 rfl; replace e7 := H.k e7 rfl; replace e8 := H.k e8 rfl; replace e14 := H.k e14 rfl; replace e20 := H.k e20 rfl; replace e21 := H.k e21 rfl; replace e22 := H.k e22 rfl; replace e29 := H.k e29 rfl; replace e28 := H.g 28 rfl rfl; clear H; refine hKq5 _ _ ?_; clear hKq5 Kq5
  refine wp_seq_k fun Kq6 hKq6 => ?_; clear e30
  refine sm_list [21] 457 2 hs hd (by kernel_rfl) (agC e21 agN) rfl ?_
  simp only [seval]
  go_wp2_with fail
  intro a H; replace hs := H.s hs; replace hd := H.d rfl; replace e0 := H.k e0 rfl; replace e6 := H.k e6 rfl; replace e7 := H.k e7 rfl; replace e8 := H.k e8 rfl; replace e14 := H.k e14 rfl; replace e20 := H.k e20 rfl; replace e22 := H.k e22 rfl; replace e29 := H.k e29 rfl; replace e28 := H.k e28 rfl; replace e21 := H.g 21 rfl rfl; clear H; refine hKq6 _ _ ?_; clear hKq6 Kq6; refine wp_seq_k fun Kq7 hKq7 => ?_
  clear hwn
  replace e21 : a.tmps[21]? = some (.int .i64 ((now + 1 : Nat) : Int)) := by first | exact e21 | simpa using e21
  obtain ⟨K, hK⟩ : ∃ K, K = now + 1 := ⟨_, rfl⟩
  rw [← hK] at e21
  have HIK := HSC.out.2.2.2.1
  rw [← hK] at HIK
  have hRA := Lib.hid (round_any HSC.out.2.2.1.who HSC.out.2.2.1.net HIK H5.out.1.nt H5.out.1.wr (by omega) (by omega))
  have HKK := Lib.hid hK
  clear HIK hK
  refine sm_list [20, 21] 459 4 hs hd (by kernel_rfl) (agC e20 (agC e21 agN)) rfl ?_
  simp only [seval]
  go_wp2_with fail
  refine hRA.out.mono ?_
  rintro e w6 ⟨rfl, ⟨PS2, N6⟩, F6⟩
  have S6 := H5.out.1.trn F6 N6
  have BG6 := F6.blk H5.out.2.1 h22
  have RL6 := H5.out.2.2.fr F6
  have H6 := Lib.hid (And.intro S6 (And.intro BG6 RL6))
  clear N6 F6 S6 BG6 RL6
  go_wp2_with fail
  intro a H; replace hs := H.s hs; replace hd := H.d rfl; replace e20 := H.g 20 rfl rfl; replace e21 := H.g 21 rfl rfl; replace e0 := H.k e0 rfl; replace e6 := H.k e6 rfl; replace e7 := H.k e7 rfl; replace e8 := H.k e8 rfl; replace e14 := H.k e14 rfl; replace e22 := H.k e22 rfl; replace e29 := H.k e29 rfl; replace e28 := H.k e28 rfl; have e462 := H.g 462 rfl rfl; clear H; refine hKq7 _ _ ?_; clear hKq7 Kq7
  refine wp_cond_false (slotE e462) ?_
  clear e462; refine wp_skip ?_
  obtain ⟨S6, BG6, RL6⟩ := H6.out
  rw [HKK.out] at S6 e21
  exact HEND.out a w6 PS2 A30 c30 hs hd e0 e6 e7 e8 e14 e20 e22 e29 e21 e28 S6 BG6 RL6
end Go.Proofs.Ytcdgofndfajekaa

namespace Go.Proofs.Ytcdgofndfajekaa
set_option linter.unusedSimpArgs false
set_option linter.unusedVariables false
open Go.RowKit Go.WideShapes Go.ChangeShapes
attribute [local go_sem ↓] Go.wp_at_zero Go.wp_at_succ

set_option maxRecDepth 100000 in
set_option maxHeartbeats 4000000 in
theorem tf_both (R : Nat → Pr) (n c0 g0 g8 g14 g22 h8 c8 h14 c14 N0 : Nat) (W : List Wire) (F : List Nat) (Bs : List Bks) (La : List Tre) (PS : List (List Value)) (w0 w1 : World) (a : Act)
    (SC : Sc w0 w1 g0 g8 g14 n h8 c8 h14 c14 (fun k => maskP (R k) k) W F Bs La PS) (BG : Blk w1 g22 3 (frc (gTimes W n (List.range n)))) (h22 : g22 ∉ turns Bs) (FA : Fin (fun k => maskP (R k) k) n W (N0 : Int) La) (FB : Fin (fun k => maskP (R k) k) n W ((N0 + 1 : Nat) : Int) (roundS W (((N0 + 1) % 256 : Nat) : Int) ((N0 + 1 : Nat) : Int) La)) (hIA : Inv (fun k => maskP (R k) k) n W ((N0 + 1 : Nat) : Int) La) (hIB : Inv (fun k => maskP (R k) k) n W ((N0 + 2 : Nat) : Int) (roundS W (((N0 + 1) % 256 : Nat) : Int) ((N0 + 1 : Nat) : Int) La)) (hnow : N0 ≤ 500) (hn : 1 ≤ n ∧ n ≤ 7) (hW : W.length ≤ 12)
    (hs : a.tmps.size = 463) (hd : a.defers = []) (e0 : a.tmps[0]? = some (.slice (some ⟨g0, 0, none⟩) n c0)) (e6 : a.tmps[6]? = some (.bool false)) (e7 : a.tmps[7]? = some (.int .i64 (n : Int))) (e8 : a.tmps[8]? = some (.pointer (some ⟨g8, 0, none⟩))) (e14 : a.tmps[14]? = some (.pointer (some ⟨g14, 0, none⟩))) (e20 : a.tmps[20]? = some (.func (.func 17) #[] #[.pointer (some ⟨g14, 0, none⟩), .pointer (some ⟨g8, 0, none⟩)])) (e21 : a.tmps[21]? = some (.int .i64 (N0 : Int))) (e22 : a.tmps[22]? = some (.slice (some ⟨g22, 0, none⟩) n n)) :
    Code.wp Try.prog (sub [true, true, true, true, true, true, true, true, true, true, true, true, true, true, true, true, true] (bodyOf Try.f4)) (bodyPost Try.prog Try.f4 fun e w' => e = .returned (.bool true) ∧ Below w0.heap.size w0 w') a w1 := by
  have HSC := Lib.hid (And.intro FA (And.intro FB (And.intro hIA hIB)))
  have hsame : ∀ i j, i < n → j < 8 → rolesF La (N0 : Int) i j = rolesF (roundS W (((N0 + 1) % 256 : Nat) : Int) ((N0 + 1 : Nat) : Int) La) ((N0 + 1 : Nat) : Int) i j := fun i j hi hj => by
    obtain ⟨t1, h1, _⟩ := FA.inv.sys.tre hi
    obtain ⟨t2, h2, _⟩ := FB.inv.sys.tre hi
    have hb := topG_best FA.who FA.net.within hi
    rw [rolesF_at h1, rolesF_at h2]
    exact same_roles FA FB hb.1 hb.2 h1 h2 hj
  have HSA := Lib.hid hsame
  obtain ⟨Lb, hLb⟩ : ∃ Lb, Lb = (roundS W (((N0 + 1) % 256 : Nat) : Int) ((N0 + 1 : Nat) : Int) La) := ⟨_, rfl⟩
  rw [← hLb] at HSC HSA
  have HLB := Lib.hid hLb
  clear FA FB hIA hIB hsame hLb
  conv => arg 2; whnf
  refine wp_seq_k fun Kq1 hKq1 => ?_
  refine sm_list [] 28 1 hs hd (by kernel_rfl) agN rfl ?_
  simp only [seval]
  go_wp2_with fail
  intro a H; replace hs := H.s hs; replace hd := H.d rfl; replace e0 := H.k e0 rfl; replace e6 := H.k e6 rfl; replace e7 := H.k e7 rfl; replace e8 := H.k e8 rfl; replace e14 := H.k e14 rfl; replace e20 := H.k e20 rfl; replace e21 := H.k e21 rfl; replace e22 := H.k e22 rfl; have e28 := H.g 28 rfl rfl; clear H; refine hKq1 _ _ ?_; clear hKq1 Kq1; refine wp_seq_k fun Kq2 hKq2 => ?_; refine wp_seq_k fun Kq3 hKq3 => ?_
  refine sm_list [] 29 1 hs hd (by kernel_rfl) agN rfl ?_
  simp only [seval]
  go_wp2_with fail
  intro a H; replace hs := H.s hs; replace hd := H.d rfl; replace e0 := H.k e0 rfl; replace e6 := H.k e6 rfl; replace e7 := H.k e7 rfl; replace e8 := H.k e8 rfl; replace e14 := H.k e14 rfl; replace e20 := H.k e20 rfl; replace e21 := H.k e21 rfl; replace e22 := H.k e22 rfl; replace e28 := H.k e28 rfl; have e29 := H.g 29 rfl rfl; clear H; refine hKq3 _ _ ?_; clear hKq3 Kq3; refine wp_block ?_
  refine wp_loop (fun a w => ∃ (k nw : Nat) (v28 : Value) (L : List Tre) (PS : List (List Value)), Hid ((k = 0 ∧ L = La ∧ nw = N0 ∧ v28 = .slice none 0 0) ∨ (k = 1 ∧ L = Lb ∧ nw = N0 + 1 ∧ ∃ A c, v28 = .slice (some A) n c ∧ Rl w (turns Bs) A n (rolesF La (N0 : Int))) ∨ k = 2) ∧ k ≤ 2 ∧ a.tmps.size = 463 ∧ a.defers = [] ∧ a.tmps[0]? = some (.slice (some ⟨g0, 0, none⟩) n c0) ∧ a.tmps[6]? = some (.bool false) ∧ a.tmps[7]? = some (.int .i64 (n : Int)) ∧ a.tmps[8]? = some (.pointer (some ⟨g8, 0, none⟩)) ∧ a.tmps[14]? = some (.pointer (some ⟨g14, 0, none⟩)) ∧ a.tmps[20]? = some (.func (.func 17) #[] #[.pointer (some ⟨g14, 0, none⟩), .pointer (some ⟨g8, 0, none⟩)]) ∧ a.tmps[22]? = some (.slice (some ⟨g22, 0, none⟩) n n) ∧ a.tmps[21]? = some (.int .i64 (nw : Int)) ∧ a.tmps[28]? = some v28 ∧ a.tmps[29]? = some (.int .i64 (k : Int)) ∧ Sc w0 w g0 g8 g14 n h8 c8 h14 c14 (fun k => maskP (R k) k) W F Bs L PS ∧ Blk w g22 3 (frc (gTimes W n (List.range n)))) (fun a _ => 2 - (intOf (a.tmps.getD 29 undef)).toNat) ?_ ?_
  · exact ⟨0, N0, _, La, PS, Lib.hid (.inl ⟨rfl, rfl, rfl, rfl⟩), by omega, hs, hd, e0, e6, e7, e8, e14, e20, e22, e21, e28, e29, SC, BG⟩
  clear hs hd e21 e28 e29 e0 e6 e7 e8 e14 e20 e22 a SC BG PS
  rintro a w4 ⟨k, nw, v28, L, PS, HTS, hk, hs, hd, e0, e6, e7, e8, e14, e20, e22, e21, e28, e29, SC, BG⟩
  have hm := slot e29
  refine wp_seq_k fun Kq4 hKq4 => ?_; refine wp_seq_k fun Kq5 hKq5 => ?_
  obtain hTS := HTS.out
  clear HTS
  have hk3 : k = 2 ∨ k < 2 := by omega
  rcases hk3 with rfl | hlt
  · clear hTS hm
    rw [show ((2 : Nat) : Int) = 2 from rfl] at e29
    refine sm_list [29] 284 2 hs hd (by kernel_rfl) (agC e29 agN) rfl ?_
    simp only [seval]
    go_wp2_with fail
    intro a H; replace hs := H.s hs; replace hd := H.d rfl; replace e29 := H.g 29 rfl rfl; replace e0 := H.k e0 rfl; replace e6 := H.k e6 rfl; replace e7 := H.k e7 rfl; replace e8 := H.k e8 rfl; replace e14 := H.k e14 rfl; replace e20 := H.k e20 rfl; replace e22 := H.k e22 rfl; replace e21 := H.k e21 rfl; replace e28 := H.k e28 rfl; have e285 := H.g 285 rfl rfl; clear H; refine hKq5 _ _ ?_; clear hKq5 Kq5
    refine wp_cond_false (slotE e285) ?_
    clear e285; refine wp_exit ?_; refine exit_then rfl ?_; clear hKq4 Kq4; refine exit_then rfl ?_; refine exit_hit ?_; refine hKq2 _ _ ?_; clear hKq2 Kq2; refine wp_seq_k fun Kq6 hKq6 => ?_
    refine sm_list [] 6 1 hs hd (by kernel_rfl) agN rfl ?_
    simp only [seval]
    go_wp2_with fail
    intro a H; replace hs := H.s hs; replace hd := H.d rfl; replace e0 := H.k e0 rfl; replace e7 := H.k e7 rfl; replace e8 := H.k e8 rfl; replace e14 := H.k e14 rfl; replace e20 := H.k e20 rfl; replace e22 := H.k e22 rfl; replace e21 := H.k e21 rfl; replace e28 := H.k e28 rfl; replace e29 := H.k e29 rfl; replace e6 := H.g 6 rfl rfl; clear H; refine hKq6 _ _ ?_; clear hKq6 Kq6; refine wp_ret ?_
    exact sm_ret rfl hd e6 ⟨rfl, SC.low⟩
  rcases hTS with ⟨rfl, rfl, rfl, rfl⟩ | ⟨rfl, rfl, rfl, A, c, rfl, RL⟩ | rfl
  ·
    rw [show ((0 : Nat) : Int) = 0 from rfl] at e29 hm
    refine sm_list [29] 284 2 hs hd (by kernel_rfl) (agC e29 agN) rfl ?_
    simp only [seval]
    go_wp2_with fail
    intro a H; replace hs := H.s hs; replace hd := H.d rfl; replace e29 := H.g 29 rfl rfl; replace e0 := H.k e0 rfl; replace e6 := H.k e6 rfl; replace e7 := H.k e7 rfl; replace e8 := H.k e8 rfl; replace e14 := H.k e14 rfl; replace e20 := H.k e20 rfl; replace e22 := H.k e22 rfl; replace e21 := H.k e21 rfl; replace e28 := H.k e28 rfl; have e285 := H.g 285 rfl rfl; clear H; refine hKq5 _ _ ?_; clear hKq5 Kq5
    refine wp_cond_true (slotE e285) ?_
    clear e285; refine wp_skip ?_; refine hKq4 _ _ ?_; clear hKq4 Kq4; refine wp_seq_k fun Kq6 hKq6 => ?_
    refine tf_turn R n 0 c0 0 g0 g8 g14 g22 h8 c8 h14 c14 nw none W F Bs L PS _ _ w0 w4 a _ SC BG h22 HSC.out.1 HSC.out.2.2.1 (by omega) hn hW (by omega) (fun h => absurd h (by omega)) hs hd e0 e6 e7 e8 e14 e20 e21 e22 e28 e29 ?_
    clear hs hd e0 e6 e7 e8 e14 e20 e21 e22 e28 e29 a SC BG
    intro a w5 PS2 A30 c30 hs hd e0 e6 e7 e8 e14 e20 e22 e29 e21 e28 S5 BG5 RL5
    refine hKq6 _ _ ?_; clear hKq6 Kq6
    refine sm_list [29] 286 2 hs hd (by kernel_rfl) (agC e29 agN) rfl ?_
    simp only [seval]
    go_wp2_with fail
    intro a H; replace hs := H.s hs; replace hd := H.d rfl; replace e0 := H.k e0 rfl; replace e6 := H.k e6 rfl; replace e7 := H.k e7 rfl; replace e8 := H.k e8 rfl; replace e14 := H.k e14 rfl; replace e20 := H.k e20 rfl; replace e21 := H.k e21 rfl; replace e22 := H.k e22 rfl; replace e28 := H.k e28 rfl; replace e29 := H.g 29 rfl rfl; clear H
    refine ⟨⟨1, nw + 1, _, Lb, PS2, Lib.hid (.inr (.inl ⟨rfl, rfl, rfl, A30, c30, rfl, RL5⟩)), by omega, hs, hd, e0, e6, e7, e8, e14, e20, e22, e21, e28, e29, by rw [HLB.out]; exact S5, BG5⟩, by first | (simp only [hm, slot e29, intOf]; decide) | (simp [hm, slot e29, intOf])⟩
  ·
    rw [show ((1 : Nat) : Int) = 1 from rfl] at e29 hm
    refine sm_list [29] 284 2 hs hd (by kernel_rfl) (agC e29 agN) rfl ?_
    simp only [seval]
    go_wp2_with fail
    intro a H; replace hs := H.s hs; replace hd := H.d rfl; replace e29 := H.g 29 rfl rfl; replace e0 := H.k e0 rfl; replace e6 := H.k e6 rfl; replace e7 := H.k e7 rfl; replace e8 := H.k e8 rfl; replace e14 := H.k e14 rfl; replace e20 := H.k e20 rfl; replace e22 := H.k e22 rfl; replace e21 := H.k e21 rfl; replace e28 := H.k e28 rfl; have e285 := H.g 285 rfl rfl; clear H; refine hKq5 _ _ ?_; clear hKq5 Kq5
    refine wp_cond_true (slotE e285) ?_
    clear e285; refine wp_skip ?_; refine hKq4 _ _ ?_; clear hKq4 Kq4; refine wp_seq_k fun Kq6 hKq6 => ?_
    refine tf_turn R n n c0 c g0 g8 g14 g22 h8 c8 h14 c14 (N0 + 1) (some A) W F Bs L PS _ _ w0 w4 a _ SC BG h22 HSC.out.2.1 HSC.out.2.2.2 (by omega) hn hW (Nat.le_refl _) (fun _ => ⟨A, rfl, RL.same HSA.out⟩) hs hd e0 e6 e7 e8 e14 e20 e21 e22 e28 e29 ?_
    clear hs hd e0 e6 e7 e8 e14 e20 e21 e22 e28 e29 a SC BG RL
    intro a w5 PS2 A30 c30 hs hd e0 e6 e7 e8 e14 e20 e22 e29 e21 e28 S5 BG5 RL5
    refine hKq6 _ _ ?_; clear hKq6 Kq6
    refine sm_list [29] 286 2 hs hd (by kernel_rfl) (agC e29 agN) rfl ?_
    simp only [seval]
    go_wp2_with fail
    intro a H; replace hs := H.s hs; replace hd := H.d rfl; replace e0 := H.k e0 rfl; replace e6 := H.k e6 rfl; replace e7 := H.k e7 rfl; replace e8 := H.k e8 rfl; replace e14 := H.k e14 rfl; replace e20 := H.k e20 rfl; replace e21 := H.k e21 rfl; replace e22 := H.k e22 rfl; replace e28 := H.k e28 rfl; replace e29 := H.g 29 rfl rfl; clear H
    refine ⟨⟨2, _, _, _, PS2, Lib.hid (.inr (.inr rfl)), by omega, hs, hd, e0, e6, e7, e8, e14, e20, e22, e21, e28, e29, S5, BG5⟩, by first | (simp only [hm, slot e29, intOf]; decide) | (simp [hm, slot e29, intOf])⟩
  · omega
end Go.Proofs.Ytcdgofndfajekaa

namespace Go.Proofs.Ytcdgofndfajekaa
set_option linter.unusedSimpArgs false
set_option linter.unusedVariables false
open Go.RowKit Go.WideShapes Go.ChangeShapes

theorem chunks {α : Type} [Inhabited α] {n size : Nat} (h0 : 0 < size) {xs : List Value} (hl : xs.length = n * size) (f : α → List Value) (hf : ∀ a, (f a).length = size) (h : ∀ i, i < n → ∃ a, (xs.drop (i * size)).take size = f a) : ∃ R : Nat → α, xs = (List.range n).flatMap fun k => f (R k) := by
  classical
  obtain ⟨R, hR⟩ : ∃ R : Nat → α, ∀ i, i < n → (xs.drop (i * size)).take size = f (R i) :=
    ⟨fun i => if hi : i < n then Classical.choose (h i hi) else default, fun i hi => by
      simp only [dif_pos hi]
      exact Classical.choose_spec (h i hi)⟩
  refine ⟨R, ?_⟩
  have hfl : ∀ l : List Nat, (l.flatMap fun k => f (R k)).length = l.length * size := by
    intro l
    induction l with
    | nil => simp
    | cons x l ih => rw [List.flatMap_cons, List.length_append, ih, hf, List.length_cons, Nat.succ_mul, Nat.add_comm]
  apply List.ext_getElem?
  intro j
  by_cases hj : j < n * size
  · have hk : j / size < n := Nat.div_lt_of_lt_mul (by rw [Nat.mul_comm]; exact hj)
    have hr : j % size < size := Nat.mod_lt _ h0
    have e1 : j / size * size + j % size = j := by rw [Nat.mul_comm]; exact Nat.div_add_mod j size
    have h1 := flatMap_get (f := fun k => f (R k)) (size := size) (fun _ => hf _) (List.getElem?_range hk) (j % size) hr
    rw [e1] at h1
    rw [h1, ← hR (j / size) hk, List.getElem?_take, if_pos hr, List.getElem?_drop, e1]
  · rw [List.getElem?_eq_none (by omega), List.getElem?_eq_none (by rw [hfl, List.length_range]; omega)]
set_option maxHeartbeats 1000000 in
theorem open_priors {H : Type} {enc : TypeId × Value → H} {W : World} {v : Value} {d : DataW H} {p : List MemPlace} {b0 : Nat} (hv : Value.okWide Try.prog W .any b0 59 v)
    (h : DataW.Trod enc Try.prog W 0 (fun _ => true) true 59 v d p) (hlt : ∀ x ∈ p, x.block < W.heap.size) :
    ∃ (A : Option Addr) (n c : Nat) (R : Nat → Pr), v = .slice A n c ∧ n ≤ maxLen ∧ Reads W W.heap.size 4 A n ((List.range n).flatMap fun k => pcl (R k)) := by
  obtain ⟨A, n, c, xs, rfl, h1, h2, _, hr, hall⟩ := open_slice_arg (n := 5) (ls := [3, 3, 3, 3]) Try.underlying59 (by kernel_rfl) (by kernel_rfl) (by simp) hv h hlt
  have hi : Inhabited Pr := ⟨⟨0, 0, 0, 0⟩⟩
  obtain ⟨R, hR⟩ := chunks (α := Pr) (n := n) (size := 4) (by omega) hr.1 pcl (fun _ => rfl) (fun i hi => by
    have ha := hall i hi
    simp only [List.length_cons, List.length_nil, Nat.reduceAdd] at ha
    generalize (xs.drop (i * 4)).take 4 = cs at *
    match cs, ha with
    | [c0, c1, c2, c3], ⟨l0, l1, l2, l3, _⟩ =>
      obtain ⟨n0, rfl, _⟩ := l0.i64 Try.underlying3
      obtain ⟨n1, rfl, _⟩ := l1.i64 Try.underlying3
      obtain ⟨n2, rfl, _⟩ := l2.i64 Try.underlying3
      obtain ⟨n3, rfl, _⟩ := l3.i64 Try.underlying3
      exact ⟨⟨n0, n1, n2, n3⟩, rfl⟩)
  subst hR
  exact ⟨A, n, c, R, rfl, by omega, hr⟩
set_option maxHeartbeats 1000000 in
theorem open_links {H : Type} {enc : TypeId × Value → H} {W : World} {v : Value} {d : DataW H} {p : List MemPlace} {b0 : Nat} (hv : Value.okWide Try.prog W .any b0 60 v)
    (h : DataW.Trod enc Try.prog W 0 (fun _ => true) true 60 v d p) (hlt : ∀ x ∈ p, x.block < W.heap.size) :
    ∃ (A : Option Addr) (n c : Nat) (X Y : Nat → Int), v = .slice A n c ∧ n ≤ maxLen ∧ Reads W W.heap.size 2 A n ((List.range n).flatMap fun k => [.int .i64 (X k), .int .i64 (Y k)]) := by
  obtain ⟨A, n, c, xs, rfl, h1, h2, _, hr, hall⟩ := open_slice_arg (n := 5) (ls := [3, 3]) Try.underlying60 (by kernel_rfl) (by kernel_rfl) (by simp) hv h hlt
  obtain ⟨R, hR⟩ := chunks (α := Int × Int) (n := n) (size := 2) (by omega) hr.1 (fun x => [.int .i64 x.1, .int .i64 x.2]) (fun _ => rfl) (fun i hi => by
    have ha := hall i hi
    simp only [List.length_cons, List.length_nil, Nat.reduceAdd] at ha
    generalize (xs.drop (i * 2)).take 2 = cs at *
    match cs, ha with
    | [c0, c1], ⟨l0, l1, _⟩ =>
      obtain ⟨n0, rfl, _⟩ := l0.i64 Try.underlying3
      obtain ⟨n1, rfl, _⟩ := l1.i64 Try.underlying3
      exact ⟨(n0, n1), rfl⟩)
  subst hR
  exact ⟨A, n, c, fun k => (R k).1, fun k => (R k).2, rfl, by omega, hr⟩
theorem treeForms_calls (R : Nat → Pr) (A0 A1 A2 : Option Addr) (n c0 nl c1 ns c2 : Nat) (X Y : Nat → Int) (w0 : World) (hr0 : Reads w0 w0.heap.size 4 A0 n ((List.range n).flatMap fun k => pcl (R k))) (hn : n ≤ maxLen) (hnl : nl ≤ maxLen) (hns : ns ≤ maxLen)
    (hr1 : Reads w0 w0.heap.size 2 A1 nl ((List.range nl).flatMap fun k => [.int .i64 (X k), .int .i64 (Y k)])) (hL : Lie w0 A2 ns) :
    Calls Try.prog 4 #[.slice A0 n c0, .slice A1 nl c1, .slice A2 ns c2] w0 fun e w' => e = .returned (.bool true) ∧ Below w0.heap.size w0 w' := by
  refine tf_enter R A0 A1 A2 n c0 nl c1 ns c2 w0 hr0 hn hnl ?_
  intro a w g0 g8 c0 v8 F Bs L PS hs hd e0 e1 e2 e6 e7 e8 SA h1 h7 h12
  refine tf_links R A1 A2 n c0 nl c1 ns c2 g0 g8 v8 F Bs L PS X Y w0 w a hr1 SA ⟨h1, h7⟩ h12 hs hd e0 e1 e2 e6 e7 e8 ?_
  clear hs hd e0 e1 e2 e6 e7 e8 SA a L PS w
  intro a w g13 g14 h8 c8 h14 c14 fr W L PS hs hd e0 e1 e2 e6 e7 e8 e13 e14 SB LK hW
  have SC := SB.sc LK.len
  refine tf_lies R A1 A2 n c0 nl c1 ns c2 g0 g8 g14 h8 c8 h14 c14 W F Bs L PS w0 w a hL SC LK.inv ⟨h1, h7⟩ hns hs hd e0 e1 e2 e6 e7 e8 e14 ?_
  have hN := LK.net
  clear hs hd e0 e1 e2 e6 e7 e8 e13 e14 SB LK SC a w L PS
  intro a w L PS hs hd e0 e1 e2 e6 e7 e8 e14 SC hI
  refine tf_rounds R n c0 g0 g8 g14 h8 c8 h14 c14 W F Bs L PS w0 w a SC hI hN ⟨h1, h7⟩ hW hs hd e0 e6 e7 e8 e14 ?_
  clear hs hd e0 e1 e2 e6 e7 e8 e14 SC a w PS
  intro a w PS hs hd e0 e6 e7 e8 e14 e20 e21 SC
  refine tf_groups R n c0 g0 g8 g14 h8 c8 h14 c14 _ W F Bs _ PS w0 w a SC hN ⟨h1, h7⟩ hW hs hd e0 e6 e7 e8 e14 e20 e21 ?_
  have hT : ∀ k ∈ turns Bs, k < w.heap.size := fun k hk => by
    obtain ⟨b, hb, hk2⟩ := List.mem_flatMap.1 hk
    exact SC.nt.old k (SC.nt.sub b hb k (turn_all hk2))
  clear hs hd e0 e6 e7 e8 e14 e20 e21 SC a
  intro a w2 g22 hs hd e0 e6 e7 e8 e14 e20 e21 e22 SC BG hg
  have hP := mask_who (R := R) (n := n) h7
  have FA := fin_first hP hN hI
  have FB : Fin (fun k => maskP (R k) k) n W ((8 * (n + 2) + 1 + 1 : Nat) : Int) (roundS W (((8 * (n + 2) + 1 + 1) % 256 : Nat) : Int) ((8 * (n + 2) + 1 + 1 : Nat) : Int) (runS W L (8 * (n + 2)))) := fin_second hP hN hI (by omega)
  exact tf_both R n c0 g0 g8 g14 g22 h8 c8 h14 c14 (8 * (n + 2) + 1) W F Bs (runS W L (8 * (n + 2))) PS w0 w2 a SC BG (fun hm => by have := hT _ hm; omega) FA FB (FA.inv.later (by omega)) (FB.inv.later (by omega)) (by omega) ⟨h1, h7⟩ hW hs hd e0 e6 e7 e8 e14 e20 e21 e22

/-! ### The row's step -/
set_option maxRecDepth 100000 in
theorem treeForms_lifted (os : Os) (started : os.Started) (H : Type) (enc : TypeId × Value → H) :
    ReturnsInHanded {} Try.checked os 4 .any (Rows.treeFormsSpec.pre6 enc Try.prog Try.f4 Rows.treeFormsRow.domain false) (Rows.treeFormsSpec.post enc Try.prog Try.f4 false true false false) := by
  refine returnsInHanded_of_change (C := Try.checked) own started (by kernel_rfl) Try.func4
    (ChangeSpec.witness6 (enc := enc) (C := Try.checked) false ⟨#[], #[.slice none 0 0, .slice none 0 0, .slice none 0 0], []⟩ 8 (by kernel_rfl) (by kernel_rfl) (by kernel_rfl) (by kernel_rfl)) ?_
  intro W base args ds gs before hval0 hW _ _
  have hval : ∀ (j : Nat) t v, Try.f4.params[j]? = some t → args[j]? = some v → Value.okWide Try.prog W .any base t v := hval0
  have hW' := hW
  obtain ⟨p, q, hA0, hV, rfl, hfz, hnd⟩ := hW
  have hA : DataW.TrodAll enc Try.prog W 0 (fun _ => true) true Try.f4.params.toList args.toList ds p := hA0
  rw [Try.params4] at hA hval
  obtain ⟨v0, v1, v2, d0, d1, d2, p0, p1, p2, rfl, rfl, rfl, h0, h1, h2⟩ := trodAll_three hA
  obtain ⟨A0, n, c0, R, rfl, hn, hr0⟩ := open_priors (hval 0 59 v0 rfl rfl) h0 (fun x hx => hW'.lt x (by simp [hx]))
  obtain ⟨A1, nl, c1, X, Y, rfl, hnl, hr1⟩ := open_links (hval 1 60 v1 rfl rfl) h1 (fun x hx => hW'.lt x (by simp [hx]))
  obtain ⟨A2, ns, c2, xs, rfl, hns, hr2, hst⟩ := open_s20 (hval 2 24 v2 rfl rfl) h2 (fun x hx => hW'.lt x (by simp [hx]))
  exact law_post laidOut (by kernel_rfl) rfl (by kernel_rfl) Try.underlying4 rfl hW' (treeForms_calls R A0 A1 A2 n c0 nl c1 ns c2 X Y W hr0 hn hnl hns hr1 ⟨xs, hr2, hst⟩)

theorem treeForms_holds : Rows.TreeFormsSaid :=
  OpenClaim.holds_of_wide 4 Try.f4 rfl rfl rfl rfl rfl rfl rfl ⟨rfl, rfl, rfl, rfl, rfl⟩ rfl rfl rfl rfl rfl (by kernel_rfl) Try.func4 (by kernel_rfl)
    (of_decide_eq_true (by kernel_rfl)) (by unfold Func.isWrapper; first | (rw [if_pos (by decide +kernel)]; kernel_rfl) | (rw [if_neg (by decide +kernel)]; exact ⟨rfl, rfl⟩))
    (fun os started H enc _ => treeForms_lifted os started H enc)

#print axioms treeForms_holds
end Go.Proofs.Ytcdgofndfajekaa
