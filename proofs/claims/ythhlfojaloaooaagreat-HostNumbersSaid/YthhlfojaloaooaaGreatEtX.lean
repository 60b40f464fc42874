/-
  fcs: a turn of the register.
-/
import Derived.Test.YthhlfojaloaooaaGreatRows
import Derived.Test.YthhlfojaloaooaaGreatSm
import Derived.Test.YthhlfojaloaooaaGreatKitE
import Derived.WalkKit
import Derived.ProofKit
import Derived.OpenShut
import Derived.LoopTactic
import Derived.WalkLawsBesides
import Derived.WalkSpells
import Derived.Outline
import Derived.Lib.Hide
import Derived.Deep.DrawnRows
import Derived.Laws.CopyOwn
import Derived.MapKept
import Derived.Test.YthhlfojaloaooaaGreatFr
import Derived.Test.YthhlfojaloaooaaGreatMsgBase
import Derived.Test.YthhlfojaloaooaaGreatSmr
namespace Go.Proofs.YthhlfojaloaooaaGreat
set_option linter.unusedSimpArgs false
set_option linter.unusedVariables false
open Go.RowKit Go.WideShapes Go.ChangeShapes
attribute [local go_sem ↓] Go.wp_at_zero Go.wp_at_succ

/-- One turn of the register, and eight of them. -/
def st1 (x : Int) : Int := if bits .and .u32 x 1 = 1 then bits .xor .u32 (x / 2) 3988292384 else x / 2
def stN : Nat → Int → Int
  | 0, x => x
  | k + 1, x => st1 (stN k x)
set_option maxRecDepth 100000 in
set_option maxHeartbeats 4000000 in
theorem step_any (x : Int) (w : World) : Calls Tryz.prog 57 #[.int .u32 x] w fun e w' => e = .returned (.int .u32 (stN 8 x)) ∧ w = w' := by
  refine calls_sm (N := 15) Tryz.func57 rfl (by kernel_rfl) ?_
  intro a hs hd ha
  have e0 : a.tmps[0]? = some (.int .u32 x) := ha 0 _ rfl
  clear ha
  conv => arg 2; whnf
  refine wp_seq_k fun Kq1 hKq1 => ?_
  refine sm_list [] 2 1 hs hd (by kernel_rfl) agN rfl ?_
  simp only [seval]
  go_wp2_with fail
  intro a H; replace hs := H.s hs; replace hd := H.d rfl; replace e0 := H.k e0 rfl; have e2 := H.g 2 rfl rfl; clear H; refine hKq1 _ _ ?_; clear hKq1 Kq1; refine wp_seq_k fun Kq2 hKq2 => ?_; refine wp_seq_k fun Kq3 hKq3 => ?_
  refine sm_list [] 3 1 hs hd (by kernel_rfl) agN rfl ?_
  simp only [seval]
  go_wp2_with fail
  intro a H; replace hs := H.s hs; replace hd := H.d rfl; replace e0 := H.k e0 rfl; replace e2 := H.k e2 rfl; have e3 := H.g 3 rfl rfl; clear H; refine hKq3 _ _ ?_; clear hKq3 Kq3; refine wp_block ?_
  refine wp_loop (fun a w' => ∃ (j : Nat) (y : Int), j ≤ 8 ∧ y = stN j x ∧ a.tmps.size = 15 ∧ a.defers = [] ∧ a.tmps[0]? = some (.int .u32 y) ∧ a.tmps[3]? = some (.int .i64 (j : Int)) ∧ w = w') (fun a _ => 8 - (intOf (a.tmps.getD 3 undef)).toNat) ?_ ?_
  · exact ⟨0, x, by omega, rfl, hs, hd, e0, e3, rfl⟩
  clear hs hd e0 e2 e3 a
  rintro a w3 ⟨j, y, hj, hy, hs, hd, e0, e3, rfl⟩
  have hm := slot e3
  have HY := Lib.hid hy
  clear hy; refine wp_seq_k fun Kq4 hKq4 => ?_
  by_cases hlt3 : j < 8
  ·
    have dj : (j : Int) < 8 := by omega
    refine sm_list [3] 4 1 hs hd (by kernel_rfl) (agC e3 agN) rfl ?_
    simp only [seval]
    go_wp2_with fail
    intro a H; replace hs := H.s hs; replace hd := H.d rfl; replace e3 := H.g 3 rfl rfl; replace e0 := H.k e0 rfl; have e4 := H.g 4 rfl rfl; clear H; refine hKq4 _ _ ?_; clear hKq4 Kq4; refine wp_seq_k fun Kq5 hKq5 => ?_
    refine wp_cond_true (slotE e4) ?_
    clear e4; refine wp_skip ?_; refine hKq5 _ _ ?_; clear hKq5 Kq5; refine wp_seq_k fun Kq6 hKq6 => ?_; refine wp_block ?_; refine wp_seq_k fun Kq7 hKq7 => ?_
    by_cases hb : bits .and .u32 y 1 = 1
    · have hq : (bits .and .u32 y 1 == 1) = true := by rw [hb]; rfl
      have hn : stN (j + 1) x = bits .xor .u32 (y / 2) 3988292384 := by show st1 (stN j x) = _; rw [← HY.out]; exact if_pos hb
      have HN := Lib.hid hn
      clear hn
      refine sm_list [0] 5 3 hs hd (by kernel_rfl) (agC e0 agN) rfl ?_
      simp only [seval]
      go_wp2_with fail
      intro a H; replace hs := H.s hs; replace hd := H.d rfl; replace e0 := H.g 0 rfl rfl; replace e3 := H.k e3 rfl; have e7 := H.g 7 rfl rfl; clear H; refine hKq7 _ _ ?_; clear hKq7 Kq7
      refine wp_cond_true (slotE e7) ?_
      clear e7
      refine sm_list [0] 8 3 hs hd (by kernel_rfl) (agC e0 agN) rfl ?_
      simp only [seval]
      go_wp2_with fail
      intro a H; replace hs := H.s hs; replace hd := H.d rfl; replace e3 := H.k e3 rfl; replace e0 := H.g 0 rfl rfl; clear H; refine hKq6 _ _ ?_; clear hKq6 Kq6
      refine sm_list [3] 13 1 hs hd (by kernel_rfl) (agC e3 agN) rfl ?_
      simp only [seval]
      go_wp2_with fail
      intro a H; replace hs := H.s hs; replace hd := H.d rfl; replace e0 := H.k e0 rfl; replace e3 := H.g 3 rfl rfl; clear H
      exact ⟨⟨j + 1, _, by omega, HN.out.symm, hs, hd, e0, e3, rfl⟩, by first | (simp only [hm, slot e3, intOf]; omega) | (simp [hm, slot e3, intOf]; omega)⟩
    · have hq : (bits .and .u32 y 1 == 1) = false := beq_eq_false_iff_ne.2 hb
      have hn : stN (j + 1) x = y / 2 := by show st1 (stN j x) = _; rw [← HY.out]; exact if_neg hb
      have HN := Lib.hid hn
      clear hn
      refine sm_list [0] 5 3 hs hd (by kernel_rfl) (agC e0 agN) rfl ?_
      simp only [seval]
      go_wp2_with fail
      intro a H; replace hs := H.s hs; replace hd := H.d rfl; replace e0 := H.g 0 rfl rfl; replace e3 := H.k e3 rfl; have e7 := H.g 7 rfl rfl; clear H; refine hKq7 _ _ ?_; clear hKq7 Kq7
      refine wp_cond_false (slotE e7) ?_
      clear e7
      refine sm_list [0] 11 2 hs hd (by kernel_rfl) (agC e0 agN) rfl ?_
      simp only [seval]
      go_wp2_with fail
      intro a H; replace hs := H.s hs; replace hd := H.d rfl; replace e3 := H.k e3 rfl; replace e0 := H.g 0 rfl rfl; clear H; refine hKq6 _ _ ?_; clear hKq6 Kq6
      refine sm_list [3] 13 1 hs hd (by kernel_rfl) (agC e3 agN) rfl ?_
      simp only [seval]
      go_wp2_with fail
      intro a H; replace hs := H.s hs; replace hd := H.d rfl; replace e0 := H.k e0 rfl; replace e3 := H.g 3 rfl rfl; clear H
      exact ⟨⟨j + 1, _, by omega, HN.out.symm, hs, hd, e0, e3, rfl⟩, by first | (simp only [hm, slot e3, intOf]; omega) | (simp [hm, slot e3, intOf]; omega)⟩
  · have hkn : j = 8 := by omega
    subst hkn
    clear hm
    refine sm_list [3] 4 1 hs hd (by kernel_rfl) (agC e3 agN) rfl ?_
    simp only [seval]
    go_wp2_with fail
    intro a H; replace hs := H.s hs; replace hd := H.d rfl; replace e3 := H.g 3 rfl rfl; replace e0 := H.k e0 rfl; have e4 := H.g 4 rfl rfl; clear H; refine hKq4 _ _ ?_; clear hKq4 Kq4; refine wp_seq_k fun Kq5 hKq5 => ?_
    refine wp_cond_false (slotE e4) ?_
    clear e4; refine wp_exit ?_; refine exit_then rfl ?_; clear hKq5 Kq5; refine exit_then rfl ?_; refine exit_hit ?_; refine hKq2 _ _ ?_; clear hKq2 Kq2; refine wp_seq_k fun Kq6 hKq6 => ?_
    refine sm_list [0, 2] 14 1 hs hd (by kernel_rfl) (agC e0 (agU agN)) rfl ?_
    simp only [seval]
    go_wp2_with fail
    intro a H; replace hs := H.s hs; replace hd := H.d rfl; replace e0 := H.g 0 rfl rfl; replace e3 := H.k e3 rfl; have e2 := H.g 2 rfl rfl; clear H; refine hKq6 _ _ ?_; clear hKq6 Kq6; refine wp_ret ?_
    rw [HY.out] at e2
    exact sm_ret rfl hd e2 ⟨rfl, rfl⟩
end Go.Proofs.YthhlfojaloaooaaGreat

namespace Go.Proofs.YthhlfojaloaooaaGreat
set_option linter.unusedSimpArgs false
set_option linter.unusedVariables false
open Go.RowKit Go.WideShapes Go.ChangeShapes
attribute [local go_sem ↓] Go.wp_at_zero Go.wp_at_succ

theorem us_at {bs : List Int} {j : Nat} {b : Int} (h : bs[j]? = some b) : (us bs)[j]? = some (.int .u8 b) := by unfold us; rw [List.getElem?_map, h]; rfl
def regV (bs : List Int) : Int := bs.foldl (fun x c => stN 8 (bits .xor .u32 x c)) 4294967295
def sumV (bs : List Int) : Int := bits .xor .u32 IntKind.u32.max (regV bs)
theorem regV_snoc (bs : List Int) (c : Int) : regV (bs ++ [c]) = stN 8 (bits .xor .u32 (regV bs) c) := by unfold regV; rw [List.foldl_append]; rfl
set_option maxRecDepth 100000 in
set_option maxHeartbeats 4000000 in
theorem sum_any (A : Option Addr) (n c : Nat) (bs : List Int) (w : World) (hr : Reads w w.heap.size 1 A n (us bs)) (hb : ∀ b ∈ bs, 0 ≤ b ∧ b ≤ 255) (hn : n ≤ 1000000) : Calls Tryz.prog 41 #[.slice A n c] w fun e w' => e = .returned (.int .u32 (sumV bs)) ∧ w = w' := by
  have hl : bs.length = n := by have := hr.1; rw [us_length] at this; omega
  have HB := Lib.hid hb
  have HR := Lib.hid hr
  have HL := Lib.hid hl
  clear hb hr hl
  refine calls_sm (N := 20) Tryz.func41 rfl (by kernel_rfl) ?_
  intro a hs hd ha
  have e0 : a.tmps[0]? = some (.slice A n c) := ha 0 _ rfl
  clear ha
  conv => arg 2; whnf
  refine wp_seq_k fun Kq1 hKq1 => ?_
  refine sm_list [] 2 1 hs hd (by kernel_rfl) agN rfl ?_
  simp only [seval]
  go_wp2_with fail
  intro a H; replace hs := H.s hs; replace hd := H.d rfl; replace e0 := H.k e0 rfl; have e2 := H.g 2 rfl rfl; clear H; refine hKq1 _ _ ?_; clear hKq1 Kq1; refine wp_seq_k fun Kq2 hKq2 => ?_
  refine sm_list [] 3 1 hs hd (by kernel_rfl) agN rfl ?_
  simp only [seval]
  go_wp2_with fail
  intro a H; replace hs := H.s hs; replace hd := H.d rfl; replace e0 := H.k e0 rfl; replace e2 := H.k e2 rfl; have e3 := H.g 3 rfl rfl; clear H; refine hKq2 _ _ ?_; clear hKq2 Kq2; refine wp_seq_k fun Kq3 hKq3 => ?_; refine wp_seq_k fun Kq4 hKq4 => ?_
  refine sm_list [0] 6 3 hs hd (by kernel_rfl) (agC e0 agN) rfl ?_
  simp only [seval]
  go_wp2_with fail
  intro a H; replace hs := H.s hs; replace hd := H.d rfl; replace e0 := H.g 0 rfl rfl; replace e2 := H.k e2 rfl; replace e3 := H.k e3 rfl; have e6 := H.g 6 rfl rfl; have e7 := H.g 7 rfl rfl; have e8 := H.g 8 rfl rfl; clear H; refine hKq4 _ _ ?_; clear hKq4 Kq4; refine wp_block ?_
  refine wp_loop (fun a w' => ∃ (j : Nat) (y : Int), j ≤ n ∧ y = regV (bs.take j) ∧ a.tmps.size = 20 ∧ a.defers = [] ∧ a.tmps[3]? = some (.int .u32 y) ∧ a.tmps[6]? = some (.slice A n c) ∧ a.tmps[7]? = some (.int .i64 (n : Int)) ∧ a.tmps[8]? = some (.int .i64 (j : Int)) ∧ w = w') (fun a _ => n - (intOf (a.tmps.getD 8 undef)).toNat) ?_ ?_
  · exact ⟨0, _, Nat.zero_le _, rfl, hs, hd, e3, e6, e7, e8, rfl⟩
  clear hs hd e0 e2 e3 e6 e7 e8 a
  rintro a w3 ⟨j, y, hj, hy, hs, hd, e3, e6, e7, e8, rfl⟩
  have hm := slot e8
  have HY := Lib.hid hy
  clear hy; refine wp_seq_k fun Kq5 hKq5 => ?_
  by_cases hlt3 : j < n
  ·
    have dj : decide ((j : Int) < (n : Int)) = true := decide_eq_true (by omega)
    have j0 : (0 : Int) ≤ (j : Int) := by omega
    have j1 : (j : Int) < (n : Int) := by omega
    have hnI : (n : Int) ≤ 1000000 := by omega
    obtain ⟨b, hb⟩ : ∃ b, bs[j]? = some b := ⟨_, List.getElem?_eq_getElem (by rw [HL.out]; exact hlt3)⟩
    obtain ⟨ad, rfl, _, hc⟩ := HR.out.2 (by omega)
    have hc0 := hc j _ (us_at hb)
    have hn : regV (bs.take (j + 1)) = stN 8 (bits .xor .u32 y b) := by rw [List.take_add_one, hb, HY.out]; exact regV_snoc _ _
    have HN := Lib.hid hn
    obtain ⟨hb0, hb1⟩ := HB.out b (List.mem_of_getElem? hb)
    skip
    clear hc hb hn
    refine sm_list [7, 8] 9 1 hs hd (by kernel_rfl) (agC e7 (agC e8 agN)) rfl ?_
    simp only [seval]
    go_wp2_with fail
    intro a H; replace hs := H.s hs; replace hd := H.d rfl; replace e7 := H.g 7 rfl rfl; replace e8 := H.g 8 rfl rfl; replace e3 := H.k e3 rfl; replace e6 := H.k e6 rfl; have e9 := H.g 9 rfl rfl; clear H; refine hKq5 _ _ ?_; clear hKq5 Kq5; refine wp_seq_k fun Kq6 hKq6 => ?_
    refine wp_cond_true (slotE e9) ?_
    clear e9; refine wp_skip ?_; refine hKq6 _ _ ?_; clear hKq6 Kq6; refine wp_seq_k fun Kq7 hKq7 => ?_; refine wp_block ?_; refine wp_seq_k fun Kq8 hKq8 => ?_
    refine sm_list [5, 6, 8] 10 2 hs hd (by kernel_rfl) (agU (agC e6 (agC e8 agN))) rfl ?_
    simp only [seval]
    go_wp2_with fail
    intro a H; replace hs := H.s hs; replace hd := H.d rfl; replace e6 := H.g 6 rfl rfl; replace e8 := H.g 8 rfl rfl; replace e3 := H.k e3 rfl; replace e7 := H.k e7 rfl; have e5 := H.g 5 rfl rfl; clear H; refine hKq8 _ _ ?_; clear hKq8 Kq8; clear hc0
    refine sm_list [3, 5] 12 5 hs hd (by kernel_rfl) (agC e3 (agC e5 agN)) rfl ?_
    simp only [seval]
    go_wp2_with fail
    refine (step_any _ _).mono ?_
    rintro e w4 ⟨rfl, rfl⟩
    go_wp2_with fail
    intro a H; replace hs := H.s hs; replace hd := H.d rfl; replace e5 := H.g 5 rfl rfl; replace e6 := H.k e6 rfl; replace e7 := H.k e7 rfl; replace e8 := H.k e8 rfl; replace e3 := H.g 3 rfl rfl; clear H; refine hKq7 _ _ ?_; clear hKq7 Kq7
    rw [← HN.out] at e3
    clear e5
    refine sm_list [8] 17 1 hs hd (by kernel_rfl) (agC e8 agN) rfl ?_
    simp only [seval]
    go_wp2_with fail
    intro a H; replace hs := H.s hs; replace hd := H.d rfl; replace e6 := H.k e6 rfl; replace e7 := H.k e7 rfl; replace e3 := H.k e3 rfl; replace e8 := H.g 8 rfl rfl; clear H
    exact ⟨⟨j + 1, _, by omega, rfl, hs, hd, e3, e6, e7, e8, rfl⟩, by first | (simp only [hm, slot e8, intOf]; omega) | (simp [hm, slot e8, intOf]; omega)⟩
  · have hkn : j = n := by omega
    have dj : decide ((j : Int) < (n : Int)) = false := decide_eq_false (by omega)
    have dj2 : decide (j < n) = false := decide_eq_false (by omega)
    clear hm; have hy := HY.out
    rw [hkn, List.take_of_length_le (by rw [HL.out]; exact Nat.le_refl _)] at hy
    have HY2 := Lib.hid hy
    clear HY hy
    refine sm_list [7, 8] 9 1 hs hd (by kernel_rfl) (agC e7 (agC e8 agN)) rfl ?_
    simp only [seval]
    go_wp2_with fail
    intro a H; replace hs := H.s hs; replace hd := H.d rfl; replace e7 := H.g 7 rfl rfl; replace e8 := H.g 8 rfl rfl; replace e3 := H.k e3 rfl; replace e6 := H.k e6 rfl; have e9 := H.g 9 rfl rfl; clear H; refine hKq5 _ _ ?_; clear hKq5 Kq5; refine wp_seq_k fun Kq6 hKq6 => ?_
    refine wp_cond_false (slotE e9) ?_
    clear e9; refine wp_exit ?_; refine exit_then rfl ?_; clear hKq6 Kq6; refine exit_then rfl ?_; refine exit_hit ?_; refine hKq3 _ _ ?_; clear hKq3 Kq3; refine wp_seq_k fun Kq7 hKq7 => ?_
    refine sm_list [2, 3] 18 2 hs hd (by kernel_rfl) (agU (agC e3 agN)) rfl ?_
    simp only [seval]
    go_wp2_with fail
    intro a H; replace hs := H.s hs; replace hd := H.d rfl; replace e3 := H.g 3 rfl rfl; replace e6 := H.k e6 rfl; replace e7 := H.k e7 rfl; replace e8 := H.k e8 rfl; have e2 := H.g 2 rfl rfl; clear H; refine hKq7 _ _ ?_; clear hKq7 Kq7; refine wp_ret ?_
    rw [HY2.out] at e2
    exact sm_ret rfl hd e2 ⟨rfl, rfl⟩
end Go.Proofs.YthhlfojaloaooaaGreat

namespace Go.Proofs.YthhlfojaloaooaaGreat
set_option linter.unusedSimpArgs false
set_option linter.unusedVariables false
open Go.RowKit Go.WideShapes Go.ChangeShapes
attribute [local go_sem ↓] Go.wp_at_zero Go.wp_at_succ

theorem styB : SliceTy Tryz.prog 23 5 1 1 := sliceTy_mk (z := .int .u8 0) Tryz.underlying23 (by kernel_rfl) rfl
theorem us_one (bs : List Int) : ∀ u ∈ us bs, u.oneCell' = true := by
  intro u hu
  unfold us at hu
  obtain ⟨x, _, rfl⟩ := List.mem_map.1 hu
  rfl
theorem bits_u32 (o : BinOp) (x y : Int) (ho : o = .xor) : 0 ≤ bits o .u32 x y ∧ bits o .u32 x y < 4294967296 := by
  subst ho
  show 0 ≤ (_ : Int) % 4294967296 ∧ (_ : Int) % 4294967296 < 4294967296
  exact ⟨Int.emod_nonneg _ (by decide), Int.emod_lt_of_pos _ (by decide)⟩
theorem sumV_range (bs : List Int) : 0 ≤ sumV bs ∧ sumV bs < 4294967296 := bits_u32 _ _ _ rfl
def le4 (x : Int) : List Int := [x % 256, x / 256 % 256, x / 65536 % 256, x / 16777216]
set_option maxRecDepth 100000 in
set_option maxHeartbeats 4000000 in
theorem close_any (A : Option Addr) (n c : Nat) (bs : List Int) (w : World) (hr : Reads w w.heap.size 1 A n (us bs)) (hb : ∀ b ∈ bs, 0 ≤ b ∧ b ≤ 255) (hn : n ≤ 1000000) : Calls Tryz.prog 44 #[.slice A n c] w fun e w' => ∃ v, e = .returned v ∧ w'.ownsRow w.heap.size 5 1 v (n + 4) (us (bs ++ le4 (sumV bs))) ∧ Below w.heap.size w w' := by
  have HS := Lib.hid (sum_any A n c bs w hr hb hn)
  obtain ⟨x, hx⟩ : ∃ x, x = sumV bs := ⟨_, rfl⟩
  obtain ⟨hx0, hx1⟩ := sumV_range bs
  rw [← hx] at hx0 hx1 HS ⊢
  have own0 := ownsRow_nil w w.heap.size 5 1
  have hone := us_one bs
  have HX := Lib.hid hx
  clear hb hx
  refine calls_sm (N := 21) Tryz.func44 rfl (by kernel_rfl) ?_
  intro a hs hd ha
  have e0 : a.tmps[0]? = some (.slice A n c) := ha 0 _ rfl
  clear ha
  conv => arg 2; whnf
  refine wp_seq_k fun Kq1 hKq1 => ?_
  refine sm_list [] 2 1 hs hd (by kernel_rfl) agN rfl ?_
  simp only [seval]
  go_wp2_with fail
  intro a H; replace hs := H.s hs; replace hd := H.d rfl; replace e0 := H.k e0 rfl; have e2 := H.g 2 rfl rfl; clear H; refine hKq1 _ _ ?_; clear hKq1 Kq1; refine wp_seq_k fun Kq2 hKq2 => ?_
  refine sm_list [0] 3 3 hs hd (by kernel_rfl) (agC e0 agN) rfl ?_
  simp only [seval]
  go_wp2_with fail
  refine HS.out.mono ?_
  rintro e w4 ⟨rfl, rfl⟩
  go_wp2_with fail
  intro a H; replace hs := H.s hs; replace hd := H.d rfl; replace e0 := H.g 0 rfl rfl; replace e2 := H.k e2 rfl; have e3 := H.g 3 rfl rfl; clear H; refine hKq2 _ _ ?_; clear hKq2 Kq2; refine wp_seq_k fun Kq3 hKq3 => ?_
  refine sm_list [0, 2, 3] 6 15 hs hd (by kernel_rfl) (agC e0 (agC e2 (agC e3 agN))) rfl ?_
  simp only [seval]
  go_wp2_with (first | (refine wpList_pushR rfl (.const (.slice none 0 0)) (.tmp 3) 23 rfl styB rfl hr hone rfl own0 (by omega) (Nat.le_refl _) ?_; intro v1 w1 own1 gr1) | (at_builtin; refine wpList_pushG 4 rfl (.tmp 4) (.tmp 16) 23 rfl styB (wr := w1) (cs := #[.int .u8 (x % 256), .int .u8 (x / 256 % 256), .int .u8 (x / 65536 % 256), .int .u8 (x / 16777216)]) rfl (us_one (le4 x)) rfl own1 rfl rfl (by omega) (gr1.size) ?_; intro v2 w2 own2 gr2 mv2) | fail)
  intro a H; replace hs := H.s hs; replace hd := H.d rfl; replace e0 := H.g 0 rfl rfl; replace e3 := H.g 3 rfl rfl; replace e2 := H.g 2 rfl rfl; clear H; refine hKq3 _ _ ?_; clear hKq3 Kq3; refine wp_ret ?_
  have hb1 := below_of_grown gr1 own0 (Nat.le_refl _)
  have hb2 := hb1.trans (below_of_grown gr2 own1 gr1.size)
  have own3 : w2.ownsRow w.heap.size 5 1 v2 (n + 4) (us (bs ++ le4 x)) := by rw [us_append]; simpa [us, le4] using own2
  exact sm_ret rfl hd e2 ⟨v2, rfl, own3, hb2⟩
end Go.Proofs.YthhlfojaloaooaaGreat

namespace Go.Proofs.YthhlfojaloaooaaGreat
set_option linter.unusedSimpArgs false
set_option linter.unusedVariables false
open Go.RowKit Go.WideShapes Go.ChangeShapes
attribute [local go_sem ↓] Go.wp_at_zero Go.wp_at_succ

def combV (b0 b1 b2 b3 : Int) : Int := bits .or .u32 (bits .or .u32 (bits .or .u32 (IntKind.u32.wrap b0) (IntKind.u32.wrap (IntKind.u32.wrap b1 * 256))) (IntKind.u32.wrap (IntKind.u32.wrap b2 * 65536))) (IntKind.u32.wrap (IntKind.u32.wrap b3 * 16777216))
def openV (bs : List Int) : Option (List Int) := if bs.length < 4 then none else if sumV (bs.take (bs.length - 4)) = combV ((bs[bs.length - 4]?).getD 0) ((bs[bs.length - 3]?).getD 0) ((bs[bs.length - 2]?).getD 0) ((bs[bs.length - 1]?).getD 0) then some (bs.take (bs.length - 4)) else none
set_option maxRecDepth 100000 in
set_option maxHeartbeats 4000000 in
theorem open_any (A : Option Addr) (n c : Nat) (bs : List Int) (w : World) (hr : Reads w w.heap.size 1 A n (us bs)) (hb : ∀ b ∈ bs, 0 ≤ b ∧ b ≤ 255) (hn : n ≤ 1000000) (hnc : n ≤ c) : Calls Tryz.prog 24 #[.slice A n c] w fun e w' => Below w.heap.size w w' ∧ ((openV bs = none ∧ e = .returned (.tuple #[.slice none 0 0, .bool false])) ∨ ∃ ys v, openV bs = some ys ∧ e = .returned (.tuple #[v, .bool true]) ∧ w'.ownsRow w.heap.size 5 1 v ys.length (us ys)) := by
  have hl : bs.length = n := by have := hr.1; rw [us_length] at this; omega
  have HB := Lib.hid hb
  have HR := Lib.hid hr
  have HL := Lib.hid hl
  clear hb hr hl
  refine calls_sm (N := 50) Tryz.func24 rfl (by kernel_rfl) ?_
  intro a hs hd ha
  have e0 : a.tmps[0]? = some (.slice A n c) := ha 0 _ rfl
  clear ha
  conv => arg 2; whnf
  refine wp_seq_k fun Kq1 hKq1 => ?_
  refine sm_list [] 2 2 hs hd (by kernel_rfl) agN rfl ?_
  simp only [seval]
  go_wp2_with fail
  intro a H; replace hs := H.s hs; replace hd := H.d rfl; replace e0 := H.k e0 rfl; have e2 := H.g 2 rfl rfl; have e3 := H.g 3 rfl rfl; clear H; refine hKq1 _ _ ?_; clear hKq1 Kq1; refine wp_seq_k fun Kq2 hKq2 => ?_
  have hnI : (n : Int) ≤ 1000000 := by omega
  have hw0 : IntKind.i64.wrap ((n : Int) - 4) = (n : Int) - 4 := IntWalk.i64_in _ ⟨by omega, by omega⟩
  refine sm_list [0, 4] 6 3 hs hd (by kernel_rfl) (agC e0 (agU agN)) rfl ?_
  simp only [seval]
  go_wp2_with fail
  intro a H; replace hs := H.s hs; replace hd := H.d rfl; replace e0 := H.g 0 rfl rfl; replace e2 := H.k e2 rfl; replace e3 := H.k e3 rfl; have e4 := H.g 4 rfl rfl; clear H; refine hKq2 _ _ ?_; clear hKq2 Kq2; refine wp_seq_k fun Kq3 hKq3 => ?_; refine wp_seq_k fun Kq4 hKq4 => ?_
  by_cases h4 : n < 4
  · have d0 : (n : Int) - 4 < 0 := by omega
    refine sm_list [4] 9 2 hs hd (by kernel_rfl) (agC e4 agN) rfl ?_
    simp only [seval]
    go_wp2_with fail
    intro a H; replace hs := H.s hs; replace hd := H.d rfl; replace e4 := H.g 4 rfl rfl; replace e0 := H.k e0 rfl; replace e2 := H.k e2 rfl; replace e3 := H.k e3 rfl; have e10 := H.g 10 rfl rfl; clear H; refine hKq4 _ _ ?_; clear hKq4 Kq4
    refine wp_cond_true (slotE e10) ?_
    clear e10; refine wp_seq_k fun Kq5 hKq5 => ?_
    refine sm_list [] 2 2 hs hd (by kernel_rfl) agN rfl ?_
    simp only [seval]
    go_wp2_with fail
    intro a H; replace hs := H.s hs; replace hd := H.d rfl; replace e0 := H.k e0 rfl; replace e4 := H.k e4 rfl; replace e2 := H.g 2 rfl rfl; replace e3 := H.g 3 rfl rfl; clear H; refine hKq5 _ _ ?_; clear hKq5 Kq5; refine wp_ret ?_; refine exit_then rfl ?_
    have hop : openV bs = none := if_pos (by rw [HL.out]; exact h4)
    exact sm_ret2 rfl hd e2 e3 ⟨Below.refl _ _, .inl ⟨hop, rfl⟩⟩
  obtain ⟨m, hm⟩ : ∃ m, n = m + 4 := ⟨n - 4, by omega⟩
  rw [show (n : Int) - 4 = (m : Int) by omega] at e4
  have HM := Lib.hid hm
  clear hw0 h4
  refine sm_list [4] 9 2 hs hd (by kernel_rfl) (agC e4 agN) rfl ?_
  simp only [seval]
  go_wp2_with fail
  intro a H; replace hs := H.s hs; replace hd := H.d rfl; replace e4 := H.g 4 rfl rfl; replace e0 := H.k e0 rfl; replace e2 := H.k e2 rfl; replace e3 := H.k e3 rfl; have e10 := H.g 10 rfl rfl; clear H; refine hKq4 _ _ ?_; clear hKq4 Kq4
  refine wp_cond_false (slotE e10) ?_
  clear e10; refine wp_skip ?_; refine hKq3 _ _ ?_; clear hKq3 Kq3; refine wp_seq_k fun Kq5 hKq5 => ?_
  obtain ⟨ad, rfl, hadl, hc⟩ := HR.out.2 (by omega)
  have hlen : (bs.take m).length = m := by rw [List.length_take, HL.out]; omega
  have hr4 : Reads w w.heap.size 1 (some ad) m (us (bs.take m)) := ⟨by rw [us_length, hlen, Nat.mul_one], fun _ => ⟨ad, rfl, hadl, fun j u hu => hc j u (by
      unfold us at hu ⊢
      rw [List.map_take, List.getElem?_take] at hu
      split at hu
      · exact hu
      · cases hu)⟩⟩
  have HS := Lib.hid (sum_any (some ad) m c (bs.take m) w hr4 (fun b hb => HB.out b (List.mem_of_mem_take hb)) (by omega))
  have m0 : (0 : Int) ≤ (m : Int) := by omega
  have mc : (m : Int) ≤ (c : Int) := by omega
  have HRM := Lib.hid hr4
  obtain ⟨b0, hb0⟩ : ∃ b, bs[m + 0]? = some b := ⟨_, List.getElem?_eq_getElem (by rw [HL.out]; omega)⟩
  have hc0 := hc (m + 0) _ (us_at hb0)
  obtain ⟨hl0, hu0⟩ := HB.out b0 (List.mem_of_getElem? hb0)
  obtain ⟨b1, hb1⟩ : ∃ b, bs[m + 1]? = some b := ⟨_, List.getElem?_eq_getElem (by rw [HL.out]; omega)⟩
  have hc1 := hc (m + 1) _ (us_at hb1)
  obtain ⟨hl1, hu1⟩ := HB.out b1 (List.mem_of_getElem? hb1)
  obtain ⟨b2, hb2⟩ : ∃ b, bs[m + 2]? = some b := ⟨_, List.getElem?_eq_getElem (by rw [HL.out]; omega)⟩
  have hc2 := hc (m + 2) _ (us_at hb2)
  obtain ⟨hl2, hu2⟩ := HB.out b2 (List.mem_of_getElem? hb2)
  obtain ⟨b3, hb3⟩ : ∃ b, bs[m + 3]? = some b := ⟨_, List.getElem?_eq_getElem (by rw [HL.out]; omega)⟩
  have hc3 := hc (m + 3) _ (us_at hb3)
  obtain ⟨hl3, hu3⟩ := HB.out b3 (List.mem_of_getElem? hb3)
  have hop : openV bs = if sumV (bs.take m) = combV b0 b1 b2 b3 then some (bs.take m) else none := by
      unfold openV
      rw [if_neg (by rw [HL.out]; omega), HL.out, show n - 4 = m by omega, show n - 3 = m + 1 by omega, show n - 2 = m + 2 by omega, show n - 1 = m + 3 by omega, show bs[m]? = some b0 from hb0, hb1, hb2, hb3]; rfl
  have HOP := Lib.hid hop
  clear hop hb0 hb1 hb2 hb3 hr4 hc hm
  refine sm_list [0, 4, 5] 11 4 hs hd (by kernel_rfl) (agC e0 (agC e4 (agU agN))) rfl ?_
  simp only [seval]
  go_wp2_with fail
  refine HS.out.mono ?_
  rintro e w4 ⟨rfl, rfl⟩
  go_wp2_with fail
  intro a H; replace hs := H.s hs; replace hd := H.d rfl; replace e0 := H.g 0 rfl rfl; replace e4 := H.g 4 rfl rfl; replace e2 := H.k e2 rfl; replace e3 := H.k e3 rfl; have e5 := H.g 5 rfl rfl; clear H; refine hKq5 _ _ ?_; clear hKq5 Kq5; refine wp_seq_k fun Kq6 hKq6 => ?_; refine wp_seq_k fun Kq7 hKq7 => ?_
  obtain ⟨m1, hm1⟩ : ∃ q, q = m + 1 := ⟨_, rfl⟩
  rw [← hm1] at hc1
  obtain ⟨m2, hm2⟩ : ∃ q, q = m + 2 := ⟨_, rfl⟩
  rw [← hm2] at hc2
  obtain ⟨m3, hm3⟩ : ∃ q, q = m + 3 := ⟨_, rfl⟩
  rw [← hm3] at hc3
  have hall : Hid (∀ w', Below w.heap.size w w' → w'.cell? (ad.add m) = some (.int .u8 b0) ∧ w'.cell? (ad.add m1) = some (.int .u8 b1) ∧ w'.cell? (ad.add m2) = some (.int .u8 b2) ∧ w'.cell? (ad.add m3) = some (.int .u8 b3)) := Lib.hid fun w' hw => ⟨by rw [hw.cell (by rw [block_of_add]; exact hadl)]; exact hc0, by rw [hw.cell (by rw [block_of_add]; exact hadl)]; exact hc1, by rw [hw.cell (by rw [block_of_add]; exact hadl)]; exact hc2, by rw [hw.cell (by rw [block_of_add]; exact hadl)]; exact hc3⟩
  obtain ⟨x, hx⟩ : ∃ x, x = sumV (bs.take m) := ⟨_, rfl⟩
  rw [← hx] at e5
  have HX := Lib.hid hx
  clear hc0 hc1 hc2 hc3 hx HS hadl; have hnm := HM.out
  have i1a : (0 : Int) ≤ (m1 : Int) := by omega
  have i1b : (m1 : Int) < (n : Int) := by omega
  have i1c : IntKind.i64.wrap ((m : Int) + 1) = (m1 : Int) := (IntWalk.i64_in _ ⟨by omega, by omega⟩).trans (by omega)
  have i2a : (0 : Int) ≤ (m2 : Int) := by omega
  have i2b : (m2 : Int) < (n : Int) := by omega
  have i2c : IntKind.i64.wrap ((m : Int) + 2) = (m2 : Int) := (IntWalk.i64_in _ ⟨by omega, by omega⟩).trans (by omega)
  have i3a : (0 : Int) ≤ (m3 : Int) := by omega
  have i3b : (m3 : Int) < (n : Int) := by omega
  have i3c : IntKind.i64.wrap ((m : Int) + 3) = (m3 : Int) := (IntWalk.i64_in _ ⟨by omega, by omega⟩).trans (by omega)
  have i0b : (m : Int) < (n : Int) := by omega
  clear hnm hm1 hm2 hm3
  refine sm_any [0, 4, 5] 15 31 (by kernel_rfl) hs hd (by kernel_rfl) (agC e0 (agC e4 (agC e5 agN))) rfl (any_class (fun w' => Below w.heap.size w w') (by kernel_rfl) ((Below.refl _ _).drew) ?_)
  simp only [seval]
  iterate 31 (with_reducible (refine wpQuiet_val (v := ?_) ?_ ?_ ?_); rotate_left; (first | exact wanted_none rfl | exact wanted_on rfl rfl rfl); (intro w' hw'; have hq2 := hall.out w' hw'; obtain ⟨hqa, hqb, hqc, hqd⟩ := hq2; obtain ⟨hc, hf⟩ := bcell hw'; go_simp; with_reducible rfl); simp only [Act.put, List.setIfInBounds_toArray, List.set_cons_zero, List.set_cons_succ])
  refine wpQuiet_nil ?_
  intro w6 hw6
  intro a H; replace hs := H.s hs; replace hd := H.d rfl; replace e0 := H.g 0 rfl rfl; replace e4 := H.g 4 rfl rfl; replace e5 := H.g 5 rfl rfl; replace e2 := H.k e2 rfl; replace e3 := H.k e3 rfl; have e45 := H.g 45 rfl rfl; clear H; refine hKq7 _ _ ?_; clear hKq7 Kq7
  replace e45 : a.tmps[45]? = some (.bool (x != combV b0 b1 b2 b3)) := e45
  clear i1a i1b i1c i2a i2b i2c i3a i3b i3c i0b hl0 hl1 hl2 hl3 hu0 hu1 hu2 hu3 hall
  by_cases hx : x = combV b0 b1 b2 b3
  · rw [show (x != combV b0 b1 b2 b3) = false by rw [hx]; simp] at e45
    have hop := HOP.out
    rw [if_pos (HX.out.symm.trans hx)] at hop
    have HO := Lib.hid hop
    have HRM6 := HRM.out.below hw6
    have one := us_one (bs.take m)
    have own0 := ownsRow_nil w6 w.heap.size 5 1
    have hz6 := hw6.size
    have hm6 : m ≤ 1000000 := by have := HM.out; omega
    have HW6 := Lib.hid hw6
    clear hop hx HOP hw6 HX
    refine wp_cond_false (slotE e45) ?_
    clear e45; refine wp_skip ?_; refine hKq6 _ _ ?_; clear hKq6 Kq6; refine wp_seq_k fun Kq8 hKq8 => ?_
    refine sm_list [0, 2, 3, 4] 46 4 hs hd (by kernel_rfl) (agC e0 (agC e2 (agC e3 (agC e4 agN)))) rfl ?_
    simp only [seval]
    go_wp2_with (refine wpList_pushR rfl (.const (.slice none 0 0)) (.tmp 6) 23 rfl styB rfl HRM6 one rfl own0 (by omega) hz6 ?_; intro v1 w7 own1 gr1)
    intro a H; replace hs := H.s hs; replace hd := H.d rfl; replace e0 := H.g 0 rfl rfl; replace e4 := H.g 4 rfl rfl; replace e5 := H.k e5 rfl; replace e2 := H.g 2 rfl rfl; replace e3 := H.g 3 rfl rfl; clear H; refine hKq8 _ _ ?_; clear hKq8 Kq8; refine wp_ret ?_; have hb7 := HW6.out.trans (below_of_grown gr1 own0 hz6)
    rw [Nat.zero_add] at own1
    refine sm_ret2 rfl hd e2 e3 ⟨hb7, .inr ⟨bs.take m, v1, HO.out, rfl, ?_⟩⟩
    rw [hlen]; simpa using own1
  · rw [show (x != combV b0 b1 b2 b3) = true from bne_iff_ne.2 hx] at e45
    have hop := HOP.out
    rw [if_neg (fun h => hx (HX.out.trans h))] at hop
    refine wp_cond_true (slotE e45) ?_
    clear e45; refine wp_seq_k fun Kq8 hKq8 => ?_
    refine sm_list [] 2 2 hs hd (by kernel_rfl) agN rfl ?_
    simp only [seval]
    go_wp2_with fail
    intro a H; replace hs := H.s hs; replace hd := H.d rfl; replace e0 := H.k e0 rfl; replace e4 := H.k e4 rfl; replace e5 := H.k e5 rfl; replace e2 := H.g 2 rfl rfl; replace e3 := H.g 3 rfl rfl; clear H; refine hKq8 _ _ ?_; clear hKq8 Kq8; refine wp_ret ?_; refine exit_then rfl ?_
    exact sm_ret2 rfl hd e2 e3 ⟨hw6, .inl ⟨hop, rfl⟩⟩
end Go.Proofs.YthhlfojaloaooaaGreat

namespace Go.Proofs.YthhlfojaloaooaaGreat
set_option linter.unusedSimpArgs false
set_option linter.unusedVariables false
open Go.RowKit Go.WideShapes Go.ChangeShapes
attribute [local go_sem ↓] Go.wp_at_zero Go.wp_at_succ

/-! ### The check of bytes, read again -/
theorem or_u32 {a b k : Nat} (ha : a < 2 ^ k) (hk : k ≤ 32) (hb : b * 2 ^ k + a < 4294967296) : bits .or .u32 (a : Int) (IntKind.u32.wrap ((b : Int) * ((2 ^ k : Nat) : Int))) = ((b * 2 ^ k + a : Nat) : Int) := by
  have h1 : IntKind.u32.wrap ((b : Int) * ((2 ^ k : Nat) : Int)) = ((b * 2 ^ k : Nat) : Int) := by
    show ((b : Int) * ((2 ^ k : Nat) : Int)) % 4294967296 = _
    rw [← Int.natCast_mul]
    exact Int.emod_eq_of_lt (by omega) (by omega)
  rw [h1]
  show ((BitVec.ofInt 32 (a : Int) ||| BitVec.ofInt 32 ((b * 2 ^ k : Nat) : Int)).toNat : Int) % 4294967296 = _
  have e1 : (BitVec.ofInt 32 (a : Int)).toNat = a := by
    rw [BitVec.toNat_ofInt]
    have : a < 4294967296 := by omega
    omega
  have e2 : (BitVec.ofInt 32 ((b * 2 ^ k : Nat) : Int)).toNat = b * 2 ^ k := by
    rw [BitVec.toNat_ofInt]
    omega
  rw [BitVec.toNat_or, e1, e2]
  have e3 : a ||| b * 2 ^ k = b * 2 ^ k + a := by
    rw [Nat.or_comm, ← Nat.shiftLeft_eq, Nat.shiftLeft_add_eq_or_of_lt ha]
  rw [e3]
  exact Int.emod_eq_of_lt (by omega) (by omega)
theorem wrap_u32 {x : Int} (h0 : 0 ≤ x) (h1 : x < 4294967296) : IntKind.u32.wrap x = x := Int.emod_eq_of_lt h0 h1
theorem comb_le4 {x : Int} (h0 : 0 ≤ x) (h1 : x < 4294967296) : combV (x % 256) (x / 256 % 256) (x / 65536 % 256) (x / 16777216) = x := by
  obtain ⟨n, rfl⟩ : ∃ n : Nat, x = (n : Int) := ⟨x.toNat, by omega⟩
  have q0 : (n : Int) % 256 = ((n % 256 : Nat) : Int) := by omega
  have q1 : (n : Int) / 256 % 256 = ((n / 256 % 256 : Nat) : Int) := by omega
  have q2 : (n : Int) / 65536 % 256 = ((n / 65536 % 256 : Nat) : Int) := by omega
  have q3 : (n : Int) / 16777216 = ((n / 16777216 : Nat) : Int) := by omega
  rw [q0, q1, q2, q3]
  unfold combV
  rw [wrap_u32 (x := ((n % 256 : Nat) : Int)) (by omega) (by omega), wrap_u32 (x := ((n / 256 % 256 : Nat) : Int)) (by omega) (by omega), wrap_u32 (x := ((n / 65536 % 256 : Nat) : Int)) (by omega) (by omega), wrap_u32 (x := ((n / 16777216 : Nat) : Int)) (by omega) (by omega)]
  have s1 := or_u32 (a := n % 256) (b := n / 256 % 256) (k := 8) (by omega) (by omega) (by omega)
  have s2 := or_u32 (a := n / 256 % 256 * 2 ^ 8 + n % 256) (b := n / 65536 % 256) (k := 16) (by omega) (by omega) (by omega)
  have s3 := or_u32 (a := n / 65536 % 256 * 2 ^ 16 + (n / 256 % 256 * 2 ^ 8 + n % 256)) (b := n / 16777216) (k := 24) (by omega) (by omega) (by omega)
  rw [show (256 : Int) = ((2 ^ 8 : Nat) : Int) from rfl, show (65536 : Int) = ((2 ^ 16 : Nat) : Int) from rfl, show (16777216 : Int) = ((2 ^ 24 : Nat) : Int) from rfl, s1, s2, s3]
  omega
theorem open_close (bs : List Int) : openV (bs ++ le4 (sumV bs)) = some bs := by
  obtain ⟨h0, h1⟩ := sumV_range bs
  have hl : (bs ++ le4 (sumV bs)).length = bs.length + 4 := by simp [le4]
  unfold openV
  rw [if_neg (by omega), hl, show bs.length + 4 - 4 = bs.length by omega, show bs.length + 4 - 3 = bs.length + 1 by omega, show bs.length + 4 - 2 = bs.length + 2 by omega, show bs.length + 4 - 1 = bs.length + 3 by omega,
    List.take_left', List.getElem?_append_right (by omega), List.getElem?_append_right (by omega), List.getElem?_append_right (by omega), List.getElem?_append_right (by omega)]
  · rw [show bs.length - bs.length = 0 by omega, show bs.length + 1 - bs.length = 1 by omega, show bs.length + 2 - bs.length = 2 by omega, show bs.length + 3 - bs.length = 3 by omega]
    exact if_pos (comb_le4 h0 h1).symm
  · rfl
/-! ### Frames -/
structure Fm where
  dst : List Int
  src : List Int
  tagged : Bool
  vid : Int
  prio : Int
  drop : Bool
  many : Bool
  seq : Int
  ty : Int
  data : List Int
def Fm.cells (f : Fm) (A : Option Addr) (n c : Nat) : Array Value := (us f.dst ++ us f.src ++ ([.bool f.tagged, .int .i64 f.vid, .int .i64 f.prio, .bool f.drop, .bool f.many, .int .i64 f.seq, .int .i64 f.ty, .slice A n c] : List Value)).toArray
structure Fm.Wf (f : Fm) : Prop where
  dst : f.dst.length = 6
  src : f.src.length = 6
  dstB : ∀ b ∈ f.dst, 0 ≤ b ∧ b ≤ 255
  srcB : ∀ b ∈ f.src, 0 ≤ b ∧ b ≤ 255
  dataB : ∀ b ∈ f.data, 0 ≤ b ∧ b ≤ 255
theorem Fm.size {f : Fm} (h : f.Wf) {A : Option Addr} {n c : Nat} : (f.cells A n c).size = 20 := by
  unfold Fm.cells
  rw [List.size_toArray]
  simp [us_length, h.dst, h.src]
theorem Fm.at_ {f : Fm} (h : f.Wf) {A : Option Addr} {n c : Nat} (k : Nat) : (f.cells A n c)[12 + k]? = [Value.bool f.tagged, .int .i64 f.vid, .int .i64 f.prio, .bool f.drop, .bool f.many, .int .i64 f.seq, .int .i64 f.ty, .slice A n c][k]? := by
  unfold Fm.cells
  rw [List.getElem?_toArray, List.getElem?_append_right (by simp [us_length, h.dst, h.src])]
  simp [us_length, h.dst, h.src]
theorem Fm.one {f : Fm} {A : Option Addr} {n c : Nat} : (f.cells A n c).all (·.oneCell') = true := by
  rw [← Array.all_toList]
  unfold Fm.cells
  simp only [List.all_append, List.all_cons, List.all_nil, Bool.and_eq_true, Bool.and_true]
  refine ⟨⟨List.all_eq_true.2 fun u hu => us_one _ u hu, List.all_eq_true.2 fun u hu => us_one _ u hu⟩, rfl, rfl, rfl, rfl, rfl, rfl, rfl, rfl⟩
def sizeF (f : Fm) : Int := 20 + (f.data.length : Int) + (if f.tagged then 4 else 0) + (if f.many then 6 else 0)
def BadF (f : Fm) : Prop := f.vid < 0 ∨ 4094 < f.vid ∨ f.prio < 0 ∨ 7 < f.prio ∨ f.seq < 0 ∨ 65535 < f.seq ∨ f.ty < 1536 ∨ 65535 < f.ty
def BareF (f : Fm) : Prop := (f.tagged = false ∧ (f.vid ≠ 0 ∨ f.prio ≠ 0 ∨ f.drop = true)) ∨ (f.many = false ∧ f.seq ≠ 0)
instance (f : Fm) : Decidable (BadF f) := by unfold BadF; exact inferInstance
instance (f : Fm) : Decidable (BareF f) := by unfold BareF; exact inferInstance
def checkF (f : Fm) : Int := if BadF f then 1 else if BareF f then 1 else if f.ty = 33024 ∨ f.ty = 61889 then 23 else if 1600 < sizeF f then 3 else 0
/-- The cells of a frame's parts. -/
structure FB (w : World) (g : Nat) (f : Fm) (A : Option Addr) (n c : Nat) : Prop where
  blk : Blk w g 52 (f.cells A n c)
  wf : f.Wf
section
variable {w w' : World} {g : Nat} {f : Fm} {A : Option Addr} {n c : Nat}
theorem FB.c12 (h : FB w g f A n c) : w.cell? ⟨g, 12, none⟩ = some (.bool f.tagged) := h.blk.cellOf _ (Fm.at_ h.wf 0)
theorem FB.c13 (h : FB w g f A n c) : w.cell? ⟨g, 13, none⟩ = some (.int .i64 f.vid) := h.blk.cellOf _ (Fm.at_ h.wf 1)
theorem FB.c14 (h : FB w g f A n c) : w.cell? ⟨g, 14, none⟩ = some (.int .i64 f.prio) := h.blk.cellOf _ (Fm.at_ h.wf 2)
theorem FB.c15 (h : FB w g f A n c) : w.cell? ⟨g, 15, none⟩ = some (.bool f.drop) := h.blk.cellOf _ (Fm.at_ h.wf 3)
theorem FB.c16 (h : FB w g f A n c) : w.cell? ⟨g, 16, none⟩ = some (.bool f.many) := h.blk.cellOf _ (Fm.at_ h.wf 4)
theorem FB.c17 (h : FB w g f A n c) : w.cell? ⟨g, 17, none⟩ = some (.int .i64 f.seq) := h.blk.cellOf _ (Fm.at_ h.wf 5)
theorem FB.c18 (h : FB w g f A n c) : w.cell? ⟨g, 18, none⟩ = some (.int .i64 f.ty) := h.blk.cellOf _ (Fm.at_ h.wf 6)
theorem FB.c19 (h : FB w g f A n c) : w.cell? ⟨g, 19, none⟩ = some (.slice A n c) := h.blk.cellOf _ (Fm.at_ h.wf 7)
theorem FB.kept (h : FB w g f A n c) (hb : Below w.heap.size w w') : FB w' g f A n c := ⟨h.blk.kept hb, h.wf⟩
end
set_option maxRecDepth 100000 in
set_option maxHeartbeats 4000000 in
theorem size_any (f : Fm) (A : Option Addr) (n c : Nat) (M : Array Value) (hM : M = f.cells A n c) (hf : f.Wf) (hl : f.data.length = n) (hn : n ≤ 1000000) (w : World) : Calls Tryz.prog 42 #[.agg M] w fun e w' => e = .returned (.int .i64 (sizeF f)) ∧ Below w.heap.size w w' := by
  obtain ⟨S, hS⟩ : ∃ S, S = sizeF f := ⟨_, rfl⟩
  have hS2 : S = 20 + (n : Int) + (if f.tagged = true then 4 else 0) + (if f.many = true then 6 else 0) := by rw [hS]; unfold sizeF; rw [hl]
  rw [← hS]
  have HS := Lib.hid hS2
  have LL := (Below.refl w.heap.size w).alloc (Nat.le_refl _) (.cells M 52)
  have FB0 : FB (w.alloc (.cells M 52)) w.heap.size f A n c := ⟨by rw [← hM]; exact Blk.new w _ _, hf⟩
  have HM := Lib.hid hM
  clear hS hS2 hM
  refine calls_sm (N := 18) Tryz.func42 rfl (by kernel_rfl) ?_
  intro a hs hd ha
  have e0 : a.tmps[0]? = some (.agg M) := ha 0 _ rfl
  clear ha
  conv => arg 2; whnf
  refine wp_seq_k fun Kq1 hKq1 => ?_
  refine sm_list [0] 1 2 hs hd (by kernel_rfl) (agC e0 agN) rfl ?_
  simp only [seval]
  go_wp2_with fail
  intro a H; replace hs := H.s hs; replace hd := H.d rfl; replace e0 := H.g 0 rfl rfl; have e1 := H.g 1 rfl rfl; have e2 := H.g 2 rfl rfl; clear H; refine hKq1 _ _ ?_; clear hKq1 Kq1; refine wp_seq_k fun Kq2 hKq2 => ?_
  generalize w.alloc (.cells M 52) = w1 at *
  obtain ⟨g, hg⟩ : ∃ g, g = w.heap.size := ⟨_, rfl⟩
  rw [← hg] at FB0 e1
  clear hg
  have y12 := FB0.c12
  have y16 := FB0.c16
  have y19 := FB0.c19
  have hnI : (n : Int) ≤ 1000000 := by omega
  clear FB0
  refine sm_list [1] 3 6 hs hd (by kernel_rfl) (agC e1 agN) rfl ?_
  simp only [seval]
  go_wp2_with fail
  intro a H; replace hs := H.s hs; replace hd := H.d rfl; replace e1 := H.g 1 rfl rfl; replace e0 := H.k e0 rfl; replace e2 := H.k e2 rfl; have e3 := H.g 3 rfl rfl; clear H; refine hKq2 _ _ ?_; clear hKq2 Kq2; refine wp_seq_k fun Kq3 hKq3 => ?_; refine wp_seq_k fun Kq4 hKq4 => ?_
  obtain ⟨tg, htg⟩ : ∃ b, b = f.tagged := ⟨_, rfl⟩
  obtain ⟨mn, hmn⟩ : ∃ b, b = f.many := ⟨_, rfl⟩
  have hS := HS.out
  rw [← htg, ← hmn] at hS
  rw [← htg] at y12
  rw [← hmn] at y16
  have HS2 := Lib.hid hS
  clear hS HS htg hmn
  cases tg
  ·
    refine sm_list [1] 9 2 hs hd (by kernel_rfl) (agC e1 agN) rfl ?_
    simp only [seval]
    go_wp2_with fail
    intro a H; replace hs := H.s hs; replace hd := H.d rfl; replace e1 := H.g 1 rfl rfl; replace e0 := H.k e0 rfl; replace e2 := H.k e2 rfl; replace e3 := H.k e3 rfl; have e10 := H.g 10 rfl rfl; clear H; refine hKq4 _ _ ?_; clear hKq4 Kq4
    refine wp_cond_false (slotE e10) ?_
    clear e10; refine wp_skip ?_; refine hKq3 _ _ ?_; clear hKq3 Kq3; refine wp_seq_k fun Kq5 hKq5 => ?_; refine wp_seq_k fun Kq6 hKq6 => ?_
    cases mn
    ·
      refine sm_list [1] 13 2 hs hd (by kernel_rfl) (agC e1 agN) rfl ?_
      simp only [seval]
      go_wp2_with fail
      intro a H; replace hs := H.s hs; replace hd := H.d rfl; replace e1 := H.g 1 rfl rfl; replace e0 := H.k e0 rfl; replace e2 := H.k e2 rfl; replace e3 := H.k e3 rfl; have e14 := H.g 14 rfl rfl; clear H; refine hKq6 _ _ ?_; clear hKq6 Kq6
      refine wp_cond_false (slotE e14) ?_
      clear e14; refine wp_skip ?_; refine hKq5 _ _ ?_; clear hKq5 Kq5; refine wp_seq_k fun Kq7 hKq7 => ?_
      refine sm_list [2, 3] 17 1 hs hd (by kernel_rfl) (agC e2 (agC e3 agN)) rfl ?_
      simp only [seval]
      go_wp2_with fail
      intro a H; replace hs := H.s hs; replace hd := H.d rfl; replace e3 := H.g 3 rfl rfl; replace e0 := H.k e0 rfl; replace e1 := H.k e1 rfl; replace e2 := H.g 2 rfl rfl; clear H; refine hKq7 _ _ ?_; clear hKq7 Kq7; refine wp_ret ?_; have hS := HS2.out
      simp only [if_true, if_false, Bool.false_eq_true, reduceIte] at hS
      refine sm_ret rfl hd e2 ⟨?_, LL⟩
      rw [hS]; refine congrArg (fun x => Ending.returned (Value.int .i64 x)) ?_; omega
    ·
      refine sm_list [1] 13 2 hs hd (by kernel_rfl) (agC e1 agN) rfl ?_
      simp only [seval]
      go_wp2_with fail
      intro a H; replace hs := H.s hs; replace hd := H.d rfl; replace e1 := H.g 1 rfl rfl; replace e0 := H.k e0 rfl; replace e2 := H.k e2 rfl; replace e3 := H.k e3 rfl; have e14 := H.g 14 rfl rfl; clear H; refine hKq6 _ _ ?_; clear hKq6 Kq6
      refine wp_cond_true (slotE e14) ?_
      clear e14
      refine sm_list [3] 15 2 hs hd (by kernel_rfl) (agC e3 agN) rfl ?_
      simp only [seval]
      go_wp2_with fail
      intro a H; replace hs := H.s hs; replace hd := H.d rfl; replace e0 := H.k e0 rfl; replace e1 := H.k e1 rfl; replace e2 := H.k e2 rfl; replace e3 := H.g 3 rfl rfl; clear H; refine hKq5 _ _ ?_; clear hKq5 Kq5; refine wp_seq_k fun Kq7 hKq7 => ?_
      refine sm_list [2, 3] 17 1 hs hd (by kernel_rfl) (agC e2 (agC e3 agN)) rfl ?_
      simp only [seval]
      go_wp2_with fail
      intro a H; replace hs := H.s hs; replace hd := H.d rfl; replace e3 := H.g 3 rfl rfl; replace e0 := H.k e0 rfl; replace e1 := H.k e1 rfl; replace e2 := H.g 2 rfl rfl; clear H; refine hKq7 _ _ ?_; clear hKq7 Kq7; refine wp_ret ?_; have hS := HS2.out
      simp only [if_true, if_false, Bool.false_eq_true, reduceIte] at hS
      refine sm_ret rfl hd e2 ⟨?_, LL⟩
      rw [hS]; refine congrArg (fun x => Ending.returned (Value.int .i64 x)) ?_; omega
  ·
    refine sm_list [1] 9 2 hs hd (by kernel_rfl) (agC e1 agN) rfl ?_
    simp only [seval]
    go_wp2_with fail
    intro a H; replace hs := H.s hs; replace hd := H.d rfl; replace e1 := H.g 1 rfl rfl; replace e0 := H.k e0 rfl; replace e2 := H.k e2 rfl; replace e3 := H.k e3 rfl; have e10 := H.g 10 rfl rfl; clear H; refine hKq4 _ _ ?_; clear hKq4 Kq4
    refine wp_cond_true (slotE e10) ?_
    clear e10
    refine sm_list [3] 11 2 hs hd (by kernel_rfl) (agC e3 agN) rfl ?_
    simp only [seval]
    go_wp2_with fail
    intro a H; replace hs := H.s hs; replace hd := H.d rfl; replace e0 := H.k e0 rfl; replace e1 := H.k e1 rfl; replace e2 := H.k e2 rfl; replace e3 := H.g 3 rfl rfl; clear H; refine hKq3 _ _ ?_; clear hKq3 Kq3; refine wp_seq_k fun Kq5 hKq5 => ?_; refine wp_seq_k fun Kq6 hKq6 => ?_
    cases mn
    ·
      refine sm_list [1] 13 2 hs hd (by kernel_rfl) (agC e1 agN) rfl ?_
      simp only [seval]
      go_wp2_with fail
      intro a H; replace hs := H.s hs; replace hd := H.d rfl; replace e1 := H.g 1 rfl rfl; replace e0 := H.k e0 rfl; replace e2 := H.k e2 rfl; replace e3 := H.k e3 rfl; have e14 := H.g 14 rfl rfl; clear H; refine hKq6 _ _ ?_; clear hKq6 Kq6
      refine wp_cond_false (slotE e14) ?_
      clear e14; refine wp_skip ?_; refine hKq5 _ _ ?_; clear hKq5 Kq5; refine wp_seq_k fun Kq7 hKq7 => ?_
      refine sm_list [2, 3] 17 1 hs hd (by kernel_rfl) (agC e2 (agC e3 agN)) rfl ?_
      simp only [seval]
      go_wp2_with fail
      intro a H; replace hs := H.s hs; replace hd := H.d rfl; replace e3 := H.g 3 rfl rfl; replace e0 := H.k e0 rfl; replace e1 := H.k e1 rfl; replace e2 := H.g 2 rfl rfl; clear H; refine hKq7 _ _ ?_; clear hKq7 Kq7; refine wp_ret ?_; have hS := HS2.out
      simp only [if_true, if_false, Bool.false_eq_true, reduceIte] at hS
      refine sm_ret rfl hd e2 ⟨?_, LL⟩
      rw [hS]; refine congrArg (fun x => Ending.returned (Value.int .i64 x)) ?_; omega
    ·
      refine sm_list [1] 13 2 hs hd (by kernel_rfl) (agC e1 agN) rfl ?_
      simp only [seval]
      go_wp2_with fail
      intro a H; replace hs := H.s hs; replace hd := H.d rfl; replace e1 := H.g 1 rfl rfl; replace e0 := H.k e0 rfl; replace e2 := H.k e2 rfl; replace e3 := H.k e3 rfl; have e14 := H.g 14 rfl rfl; clear H; refine hKq6 _ _ ?_; clear hKq6 Kq6
      refine wp_cond_true (slotE e14) ?_
      clear e14
      refine sm_list [3] 15 2 hs hd (by kernel_rfl) (agC e3 agN) rfl ?_
      simp only [seval]
      go_wp2_with fail
      intro a H; replace hs := H.s hs; replace hd := H.d rfl; replace e0 := H.k e0 rfl; replace e1 := H.k e1 rfl; replace e2 := H.k e2 rfl; replace e3 := H.g 3 rfl rfl; clear H; refine hKq5 _ _ ?_; clear hKq5 Kq5; refine wp_seq_k fun Kq7 hKq7 => ?_
      refine sm_list [2, 3] 17 1 hs hd (by kernel_rfl) (agC e2 (agC e3 agN)) rfl ?_
      simp only [seval]
      go_wp2_with fail
      intro a H; replace hs := H.s hs; replace hd := H.d rfl; replace e3 := H.g 3 rfl rfl; replace e0 := H.k e0 rfl; replace e1 := H.k e1 rfl; replace e2 := H.g 2 rfl rfl; clear H; refine hKq7 _ _ ?_; clear hKq7 Kq7; refine wp_ret ?_; have hS := HS2.out
      simp only [if_true, if_false, Bool.false_eq_true, reduceIte] at hS
      refine sm_ret rfl hd e2 ⟨?_, LL⟩
      rw [hS]; refine congrArg (fun x => Ending.returned (Value.int .i64 x)) ?_; omega
end Go.Proofs.YthhlfojaloaooaaGreat
