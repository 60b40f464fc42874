/-
  TreeForms: the groups.
-/
import Derived.Test.YtcdgofndfajekaaFmQ
namespace Go.Proofs.Ytcdgofndfajekaa
set_option linter.unusedSimpArgs false
set_option linter.unusedVariables false
open Go.RowKit Go.WideShapes Go.ChangeShapes
attribute [local go_sem ↓] Go.wp_at_zero Go.wp_at_succ

set_option maxRecDepth 100000 in
set_option maxHeartbeats 4000000 in
theorem tf_groups (R : Nat → Pr) (n c0 g0 g8 g14 h8 c8 h14 c14 : Nat) (v21 : Int) (W : List Wire) (F : List Nat) (Bs : List Bks) (L : List Tre) (PS : List (List Value)) (w0 w1 : World) (a : Act)
    (SC : Sc w0 w1 g0 g8 g14 n h8 c8 h14 c14 (fun k => maskP (R k) k) W F Bs L PS) (hN : Net n W) (hn : 1 ≤ n ∧ n ≤ 7) (hW : W.length ≤ 12)
    (hs : a.tmps.size = 463) (hd : a.defers = []) (e0 : a.tmps[0]? = some (.slice (some ⟨g0, 0, none⟩) n c0)) (e6 : a.tmps[6]? = some (.bool false)) (e7 : a.tmps[7]? = some (.int .i64 (n : Int))) (e8 : a.tmps[8]? = some (.pointer (some ⟨g8, 0, none⟩))) (e14 : a.tmps[14]? = some (.pointer (some ⟨g14, 0, none⟩))) (e20 : a.tmps[20]? = some (.func (.func 17) #[] #[.pointer (some ⟨g14, 0, none⟩), .pointer (some ⟨g8, 0, none⟩)])) (e21 : a.tmps[21]? = some (.int .i64 v21))
    (hend : ∀ (a : Act) (w : World) (g22 : Nat), a.tmps.size = 463 → a.defers = [] → a.tmps[0]? = some (.slice (some ⟨g0, 0, none⟩) n c0) → a.tmps[6]? = some (.bool false) → a.tmps[7]? = some (.int .i64 (n : Int)) → a.tmps[8]? = some (.pointer (some ⟨g8, 0, none⟩)) → a.tmps[14]? = some (.pointer (some ⟨g14, 0, none⟩)) → a.tmps[20]? = some (.func (.func 17) #[] #[.pointer (some ⟨g14, 0, none⟩), .pointer (some ⟨g8, 0, none⟩)]) → a.tmps[21]? = some (.int .i64 v21) → a.tmps[22]? = some (.slice (some ⟨g22, 0, none⟩) n n) → Sc w0 w g0 g8 g14 n h8 c8 h14 c14 (fun k => maskP (R k) k) W F Bs L PS → Blk w g22 3 (frc (gTimes W n (List.range n))) → w1.heap.size ≤ g22 → Code.wp Try.prog (sub [true, true, true, true, true, true, true, true, true, true, true, true, true, true, true, true, true] (bodyOf Try.f4)) (bodyPost Try.prog Try.f4 fun e w' => e = .returned (.bool true) ∧ Below w0.heap.size w0 w') a w) :
    Code.wp Try.prog (sub [true, true, true, true, true, true, true, true, true, true, true, true, true, true] (bodyOf Try.f4)) (bodyPost Try.prog Try.f4 fun e w' => e = .returned (.bool true) ∧ Below w0.heap.size w0 w') a w1 := by
  have HEND := Lib.hid hend
  have HSC := Lib.hid SC
  have HN := Lib.hid hN
  clear hend SC hN
  conv => arg 2; whnf
  refine wp_seq_k fun Kq1 hKq1 => ?_
  have hnI : (n : Int) ≤ 7 := by omega
  have hmk : ∀ W, (Instr.makeSlice 32 (.int .i64 (n : Int)) (.int .i64 (n : Int))).run Try.prog W = .ok (.slice (some ⟨W.heap.size, 0, none⟩) n n) (W.alloc (.cells (rowF n fun _ => .int .i64 0) 3)) := fun W => make_row (bytes := 8) Try.underlying32 (by kernel_rfl) rfl (by omega) (by omega) W
  refine sm_list [7, 22] 235 2 hs hd (by kernel_rfl) (agC e7 (agU agN)) rfl ?_
  simp only [seval]
  go_wp2_with fail
  intro a H; replace hs := H.s hs; replace hd := H.d rfl; replace e7 := H.g 7 rfl rfl; replace e0 := H.k e0 rfl; replace e6 := H.k e6 rfl; replace e8 := H.k e8 rfl; replace e14 := H.k e14 rfl; replace e20 := H.k e20 rfl; replace e21 := H.k e21 rfl; have e22 := H.g 22 rfl rfl; clear H; refine hKq1 _ _ ?_; clear hKq1 Kq1; refine wp_seq_k fun Kq2 hKq2 => ?_; refine wp_seq_k fun Kq3 hKq3 => ?_
  rw [made_frc]
  have LL := (Below.refl w1.heap.size w1).alloc (Nat.le_refl _) (.cells (frc (List.replicate n 0)) 3)
  have B22 := Blk.new w1 3 (frc (List.replicate n 0))
  obtain ⟨g22, hg22⟩ : ∃ g, g = w1.heap.size := ⟨_, rfl⟩
  rw [← hg22] at B22 e22
  have hb22 : w1.heap.size ≤ g22 := Nat.le_of_eq hg22.symm
  have HB22 := Lib.hid hb22
  generalize w1.alloc (.cells (frc (List.replicate n 0)) 3) = w2 at *
  clear hg22 hmk hb22
  have hz0 : List.replicate n 0 = (List.range n).map (fun k => if k < 0 then k else 0) := by
      apply List.ext_getElem (by simp)
      intro i h1 h2
      simp
  rw [hz0] at B22
  clear hz0
  refine sm_list [22] 237 3 hs hd (by kernel_rfl) (agC e22 agN) rfl ?_
  simp only [seval]
  go_wp2_with fail
  intro a H; replace hs := H.s hs; replace hd := H.d rfl; replace e22 := H.g 22 rfl rfl; replace e0 := H.k e0 rfl; replace e6 := H.k e6 rfl; replace e7 := H.k e7 rfl; replace e8 := H.k e8 rfl; replace e14 := H.k e14 rfl; replace e20 := H.k e20 rfl; replace e21 := H.k e21 rfl; have e238 := H.g 238 rfl rfl; have e239 := H.g 239 rfl rfl; clear H; refine hKq3 _ _ ?_; clear hKq3 Kq3; refine wp_block ?_
  refine wp_loop (fun a w => ∃ (i : Nat), i ≤ n ∧ a.tmps.size = 463 ∧ a.defers = [] ∧ a.tmps[0]? = some (.slice (some ⟨g0, 0, none⟩) n c0) ∧ a.tmps[6]? = some (.bool false) ∧ a.tmps[7]? = some (.int .i64 (n : Int)) ∧ a.tmps[8]? = some (.pointer (some ⟨g8, 0, none⟩)) ∧ a.tmps[14]? = some (.pointer (some ⟨g14, 0, none⟩)) ∧ a.tmps[20]? = some (.func (.func 17) #[] #[.pointer (some ⟨g14, 0, none⟩), .pointer (some ⟨g8, 0, none⟩)]) ∧ a.tmps[21]? = some (.int .i64 v21) ∧ a.tmps[22]? = some (.slice (some ⟨g22, 0, none⟩) n n) ∧ a.tmps[238]? = some (.int .i64 (n : Int)) ∧ a.tmps[239]? = some (.int .i64 (i : Int)) ∧ Blk w g22 3 (frc ((List.range n).map (fun k => if k < i then k else 0))) ∧ Below w1.heap.size w1 w) (fun a _ => n - (intOf (a.tmps.getD 239 undef)).toNat) ?_ ?_
  · exact ⟨0, Nat.zero_le _, hs, hd, e0, e6, e7, e8, e14, e20, e21, e22, e238, e239, B22, LL⟩
  clear hs hd e239 e0 e6 e7 e8 e14 e20 e21 e22 e238 a B22 LL
  rintro a w4 ⟨i, hi, hs, hd, e0, e6, e7, e8, e14, e20, e21, e22, e238, e239, B22, LL⟩
  have hm := slot e239
  refine wp_seq_k fun Kq4 hKq4 => ?_
  by_cases hlt3 : i < n
  ·
    have dj : decide ((i : Int) < (n : Int)) = true := decide_eq_true (by omega)
    have hi0 : (0 : Int) ≤ (i : Int) := by omega
    have hi1 : (i : Int) < (n : Int) := by omega
    have HLL := Lib.hid LL
    have HB := Lib.hid B22
    have cq : (frc ((List.range n).map (fun k => if k < i then k else 0)))[i]? = some (.int .i64 ((frAt ((List.range n).map (fun k => if k < i then k else 0)) i : Nat) : Int)) := frc_at (by simp; exact hlt3)
    have y0 := B22.cellOf _ cq
    have fz := B22.frozen
    clear B22 LL cq
    refine sm_list [238, 239] 240 1 hs hd (by kernel_rfl) (agC e238 (agC e239 agN)) rfl ?_
    simp only [seval]
    go_wp2_with fail
    intro a H; replace hs := H.s hs; replace hd := H.d rfl; replace e238 := H.g 238 rfl rfl; replace e239 := H.g 239 rfl rfl; replace e0 := H.k e0 rfl; replace e6 := H.k e6 rfl; replace e7 := H.k e7 rfl; replace e8 := H.k e8 rfl; replace e14 := H.k e14 rfl; replace e20 := H.k e20 rfl; replace e21 := H.k e21 rfl; replace e22 := H.k e22 rfl; have e240 := H.g 240 rfl rfl; clear H; refine hKq4 _ _ ?_; clear hKq4 Kq4
    refine wp_seq_k fun Kq5 hKq5 => ?_
    refine wp_cond_true (slotE e240) ?_
    clear e240; refine wp_skip ?_; refine hKq5 _ _ ?_; clear hKq5 Kq5; refine wp_seq_k fun Kq6 hKq6 => ?_; refine wp_block ?_; refine wp_seq_k fun Kq7 hKq7 => ?_
    refine sm_list [23, 239] 241 1 hs hd (by kernel_rfl) (agU (agC e239 agN)) rfl ?_
    simp only [seval]
    go_wp2_with fail
    intro a H; replace hs := H.s hs; replace hd := H.d rfl; replace e239 := H.g 239 rfl rfl; replace e0 := H.k e0 rfl; replace e6 := H.k e6 rfl; replace e7 := H.k e7 rfl; replace e8 := H.k e8 rfl; replace e14 := H.k e14 rfl; replace e20 := H.k e20 rfl; replace e21 := H.k e21 rfl; replace e22 := H.k e22 rfl; replace e238 := H.k e238 rfl; have e23 := H.g 23 rfl rfl; clear H; refine hKq7 _ _ ?_; clear hKq7 Kq7
    refine sm_list [22, 23] 242 4 hs hd (by kernel_rfl) (agC e22 (agC e23 agN)) rfl ?_
    simp only [seval]
    go_wp2_with fail
    intro a H; replace hs := H.s hs; replace hd := H.d rfl; replace e22 := H.g 22 rfl rfl; replace e23 := H.g 23 rfl rfl; replace e0 := H.k e0 rfl; replace e6 := H.k e6 rfl; replace e7 := H.k e7 rfl; replace e8 := H.k e8 rfl; replace e14 := H.k e14 rfl; replace e20 := H.k e20 rfl; replace e21 := H.k e21 rfl; replace e238 := H.k e238 rfl; replace e239 := H.k e239 rfl; clear H; refine hKq6 _ _ ?_; clear hKq6 Kq6
    have B5 := HB.out.set_ i (.int .i64 (i : Int))
    have gs : w4.grownBy (w4.setCell ⟨g22, i, none⟩ (.int .i64 (i : Int))) (some g22) := gr_set (grownBy_refl _ _) _ _
    have L5 := HLL.out.grown gs HLL.out.size (fun k hk => by cases hk; exact HB22.out)
    rw [frc_set] at B5
    have hst : (((List.range n).map (fun k => if k < i then k else 0))).set i i = ((List.range n).map (fun k => if k < (i + 1) then k else 0)) := by
      apply List.ext_getElem (by simp)
      intro k h1 h2
      rw [List.getElem_set]
      simp only [List.getElem_map, List.getElem_range]
      by_cases h : i = k
      · subst h; simp
      · rw [if_neg h]; by_cases h3 : k < i
        · rw [if_pos h3, if_pos (by omega)]
        · rw [if_neg h3, if_neg (by omega)]
    rw [hst] at B5
    generalize w4.setCell ⟨g22, i, none⟩ (.int .i64 (i : Int)) = w5 at *
    clear gs hst HB HLL y0 fz; clear e23
    refine sm_list [239] 246 1 hs hd (by kernel_rfl) (agC e239 agN) rfl ?_
    simp only [seval]
    go_wp2_with fail
    intro a H; replace hs := H.s hs; replace hd := H.d rfl; replace e0 := H.k e0 rfl; replace e6 := H.k e6 rfl; replace e7 := H.k e7 rfl; replace e8 := H.k e8 rfl; replace e14 := H.k e14 rfl; replace e20 := H.k e20 rfl; replace e21 := H.k e21 rfl; replace e22 := H.k e22 rfl; replace e238 := H.k e238 rfl; replace e239 := H.g 239 rfl rfl; clear H
    exact ⟨⟨i + 1, by omega, hs, hd, e0, e6, e7, e8, e14, e20, e21, e22, e238, e239, B5, L5⟩, by first | (simp only [hm, slot e239, intOf]; omega) | (simp [hm, slot e239, intOf]; omega)⟩
  · have hin : i = n := by omega
    subst hin
    have dj : decide ((i : Int) < (i : Int)) = false := decide_eq_false (by omega)
    clear hlt3 hm
    have hra : ((List.range i).map (fun k => if k < i then k else 0)) = gTimes W 0 (List.range i) := by
      show _ = List.range i
      apply List.ext_getElem (by simp)
      intro k h1 h2
      simp at h1 h2 ⊢
      intro h; omega
    rw [hra] at B22
    clear hra
    refine sm_list [238, 239] 240 1 hs hd (by kernel_rfl) (agC e238 (agC e239 agN)) rfl ?_
    simp only [seval]
    go_wp2_with fail
    intro a H; replace hs := H.s hs; replace hd := H.d rfl; replace e238 := H.g 238 rfl rfl; replace e239 := H.g 239 rfl rfl; replace e0 := H.k e0 rfl; replace e6 := H.k e6 rfl; replace e7 := H.k e7 rfl; replace e8 := H.k e8 rfl; replace e14 := H.k e14 rfl; replace e20 := H.k e20 rfl; replace e21 := H.k e21 rfl; replace e22 := H.k e22 rfl; have e240 := H.g 240 rfl rfl; clear H; refine hKq4 _ _ ?_; clear hKq4 Kq4
    refine wp_seq_k fun Kq5 hKq5 => ?_
    refine wp_cond_false (slotE e240) ?_
    clear e240; refine wp_exit ?_; refine exit_then rfl ?_; clear hKq5 Kq5; refine exit_then rfl ?_; refine exit_hit ?_; refine hKq2 _ _ ?_; clear hKq2 Kq2; refine wp_seq_k fun Kq6 hKq6 => ?_; refine wp_seq_k fun Kq7 hKq7 => ?_; clear e238; clear e239
    obtain ⟨n, hnn⟩ : ∃ n, n = i := ⟨_, rfl⟩
    subst hnn
    refine sm_list [] 24 1 hs hd (by kernel_rfl) agN rfl ?_
    simp only [seval]
    go_wp2_with fail
    intro a H; replace hs := H.s hs; replace hd := H.d rfl; replace e0 := H.k e0 rfl; replace e6 := H.k e6 rfl; replace e7 := H.k e7 rfl; replace e8 := H.k e8 rfl; replace e14 := H.k e14 rfl; replace e20 := H.k e20 rfl; replace e21 := H.k e21 rfl; replace e22 := H.k e22 rfl; have e24 := H.g 24 rfl rfl; clear H; refine hKq7 _ _ ?_; clear hKq7 Kq7; refine wp_block ?_
    refine wp_loop (fun a w => ∃ (k : Nat), k ≤ n ∧ a.tmps.size = 463 ∧ a.defers = [] ∧ a.tmps[0]? = some (.slice (some ⟨g0, 0, none⟩) n c0) ∧ a.tmps[6]? = some (.bool false) ∧ a.tmps[7]? = some (.int .i64 (n : Int)) ∧ a.tmps[8]? = some (.pointer (some ⟨g8, 0, none⟩)) ∧ a.tmps[14]? = some (.pointer (some ⟨g14, 0, none⟩)) ∧ a.tmps[20]? = some (.func (.func 17) #[] #[.pointer (some ⟨g14, 0, none⟩), .pointer (some ⟨g8, 0, none⟩)]) ∧ a.tmps[21]? = some (.int .i64 v21) ∧ a.tmps[22]? = some (.slice (some ⟨g22, 0, none⟩) n n) ∧ a.tmps[24]? = some (.int .i64 (k : Int)) ∧ Blk w g22 3 (frc (gTimes W k (List.range n))) ∧ Below w1.heap.size w1 w) (fun a _ => n - (intOf (a.tmps.getD 24 undef)).toNat) ?_ ?_
    · exact ⟨0, Nat.zero_le _, hs, hd, e0, e6, e7, e8, e14, e20, e21, e22, e24, B22, LL⟩
    clear hs hd e24 e0 e6 e7 e8 e14 e20 e21 e22 a B22 LL
    rintro a w5 ⟨k, hk, hs, hd, e0, e6, e7, e8, e14, e20, e21, e22, e24, B22, LL⟩
    have hm := slot e24
    refine wp_seq_k fun Kq8 hKq8 => ?_; refine wp_seq_k fun Kq9 hKq9 => ?_
    by_cases hlt4 : k < n
    ·
      have dk : decide ((k : Int) < (n : Int)) = true := decide_eq_true (by omega)
      have hk0 : (0 : Int) ≤ (k : Int) := by omega
      refine sm_list [7, 24] 247 3 hs hd (by kernel_rfl) (agC e7 (agC e24 agN)) rfl ?_
      simp only [seval]
      go_wp2_with fail
      intro a H; replace hs := H.s hs; replace hd := H.d rfl; replace e7 := H.g 7 rfl rfl; replace e24 := H.g 24 rfl rfl; replace e0 := H.k e0 rfl; replace e6 := H.k e6 rfl; replace e8 := H.k e8 rfl; replace e14 := H.k e14 rfl; replace e20 := H.k e20 rfl; replace e21 := H.k e21 rfl; replace e22 := H.k e22 rfl; have e249 := H.g 249 rfl rfl; clear H; refine hKq9 _ _ ?_; clear hKq9 Kq9
      refine wp_cond_true (slotE e249) ?_
      clear e249; refine wp_skip ?_; refine hKq8 _ _ ?_; clear hKq8 Kq8; refine wp_seq_k fun Kq10 hKq10 => ?_; refine wp_block ?_; refine wp_seq_k fun Kq11 hKq11 => ?_; have S5 := HSC.out.kept LL
      have hc14 := S5.wr.box14.cellOf (v := .slice (some ⟨h14, 0, none⟩) W.length c14) 0 rfl
      have HS5 := Lib.hid S5
      clear S5
      refine sm_list [14] 252 3 hs hd (by kernel_rfl) (agC e14 agN) rfl ?_
      simp only [seval]
      go_wp2_with fail
      intro a H; replace hs := H.s hs; replace hd := H.d rfl; replace e14 := H.g 14 rfl rfl; replace e0 := H.k e0 rfl; replace e6 := H.k e6 rfl; replace e7 := H.k e7 rfl; replace e8 := H.k e8 rfl; replace e20 := H.k e20 rfl; replace e21 := H.k e21 rfl; replace e22 := H.k e22 rfl; replace e24 := H.k e24 rfl; have e252 := H.g 252 rfl rfl; have e253 := H.g 253 rfl rfl; have e254 := H.g 254 rfl rfl; clear H
      refine hKq11 _ _ ?_; clear hKq11 Kq11; refine wp_block ?_; clear hc14 dk
      refine wp_loop (fun a w => ∃ (j : Nat), j ≤ W.length ∧ a.tmps.size = 463 ∧ a.defers = [] ∧ a.tmps[0]? = some (.slice (some ⟨g0, 0, none⟩) n c0) ∧ a.tmps[6]? = some (.bool false) ∧ a.tmps[7]? = some (.int .i64 (n : Int)) ∧ a.tmps[8]? = some (.pointer (some ⟨g8, 0, none⟩)) ∧ a.tmps[14]? = some (.pointer (some ⟨g14, 0, none⟩)) ∧ a.tmps[20]? = some (.func (.func 17) #[] #[.pointer (some ⟨g14, 0, none⟩), .pointer (some ⟨g8, 0, none⟩)]) ∧ a.tmps[21]? = some (.int .i64 v21) ∧ a.tmps[22]? = some (.slice (some ⟨g22, 0, none⟩) n n) ∧ a.tmps[24]? = some (.int .i64 (k : Int)) ∧ a.tmps[252]? = some (.slice (some ⟨h14, 0, none⟩) W.length c14) ∧ a.tmps[253]? = some (.int .i64 (W.length : Int)) ∧ a.tmps[254]? = some (.int .i64 (j : Int)) ∧ Blk w g22 3 (frc (gPass (W.take j) (gTimes W k (List.range n)))) ∧ Below w1.heap.size w1 w) (fun a _ => W.length - (intOf (a.tmps.getD 254 undef)).toNat) ?_ ?_
      · exact ⟨0, Nat.zero_le _, hs, hd, e0, e6, e7, e8, e14, e20, e21, e22, e24, e252, e253, e254, B22, LL⟩
      clear hs hd e254 e0 e6 e7 e8 e14 e20 e21 e22 e24 e252 e253 a B22 LL HS5
      rintro a w6 ⟨j, hj, hs, hd, e0, e6, e7, e8, e14, e20, e21, e22, e24, e252, e253, e254, B22, LL⟩
      have hmj := slot e254
      refine wp_seq_k fun Kq12 hKq12 => ?_
      by_cases hlt5 : j < W.length
      ·
        have dj : decide ((j : Int) < (W.length : Int)) = true := decide_eq_true (by omega)
        have hj0 : (0 : Int) ≤ (j : Int) := by omega
        have hj1 : (j : Int) < (W.length : Int) := by omega
        have hjw : (W.length : Int) ≤ 12 := by omega
        obtain ⟨x, hx⟩ : ∃ x, W[j]? = some x := ⟨_, List.getElem?_eq_getElem hlt5⟩
        have HX := Lib.hid hx
        have S6 := HSC.out.kept LL
        have hc : ∀ (r : Nat) (v : Value), (wcs4 x).toArray.toList[r]? = some v → w6.cell? ((⟨h14, j * 4, none⟩ : Addr).add r) = some v := fun r v hv => by
            have h := S6.wr.wrs j r x v hx (by simpa using hv)
            have e1 : (⟨h14, 0, none⟩ : Addr).add (j * 4 + r) = (⟨h14, j * 4, none⟩ : Addr).add r := by
              unfold Addr.add; by_cases h0 : r = 0 <;> by_cases h2 : j * 4 = 0 <;> simp [h0, h2] <;> omega
            rw [← e1]; exact h
        have HC := Lib.hid hc
        have hwn := HN.out.within x (List.mem_of_getElem? hx)
        obtain ⟨hxa, hxb⟩ := hwn
        have HB := Lib.hid B22
        have HLL := Lib.hid LL
        clear hx hc S6 B22 LL
        refine sm_list [253, 254] 255 1 hs hd (by kernel_rfl) (agC e253 (agC e254 agN)) rfl ?_
        simp only [seval]
        go_wp2_with fail
        intro a H; replace hs := H.s hs; replace hd := H.d rfl; replace e253 := H.g 253 rfl rfl; replace e254 := H.g 254 rfl rfl; replace e0 := H.k e0 rfl; replace e6 := H.k e6 rfl; replace e7 := H.k e7 rfl; replace e8 := H.k e8 rfl; replace e14 := H.k e14 rfl; replace e20 := H.k e20 rfl; replace e21 := H.k e21 rfl; replace e22 := H.k e22 rfl; replace e24 := H.k e24 rfl; replace e252 := H.k e252 rfl
        have e255 := H.g 255 rfl rfl; clear H; refine hKq12 _ _ ?_; clear hKq12 Kq12; refine wp_seq_k fun Kq13 hKq13 => ?_
        refine wp_cond_true (slotE e255) ?_
        clear e255; refine wp_skip ?_; refine hKq13 _ _ ?_; clear hKq13 Kq13; refine wp_seq_k fun Kq14 hKq14 => ?_; refine wp_block ?_; refine wp_seq_k fun Kq15 hKq15 => ?_
        refine sm_list [26, 252, 254] 256 2 hs hd (by kernel_rfl) (agU (agC e252 (agC e254 agN))) rfl ?_
        simp only [seval]
        go_wp2_with (first | (refine wpList_load_any_d rfl 66 (.tmp 3) rfl ⟨h14, j * 4, none⟩ rfl (wcs4 x).toArray _ HC.out Try.underlying66 rfl (by kernel_rfl) ?_) | (refine wpList_store_new rfl 66 (.tmp 0) (.tmp 4) rfl rfl rfl rfl rfl (by kernel_rfl) (by rw [← Array.all_toList]; rfl) ?_) | fail)
        intro a H; replace hs := H.s hs; replace hd := H.d rfl; replace e252 := H.g 252 rfl rfl; replace e254 := H.g 254 rfl rfl; replace e0 := H.k e0 rfl; replace e6 := H.k e6 rfl; replace e7 := H.k e7 rfl; replace e8 := H.k e8 rfl; replace e14 := H.k e14 rfl; replace e20 := H.k e20 rfl; replace e21 := H.k e21 rfl; replace e22 := H.k e22 rfl; replace e24 := H.k e24 rfl; replace e253 := H.k e253 rfl
        have e26 := H.g 26 rfl rfl; clear H; refine hKq15 _ _ ?_; clear hKq15 Kq15; refine wp_seq_k fun Kq16 hKq16 => ?_
        have L7 : Below w6.heap.size w6 (w6.alloc (.cells (wcs4 x).toArray 66)) := (Below.refl _ _).alloc (Nat.le_refl _) _
        have B26 := Blk.new w6 66 (wcs4 x).toArray
        have B7 := HB.out.kept L7; have LL7 := HLL.out.trans (L7.mono HLL.out.size)
        obtain ⟨g26, hg26⟩ : ∃ g, g = w6.heap.size := ⟨_, rfl⟩
        rw [← hg26] at B26 e26
        generalize (w6.alloc (.cells (wcs4 x).toArray 66)) = w7 at *
        clear hg26 L7 HB HLL HC
        obtain ⟨xa, hxae⟩ : ∃ q, q = x.1.1 := ⟨_, rfl⟩
        obtain ⟨xb, hxbe⟩ : ∃ q, q = x.2.1 := ⟨_, rfl⟩
        rw [← hxae] at hxa
        rw [← hxbe] at hxb
        have x0 := B26.cellOf (v := .int .i64 (xa : Int)) 0 (by rw [hxae]; rfl)
        have x2 := B26.cellOf (v := .int .i64 (xb : Int)) 2 (by rw [hxbe]; rfl)
        have HXE := Lib.hid (And.intro hxae hxbe)
        have hglen : ((gPass (W.take j) (gTimes W k (List.range n)))).length = n := by rw [gPass_len, gTimes_len]; simp
        obtain ⟨G, hG⟩ : ∃ G, G = (gPass (W.take j) (gTimes W k (List.range n))) := ⟨_, rfl⟩
        rw [← hG] at B7 hglen
        obtain ⟨ya, hya⟩ : ∃ q, q = frAt G xa := ⟨_, rfl⟩
        obtain ⟨yb, hyb⟩ : ∃ q, q = frAt G xb := ⟨_, rfl⟩
        have ca := frc_at (fr := G) (i := xa) (by omega)
        have cb := frc_at (fr := G) (i := xb) (by omega)
        rw [← hya] at ca
        rw [← hyb] at cb
        have z0 := B7.cellOf _ ca
        have z1 := B7.cellOf _ cb
        have a0 : (0 : Int) ≤ (xa : Int) := by omega
        have a1 : (xa : Int) < (n : Int) := by omega
        have b0 : (0 : Int) ≤ (xb : Int) := by omega
        have b1 : (xb : Int) < (n : Int) := by omega
        have l26 := B26.lt
        have l22 := B7.lt
        have hmin : (if yb < ya then (yb : Int) else (ya : Int)) = ((min ya yb : Nat) : Int) := by split <;> omega
        have HGG := Lib.hid (And.intro hG (And.intro hya hyb))
        have HLL := Lib.hid LL7
        have HB7 := Lib.hid B7
        have HB26 := Lib.hid B26
        clear hxae hxbe hG hya hyb LL7 B7 B26 ca cb
        refine sm_any [22, 26, 27] 258 13 (by kernel_rfl) hs hd (by kernel_rfl) (agC e22 (agC e26 (agU agN))) rfl (any_class (fun w' => Below w7.heap.size w7 w') (by kernel_rfl) ((Below.refl _ _).drew) ?_)
        simp only [seval]
        repeat (first | (with_reducible (refine wpQuiet_skip ?_ ?_); (first | exact wanted_off rfl rfl rfl rfl | exact wanted_off2 rfl rfl rfl); simp only [Act.put, List.setIfInBounds_toArray, List.set_cons_zero, List.set_cons_succ]) | (with_reducible (refine wpQuiet_val (v := ?_) ?_ ?_ ?_); rotate_left; (first | exact wanted_none rfl | exact wanted_on rfl rfl rfl); (intro w' hw'; obtain ⟨hc, hf⟩ := bcell hw'; go_simp; with_reducible rfl); simp only [Act.put, List.setIfInBounds_toArray, List.set_cons_zero, List.set_cons_succ]))
        refine wpQuiet_nil ?_
        intro w8 hw8
        intro a H; replace hs := H.s hs; replace hd := H.d rfl; replace e22 := H.g 22 rfl rfl; replace e26 := H.g 26 rfl rfl; replace e0 := H.k e0 rfl; replace e6 := H.k e6 rfl; replace e7 := H.k e7 rfl; replace e8 := H.k e8 rfl; replace e14 := H.k e14 rfl; replace e20 := H.k e20 rfl; replace e21 := H.k e21 rfl; replace e24 := H.k e24 rfl; replace e252 := H.k e252 rfl; replace e253 := H.k e253 rfl; replace e254 := H.k e254 rfl
        have e27 := H.g 27 rfl rfl; clear H; refine hKq16 _ _ ?_; clear hKq16 Kq16; refine wp_seq_k fun Kq17 hKq17 => ?_
        first | rw [hmin] at e27 | skip
        obtain ⟨mn, hmn⟩ : ∃ m, m = min ya yb := ⟨_, rfl⟩
        rw [← hmn] at e27
        have B8 := HB7.out.kept hw8; have B268 := HB26.out.kept hw8; have L8 := HLL.out.trans (hw8.mono HLL.out.size)
        have x0 := B268.cellOf (v := .int .i64 (xa : Int)) 0 (by rw [HXE.out.1]; rfl)
        have x2 := B268.cellOf (v := .int .i64 (xb : Int)) 2 (by rw [HXE.out.2]; rfl)
        have ca := frc_at (fr := G) (i := xa) (by omega)
        have z0 := B8.cellOf _ ca
        have fz := B8.frozen
        have HMN := Lib.hid hmn
        have HB8 := Lib.hid (And.intro B8 (And.intro B268 L8))
        have hne26 : g26 ≠ g22 := Blk.ne_ B268 B8 (by decide)
        clear hmin hw8 HB7 HB26 HLL z1 l26 l22 B8 B268 L8 ca hmn
        refine sm_list [22, 26, 27] 271 6 hs hd (by kernel_rfl) (agC e22 (agC e26 (agC e27 agN))) rfl ?_
        simp only [seval]
        go_wp2_with fail
        intro a H; replace hs := H.s hs; replace hd := H.d rfl; replace e22 := H.g 22 rfl rfl; replace e26 := H.g 26 rfl rfl; replace e27 := H.g 27 rfl rfl; replace e0 := H.k e0 rfl; replace e6 := H.k e6 rfl; replace e7 := H.k e7 rfl; replace e8 := H.k e8 rfl; replace e14 := H.k e14 rfl; replace e20 := H.k e20 rfl; replace e21 := H.k e21 rfl; replace e24 := H.k e24 rfl; replace e252 := H.k e252 rfl; replace e253 := H.k e253 rfl; replace e254 := H.k e254 rfl
        clear H; refine hKq17 _ _ ?_; clear hKq17 Kq17; have B9 := HB8.out.1.set_ xa (.int .i64 (mn : Int))
        have gs : w8.grownBy (w8.setCell ⟨g22, xa, none⟩ (.int .i64 (mn : Int))) (some g22) := gr_set (grownBy_refl _ _) _ _
        have L9 := HB8.out.2.2.grown gs HB8.out.2.2.size (fun k hk => by cases hk; exact HB22.out)
        have B269 := HB8.out.2.1.grown gs (by intro e; injection e with e; exact hne26 e)
        rw [frc_set] at B9
        obtain ⟨w9, hwn⟩ : ∃ z, z = w8.setCell ⟨g22, xa, none⟩ (.int .i64 (mn : Int)) := ⟨_, rfl⟩
        rw [← hwn] at B9 L9 B269 gs
        rw [← hwn]
        have HB9 := Lib.hid (And.intro B9 (And.intro B269 L9))
        clear hwn gs B9 B269 L9 HB8 x0 x2 z0 fz
        have x0 := HB9.out.2.1.cellOf (v := .int .i64 (xa : Int)) 0 (by rw [HXE.out.1]; rfl)
        have x2 := HB9.out.2.1.cellOf (v := .int .i64 (xb : Int)) 2 (by rw [HXE.out.2]; rfl)
        have ca := frc_at (fr := G.set xa mn) (i := xb) (by rw [List.length_set]; omega)
        have z0 := HB9.out.1.cellOf _ ca; have fz := HB9.out.1.frozen; clear ca
        refine sm_list [22, 26, 27] 277 6 hs hd (by kernel_rfl) (agC e22 (agC e26 (agC e27 agN))) rfl ?_
        simp only [seval]
        go_wp2_with fail
        intro a H; replace hs := H.s hs; replace hd := H.d rfl; replace e22 := H.g 22 rfl rfl; replace e26 := H.g 26 rfl rfl; replace e27 := H.g 27 rfl rfl; replace e0 := H.k e0 rfl; replace e6 := H.k e6 rfl; replace e7 := H.k e7 rfl; replace e8 := H.k e8 rfl; replace e14 := H.k e14 rfl; replace e20 := H.k e20 rfl; replace e21 := H.k e21 rfl; replace e24 := H.k e24 rfl; replace e252 := H.k e252 rfl; replace e253 := H.k e253 rfl; replace e254 := H.k e254 rfl
        clear H; refine hKq14 _ _ ?_; clear hKq14 Kq14; have B9 := HB9.out.1.set_ xb (.int .i64 (mn : Int))
        have gs : w9.grownBy (w9.setCell ⟨g22, xb, none⟩ (.int .i64 (mn : Int))) (some g22) := gr_set (grownBy_refl _ _) _ _
        have L9 := HB9.out.2.2.grown gs HB9.out.2.2.size (fun k hk => by cases hk; exact HB22.out)
        have B269 := HB9.out.2.1.grown gs (by intro e; injection e with e; exact hne26 e)
        rw [frc_set] at B9
        obtain ⟨w10, hwn⟩ : ∃ z, z = w9.setCell ⟨g22, xb, none⟩ (.int .i64 (mn : Int)) := ⟨_, rfl⟩
        rw [← hwn] at B9 L9 B269 gs
        rw [← hwn]
        have HB10 := Lib.hid (And.intro B9 (And.intro B269 L9))
        clear hwn gs B9 B269 L9 HB9 x0 x2 z0 fz
        have hgp : (G.set xa mn).set xb mn = (gPass (W.take (j + 1)) (gTimes W k (List.range n))) := by
          obtain ⟨h1, h2, h3⟩ := HGG.out
          have hgs : (G.set xa mn).set xb mn = gStep G x := by
            unfold gStep gAt
            rw [HMN.out, h2, h3, HXE.out.1, HXE.out.2]; rfl
          rw [hgs, h1]; unfold gPass; rw [List.take_add_one, HX.out, List.foldl_append]; rfl
        obtain ⟨B10, _, L10⟩ := HB10.out
        rw [hgp] at B10
        clear hgp HB10; clear e26; clear e27
        refine sm_list [254] 283 1 hs hd (by kernel_rfl) (agC e254 agN) rfl ?_
        simp only [seval]
        go_wp2_with fail
        intro a H; replace hs := H.s hs; replace hd := H.d rfl; replace e0 := H.k e0 rfl; replace e6 := H.k e6 rfl; replace e7 := H.k e7 rfl; replace e8 := H.k e8 rfl; replace e14 := H.k e14 rfl; replace e20 := H.k e20 rfl; replace e21 := H.k e21 rfl; replace e22 := H.k e22 rfl; replace e24 := H.k e24 rfl; replace e252 := H.k e252 rfl; replace e253 := H.k e253 rfl; replace e254 := H.g 254 rfl rfl; clear H
        exact ⟨⟨j + 1, by omega, hs, hd, e0, e6, e7, e8, e14, e20, e21, e22, e24, e252, e253, e254, B10, L10⟩, by first | (simp only [hmj, slot e254, intOf]; omega) | (simp [hmj, slot e254, intOf]; omega)⟩
      · have hin : j = W.length := by omega
        have dj : decide ((j : Int) < (W.length : Int)) = false := decide_eq_false (by omega)
        have dj2 : decide (j < W.length) = false := decide_eq_false (by omega)
        clear hmj
        refine sm_list [253, 254] 255 1 hs hd (by kernel_rfl) (agC e253 (agC e254 agN)) rfl ?_
        simp only [seval]
        go_wp2_with fail
        intro a H; replace hs := H.s hs; replace hd := H.d rfl; replace e253 := H.g 253 rfl rfl; replace e254 := H.g 254 rfl rfl; replace e0 := H.k e0 rfl; replace e6 := H.k e6 rfl; replace e7 := H.k e7 rfl; replace e8 := H.k e8 rfl; replace e14 := H.k e14 rfl; replace e20 := H.k e20 rfl; replace e21 := H.k e21 rfl; replace e22 := H.k e22 rfl; replace e24 := H.k e24 rfl; replace e252 := H.k e252 rfl
        have e255 := H.g 255 rfl rfl; clear H; refine hKq12 _ _ ?_; clear hKq12 Kq12; refine wp_seq_k fun Kq13 hKq13 => ?_
        refine wp_cond_false (slotE e255) ?_
        clear e255; refine wp_exit ?_; refine exit_then rfl ?_; clear hKq13 Kq13; refine exit_then rfl ?_; refine exit_hit ?_; refine hKq10 _ _ ?_; clear hKq10 Kq10; clear e252; clear e253; clear e254
        have hgt : (gPass (W.take j) (gTimes W k (List.range n))) = (gTimes W (k + 1) (List.range n)) := by rw [hin, List.take_length]; rfl
        rw [hgt] at B22
        refine sm_list [24] 250 2 hs hd (by kernel_rfl) (agC e24 agN) rfl ?_
        simp only [seval]
        go_wp2_with fail
        intro a H; replace hs := H.s hs; replace hd := H.d rfl; replace e0 := H.k e0 rfl; replace e6 := H.k e6 rfl; replace e7 := H.k e7 rfl; replace e8 := H.k e8 rfl; replace e14 := H.k e14 rfl; replace e20 := H.k e20 rfl; replace e21 := H.k e21 rfl; replace e22 := H.k e22 rfl; replace e24 := H.g 24 rfl rfl; clear H
        exact ⟨⟨k + 1, by omega, hs, hd, e0, e6, e7, e8, e14, e20, e21, e22, e24, B22, LL⟩, by first | (simp only [hm, slot e24, intOf]; omega) | (simp [hm, slot e24, intOf]; omega)⟩
    · have hin : k = n := by omega
      have dk : decide ((k : Int) < (n : Int)) = false := decide_eq_false (by omega)
      have dk2 : decide (k < n) = false := decide_eq_false (by omega)
      clear hm
      refine sm_list [7, 24] 247 3 hs hd (by kernel_rfl) (agC e7 (agC e24 agN)) rfl ?_
      simp only [seval]
      go_wp2_with fail
      intro a H; replace hs := H.s hs; replace hd := H.d rfl; replace e7 := H.g 7 rfl rfl; replace e24 := H.g 24 rfl rfl; replace e0 := H.k e0 rfl; replace e6 := H.k e6 rfl; replace e8 := H.k e8 rfl; replace e14 := H.k e14 rfl; replace e20 := H.k e20 rfl; replace e21 := H.k e21 rfl; replace e22 := H.k e22 rfl; have e249 := H.g 249 rfl rfl; clear H; refine hKq9 _ _ ?_; clear hKq9 Kq9
      refine wp_cond_false (slotE e249) ?_
      clear e249; refine wp_exit ?_; refine exit_then rfl ?_; clear hKq8 Kq8; refine exit_then rfl ?_; refine exit_hit ?_; refine hKq6 _ _ ?_; clear hKq6 Kq6
      rw [hin] at B22
      exact HEND.out a w5 g22 hs hd e0 e6 e7 e8 e14 e20 e21 e22 (HSC.out.kept LL) B22 HB22.out
end Go.Proofs.Ytcdgofndfajekaa
