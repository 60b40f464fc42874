/-
  ether: the rows of a frame that is read.
-/
import Derived.Test.YthhlfojaloaooaaGreatRows
import Derived.Test.YthhlfojaloaooaaGreatEtLZ
import Derived.Test.YthhlfojaloaooaaGreatMask
import Derived.WalkKit
import Derived.ProofKit
import Derived.OpenShut
import Derived.LoopTactic
import Derived.WalkLawsBesides
import Derived.WalkSpells
import Derived.Outline
import Derived.Lib.Hide
import Derived.Deep.DrawnRows
import Derived.Laws.CopyOwn
import Derived.MapKept
namespace Go.Proofs.YthhlfojaloaooaaGreat
set_option linter.unusedSimpArgs false
set_option linter.unusedVariables false
open Go.RowKit Go.WideShapes Go.ChangeShapes
attribute [local go_sem ↓] Go.wp_at_zero Go.wp_at_succ

section
variable {w wk w' : World} {g2 g5 g6 c : Nat} {f : Fm} {rest : List Int} {A : Addr}
theorem DeS.call (h : DeS w wk g2 g5 g6 f rest A c) (hL : 4 ≤ rest.length) : Calls Tryz.prog 25 #[.pointer (some ⟨g6, 0, none⟩)] wk fun e w' => e = .returned (.int .i64 (num2 rest)) ∧ DeS w w' g2 g5 g6 f (rest.drop 2) (A.add 2) (c - 2) := by
  obtain ⟨b0, b1, rs, rfl⟩ : ∃ b0 b1 rs, rest = b0 :: b1 :: rs := by
    match rest, hL with
    | b0 :: b1 :: rs, _ => exact ⟨b0, b1, rs, rfl⟩
  have hcp := h.cap
  simp only [List.length_cons] at hcp hL
  obtain ⟨h1, h2, h3, h4, h5⟩ := h.two
  refine (next_any g6 A rs.length c b0 b1 wk h.b6 h1 h2 h3 h4 h5 (by omega) (by omega) h.cm).mono ?_
  rintro e w' ⟨rfl, hB, gr⟩
  exact ⟨rfl, h.next hB gr⟩
theorem num2_range : ∀ {rest : List Int}, (∀ b ∈ rest, 0 ≤ b ∧ b ≤ 255) → 0 ≤ num2 rest ∧ num2 rest ≤ 65535
  | [], _ => by decide
  | [_], _ => by show (0 : Int) ≤ 0 ∧ (0 : Int) ≤ 65535; decide
  | b0 :: b1 :: r, h => by
    have h0 := h b0 (by simp)
    have h1 := h b1 (by simp)
    show 0 ≤ b0 * 256 + b1 ∧ b0 * 256 + b1 ≤ 65535
    omega
theorem DeS.cell (h : DeS w wk g2 g5 g6 f rest A c) (f' : Fm) (k : Nat) (u : Value) (hb : (f.cells none 0 0).setIfInBounds (12 + k) u = f'.cells none 0 0) (hd : f'.dst = f.dst ∧ f'.src = f.src ∧ f'.data = f.data) : DeS w (wk.setCell ⟨g5, 12 + k, none⟩ u) g2 g5 g6 f' rest A c :=
  h.put (by rw [← hb]; exact h.fb.blk.set_ _ _) hd (gr_set (grownBy_refl _ _) _ _)
theorem DeS.s0 (h : DeS w wk g2 g5 g6 f rest A c) (x : Bool) : DeS w (wk.setCell ⟨g5, 12, none⟩ (.bool x)) g2 g5 g6 { f with tagged := x } rest A c :=
  h.cell { f with tagged := x } 0 _ (by rw [Fm.cells_eq, cells2_set h.fb.wf.dst h.fb.wf.src]; rfl) ⟨rfl, rfl, rfl⟩
theorem DeS.s1 (h : DeS w wk g2 g5 g6 f rest A c) (x : Int) : DeS w (wk.setCell ⟨g5, 13, none⟩ (.int .i64 x)) g2 g5 g6 { f with vid := x } rest A c :=
  h.cell { f with vid := x } 1 _ (by rw [Fm.cells_eq, cells2_set h.fb.wf.dst h.fb.wf.src]; rfl) ⟨rfl, rfl, rfl⟩
theorem DeS.s2 (h : DeS w wk g2 g5 g6 f rest A c) (x : Int) : DeS w (wk.setCell ⟨g5, 14, none⟩ (.int .i64 x)) g2 g5 g6 { f with prio := x } rest A c :=
  h.cell { f with prio := x } 2 _ (by rw [Fm.cells_eq, cells2_set h.fb.wf.dst h.fb.wf.src]; rfl) ⟨rfl, rfl, rfl⟩
theorem DeS.s3 (h : DeS w wk g2 g5 g6 f rest A c) (x : Bool) : DeS w (wk.setCell ⟨g5, 15, none⟩ (.bool x)) g2 g5 g6 { f with drop := x } rest A c :=
  h.cell { f with drop := x } 3 _ (by rw [Fm.cells_eq, cells2_set h.fb.wf.dst h.fb.wf.src]; rfl) ⟨rfl, rfl, rfl⟩
theorem DeS.s4 (h : DeS w wk g2 g5 g6 f rest A c) (x : Bool) : DeS w (wk.setCell ⟨g5, 16, none⟩ (.bool x)) g2 g5 g6 { f with many := x } rest A c :=
  h.cell { f with many := x } 4 _ (by rw [Fm.cells_eq, cells2_set h.fb.wf.dst h.fb.wf.src]; rfl) ⟨rfl, rfl, rfl⟩
theorem DeS.s5 (h : DeS w wk g2 g5 g6 f rest A c) (x : Int) : DeS w (wk.setCell ⟨g5, 17, none⟩ (.int .i64 x)) g2 g5 g6 { f with seq := x } rest A c :=
  h.cell { f with seq := x } 5 _ (by rw [Fm.cells_eq, cells2_set h.fb.wf.dst h.fb.wf.src]; rfl) ⟨rfl, rfl, rfl⟩
theorem DeS.s6 (h : DeS w wk g2 g5 g6 f rest A c) (x : Int) : DeS w (wk.setCell ⟨g5, 18, none⟩ (.int .i64 x)) g2 g5 g6 { f with ty := x } rest A c :=
  h.cell { f with ty := x } 6 _ (by rw [Fm.cells_eq, cells2_set h.fb.wf.dst h.fb.wf.src]; rfl) ⟨rfl, rfl, rfl⟩
end
set_option maxRecDepth 100000 in
set_option maxHeartbeats 4000000 in
theorem dec_c (f : Fm) (rest : List Int) (A : Addr) (c g2 g5 g6 tot c0 : Nat) (A0 : Option Addr) (w wk : World) (hE : DeS w wk g2 g5 g6 f rest A c) (hL : 26 ≤ rest.length) (hT : tot ≤ 1600) (hLT : rest.length ≤ 1600) (R : Ending → World → Prop) (hRR : ∀ e w', DecR w (decC f rest ((tot : Int) + 4)) e w' → R e w') (a : Act)
    (hs : a.tmps.size = 118) (hd : a.defers = []) (e0 : a.tmps[0]? = some (.slice A0 tot c0)) (e2 : a.tmps[2]? = some (.pointer (some ⟨g2, 0, none⟩))) (e3 : a.tmps[3]? = some (.int .i64 0)) (e5 : a.tmps[5]? = some (.pointer (some ⟨g5, 0, none⟩))) (e6 : a.tmps[6]? = some (.pointer (some ⟨g6, 0, none⟩))) (e7 : a.tmps[7]? = some (.func (.func 25) #[] #[.pointer (some ⟨g6, 0, none⟩)])) :
    Code.wp Tryz.prog (sub [true, true, true, true, true, true, true, true, true, true, true] (bodyOf Tryz.f11)) (bodyPost Tryz.prog Tryz.f11 R) a wk := by
  have HE := Lib.hid hE
  have HRR := Lib.hid hRR
  clear hE hRR
  conv => arg 2; whnf
  refine wp_seq_k fun Kq1 hKq1 => ?_; refine wp_seq_k fun Kq2 hKq2 => ?_
  obtain ⟨ty, hty⟩ : ∃ z, z = f.ty := ⟨_, rfl⟩
  have q18 := HE.out.fb.c18
  rw [← hty] at q18
  have HTY := Lib.hid hty
  clear hty
  by_cases ht : ty = 61889
  · have hq : (ty == 61889) = true := by rw [ht]; rfl
    have hlaw : decC f rest ((tot : Int) + 4) = if num2 rest ≠ 0 then .error 21 else decD { f with many := true, seq := num2 (rest.drop 2), ty := num2 (rest.drop 4) } (rest.drop 6) ((tot : Int) + 4) := by unfold decC; rw [if_pos (HTY.out.symm.trans ht)]
    have HL := Lib.hid hlaw
    clear hlaw ht
    refine sm_list [5] 66 3 hs hd (by kernel_rfl) (agC e5 agN) rfl ?_
    simp only [seval]
    go_wp2_with fail
    intro a H; replace hs := H.s hs; replace hd := H.d rfl; replace e5 := H.g 5 rfl rfl; replace e0 := H.k e0 rfl; replace e2 := H.k e2 rfl; replace e3 := H.k e3 rfl; replace e6 := H.k e6 rfl; replace e7 := H.k e7 rfl; have e68 := H.g 68 rfl rfl; clear H; refine hKq2 _ _ ?_; clear hKq2 Kq2
    refine wp_cond_true (slotE e68) ?_
    clear e68; refine wp_seq_k fun Kq3 hKq3 => ?_; refine wp_seq_k fun Kq4 hKq4 => ?_; clear hq q18; have HC := HE.out.call (by omega)
    obtain ⟨x, hx⟩ : ∃ x, x = num2 rest := ⟨_, rfl⟩
    rw [← hx] at HC
    have HX := Lib.hid hx
    clear hx
    by_cases hz : x = 0
    · subst hz
      refine sm_list [7] 69 3 hs hd (by kernel_rfl) (agC e7 agN) rfl ?_
      simp only [seval]
      go_wp2_with fail
      refine HC.mono ?_
      rintro e w3 ⟨rfl, hE3⟩
      have HhE3 := Lib.hid hE3
      clear hE3
      go_wp2_with fail
      intro a H; replace hs := H.s hs; replace hd := H.d rfl; replace e7 := H.g 7 rfl rfl; replace e0 := H.k e0 rfl; replace e2 := H.k e2 rfl; replace e3 := H.k e3 rfl; replace e5 := H.k e5 rfl; replace e6 := H.k e6 rfl; have e71 := H.g 71 rfl rfl; clear H; refine hKq4 _ _ ?_; clear hKq4 Kq4
      refine wp_cond_false (slotE e71) ?_
      clear e71; refine wp_skip ?_; refine hKq3 _ _ ?_; clear hKq3 Kq3; refine wp_seq_k fun Kq5 hKq5 => ?_
      have hlaw : decC f rest ((tot : Int) + 4) = decD { f with many := true, seq := num2 (rest.drop 2), ty := num2 (rest.drop 4) } (rest.drop 6) ((tot : Int) + 4) := by rw [HL.out, if_neg (fun h => h HX.out.symm)]
      have HL2 := Lib.hid hlaw
      have HC2 := HhE3.out.call (by rw [List.length_drop]; omega)
      obtain ⟨y, hy⟩ : ∃ x, x = num2 (rest.drop 2) := ⟨_, rfl⟩
      rw [← hy] at HC2
      have HY := Lib.hid hy
      clear hy HC hlaw HL HX
      refine sm_list [5, 7] 73 4 hs hd (by kernel_rfl) (agC e5 (agC e7 agN)) rfl ?_
      simp only [seval]
      go_wp2_with fail
      refine HC2.mono ?_
      rintro e w4 ⟨rfl, hE4⟩
      have q16 := hE4.fb.c16
      have q17 := hE4.fb.c17
      have fz := hE4.fb.blk.frozen
      have HhE4 := Lib.hid hE4
      clear hE4
      go_wp2_with fail
      intro a H; replace hs := H.s hs; replace hd := H.d rfl; replace e5 := H.g 5 rfl rfl; replace e7 := H.g 7 rfl rfl; replace e0 := H.k e0 rfl; replace e2 := H.k e2 rfl; replace e3 := H.k e3 rfl; replace e6 := H.k e6 rfl; clear H; refine hKq5 _ _ ?_; clear hKq5 Kq5
      have hE5 := ((HhE4.out.s4 true).s5 y)
      generalize (w4.setCell ⟨g5, 16, none⟩ (.bool true)).setCell ⟨g5, 17, none⟩ (.int .i64 y) = w5 at hE5 ⊢
      have HC3 := hE5.call (by rw [List.length_drop, List.length_drop]; omega)
      have HE5 := Lib.hid hE5
      obtain ⟨z, hz⟩ : ∃ x, x = num2 ((rest.drop 2).drop 2) := ⟨_, rfl⟩
      rw [← hz] at HC3
      have HZ := Lib.hid hz
      clear hz HC2 q16 q17 fz hE5
      refine sm_list [5, 7] 77 3 hs hd (by kernel_rfl) (agC e5 (agC e7 agN)) rfl ?_
      simp only [seval]
      go_wp2_with fail
      refine HC3.mono ?_
      rintro e w6 ⟨rfl, hE6⟩
      have q18 := hE6.fb.c18
      have fz := hE6.fb.blk.frozen
      have HhE6 := Lib.hid hE6
      clear hE6
      go_wp2_with fail
      intro a H; replace hs := H.s hs; replace hd := H.d rfl; replace e5 := H.g 5 rfl rfl; replace e7 := H.g 7 rfl rfl; replace e0 := H.k e0 rfl; replace e2 := H.k e2 rfl; replace e3 := H.k e3 rfl; replace e6 := H.k e6 rfl; clear H; refine hKq1 _ _ ?_; clear hKq1 Kq1; have hE7 := HhE6.out.s6 z
      generalize w6.setCell ⟨g5, 18, none⟩ (.int .i64 z) = w7 at hE7 ⊢
      refine dec_d _ _ _ _ g2 g5 g6 tot c0 A0 w w7 hE7 (by simp only [List.length_drop]; omega) hT (by simp only [List.length_drop]; omega) R (fun e w' h => HRR.out e w' ?_) a hs hd e0 e2 e3 e5 e6 e7
      rw [HL2.out]
      rw [HY.out, HZ.out] at h
      simpa only [List.drop_drop] using h
    · have hq : (x != 0) = true := bne_iff_ne.2 hz
      refine sm_list [7] 69 3 hs hd (by kernel_rfl) (agC e7 agN) rfl ?_
      simp only [seval]
      go_wp2_with fail
      refine HC.mono ?_
      rintro e w3 ⟨rfl, hE3⟩
      have HhE3 := Lib.hid hE3
      clear hE3
      go_wp2_with fail
      intro a H; replace hs := H.s hs; replace hd := H.d rfl; replace e7 := H.g 7 rfl rfl; replace e0 := H.k e0 rfl; replace e2 := H.k e2 rfl; replace e3 := H.k e3 rfl; replace e5 := H.k e5 rfl; replace e6 := H.k e6 rfl; have e71 := H.g 71 rfl rfl; clear H; refine hKq4 _ _ ?_; clear hKq4 Kq4
      refine wp_cond_true (slotE e71) ?_
      clear e71; refine wp_seq_k fun Kq5 hKq5 => ?_
      have hlaw : decC f rest ((tot : Int) + 4) = .error 21 := by rw [HL.out, if_pos (by rw [← HX.out]; exact hz)]
      have HL2 := Lib.hid hlaw
      clear hlaw
      refine sm_list [2, 3] 72 1 hs hd (by kernel_rfl) (agC e2 (agC e3 agN)) rfl ?_
      simp only [seval]
      go_wp2_with (first | (refine wpList_store_part rfl 52 (.tmp 0) (.tmp 2) rfl (off := 0) rfl HhE3.out.b2 rfl (by simp [zeroFm]) (by kernel_rfl) (by rw [← Array.all_toList]; rfl) ?_; intro wz Bz zz gz) | fail)
      intro a H; replace hs := H.s hs; replace hd := H.d rfl; replace e2 := H.g 2 rfl rfl; replace e0 := H.k e0 rfl; replace e5 := H.k e5 rfl; replace e6 := H.k e6 rfl; replace e7 := H.k e7 rfl; replace e3 := H.g 3 rfl rfl; clear H; refine hKq5 _ _ ?_; clear hKq5 Kq5; refine wp_ret ?_; refine exit_then rfl ?_; refine exit_then rfl ?_
      have Bz2 : Blk wz g2 52 zeroFm := by simpa [putAll, zeroFm] using Bz
      have bz := (HhE3.out.low).grown gz (HhE3.out.low).size (fun k hk => by cases hk; exact HhE3.out.ap.2.1)
      exact sm_ret_cell rfl hd e2 Bz2 Tryz.underlying52 rfl (by kernel_rfl) e3 (HRR.out _ _ (by rw [HL2.out]; exact ⟨bz, rfl⟩))
  · have hq : (ty == 61889) = false := beq_eq_false_iff_ne.2 ht
    refine sm_list [5] 66 3 hs hd (by kernel_rfl) (agC e5 agN) rfl ?_
    simp only [seval]
    go_wp2_with fail
    intro a H; replace hs := H.s hs; replace hd := H.d rfl; replace e5 := H.g 5 rfl rfl; replace e0 := H.k e0 rfl; replace e2 := H.k e2 rfl; replace e3 := H.k e3 rfl; replace e6 := H.k e6 rfl; replace e7 := H.k e7 rfl; have e68 := H.g 68 rfl rfl; clear H; refine hKq2 _ _ ?_; clear hKq2 Kq2
    refine wp_cond_false (slotE e68) ?_
    clear e68; refine wp_skip ?_; refine hKq1 _ _ ?_; clear hKq1 Kq1
    exact dec_d f rest A c g2 g5 g6 tot c0 A0 w wk HE.out (by omega) hT hLT R (fun e w' h => HRR.out e w' (by unfold decC; rw [if_neg (by rw [← HTY.out]; exact ht)]; exact h)) a hs hd e0 e2 e3 e5 e6 e7
set_option maxRecDepth 100000 in
set_option maxHeartbeats 4000000 in
theorem dec_b (f : Fm) (rest : List Int) (A : Addr) (c g2 g5 g6 tot c0 : Nat) (A0 : Option Addr) (w wk : World) (hE : DeS w wk g2 g5 g6 f rest A c) (hL : 30 ≤ rest.length) (hT : tot ≤ 1600) (hLT : rest.length ≤ 1600) (R : Ending → World → Prop) (hRR : ∀ e w', DecR w (decB f rest ((tot : Int) + 4)) e w' → R e w') (a : Act)
    (hs : a.tmps.size = 118) (hd : a.defers = []) (e0 : a.tmps[0]? = some (.slice A0 tot c0)) (e2 : a.tmps[2]? = some (.pointer (some ⟨g2, 0, none⟩))) (e3 : a.tmps[3]? = some (.int .i64 0)) (e5 : a.tmps[5]? = some (.pointer (some ⟨g5, 0, none⟩))) (e6 : a.tmps[6]? = some (.pointer (some ⟨g6, 0, none⟩))) (e7 : a.tmps[7]? = some (.func (.func 25) #[] #[.pointer (some ⟨g6, 0, none⟩)])) :
    Code.wp Tryz.prog (sub [true, true, true, true, true, true, true, true, true, true] (bodyOf Tryz.f11)) (bodyPost Tryz.prog Tryz.f11 R) a wk := by
  have HE := Lib.hid hE
  have HRR := Lib.hid hRR
  clear hE hRR
  conv => arg 2; whnf
  refine wp_seq_k fun Kq1 hKq1 => ?_; refine wp_seq_k fun Kq2 hKq2 => ?_
  obtain ⟨ty, hty⟩ : ∃ z, z = f.ty := ⟨_, rfl⟩
  have q18 := HE.out.fb.c18
  rw [← hty] at q18
  have HTY := Lib.hid hty
  clear hty
  by_cases ht : ty = 33024
  · have hq : (ty == 33024) = true := by rw [ht]; rfl
    have hlaw : decB f rest ((tot : Int) + 4) = decC { f with tagged := true, prio := num2 rest / 8192, drop := num2 rest / 4096 % 2 == 1, vid := num2 rest % 4096, ty := num2 (rest.drop 2) } (rest.drop 4) ((tot : Int) + 4) := by unfold decB; rw [if_pos (HTY.out.symm.trans ht)]
    have HL := Lib.hid hlaw
    clear hlaw ht
    refine sm_list [5] 46 3 hs hd (by kernel_rfl) (agC e5 agN) rfl ?_
    simp only [seval]
    go_wp2_with fail
    intro a H; replace hs := H.s hs; replace hd := H.d rfl; replace e5 := H.g 5 rfl rfl; replace e0 := H.k e0 rfl; replace e2 := H.k e2 rfl; replace e3 := H.k e3 rfl; replace e6 := H.k e6 rfl; replace e7 := H.k e7 rfl; have e48 := H.g 48 rfl rfl; clear H; refine hKq2 _ _ ?_; clear hKq2 Kq2
    refine wp_cond_true (slotE e48) ?_
    clear e48; refine wp_seq_k fun Kq3 hKq3 => ?_; clear hq q18; have HC := HE.out.call (by omega)
    obtain ⟨x0, x1⟩ := num2_range HE.out.bB
    obtain ⟨x, hx⟩ : ∃ x, x = num2 rest := ⟨_, rfl⟩
    rw [← hx] at HC x0 x1
    have HX := Lib.hid hx
    clear hx
    refine sm_list [7, 8] 49 2 hs hd (by kernel_rfl) (agC e7 (agU agN)) rfl ?_
    simp only [seval]
    go_wp2_with fail
    refine HC.mono ?_
    rintro e w3 ⟨rfl, hE3⟩
    have HhE3 := Lib.hid hE3
    clear hE3
    go_wp2_with fail
    intro a H; replace hs := H.s hs; replace hd := H.d rfl; replace e7 := H.g 7 rfl rfl; replace e0 := H.k e0 rfl; replace e2 := H.k e2 rfl; replace e3 := H.k e3 rfl; replace e5 := H.k e5 rfl; replace e6 := H.k e6 rfl; have e8 := H.g 8 rfl rfl; clear H; refine hKq3 _ _ ?_; clear hKq3 Kq3; refine wp_seq_k fun Kq4 hKq4 => ?_
    have ha1 : bits .and .i64 (x / 4096) 1 = x / 4096 % 2 := andI _ 1 (by omega) _ rfl
    have ha2 : bits .and .i64 x 4095 = x % 4096 := andI _ 12 (by omega) _ rfl
    have HA := Lib.hid (And.intro ha1 ha2)
    clear ha1 ha2; have c12 := HhE3.out.fb.c12; have c13 := HhE3.out.fb.c13; have c14 := HhE3.out.fb.c14; have c15 := HhE3.out.fb.c15; have fz := HhE3.out.fb.blk.frozen; clear HC
    refine sm_list [5, 8] 51 12 hs hd (by kernel_rfl) (agC e5 (agC e8 agN)) rfl ?_
    simp only [seval]
    go_wp2_with fail
    intro a H; replace hs := H.s hs; replace hd := H.d rfl; replace e5 := H.g 5 rfl rfl; replace e8 := H.g 8 rfl rfl; replace e0 := H.k e0 rfl; replace e2 := H.k e2 rfl; replace e3 := H.k e3 rfl; replace e6 := H.k e6 rfl; replace e7 := H.k e7 rfl; clear H; refine hKq4 _ _ ?_; clear hKq4 Kq4
    rw [HA.out.1, HA.out.2]
    have hE5 := (((HhE3.out.s0 true).s2 (x / 8192)).s3 (x / 4096 % 2 == 1)).s1 (x % 4096)
    generalize (((w3.setCell ⟨g5, 12, none⟩ (.bool true)).setCell ⟨g5, 14, none⟩ (.int .i64 (x / 8192))).setCell ⟨g5, 15, none⟩ (.bool (x / 4096 % 2 == 1))).setCell ⟨g5, 13, none⟩ (.int .i64 (x % 4096)) = w5 at hE5 ⊢
    have HC3 := hE5.call (by rw [List.length_drop]; omega)
    have HE5 := Lib.hid hE5
    obtain ⟨z, hz⟩ : ∃ x, x = num2 (rest.drop 2) := ⟨_, rfl⟩
    rw [← hz] at HC3
    have HZ := Lib.hid hz
    clear hz c12 c13 c14 c15 fz hE5; clear e8
    refine sm_list [5, 7] 63 3 hs hd (by kernel_rfl) (agC e5 (agC e7 agN)) rfl ?_
    simp only [seval]
    go_wp2_with fail
    refine HC3.mono ?_
    rintro e w6 ⟨rfl, hE6⟩
    have q18 := hE6.fb.c18
    have fz := hE6.fb.blk.frozen
    have HhE6 := Lib.hid hE6
    clear hE6
    go_wp2_with fail
    intro a H; replace hs := H.s hs; replace hd := H.d rfl; replace e5 := H.g 5 rfl rfl; replace e7 := H.g 7 rfl rfl; replace e0 := H.k e0 rfl; replace e2 := H.k e2 rfl; replace e3 := H.k e3 rfl; replace e6 := H.k e6 rfl; clear H; refine hKq1 _ _ ?_; clear hKq1 Kq1; have hE7 := HhE6.out.s6 z
    generalize w6.setCell ⟨g5, 18, none⟩ (.int .i64 z) = w7 at hE7 ⊢
    refine dec_c _ _ _ _ g2 g5 g6 tot c0 A0 w w7 hE7 (by simp only [List.length_drop]; omega) hT (by simp only [List.length_drop]; omega) R (fun e w' h => HRR.out e w' ?_) a hs hd e0 e2 e3 e5 e6 e7
    rw [HL.out]
    rw [HX.out, HZ.out] at h
    simpa only [List.drop_drop] using h
  · have hq : (ty == 33024) = false := beq_eq_false_iff_ne.2 ht
    refine sm_list [5] 46 3 hs hd (by kernel_rfl) (agC e5 agN) rfl ?_
    simp only [seval]
    go_wp2_with fail
    intro a H; replace hs := H.s hs; replace hd := H.d rfl; replace e5 := H.g 5 rfl rfl; replace e0 := H.k e0 rfl; replace e2 := H.k e2 rfl; replace e3 := H.k e3 rfl; replace e6 := H.k e6 rfl; replace e7 := H.k e7 rfl; have e48 := H.g 48 rfl rfl; clear H; refine hKq2 _ _ ?_; clear hKq2 Kq2
    refine wp_cond_false (slotE e48) ?_
    clear e48; refine wp_skip ?_; refine hKq1 _ _ ?_; clear hKq1 Kq1
    exact dec_c f rest A c g2 g5 g6 tot c0 A0 w wk HE.out (by omega) hT hLT R (fun e w' h => HRR.out e w' (by unfold decB; rw [if_neg (by rw [← HTY.out]; exact ht)]; exact h)) a hs hd e0 e2 e3 e5 e6 e7
end Go.Proofs.YthhlfojaloaooaaGreat
