/-
  TreeForms: one round of all wires.
-/
import Derived.Test.YtcdgofndfajekaaFmS
namespace Go.Proofs.Ytcdgofndfajekaa
set_option linter.unusedSimpArgs false
set_option linter.unusedVariables false
open Go.RowKit Go.WideShapes Go.ChangeShapes
attribute [local go_sem ↓] Go.wp_at_zero Go.wp_at_succ

set_option maxRecDepth 100000 in
set_option maxHeartbeats 4000000 in
theorem round_any {P : Nat → Pr} {n : Nat} {F : List Nat} {Bs : List Bks} {L : List Tre} {PS : List (List Value)} {W : List Wire} {g8 g14 : Nat} {A8 A14 : Addr} {c8 c14 : Nat} {now : Nat} {w : World}
    (hP : Who P n) (hN : Net n W) (hI : Inv P n W (now : Int) L) (hT : Nt w F Bs L PS) (hR : Wr w Bs W g8 g14 A8 A14 c8 c14) (hnow : now ≤ 1000) (hW : W.length ≤ 1000) :
    Calls Try.prog 17 #[.int .i64 (now : Int), .pointer (some ⟨g14, 0, none⟩), .pointer (some ⟨g8, 0, none⟩)] w fun e w' => e = .returned (.bool true) ∧ (∃ PS', Nt w' F Bs (roundS W ((now % 256 : Nat) : Int) (now : Int) L) PS') ∧ Fr (turns Bs) w w' := by
  have HNI := Lib.hid (And.intro hP (And.intro hN (And.intro hI hnow)))
  obtain ⟨s, hsd⟩ : ∃ s : Int, s = ((now % 256 : Nat) : Int) := ⟨_, rfl⟩
  have hs0 : 0 ≤ s ∧ s ≤ 65535 := by rw [hsd]; omega
  rw [← hsd]
  have HSD := Lib.hid (And.intro hsd hs0)
  have HW1 := Lib.hid hW
  clear hP hN hI hnow hsd hs0 hW
  refine calls_sm (N := 63) Try.func17 rfl (by kernel_rfl) ?_
  intro a hs hd ha
  have e0 : a.tmps[0]? = some (.int .i64 (now : Int)) := ha 0 _ rfl
  have e1 : a.tmps[1]? = some (.pointer (some ⟨g14, 0, none⟩)) := ha 1 _ rfl
  have e2 : a.tmps[2]? = some (.pointer (some ⟨g8, 0, none⟩)) := ha 2 _ rfl
  clear ha
  conv => arg 2; whnf
  refine wp_seq_k fun Kq1 hKq1 => ?_
  refine sm_list [] 4 1 hs hd (by kernel_rfl) agN rfl ?_
  simp only [seval]
  go_wp2_with fail
  intro a H; replace hs := H.s hs; replace hd := H.d rfl; replace e0 := H.k e0 rfl; replace e1 := H.k e1 rfl; replace e2 := H.k e2 rfl; have e4 := H.g 4 rfl rfl; clear H; refine hKq1 _ _ ?_; clear hKq1 Kq1; refine wp_seq_k fun Kq2 hKq2 => ?_; refine wp_seq_k fun Kq3 hKq3 => ?_
  have hc14 := hR.box14.cellOf (v := .slice (some A14) W.length c14) 0 rfl
  refine sm_list [1] 11 3 hs hd (by kernel_rfl) (agC e1 agN) rfl ?_
  simp only [seval]
  go_wp2_with fail
  intro a H; replace hs := H.s hs; replace hd := H.d rfl; replace e1 := H.g 1 rfl rfl; replace e0 := H.k e0 rfl; replace e2 := H.k e2 rfl; replace e4 := H.k e4 rfl; have e11 := H.g 11 rfl rfl; have e12 := H.g 12 rfl rfl; have e13 := H.g 13 rfl rfl; clear H; refine hKq3 _ _ ?_; clear hKq3 Kq3; refine wp_block ?_; clear hc14
  refine wp_loop (fun a w' => ∃ (j : Nat) (PS' : List (List Value)), j ≤ W.length ∧ a.tmps.size = 63 ∧ a.defers = [] ∧ a.tmps[0]? = some (.int .i64 (now : Int)) ∧ a.tmps[1]? = some (.pointer (some ⟨g14, 0, none⟩)) ∧ a.tmps[2]? = some (.pointer (some ⟨g8, 0, none⟩)) ∧ a.tmps[4]? = some (.bool false) ∧ a.tmps[11]? = some (.slice (some A14) W.length c14) ∧ a.tmps[12]? = some (.int .i64 (W.length : Int)) ∧ a.tmps[13]? = some (.int .i64 (j : Int)) ∧ Nt w' F Bs (roundS (W.take j) s (now : Int) L) PS' ∧ Wr w' Bs W g8 g14 A8 A14 c8 c14 ∧ Fr (turns Bs) w w') (fun a _ => W.length - (intOf (a.tmps.getD 13 undef)).toNat) ?_ ?_
  · exact ⟨0, PS, Nat.zero_le _, hs, hd, e0, e1, e2, e4, e11, e12, e13, hT, hR, Fr.refl _ _⟩
  clear hs hd e0 e1 e2 e4 e11 e12 e13 a hT hR PS
  rintro a w3 ⟨j, PS, hj, hs, hd, e0, e1, e2, e4, e11, e12, e13, hT, hR, hF⟩
  have hm := slot e13
  refine wp_seq_k fun Kq4 hKq4 => ?_
  by_cases hlt3 : j < W.length
  ·
    have dj : decide ((j : Int) < (W.length : Int)) = true := decide_eq_true (by omega)
    have hj0 : (0 : Int) ≤ (j : Int) := by omega
    have hj1 : (j : Int) < (W.length : Int) := by omega
    have hjw : (W.length : Int) ≤ 1000 := by have := HW1.out; omega
    obtain ⟨x, hx⟩ : ∃ x, W[j]? = some x := ⟨_, List.getElem?_eq_getElem hlt3⟩
    have HX := Lib.hid hx
    have hc : ∀ (r : Nat) (v : Value), (wcs4 x).toArray.toList[r]? = some v → w3.cell? ((A14.add (j * 4)).add r) = some v := fun r v hv => by
        rw [add_of_add]; exact hR.wrs j r x v hx (by simpa using hv)
    have HC := Lib.hid hc
    have HT := Lib.hid hT
    have HR := Lib.hid hR
    have HF := Lib.hid hF
    clear hx hc hT hR hF
    refine sm_list [12, 13] 14 1 hs hd (by kernel_rfl) (agC e12 (agC e13 agN)) rfl ?_
    simp only [seval]
    go_wp2_with fail
    intro a H; replace hs := H.s hs; replace hd := H.d rfl; replace e12 := H.g 12 rfl rfl; replace e13 := H.g 13 rfl rfl; replace e0 := H.k e0 rfl; replace e1 := H.k e1 rfl; replace e2 := H.k e2 rfl; replace e4 := H.k e4 rfl; replace e11 := H.k e11 rfl; have e14 := H.g 14 rfl rfl; clear H; refine hKq4 _ _ ?_; clear hKq4 Kq4; refine wp_seq_k fun Kq5 hKq5 => ?_
    refine wp_cond_true (slotE e14) ?_
    clear e14; refine wp_skip ?_; refine hKq5 _ _ ?_; clear hKq5 Kq5; refine wp_seq_k fun Kq6 hKq6 => ?_; refine wp_block ?_; refine wp_seq_k fun Kq7 hKq7 => ?_
    refine sm_list [6, 11, 13] 15 2 hs hd (by kernel_rfl) (agU (agC e11 (agC e13 agN))) rfl ?_
    simp only [seval]
    go_wp2_with (first | (refine wpList_load_any_d rfl 66 (.tmp 3) rfl (A14.add (j * 4)) rfl (wcs4 x).toArray _ HC.out Try.underlying66 rfl (by kernel_rfl) ?_) | (refine wpList_store_new rfl 66 (.tmp 0) (.tmp 4) rfl rfl rfl rfl rfl (by kernel_rfl) (by rw [← Array.all_toList]; rfl) ?_) | fail)
    intro a H; replace hs := H.s hs; replace hd := H.d rfl; replace e11 := H.g 11 rfl rfl; replace e13 := H.g 13 rfl rfl; replace e0 := H.k e0 rfl; replace e1 := H.k e1 rfl; replace e2 := H.k e2 rfl; replace e4 := H.k e4 rfl; replace e12 := H.k e12 rfl; have e6 := H.g 6 rfl rfl; clear H; refine hKq7 _ _ ?_; clear hKq7 Kq7; refine wp_seq_k fun Kq8 hKq8 => ?_
    have LL : Below w3.heap.size w3 (w3.alloc (.cells (wcs4 x).toArray 66)) := (Below.refl _ _).alloc (Nat.le_refl _) _
    have B6 := Blk.new w3 66 (wcs4 x).toArray
    have T4 := HT.out.kept LL; have R4 := HR.out.fr (Fr.be LL); have F4 := HF.out.trans (Fr.be (S := turns Bs) LL)
    have h6 : ∀ k ∈ turns Bs, k < w3.heap.size := fun k hk => by
      obtain ⟨b, hb, hk2⟩ := List.mem_flatMap.1 hk
      exact HT.out.old k (HT.out.sub b hb k (turn_all hk2))
    obtain ⟨g6, hg6⟩ : ∃ g, g = w3.heap.size := ⟨_, rfl⟩
    rw [← hg6] at B6 e6 h6
    generalize (w3.alloc (.cells (wcs4 x).toArray 66)) = w4 at *
    have H6 := Lib.hid h6
    have H4 := Lib.hid (And.intro T4 (And.intro R4 (And.intro F4 B6)))
    clear hg6 h6 LL T4 R4 F4 B6 HT HR HF HC dj hj0
    have hI4 : Inv P n W (now : Int) (roundS (W.take j) s (now : Int) L) := by
      obtain ⟨hP, hN, hI, hnow⟩ := HNI.out
      exact round_inv hP hN HSD.out.2 ⟨by omega, by omega⟩ _ L (fun v hv => List.mem_of_mem_take hv) hI
    have HI4 := Lib.hid hI4
    clear hI4
    refine sm_list [] 7 1 hs hd (by kernel_rfl) agN rfl ?_
    simp only [seval]
    go_wp2_with fail
    intro a H; replace hs := H.s hs; replace hd := H.d rfl; replace e0 := H.k e0 rfl; replace e1 := H.k e1 rfl; replace e2 := H.k e2 rfl; replace e4 := H.k e4 rfl; replace e11 := H.k e11 rfl; replace e12 := H.k e12 rfl; replace e13 := H.k e13 rfl; replace e6 := H.k e6 rfl; have e7 := H.g 7 rfl rfl; clear H; refine hKq8 _ _ ?_; clear hKq8 Kq8; refine wp_block ?_
    refine wp_loop (fun a w' => ∃ (k : Nat) (PS' : List (List Value)), k ≤ 2 ∧ a.tmps.size = 63 ∧ a.defers = [] ∧ a.tmps[0]? = some (.int .i64 (now : Int)) ∧ a.tmps[1]? = some (.pointer (some ⟨g14, 0, none⟩)) ∧ a.tmps[2]? = some (.pointer (some ⟨g8, 0, none⟩)) ∧ a.tmps[4]? = some (.bool false) ∧ a.tmps[6]? = some (.pointer (some ⟨g6, 0, none⟩)) ∧ a.tmps[11]? = some (.slice (some A14) W.length c14) ∧ a.tmps[12]? = some (.int .i64 (W.length : Int)) ∧ a.tmps[13]? = some (.int .i64 (j : Int)) ∧ a.tmps[7]? = some (.int .i64 (k : Int)) ∧ Nt w' F Bs (half s (now : Int) (roundS (W.take j) s (now : Int) L) x k) PS' ∧ Wr w' Bs W g8 g14 A8 A14 c8 c14 ∧ Blk w' g6 66 (wcs4 x).toArray ∧ Fr (turns Bs) w w') (fun a _ => 2 - (intOf (a.tmps.getD 7 undef)).toNat) ?_ ?_
    · exact ⟨0, PS, Nat.zero_le _, hs, hd, e0, e1, e2, e4, e6, e11, e12, e13, e7, H4.out.1, H4.out.2.1, H4.out.2.2.2, H4.out.2.2.1⟩
    clear hs hd e7 e0 e1 e2 e4 e6 e11 e12 e13 a H4
    rintro a w5 ⟨k, PS, hk, hs, hd, e0, e1, e2, e4, e6, e11, e12, e13, e7, hT, hR, B6, hF⟩
    have hmk := slot e7
    refine wp_seq_k fun Kq9 hKq9 => ?_; refine wp_seq_k fun Kq10 hKq10 => ?_
    obtain rfl | rfl | rfl : k = 0 ∨ k = 1 ∨ k = 2 := by omega
    ·
      rw [show ((0 : Nat) : Int) = 0 from rfl] at e7 hmk
      refine sm_list [7] 17 2 hs hd (by kernel_rfl) (agC e7 agN) rfl ?_
      simp only [seval]
      go_wp2_with fail
      intro a H; replace hs := H.s hs; replace hd := H.d rfl; replace e7 := H.g 7 rfl rfl; replace e0 := H.k e0 rfl; replace e1 := H.k e1 rfl; replace e2 := H.k e2 rfl; replace e4 := H.k e4 rfl; replace e6 := H.k e6 rfl; replace e11 := H.k e11 rfl; replace e12 := H.k e12 rfl; replace e13 := H.k e13 rfl; have e18 := H.g 18 rfl rfl; clear H; refine hKq10 _ _ ?_; clear hKq10 Kq10
      refine wp_cond_true (slotE e18) ?_
      clear e18; refine wp_skip ?_; refine hKq9 _ _ ?_; clear hKq9 Kq9; refine wp_seq_k fun Kq11 hKq11 => ?_
      have hend : ∀ (a : Act) (w' : World) (PS' : List (List Value)), a.tmps.size = 63 → a.defers = [] → a.tmps[0]? = some (.int .i64 (now : Int)) → a.tmps[1]? = some (.pointer (some ⟨g14, 0, none⟩)) → a.tmps[2]? = some (.pointer (some ⟨g8, 0, none⟩)) → a.tmps[4]? = some (.bool false) → a.tmps[6]? = some (.pointer (some ⟨g6, 0, none⟩)) → a.tmps[7]? = some (.int .i64 0) → a.tmps[11]? = some (.slice (some A14) W.length c14) → a.tmps[12]? = some (.int .i64 (W.length : Int)) → a.tmps[13]? = some (.int .i64 (j : Int)) → Nt w' F Bs (half s (now : Int) (roundS (W.take j) s (now : Int) L) x 1) PS' → Wr w' Bs W g8 g14 A8 A14 c8 c14 → Blk w' g6 66 (wcs4 x).toArray → Fr (turns Bs) w5 w' → Kq11 a w' := fun a w6 PS2 hs hd e0 e1 e2 e4 e6 e7 e11 e12 e13 hT2 hR2 B62 hF2 => by
        refine hKq11 _ _ ?_; clear hKq11 Kq11
        refine sm_list [7] 19 2 hs hd (by kernel_rfl) (agC e7 agN) rfl ?_
        simp only [seval]
        go_wp2_with fail
        intro a H; replace hs := H.s hs; replace hd := H.d rfl; replace e0 := H.k e0 rfl; replace e1 := H.k e1 rfl; replace e2 := H.k e2 rfl; replace e4 := H.k e4 rfl; replace e6 := H.k e6 rfl; replace e11 := H.k e11 rfl; replace e12 := H.k e12 rfl; replace e13 := H.k e13 rfl; replace e7 := H.g 7 rfl rfl; clear H
        refine ⟨⟨1, PS2, by omega, hs, hd, e0, e1, e2, e4, e6, e11, e12, e13, e7, hT2, hR2, B62, hF.trans hF2⟩, ?_⟩
        first | (simp only [hmk, slot e7, intOf]; decide) | (simp [hmk, e7, slot e7, intOf])
      have hsd2 := HSD.out.1
      exact tf_send0 (j := j) HNI.out.1 HNI.out.2.1 HI4.out hT hR HNI.out.2.2.2 HX.out B6 H6.out a _ hs hd e0 e1 e2 e4 e6 e7 e11 e12 e13 (by rw [← hsd2]; exact hend)
    ·
      rw [show ((1 : Nat) : Int) = 1 from rfl] at e7 hmk
      refine sm_list [7] 17 2 hs hd (by kernel_rfl) (agC e7 agN) rfl ?_
      simp only [seval]
      go_wp2_with fail
      intro a H; replace hs := H.s hs; replace hd := H.d rfl; replace e7 := H.g 7 rfl rfl; replace e0 := H.k e0 rfl; replace e1 := H.k e1 rfl; replace e2 := H.k e2 rfl; replace e4 := H.k e4 rfl; replace e6 := H.k e6 rfl; replace e11 := H.k e11 rfl; replace e12 := H.k e12 rfl; replace e13 := H.k e13 rfl; have e18 := H.g 18 rfl rfl; clear H; refine hKq10 _ _ ?_; clear hKq10 Kq10
      refine wp_cond_true (slotE e18) ?_
      clear e18; refine wp_skip ?_; refine hKq9 _ _ ?_; clear hKq9 Kq9; refine wp_seq_k fun Kq11 hKq11 => ?_
      have hend : ∀ (a : Act) (w' : World) (PS' : List (List Value)), a.tmps.size = 63 → a.defers = [] → a.tmps[0]? = some (.int .i64 (now : Int)) → a.tmps[1]? = some (.pointer (some ⟨g14, 0, none⟩)) → a.tmps[2]? = some (.pointer (some ⟨g8, 0, none⟩)) → a.tmps[4]? = some (.bool false) → a.tmps[6]? = some (.pointer (some ⟨g6, 0, none⟩)) → a.tmps[7]? = some (.int .i64 1) → a.tmps[11]? = some (.slice (some A14) W.length c14) → a.tmps[12]? = some (.int .i64 (W.length : Int)) → a.tmps[13]? = some (.int .i64 (j : Int)) → Nt w' F Bs (half s (now : Int) (roundS (W.take j) s (now : Int) L) x 2) PS' → Wr w' Bs W g8 g14 A8 A14 c8 c14 → Blk w' g6 66 (wcs4 x).toArray → Fr (turns Bs) w5 w' → Kq11 a w' := fun a w6 PS2 hs hd e0 e1 e2 e4 e6 e7 e11 e12 e13 hT2 hR2 B62 hF2 => by
        refine hKq11 _ _ ?_; clear hKq11 Kq11
        refine sm_list [7] 19 2 hs hd (by kernel_rfl) (agC e7 agN) rfl ?_
        simp only [seval]
        go_wp2_with fail
        intro a H; replace hs := H.s hs; replace hd := H.d rfl; replace e0 := H.k e0 rfl; replace e1 := H.k e1 rfl; replace e2 := H.k e2 rfl; replace e4 := H.k e4 rfl; replace e6 := H.k e6 rfl; replace e11 := H.k e11 rfl; replace e12 := H.k e12 rfl; replace e13 := H.k e13 rfl; replace e7 := H.g 7 rfl rfl; clear H
        refine ⟨⟨2, PS2, by omega, hs, hd, e0, e1, e2, e4, e6, e11, e12, e13, e7, hT2, hR2, B62, hF.trans hF2⟩, ?_⟩
        first | (simp only [hmk, slot e7, intOf]; decide) | (simp [hmk, e7, slot e7, intOf])
      have hsd2 := HSD.out.1
      exact tf_send1 (j := j) HNI.out.1 HNI.out.2.1 (sends_inv HNI.out.1 HNI.out.2.1 HI4.out HSD.out.2 ⟨by omega, by have := HNI.out.2.2.2; omega⟩ ⟨x, List.mem_of_getElem? HX.out, .inl ⟨rfl, rfl⟩⟩) hT hR HNI.out.2.2.2 HX.out B6 H6.out a _ hs hd e0 e1 e2 e4 e6 e7 e11 e12 e13 (by rw [← hsd2]; exact hend)
    ·
      rw [show ((2 : Nat) : Int) = 2 from rfl] at e7 hmk
      refine sm_list [7] 17 2 hs hd (by kernel_rfl) (agC e7 agN) rfl ?_
      simp only [seval]
      go_wp2_with fail
      intro a H; replace hs := H.s hs; replace hd := H.d rfl; replace e7 := H.g 7 rfl rfl; replace e0 := H.k e0 rfl; replace e1 := H.k e1 rfl; replace e2 := H.k e2 rfl; replace e4 := H.k e4 rfl; replace e6 := H.k e6 rfl; replace e11 := H.k e11 rfl; replace e12 := H.k e12 rfl; replace e13 := H.k e13 rfl; have e18 := H.g 18 rfl rfl; clear H; refine hKq10 _ _ ?_; clear hKq10 Kq10
      refine wp_cond_false (slotE e18) ?_
      clear e18; refine wp_exit ?_; refine exit_then rfl ?_; clear hKq9 Kq9; refine exit_then rfl ?_; refine exit_hit ?_; refine hKq6 _ _ ?_; clear hKq6 Kq6
      have hj7 : (j : Int) + 1 ≤ 1001 := by omega
      refine sm_list [13] 62 1 hs hd (by kernel_rfl) (agC e13 agN) rfl ?_
      simp only [seval]
      go_wp2_with fail
      intro a H; replace hs := H.s hs; replace hd := H.d rfl; replace e0 := H.k e0 rfl; replace e1 := H.k e1 rfl; replace e2 := H.k e2 rfl; replace e4 := H.k e4 rfl; replace e11 := H.k e11 rfl; replace e12 := H.k e12 rfl; clear e6; clear e7; replace e13 := H.g 13 rfl rfl; clear H
      have htk : (roundS (W.take (j + 1)) s (now : Int) L) = (half s (now : Int) (roundS (W.take j) s (now : Int) L) x 2) := by
        unfold roundS
        rw [List.take_add_one, HX.out, List.foldl_append]
        rfl
      rw [← htk] at hT
      refine ⟨⟨j + 1, PS, by omega, hs, hd, e0, e1, e2, e4, e11, e12, e13, hT, hR, hF⟩, ?_⟩
      first | (simp only [hm, slot e13, intOf]; omega) | (simp [hm, slot e13, intOf]; omega)
  · obtain rfl : j = W.length := by omega
    have dj : decide ((W.length : Int) < (W.length : Int)) = false := decide_eq_false (by omega)
    clear hlt3 hm
    refine sm_list [12, 13] 14 1 hs hd (by kernel_rfl) (agC e12 (agC e13 agN)) rfl ?_
    simp only [seval]
    go_wp2_with fail
    intro a H; replace hs := H.s hs; replace hd := H.d rfl; replace e12 := H.g 12 rfl rfl; replace e13 := H.g 13 rfl rfl; replace e0 := H.k e0 rfl; replace e1 := H.k e1 rfl; replace e2 := H.k e2 rfl; replace e4 := H.k e4 rfl; replace e11 := H.k e11 rfl; have e14 := H.g 14 rfl rfl; clear H; refine hKq4 _ _ ?_; clear hKq4 Kq4; refine wp_seq_k fun Kq5 hKq5 => ?_
    refine wp_cond_false (slotE e14) ?_
    clear e14; refine wp_exit ?_; refine exit_then rfl ?_; clear hKq5 Kq5; refine exit_then rfl ?_; refine exit_hit ?_; refine hKq2 _ _ ?_; clear hKq2 Kq2; refine wp_seq_k fun Kq6 hKq6 => ?_
    refine sm_list [] 4 1 hs hd (by kernel_rfl) agN rfl ?_
    simp only [seval]
    go_wp2_with fail
    intro a H; replace hs := H.s hs; replace hd := H.d rfl; replace e0 := H.k e0 rfl; replace e1 := H.k e1 rfl; replace e2 := H.k e2 rfl; replace e11 := H.k e11 rfl; replace e12 := H.k e12 rfl; replace e13 := H.k e13 rfl; replace e4 := H.g 4 rfl rfl; clear H; refine hKq6 _ _ ?_; clear hKq6 Kq6; refine wp_ret ?_
    rw [List.take_length] at hT
    exact sm_ret rfl hd e4 ⟨rfl, ⟨PS, hT⟩, hF⟩
end Go.Proofs.Ytcdgofndfajekaa
