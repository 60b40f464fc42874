/-
  TreeForms: who is the best of a group.
-/
import Derived.Test.YtcdgofndfajekaaFmT
namespace Go.Proofs.Ytcdgofndfajekaa
set_option linter.unusedSimpArgs false
set_option linter.unusedVariables false
open Go.RowKit Go.WideShapes Go.ChangeShapes
attribute [local go_sem ↓] Go.wp_at_zero Go.wp_at_succ

set_option maxRecDepth 100000 in
set_option maxHeartbeats 4000000 in
theorem tf_top (R : Nat → Pr) (n c0 g0 g8 g22 h8 c8 i : Nat) (gr : List Nat) (Bs : List Bks) (z6 z7 z14 z20 z21 z28 z29 z30 z32 z289 z290 z291 : Value) (w1 : World) (a : Act) (Q : Exit → Act → World → Prop)
    (ST : St w1 g0 g8 n h8 c8 (fun k => maskP (R k) k) Bs) (BG : Blk w1 g22 3 (frc gr)) (hgr : gr.length = n) (hi : i < n) (hn : n ≤ 7)
    (hs : a.tmps.size = 463) (hd : a.defers = []) (e0 : a.tmps[0]? = some (.slice (some ⟨g0, 0, none⟩) n c0)) (e6 : a.tmps[6]? = some (z6)) (e7 : a.tmps[7]? = some (z7)) (e8 : a.tmps[8]? = some (.pointer (some ⟨g8, 0, none⟩))) (e14 : a.tmps[14]? = some (z14)) (e20 : a.tmps[20]? = some (z20)) (e21 : a.tmps[21]? = some (z21)) (e22 : a.tmps[22]? = some (.slice (some ⟨g22, 0, none⟩) n n)) (e28 : a.tmps[28]? = some (z28)) (e29 : a.tmps[29]? = some (z29)) (e30 : a.tmps[30]? = some (z30)) (e31 : a.tmps[31]? = some (.int .i64 (i : Int))) (e32 : a.tmps[32]? = some (z32)) (e33 : a.tmps[33]? = some (.int .i64 (i : Int))) (e289 : a.tmps[289]? = some (z289)) (e290 : a.tmps[290]? = some (z290)) (e291 : a.tmps[291]? = some (z291))
    (hend : ∀ (a : Act) (w : World), a.tmps.size = 463 → a.defers = [] → a.tmps[0]? = some (.slice (some ⟨g0, 0, none⟩) n c0) → a.tmps[6]? = some (z6) → a.tmps[7]? = some (z7) → a.tmps[8]? = some (.pointer (some ⟨g8, 0, none⟩)) → a.tmps[14]? = some (z14) → a.tmps[20]? = some (z20) → a.tmps[21]? = some (z21) → a.tmps[22]? = some (.slice (some ⟨g22, 0, none⟩) n n) → a.tmps[28]? = some (z28) → a.tmps[29]? = some (z29) → a.tmps[30]? = some (z30) → a.tmps[31]? = some (.int .i64 (i : Int)) → a.tmps[32]? = some (z32) → a.tmps[33]? = some (.int .i64 (((topG (fun k => maskP (R k) k) gr i n) : Nat) : Int)) → a.tmps[289]? = some (z289) → a.tmps[290]? = some (z290) → a.tmps[291]? = some (z291) → Below w1.heap.size w1 w → Q .normal a w) :
    Code.wp Try.prog (sub [true, true, true, true, true, true, true, true, true, true, true, true, true, true, true, true, true, true, false, true, false, false, true, false, false, true, false, true, false, false, true, true, false, false, true, true, false] (bodyOf Try.f4)) Q a w1 := by
  have HEND := Lib.hid hend
  have HST := Lib.hid (And.intro ST BG)
  clear hend BG
  conv => arg 2; whnf
  refine wp_seq_k fun Kq1 hKq1 => ?_
  have hc8 := ST.box.cellOf (v := .slice (some ⟨h8, 0, none⟩) n c8) 0 rfl
  clear ST
  refine sm_list [8] 297 3 hs hd (by kernel_rfl) (agC e8 agN) rfl ?_
  simp only [seval]
  go_wp2_with fail
  intro a H; replace hs := H.s hs; replace hd := H.d rfl; replace e8 := H.g 8 rfl rfl; replace e0 := H.k e0 rfl; replace e6 := H.k e6 rfl; replace e7 := H.k e7 rfl; replace e14 := H.k e14 rfl; replace e20 := H.k e20 rfl; replace e21 := H.k e21 rfl; replace e22 := H.k e22 rfl; replace e28 := H.k e28 rfl; replace e29 := H.k e29 rfl; replace e30 := H.k e30 rfl; replace e31 := H.k e31 rfl; replace e32 := H.k e32 rfl; replace e33 := H.k e33 rfl; replace e289 := H.k e289 rfl; replace e290 := H.k e290 rfl; replace e291 := H.k e291 rfl
  have e298 := H.g 298 rfl rfl; have e299 := H.g 299 rfl rfl; clear H; refine hKq1 _ _ ?_; clear hKq1 Kq1; refine wp_block ?_; clear hc8
  refine wp_loop (fun a w => ∃ (k tp : Nat), k ≤ n ∧ tp = (topG (fun k => maskP (R k) k) gr i k) ∧ tp < n ∧ a.tmps.size = 463 ∧ a.defers = [] ∧ a.tmps[0]? = some (.slice (some ⟨g0, 0, none⟩) n c0) ∧ a.tmps[6]? = some (z6) ∧ a.tmps[7]? = some (z7) ∧ a.tmps[8]? = some (.pointer (some ⟨g8, 0, none⟩)) ∧ a.tmps[14]? = some (z14) ∧ a.tmps[20]? = some (z20) ∧ a.tmps[21]? = some (z21) ∧ a.tmps[22]? = some (.slice (some ⟨g22, 0, none⟩) n n) ∧ a.tmps[28]? = some (z28) ∧ a.tmps[29]? = some (z29) ∧ a.tmps[30]? = some (z30) ∧ a.tmps[31]? = some (.int .i64 (i : Int)) ∧ a.tmps[32]? = some (z32) ∧ a.tmps[289]? = some (z289) ∧ a.tmps[290]? = some (z290) ∧ a.tmps[291]? = some (z291) ∧ a.tmps[298]? = some (.int .i64 (n : Int)) ∧ a.tmps[33]? = some (.int .i64 (tp : Int)) ∧ a.tmps[299]? = some (.int .i64 (k : Int)) ∧ Below w1.heap.size w1 w) (fun a _ => n - (intOf (a.tmps.getD 299 undef)).toNat) ?_ ?_
  · exact ⟨0, i, Nat.zero_le _, rfl, hi, hs, hd, e0, e6, e7, e8, e14, e20, e21, e22, e28, e29, e30, e31, e32, e289, e290, e291, e298, e33, e299, Below.refl _ _⟩
  clear hs hd e33 e299 e0 e6 e7 e8 e14 e20 e21 e22 e28 e29 e30 e31 e32 e289 e290 e291 e298 a
  rintro a w4 ⟨k, tp, hk, htp, htn, hs, hd, e0, e6, e7, e8, e14, e20, e21, e22, e28, e29, e30, e31, e32, e289, e290, e291, e298, e33, e299, LL⟩
  have hm := slot e299
  have HTP := Lib.hid htp
  have HLL := Lib.hid LL
  clear htp LL; refine wp_seq_k fun Kq2 hKq2 => ?_
  by_cases hlt3 : k < n
  ·
    have dj : decide ((k : Int) < (n : Int)) = true := decide_eq_true (by omega)
    refine sm_list [298, 299] 300 1 hs hd (by kernel_rfl) (agC e298 (agC e299 agN)) rfl ?_
    simp only [seval]
    go_wp2_with fail
    intro a H; replace hs := H.s hs; replace hd := H.d rfl; replace e298 := H.g 298 rfl rfl; replace e299 := H.g 299 rfl rfl; replace e0 := H.k e0 rfl; replace e6 := H.k e6 rfl; replace e7 := H.k e7 rfl; replace e8 := H.k e8 rfl; replace e14 := H.k e14 rfl; replace e20 := H.k e20 rfl; replace e21 := H.k e21 rfl; replace e22 := H.k e22 rfl; replace e28 := H.k e28 rfl; replace e29 := H.k e29 rfl; replace e30 := H.k e30 rfl; replace e31 := H.k e31 rfl; replace e32 := H.k e32 rfl; replace e289 := H.k e289 rfl; replace e290 := H.k e290 rfl; replace e291 := H.k e291 rfl; replace e33 := H.k e33 rfl
    have e300 := H.g 300 rfl rfl; clear H; refine hKq2 _ _ ?_; clear hKq2 Kq2; refine wp_seq_k fun Kq3 hKq3 => ?_
    refine wp_cond_true (slotE e300) ?_
    clear e300; refine wp_skip ?_; refine hKq3 _ _ ?_; clear hKq3 Kq3; refine wp_seq_k fun Kq4 hKq4 => ?_; refine wp_block ?_; refine wp_seq_k fun Kq5 hKq5 => ?_
    refine sm_list [34, 299] 301 1 hs hd (by kernel_rfl) (agU (agC e299 agN)) rfl ?_
    simp only [seval]
    go_wp2_with fail
    intro a H; replace hs := H.s hs; replace hd := H.d rfl; replace e299 := H.g 299 rfl rfl; replace e0 := H.k e0 rfl; replace e6 := H.k e6 rfl; replace e7 := H.k e7 rfl; replace e8 := H.k e8 rfl; replace e14 := H.k e14 rfl; replace e20 := H.k e20 rfl; replace e21 := H.k e21 rfl; replace e22 := H.k e22 rfl; replace e28 := H.k e28 rfl; replace e29 := H.k e29 rfl; replace e30 := H.k e30 rfl; replace e31 := H.k e31 rfl; replace e32 := H.k e32 rfl; replace e289 := H.k e289 rfl; replace e290 := H.k e290 rfl; replace e291 := H.k e291 rfl; replace e298 := H.k e298 rfl; replace e33 := H.k e33 rfl
    have e34 := H.g 34 rfl rfl; clear H; refine hKq5 _ _ ?_; clear hKq5 Kq5; refine wp_seq_k fun Kq6 hKq6 => ?_; clear dj
    have hk0 : (0 : Int) ≤ (k : Int) := by omega
    have hk1 : (k : Int) < (n : Int) := by omega
    have hi0 : (0 : Int) ≤ (i : Int) := by omega
    have hi1 : (i : Int) < (n : Int) := by omega
    have ht0 : (0 : Int) ≤ (tp : Int) := by omega
    have ht1 : (tp : Int) < (n : Int) := by omega
    have hn7 : (n : Int) ≤ 7 := by omega
    have BG4 := HST.out.2.kept HLL.out; have PR4 := HST.out.1.pr.kept HLL.out
    have ck := frc_at (fr := gr) (i := k) (by omega)
    have ci := frc_at (fr := gr) (i := i) (by omega)
    obtain ⟨x, hx⟩ : ∃ x, x = frAt gr k := ⟨_, rfl⟩
    obtain ⟨y, hy⟩ : ∃ y, y = frAt gr i := ⟨_, rfl⟩
    rw [← hx] at ck
    rw [← hy] at ci
    have q0 := BG4.cellOf _ ck
    have q1 := BG4.cellOf _ ci
    have l22 := BG4.lt
    have l0 := PR4.lt
    have HXY := Lib.hid (And.intro hx hy)
    obtain ⟨pk, hpk⟩ : ∃ p, p = maskP (R k) k := ⟨_, rfl⟩
    obtain ⟨pt, hpt⟩ : ∃ p, p = maskP (R tp) tp := ⟨_, rfl⟩
    have HPK : Hid (∀ w', Below w4.heap.size w4 w' → ∀ (j : Nat) (v : Value), (#[.int .i64 pk.one, .int .i64 pk.cls, .int .i64 pk.two, .int .i64 pk.id] : Array Value).toList[j]? = some v → w'.cell? ((⟨g0, k * 4, none⟩ : Addr).add j) = some v) := Lib.hid fun w' hw j v hv => (PR4.kept hw).cellA hlt3 (by rw [hpk] at hv; exact hv)
    have HPT : Hid (∀ w', Below w4.heap.size w4 w' → ∀ (j : Nat) (v : Value), (#[.int .i64 pt.one, .int .i64 pt.cls, .int .i64 pt.two, .int .i64 pt.id] : Array Value).toList[j]? = some v → w'.cell? ((⟨g0, tp * 4, none⟩ : Addr).add j) = some v) := Lib.hid fun w' hw j v hv => (PR4.kept hw).cellA htn (by rw [hpt] at hv; exact hv)
    have HPP := Lib.hid (And.intro hpk hpt)
    have hcm := fun W => cmp_lit pk pt W
    clear hx hy hpk hpt ck ci BG4 PR4
    obtain ⟨B, hB⟩ : ∃ B, B = decide (x = y ∧ cmpP pk pt < 0) := ⟨_, rfl⟩
    have hcase : (((x : Int) == (y : Int)) = false ∧ (x == y) = false ∧ B = false) ∨ (x = y ∧ ((x : Int) == (y : Int)) = true ∧ (x == y) = true ∧ cmpP pk pt < 0 ∧ B = true) ∨ (x = y ∧ ((x : Int) == (y : Int)) = true ∧ (x == y) = true ∧ decide (cmpP pk pt < 0) = false ∧ B = false) := by
        rw [hB]; by_cases z1 : x = y <;> by_cases z2 : cmpP pk pt < 0 <;> simp [z1, z2]
        all_goals omega
    have HB := Lib.hid hB
    clear hB
    suffices HK : ∀ (a' : Act) (w5 : World), a'.tmps.size = a.tmps.size → a'.defers = [] → a'.tmps[0]? = a.tmps[0]? → a'.tmps[6]? = a.tmps[6]? → a'.tmps[7]? = a.tmps[7]? → a'.tmps[8]? = a.tmps[8]? → a'.tmps[14]? = a.tmps[14]? → a'.tmps[20]? = a.tmps[20]? → a'.tmps[21]? = a.tmps[21]? → a'.tmps[22]? = a.tmps[22]? → a'.tmps[28]? = a.tmps[28]? → a'.tmps[29]? = a.tmps[29]? → a'.tmps[30]? = a.tmps[30]? → a'.tmps[31]? = a.tmps[31]? → a'.tmps[32]? = a.tmps[32]? → a'.tmps[289]? = a.tmps[289]? → a'.tmps[290]? = a.tmps[290]? → a'.tmps[291]? = a.tmps[291]? → a'.tmps[298]? = a.tmps[298]? → a'.tmps[33]? = a.tmps[33]? → a'.tmps[299]? = a.tmps[299]? → a'.tmps[34]? = a.tmps[34]? → a'.tmps[322]? = some (.bool B) → Below w4.heap.size w4 w5 → Kq6 a' w5 by
      rcases hcase with ⟨k1, k2, rfl⟩ | ⟨k0, k1, k2, k3, rfl⟩ | ⟨k0, k1, k2, k3, rfl⟩
      all_goals
        refine sm_any [0, 22, 31, 33, 34] 302 21 (by kernel_rfl) hs hd (by kernel_rfl) (agC e0 (agC e22 (agC e31 (agC e33 (agC e34 agN))))) rfl (any_class (fun w' => Below w4.heap.size w4 w') (by kernel_rfl) ((Below.refl _ _).drew) ?_)
        simp only [seval]
        repeat (first | (with_reducible (refine wpQuiet_skip ?_ ?_); (first | exact wanted_off rfl rfl rfl rfl | exact wanted_off2 rfl rfl rfl); simp only [Act.put, List.setIfInBounds_toArray, List.set_cons_zero, List.set_cons_succ]) | (refine wpQuiet_val (v := .agg (#[.int .i64 pk.one, .int .i64 pk.cls, .int .i64 pk.two, .int .i64 pk.id])) ?_ (fun w' hw' => run_load_at 23 (.tmp 17) ⟨g0, k * 4, none⟩ rfl rfl (#[.int .i64 pk.one, .int .i64 pk.cls, .int .i64 pk.two, .int .i64 pk.id]) (HPK.out w' hw') Try.underlying23 rfl (by kernel_rfl)) ?_; (first | exact wanted_none rfl | exact wanted_on rfl rfl rfl); simp only [Act.put, List.setIfInBounds_toArray, List.set_cons_zero, List.set_cons_succ]) | (refine wpQuiet_val (v := .agg (#[.int .i64 pt.one, .int .i64 pt.cls, .int .i64 pt.two, .int .i64 pt.id])) ?_ (fun w' hw' => run_load_at 23 (.tmp 21) ⟨g0, tp * 4, none⟩ rfl rfl (#[.int .i64 pt.one, .int .i64 pt.cls, .int .i64 pt.two, .int .i64 pt.id]) (HPT.out w' hw') Try.underlying23 rfl (by kernel_rfl)) ?_; (first | exact wanted_none rfl | exact wanted_on rfl rfl rfl); simp only [Act.put, List.setIfInBounds_toArray, List.set_cons_zero, List.set_cons_succ]) | (with_reducible (refine wpQuiet_call (v := ?_) 18 ?_ ?_ ?_ ?_ ?_); rotate_left 2; (first | exact wanted_none rfl | exact wanted_on rfl rfl rfl); (intro w' hw'; obtain ⟨hc, hf⟩ := bcell hw'; go_simp; with_reducible rfl); (intro w' hw'; (with_reducible refine (hcm _).mono ?_); rintro e w2 ⟨rfl, hb⟩; refine ⟨?_, hw'.trans (hb.mono (by have h0 := hw'.size; first | omega | (simp at h0; omega)))⟩; with_reducible rfl); simp only [Act.put, List.setIfInBounds_toArray, List.set_cons_zero, List.set_cons_succ]) | (with_reducible (refine wpQuiet_val (v := ?_) ?_ ?_ ?_); rotate_left; (first | exact wanted_none rfl | exact wanted_on rfl rfl rfl); (intro w' hw'; obtain ⟨hc, hf⟩ := bcell hw'; go_simp; with_reducible rfl); simp only [Act.put, List.setIfInBounds_toArray, List.set_cons_zero, List.set_cons_succ]))
        refine wpQuiet_nil ?_
        intro w5 hw5
        all_goals
          intro a' H
          refine HK a' _ H.size H.defers ((H.got rfl rfl).trans e0.symm) (H.out 6 rfl) (H.out 7 rfl) (H.out 8 rfl) (H.out 14 rfl) (H.out 20 rfl) (H.out 21 rfl) ((H.got rfl rfl).trans e22.symm) (H.out 28 rfl) (H.out 29 rfl) (H.out 30 rfl) ((H.got rfl rfl).trans e31.symm) (H.out 32 rfl) (H.out 289 rfl) (H.out 290 rfl) (H.out 291 rfl) (H.out 298 rfl) ((H.got rfl rfl).trans e33.symm) (H.out 299 rfl) ((H.got rfl rfl).trans e34.symm) ?_ ?_
          · exact H.got rfl rfl
          · exact hw5
    intro a' w5 g_s g_d g0 g6 g7 g8 g14 g20 g21 g22 g28 g29 g30 g31 g32 g289 g290 g291 g298 g33 g299 g34 f322 hw5
    replace hs := g_s.trans hs; replace hd := g_d; replace e0 := g0.trans e0; replace e6 := g6.trans e6; replace e7 := g7.trans e7; replace e8 := g8.trans e8; replace e14 := g14.trans e14; replace e20 := g20.trans e20; replace e21 := g21.trans e21; replace e22 := g22.trans e22; replace e28 := g28.trans e28; replace e29 := g29.trans e29; replace e30 := g30.trans e30; replace e31 := g31.trans e31; replace e32 := g32.trans e32
    replace e289 := g289.trans e289; replace e290 := g290.trans e290; replace e291 := g291.trans e291; replace e298 := g298.trans e298; replace e33 := g33.trans e33; replace e299 := g299.trans e299; replace e34 := g34.trans e34; clear g_s g_d g0 g6 g7 g8 g14 g20 g21 g22 g28 g29 g30 g31 g32 g289 g290 g291 g298 g33 g299 g34
    have e322 := f322
    clear f322
    first | clear a | skip
    obtain ⟨a, rfl⟩ : ∃ a, a = a' := ⟨_, rfl⟩
    refine hKq6 _ _ ?_; clear hKq6 Kq6; have L5 := HLL.out.trans (hw5.mono HLL.out.size); clear hcase HLL hw5 HPK HPT hcm q0 q1 l22 l0
    have hgx : gAt gr k = x ∧ gAt gr i = y := ⟨HXY.out.1.symm, HXY.out.2.symm⟩
    have hnext : topG (fun k => maskP (R k) k) gr i (k + 1) = if x = y ∧ cmpP pk pt < 0 then k else tp := by
        show (if gAt gr k = gAt gr i ∧ cmpP (maskP (R k) k) (maskP (R (topG (fun k => maskP (R k) k) gr i k)) (topG (fun k => maskP (R k) k) gr i k)) < 0 then k else topG (fun k => maskP (R k) k) gr i k) = _
        rw [← HTP.out, hgx.1, hgx.2, HPP.out.1, HPP.out.2]
    have HNX := Lib.hid hnext
    clear hgx hnext
    by_cases hsk : x = y ∧ cmpP pk pt < 0
    · obtain rfl : B = true := HB.out.trans (decide_eq_true hsk)
      have hnx := HNX.out
      rw [if_pos hsk] at hnx
      have HNX2 := Lib.hid hnx
      clear hnx hsk HNX
      refine wp_cond_true (slotE e322) ?_
      clear e322
      refine sm_list [33, 34] 323 1 hs hd (by kernel_rfl) (agC e33 (agC e34 agN)) rfl ?_
      simp only [seval]
      go_wp2_with fail
      intro a H; replace hs := H.s hs; replace hd := H.d rfl; replace e34 := H.g 34 rfl rfl; replace e0 := H.k e0 rfl; replace e6 := H.k e6 rfl; replace e7 := H.k e7 rfl; replace e8 := H.k e8 rfl; replace e14 := H.k e14 rfl; replace e20 := H.k e20 rfl; replace e21 := H.k e21 rfl; replace e22 := H.k e22 rfl; replace e28 := H.k e28 rfl; replace e29 := H.k e29 rfl; replace e30 := H.k e30 rfl; replace e31 := H.k e31 rfl; replace e32 := H.k e32 rfl; replace e289 := H.k e289 rfl; replace e290 := H.k e290 rfl; replace e291 := H.k e291 rfl; replace e298 := H.k e298 rfl; replace e299 := H.k e299 rfl
      replace e33 := H.g 33 rfl rfl; clear H; refine hKq4 _ _ ?_; clear hKq4 Kq4; clear e34
      refine sm_list [299] 324 1 hs hd (by kernel_rfl) (agC e299 agN) rfl ?_
      simp only [seval]
      go_wp2_with fail
      intro a H; replace hs := H.s hs; replace hd := H.d rfl; replace e0 := H.k e0 rfl; replace e6 := H.k e6 rfl; replace e7 := H.k e7 rfl; replace e8 := H.k e8 rfl; replace e14 := H.k e14 rfl; replace e20 := H.k e20 rfl; replace e21 := H.k e21 rfl; replace e22 := H.k e22 rfl; replace e28 := H.k e28 rfl; replace e29 := H.k e29 rfl; replace e30 := H.k e30 rfl; replace e31 := H.k e31 rfl; replace e32 := H.k e32 rfl; replace e289 := H.k e289 rfl; replace e290 := H.k e290 rfl; replace e291 := H.k e291 rfl; replace e298 := H.k e298 rfl; replace e33 := H.k e33 rfl
      replace e299 := H.g 299 rfl rfl; clear H
      exact ⟨⟨k + 1, k, by omega, HNX2.out.symm, hlt3, hs, hd, e0, e6, e7, e8, e14, e20, e21, e22, e28, e29, e30, e31, e32, e289, e290, e291, e298, e33, e299, L5⟩, by first | (simp only [hm, slot e299, intOf]; omega) | (simp [hm, slot e299, intOf]; omega)⟩
    · obtain rfl : B = false := HB.out.trans (decide_eq_false hsk)
      have hnx := HNX.out
      rw [if_neg hsk] at hnx
      have HNX2 := Lib.hid hnx
      clear hnx hsk HNX
      refine wp_cond_false (slotE e322) ?_
      clear e322; refine wp_skip ?_; refine hKq4 _ _ ?_; clear hKq4 Kq4; clear e34
      refine sm_list [299] 324 1 hs hd (by kernel_rfl) (agC e299 agN) rfl ?_
      simp only [seval]
      go_wp2_with fail
      intro a H; replace hs := H.s hs; replace hd := H.d rfl; replace e0 := H.k e0 rfl; replace e6 := H.k e6 rfl; replace e7 := H.k e7 rfl; replace e8 := H.k e8 rfl; replace e14 := H.k e14 rfl; replace e20 := H.k e20 rfl; replace e21 := H.k e21 rfl; replace e22 := H.k e22 rfl; replace e28 := H.k e28 rfl; replace e29 := H.k e29 rfl; replace e30 := H.k e30 rfl; replace e31 := H.k e31 rfl; replace e32 := H.k e32 rfl; replace e289 := H.k e289 rfl; replace e290 := H.k e290 rfl; replace e291 := H.k e291 rfl; replace e298 := H.k e298 rfl; replace e33 := H.k e33 rfl
      replace e299 := H.g 299 rfl rfl; clear H
      exact ⟨⟨k + 1, tp, by omega, HNX2.out.symm, htn, hs, hd, e0, e6, e7, e8, e14, e20, e21, e22, e28, e29, e30, e31, e32, e289, e290, e291, e298, e33, e299, L5⟩, by first | (simp only [hm, slot e299, intOf]; omega) | (simp [hm, slot e299, intOf]; omega)⟩
  · have hkn : k = n := by omega
    have dj : decide ((k : Int) < (n : Int)) = false := decide_eq_false (by omega)
    have dj2 : decide (k < n) = false := decide_eq_false (by omega)
    clear hm
    refine sm_list [298, 299] 300 1 hs hd (by kernel_rfl) (agC e298 (agC e299 agN)) rfl ?_
    simp only [seval]
    go_wp2_with fail
    intro a H; replace hs := H.s hs; replace hd := H.d rfl; replace e298 := H.g 298 rfl rfl; replace e299 := H.g 299 rfl rfl; replace e0 := H.k e0 rfl; replace e6 := H.k e6 rfl; replace e7 := H.k e7 rfl; replace e8 := H.k e8 rfl; replace e14 := H.k e14 rfl; replace e20 := H.k e20 rfl; replace e21 := H.k e21 rfl; replace e22 := H.k e22 rfl; replace e28 := H.k e28 rfl; replace e29 := H.k e29 rfl; replace e30 := H.k e30 rfl; replace e31 := H.k e31 rfl; replace e32 := H.k e32 rfl; replace e289 := H.k e289 rfl; replace e290 := H.k e290 rfl; replace e291 := H.k e291 rfl; replace e33 := H.k e33 rfl
    have e300 := H.g 300 rfl rfl; clear H; refine hKq2 _ _ ?_; clear hKq2 Kq2; refine wp_seq_k fun Kq3 hKq3 => ?_
    refine wp_cond_false (slotE e300) ?_
    clear e300; refine wp_exit ?_; refine exit_then rfl ?_; clear hKq3 Kq3; refine exit_then rfl ?_; refine exit_hit ?_; have hf := HTP.out
    rw [hkn] at hf
    rw [hf] at e33
    exact HEND.out a w4 hs hd e0 e6 e7 e8 e14 e20 e21 e22 e28 e29 e30 e31 e32 e33 e289 e290 e291 HLL.out
end Go.Proofs.Ytcdgofndfajekaa
