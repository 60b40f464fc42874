/-
  TreeForms: each wire has one Master.
-/
import Derived.Test.YtcdgofndfajekaaFmT
namespace Go.Proofs.Ytcdgofndfajekaa
set_option linter.unusedSimpArgs false
set_option linter.unusedVariables false
open Go.RowKit Go.WideShapes Go.ChangeShapes
attribute [local go_sem ↓] Go.wp_at_zero Go.wp_at_succ

set_option maxRecDepth 100000 in
set_option maxHeartbeats 4000000 in
theorem tf_wires (R : Nat → Pr) (n c30 g0 g8 g14 h8 c8 h14 c14 now : Nat) (A30 : Addr) (W : List Wire) (F : List Nat) (Bs : List Bks) (L : List Tre) (PS : List (List Value)) (z0 z6 z7 z8 z20 z21 z22 z28 z29 : Value) (w0 w1 : World) (a : Act) (Q : Exit → Act → World → Prop)
    (SC : Sc w0 w1 g0 g8 g14 n h8 c8 h14 c14 (fun k => maskP (R k) k) W F Bs L PS) (RL : Rl w1 (turns Bs) A30 n (rolesF L (now : Int))) (FN : Fin (fun k => maskP (R k) k) n W (now : Int) L) (hn : 1 ≤ n ∧ n ≤ 7) (hW : W.length ≤ 12)
    (hs : a.tmps.size = 463) (hd : a.defers = []) (e0 : a.tmps[0]? = some (z0)) (e6 : a.tmps[6]? = some (z6)) (e7 : a.tmps[7]? = some (z7)) (e8 : a.tmps[8]? = some (z8)) (e14 : a.tmps[14]? = some (.pointer (some ⟨g14, 0, none⟩))) (e20 : a.tmps[20]? = some (z20)) (e21 : a.tmps[21]? = some (z21)) (e22 : a.tmps[22]? = some (z22)) (e28 : a.tmps[28]? = some (z28)) (e29 : a.tmps[29]? = some (z29)) (e30 : a.tmps[30]? = some (.slice (some A30) n c30))
    (hend : ∀ (a : Act) (w : World), a.tmps.size = 463 → a.defers = [] → a.tmps[0]? = some (z0) → a.tmps[6]? = some (z6) → a.tmps[7]? = some (z7) → a.tmps[8]? = some (z8) → a.tmps[14]? = some (.pointer (some ⟨g14, 0, none⟩)) → a.tmps[20]? = some (z20) → a.tmps[21]? = some (z21) → a.tmps[22]? = some (z22) → a.tmps[28]? = some (z28) → a.tmps[29]? = some (z29) → a.tmps[30]? = some (.slice (some A30) n c30) → Below w1.heap.size w1 w → Q .normal a w) :
    Code.wp Try.prog (sub [true, true, true, true, true, true, true, true, true, true, true, true, true, true, true, true, true, true, false, true, false, false, true, false, false, true, true, false] (bodyOf Try.f4)) Q a w1 := by
  have HEND := Lib.hid hend
  have HSC := Lib.hid (And.intro SC (And.intro RL FN))
  clear hend RL FN
  conv => arg 2; whnf
  refine wp_seq_k fun Kq1 hKq1 => ?_
  have hc14 := SC.wr.box14.cellOf (v := .slice (some ⟨h14, 0, none⟩) W.length c14) 0 rfl
  clear SC
  refine sm_list [14] 384 3 hs hd (by kernel_rfl) (agC e14 agN) rfl ?_
  simp only [seval]
  go_wp2_with fail
  intro a H; replace hs := H.s hs; replace hd := H.d rfl; replace e14 := H.g 14 rfl rfl; replace e0 := H.k e0 rfl; replace e6 := H.k e6 rfl; replace e7 := H.k e7 rfl; replace e8 := H.k e8 rfl; replace e20 := H.k e20 rfl; replace e21 := H.k e21 rfl; replace e22 := H.k e22 rfl; replace e28 := H.k e28 rfl; replace e29 := H.k e29 rfl; replace e30 := H.k e30 rfl; have e384 := H.g 384 rfl rfl; have e385 := H.g 385 rfl rfl
  have e386 := H.g 386 rfl rfl; clear H; refine hKq1 _ _ ?_; clear hKq1 Kq1; refine wp_block ?_; clear hc14
  refine wp_loop (fun a w => ∃ (j : Nat), j ≤ W.length ∧ a.tmps.size = 463 ∧ a.defers = [] ∧ a.tmps[0]? = some (z0) ∧ a.tmps[6]? = some (z6) ∧ a.tmps[7]? = some (z7) ∧ a.tmps[8]? = some (z8) ∧ a.tmps[14]? = some (.pointer (some ⟨g14, 0, none⟩)) ∧ a.tmps[20]? = some (z20) ∧ a.tmps[21]? = some (z21) ∧ a.tmps[22]? = some (z22) ∧ a.tmps[28]? = some (z28) ∧ a.tmps[29]? = some (z29) ∧ a.tmps[30]? = some (.slice (some A30) n c30) ∧ a.tmps[384]? = some (.slice (some ⟨h14, 0, none⟩) W.length c14) ∧ a.tmps[385]? = some (.int .i64 (W.length : Int)) ∧ a.tmps[386]? = some (.int .i64 (j : Int)) ∧ Below w1.heap.size w1 w) (fun a _ => W.length - (intOf (a.tmps.getD 386 undef)).toNat) ?_ ?_
  · exact ⟨0, Nat.zero_le _, hs, hd, e0, e6, e7, e8, e14, e20, e21, e22, e28, e29, e30, e384, e385, e386, Below.refl _ _⟩
  clear hs hd e386 e0 e6 e7 e8 e14 e20 e21 e22 e28 e29 e30 e384 e385 a
  rintro a w4 ⟨j, hj, hs, hd, e0, e6, e7, e8, e14, e20, e21, e22, e28, e29, e30, e384, e385, e386, LL⟩
  have hm := slot e386
  have HLL := Lib.hid LL
  clear LL; refine wp_seq_k fun Kq2 hKq2 => ?_
  by_cases hlt3 : j < W.length
  ·
    have dj : decide ((j : Int) < (W.length : Int)) = true := decide_eq_true (by omega)
    have hj0 : (0 : Int) ≤ (j : Int) := by omega
    have hj1 : (j : Int) < (W.length : Int) := by omega
    have hjw : (W.length : Int) ≤ 12 := by omega
    obtain ⟨x, hx⟩ : ∃ x, W[j]? = some x := ⟨_, List.getElem?_eq_getElem hlt3⟩
    have HX := Lib.hid hx
    have S4 := HSC.out.1.kept HLL.out
    have hc : ∀ (r : Nat) (v : Value), (wcs4 x).toArray.toList[r]? = some v → w4.cell? ((⟨h14, j * 4, none⟩ : Addr).add r) = some v := fun r v hv => by
        have h := S4.wr.wrs j r x v hx (by simpa using hv)
        have e1 : (⟨h14, 0, none⟩ : Addr).add (j * 4 + r) = (⟨h14, j * 4, none⟩ : Addr).add r := by
          unfold Addr.add; by_cases h0 : r = 0 <;> by_cases h2 : j * 4 = 0 <;> simp [h0, h2] <;> omega
        rw [← e1]; exact h
    have HC := Lib.hid hc
    clear hx hc S4
    refine sm_list [385, 386] 387 1 hs hd (by kernel_rfl) (agC e385 (agC e386 agN)) rfl ?_
    simp only [seval]
    go_wp2_with fail
    intro a H; replace hs := H.s hs; replace hd := H.d rfl; replace e385 := H.g 385 rfl rfl; replace e386 := H.g 386 rfl rfl; replace e0 := H.k e0 rfl; replace e6 := H.k e6 rfl; replace e7 := H.k e7 rfl; replace e8 := H.k e8 rfl; replace e14 := H.k e14 rfl; replace e20 := H.k e20 rfl; replace e21 := H.k e21 rfl; replace e22 := H.k e22 rfl; replace e28 := H.k e28 rfl; replace e29 := H.k e29 rfl; replace e30 := H.k e30 rfl; replace e384 := H.k e384 rfl
    have e387 := H.g 387 rfl rfl; clear H; refine hKq2 _ _ ?_; clear hKq2 Kq2; refine wp_seq_k fun Kq3 hKq3 => ?_
    refine wp_cond_true (slotE e387) ?_
    clear e387; refine wp_skip ?_; refine hKq3 _ _ ?_; clear hKq3 Kq3; refine wp_seq_k fun Kq4 hKq4 => ?_; refine wp_block ?_; refine wp_seq_k fun Kq5 hKq5 => ?_
    refine sm_list [41, 384, 386] 388 2 hs hd (by kernel_rfl) (agU (agC e384 (agC e386 agN))) rfl ?_
    simp only [seval]
    go_wp2_with (first | (refine wpList_load_any_d rfl 66 (.tmp 3) rfl ⟨h14, j * 4, none⟩ rfl (wcs4 x).toArray _ HC.out Try.underlying66 rfl (by kernel_rfl) ?_) | (refine wpList_store_new rfl 66 (.tmp 0) (.tmp 4) rfl rfl rfl rfl rfl (by kernel_rfl) (by rw [← Array.all_toList]; rfl) ?_) | fail)
    intro a H; replace hs := H.s hs; replace hd := H.d rfl; replace e384 := H.g 384 rfl rfl; replace e386 := H.g 386 rfl rfl; replace e0 := H.k e0 rfl; replace e6 := H.k e6 rfl; replace e7 := H.k e7 rfl; replace e8 := H.k e8 rfl; replace e14 := H.k e14 rfl; replace e20 := H.k e20 rfl; replace e21 := H.k e21 rfl; replace e22 := H.k e22 rfl; replace e28 := H.k e28 rfl; replace e29 := H.k e29 rfl; replace e30 := H.k e30 rfl; replace e385 := H.k e385 rfl
    have e41 := H.g 41 rfl rfl; clear H; refine hKq5 _ _ ?_; clear hKq5 Kq5; refine wp_seq_k fun Kq6 hKq6 => ?_
    have L5 : Below w4.heap.size w4 (w4.alloc (.cells (wcs4 x).toArray 66)) := (Below.refl _ _).alloc (Nat.le_refl _) _
    have B41 := Blk.new w4 66 (wcs4 x).toArray
    have LL5 := HLL.out.trans (L5.mono HLL.out.size)
    obtain ⟨g41, hg41⟩ : ∃ g, g = w4.heap.size := ⟨_, rfl⟩
    rw [← hg41] at B41 e41
    generalize (w4.alloc (.cells (wcs4 x).toArray 66)) = w5 at *
    clear hg41 L5 HLL HC dj
    obtain ⟨xa, hxa⟩ : ∃ q, q = x.1.1 := ⟨_, rfl⟩
    obtain ⟨xp, hxp⟩ : ∃ q, q = x.1.2 := ⟨_, rfl⟩
    obtain ⟨ya, hya⟩ : ∃ q, q = x.2.1 := ⟨_, rfl⟩
    obtain ⟨yp, hyp⟩ : ∃ q, q = x.2.2 := ⟨_, rfl⟩
    have hmem := List.mem_of_getElem? HX.out
    have hwi := HSC.out.2.2.net.within x hmem; have hpo := HSC.out.2.2.net.ports x hmem
    rw [← hxa, ← hya] at hwi
    rw [← hxp, ← hyp] at hpo
    obtain ⟨hxan, hyan⟩ := hwi
    obtain ⟨hxp8, hyp8⟩ := hpo
    have x0 := B41.cellOf (v := .int .i64 (xa : Int)) 0 (by rw [hxa]; rfl)
    have x1 := B41.cellOf (v := .int .i64 (xp : Int)) 1 (by rw [hxp]; rfl)
    have x2 := B41.cellOf (v := .int .i64 (ya : Int)) 2 (by rw [hya]; rfl)
    have x3 := B41.cellOf (v := .int .i64 (yp : Int)) 3 (by rw [hyp]; rfl)
    have l41 := B41.lt
    have hl : Link W (xa, xp) (ya, yp) := ⟨x, hmem, .inl ⟨by rw [hxa, hxp], by rw [hya, hyp]⟩⟩
    have RL5 := HSC.out.2.1.kept LL5
    obtain ⟨ra, hra⟩ : ∃ r, r = rolesF L (now : Int) xa xp := ⟨_, rfl⟩
    obtain ⟨rb, hrb⟩ : ∃ r, r = rolesF L (now : Int) ya yp := ⟨_, rfl⟩
    have hcase : (ra = 1 ∧ rb = 2) ∨ (ra = 1 ∧ rb = 3) ∨ (ra = 2 ∧ rb = 1) ∨ (ra = 3 ∧ rb = 1) := by
        have FN := HSC.out.2.2
        obtain ⟨t, ht, _⟩ := FN.inv.sys.tre hxan
        obtain ⟨u, hu, _⟩ := FN.inv.sys.tre hyan
        have hb := topG_best FN.who FN.net.within hxan
        rw [hra, hrb, rolesF_at ht, rolesF_at hu]
        rcases FN.wire hb.1 hl hb.2 ht hu with ⟨h1, h2 | h2⟩ | ⟨h1 | h1, h2⟩
        · exact .inl ⟨h1, h2⟩
        · exact .inr (.inl ⟨h1, h2⟩)
        · exact .inr (.inr (.inl ⟨h1, h2⟩))
        · exact .inr (.inr (.inr ⟨h1, h2⟩))
    obtain ⟨ga, ca, ha1, ha2, _, ha4⟩ := RL5.row xa hxan
    obtain ⟨gb, cb, hb1, hb2, _, hb4⟩ := RL5.row ya hyan
    have ha5 := ha4 xp hxp8
    have hb5 := hb4 yp hyp8
    rw [← hra] at ha5
    rw [← hrb] at hb5
    have hA : Hid (A30.block < w5.heap.size) := Lib.hid RL5.lt
    have a0 : (0 : Int) ≤ (xa : Int) := by omega
    have a1 : (xa : Int) < (n : Int) := by omega
    have b0 : (0 : Int) ≤ (ya : Int) := by omega
    have b1 : (ya : Int) < (n : Int) := by omega
    have p0 : (0 : Int) ≤ (xp : Int) := by omega
    have p1 : (xp : Int) < 8 := by omega
    have q0 : (0 : Int) ≤ (yp : Int) := by omega
    have q1 : (yp : Int) < 8 := by omega
    have hall : Hid (∀ w', Below w5.heap.size w5 w' → w'.cell? (A30.add xa) = some (.slice (some ⟨ga, 0, none⟩) 8 ca) ∧ w'.cell? (A30.add ya) = some (.slice (some ⟨gb, 0, none⟩) 8 cb)) := Lib.hid fun w' hw => ⟨by rw [hw.cell (by rw [block_of_add]; exact hA.out)]; exact ha1, by rw [hw.cell (by rw [block_of_add]; exact hA.out)]; exact hb1⟩
    have HL5 := Lib.hid LL5
    have hcs := Lib.hid hcase
    clear hcase hl hmem RL5 hra hrb ha1 ha4 hb1 hb4 LL5 hxa hxp hya hyp B41 HX
    refine sm_any [30, 41, 42] 390 11 (by kernel_rfl) hs hd (by kernel_rfl) (agC e30 (agC e41 (agU agN))) rfl (any_class (fun w' => Below w5.heap.size w5 w') (by kernel_rfl) ((Below.refl _ _).drew) ?_)
    simp only [seval]
    iterate 12 (with_reducible (refine wpQuiet_val (v := ?_) ?_ ?_ ?_); rotate_left; (first | exact wanted_none rfl | exact wanted_on rfl rfl rfl); (intro w' hw'; have hq2 := hall.out w' hw'; obtain ⟨hqa, hqb⟩ := hq2; obtain ⟨hc, hf⟩ := bcell hw'; go_simp; with_reducible rfl); simp only [Act.put, List.setIfInBounds_toArray, List.set_cons_zero, List.set_cons_succ])
    refine wpQuiet_nil ?_
    intro w6 hw6
    intro a H; replace hs := H.s hs; replace hd := H.d rfl; replace e30 := H.g 30 rfl rfl; replace e41 := H.g 41 rfl rfl; replace e0 := H.k e0 rfl; replace e6 := H.k e6 rfl; replace e7 := H.k e7 rfl; replace e8 := H.k e8 rfl; replace e14 := H.k e14 rfl; replace e20 := H.k e20 rfl; replace e21 := H.k e21 rfl; replace e22 := H.k e22 rfl; replace e28 := H.k e28 rfl; replace e29 := H.k e29 rfl; replace e384 := H.k e384 rfl; replace e385 := H.k e385 rfl; replace e386 := H.k e386 rfl
    have e42 := H.g 42 rfl rfl; clear H; refine hKq6 _ _ ?_; clear hKq6 Kq6; refine wp_seq_k fun Kq7 hKq7 => ?_
    have HW6 := Lib.hid hw6
    have l41b : g41 < w6.heap.size := Nat.lt_of_lt_of_le l41 hw6.size
    have gb6 : gb < w6.heap.size := Nat.lt_of_lt_of_le hb2 hw6.size
    have z2 : w6.cell? ⟨g41, 2, none⟩ = some (.int .i64 (ya : Int)) := ((bcell hw6).1 _ _ l41).trans x2
    have z3 : w6.cell? ⟨g41, 3, none⟩ = some (.int .i64 (yp : Int)) := ((bcell hw6).1 _ _ l41).trans x3
    have z5 : w6.cell? ⟨gb, yp, none⟩ = some (.int .i64 rb) := ((bcell hw6).1 _ _ hb2).trans hb5
    have hall6 : Hid (∀ w', Below w6.heap.size w6 w' → w'.cell? (A30.add xa) = some (.slice (some ⟨ga, 0, none⟩) 8 ca) ∧ w'.cell? (A30.add ya) = some (.slice (some ⟨gb, 0, none⟩) 8 cb)) := Lib.hid fun w' hw => hall.out w' (HW6.out.trans (hw.mono HW6.out.size))
    clear hw6 x0 x1 x2 x3 ha5 hb5 l41 ha2 hb2 hA
    refine sm_any [30, 41, 43] 401 11 (by kernel_rfl) hs hd (by kernel_rfl) (agC e30 (agC e41 (agU agN))) rfl (any_class (fun w' => Below w6.heap.size w6 w') (by kernel_rfl) ((Below.refl _ _).drew) ?_)
    simp only [seval]
    iterate 12 (with_reducible (refine wpQuiet_val (v := ?_) ?_ ?_ ?_); rotate_left; (first | exact wanted_none rfl | exact wanted_on rfl rfl rfl); (intro w' hw'; have hq2 := hall6.out w' hw'; obtain ⟨hqa, hqb⟩ := hq2; obtain ⟨hc, hf⟩ := bcell hw'; go_simp; with_reducible rfl); simp only [Act.put, List.setIfInBounds_toArray, List.set_cons_zero, List.set_cons_succ])
    refine wpQuiet_nil ?_
    intro w7 hw7
    intro a H; replace hs := H.s hs; replace hd := H.d rfl; replace e30 := H.g 30 rfl rfl; replace e41 := H.g 41 rfl rfl; replace e0 := H.k e0 rfl; replace e6 := H.k e6 rfl; replace e7 := H.k e7 rfl; replace e8 := H.k e8 rfl; replace e14 := H.k e14 rfl; replace e20 := H.k e20 rfl; replace e21 := H.k e21 rfl; replace e22 := H.k e22 rfl; replace e28 := H.k e28 rfl; replace e29 := H.k e29 rfl; replace e384 := H.k e384 rfl; replace e385 := H.k e385 rfl; replace e386 := H.k e386 rfl; replace e42 := H.k e42 rfl
    have e43 := H.g 43 rfl rfl; clear H; refine hKq7 _ _ ?_; clear hKq7 Kq7; refine wp_seq_k fun Kq8 hKq8 => ?_; have L7 := HL5.out.trans ((HW6.out.trans (hw7.mono HW6.out.size)).mono HL5.out.size)
    have hcase := hcs.out
    clear z2 z3 z5 hall6 hall HW6 hw7 HL5 hcs l41b gb6; clear e41
    suffices HK : ∀ (a' : Act), a'.tmps.size = a.tmps.size → a'.defers = [] → a'.tmps[0]? = a.tmps[0]? → a'.tmps[6]? = a.tmps[6]? → a'.tmps[7]? = a.tmps[7]? → a'.tmps[8]? = a.tmps[8]? → a'.tmps[14]? = a.tmps[14]? → a'.tmps[20]? = a.tmps[20]? → a'.tmps[21]? = a.tmps[21]? → a'.tmps[22]? = a.tmps[22]? → a'.tmps[28]? = a.tmps[28]? → a'.tmps[29]? = a.tmps[29]? → a'.tmps[30]? = a.tmps[30]? → a'.tmps[384]? = a.tmps[384]? → a'.tmps[385]? = a.tmps[385]? → a'.tmps[386]? = a.tmps[386]? → a'.tmps[42]? = a.tmps[42]? → a'.tmps[43]? = a.tmps[43]? → a'.tmps[424]? = some (.bool false) → Kq8 a' w7 by
      rcases hcase with ⟨rfl, rfl⟩ | ⟨rfl, rfl⟩ | ⟨rfl, rfl⟩ | ⟨rfl, rfl⟩
      all_goals
        refine sm_list [42, 43] 412 13 hs hd (by kernel_rfl) (agC e42 (agC e43 agN)) rfl ?_
        simp only [seval]
        go_wp2_with fail
        all_goals
          intro a' H
          refine HK a' H.size H.defers (H.out 0 rfl) (H.out 6 rfl) (H.out 7 rfl) (H.out 8 rfl) (H.out 14 rfl) (H.out 20 rfl) (H.out 21 rfl) (H.out 22 rfl) (H.out 28 rfl) (H.out 29 rfl) (H.out 30 rfl) (H.out 384 rfl) (H.out 385 rfl) (H.out 386 rfl) ((H.got rfl rfl).trans e42.symm) ((H.got rfl rfl).trans e43.symm) ?_
          · exact H.got rfl rfl
    intro a' g_s g_d g0 g6 g7 g8 g14 g20 g21 g22 g28 g29 g30 g384 g385 g386 g42 g43 f424
    replace hs := g_s.trans hs; replace hd := g_d; replace e0 := g0.trans e0; replace e6 := g6.trans e6; replace e7 := g7.trans e7; replace e8 := g8.trans e8; replace e14 := g14.trans e14; replace e20 := g20.trans e20; replace e21 := g21.trans e21; replace e22 := g22.trans e22; replace e28 := g28.trans e28; replace e29 := g29.trans e29; replace e30 := g30.trans e30; replace e384 := g384.trans e384
    replace e385 := g385.trans e385; replace e386 := g386.trans e386; replace e42 := g42.trans e42; replace e43 := g43.trans e43; clear g_s g_d g0 g6 g7 g8 g14 g20 g21 g22 g28 g29 g30 g384 g385 g386 g42 g43
    have e424 := f424
    clear f424
    first | clear a | skip
    obtain ⟨a, rfl⟩ : ∃ a, a = a' := ⟨_, rfl⟩
    refine hKq8 _ _ ?_; clear hKq8 Kq8; clear hcase
    refine wp_cond_false (slotE e424) ?_
    clear e424; refine wp_skip ?_; refine hKq4 _ _ ?_; clear hKq4 Kq4; clear e42; clear e43
    refine sm_list [386] 425 1 hs hd (by kernel_rfl) (agC e386 agN) rfl ?_
    simp only [seval]
    go_wp2_with fail
    intro a H; replace hs := H.s hs; replace hd := H.d rfl; replace e0 := H.k e0 rfl; replace e6 := H.k e6 rfl; replace e7 := H.k e7 rfl; replace e8 := H.k e8 rfl; replace e14 := H.k e14 rfl; replace e20 := H.k e20 rfl; replace e21 := H.k e21 rfl; replace e22 := H.k e22 rfl; replace e28 := H.k e28 rfl; replace e29 := H.k e29 rfl; replace e30 := H.k e30 rfl; replace e384 := H.k e384 rfl; replace e385 := H.k e385 rfl
    replace e386 := H.g 386 rfl rfl; clear H
    exact ⟨⟨j + 1, by omega, hs, hd, e0, e6, e7, e8, e14, e20, e21, e22, e28, e29, e30, e384, e385, e386, L7⟩, by first | (simp only [hm, slot e386, intOf]; omega) | (simp [hm, slot e386, intOf]; omega)⟩
  · have hkn : j = W.length := by omega
    have dj : decide ((j : Int) < (W.length : Int)) = false := decide_eq_false (by omega)
    have dj2 : decide (j < W.length) = false := decide_eq_false (by omega)
    clear hm
    refine sm_list [385, 386] 387 1 hs hd (by kernel_rfl) (agC e385 (agC e386 agN)) rfl ?_
    simp only [seval]
    go_wp2_with fail
    intro a H; replace hs := H.s hs; replace hd := H.d rfl; replace e385 := H.g 385 rfl rfl; replace e386 := H.g 386 rfl rfl; replace e0 := H.k e0 rfl; replace e6 := H.k e6 rfl; replace e7 := H.k e7 rfl; replace e8 := H.k e8 rfl; replace e14 := H.k e14 rfl; replace e20 := H.k e20 rfl; replace e21 := H.k e21 rfl; replace e22 := H.k e22 rfl; replace e28 := H.k e28 rfl; replace e29 := H.k e29 rfl; replace e30 := H.k e30 rfl; replace e384 := H.k e384 rfl
    have e387 := H.g 387 rfl rfl; clear H; refine hKq2 _ _ ?_; clear hKq2 Kq2; refine wp_seq_k fun Kq3 hKq3 => ?_
    refine wp_cond_false (slotE e387) ?_
    clear e387; refine wp_exit ?_; refine exit_then rfl ?_; clear hKq3 Kq3; refine exit_then rfl ?_; refine exit_hit ?_
    exact HEND.out a w4 hs hd e0 e6 e7 e8 e14 e20 e21 e22 e28 e29 e30 HLL.out
end Go.Proofs.Ytcdgofndfajekaa
