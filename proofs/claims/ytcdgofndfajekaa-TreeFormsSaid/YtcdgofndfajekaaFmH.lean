/-
  TreeForms: each clock is asked.
-/
import Derived.Test.YtcdgofndfajekaaFmF
import Derived.Test.YtcdgofndfajekaaFmG
namespace Go.Proofs.Ytcdgofndfajekaa
set_option linter.unusedSimpArgs false
set_option linter.unusedVariables false
open Go.RowKit Go.WideShapes Go.ChangeShapes
attribute [local go_sem ↓] Go.wp_at_zero Go.wp_at_succ

set_option maxRecDepth 100000 in
set_option maxHeartbeats 4000000 in
theorem tf_tops (R : Nat → Pr) (n c0 g0 g8 g14 g22 h8 c8 h14 c14 now : Nat) (W : List Wire) (F : List Nat) (Bs : List Bks) (L : List Tre) (PS : List (List Value)) (z6 z7 z14 z20 z28 z29 : Value) (v30 : Value) (w0 wT w1 : World) (a : Act) (Q : Exit → Act → World → Prop)
    (SC : Sc w0 wT g0 g8 g14 n h8 c8 h14 c14 (fun k => maskP (R k) k) W F Bs L PS) (BG : Blk wT g22 3 (frc (gTimes W n (List.range n)))) (FN : Fin (fun k => maskP (R k) k) n W (now : Int) L) (hn : 1 ≤ n ∧ n ≤ 7) (hb : Below wT.heap.size wT w1) (own : w1.ownsRow wT.heap.size 32 1 v30 0 [])
    (hs : a.tmps.size = 463) (hd : a.defers = []) (e0 : a.tmps[0]? = some (.slice (some ⟨g0, 0, none⟩) n c0)) (e6 : a.tmps[6]? = some (z6)) (e7 : a.tmps[7]? = some (z7)) (e8 : a.tmps[8]? = some (.pointer (some ⟨g8, 0, none⟩))) (e14 : a.tmps[14]? = some (z14)) (e20 : a.tmps[20]? = some (z20)) (e21 : a.tmps[21]? = some (.int .i64 (now : Int))) (e22 : a.tmps[22]? = some (.slice (some ⟨g22, 0, none⟩) n n)) (e28 : a.tmps[28]? = some (z28)) (e29 : a.tmps[29]? = some (z29)) (e30 : a.tmps[30]? = some v30)
    (hend : ∀ (a : Act) (w : World) (v30 : Value) (vs : List Value), a.tmps.size = 463 → a.defers = [] → a.tmps[0]? = some (.slice (some ⟨g0, 0, none⟩) n c0) → a.tmps[6]? = some (z6) → a.tmps[7]? = some (z7) → a.tmps[8]? = some (.pointer (some ⟨g8, 0, none⟩)) → a.tmps[14]? = some (z14) → a.tmps[20]? = some (z20) → a.tmps[21]? = some (.int .i64 (now : Int)) → a.tmps[22]? = some (.slice (some ⟨g22, 0, none⟩) n n) → a.tmps[28]? = some (z28) → a.tmps[29]? = some (z29) → a.tmps[30]? = some v30 → Below wT.heap.size wT w → w.ownsRow wT.heap.size 32 1 v30 n vs → Rws w wT.heap.size vs (rolesF L (now : Int)) → Q .normal a w) :
    Code.wp Try.prog (sub [true, true, true, true, true, true, true, true, true, true, true, true, true, true, true, true, true, true, false, true, false, false, true, false, false, true, false] (bodyOf Try.f4)) Q a w1 := by
  have HEND := Lib.hid hend
  have HSC := Lib.hid (And.intro SC (And.intro BG FN))
  clear hend SC BG FN
  conv => arg 2; whnf
  refine wp_seq_k fun Kq1 hKq1 => ?_
  have hc8 := (HSC.out.1.kept hb).st.box.cellOf (v := .slice (some ⟨h8, 0, none⟩) n c8) 0 rfl
  refine sm_list [8] 289 3 hs hd (by kernel_rfl) (agC e8 agN) rfl ?_
  simp only [seval]
  go_wp2_with fail
  intro a H; replace hs := H.s hs; replace hd := H.d rfl; replace e8 := H.g 8 rfl rfl; replace e0 := H.k e0 rfl; replace e6 := H.k e6 rfl; replace e7 := H.k e7 rfl; replace e14 := H.k e14 rfl; replace e20 := H.k e20 rfl; replace e21 := H.k e21 rfl; replace e22 := H.k e22 rfl; replace e28 := H.k e28 rfl; replace e29 := H.k e29 rfl; replace e30 := H.k e30 rfl; have e289 := H.g 289 rfl rfl; have e290 := H.g 290 rfl rfl
  have e291 := H.g 291 rfl rfl; clear H; refine hKq1 _ _ ?_; clear hKq1 Kq1; refine wp_block ?_; clear hc8
  refine wp_loop (fun a w => ∃ (i : Nat) (v30 : Value) (vs : List Value), i ≤ n ∧ a.tmps.size = 463 ∧ a.defers = [] ∧ a.tmps[0]? = some (.slice (some ⟨g0, 0, none⟩) n c0) ∧ a.tmps[6]? = some (z6) ∧ a.tmps[7]? = some (z7) ∧ a.tmps[8]? = some (.pointer (some ⟨g8, 0, none⟩)) ∧ a.tmps[14]? = some (z14) ∧ a.tmps[20]? = some (z20) ∧ a.tmps[21]? = some (.int .i64 (now : Int)) ∧ a.tmps[22]? = some (.slice (some ⟨g22, 0, none⟩) n n) ∧ a.tmps[28]? = some (z28) ∧ a.tmps[29]? = some (z29) ∧ a.tmps[289]? = some (.slice (some ⟨h8, 0, none⟩) n c8) ∧ a.tmps[290]? = some (.int .i64 (n : Int)) ∧ a.tmps[30]? = some v30 ∧ a.tmps[291]? = some (.int .i64 (i : Int)) ∧ Below wT.heap.size wT w ∧ w.ownsRow wT.heap.size 32 1 v30 i vs ∧ Hid (Rws w wT.heap.size vs (rolesF L (now : Int)))) (fun a _ => n - (intOf (a.tmps.getD 291 undef)).toNat) ?_ ?_
  · exact ⟨0, v30, [], Nat.zero_le _, hs, hd, e0, e6, e7, e8, e14, e20, e21, e22, e28, e29, e289, e290, e30, e291, hb, own, Lib.hid (Rws.nil _ _ _)⟩
  clear hs hd e30 e291 e0 e6 e7 e8 e14 e20 e21 e22 e28 e29 e289 e290 a hb own v30
  rintro a w4 ⟨i, v30, vs, hi, hs, hd, e0, e6, e7, e8, e14, e20, e21, e22, e28, e29, e289, e290, e30, e291, hb, own, RW⟩
  have hm := slot e291
  refine wp_seq_k fun Kq2 hKq2 => ?_
  by_cases hlt3 : i < n
  ·
    have dj : decide ((i : Int) < (n : Int)) = true := decide_eq_true (by omega)
    have hi0 : (0 : Int) ≤ (i : Int) := by omega
    have hi1 : (i : Int) < (n : Int) := by omega
    have hn7 : (n : Int) ≤ 7 := by omega
    have S4 := HSC.out.1.kept hb
    obtain ⟨t, ht, tok⟩ := HSC.out.2.2.inv.sys.tre hlt3
    obtain ⟨b, ps, hbb, hps, T4⟩ := S4.nt.get ht
    have yp := S4.st.pt hbb
    have HQ := Lib.hid (And.intro ht (And.intro hbb (And.intro hps tok)))
    have HS4 := Lib.hid S4
    have HB := Lib.hid hb
    have HO := Lib.hid own
    clear S4 ht hbb hps T4 tok hb own
    refine sm_list [290, 291] 292 1 hs hd (by kernel_rfl) (agC e290 (agC e291 agN)) rfl ?_
    simp only [seval]
    go_wp2_with fail
    intro a H; replace hs := H.s hs; replace hd := H.d rfl; replace e290 := H.g 290 rfl rfl; replace e291 := H.g 291 rfl rfl; replace e0 := H.k e0 rfl; replace e6 := H.k e6 rfl; replace e7 := H.k e7 rfl; replace e8 := H.k e8 rfl; replace e14 := H.k e14 rfl; replace e20 := H.k e20 rfl; replace e21 := H.k e21 rfl; replace e22 := H.k e22 rfl; replace e28 := H.k e28 rfl; replace e29 := H.k e29 rfl; replace e289 := H.k e289 rfl; replace e30 := H.k e30 rfl
    have e292 := H.g 292 rfl rfl; clear H; refine hKq2 _ _ ?_; clear hKq2 Kq2; refine wp_seq_k fun Kq3 hKq3 => ?_
    refine wp_cond_true (slotE e292) ?_
    clear e292; refine wp_skip ?_; refine hKq3 _ _ ?_; clear hKq3 Kq3; refine wp_seq_k fun Kq4 hKq4 => ?_; refine wp_block ?_; refine wp_seq_k fun Kq5 hKq5 => ?_
    refine sm_list [31, 32, 289, 291] 293 3 hs hd (by kernel_rfl) (agU (agU (agC e289 (agC e291 agN)))) rfl ?_
    simp only [seval]
    go_wp2_with fail
    intro a H; replace hs := H.s hs; replace hd := H.d rfl; replace e289 := H.g 289 rfl rfl; replace e291 := H.g 291 rfl rfl; replace e0 := H.k e0 rfl; replace e6 := H.k e6 rfl; replace e7 := H.k e7 rfl; replace e8 := H.k e8 rfl; replace e14 := H.k e14 rfl; replace e20 := H.k e20 rfl; replace e21 := H.k e21 rfl; replace e22 := H.k e22 rfl; replace e28 := H.k e28 rfl; replace e29 := H.k e29 rfl; replace e290 := H.k e290 rfl; replace e30 := H.k e30 rfl
    have e31 := H.g 31 rfl rfl; have e32 := H.g 32 rfl rfl; clear H; refine hKq5 _ _ ?_; clear hKq5 Kq5; refine wp_seq_k fun Kq6 hKq6 => ?_; clear yp dj
    refine sm_list [31, 33] 296 1 hs hd (by kernel_rfl) (agC e31 (agU agN)) rfl ?_
    simp only [seval]
    go_wp2_with fail
    intro a H; replace hs := H.s hs; replace hd := H.d rfl; replace e31 := H.g 31 rfl rfl; replace e0 := H.k e0 rfl; replace e6 := H.k e6 rfl; replace e7 := H.k e7 rfl; replace e8 := H.k e8 rfl; replace e14 := H.k e14 rfl; replace e20 := H.k e20 rfl; replace e21 := H.k e21 rfl; replace e22 := H.k e22 rfl; replace e28 := H.k e28 rfl; replace e29 := H.k e29 rfl; replace e289 := H.k e289 rfl; replace e290 := H.k e290 rfl; replace e30 := H.k e30 rfl; replace e291 := H.k e291 rfl; replace e32 := H.k e32 rfl
    have e33 := H.g 33 rfl rfl; clear H; refine hKq6 _ _ ?_; clear hKq6 Kq6; refine wp_seq_k fun Kq7 hKq7 => ?_; have BG4 := HSC.out.2.1.kept HB.out
    have hgl : (gTimes W n (List.range n)).length = n := by rw [gTimes_len]; simp
    refine tf_top R n c0 g0 g8 g22 h8 c8 i (gTimes W n (List.range n)) Bs _ _ _ _ _ _ _ _ _ _ _ _ w4 a _ HS4.out.st BG4 hgl hlt3 hn.2 hs hd e0 e6 e7 e8 e14 e20 e21 e22 e28 e29 e30 e31 e32 e33 e289 e290 e291 ?_
    clear hs hd e0 e6 e7 e8 e14 e20 e21 e22 e28 e29 e30 e31 e32 e33 e289 e290 e291 a BG4 hgl
    intro a w5 hs hd e0 e6 e7 e8 e14 e20 e21 e22 e28 e29 e30 e31 e32 e33 e289 e290 e291 L5
    refine hKq7 _ _ ?_; clear hKq7 Kq7; refine wp_seq_k fun Kq8 hKq8 => ?_
    obtain ⟨tp, htp⟩ : ∃ q, q = topG (fun k => maskP (R k) k) (gTimes W n (List.range n)) i n := ⟨_, rfl⟩
    rw [← htp] at e33
    have hbest := topG_best (mask_who (R := R) hn.2) HSC.out.2.2.net.within hlt3
    rw [← htp] at hbest
    have HBS := Lib.hid hbest
    have htn : tp < n := hbest.1.lt
    clear htp hbest; have S5 := HS4.out.kept L5; have b5 := HB.out.trans (L5.mono HB.out.size)
    have own5 := ownsRow_keep HO.out L5
    have RW5 := Lib.hid (RW.out.kept L5)
    obtain ⟨ht, hbb, hps, tok⟩ := HQ.out
    have T5 := S5.nt.tat _ _ _ _ hbb ht hps
    have hnow : R64 (now : Int) := by have := HSC.out.2.2.small; unfold R64; omega
    have hat : ∀ e ∈ t.es, R64 e.at_ := tok_at tok
    have hm0 : 0 ≤ t.most := by rw [tok.most]; decide
    have hm1 : t.most ≤ 9223372036854775807 := by rw [tok.most]; decide
    have hB := best_any b t ps (now : Int) w5 T5 hnow hat hm0 hm1
    have hRo : Hid (∀ W, Below w5.heap.size w5 W → Calls Try.prog 12 #[.pointer (some ⟨b.g, 0, none⟩), .int .i64 (now : Int)] W fun e w' => e = .returned (.bool (decide ((t.top (now : Int)).at_ < 0))) ∧ Below W.heap.size W w') := Lib.hid fun W hW => root_any b t ps (now : Int) W (T5.kept hW) hnow hat hm0 hm1
    obtain ⟨di, hdi⟩ := dist_of HBS.out.2
    have hroot := HSC.out.2.2.root HBS.out.1 hdi ht; have hlow := HSC.out.2.2.low HBS.out.1 hdi ht; have hslv := HSC.out.2.2.slaves HBS.out.1 hdi ht
    obtain ⟨pt, hpt⟩ : ∃ p, p = maskP (R tp) tp := ⟨_, rfl⟩
    replace hroot : (t.top (now : Int)).root = pt := hroot.trans hpt.symm
    rw [tok.len] at hB
    obtain ⟨T, hT⟩ : ∃ T, T = t.top (now : Int) := ⟨_, rfl⟩
    have hrf : (List.range 8).map (fun j => Value.int .i64 (roleAt t.own (t.top (now : Int)) (t.hs (now : Int)) j)) = (List.range 8).map (fun j => Value.int .i64 (rolesF L (now : Int) i j)) := by
        refine List.map_congr_left fun j _ => ?_
        rw [rolesF_at ht]
    rw [hrf] at hB
    have hslv2 : slavesN (rolesF L (now : Int) i) 8 = if i = tp then 0 else 1 := by
        have e1 : rolesF L (now : Int) i = fun k => roleAt t.own (t.top (now : Int)) (t.hs (now : Int)) k := funext fun j => rolesF_at ht
        rw [e1]; exact hslv
    rw [← hT] at hB hroot hlow hRo
    have hB2 : Calls Try.prog 9 #[.pointer (some ⟨b.g, 0, none⟩), .int .i64 (now : Int)] w5 fun e w' => ∃ v, e = .returned (.tuple #[.agg #[.int .i64 pt.one, .int .i64 pt.cls, .int .i64 pt.two, .int .i64 pt.id, .int .i64 T.steps, .int .i64 T.src, .int .i64 T.port, .int .i64 T.at_], v]) ∧ w'.ownsRow w5.heap.size 3 1 v 8 ((List.range 8).map fun j => .int .i64 (rolesF L (now : Int) i j)) ∧ Below w5.heap.size w5 w' := by
        rw [← hroot]; exact hB
    have HBE := Lib.hid hB2
    have HRO := hRo
    have HLO := Lib.hid (And.intro hlow hslv2)
    have HS5 := Lib.hid S5
    have HO5 := Lib.hid own5
    have HPT := Lib.hid hpt
    have HB5 := Lib.hid b5
    clear S5 own5 b5 ht hbb hps tok T5 hnow hat hm0 hm1 hB hB2 hRo hdi hroot hlow hslv hslv2 hrf hT L5 hpt HS4 HO HB RW
    refine sm_list [21, 32, 35, 36] 325 6 hs hd (by kernel_rfl) (agC e21 (agC e32 (agU (agU agN)))) rfl ?_
    simp only [seval]
    go_wp2_with fail
    refine HBE.out.mono ?_
    rintro e w6 ⟨v36, rfl, own36, b6⟩
    obtain ⟨g36, c36, cur, rfl, hg36, B36, hcur⟩ := row_eight own36
    have H36 := Lib.hid (And.intro hg36 (And.intro B36 (And.intro hcur b6)))
    clear own36 hg36 B36 hcur b6
    go_wp2_with fail
    intro a H; replace hs := H.s hs; replace hd := H.d rfl; replace e21 := H.g 21 rfl rfl; replace e32 := H.g 32 rfl rfl; replace e0 := H.k e0 rfl; replace e6 := H.k e6 rfl; replace e7 := H.k e7 rfl; replace e8 := H.k e8 rfl; replace e14 := H.k e14 rfl; replace e20 := H.k e20 rfl; replace e22 := H.k e22 rfl; replace e28 := H.k e28 rfl; replace e29 := H.k e29 rfl; replace e30 := H.k e30 rfl; replace e31 := H.k e31 rfl; replace e33 := H.k e33 rfl; replace e289 := H.k e289 rfl; replace e290 := H.k e290 rfl; replace e291 := H.k e291 rfl
    have e35 := H.g 35 rfl rfl; have e36 := H.g 36 rfl rfl; clear H; refine hKq8 _ _ ?_; clear hKq8 Kq8; refine wp_seq_k fun Kq9 hKq9 => ?_; refine wp_seq_k fun Kq10 hKq10 => ?_
    obtain ⟨hg36, B36, hcur, b6⟩ := H36.out
    have LL := (Below.refl w6.heap.size w6).alloc (Nat.le_refl _) (.cells #[.int .i64 pt.one, .int .i64 pt.cls, .int .i64 pt.two, .int .i64 pt.id, .int .i64 T.steps, .int .i64 T.src, .int .i64 T.port, .int .i64 T.at_] 31)
    have B35 := Blk.new w6 31 #[.int .i64 pt.one, .int .i64 pt.cls, .int .i64 pt.two, .int .i64 pt.id, .int .i64 T.steps, .int .i64 T.src, .int .i64 T.port, .int .i64 T.at_]
    have b7 := b6.trans (LL.mono b6.size)
    have B367 := B36.kept LL
    obtain ⟨g35, hg35⟩ : ∃ g, g = w6.heap.size := ⟨_, rfl⟩
    rw [← hg35] at B35 e35
    generalize (w6.alloc (.cells #[.int .i64 pt.one, .int .i64 pt.cls, .int .i64 pt.two, .int .i64 pt.id, .int .i64 T.steps, .int .i64 T.src, .int .i64 T.port, .int .i64 T.at_] 31)) = w7 at *
    clear hg35 LL B36 b6; have S7 := HS5.out.kept b7
    have PR7 := S7.st.pr
    have HRT : Hid (∀ w', Below w7.heap.size w7 w' → ∀ (j : Nat) (v : Value), (#[.int .i64 pt.one, .int .i64 pt.cls, .int .i64 pt.two, .int .i64 pt.id] : Array Value).toList[j]? = some v → w'.cell? ((⟨g35, 0, none⟩ : Addr).add j) = some v) := Lib.hid fun w' hw j v hv => by
      have e1 : (⟨g35, 0, none⟩ : Addr).add j = ⟨g35, j, none⟩ := by unfold Addr.add; split <;> simp_all
      rw [e1]
      refine (B35.kept hw).cellOf j ?_
      have hj := (List.getElem?_eq_some_iff.1 hv).1
      simp at hj
      match j, hj, hv with
      | 0, _, hv => exact hv
      | 1, _, hv => exact hv
      | 2, _, hv => exact hv
      | 3, _, hv => exact hv
    have HPT2 : Hid (∀ w', Below w7.heap.size w7 w' → ∀ (j : Nat) (v : Value), (#[.int .i64 pt.one, .int .i64 pt.cls, .int .i64 pt.two, .int .i64 pt.id] : Array Value).toList[j]? = some v → w'.cell? ((⟨g0, tp * 4, none⟩ : Addr).add j) = some v) := Lib.hid fun w' hw j v hv => (PR7.kept hw).cellA htn (by rw [HPT.out] at hv; exact hv)
    have l35 := B35.lt
    have t0 : (0 : Int) ≤ (tp : Int) := by omega
    have t1 : (tp : Int) < (n : Int) := by omega
    have HB36 := Lib.hid (And.intro B367 hcur)
    have HB7 := Lib.hid b7
    clear B35 B367 hcur b7 S7 PR7 H36 HBE
    suffices HK : ∀ (a' : Act) (w8 : World), a'.tmps.size = a.tmps.size → a'.defers = [] → a'.tmps[0]? = a.tmps[0]? → a'.tmps[6]? = a.tmps[6]? → a'.tmps[7]? = a.tmps[7]? → a'.tmps[8]? = a.tmps[8]? → a'.tmps[14]? = a.tmps[14]? → a'.tmps[20]? = a.tmps[20]? → a'.tmps[21]? = a.tmps[21]? → a'.tmps[22]? = a.tmps[22]? → a'.tmps[28]? = a.tmps[28]? → a'.tmps[29]? = a.tmps[29]? → a'.tmps[30]? = a.tmps[30]? → a'.tmps[31]? = a.tmps[31]? → a'.tmps[32]? = a.tmps[32]? → a'.tmps[33]? = a.tmps[33]? → a'.tmps[289]? = a.tmps[289]? → a'.tmps[290]? = a.tmps[290]? → a'.tmps[291]? = a.tmps[291]? → a'.tmps[35]? = a.tmps[35]? → a'.tmps[36]? = a.tmps[36]? → a'.tmps[342]? = some (.bool false) → Below w7.heap.size w7 w8 → Kq10 a' w8 by
      refine sm_any [0, 33, 35, 36] 331 12 (by kernel_rfl) hs hd (by kernel_rfl) (agC e0 (agC e33 (agC e35 (agC e36 agN)))) rfl (any_class (fun w' => Below w7.heap.size w7 w') (by kernel_rfl) ((Below.refl _ _).drew) ?_)
      simp only [seval]
      repeat (first | (with_reducible (refine wpQuiet_skip ?_ ?_); (first | exact wanted_off rfl rfl rfl rfl | exact wanted_off2 rfl rfl rfl); simp only [Act.put, List.setIfInBounds_toArray, List.set_cons_zero, List.set_cons_succ]) | (refine wpQuiet_val (v := .agg (#[.int .i64 pt.one, .int .i64 pt.cls, .int .i64 pt.two, .int .i64 pt.id])) ?_ (fun w' hw' => run_load_at 23 (.tmp 4) ⟨g35, 0, none⟩ rfl rfl (#[.int .i64 pt.one, .int .i64 pt.cls, .int .i64 pt.two, .int .i64 pt.id]) (HRT.out w' hw') Try.underlying23 rfl (by kernel_rfl)) ?_; (first | exact wanted_none rfl | exact wanted_on rfl rfl rfl); simp only [Act.put, List.setIfInBounds_toArray, List.set_cons_zero, List.set_cons_succ]) | (refine wpQuiet_val (v := .agg (#[.int .i64 pt.one, .int .i64 pt.cls, .int .i64 pt.two, .int .i64 pt.id])) ?_ (fun w' hw' => run_load_at 23 (.tmp 8) ⟨g0, tp * 4, none⟩ rfl rfl (#[.int .i64 pt.one, .int .i64 pt.cls, .int .i64 pt.two, .int .i64 pt.id]) (HPT2.out w' hw') Try.underlying23 rfl (by kernel_rfl)) ?_; (first | exact wanted_none rfl | exact wanted_on rfl rfl rfl); simp only [Act.put, List.setIfInBounds_toArray, List.set_cons_zero, List.set_cons_succ]) | (with_reducible (refine wpQuiet_val (v := ?_) ?_ ?_ ?_); rotate_left; (first | exact wanted_none rfl | exact wanted_on rfl rfl rfl); (intro w' hw'; obtain ⟨hc, hf⟩ := bcell hw'; go_simp; with_reducible rfl); simp only [Act.put, List.setIfInBounds_toArray, List.set_cons_zero, List.set_cons_succ]))
      refine wpQuiet_nil ?_
      intro w8 hw8
      all_goals
        intro a' H
        refine HK a' _ H.size H.defers ((H.got rfl rfl).trans e0.symm) (H.out 6 rfl) (H.out 7 rfl) (H.out 8 rfl) (H.out 14 rfl) (H.out 20 rfl) (H.out 21 rfl) (H.out 22 rfl) (H.out 28 rfl) (H.out 29 rfl) (H.out 30 rfl) (H.out 31 rfl) (H.out 32 rfl) ((H.got rfl rfl).trans e33.symm) (H.out 289 rfl) (H.out 290 rfl) (H.out 291 rfl) ((H.got rfl rfl).trans e35.symm) ((H.got rfl rfl).trans e36.symm) ?_ ?_
        · exact H.got rfl rfl
        · exact hw8
    intro a' w8 g_s g_d g0 g6 g7 g8 g14 g20 g21 g22 g28 g29 g30 g31 g32 g33 g289 g290 g291 g35 g36 f342 hw8
    replace hs := g_s.trans hs; replace hd := g_d; replace e0 := g0.trans e0; replace e6 := g6.trans e6; replace e7 := g7.trans e7; replace e8 := g8.trans e8; replace e14 := g14.trans e14; replace e20 := g20.trans e20; replace e21 := g21.trans e21; replace e22 := g22.trans e22; replace e28 := g28.trans e28; replace e29 := g29.trans e29; replace e30 := g30.trans e30; replace e31 := g31.trans e31; replace e32 := g32.trans e32
    replace e33 := g33.trans e33; replace e289 := g289.trans e289; replace e290 := g290.trans e290; replace e291 := g291.trans e291; replace e35 := g35.trans e35; replace e36 := g36.trans e36; clear g_s g_d g0 g6 g7 g8 g14 g20 g21 g22 g28 g29 g30 g31 g32 g33 g289 g290 g291 g35 g36
    have e342 := f342
    clear f342
    first | clear a | skip
    obtain ⟨a, rfl⟩ : ∃ a, a = a' := ⟨_, rfl⟩
    refine hKq10 _ _ ?_; clear hKq10 Kq10; have B368 := HB36.out.1.kept hw8; have b8 := HB7.out.trans (hw8.mono HB7.out.size)
    have HB8 := Lib.hid b8
    clear hw8 HRT HPT2 l35 t0 t1 HB7 b8; clear e35
    refine wp_cond_false (slotE e342) ?_
    clear e342; refine wp_skip ?_; refine hKq9 _ _ ?_; clear hKq9 Kq9; refine wp_seq_k fun Kq11 hKq11 => ?_
    refine sm_list [] 37 1 hs hd (by kernel_rfl) agN rfl ?_
    simp only [seval]
    go_wp2_with fail
    intro a H; replace hs := H.s hs; replace hd := H.d rfl; replace e0 := H.k e0 rfl; replace e6 := H.k e6 rfl; replace e7 := H.k e7 rfl; replace e8 := H.k e8 rfl; replace e14 := H.k e14 rfl; replace e20 := H.k e20 rfl; replace e21 := H.k e21 rfl; replace e22 := H.k e22 rfl; replace e28 := H.k e28 rfl; replace e29 := H.k e29 rfl; replace e30 := H.k e30 rfl; replace e31 := H.k e31 rfl; replace e32 := H.k e32 rfl; replace e33 := H.k e33 rfl; replace e289 := H.k e289 rfl; replace e290 := H.k e290 rfl; replace e291 := H.k e291 rfl; replace e36 := H.k e36 rfl
    have e37 := H.g 37 rfl rfl; clear H; refine hKq11 _ _ ?_; clear hKq11 Kq11; refine wp_seq_k fun Kq12 hKq12 => ?_
    refine tf_slaves g36 c36 (rolesF L (now : Int) i) cur _ _ _ _ _ _ _ _ _ _ _ _ _ _ _ _ _ w8 a _ B368 HB36.out.2 hs hd e0 e6 e7 e8 e14 e20 e21 e22 e28 e29 e30 e31 e32 e33 e36 e37 e289 e290 e291 ?_
    clear hs hd e0 e6 e7 e8 e14 e20 e21 e22 e28 e29 e30 e31 e32 e33 e36 e37 e289 e290 e291 a
    intro a hs hd e0 e6 e7 e8 e14 e20 e21 e22 e28 e29 e30 e31 e32 e33 e36 e37 e289 e290 e291
    refine hKq12 _ _ ?_; clear hKq12 Kq12; refine wp_seq_k fun Kq13 hKq13 => ?_; refine wp_seq_k fun Kq14 hKq14 => ?_
    obtain ⟨sl, hsl⟩ : ∃ s : Int, s = ((slavesN (rolesF L (now : Int) i) 8 : Nat) : Int) := ⟨_, rfl⟩
    rw [← hsl] at e37
    obtain ⟨rt, hrt⟩ : ∃ r, r = decide (T.at_ < 0) := ⟨_, rfl⟩
    have HR8 := HRO.out w8 (HB8.out)
    rw [← hrt] at HR8
    have hcase : (tp = i ∧ sl = 0 ∧ rt = true) ∨ (((tp : Int) == (i : Int)) = false ∧ (tp == i) = false ∧ ((tp : Int) != (i : Int)) = true ∧ (tp != i) = true ∧ sl = 1 ∧ rt = false) := by
        have h1 := HLO.out.1; have h2 := HLO.out.2
        by_cases h : i = tp
        · left
          rw [if_pos h] at h2
          exact ⟨h.symm, by rw [hsl, h2]; rfl, by rw [hrt]; exact decide_eq_true (h1.2 h)⟩
        · right
          rw [if_neg h] at h2
          exact ⟨beq_eq_false_iff_ne.2 (by omega), beq_eq_false_iff_ne.2 (fun e => h e.symm), bne_iff_ne.2 (by omega), bne_iff_ne.2 (fun e => h e.symm), by rw [hsl, h2]; rfl, by rw [hrt]; exact decide_eq_false (fun hh => h (h1.1 hh))⟩
    have HRT := Lib.hid HR8
    clear hsl hrt HR8 HLO HRO
    have HX8 := Lib.hid B368
    clear B368 HBS htn
    suffices HK : ∀ (a' : Act) (w9 : World), a'.tmps.size = a.tmps.size → a'.defers = [] → a'.tmps[0]? = a.tmps[0]? → a'.tmps[6]? = a.tmps[6]? → a'.tmps[7]? = a.tmps[7]? → a'.tmps[8]? = a.tmps[8]? → a'.tmps[14]? = a.tmps[14]? → a'.tmps[20]? = a.tmps[20]? → a'.tmps[21]? = a.tmps[21]? → a'.tmps[22]? = a.tmps[22]? → a'.tmps[28]? = a.tmps[28]? → a'.tmps[29]? = a.tmps[29]? → a'.tmps[30]? = a.tmps[30]? → a'.tmps[31]? = a.tmps[31]? → a'.tmps[32]? = a.tmps[32]? → a'.tmps[33]? = a.tmps[33]? → a'.tmps[36]? = a.tmps[36]? → a'.tmps[37]? = a.tmps[37]? → a'.tmps[289]? = a.tmps[289]? → a'.tmps[290]? = a.tmps[290]? → a'.tmps[291]? = a.tmps[291]? → a'.tmps[378]? = some (.bool false) → Below w8.heap.size w8 w9 → Kq14 a' w9 by
      rcases hcase with ⟨rfl, rfl, rfl⟩ | ⟨k1, k2, k3, k4, rfl, rfl⟩
      all_goals
        refine sm_list [21, 31, 32, 33, 37] 354 25 hs hd (by kernel_rfl) (agC e21 (agC e31 (agC e32 (agC e33 (agC e37 agN))))) rfl ?_
        simp only [seval]
        go_wp2_with fail
        refine HRT.out.mono ?_
        rintro e w9 ⟨rfl, b9⟩
        go_wp2_with fail
        all_goals
          intro a' H
          refine HK a' _ H.size H.defers (H.out 0 rfl) (H.out 6 rfl) (H.out 7 rfl) (H.out 8 rfl) (H.out 14 rfl) (H.out 20 rfl) ((H.got rfl rfl).trans e21.symm) (H.out 22 rfl) (H.out 28 rfl) (H.out 29 rfl) (H.out 30 rfl) ((H.got rfl rfl).trans e31.symm) ((H.got rfl rfl).trans e32.symm) ((H.got rfl rfl).trans e33.symm) (H.out 36 rfl) ((H.got rfl rfl).trans e37.symm) (H.out 289 rfl) (H.out 290 rfl) (H.out 291 rfl) ?_ ?_
          · exact H.got rfl rfl
          · exact b9
    intro a' w9 g_s g_d g0 g6 g7 g8 g14 g20 g21 g22 g28 g29 g30 g31 g32 g33 g36 g37 g289 g290 g291 f378 b9
    replace hs := g_s.trans hs; replace hd := g_d; replace e0 := g0.trans e0; replace e6 := g6.trans e6; replace e7 := g7.trans e7; replace e8 := g8.trans e8; replace e14 := g14.trans e14; replace e20 := g20.trans e20; replace e21 := g21.trans e21; replace e22 := g22.trans e22; replace e28 := g28.trans e28; replace e29 := g29.trans e29; replace e30 := g30.trans e30; replace e31 := g31.trans e31; replace e32 := g32.trans e32
    replace e33 := g33.trans e33; replace e36 := g36.trans e36; replace e37 := g37.trans e37; replace e289 := g289.trans e289; replace e290 := g290.trans e290; replace e291 := g291.trans e291; clear g_s g_d g0 g6 g7 g8 g14 g20 g21 g22 g28 g29 g30 g31 g32 g33 g36 g37 g289 g290 g291
    have e378 := f378
    clear f378
    first | clear a | skip
    obtain ⟨a, rfl⟩ : ∃ a, a = a' := ⟨_, rfl⟩
    refine hKq14 _ _ ?_; clear hKq14 Kq14; clear hcase HRT
    refine wp_cond_false (slotE e378) ?_
    clear e378; refine wp_skip ?_; refine hKq13 _ _ ?_; clear hKq13 Kq13; clear e31; clear e32; clear e33; clear e37; have b89 := HB8.out.trans (b9.mono HB8.out.size)
    have own9 := ownsRow_keep HO5.out b89
    have RW9 := RW5.out.kept b89
    have B369 := HX8.out.kept b9; have bT9 := HB5.out.trans (b89.mono HB5.out.size)
    have hz9 : wT.heap.size ≤ w9.heap.size := bT9.size
    have hg36T : wT.heap.size ≤ g36 := Nat.le_trans HB5.out.size hg36
    have hvl : vs.length = i := by have := own9.1; omega
    have H9 := Lib.hid (And.intro RW9 (And.intro B369 (And.intro bT9 hvl)))
    clear b89 RW9 B369 bT9 hvl b9 HB8 HO5 HX8 RW5 hg36 HPT HB5 HS5
    refine sm_list [30, 36] 379 4 hs hd (by kernel_rfl) (agC e30 (agC e36 agN)) rfl ?_
    simp only [seval]
    go_wp2_with (first | (at_builtin; refine wpList_pushG 1 rfl (.tmp 2) (.tmp 4) 67 rfl styL (wr := w9) (cs := #[.slice (some ⟨g36, 0, none⟩) 8 c36]) rfl (by intro u hu; simp at hu; rw [hu]; rfl) rfl own9 rfl rfl (by omega) hz9 ?_; intro v30n wa owna gra mva) | fail)
    intro a H; replace hs := H.s hs; replace hd := H.d rfl; replace e0 := H.k e0 rfl; replace e6 := H.k e6 rfl; replace e7 := H.k e7 rfl; replace e8 := H.k e8 rfl; replace e14 := H.k e14 rfl; replace e20 := H.k e20 rfl; replace e21 := H.k e21 rfl; replace e22 := H.k e22 rfl; replace e28 := H.k e28 rfl; replace e29 := H.k e29 rfl; replace e289 := H.k e289 rfl; replace e290 := H.k e290 rfl; replace e291 := H.k e291 rfl
    clear e36; replace e30 := H.g 30 rfl rfl; clear H; refine hKq4 _ _ ?_; clear hKq4 Kq4
    obtain ⟨RW9, B369, bT9, hvl⟩ := H9.out
    have B36a := B369.grown gra (own_blk_ne own9 B369 (by decide)).symm
    have RWa := (RW9.keep gra (fun g t cs hq B ht => own_blk_ne own9 B (by rw [ht]; decide) hq)).push (c := c36) hg36T B36a (by rw [hvl]; exact HB36.out.2)
    have bTa := bT9.trans (below_of_grown gra own9 hz9)
    have HRWa := Lib.hid RWa
    clear RW9 B369 bT9 hvl B36a RWa gra mva own9 hz9 H9 HB36
    refine sm_list [291] 383 1 hs hd (by kernel_rfl) (agC e291 agN) rfl ?_
    simp only [seval]
    go_wp2_with fail
    intro a H; replace hs := H.s hs; replace hd := H.d rfl; replace e0 := H.k e0 rfl; replace e6 := H.k e6 rfl; replace e7 := H.k e7 rfl; replace e8 := H.k e8 rfl; replace e14 := H.k e14 rfl; replace e20 := H.k e20 rfl; replace e21 := H.k e21 rfl; replace e22 := H.k e22 rfl; replace e28 := H.k e28 rfl; replace e29 := H.k e29 rfl; replace e289 := H.k e289 rfl; replace e290 := H.k e290 rfl; replace e30 := H.k e30 rfl
    replace e291 := H.g 291 rfl rfl; clear H
    exact ⟨⟨i + 1, v30n, _, by omega, hs, hd, e0, e6, e7, e8, e14, e20, e21, e22, e28, e29, e289, e290, e30, e291, bTa, owna, HRWa⟩, by first | (simp only [hm, slot e291, intOf]; omega) | (simp [hm, slot e291, intOf]; omega)⟩
  · have hkn : i = n := by omega
    have dj : decide ((i : Int) < (n : Int)) = false := decide_eq_false (by omega)
    have dj2 : decide (i < n) = false := decide_eq_false (by omega)
    clear hm
    refine sm_list [290, 291] 292 1 hs hd (by kernel_rfl) (agC e290 (agC e291 agN)) rfl ?_
    simp only [seval]
    go_wp2_with fail
    intro a H; replace hs := H.s hs; replace hd := H.d rfl; replace e290 := H.g 290 rfl rfl; replace e291 := H.g 291 rfl rfl; replace e0 := H.k e0 rfl; replace e6 := H.k e6 rfl; replace e7 := H.k e7 rfl; replace e8 := H.k e8 rfl; replace e14 := H.k e14 rfl; replace e20 := H.k e20 rfl; replace e21 := H.k e21 rfl; replace e22 := H.k e22 rfl; replace e28 := H.k e28 rfl; replace e29 := H.k e29 rfl; replace e289 := H.k e289 rfl; replace e30 := H.k e30 rfl
    have e292 := H.g 292 rfl rfl; clear H; refine hKq2 _ _ ?_; clear hKq2 Kq2; refine wp_seq_k fun Kq3 hKq3 => ?_
    refine wp_cond_false (slotE e292) ?_
    clear e292; refine wp_exit ?_; refine exit_then rfl ?_; clear hKq3 Kq3; refine exit_then rfl ?_; refine exit_hit ?_
    rw [hkn] at own
    exact HEND.out a w4 v30 vs hs hd e0 e6 e7 e8 e14 e20 e21 e22 e28 e29 e30 hb own RW.out
end Go.Proofs.Ytcdgofndfajekaa
