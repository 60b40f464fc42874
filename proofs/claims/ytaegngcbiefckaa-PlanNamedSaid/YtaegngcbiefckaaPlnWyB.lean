/-
  A way of a flow.
-/
import Derived.Test.YtaegngcbiefckaaPlnWyA
namespace Go.Proofs.Ytaegngcbiefckaa
set_option linter.unusedSimpArgs false
set_option linter.unusedVariables false
open Go.RowKit Go.WideShapes Go.ChangeShapes
attribute [local go_sem ↓] Go.wp_at_zero Go.wp_at_succ

theorem wayV_none {C : Cf} {src dst : Int} {ks : List Int} (h : wayGo C ks.length 0 src [src] [] ks = none) : wayV C src dst ks = none := by
  unfold wayV; rw [h]
theorem wayV_end {C : Cf} {src dst at_ : Int} {ks : List Int} {out : List (Int × Int)} (h : wayGo C ks.length 0 src [src] [] ks = some (at_, out)) : wayV C src dst ks = if 0 < out.length ∧ at_ = dst then some out else none := by
  unfold wayV; rw [h]
theorem go_bad {C : Cf} {n i : Nat} {at_ k : Int} {seen : List Int} {out : List (Int × Int)} {ks : List Int} (h : k < 0 ∨ (C.links.length : Int) ≤ k) : wayGo C n i at_ seen out (k :: ks) = none := by
  rw [wayGo, if_pos h]
theorem go_none {C : Cf} {n i k : Nat} {at_ : Int} {seen : List Int} {out : List (Int × Int)} {ks : List Int} {l : Lk} (hl : C.links[k]? = some l) (h0 : l.n0 ≠ at_) (h1 : l.n1 ≠ at_) : wayGo C n i at_ seen out ((k : Int) :: ks) = none := by
  have := (List.getElem?_eq_some_iff.1 hl).1
  rw [wayGo, if_neg (by omega), Int.toNat_natCast, hl]
  simp only
  rw [if_neg h0, if_neg h1]
theorem go_hop {C : Cf} {n i k : Nat} {at_ s : Int} {seen : List Int} {out : List (Int × Int)} {ks : List Int} {l : Lk} (hl : C.links[k]? = some l) (hs : s = 0 ∨ s = 1) (h0 : 1 ≤ s → l.n0 ≠ at_) (h1 : endX l s = at_) :
    wayGo C n i at_ seen out ((k : Int) :: ks) = if hopBad C n i seen (endX l (1 - s)) then none else wayGo C n (i + 1) (endX l (1 - s)) (seen ++ [endX l (1 - s)]) (out ++ [(endX l s, endY l s)]) ks := by
  have := (List.getElem?_eq_some_iff.1 hl).1
  rw [wayGo, if_neg (by omega), Int.toNat_natCast, hl]
  simp only
  rcases hs with rfl | rfl
  · rw [if_pos (show l.n0 = at_ from h1)]; rfl
  · rw [if_neg (h0 (by omega)), if_pos (show l.n1 = at_ from h1)]; rfl
set_option maxRecDepth 100000 in
set_option maxHeartbeats 4000000 in
theorem way_any (C : Cf) (Y : Lay) (f : Fw) (sl : Sl × Sl) (q c : Nat) (A : Option Addr) (ks : List Int) (w : World) (hC : CfAt w w.heap.size C Y) (hq : q < 2) (hcell : (fwc f sl).toArray[2 + q]? = some (.slice A ks.length c))
    (hk : Reads w w.heap.size 1 A ks.length (ks.map (Value.int .i64))) (hn : ks.length ≤ 100) (hlk : ∀ l ∈ C.links, LinkOk C l) :
    Calls Try.prog 20 #[.agg (cfc C Y), .agg (fwc f sl).toArray, .int .i64 (q : Int)] w fun e w' => ∃ (v : Value) (ok : Bool) (out : List (Int × Int)), e = .returned (.tuple #[v, .bool ok]) ∧ Below w.heap.size w w' ∧ (ok = true → w'.ownsRow w.heap.size 61 2 v out.length (out.flatMap ecc)) ∧ wayV C f.src f.dst ks = (if ok then some out else none) := by
  have HLK := Lib.hid hlk
  have HCELL := Lib.hid hcell
  clear hlk hcell
  refine calls_sm (N := 104) Try.func20 rfl (by kernel_rfl) ?_
  intro a hs hd ha
  have e0 : a.tmps[0]? = some (.agg (cfc C Y)) := ha 0 _ rfl
  have e1 : a.tmps[1]? = some (.agg (fwc f sl).toArray) := ha 1 _ rfl
  have e2 : a.tmps[2]? = some (.int .i64 (q : Int)) := ha 2 _ rfl
  clear ha
  conv => arg 2; whnf
  refine wp_seq_k fun Kq1 hKq1 => ?_
  refine sm_list [0, 1, 3, 4] 6 2 hs hd (by kernel_rfl) (agC e0 (agC e1 (agU (agU agN)))) rfl ?_
  simp only [seval]
  go_wp2_with fail
  intro a H; replace hs := H.s hs; replace hd := H.d rfl; replace e2 := H.k e2 rfl; clear e0; clear e1; have e3 := H.g 3 rfl rfl; have e4 := H.g 4 rfl rfl; clear H; refine hKq1 _ _ ?_; clear hKq1 Kq1
  refine wp_scope_straight ?_
  refine wp_seq_k fun Kq2 hKq2 => ?_
  have BC := (Blk.new w 26 (cfc C Y)).alloc (.cells (fwc f sl).toArray 74)
  have BF := Blk.new (w.alloc (.cells (cfc C Y) 26)) 74 (fwc f sl).toArray
  have L0 : Below w.heap.size w ((w.alloc (.cells (cfc C Y) 26)).alloc (.cells (fwc f sl).toArray 74)) := ((Below.refl _ _).alloc (Nat.le_refl _) _).alloc (by simp) _
  have hz3 : w.heap.size < ((w.alloc (.cells (cfc C Y) 26)).alloc (.cells (fwc f sl).toArray 74)).heap.size := by simp; omega
  have hz4 : (w.alloc (.cells (cfc C Y) 26)).heap.size < ((w.alloc (.cells (cfc C Y) 26)).alloc (.cells (fwc f sl).toArray 74)).heap.size := by simp
  replace hC := hC.below L0
  replace hk := hk.below L0
  have hz0 : w.heap.size ≤ (w.alloc (.cells (cfc C Y) 26)).heap.size := by simp
  obtain ⟨g4, hg4⟩ : ∃ g, g = (w.alloc (.cells (cfc C Y) 26)).heap.size := ⟨_, rfl⟩
  have e4q : a.tmps[4]? = some (.pointer (some ⟨g4, 0, none⟩)) := by rw [hg4]; simpa using e4
  replace e4 := e4q
  clear e4q
  rw [← hg4] at BF hz4 hz0
  generalize ((w.alloc (.cells (cfc C Y) 26)).alloc (.cells (fwc f sl).toArray 74)) = w1 at *
  obtain ⟨B, hB⟩ : ∃ B, B = w.heap.size := ⟨_, rfl⟩
  rw [← hB] at hC hk L0 hz0 hz3 e3 BC
  have HB := Lib.hid hB
  clear hg4 hB
  have f0 := BF.cellOf (v := .int .i64 f.src) 0 rfl
  refine sm_list [4, 8] 15 2 hs hd (by kernel_rfl) (agC e4 (agU agN)) rfl ?_
  simp only [seval]
  go_wp2_with fail
  intro a H; replace hs := H.s hs; replace hd := H.d rfl; replace e4 := H.g 4 rfl rfl; replace e2 := H.k e2 rfl; replace e3 := H.k e3 rfl; have e8 := H.g 8 rfl rfl; clear H; refine hKq2 _ _ ?_; clear hKq2 Kq2; refine wp_seq_k fun Kq3 hKq3 => ?_; clear f0
  obtain ⟨B0, hB0⟩ : ∃ B0, B0 = w1.heap.size := ⟨_, rfl⟩
  rw [← hB0] at hz3 hz4
  have own0 : (w1.alloc (.cells #[.int .i64 f.src] 3)).ownsRow B0 3 1 (.slice (some ⟨B0, 0, none⟩) 1 1) 1 [.int .i64 f.src] := ⟨rfl, .inr ⟨B0, 1, #[.int .i64 f.src], rfl, Nat.le_refl _, by rw [hB0]; exact heap_alloc_new w1 _, Nat.le_refl _, by simp [maxLen], rfl, rfl⟩⟩
  have HB0 := Lib.hid hB0
  clear hB0
  refine sm_list [8, 9] 17 2 hs hd (by kernel_rfl) (agC e8 (agU agN)) rfl ?_
  simp only [seval]
  go_wp2_with fail
  intro a H; replace hs := H.s hs; replace hd := H.d rfl; replace e8 := H.g 8 rfl rfl; replace e2 := H.k e2 rfl; replace e3 := H.k e3 rfl; replace e4 := H.k e4 rfl; have e9 := H.g 9 rfl rfl; clear H; refine hKq3 _ _ ?_; clear hKq3 Kq3; refine wp_seq_k fun Kq4 hKq4 => ?_
  rw [← HB0.out] at e9
  refine sm_list [] 10 1 hs hd (by kernel_rfl) agN rfl ?_
  simp only [seval]
  go_wp2_with fail
  intro a H; replace hs := H.s hs; replace hd := H.d rfl; replace e2 := H.k e2 rfl; replace e3 := H.k e3 rfl; replace e4 := H.k e4 rfl; replace e8 := H.k e8 rfl; replace e9 := H.k e9 rfl; have e10 := H.g 10 rfl rfl; clear H; refine hKq4 _ _ ?_; clear hKq4 Kq4; refine wp_seq_k fun Kq5 hKq5 => ?_
  refine wp_label ?_
  refine hKq5 _ _ ?_; clear hKq5 Kq5; refine wp_seq_k fun Kq6 hKq6 => ?_; refine wp_seq_k fun Kq7 hKq7 => ?_
  have hW : WayAt (w1.alloc (.cells #[.int .i64 f.src] 3)) B0 (.slice (some ⟨B0, 0, none⟩) 1 1) (.slice none 0 0) [f.src] [] := ⟨own0, World.ownsRow_nil _ _ _ _, fun g _ => by simp [Value.ownBlock]⟩
  have b2 : Below B0 w1 (w1.alloc (.cells #[.int .i64 f.src] 3)) := (Below.refl _ _).alloc (Nat.le_of_eq HB0.out) _
  replace BC := BC.below b2 hz3
  replace BF := BF.below b2 hz4
  replace hC := hC.below (b2.mono (Nat.le_of_lt hz3))
  replace hk := hk.below (b2.mono (Nat.le_of_lt hz3))
  have LW : Below B w (w1.alloc (.cells #[.int .i64 f.src] 3)) := L0.trans (b2.mono (Nat.le_of_lt hz3))
  have hs2 : B0 ≤ (w1.alloc (.cells #[.int .i64 f.src] 3)).heap.size := by rw [HB0.out]; simp
  generalize w1.alloc (.cells #[.int .i64 f.src] 3) = w2 at *
  clear own0 b2 L0
  have f2 : w2.cell? ⟨g4, 2 + q, none⟩ = some (.slice A ks.length c) := BF.cellOf (2 + q) HCELL.out
  have hq1 : (q : Int) < 2 := by omega
  have hq0 : (0 : Int) ≤ (q : Int) := by omega
  refine sm_list [2, 4] 19 6 hs hd (by kernel_rfl) (agC e2 (agC e4 agN)) rfl ?_
  simp only [seval]
  go_wp2_with fail
  intro a H; replace hs := H.s hs; replace hd := H.d rfl; replace e2 := H.g 2 rfl rfl; replace e4 := H.g 4 rfl rfl; replace e3 := H.k e3 rfl; replace e8 := H.k e8 rfl; replace e9 := H.k e9 rfl; replace e10 := H.k e10 rfl; have e22 := H.g 22 rfl rfl; have e23 := H.g 23 rfl rfl; have e24 := H.g 24 rfl rfl; clear H; refine hKq7 _ _ ?_; clear hKq7 Kq7; refine wp_block ?_; clear f2
  refine wp_loop (fun a w' => ∃ (i : Nat) (at_ : Int) (seen : List Int) (out : List (Int × Int)) (vs vo : Value), i ≤ ks.length ∧ a.tmps.size = 104 ∧ a.defers = [] ∧ a.tmps[2]? = some (.int .i64 (q : Int)) ∧ a.tmps[3]? = some (.pointer (some ⟨B, 0, none⟩)) ∧ a.tmps[4]? = some (.pointer (some ⟨g4, 0, none⟩)) ∧ a.tmps[22]? = some (.slice A ks.length c) ∧ a.tmps[23]? = some (.int .i64 (ks.length : Int)) ∧ a.tmps[24]? = some (.int .i64 (i : Int)) ∧ a.tmps[8]? = some (.int .i64 at_) ∧ a.tmps[9]? = some vs ∧ a.tmps[10]? = some vo ∧ Below B0 w2 w' ∧ WayAt w' B0 vs vo seen out ∧ seen.length = i + 1 ∧ out.length = i ∧ wayGo C ks.length 0 f.src [f.src] [] ks = wayGo C ks.length i at_ seen out (ks.drop i)) (fun a _ => ks.length - (intOf (a.tmps.getD 24 undef)).toNat) ?_ ?_
  · exact ⟨0, f.src, [f.src], [], _, _, Nat.zero_le _, hs, hd, e2, e3, e4, e22, e23, e24, e8, e9, e10, Below.refl _ _, hW, rfl, rfl, rfl⟩
  clear hs hd e24 e8 e9 e10 e2 e3 e4 e22 e23 a hW
  rintro a w3 ⟨i, at_, seen, out, vs, vo, hi, hs, hd, e2, e3, e4, e22, e23, e24, e8, e9, e10, hb3, hW, hsl, hol, hG⟩
  have HG := Lib.hid hG
  clear hG
  have hm := slot e24
  refine wp_seq_k fun Kq8 hKq8 => ?_
  by_cases hlt : i < ks.length
  ·
    have dj : decide ((i : Int) < (ks.length : Int)) = true := decide_eq_true (by omega)
    obtain ⟨ad, u, hA, hadb, hu, hc⟩ := (hk.below (hb3.mono (Nat.le_of_lt hz3))).at_ hlt
    obtain ⟨kk, hkk, rfl⟩ := getElem?_map_some hu
    have HKK := Lib.hid hkk
    clear hkk hu
    rw [hA] at e22
    have HA := Lib.hid hA
    clear hA
    have hi0 : (0 : Int) ≤ (i : Int) := by omega
    have hs3 : B0 ≤ w3.heap.size := Nat.le_trans hs2 hb3.size
    refine sm_list [23, 24] 25 1 hs hd (by kernel_rfl) (agC e23 (agC e24 agN)) rfl ?_
    simp only [seval]
    go_wp2_with fail
    intro a H; replace hs := H.s hs; replace hd := H.d rfl; replace e23 := H.g 23 rfl rfl; replace e24 := H.g 24 rfl rfl; replace e2 := H.k e2 rfl; replace e3 := H.k e3 rfl; replace e4 := H.k e4 rfl; replace e22 := H.k e22 rfl; replace e8 := H.k e8 rfl; replace e9 := H.k e9 rfl; replace e10 := H.k e10 rfl; have e25 := H.g 25 rfl rfl; clear H; refine hKq8 _ _ ?_; clear hKq8 Kq8; refine wp_seq_k fun Kq9 hKq9 => ?_
    refine wp_cond_true (slotE e25) ?_
    clear e25; refine wp_skip ?_; refine hKq9 _ _ ?_; clear hKq9 Kq9; refine wp_seq_k fun Kq10 hKq10 => ?_; refine wp_block ?_; refine wp_seq_k fun Kq11 hKq11 => ?_
    refine sm_list [11, 12, 22, 24] 26 3 hs hd (by kernel_rfl) (agU (agU (agC e22 (agC e24 agN)))) rfl ?_
    simp only [seval]
    go_wp2_with fail
    intro a H; replace hs := H.s hs; replace hd := H.d rfl; replace e22 := H.g 22 rfl rfl; replace e24 := H.g 24 rfl rfl; replace e2 := H.k e2 rfl; replace e3 := H.k e3 rfl; replace e4 := H.k e4 rfl; replace e23 := H.k e23 rfl; replace e8 := H.k e8 rfl; replace e9 := H.k e9 rfl; replace e10 := H.k e10 rfl; have e11 := H.g 11 rfl rfl; have e12 := H.g 12 rfl rfl; clear H; refine hKq11 _ _ ?_; clear hKq11 Kq11
    refine wp_seq_k fun Kq12 hKq12 => ?_; refine wp_seq_k fun Kq13 hKq13 => ?_; clear hc
    have BC3 := BC.below hb3 hz3
    have BF3 := BF.below hb3 hz4
    have hC3 := hC.below (hb3.mono (Nat.le_of_lt hz3))
    have c1 := BC3.cellOf (v := .slice Y.L.A C.links.length Y.L.c) 1 rfl
    rw [← HA.out] at e22
    suffices HK : ∀ (a' : Act), a'.tmps.size = a.tmps.size → a'.defers = [] → a'.tmps[2]? = a.tmps[2]? → a'.tmps[3]? = a.tmps[3]? → a'.tmps[4]? = a.tmps[4]? → a'.tmps[22]? = a.tmps[22]? → a'.tmps[23]? = a.tmps[23]? → a'.tmps[8]? = a.tmps[8]? → a'.tmps[9]? = a.tmps[9]? → a'.tmps[10]? = a.tmps[10]? → a'.tmps[24]? = a.tmps[24]? → a'.tmps[11]? = a.tmps[11]? → a'.tmps[12]? = a.tmps[12]? → a'.tmps[37]? = some (.bool (decide (kk < 0 ∨ (C.links.length : Int) ≤ kk))) → Kq13 a' w3 by
      refine sm_list [3, 12] 29 9 hs hd (by kernel_rfl) (agC e3 (agC e12 agN)) rfl ?_
      simp only [seval]
      go_wp2_with fail
      all_goals
        intro a' H
        refine HK a' H.size H.defers (H.out 2 rfl) ((H.got rfl rfl).trans e3.symm) (H.out 4 rfl) (H.out 22 rfl) (H.out 23 rfl) (H.out 8 rfl) (H.out 9 rfl) (H.out 10 rfl) (H.out 24 rfl) (H.out 11 rfl) ((H.got rfl rfl).trans e12.symm) ?_
        · (refine (H.got (t := 37) rfl rfl).trans (congrArg some ?_); refine congrArg Value.bool ?_; first | exact (decide_eq_true (by omega)).symm | exact decide_eq_decide.2 (by omega) | (rw [Bool.eq_iff_iff]; simp only [Bool.or_eq_true, decide_eq_true_eq] <;> omega))
    intro a' g_s g_d g2 g3 g4 g22 g23 g8 g9 g10 g24 g11 g12 f37
    replace hs := g_s.trans hs; replace hd := g_d; replace e2 := g2.trans e2; replace e3 := g3.trans e3; replace e4 := g4.trans e4; replace e22 := g22.trans e22; replace e23 := g23.trans e23; replace e8 := g8.trans e8; replace e9 := g9.trans e9; replace e10 := g10.trans e10; replace e24 := g24.trans e24; replace e11 := g11.trans e11; replace e12 := g12.trans e12; clear g_s g_d g2 g3 g4 g22 g23 g8 g9 g10 g24 g11 g12
    have e37 := f37
    clear f37; clear a
    obtain ⟨a, rfl⟩ : ∃ a, a = a' := ⟨_, rfl⟩
    refine hKq13 _ _ ?_; clear hKq13 Kq13
    have hdrop : ks.drop i = kk :: ks.drop (i + 1) := drop_get HKK.out
    rw [hdrop] at HG
    clear hdrop
    by_cases hbad : kk < 0 ∨ (C.links.length : Int) ≤ kk
    · rw [decide_eq_true hbad] at e37
      have HV := Lib.hid (wayV_none (dst := f.dst) (HG.out.trans (go_bad hbad)))
      clear hbad
      refine wp_cond_true (slotE e37) ?_
      clear e37; refine wp_seq_k fun Kq14 hKq14 => ?_
      refine sm_list [] 6 2 hs hd (by kernel_rfl) agN rfl ?_
      simp only [seval]
      go_wp2_with fail
      intro a H; replace hs := H.s hs; replace hd := H.d rfl; replace e2 := H.k e2 rfl; replace e3 := H.k e3 rfl; replace e4 := H.k e4 rfl; replace e22 := H.k e22 rfl; replace e23 := H.k e23 rfl; replace e8 := H.k e8 rfl; replace e9 := H.k e9 rfl; replace e10 := H.k e10 rfl; replace e24 := H.k e24 rfl; replace e11 := H.k e11 rfl; replace e12 := H.k e12 rfl; have e6 := H.g 6 rfl rfl; have e7 := H.g 7 rfl rfl
      clear H; refine hKq14 _ _ ?_; clear hKq14 Kq14; refine wp_ret ?_; refine exit_then rfl ?_; refine ret_block ?_; refine exit_then rfl ?_; refine exit_then rfl ?_; refine ret_block ?_; refine exit_then rfl ?_
      refine scope_ok trivial ?_
      exact sm_ret2 rfl hd e6 e7 ⟨_, false, [], rfl, by rw [← HB.out]; exact LW.trans (hb3.mono (Nat.le_of_lt hz3)), (fun h => by cases h), HV.out⟩
    · rw [decide_eq_false hbad] at e37
      obtain ⟨k, hk2⟩ : ∃ k : Nat, kk = (k : Int) := ⟨kk.toNat, by omega⟩
      subst hk2
      have hkN : k < C.links.length := by omega
      obtain ⟨l, hl⟩ : ∃ l, C.links[k]? = some l := ⟨_, List.getElem?_eq_getElem hkN⟩
      obtain ⟨bd, hD, hbdb, hcl⟩ := reads_at lkc_len hC3.links hl hkN
      have HL := Lib.hid hl
      have hx : ∀ (q : Nat) (v : Value), (#[.int .i64 l.n0, .int .i64 l.p0, .int .i64 l.n1, .int .i64 l.p1] : Array Value).toList[q]? = some v → w3.cell? ((bd.add (k * 6)).add q) = some v := fun q v hq => by
          rcases q with _ | _ | _ | _ | q <;> simp at hq <;> subst hq <;> exact hcl _ _ rfl
      have HX := Lib.hid hx
      clear hx hcl hbad hl
      rw [hD] at c1
      have HD := Lib.hid hD
      clear hD
      have hk0 : (0 : Int) ≤ (k : Int) := by omega
      have hkN2 : (k : Int) < (C.links.length : Int) := by omega
      refine wp_cond_false (slotE e37) ?_
      clear e37; refine wp_skip ?_; refine hKq12 _ _ ?_; clear hKq12 Kq12; refine wp_seq_k fun Kq14 hKq14 => ?_; refine wp_seq_k fun Kq15 hKq15 => ?_
      refine sm_list [3, 12] 38 7 hs hd (by kernel_rfl) (agC e3 (agC e12 agN)) rfl ?_
      simp only [seval]
      go_wp2_with (first | (refine wpList_load_any_d rfl 78 (.tmp 6) rfl (bd.add (k * 6)) rfl (#[.int .i64 l.n0, .int .i64 l.p0, .int .i64 l.n1, .int .i64 l.p1]) _ HX.out Try.underlying78 rfl (by kernel_rfl) ?_) | fail)
      intro a H; replace hs := H.s hs; replace hd := H.d rfl; replace e3 := H.g 3 rfl rfl; replace e12 := H.g 12 rfl rfl; replace e2 := H.k e2 rfl; replace e4 := H.k e4 rfl; replace e22 := H.k e22 rfl; replace e23 := H.k e23 rfl; replace e8 := H.k e8 rfl; replace e9 := H.k e9 rfl; replace e10 := H.k e10 rfl; replace e24 := H.k e24 rfl; replace e11 := H.k e11 rfl; have e43 := H.g 43 rfl rfl; have e44 := H.g 44 rfl rfl
      clear H; refine hKq15 _ _ ?_; clear hKq15 Kq15; refine wp_block ?_; clear c1 HX; have hlkl := HLK.out l (List.mem_of_getElem? HL.out)
      refine wp_loop (fun a w' => ∃ s : Int, (0 ≤ s ∧ s ≤ 2) ∧ a.tmps.size = 104 ∧ a.defers = [] ∧ a.tmps[2]? = some (.int .i64 (q : Int)) ∧ a.tmps[3]? = some (.pointer (some ⟨B, 0, none⟩)) ∧ a.tmps[4]? = some (.pointer (some ⟨g4, 0, none⟩)) ∧ a.tmps[8]? = some (.int .i64 at_) ∧ a.tmps[9]? = some (vs) ∧ a.tmps[10]? = some (vo) ∧ a.tmps[11]? = some (.int .i64 (i : Int)) ∧ a.tmps[12]? = some (.int .i64 (k : Int)) ∧ a.tmps[22]? = some (.slice A ks.length c) ∧ a.tmps[23]? = some (.int .i64 (ks.length : Int)) ∧ a.tmps[24]? = some (.int .i64 (i : Int)) ∧ a.tmps[43]? = some (.agg (#[.int .i64 l.n0, .int .i64 l.p0, .int .i64 l.n1, .int .i64 l.p1])) ∧ a.tmps[44]? = some (.int .i64 s) ∧ Below B0 w2 w' ∧ WayAt w' B0 vs vo seen out ∧ (1 ≤ s → l.n0 ≠ at_) ∧ (2 ≤ s → l.n1 ≠ at_)) (fun a _ => 2 - (intOf (a.tmps.getD 44 undef)).toNat) ?_ ?_
      · exact ⟨0, by omega, hs, hd, e2, e3, e4, e8, e9, e10, e11, e12, e22, e23, e24, e43, e44, hb3, hW, fun h => by omega, fun h => by omega⟩
      clear hs hd e44 e2 e3 e4 e8 e9 e10 e11 e12 e22 e23 e24 e43 a hW hb3 BC3 BF3 hC3 hs3
      rintro a w5 ⟨s, ⟨hs0, hs2x⟩, hs, hd, e2, e3, e4, e8, e9, e10, e11, e12, e22, e23, e24, e43, e44, hb5, hW, hn0, hn1⟩
      have HN := Lib.hid (And.intro hn0 hn1)
      clear hn0 hn1
      have hmm := slot e44
      have hs5 : B0 ≤ w5.heap.size := Nat.le_trans hs2 hb5.size
      refine wp_seq_k fun Kq16 hKq16 => ?_
      by_cases hls : s < 2
      ·
        have ds : decide (s < 2) = true := decide_eq_true hls
        have hs01 : s = 0 ∨ s = 1 := by omega
        have HS := Lib.hid hs01
        refine sm_list [44] 45 1 hs hd (by kernel_rfl) (agC e44 agN) rfl ?_
        simp only [seval]
        go_wp2_with fail
        intro a H; replace hs := H.s hs; replace hd := H.d rfl; replace e44 := H.g 44 rfl rfl; replace e2 := H.k e2 rfl; replace e3 := H.k e3 rfl; replace e4 := H.k e4 rfl; replace e8 := H.k e8 rfl; replace e9 := H.k e9 rfl; replace e10 := H.k e10 rfl; replace e11 := H.k e11 rfl; replace e12 := H.k e12 rfl; replace e22 := H.k e22 rfl; replace e23 := H.k e23 rfl; replace e24 := H.k e24 rfl; replace e43 := H.k e43 rfl
        have e45 := H.g 45 rfl rfl; clear H; refine hKq16 _ _ ?_; clear hKq16 Kq16; refine wp_seq_k fun Kq17 hKq17 => ?_
        refine wp_cond_true (slotE e45) ?_
        clear e45; refine wp_skip ?_; refine hKq17 _ _ ?_; clear hKq17 Kq17; refine wp_seq_k fun Kq18 hKq18 => ?_; refine wp_block ?_; refine wp_seq_k fun Kq19 hKq19 => ?_
        suffices HK : ∀ (a' : Act) (w6 : World), a'.tmps.size = a.tmps.size → a'.defers = [] → a'.tmps[2]? = a.tmps[2]? → a'.tmps[3]? = a.tmps[3]? → a'.tmps[4]? = a.tmps[4]? → a'.tmps[8]? = a.tmps[8]? → a'.tmps[9]? = a.tmps[9]? → a'.tmps[10]? = a.tmps[10]? → a'.tmps[11]? = a.tmps[11]? → a'.tmps[12]? = a.tmps[12]? → a'.tmps[22]? = a.tmps[22]? → a'.tmps[23]? = a.tmps[23]? → a'.tmps[24]? = a.tmps[24]? → a'.tmps[43]? = a.tmps[43]? → a'.tmps[44]? = a.tmps[44]? → a'.tmps[14]? = some (.pointer (some ⟨w5.heap.size, 0, none⟩)) → a'.tmps[13]? = some (.int .i64 s) → Blk w6 w5.heap.size 61 #[.int .i64 (endX l s), .int .i64 (endY l s)] → Below w5.heap.size w5 w6 → WayAt w6 B0 vs vo seen out → Kq19 a' w6 by
          have hi0 : ∀ W : World, (Instr.index 78 (.agg (#[.int .i64 l.n0, .int .i64 l.p0, .int .i64 l.n1, .int .i64 l.p1])) (.int .i64 0)).run Try.prog W = .ok (.agg #[.int .i64 l.n0, .int .i64 l.p0]) W := fun W => by kernel_rfl
          have hi1 : ∀ W : World, (Instr.index 78 (.agg (#[.int .i64 l.n0, .int .i64 l.p0, .int .i64 l.n1, .int .i64 l.p1])) (.int .i64 1)).run Try.prog W = .ok (.agg #[.int .i64 l.n1, .int .i64 l.p1]) W := fun W => by kernel_rfl
          rcases hs01 with rfl | rfl
          all_goals
            refine sm_list [13, 14, 43, 44] 46 2 hs hd (by kernel_rfl) (agU (agU (agC e43 (agC e44 agN)))) rfl ?_
            simp only [seval]
            go_wp2_with (first | (refine wpList_store_new rfl 61 (.tmp 1) (.tmp 5) rfl rfl rfl rfl rfl (by kernel_rfl) (by rw [← Array.all_toList]; rfl) ?_) | fail)
            all_goals
              intro a' H
              refine HK a' _ H.size H.defers (H.out 2 rfl) (H.out 3 rfl) (H.out 4 rfl) (H.out 8 rfl) (H.out 9 rfl) (H.out 10 rfl) (H.out 11 rfl) (H.out 12 rfl) (H.out 22 rfl) (H.out 23 rfl) (H.out 24 rfl) ((H.got rfl rfl).trans e43.symm) ((H.got rfl rfl).trans e44.symm) ?_ ?_ ?_ ?_ ?_
              · exact H.got rfl rfl
              · exact H.got rfl rfl
              · exact Blk.new w5 _ _
              · exact (Below.refl _ _).alloc (Nat.le_refl _) _
              · exact hW.alloc _
        intro a' w6 g_s g_d g2 g3 g4 g8 g9 g10 g11 g12 g22 g23 g24 g43 g44 f14 f13 B14 b6 hW6
        replace hs := g_s.trans hs; replace hd := g_d; replace e2 := g2.trans e2; replace e3 := g3.trans e3; replace e4 := g4.trans e4; replace e8 := g8.trans e8; replace e9 := g9.trans e9; replace e10 := g10.trans e10; replace e11 := g11.trans e11; replace e12 := g12.trans e12; replace e22 := g22.trans e22; replace e23 := g23.trans e23; replace e24 := g24.trans e24; replace e43 := g43.trans e43; replace e44 := g44.trans e44
        clear g_s g_d g2 g3 g4 g8 g9 g10 g11 g12 g22 g23 g24 g43 g44
        have e14 := f14
        clear f14
        have e13 := f13
        clear f13; clear a
        obtain ⟨a, rfl⟩ : ∃ a, a = a' := ⟨_, rfl⟩
        refine hKq19 _ _ ?_; clear hKq19 Kq19; refine wp_seq_k fun Kq20 hKq20 => ?_; refine wp_seq_k fun Kq21 hKq21 => ?_
        obtain ⟨g14, hg14⟩ : ∃ g, g = w5.heap.size := ⟨_, rfl⟩
        rw [← hg14] at B14 e14
        clear hg14 hs01 ds hW
        have hb6 := hb5.trans (b6.mono hs5)
        clear hb5 b6
        have y0 := B14.cellOf (v := .int .i64 (endX l s)) 0 rfl
        obtain ⟨x, hx⟩ : ∃ x, x = endX l s := ⟨_, rfl⟩
        rw [← hx] at y0
        have HXX := Lib.hid hx
        clear hx
        by_cases hxa : x = at_
        rotate_left
        ·
          have dq : (x == at_) = false := beq_eq_false_iff_ne.2 hxa
          have dn : (x != at_) = true := bne_iff_ne.2 hxa
          have HQ := Lib.hid hxa
          clear hxa
          refine sm_list [8, 14] 48 4 hs hd (by kernel_rfl) (agC e8 (agC e14 agN)) rfl ?_
          simp only [seval]
          go_wp2_with fail
          intro a H; replace hs := H.s hs; replace hd := H.d rfl; replace e8 := H.g 8 rfl rfl; replace e14 := H.g 14 rfl rfl; replace e2 := H.k e2 rfl; replace e3 := H.k e3 rfl; replace e4 := H.k e4 rfl; replace e9 := H.k e9 rfl; replace e10 := H.k e10 rfl; replace e11 := H.k e11 rfl; replace e12 := H.k e12 rfl; replace e22 := H.k e22 rfl; replace e23 := H.k e23 rfl; replace e24 := H.k e24 rfl; replace e43 := H.k e43 rfl; replace e44 := H.k e44 rfl; replace e13 := H.k e13 rfl
          have e51 := H.g 51 rfl rfl; clear H; refine hKq21 _ _ ?_; clear hKq21 Kq21
          refine wp_cond_true (slotE e51) ?_
          clear e51; refine wp_exit ?_; refine exit_then rfl ?_; clear hKq20 Kq20; refine exit_hit ?_; refine hKq18 _ _ ?_; clear hKq18 Kq18; clear e13; clear e14
          refine sm_list [44] 92 1 hs hd (by kernel_rfl) (agC e44 agN) rfl ?_
          simp only [seval]
          go_wp2_with fail
          intro a H; replace hs := H.s hs; replace hd := H.d rfl; replace e2 := H.k e2 rfl; replace e3 := H.k e3 rfl; replace e4 := H.k e4 rfl; replace e8 := H.k e8 rfl; replace e9 := H.k e9 rfl; replace e10 := H.k e10 rfl; replace e11 := H.k e11 rfl; replace e12 := H.k e12 rfl; replace e22 := H.k e22 rfl; replace e23 := H.k e23 rfl; replace e24 := H.k e24 rfl; replace e43 := H.k e43 rfl; replace e44 := H.g 44 rfl rfl
          clear H
          refine ⟨⟨s + 1, by omega, hs, hd, e2, e3, e4, e8, e9, e10, e11, e12, e22, e23, e24, e43, e44, hb6, hW6, fun h e => ?_, fun h e => ?_⟩, by first | (simp only [hmm, slot e44, intOf]; omega) | (simp [e44, intOf]; omega)⟩
          · rcases HS.out with h0 | h0
            · exact HQ.out (by rw [HXX.out, h0]; exact e)
            · exact HN.out.1 (by omega) e
          · have h0 : s = 1 := by omega
            exact HQ.out (by rw [HXX.out, h0]; exact e)
        have dq : (x == at_) = true := by rw [hxa]; exact beq_self_eq_true _
        have dn : (x != at_) = false := by rw [hxa]; simp
        have HQ := Lib.hid hxa
        clear hxa
        refine sm_list [8, 14] 48 4 hs hd (by kernel_rfl) (agC e8 (agC e14 agN)) rfl ?_
        simp only [seval]
        go_wp2_with fail
        intro a H; replace hs := H.s hs; replace hd := H.d rfl; replace e8 := H.g 8 rfl rfl; replace e14 := H.g 14 rfl rfl; replace e2 := H.k e2 rfl; replace e3 := H.k e3 rfl; replace e4 := H.k e4 rfl; replace e9 := H.k e9 rfl; replace e10 := H.k e10 rfl; replace e11 := H.k e11 rfl; replace e12 := H.k e12 rfl; replace e22 := H.k e22 rfl; replace e23 := H.k e23 rfl; replace e24 := H.k e24 rfl; replace e43 := H.k e43 rfl; replace e44 := H.k e44 rfl; replace e13 := H.k e13 rfl
        have e51 := H.g 51 rfl rfl; clear H; refine hKq21 _ _ ?_; clear hKq21 Kq21
        refine wp_cond_false (slotE e51) ?_
        clear e51; refine wp_skip ?_; refine hKq20 _ _ ?_; clear hKq20 Kq20; have hst := go_hop (n := ks.length) (i := i) (seen := seen) (out := out) (ks := ks.drop (i + 1)) HL.out HS.out HN.out.1 (HXX.out.symm.trans HQ.out)
        have HST := Lib.hid hst
        clear hst y0 dq dn
        have e8q := e8
        refine way_hop C Y f sl q i k ks.length c B g4 g14 B B0 A s l vs vo seen out a w6 _ hs hd e2 e3 e4 e9 e10 e11 e12 e13 e14 e22 e23 e24 (hC.below (hb6.mono (Nat.le_of_lt hz3))) (BC.below hb6 hz3) (BF.below hb6 hz4) ⟨Nat.le_of_lt hz3, hz3, hz4, Nat.le_trans hs2 hb6.size⟩ B14 hq HCELL.out HL.out hlkl HS.out hW6 hlt hn (by omega) (by omega) ?_ ?_
        rotate_left
        · clear e8q e8 hs hd e2 e3 e4 e9 e10 e11 e12 e22 e23 e24 e43 a e13 e14 e44
          intro a w7 hs hd e6 e7 hb7 hbad
          have HBAD := Lib.hid hbad
          clear hbad
          have HV := Lib.hid (wayV_none (dst := f.dst) (HG.out.trans ((HST.out).trans (if_pos HBAD.out))))
          refine ret_block ?_; refine exit_then rfl ?_; refine exit_then rfl ?_; refine ret_block ?_; refine exit_then rfl ?_; refine ret_block ?_; refine exit_then rfl ?_; refine exit_then rfl ?_; refine ret_block ?_; refine exit_then rfl ?_
          refine scope_ok trivial ?_
          exact sm_ret2 rfl hd e6 e7 ⟨_, false, [], rfl, by rw [← HB.out]; exact LW.trans ((hb6.trans hb7).mono (Nat.le_of_lt hz3)), (fun h => by cases h), HV.out⟩
        clear e8q e8 hs hd e2 e3 e4 e9 e10 e11 e12 e22 e23 e24 e43 a e13 e14 e44
        intro a w7 vs2 vo2 hs hd e2 e3 e4 e22 e23 e24 e8 e9 e10 hb7 hW7 hgood
        have HG7 := Lib.hid (HG.out.trans (HST.out.trans (if_neg (by rw [hgood]; exact Bool.false_ne_true))))
        clear hgood
        refine exit_miss (by decide) ?_
        refine exit_then rfl ?_; clear hKq18 Kq18; refine exit_then rfl ?_
        refine exit_miss (by decide) ?_
        refine exit_then rfl ?_; clear hKq14 Kq14; refine exit_hit ?_; refine hKq10 _ _ ?_; clear hKq10 Kq10
        refine sm_list [24] 93 1 hs hd (by kernel_rfl) (agC e24 agN) rfl ?_
        simp only [seval]
        go_wp2_with fail
        intro a H; replace hs := H.s hs; replace hd := H.d rfl; replace e2 := H.k e2 rfl; replace e3 := H.k e3 rfl; replace e4 := H.k e4 rfl; replace e22 := H.k e22 rfl; replace e23 := H.k e23 rfl; replace e8 := H.k e8 rfl; replace e9 := H.k e9 rfl; replace e10 := H.k e10 rfl; replace e24 := H.g 24 rfl rfl; clear H
        exact ⟨⟨i + 1, _, _, _, vs2, vo2, by omega, hs, hd, e2, e3, e4, e22, e23, e24, e8, e9, e10, hb6.trans hb7, hW7, by simp [hsl], by simp [hol], HG7.out⟩, by first | (simp only [hm, slot e24, intOf]; omega) | (simp [e24, intOf]; omega)⟩
      · obtain rfl : s = 2 := by omega
        have ds : decide ((2 : Int) < 2) = false := rfl
        clear hls hmm
        have HV := Lib.hid (wayV_none (dst := f.dst) (HG.out.trans (go_none HL.out (HN.out.1 (by omega)) (HN.out.2 (by omega)))))
        refine sm_list [44] 45 1 hs hd (by kernel_rfl) (agC e44 agN) rfl ?_
        simp only [seval]
        go_wp2_with fail
        intro a H; replace hs := H.s hs; replace hd := H.d rfl; replace e44 := H.g 44 rfl rfl; replace e2 := H.k e2 rfl; replace e3 := H.k e3 rfl; replace e4 := H.k e4 rfl; replace e8 := H.k e8 rfl; replace e9 := H.k e9 rfl; replace e10 := H.k e10 rfl; replace e11 := H.k e11 rfl; replace e12 := H.k e12 rfl; replace e22 := H.k e22 rfl; replace e23 := H.k e23 rfl; replace e24 := H.k e24 rfl; replace e43 := H.k e43 rfl
        have e45 := H.g 45 rfl rfl; clear H; refine hKq16 _ _ ?_; clear hKq16 Kq16; refine wp_seq_k fun Kq17 hKq17 => ?_
        refine wp_cond_false (slotE e45) ?_
        clear e45; refine wp_exit ?_; refine exit_then rfl ?_; clear hKq17 Kq17; refine exit_then rfl ?_; refine exit_hit ?_; refine hKq14 _ _ ?_; clear hKq14 Kq14; refine wp_seq_k fun Kq18 hKq18 => ?_
        refine sm_list [] 6 2 hs hd (by kernel_rfl) agN rfl ?_
        simp only [seval]
        go_wp2_with fail
        intro a H; replace hs := H.s hs; replace hd := H.d rfl; replace e2 := H.k e2 rfl; replace e3 := H.k e3 rfl; replace e4 := H.k e4 rfl; replace e8 := H.k e8 rfl; replace e9 := H.k e9 rfl; replace e10 := H.k e10 rfl; replace e11 := H.k e11 rfl; replace e12 := H.k e12 rfl; replace e22 := H.k e22 rfl; replace e23 := H.k e23 rfl; replace e24 := H.k e24 rfl; replace e43 := H.k e43 rfl; replace e44 := H.k e44 rfl
        have e6 := H.g 6 rfl rfl; have e7 := H.g 7 rfl rfl; clear H; refine hKq18 _ _ ?_; clear hKq18 Kq18; refine wp_ret ?_; refine ret_block ?_; refine exit_then rfl ?_; refine exit_then rfl ?_; refine ret_block ?_; refine exit_then rfl ?_
        refine scope_ok trivial ?_
        exact sm_ret2 rfl hd e6 e7 ⟨_, false, [], rfl, by rw [← HB.out]; exact LW.trans (hb5.mono (Nat.le_of_lt hz3)), (fun h => by cases h), HV.out⟩
  · obtain rfl : i = ks.length := by omega
    have dj : decide ((ks.length : Int) < (ks.length : Int)) = false := decide_eq_false (by omega)
    clear hlt hm
    rw [List.drop_length] at HG
    have HV := Lib.hid (wayV_end (dst := f.dst) HG.out)
    refine sm_list [23, 24] 25 1 hs hd (by kernel_rfl) (agC e23 (agC e24 agN)) rfl ?_
    simp only [seval]
    go_wp2_with fail
    intro a H; replace hs := H.s hs; replace hd := H.d rfl; replace e23 := H.g 23 rfl rfl; replace e24 := H.g 24 rfl rfl; replace e2 := H.k e2 rfl; replace e3 := H.k e3 rfl; replace e4 := H.k e4 rfl; replace e22 := H.k e22 rfl; replace e8 := H.k e8 rfl; replace e9 := H.k e9 rfl; replace e10 := H.k e10 rfl; have e25 := H.g 25 rfl rfl; clear H; refine hKq8 _ _ ?_; clear hKq8 Kq8; refine wp_seq_k fun Kq9 hKq9 => ?_
    refine wp_cond_false (slotE e25) ?_
    clear e25; refine wp_exit ?_; refine exit_then rfl ?_; clear hKq9 Kq9; refine exit_then rfl ?_; refine exit_hit ?_; refine hKq6 _ _ ?_; clear hKq6 Kq6; refine wp_seq_k fun Kq10 hKq10 => ?_; clear e2; clear e3; clear e22; clear e23; clear e24; clear e9
    obtain ⟨Ao, co, rfl, hco, hro⟩ := ownsRow_reads hW.ro
    have BF3 := BF.below hb3 hz4
    have f1 := BF3.cellOf (v := .int .i64 f.dst) 1 rfl
    have hz43 : g4 < w3.heap.size := BF3.lt
    obtain ⟨L, hL⟩ : ∃ L, L = out.length := ⟨_, rfl⟩
    rw [← hL] at e10
    have HLL := Lib.hid hL
    have HOWN := Lib.hid hW.ro
    clear hL hro hol hsl hW
    suffices HK : ∀ (a' : Act) (w4 : World), a'.tmps.size = a.tmps.size → a'.defers = [] → a'.tmps[4]? = a.tmps[4]? → a'.tmps[8]? = a.tmps[8]? → a'.tmps[10]? = a.tmps[10]? → a'.tmps[6]? = some (.slice Ao L co) → a'.tmps[7]? = some (.bool (decide (0 < L ∧ at_ = f.dst))) → Below w3.heap.size w3 w4 → Kq10 a' w4 by
      obtain ⟨p, hp⟩ : ∃ p, p = decide ((0 : Int) < (L : Int)) := ⟨_, rfl⟩
      obtain ⟨p2, hp2⟩ : ∃ p, p = decide (0 < L) := ⟨_, rfl⟩
      obtain ⟨r, hr⟩ : ∃ r, r = (at_ == f.dst) := ⟨_, rfl⟩
      have hdq : (p = true → 0 < L) ∧ (p = false → L = 0) ∧ (r = true → at_ = f.dst) ∧ (r = false → at_ ≠ f.dst) := ⟨fun h => by rw [hp] at h; have := of_decide_eq_true h; omega, fun h => by rw [hp] at h; have := of_decide_eq_false h; omega, fun h => by rw [hr] at h; exact eq_of_beq h, fun h => by rw [hr] at h; exact ne_of_beq_false h⟩
      have hpp : p2 = p := by rw [hp, hp2]; exact decide_eq_decide.2 (by omega)
      subst hpp
      replace hp := hp.symm
      replace hp2 := hp2.symm
      replace hr := hr.symm
      have HDQ := Lib.hid hdq
      clear hdq
      cases p2 <;> cases r
      all_goals
        refine sm_any [4, 6, 7, 8, 10] 94 10 (by kernel_rfl) hs hd (by kernel_rfl) (agC e4 (agU (agU (agC e8 (agC e10 agN))))) rfl (any_class (fun w' => Below w3.heap.size w3 w') (by kernel_rfl) ((Below.refl _ _).drew) ?_)
        simp only [seval]
        repeat (first | (with_reducible (refine wpQuiet_skip ?_ ?_); (first | exact wanted_off rfl rfl rfl rfl | exact wanted_off2 rfl rfl rfl); simp only [Act.put, List.setIfInBounds_toArray, List.set_cons_zero, List.set_cons_succ]) | (with_reducible (refine wpQuiet_val (v := ?_) ?_ ?_ ?_); rotate_left; (first | exact wanted_none rfl | exact wanted_on rfl rfl rfl); (intro w' hw'; obtain ⟨hc, hf⟩ := bcell hw'; go_simp; with_reducible rfl); simp only [Act.put, List.setIfInBounds_toArray, List.set_cons_zero, List.set_cons_succ]))
        refine wpQuiet_nil ?_
        intro w4 hw4
        all_goals
          intro a' H
          refine HK a' _ H.size H.defers ((H.got rfl rfl).trans e4.symm) ((H.got rfl rfl).trans e8.symm) ((H.got rfl rfl).trans e10.symm) ?_ ?_ ?_
          · exact H.got rfl rfl
          · (refine (H.got (t := 7) rfl rfl).trans (congrArg some ?_); refine congrArg Value.bool ?_; first | exact (decide_eq_true (by have q := HDQ.out; simp at q; omega)).symm | exact (decide_eq_false (by have q := HDQ.out; simp at q; omega)).symm)
          · exact hw4
    intro a' w4 g_s g_d g4 g8 g10 f6 f7 b4
    replace hs := g_s.trans hs; replace hd := g_d; replace e4 := g4.trans e4; replace e8 := g8.trans e8; replace e10 := g10.trans e10; clear g_s g_d g4 g8 g10
    have e6 := f6
    clear f6
    have e7 := f7
    clear f7; clear a
    obtain ⟨a, rfl⟩ : ∃ a, a = a' := ⟨_, rfl⟩
    refine hKq10 _ _ ?_; clear hKq10 Kq10; refine wp_ret ?_
    refine scope_ok trivial ?_
    refine sm_ret2 rfl hd e6 e7 ⟨_, _, out, rfl, by rw [← HB.out]; exact LW.trans ((hb3.mono (Nat.le_of_lt hz3)).trans (b4.mono (Nat.le_trans (Nat.le_of_lt hz3) (Nat.le_trans hs2 hb3.size)))), fun _ => ?_, ?_⟩
    · rw [← HB.out]; have h := HOWN.out; rw [← HLL.out] at h ⊢; exact ownsRow_base (h.kept (row := none) (gr_below b4 none) (by cases (Value.slice Ao L co).ownBlock <;> simp)) (Nat.le_of_lt hz3)
    · rw [HV.out, HLL.out]; by_cases h : 0 < out.length ∧ at_ = f.dst <;> simp [h]
end Go.Proofs.Ytaegngcbiefckaa
