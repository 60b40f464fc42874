/-
  The reference goes along both ways.
-/
import Derived.Test.YtaegngcbiefckaaRmHpZ
namespace Go.Proofs.Ytaegngcbiefckaa
set_option linter.unusedSimpArgs false
set_option linter.unusedVariables false
open Go.RowKit Go.WideShapes Go.ChangeShapes
attribute [local go_sem ↓] Go.wp_at_zero Go.wp_at_succ

set_option maxRecDepth 100000 in
set_option maxHeartbeats 4000000 in
theorem rm_ways (C : Cf) (R : RL) (f : Fw) (sl : Sl × Sl) (off : Int) (i g1 g2 g5 g7 g10 : Nat) (A : Nat → Option Addr) (c : Nat → Nat) (xs ys : List (Int × Int)) (S : List Sp) (W : List (Int × Int)) (vW vS : Value) (v9 v46 v47 v48 : Value) (a : Act) (w : World) (Q : Exit → Act → World → Prop)
    (hs : a.tmps.size = 388) (hd : a.defers = []) (e1 : a.tmps[1]? = some (.pointer (some ⟨g1, 0, none⟩))) (e2 : a.tmps[2]? = some (.pointer (some ⟨g2, 0, none⟩))) (e5 : a.tmps[5]? = some (.pointer (some ⟨g5, 0, none⟩))) (e6 : a.tmps[6]? = some (.int .i64 (i : Int))) (e7 : a.tmps[7]? = some (.pointer (some ⟨g7, 0, none⟩))) (e9 : a.tmps[9]? = some (v9)) (e10 : a.tmps[10]? = some (.pointer (some ⟨g10, 0, none⟩))) (e24 : a.tmps[24]? = some (.int .i64 4611686018427387904)) (e25 : a.tmps[25]? = some (.int .i64 0)) (e46 : a.tmps[46]? = some (v46)) (e47 : a.tmps[47]? = some (v47)) (e48 : a.tmps[48]? = some (v48))
    (hC : RfAt w g1 C R) (BC : Blk w g1 42 (rfc C R)) (B2 : Blk w g2 47 #[.int .i64 0, .slice none 0 0, .slice none 0 0]) (B7 : Blk w g7 96 #[.int .i64 f.src, .int .i64 f.dst, .int .i64 f.start, .int .i64 f.len, .int .i64 f.size, .int .i64 f.late]) (B10 : Blk w g10 99 #[.slice (A 0) (two xs ys 0).length (c 0), .slice (A 1) (two xs ys 1).length (c 1)]) (hP : PBx w g5 off W S vW vS) (hord : g1 < g5 ∧ g2 < g5 ∧ g5 < g7 ∧ g5 < g10)
    (hO : ∀ q, q < 2 → w.ownsRow (g5 + 1) 53 2 (.slice (A q) (two xs ys q).length (c q)) (two xs ys q).length ((two xs ys q).flatMap ecc)) (hfl : C.flows[i]? = some f) (hsl : R.ws[i]? = some sl) (hfn : C.flows.length ≤ 16)
    (hx : wayV C f.src f.dst f.w0 = some xs) (hy : wayV C f.src f.dst f.w1 = some ys) (hlong : ¬ (16 < f.w0.length ∨ 16 < f.w1.length))
    (hW : Well C) (hoff : 0 ≤ off ∧ off ≤ 1000000000000000) (hf : (0 ≤ f.start ∧ f.start ≤ 1073741824) ∧ (0 ≤ f.len ∧ f.len ≤ 1073741824) ∧ (64 ≤ f.size ∧ f.size ≤ 1600)) (hS : S.length ≤ 1000)
    (hend : ∀ (a : Act) (w' : World) (S' : List Sp) (vS' : Value) (low high : Int), a.tmps.size = 388 → a.defers = [] → a.tmps[1]? = some (.pointer (some ⟨g1, 0, none⟩)) → a.tmps[2]? = some (.pointer (some ⟨g2, 0, none⟩)) → a.tmps[5]? = some (.pointer (some ⟨g5, 0, none⟩)) → a.tmps[6]? = some (.int .i64 (i : Int)) → a.tmps[7]? = some (.pointer (some ⟨g7, 0, none⟩)) → a.tmps[9]? = some (v9) → a.tmps[10]? = some (.pointer (some ⟨g10, 0, none⟩)) → a.tmps[46]? = some (v46) → a.tmps[47]? = some (v47) → a.tmps[48]? = some (v48) → a.tmps[24]? = some (.int .i64 low) → a.tmps[25]? = some (.int .i64 high) → FrT g5 103 w w' → PBx w' g5 off W S' vW vS' →
      S'.length ≤ S.length + 32 → (0 ≤ high ∧ high ≤ 64000000) → waysL C off f [(xs.length, xs, f.w0), (ys.length, ys, f.w1)] S 4611686018427387904 0 = .ok (S', (low, high)) → Q .normal a w')
    (hret : ∀ (a : Act) (w' : World), a.tmps.size = 388 → a.defers = [] → a.tmps[2]? = some (.pointer (some ⟨g2, 0, none⟩)) → a.tmps[3]? = some (.int .i64 61) → Below (min g1 g2) w w' → Blk w' g2 47 #[.int .i64 0, .slice none 0 0, .slice none 0 0] → waysL C off f [(xs.length, xs, f.w0), (ys.length, ys, f.w1)] S 4611686018427387904 0 = .error 61 → Q .ret a w') :
    Code.wp Try.prog (sub [true, true, true, true, false, true, false, false, true, true, false, false, true, true, true, true, true, true, true, true, true, true, true, false] (bodyOf Try.f13)) Q a w := by
  conv => arg 2; whnf
  have HEND := Lib.hid (And.intro hend hret)
  have HW := Lib.hid hW
  have HF := Lib.hid hf
  have HOFF := Lib.hid hoff
  have HFL := Lib.hid hfl
  have HSL := Lib.hid hsl
  have HO := Lib.hid hO
  obtain ⟨hn0, hr0, hk00⟩ := wayV_good hW hx
  obtain ⟨hn1, hr1, hk11⟩ := wayV_good hW hy
  have HQA : Hid (∀ q, q < 2 → (two f.w0 f.w1 q).length = (two xs ys q).length ∧ (two xs ys q).length ≤ 16 ∧ ∀ k ∈ two f.w0 f.w1 q, 0 ≤ k ∧ k < (C.links.length : Int)) := Lib.hid fun q hq => by
    rcases (by omega : q = 0 ∨ q = 1) with rfl | rfl
    · exact ⟨hn0.symm, by show xs.length ≤ 16; omega, hr0⟩
    · exact ⟨hn1.symm, by show ys.length ≤ 16; omega, hr1⟩
  have HC := Lib.hid hC
  clear hend hret hW hf hoff hfl hsl hO hn0 hr0 hk00 hn1 hr1 hk11 hx hy hlong hC
  obtain ⟨ho1, ho2, ho3, ho4⟩ := hord
  refine wp_seq_k fun Kq1 hKq1 => ?_
  refine sm_list [] 26 1 hs hd (by kernel_rfl) agN rfl ?_
  simp only [seval]
  go_wp2_with fail
  intro a H; replace hs := H.s hs; replace hd := H.d rfl; replace e1 := H.k e1 rfl; replace e2 := H.k e2 rfl; replace e5 := H.k e5 rfl; replace e6 := H.k e6 rfl; replace e7 := H.k e7 rfl; replace e9 := H.k e9 rfl; replace e10 := H.k e10 rfl; replace e24 := H.k e24 rfl; replace e25 := H.k e25 rfl; replace e46 := H.k e46 rfl; replace e47 := H.k e47 rfl; replace e48 := H.k e48 rfl; have e26 := H.g 26 rfl rfl
  clear H; refine hKq1 _ _ ?_; clear hKq1 Kq1; refine wp_block ?_
  refine wp_loop (fun a w' => ∃ (q : Nat) (wl wh : Int) (S' : List Sp) (vS' : Value), q ≤ 2 ∧ S'.length ≤ S.length + 16 * q ∧ (0 ≤ wh ∧ wh ≤ 64000000) ∧ a.tmps.size = 388 ∧ a.defers = [] ∧ a.tmps[1]? = some (.pointer (some ⟨g1, 0, none⟩)) ∧ a.tmps[2]? = some (.pointer (some ⟨g2, 0, none⟩)) ∧ a.tmps[5]? = some (.pointer (some ⟨g5, 0, none⟩)) ∧ a.tmps[6]? = some (.int .i64 (i : Int)) ∧ a.tmps[7]? = some (.pointer (some ⟨g7, 0, none⟩)) ∧ a.tmps[9]? = some (v9) ∧ a.tmps[10]? = some (.pointer (some ⟨g10, 0, none⟩)) ∧ a.tmps[46]? = some (v46) ∧ a.tmps[47]? = some (v47) ∧ a.tmps[48]? = some (v48) ∧ a.tmps[26]? = some (.int .i64 (q : Int)) ∧ a.tmps[24]? = some (.int .i64 wl) ∧ a.tmps[25]? = some (.int .i64 wh) ∧ FrT g5 103 w w' ∧ PBx w' g5 off W S' vW vS' ∧ WInv C off f [(xs.length, xs, f.w0), (ys.length, ys, f.w1)] S q S' wl wh) (fun a _ => 2 - (intOf (a.tmps.getD 26 undef)).toNat) ?_ ?_
  · exact ⟨0, 4611686018427387904, 0, S, vS, by omega, by omega, by omega, hs, hd, e1, e2, e5, e6, e7, e9, e10, e46, e47, e48, e26, e24, e25, FrT.refl, hP, WInv.start⟩
  clear hs hd e26 e24 e25 e1 e2 e5 e6 e7 e9 e10 e46 e47 e48 a hP
  rintro a w3 ⟨q, wl, wh, S', vS', hq, hsl, ⟨hh1, hh2⟩, hs, hd, e1, e2, e5, e6, e7, e9, e10, e46, e47, e48, e26, e24, e25, hfr, hP, hG⟩
  have HG := Lib.hid hG
  clear hG
  have hm := slot e26
  refine wp_seq_k fun Kq2 hKq2 => ?_; refine wp_seq_k fun Kq3 hKq3 => ?_
  by_cases hlt : q < 2
  ·
    have dj : decide ((q : Int) < 2) = true := decide_eq_true (by omega)
    have dj2 : decide (q < 2) = true := decide_eq_true hlt
    have HTS : Hid ([(xs.length, xs, f.w0), (ys.length, ys, f.w1)][q]? = some ((two xs ys q).length, two xs ys q, two f.w0 f.w1 q)) := Lib.hid (by rcases (by omega : q = 0 ∨ q = 1) with rfl | rfl <;> rfl)
    have HSB := Lib.hid hsl
    have hsb : S'.length ≤ 1032 := by omega
    clear hsl
    refine sm_list [26] 207 2 hs hd (by kernel_rfl) (agC e26 agN) rfl ?_
    simp only [seval]
    go_wp2_with fail
    intro a H; replace hs := H.s hs; replace hd := H.d rfl; replace e26 := H.g 26 rfl rfl; replace e1 := H.k e1 rfl; replace e2 := H.k e2 rfl; replace e5 := H.k e5 rfl; replace e6 := H.k e6 rfl; replace e7 := H.k e7 rfl; replace e9 := H.k e9 rfl; replace e10 := H.k e10 rfl; replace e46 := H.k e46 rfl; replace e47 := H.k e47 rfl; replace e48 := H.k e48 rfl; replace e24 := H.k e24 rfl; replace e25 := H.k e25 rfl
    have e208 := H.g 208 rfl rfl; clear H; refine hKq3 _ _ ?_; clear hKq3 Kq3
    refine wp_cond_true (slotE e208) ?_
    clear e208; refine wp_skip ?_; refine hKq2 _ _ ?_; clear hKq2 Kq2; refine wp_seq_k fun Kq4 hKq4 => ?_; refine wp_block ?_; refine wp_seq_k fun Kq5 hKq5 => ?_
    refine sm_list [] 27 1 hs hd (by kernel_rfl) agN rfl ?_
    simp only [seval]
    go_wp2_with fail
    intro a H; replace hs := H.s hs; replace hd := H.d rfl; replace e1 := H.k e1 rfl; replace e2 := H.k e2 rfl; replace e5 := H.k e5 rfl; replace e6 := H.k e6 rfl; replace e7 := H.k e7 rfl; replace e9 := H.k e9 rfl; replace e10 := H.k e10 rfl; replace e46 := H.k e46 rfl; replace e47 := H.k e47 rfl; replace e48 := H.k e48 rfl; replace e26 := H.k e26 rfl; replace e24 := H.k e24 rfl; replace e25 := H.k e25 rfl
    have e27 := H.g 27 rfl rfl; clear H; refine hKq5 _ _ ?_; clear hKq5 Kq5; refine wp_seq_k fun Kq6 hKq6 => ?_
    refine sm_list [] 28 1 hs hd (by kernel_rfl) agN rfl ?_
    simp only [seval]
    go_wp2_with fail
    intro a H; replace hs := H.s hs; replace hd := H.d rfl; replace e1 := H.k e1 rfl; replace e2 := H.k e2 rfl; replace e5 := H.k e5 rfl; replace e6 := H.k e6 rfl; replace e7 := H.k e7 rfl; replace e9 := H.k e9 rfl; replace e10 := H.k e10 rfl; replace e46 := H.k e46 rfl; replace e47 := H.k e47 rfl; replace e48 := H.k e48 rfl; replace e26 := H.k e26 rfl; replace e24 := H.k e24 rfl; replace e25 := H.k e25 rfl; replace e27 := H.k e27 rfl
    have e28 := H.g 28 rfl rfl; clear H; refine hKq6 _ _ ?_; clear hKq6 Kq6; refine wp_seq_k fun Kq7 hKq7 => ?_; clear dj dj2
    obtain ⟨qa, qb, qc⟩ := HQA.out q hlt
    have hfr3 := hfr
    have hC3 := HC.out.below (hfr.low.mono (Nat.le_of_lt ho1))
    have BC3 : Blk w3 g1 42 (rfc C R) := hfr.blk2 BC ho1
    have B23 : Blk w3 g2 47 #[.int .i64 0, .slice none 0 0, .slice none 0 0] := hfr.blk2 B2 ho2
    have B73 : Blk w3 g7 96 #[.int .i64 f.src, .int .i64 f.dst, .int .i64 f.start, .int .i64 f.len, .int .i64 f.size, .int .i64 f.late] := hfr.blk B7 (by decide) (by omega)
    have B103 : Blk w3 g10 99 #[.slice (A 0) (two xs ys 0).length (c 0), .slice (A 1) (two xs ys 1).length (c 1)] := hfr.blk B10 (by decide) (by omega)
    have hO3 := hfr.own (HO.out q hlt) (by decide) (fun k hk => by have := (ownsRow_lt (HO.out q hlt) k hk).1; omega)
    have hcq : (#[.slice (A 0) (two xs ys 0).length (c 0), .slice (A 1) (two xs ys 1).length (c 1)] : Array Value)[q]? = some (.slice (A q) (two xs ys q).length (c q)) := by rcases (by omega : q = 0 ∨ q = 1) with rfl | rfl <;> rfl
    have HKR := Lib.hid qc
    clear qc
    refine rm_hops C R f sl off i q (two xs ys q).length (c q) g1 g2 g5 g7 g10 0 (A q) _ (two xs ys q) (two f.w0 f.w1 q) S' W vW vS' _ _ _ _ _ _ a w3 _ hs hd e1 e2 e5 e6 e7 e9 e10 e24 e25 e26 e27 e28 e46 e47 e48 hC3 BC3 B23 B73 B103 hP ⟨ho1, ho2, ho3, ho4⟩ hcq hO3 HFL.out HSL.out hfn hlt rfl qb qa rfl HKR.out HW.out HOFF.out HF.out (by omega) ?_ ?_
    rotate_left
    · clear hs hd e1 e2 e5 e6 e7 e9 e10 e24 e25 e26 e27 e28 e46 e47 e48 hC3 BC3 B23 B73 B103 hcq hO3 hP
      intro a w7 hs hd e2 e3 hb7 B27 hV
      have HV := Lib.hid (HG.out.bad HTS.out hV)
      clear hV; refine exit_then rfl ?_; refine ret_block ?_; refine exit_then rfl ?_; refine exit_then rfl ?_; refine ret_block ?_
      exact HEND.out.2 _ w7 hs hd e2 e3 ((hfr.low.mono (by omega)).trans hb7) B27 HV.out
    clear hs hd e1 e2 e5 e6 e7 e9 e10 e24 e25 e26 e27 e28 e46 e47 e48 hC3 BC3 B23 B73 B103 hcq hO3 hP
    intro a w7 S7 vS7 low high hs hd e1 e2 e5 e6 e7 e9 e10 e24 e25 e26 e46 e47 e48 e27 e28 hfr7 hP7 hsl7 hlow hhigh hV
    have HST := Lib.hid (HG.out.step HTS.out hV)
    clear hV
    have hfr8 := hfr.trans hfr7
    clear hfr hfr7 hfr3
    have hsx : S7.length ≤ S.length + 16 * (q + 1) := by have := HSB.out; omega
    have HSX := Lib.hid hsx
    clear hsl7 hsx; refine hKq7 _ _ ?_; clear hKq7 Kq7; refine wp_seq_k fun Kq8 hKq8 => ?_
    refine sm_list [24, 27] 321 3 hs hd (by kernel_rfl) (agC e24 (agC e27 agN)) rfl ?_
    simp only [seval]
    go_wp2_with fail
    intro a H; replace hs := H.s hs; replace hd := H.d rfl; replace e27 := H.g 27 rfl rfl; replace e1 := H.k e1 rfl; replace e2 := H.k e2 rfl; replace e5 := H.k e5 rfl; replace e6 := H.k e6 rfl; replace e7 := H.k e7 rfl; replace e9 := H.k e9 rfl; replace e10 := H.k e10 rfl; replace e25 := H.k e25 rfl; replace e26 := H.k e26 rfl; replace e46 := H.k e46 rfl; replace e47 := H.k e47 rfl; replace e48 := H.k e48 rfl; replace e28 := H.k e28 rfl
    replace e24 := H.g 24 rfl rfl; clear H; refine hKq8 _ _ ?_; clear hKq8 Kq8
    refine sm_list [25, 28] 324 3 hs hd (by kernel_rfl) (agC e25 (agC e28 agN)) rfl ?_
    simp only [seval]
    go_wp2_with fail
    intro a H; replace hs := H.s hs; replace hd := H.d rfl; replace e28 := H.g 28 rfl rfl; replace e1 := H.k e1 rfl; replace e2 := H.k e2 rfl; replace e5 := H.k e5 rfl; replace e6 := H.k e6 rfl; replace e7 := H.k e7 rfl; replace e9 := H.k e9 rfl; replace e10 := H.k e10 rfl; replace e26 := H.k e26 rfl; replace e46 := H.k e46 rfl; replace e47 := H.k e47 rfl; replace e48 := H.k e48 rfl; replace e27 := H.k e27 rfl; replace e24 := H.k e24 rfl
    replace e25 := H.g 25 rfl rfl; clear H; refine hKq4 _ _ ?_; clear hKq4 Kq4; clear e27; clear e28
    refine sm_list [26] 209 2 hs hd (by kernel_rfl) (agC e26 agN) rfl ?_
    simp only [seval]
    go_wp2_with fail
    intro a H; replace hs := H.s hs; replace hd := H.d rfl; replace e1 := H.k e1 rfl; replace e2 := H.k e2 rfl; replace e5 := H.k e5 rfl; replace e6 := H.k e6 rfl; replace e7 := H.k e7 rfl; replace e9 := H.k e9 rfl; replace e10 := H.k e10 rfl; replace e46 := H.k e46 rfl; replace e47 := H.k e47 rfl; replace e48 := H.k e48 rfl; replace e24 := H.k e24 rfl; replace e25 := H.k e25 rfl; replace e26 := H.g 26 rfl rfl
    clear H
    exact ⟨⟨q + 1, _, _, S7, vS7, by omega, HSX.out, by omega, hs, hd, e1, e2, e5, e6, e7, e9, e10, e46, e47, e48, e26, e24, e25, hfr8, hP7, HST.out⟩, by first | (simp only [hm, slot e26, intOf]; omega) | (simp [e26, intOf]; omega)⟩
  · have hje : q = 2 := by omega
    have dj : decide ((q : Int) < 2) = false := decide_eq_false (by omega)
    have dj2 : decide (q < 2) = false := decide_eq_false hlt
    have HSB := Lib.hid hsl
    rw [hje] at HG HSB
    clear hlt hm hje hsl
    have HV := Lib.hid (HG.out.done (Nat.le_refl _))
    refine sm_list [26] 207 2 hs hd (by kernel_rfl) (agC e26 agN) rfl ?_
    simp only [seval]
    go_wp2_with fail
    intro a H; replace hs := H.s hs; replace hd := H.d rfl; replace e26 := H.g 26 rfl rfl; replace e1 := H.k e1 rfl; replace e2 := H.k e2 rfl; replace e5 := H.k e5 rfl; replace e6 := H.k e6 rfl; replace e7 := H.k e7 rfl; replace e9 := H.k e9 rfl; replace e10 := H.k e10 rfl; replace e46 := H.k e46 rfl; replace e47 := H.k e47 rfl; replace e48 := H.k e48 rfl; replace e24 := H.k e24 rfl; replace e25 := H.k e25 rfl
    have e208 := H.g 208 rfl rfl; clear H; refine hKq3 _ _ ?_; clear hKq3 Kq3
    refine wp_cond_false (slotE e208) ?_
    clear e208; refine wp_exit ?_; refine exit_then rfl ?_; clear hKq2 Kq2; refine exit_then rfl ?_; refine exit_hit ?_
    exact HEND.out.1 a w3 S' vS' wl wh hs hd e1 e2 e5 e6 e7 e9 e10 e46 e47 e48 e24 e25 hfr hP (by have := HSB.out; omega) ⟨hh1, hh2⟩ HV.out
end Go.Proofs.Ytaegngcbiefckaa
