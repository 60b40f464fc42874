/-
  Both ways of a flow.
-/
import Derived.Test.YtaegngcbiefckaaPlnHop
namespace Go.Proofs.Ytaegngcbiefckaa
set_option linter.unusedSimpArgs false
set_option linter.unusedVariables false
open Go.RowKit Go.WideShapes Go.ChangeShapes
attribute [local go_sem ↓] Go.wp_at_zero Go.wp_at_succ

def waysL (C : Cf) (off : Int) (f : Fw) : List (Nat × List (Int × Int) × List Int) → List Sp → Int → Int → Except Int (List Sp × (Int × Int))
  | [], S, l, h => .ok (S, (l, h))
  | (n, es, ks) :: r, S, l, h => match hopsGo C off f n 0 S es ks 0 0 with
    | .error e => .error e
    | .ok (S', lo, hi) => waysL C off f r S' (min l lo) (max h hi)
def WInv (C : Cf) (off : Int) (f : Fw) (ts : List (Nat × List (Int × Int) × List Int)) (S : List Sp) (i : Nat) (S' : List Sp) (l h : Int) : Prop := waysL C off f ts S 4611686018427387904 0 = waysL C off f (ts.drop i) S' l h
section
variable {C : Cf} {off l h lo hi : Int} {f : Fw} {ts : List (Nat × List (Int × Int) × List Int)} {S S' S2 : List Sp} {i n : Nat} {es : List (Int × Int)} {ks : List Int}
theorem WInv.start : WInv C off f ts S 0 S 4611686018427387904 0 := rfl
theorem WInv.step (H : WInv C off f ts S i S' l h) (ht : ts[i]? = some (n, es, ks)) (hg : hopsGo C off f n 0 S' es ks 0 0 = .ok (S2, lo, hi)) : WInv C off f ts S (i + 1) S2 (min l lo) (max h hi) := by
  unfold WInv at H ⊢
  rw [H, drop_get ht, waysL, hg]
theorem WInv.bad (H : WInv C off f ts S i S' l h) (ht : ts[i]? = some (n, es, ks)) {e : Int} (hg : hopsGo C off f n 0 S' es ks 0 0 = .error e) : waysL C off f ts S 4611686018427387904 0 = .error e := by
  unfold WInv at H
  rw [H, drop_get ht, waysL, hg]
theorem WInv.done (H : WInv C off f ts S i S' l h) (hi : ts.length ≤ i) : waysL C off f ts S 4611686018427387904 0 = .ok (S', (l, h)) := by
  unfold WInv at H
  rw [H, List.drop_eq_nil_of_le hi, waysL]
end
/-- What is known of both ways of a flow. -/
structure Wy (C : Cf) (f : Fw) (sl : Sl × Sl) (w : World) (L gm : Nat) (A A2 : Nat → Option Addr) (n c c2 : Nat → Nat) (es : Nat → List (Int × Int)) (ks : Nat → List Int) (q : Nat) : Prop where
  cell : (fwc f sl).toArray[2 + q]? = some (.slice (A2 q) (ks q).length (c2 q))
  k : Reads w L 1 (A2 q) (ks q).length ((ks q).map (Value.int .i64))
  own : w.ownsRow (gm + 1) 61 2 (.slice (A q) (n q) (c q)) (n q) ((es q).flatMap ecc)
  oke : ∀ e ∈ es q, okE e
  n16 : n q ≤ 16
  kn : (ks q).length = n q
  kr : ∀ k ∈ ks q, 0 ≤ k ∧ k < (C.links.length : Int)
theorem Wy.fr {C : Cf} {f : Fw} {sl : Sl × Sl} {w w' : World} {L gm g14 : Nat} {A A2 : Nat → Option Addr} {n c c2 : Nat → Nat} {es : Nat → List (Int × Int)} {ks : Nat → List Int} {q : Nat} (h : Wy C f sl w L gm A A2 n c c2 es ks q) {X : List Nat} (hf : FrH gm X w w')
    (hX : ∀ k, (Value.slice (A q) (n q) (c q)).ownBlock = some k → k ∉ X) (hL : L ≤ gm) (hz : gm ≤ w.heap.size) : Wy C f sl w' L gm A A2 n c c2 es ks q :=
  ⟨h.cell, h.k.below ((hf.below hz).mono hL), hf.own h.own (by decide) (fun k hk => ⟨by have := (ownsRow_lt h.own k hk).1; omega, hX k hk⟩), h.oke, h.n16, h.kn, h.kr⟩
set_option maxRecDepth 100000 in
set_option maxHeartbeats 4000000 in
theorem mk_ways (C : Cf) (Y : Lay) (f : Fw) (sl : Sl × Sl) (off : Int) (L g1 g2 g9 g14 gm B0 m : Nat) (A A2 : Nat → Option Addr) (n c c2 : Nat → Nat) (es : Nat → List (Int × Int)) (ks : Nat → List Int) (S : List Sp) (fm : Int × Int → Option Value) (v6 v42 v43 v44 : Value) (a : Act) (w : World) (Q : Exit → Act → World → Prop)
    (hs : a.tmps.size = 317) (hd : a.defers = []) (e1 : a.tmps[1]? = some (.pointer (some ⟨g1, 0, none⟩))) (e2 : a.tmps[2]? = some (.pointer (some ⟨g2, 0, none⟩))) (e5 : a.tmps[5]? = some (.int .i64 off)) (e6 : a.tmps[6]? = some (v6)) (e7 : a.tmps[7]? = some (.map (some gm))) (e9 : a.tmps[9]? = some (.pointer (some ⟨g9, 0, none⟩))) (e10 : a.tmps[10]? = some (.slice (A 0) (n 0) (c 0))) (e12 : a.tmps[12]? = some (.slice (A 1) (n 1) (c 1))) (e14 : a.tmps[14]? = some (.pointer (some ⟨g14, 0, none⟩))) (e42 : a.tmps[42]? = some (v42)) (e43 : a.tmps[43]? = some (v43)) (e44 : a.tmps[44]? = some (v44))
    (hC : CfAt w L C Y) (BC : Blk w g1 26 (cfc C Y)) (BF : Blk w g9 74 (fwc f sl).toArray) (B2 : Blk w g2 32 #[.int .i64 0, .slice none 0 0, .map none]) (B14 : Blk w g14 52 #[.int .i64 4611686018427387904, .int .i64 0]) (hord : L ≤ g1 ∧ L ≤ g2 ∧ g1 < gm ∧ g2 < gm ∧ gm < g9 ∧ g9 < g14)
    (SM : SpM w B0 gm m fm S) (hwy : ∀ q, q < 2 → Wy C f sl w L gm A A2 n c c2 es ks q) (hap : ∀ q k, q < 2 → (Value.slice (A q) (n q) (c q)).ownBlock = some k → k ≠ g14)
    (hW : Well C) (hoff : 0 ≤ off ∧ off ≤ 1000000000000000) (hf : (0 ≤ f.start ∧ f.start ≤ 1073741824) ∧ (0 ≤ f.len ∧ f.len ≤ 1073741824) ∧ (64 ≤ f.size ∧ f.size ≤ 1600)) (hS : S.length ≤ 1000)
    (hend : ∀ (a : Act) (w' : World) (m' : Nat) (fm' : Int × Int → Option Value) (S' : List Sp) (low high : Int), a.tmps.size = 317 → a.defers = [] → a.tmps[1]? = some (.pointer (some ⟨g1, 0, none⟩)) → a.tmps[2]? = some (.pointer (some ⟨g2, 0, none⟩)) → a.tmps[5]? = some (.int .i64 off) → a.tmps[6]? = some (v6) → a.tmps[7]? = some (.map (some gm)) → a.tmps[9]? = some (.pointer (some ⟨g9, 0, none⟩)) → a.tmps[14]? = some (.pointer (some ⟨g14, 0, none⟩)) → a.tmps[42]? = some (v42) → a.tmps[43]? = some (v43) → a.tmps[44]? = some (v44) → FrH gm [g14] w w' → SpM w' B0 gm m' fm' S' → Blk w' g14 52 #[.int .i64 low, .int .i64 high] →
      S'.length ≤ S.length + 32 → (0 ≤ high ∧ high ≤ 64000000) → waysL C off f [(n 0, es 0, ks 0), (n 1, es 1, ks 1)] S 4611686018427387904 0 = .ok (S', (low, high)) → Q .normal a w')
    (hret : ∀ (a : Act) (w' : World), a.tmps.size = 317 → a.defers = [] → a.tmps[2]? = some (.pointer (some ⟨g2, 0, none⟩)) → a.tmps[3]? = some (.int .i64 61) → Below L w w' → Blk w' g2 32 #[.int .i64 0, .slice none 0 0, .map none] → waysL C off f [(n 0, es 0, ks 0), (n 1, es 1, ks 1)] S 4611686018427387904 0 = .error 61 → Q .ret a w') :
    Code.wp Try.prog (sub [true, true, true, true, true, false, true, false, false, true, true, false, false, true, true, true, true, true, true, true, false] (bodyOf Try.f11)) Q a w := by
  conv => arg 2; whnf
  have HEND := Lib.hid (And.intro hend hret)
  have HWY := Lib.hid hwy
  have HAP := Lib.hid hap
  have HW := Lib.hid hW
  have HF := Lib.hid hf
  have HOFF := Lib.hid hoff
  clear hend hret hwy hap hW hf hoff
  obtain ⟨ho1, ho2, ho3, ho4, ho5, ho6⟩ := hord
  refine wp_seq_k fun Kq1 hKq1 => ?_
  have L1 : Below w.heap.size w (w.alloc (.cells #[.slice (A 0) (n 0) (c 0), .slice (A 1) (n 1) (c 1)] 87)) := (Below.refl _ _).alloc (Nat.le_refl _) _
  have BL := Blk.new w 87 #[.slice (A 0) (n 0) (c 0), .slice (A 1) (n 1) (c 1)]
  have SM1 := SM.keep L1
  have hfr1 : FrH gm [g14] w (w.alloc (.cells #[.slice (A 0) (n 0) (c 0), .slice (A 1) (n 1) (c 1)] 87)) := FrH.be L1
  have B14a := B14.kept L1
  have hgmz : gm ≤ w.heap.size := Nat.le_trans (Nat.le_of_lt SM.lt) SM.hz
  refine sm_list [10, 12] 160 5 hs hd (by kernel_rfl) (agC e10 (agC e12 agN)) rfl ?_
  simp only [seval]
  go_wp2_with fail
  intro a H; replace hs := H.s hs; replace hd := H.d rfl; replace e10 := H.g 10 rfl rfl; replace e12 := H.g 12 rfl rfl; replace e1 := H.k e1 rfl; replace e2 := H.k e2 rfl; replace e5 := H.k e5 rfl; replace e6 := H.k e6 rfl; replace e7 := H.k e7 rfl; replace e9 := H.k e9 rfl; replace e14 := H.k e14 rfl; replace e42 := H.k e42 rfl; replace e43 := H.k e43 rfl; replace e44 := H.k e44 rfl; have e162 := H.g 162 rfl rfl
  have e163 := H.g 163 rfl rfl; have e164 := H.g 164 rfl rfl; clear H; refine hKq1 _ _ ?_; clear hKq1 Kq1; refine wp_block ?_
  obtain ⟨gL, hgL⟩ : ∃ g, g = w.heap.size := ⟨_, rfl⟩
  rw [← hgL] at BL e162
  have hgL1 : g14 < gL := by rw [hgL]; exact B14.lt
  have hgL2 : gm < gL := by omega
  generalize (w.alloc (.cells #[.slice (A 0) (n 0) (c 0), .slice (A 1) (n 1) (c 1)] 87)) = w1 at *
  clear hgL SM L1 B14; clear e10; clear e12
  refine wp_loop (fun a w' => ∃ (i : Nat) (wl wh : Int) (m' : Nat) (fm' : Int × Int → Option Value) (S' : List Sp), i ≤ 2 ∧ S'.length ≤ S.length + 16 * i ∧ (0 ≤ wh ∧ wh ≤ 64000000) ∧ a.tmps.size = 317 ∧ a.defers = [] ∧ a.tmps[1]? = some (.pointer (some ⟨g1, 0, none⟩)) ∧ a.tmps[2]? = some (.pointer (some ⟨g2, 0, none⟩)) ∧ a.tmps[5]? = some (.int .i64 off) ∧ a.tmps[6]? = some (v6) ∧ a.tmps[7]? = some (.map (some gm)) ∧ a.tmps[9]? = some (.pointer (some ⟨g9, 0, none⟩)) ∧ a.tmps[14]? = some (.pointer (some ⟨g14, 0, none⟩)) ∧ a.tmps[42]? = some (v42) ∧ a.tmps[43]? = some (v43) ∧ a.tmps[44]? = some (v44) ∧ a.tmps[162]? = some (.slice (some ⟨gL, 0, none⟩) 2 2) ∧ a.tmps[163]? = some (.int .i64 2) ∧ a.tmps[164]? = some (.int .i64 (i : Int)) ∧ FrH gm [g14] w w' ∧ SpM w' B0 gm m' fm' S' ∧ Blk w' g14 52 #[.int .i64 wl, .int .i64 wh] ∧ Blk w' gL 87 #[.slice (A 0) (n 0) (c 0), .slice (A 1) (n 1) (c 1)] ∧ WInv C off f [(n 0, es 0, ks 0), (n 1, es 1, ks 1)] S i S' wl wh) (fun a _ => 2 - (intOf (a.tmps.getD 164 undef)).toNat) ?_ ?_
  · exact ⟨0, 4611686018427387904, 0, m, fm, S, by omega, by omega, by omega, hs, hd, e1, e2, e5, e6, e7, e9, e14, e42, e43, e44, e162, e163, e164, hfr1, SM1, B14a, BL, WInv.start⟩
  clear hs hd e164 e1 e2 e5 e6 e7 e9 e14 e42 e43 e44 e162 e163 a SM1 B14a BL hfr1
  rintro a w3 ⟨i, wl, wh, m', fm', S', hi, hsl, ⟨hh1, hh2⟩, hs, hd, e1, e2, e5, e6, e7, e9, e14, e42, e43, e44, e162, e163, e164, hfr, SM, B14, BL, hG⟩
  have HG := Lib.hid hG
  clear hG
  have hm := slot e164
  refine wp_seq_k fun Kq2 hKq2 => ?_
  by_cases hlt : i < 2
  ·
    have dj : decide ((i : Int) < 2) = true := decide_eq_true (by omega)
    have hi01 : i = 0 ∨ i = 1 := by omega
    have hts : [(n 0, es 0, ks 0), (n 1, es 1, ks 1)][i]? = some (n i, es i, ks i) := by rcases hi01 with rfl | rfl <;> rfl
    have HTS := Lib.hid hts
    clear hts
    refine sm_list [163, 164] 165 1 hs hd (by kernel_rfl) (agC e163 (agC e164 agN)) rfl ?_
    simp only [seval]
    go_wp2_with fail
    intro a H; replace hs := H.s hs; replace hd := H.d rfl; replace e163 := H.g 163 rfl rfl; replace e164 := H.g 164 rfl rfl; replace e1 := H.k e1 rfl; replace e2 := H.k e2 rfl; replace e5 := H.k e5 rfl; replace e6 := H.k e6 rfl; replace e7 := H.k e7 rfl; replace e9 := H.k e9 rfl; replace e14 := H.k e14 rfl; replace e42 := H.k e42 rfl; replace e43 := H.k e43 rfl; replace e44 := H.k e44 rfl; replace e162 := H.k e162 rfl
    have e165 := H.g 165 rfl rfl; clear H; refine hKq2 _ _ ?_; clear hKq2 Kq2; refine wp_seq_k fun Kq3 hKq3 => ?_
    refine wp_cond_true (slotE e165) ?_
    clear e165; refine wp_skip ?_; refine hKq3 _ _ ?_; clear hKq3 Kq3; refine wp_seq_k fun Kq4 hKq4 => ?_; refine wp_block ?_; refine wp_seq_k fun Kq5 hKq5 => ?_
    have q0 := BL.cellOf (v := .slice (A 0) (n 0) (c 0)) 0 rfl
    have q1 := BL.cellOf (v := .slice (A 1) (n 1) (c 1)) 1 rfl
    suffices HK : ∀ (a' : Act), a'.tmps.size = a.tmps.size → a'.defers = [] → a'.tmps[1]? = a.tmps[1]? → a'.tmps[2]? = a.tmps[2]? → a'.tmps[5]? = a.tmps[5]? → a'.tmps[6]? = a.tmps[6]? → a'.tmps[7]? = a.tmps[7]? → a'.tmps[9]? = a.tmps[9]? → a'.tmps[14]? = a.tmps[14]? → a'.tmps[42]? = a.tmps[42]? → a'.tmps[43]? = a.tmps[43]? → a'.tmps[44]? = a.tmps[44]? → a'.tmps[162]? = a.tmps[162]? → a'.tmps[163]? = a.tmps[163]? → a'.tmps[164]? = a.tmps[164]? → a'.tmps[15]? = some (.int .i64 (i : Int)) → a'.tmps[16]? = some (.slice (A i) (n i) (c i)) → Kq5 a' w3 by
      rcases hi01 with rfl | rfl
      all_goals
        refine sm_list [15, 16, 162, 164] 166 3 hs hd (by kernel_rfl) (agU (agU (agC e162 (agC e164 agN)))) rfl ?_
        simp only [seval]
        go_wp2_with fail
        all_goals
          intro a' H
          refine HK a' H.size H.defers (H.out 1 rfl) (H.out 2 rfl) (H.out 5 rfl) (H.out 6 rfl) (H.out 7 rfl) (H.out 9 rfl) (H.out 14 rfl) (H.out 42 rfl) (H.out 43 rfl) (H.out 44 rfl) ((H.got rfl rfl).trans e162.symm) (H.out 163 rfl) ((H.got rfl rfl).trans e164.symm) ?_ ?_
          · (refine (H.got (t := 15) rfl rfl).trans (congrArg some ?_); rfl)
          · (refine (H.got (t := 16) rfl rfl).trans (congrArg some ?_); rfl)
    intro a' g_s g_d g1 g2 g5 g6 g7 g9 g14 g42 g43 g44 g162 g163 g164 f15 f16
    replace hs := g_s.trans hs; replace hd := g_d; replace e1 := g1.trans e1; replace e2 := g2.trans e2; replace e5 := g5.trans e5; replace e6 := g6.trans e6; replace e7 := g7.trans e7; replace e9 := g9.trans e9; replace e14 := g14.trans e14; replace e42 := g42.trans e42; replace e43 := g43.trans e43; replace e44 := g44.trans e44; replace e162 := g162.trans e162; replace e163 := g163.trans e163; replace e164 := g164.trans e164
    clear g_s g_d g1 g2 g5 g6 g7 g9 g14 g42 g43 g44 g162 g163 g164
    have e15 := f15
    clear f15
    have e16 := f16
    clear f16; clear a
    obtain ⟨a, rfl⟩ : ∃ a, a = a' := ⟨_, rfl⟩
    refine hKq5 _ _ ?_; clear hKq5 Kq5; refine wp_seq_k fun Kq6 hKq6 => ?_; clear q0 q1
    refine sm_list [] 17 2 hs hd (by kernel_rfl) agN rfl ?_
    simp only [seval]
    go_wp2_with fail
    intro a H; replace hs := H.s hs; replace hd := H.d rfl; replace e1 := H.k e1 rfl; replace e2 := H.k e2 rfl; replace e5 := H.k e5 rfl; replace e6 := H.k e6 rfl; replace e7 := H.k e7 rfl; replace e9 := H.k e9 rfl; replace e14 := H.k e14 rfl; replace e42 := H.k e42 rfl; replace e43 := H.k e43 rfl; replace e44 := H.k e44 rfl; replace e162 := H.k e162 rfl; replace e163 := H.k e163 rfl; replace e164 := H.k e164 rfl; replace e15 := H.k e15 rfl; replace e16 := H.k e16 rfl
    have e17 := H.g 17 rfl rfl; have e18 := H.g 18 rfl rfl; clear H; refine hKq6 _ _ ?_; clear hKq6 Kq6; refine wp_seq_k fun Kq7 hKq7 => ?_
    have hwy := (HWY.out i hlt).fr hfr (g14 := g14) (fun k hk hx => by simp at hx; exact HAP.out i k hlt hk hx) (by omega) hgmz
    have BC3 := hfr.low BC ho3
    have BF3 := hfr.blk BF (by decide) (by omega) (by simp; omega)
    have B23 := hfr.low B2 ho4
    have hC3 := hC.below ((hfr.below hgmz).mono (by omega))
    have hz3 : gm ≤ w3.heap.size := Nat.le_trans (Nat.le_of_lt SM.lt) SM.hz
    have hlow3 := (hfr.below hgmz).mono (Nat.le_of_lt (Nat.lt_of_le_of_lt ho1 ho3))
    refine mk_hops C Y f sl off i (n i) (c i) (c2 i) L g1 g2 g9 gm B0 m' (A i) (A2 i) (es i) (ks i) S' fm' _ _ _ _ _ _ _ _ a w3 _ hs hd e1 e2 e5 e6 e7 e9 e14 e15 e16 e17 e18 e42 e43 e44 e162 e163 e164 hC3 BC3 BF3 B23 ⟨ho1, ho2, ho3, ho4, ho5⟩ SM hlt hwy.cell hwy.k hwy.own hwy.oke hwy.n16 hwy.kn hwy.kr HW.out HOFF.out HF.out (by omega) ?_ ?_
    rotate_left
    · clear hs hd e1 e2 e5 e6 e7 e9 e14 e15 e16 e17 e18 e42 e43 e44 e162 e163 e164 hwy BC3 BF3 B23 hC3 SM B14 BL
      intro a w7 hs hd e2 e3 hb7 B27 hV
      have HV := Lib.hid (HG.out.bad HTS.out hV)
      clear hV; refine exit_then rfl ?_; refine ret_block ?_; refine exit_then rfl ?_; refine exit_then rfl ?_; refine ret_block ?_
      exact HEND.out.2 _ w7 hs hd e2 e3 (hlow3.trans hb7) B27 HV.out
    clear hs hd e1 e2 e5 e6 e7 e9 e14 e15 e16 e17 e18 e42 e43 e44 e162 e163 e164 hwy BC3 BF3 B23 hC3
    intro a w7 m7 fm7 S7 low high hs hd e1 e2 e5 e6 e7 e9 e14 e42 e43 e44 e162 e163 e164 e17 e18 hfr7 SM7 hsl7 hlow hhigh hV
    have hnq := (HWY.out i hlt).n16
    have HST := Lib.hid (HG.out.step HTS.out hV)
    clear hV
    have B147 := hfr7.blk B14 (by decide) (by omega) (by simp)
    have BL7 := hfr7.blk BL (by decide) (by omega) (by simp)
    have hfr8 := hfr.trans (hfr7.more (X' := [g14]) (by simp))
    clear hfr hfr7 SM B14 BL; refine hKq7 _ _ ?_; clear hKq7 Kq7
    have p0 := B147.cellOf (v := .int .i64 wl) 0 rfl
    have p1 := B147.cellOf (v := .int .i64 wh) 1 rfl
    have pz := B147.frozen
    have pl := B147.lt
    suffices HK : ∀ (a' : Act) (w8 : World), a'.tmps.size = a.tmps.size → a'.defers = [] → a'.tmps[1]? = a.tmps[1]? → a'.tmps[2]? = a.tmps[2]? → a'.tmps[5]? = a.tmps[5]? → a'.tmps[6]? = a.tmps[6]? → a'.tmps[7]? = a.tmps[7]? → a'.tmps[9]? = a.tmps[9]? → a'.tmps[14]? = a.tmps[14]? → a'.tmps[42]? = a.tmps[42]? → a'.tmps[43]? = a.tmps[43]? → a'.tmps[44]? = a.tmps[44]? → a'.tmps[162]? = a.tmps[162]? → a'.tmps[163]? = a.tmps[163]? → a'.tmps[164]? = a.tmps[164]? → a'.tmps[17]? = a.tmps[17]? → a'.tmps[18]? = a.tmps[18]? → Blk w8 g14 52 #[.int .i64 (min wl low), .int .i64 (max wh high)] → w7.grownBy w8 (some g14) → Kq4 a' w8 by
      refine sm_list [14, 17, 18] 258 10 hs hd (by kernel_rfl) (agC e14 (agC e17 (agC e18 agN))) rfl ?_
      simp only [seval]
      go_wp2_with fail
      all_goals
        intro a' H
        refine HK a' _ H.size H.defers (H.out 1 rfl) (H.out 2 rfl) (H.out 5 rfl) (H.out 6 rfl) (H.out 7 rfl) (H.out 9 rfl) ((H.got rfl rfl).trans e14.symm) (H.out 42 rfl) (H.out 43 rfl) (H.out 44 rfl) (H.out 162 rfl) (H.out 163 rfl) (H.out 164 rfl) ((H.got rfl rfl).trans e17.symm) ((H.got rfl rfl).trans e18.symm) ?_ ?_
        · exact ((B147.set_ 0 _).set_ 1 _)
        · exact gr_set (gr_set (grownBy_refl w7 _) 0 _) 1 _
    intro a' w8 g_s g_d g1 g2 g5 g6 g7 g9 g14 g42 g43 g44 g162 g163 g164 g17 g18 B148 gr8
    replace hs := g_s.trans hs; replace hd := g_d; replace e1 := g1.trans e1; replace e2 := g2.trans e2; replace e5 := g5.trans e5; replace e6 := g6.trans e6; replace e7 := g7.trans e7; replace e9 := g9.trans e9; replace e14 := g14.trans e14; replace e42 := g42.trans e42; replace e43 := g43.trans e43; replace e44 := g44.trans e44; replace e162 := g162.trans e162; replace e163 := g163.trans e163; replace e164 := g164.trans e164
    replace e17 := g17.trans e17; replace e18 := g18.trans e18; clear g_s g_d g1 g2 g5 g6 g7 g9 g14 g42 g43 g44 g162 g163 g164 g17 g18; clear a
    obtain ⟨a, rfl⟩ : ∃ a, a = a' := ⟨_, rfl⟩
    refine hKq4 _ _ ?_; clear hKq4 Kq4
    have SM8 := SM7.set B147 (by omega) (by decide) gr8
    have hgr : FrH gm [g14] w7 w8 := FrH.of_gr gr8 (by simp) (by omega)
    have hfr9 := hfr8.trans hgr
    have BL8 := BL7.grown gr8 (by simp; omega)
    clear p0 p1 pz pl hgr hfr8 SM7 BL7 B147 gr8; clear e17; clear e18
    refine sm_list [164] 268 1 hs hd (by kernel_rfl) (agC e164 agN) rfl ?_
    simp only [seval]
    go_wp2_with fail
    intro a H; replace hs := H.s hs; replace hd := H.d rfl; replace e1 := H.k e1 rfl; replace e2 := H.k e2 rfl; replace e5 := H.k e5 rfl; replace e6 := H.k e6 rfl; replace e7 := H.k e7 rfl; replace e9 := H.k e9 rfl; replace e14 := H.k e14 rfl; replace e42 := H.k e42 rfl; replace e43 := H.k e43 rfl; replace e44 := H.k e44 rfl; replace e162 := H.k e162 rfl; replace e163 := H.k e163 rfl; replace e164 := H.g 164 rfl rfl
    clear H
    exact ⟨⟨i + 1, _, _, m7, fm7, S7, by omega, by omega, by omega, hs, hd, e1, e2, e5, e6, e7, e9, e14, e42, e43, e44, e162, e163, e164, hfr9, SM8, B148, BL8, HST.out⟩, by first | (simp only [hm, slot e164, intOf]; omega) | (simp [e164, intOf]; omega)⟩
  · obtain rfl : i = 2 := by omega
    have dj : decide (((2 : Nat) : Int) < 2) = false := rfl
    clear hlt hm
    have HV := Lib.hid (HG.out.done (Nat.le_refl _))
    refine sm_list [163, 164] 165 1 hs hd (by kernel_rfl) (agC e163 (agC e164 agN)) rfl ?_
    simp only [seval]
    go_wp2_with fail
    intro a H; replace hs := H.s hs; replace hd := H.d rfl; replace e163 := H.g 163 rfl rfl; replace e164 := H.g 164 rfl rfl; replace e1 := H.k e1 rfl; replace e2 := H.k e2 rfl; replace e5 := H.k e5 rfl; replace e6 := H.k e6 rfl; replace e7 := H.k e7 rfl; replace e9 := H.k e9 rfl; replace e14 := H.k e14 rfl; replace e42 := H.k e42 rfl; replace e43 := H.k e43 rfl; replace e44 := H.k e44 rfl; replace e162 := H.k e162 rfl
    have e165 := H.g 165 rfl rfl; clear H; refine hKq2 _ _ ?_; clear hKq2 Kq2; refine wp_seq_k fun Kq3 hKq3 => ?_
    refine wp_cond_false (slotE e165) ?_
    clear e165; refine wp_exit ?_; refine exit_then rfl ?_; clear hKq3 Kq3; refine exit_then rfl ?_; refine exit_hit ?_
    exact HEND.out.1 a w3 m' fm' S' wl wh hs hd e1 e2 e5 e6 e7 e9 e14 e42 e43 e44 hfr SM B14 (by omega) ⟨hh1, hh2⟩ HV.out
end Go.Proofs.Ytaegngcbiefckaa
