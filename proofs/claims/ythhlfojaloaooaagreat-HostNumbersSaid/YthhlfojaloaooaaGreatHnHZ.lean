/-
  merge: a number comes on a way.
-/
import Derived.Test.YthhlfojaloaooaaGreatRows
import Derived.Test.YthhlfojaloaooaaGreatHqB
import Derived.WalkKit
import Derived.ProofKit
import Derived.OpenShut
import Derived.LoopTactic
import Derived.WalkLawsBesides
import Derived.WalkSpells
import Derived.Outline
import Derived.Lib.Hide
import Derived.Deep.DrawnRows
import Derived.Laws.CopyOwn
import Derived.MapKept
namespace Go.Proofs.YthhlfojaloaooaaGreat
set_option linter.unusedSimpArgs false
set_option linter.unusedVariables false
open Go.RowKit Go.WideShapes Go.ChangeShapes
attribute [local go_sem ↓] Go.wp_at_zero Go.wp_at_succ

def MgB.all (b : MgB) : List Nat := [b.g, b.g0, b.g1, b.ga]
/-- When a number is taken, whichever. -/
def SqS.free (s : SqS) (r now : Int) : Prop := s.any = true ∨ (s.when ≤ now ∧ r ≤ now - s.when)
section
variable {w w' : World} {b : MgB} {r : Int} {s0 s1 sa t0 t1 ta : SqS}
theorem SqAt.other {g k : Nat} {any : Bool} {last had when : Int} (h : SqAt w g r any last had when) (gr : w.grownBy w' (some k)) (hk : g ≠ k) : SqAt w' g r any last had when :=
  h.grown gr (by intro e; injection e with e; exact hk e)
theorem own_other {g k : Nat} {any : Bool} {last had when : Int} {base n : Nat} {e : TypeId} {v : Value} {xs : List Value} (own : w.ownsRow base e 1 v n xs) (h : SqAt w k r any last had when) (he : e ≠ 189) (gr : w.grownBy w' (some k)) : w'.ownsRow base e 1 v n xs := by
  obtain ⟨_, _, _, _, _, _, hB⟩ := h
  exact own_kept own gr (fun q hq hx => by injection hx with hx; subst hx; exact own_blk_ne own hB he hq)
theorem blk_other {g k : Nat} {any : Bool} {last had when : Int} {T : TypeId} {cs : Array Value} (B : Blk w g T cs) (h : SqAt w k r any last had when) (he : T ≠ 189) (gr : w.grownBy w' (some k)) : Blk w' g T cs := by
  obtain ⟨_, _, _, _, _, _, hB⟩ := h
  exact B.grown gr (by intro e; injection e with e; subst e; exact Blk.ne_ B hB he rfl)
theorem fr_mem {k : Nat} {S : List Nat} (gr : w.grownBy w' (some k)) (hk : k ∈ S) : Fr S w w' := Fr.gr gr hk
end
set_option maxRecDepth 100000 in
set_option maxHeartbeats 4000000 in
theorem mgIn_take0 (b : MgB) (r now seq : Int) (w : World) (s0 s1 sa : SqS) (h : MgAt w b r s0 s1 sa) (hn : 0 ≤ now ∧ now ≤ 4611686018427387904) (hr : 1 ≤ r ∧ r ≤ 4611686018427387904) (hs0 : 0 ≤ seq ∧ seq < 65536) (hws0 : 0 ≤ s0.when ∧ s0.when ≤ 4611686018427387904) (hwsa : 0 ≤ sa.when ∧ sa.when ≤ 4611686018427387904) (f1 : s0.free r now) (fa : sa.free r now) : Calls Tryz.prog 30 #[.pointer (some ⟨b.g, 0, none⟩), .int .i64 now, .int .i64 0, .int .i64 seq] w fun e w' => e = .returned (.tuple #[.bool true, .int .i64 0]) ∧ MgAt w' b r ⟨false, seq, 1, now⟩ s1 ⟨false, seq, 1, now⟩ ∧ Fr b.all w w' := by
  refine calls_sm (N := 79) Tryz.func30 rfl (by kernel_rfl) ?_
  intro a hs hd ha
  have e0 : a.tmps[0]? = some (.pointer (some ⟨b.g, 0, none⟩)) := ha 0 _ rfl
  have e1 : a.tmps[1]? = some (.int .i64 now) := ha 1 _ rfl
  have e2 : a.tmps[2]? = some (.int .i64 0) := ha 2 _ rfl
  have e3 : a.tmps[3]? = some (.int .i64 seq) := ha 3 _ rfl
  clear ha
  conv => arg 2; whnf
  refine wp_seq_k fun Kq1 hKq1 => ?_
  obtain ⟨c, nx, pa, ag, si, bm, own⟩ := h.bm
  have HH := Lib.hid h
  clear h
  obtain ⟨gm, h, g0, g1, ga⟩ := b
  obtain ⟨n01, n0a, n1a⟩ := HH.out.ne
  have hk0 : g0 ∈ MgB.all ⟨gm, h, g0, g1, ga⟩ := by simp [MgB.all]
  have hka : ga ∈ MgB.all ⟨gm, h, g0, g1, ga⟩ := by simp [MgB.all]
  have hkm : gm ∈ MgB.all ⟨gm, h, g0, g1, ga⟩ := by simp [MgB.all]
  have HKS := Lib.hid (And.intro n01 (And.intro n0a (And.intro n1a (And.intro hk0 (And.intro hka hkm)))))
  clear n01 n0a n1a hk0 hka hkm
  have q0 := bm.cellOf (v := .int .i64 2) 0 rfl
  have q9 := bm.cellOf (v := .slice (some ⟨h, 0, none⟩) 2 c) 9 rfl
  have rk := reads_at (j := 0) (v := .pointer (some ⟨g0, 0, none⟩)) (Reads.of_own own) rfl
  have qk : w.cell? ⟨h, 0, none⟩ = some (.pointer (some ⟨g0, 0, none⟩)) := rk
  have HBM := Lib.hid (And.intro bm own)
  clear bm own rk
  refine sm_list [] 8 2 hs hd (by kernel_rfl) agN rfl ?_
  simp only [seval]
  go_wp2_with fail
  intro a H; replace hs := H.s hs; replace hd := H.d rfl; replace e0 := H.k e0 rfl; replace e1 := H.k e1 rfl; replace e2 := H.k e2 rfl; replace e3 := H.k e3 rfl; have e8 := H.g 8 rfl rfl; have e9 := H.g 9 rfl rfl; clear H; refine hKq1 _ _ ?_; clear hKq1 Kq1; refine wp_seq_k fun Kq2 hKq2 => ?_; refine wp_block ?_; refine wp_seq_k fun Kq3 hKq3 => ?_
  refine sm_list [0] 12 3 hs hd (by kernel_rfl) (agC e0 agN) rfl ?_
  simp only [seval]
  go_wp2_with fail
  intro a H; replace hs := H.s hs; replace hd := H.d rfl; replace e0 := H.g 0 rfl rfl; replace e1 := H.k e1 rfl; replace e2 := H.k e2 rfl; replace e3 := H.k e3 rfl; replace e8 := H.k e8 rfl; replace e9 := H.k e9 rfl; have e12 := H.g 12 rfl rfl; clear H; refine hKq3 _ _ ?_; clear hKq3 Kq3
  refine wp_cond_false (slotE e12) ?_
  clear e12; refine wp_seq_k fun Kq4 hKq4 => ?_
  refine sm_list [0, 2] 15 12 hs hd (by kernel_rfl) (agC e0 (agC e2 agN)) rfl ?_
  simp only [seval]
  go_wp2_with fail
  intro a H; replace hs := H.s hs; replace hd := H.d rfl; replace e0 := H.g 0 rfl rfl; replace e2 := H.g 2 rfl rfl; replace e1 := H.k e1 rfl; replace e3 := H.k e3 rfl; replace e8 := H.k e8 rfl; replace e9 := H.k e9 rfl; have e15 := H.g 15 rfl rfl; clear H; refine hKq4 _ _ ?_; clear hKq4 Kq4
  refine wp_cond_false (slotE e15) ?_
  clear e15; refine wp_skip ?_; refine hKq2 _ _ ?_; clear hKq2 Kq2; refine wp_seq_k fun Kq5 hKq5 => ?_; clear q0
  refine sm_list [0, 1, 2, 3, 10, 11] 27 13 hs hd (by kernel_rfl) (agC e0 (agC e1 (agC e2 (agC e3 (agU (agU agN)))))) rfl ?_
  simp only [seval]
  go_wp2_with fail
  obtain ⟨c0, c1, c2, c3, rs, lo, hB⟩ := HH.out.s0
  refine (sqIn_new g0 r s0.any s0.last s0.had s0.when c0 c1 c2 c3 rs lo now seq w hB hn hws0 hr hs0 f1).mono ?_
  rintro e w3 ⟨rfl, G3, S3⟩
  clear hB
  go_wp2_with fail
  intro a H; replace hs := H.s hs; replace hd := H.d rfl; replace e0 := H.g 0 rfl rfl; replace e1 := H.g 1 rfl rfl; replace e2 := H.g 2 rfl rfl; replace e3 := H.g 3 rfl rfl; replace e8 := H.k e8 rfl; replace e9 := H.k e9 rfl; have e10 := H.g 10 rfl rfl; have e11 := H.g 11 rfl rfl; clear H; refine hKq5 _ _ ?_; clear hKq5 Kq5; refine wp_seq_k fun Kq6 hKq6 => ?_; refine wp_seq_k fun Kq7 hKq7 => ?_; clear q9 qk
  have HS3 := Lib.hid (And.intro S3 G3)
  clear S3 G3
  refine sm_list [11] 40 2 hs hd (by kernel_rfl) (agC e11 agN) rfl ?_
  simp only [seval]
  go_wp2_with fail
  intro a H; replace hs := H.s hs; replace hd := H.d rfl; replace e11 := H.g 11 rfl rfl; replace e0 := H.k e0 rfl; replace e1 := H.k e1 rfl; replace e2 := H.k e2 rfl; replace e3 := H.k e3 rfl; replace e8 := H.k e8 rfl; replace e9 := H.k e9 rfl; replace e10 := H.k e10 rfl; have e41 := H.g 41 rfl rfl; clear H; refine hKq7 _ _ ?_; clear hKq7 Kq7
  refine wp_cond_false (slotE e41) ?_
  clear e41; refine wp_skip ?_; refine hKq6 _ _ ?_; clear hKq6 Kq6; refine wp_seq_k fun Kq8 hKq8 => ?_; refine wp_seq_k fun Kq9 hKq9 => ?_
  refine sm_list [10] 43 6 hs hd (by kernel_rfl) (agC e10 agN) rfl ?_
  simp only [seval]
  go_wp2_with fail
  intro a H; replace hs := H.s hs; replace hd := H.d rfl; replace e10 := H.g 10 rfl rfl; replace e0 := H.k e0 rfl; replace e1 := H.k e1 rfl; replace e2 := H.k e2 rfl; replace e3 := H.k e3 rfl; replace e8 := H.k e8 rfl; replace e9 := H.k e9 rfl; replace e11 := H.k e11 rfl; have e48 := H.g 48 rfl rfl; clear H; refine hKq9 _ _ ?_; clear hKq9 Kq9
  have F3 : Fr (MgB.all ⟨gm, h, g0, g1, ga⟩) w w3 := fr_mem HS3.out.2 HKS.out.2.2.2.1
  have bm3 := blk_other HBM.out.1 HH.out.s0 (by decide) HS3.out.2
  have own3 := own_other (g := 0) HBM.out.2 HH.out.s0 (by decide) HS3.out.2
  have so3 := HH.out.s1.other HS3.out.2 (show g1 ≠ g0 from HKS.out.1.symm); have sa3 := HH.out.sa.other HS3.out.2 (show ga ≠ g0 from HKS.out.2.1.symm)
  have q10 := bm3.cellOf (v := .pointer (some ⟨ga, 0, none⟩)) 10 rfl
  have H3 := Lib.hid (And.intro bm3 (And.intro own3 (And.intro so3 (And.intro sa3 F3))))
  clear bm3 own3 so3 sa3 F3
  refine wp_cond_false (slotE e48) ?_
  clear e48; refine wp_skip ?_; refine hKq8 _ _ ?_; clear hKq8 Kq8; refine wp_seq_k fun Kq10 hKq10 => ?_
  refine sm_list [0, 1, 3, 10] 49 10 hs hd (by kernel_rfl) (agC e0 (agC e1 (agC e3 (agC e10 agN)))) rfl ?_
  simp only [seval]
  go_wp2_with fail
  obtain ⟨c0, c1, c2, c3, rs, lo, hB⟩ := H3.out.2.2.2.1
  refine (sqIn_new ga r sa.any sa.last sa.had sa.when c0 c1 c2 c3 rs lo now seq w3 hB hn hwsa hr hs0 fa).mono ?_
  rintro e w4 ⟨rfl, G4, S4⟩
  clear hB
  go_wp2_with fail
  intro a H; replace hs := H.s hs; replace hd := H.d rfl; replace e0 := H.g 0 rfl rfl; replace e1 := H.g 1 rfl rfl; replace e3 := H.g 3 rfl rfl; replace e2 := H.k e2 rfl; replace e8 := H.k e8 rfl; replace e9 := H.k e9 rfl; replace e11 := H.k e11 rfl; replace e10 := H.g 10 rfl rfl; clear H; refine hKq10 _ _ ?_; clear hKq10 Kq10; refine wp_seq_k fun Kq11 hKq11 => ?_; refine wp_seq_k fun Kq12 hKq12 => ?_
  clear q10; have F4 := H3.out.2.2.2.2.trans (fr_mem G4 HKS.out.2.2.2.2.1)
  have bm4 := blk_other H3.out.1 H3.out.2.2.2.1 (by decide) G4
  have own4 := own_other (g := 0) H3.out.2.1 H3.out.2.2.2.1 (by decide) G4
  have sk4 := HS3.out.1.other G4 (show g0 ≠ ga from HKS.out.2.1); have so4 := H3.out.2.2.1.other G4 (show g1 ≠ ga from HKS.out.2.2.1); clear G4 HS3
  have q12 := bm4.cellOf (v := .int .i64 pa) 12 rfl
  have fz := bm4.frozen
  have lz := bm4.lt
  have H4 := Lib.hid (And.intro bm4 (And.intro own4 (And.intro sk4 (And.intro so4 (And.intro S4 F4)))))
  clear bm4 own4 sk4 so4 S4 F4 H3
  refine sm_list [10] 59 1 hs hd (by kernel_rfl) (agC e10 agN) rfl ?_
  simp only [seval]
  go_wp2_with fail
  intro a H; replace hs := H.s hs; replace hd := H.d rfl; replace e10 := H.g 10 rfl rfl; replace e0 := H.k e0 rfl; replace e1 := H.k e1 rfl; replace e2 := H.k e2 rfl; replace e3 := H.k e3 rfl; replace e8 := H.k e8 rfl; replace e9 := H.k e9 rfl; replace e11 := H.k e11 rfl; have e59 := H.g 59 rfl rfl; clear H; refine hKq12 _ _ ?_; clear hKq12 Kq12; refine wp_block ?_; refine wp_seq_k fun Kq13 hKq13 => ?_
  refine wp_seq_k fun Kq14 hKq14 => ?_
  refine sm_list [59] 60 2 hs hd (by kernel_rfl) (agC e59 agN) rfl ?_
  simp only [seval]
  go_wp2_with fail
  intro a H; replace hs := H.s hs; replace hd := H.d rfl; replace e59 := H.g 59 rfl rfl; replace e0 := H.k e0 rfl; replace e1 := H.k e1 rfl; replace e2 := H.k e2 rfl; replace e3 := H.k e3 rfl; replace e8 := H.k e8 rfl; replace e9 := H.k e9 rfl; replace e11 := H.k e11 rfl; replace e10 := H.k e10 rfl; have e60 := H.g 60 rfl rfl; clear H; refine hKq14 _ _ ?_; clear hKq14 Kq14
  have e60b := e60
  refine wp_cond_true (slotE e60) ?_
  clear e60; refine wp_skip ?_; refine hKq13 _ _ ?_; clear hKq13 Kq13
  have e60 := e60b
  refine wp_cond_true (slotE e60) ?_
  clear e60; refine wp_seq_k fun Kq15 hKq15 => ?_
  refine sm_list [0] 63 7 hs hd (by kernel_rfl) (agC e0 agN) rfl ?_
  simp only [seval]
  go_wp2_with fail
  intro a H; replace hs := H.s hs; replace hd := H.d rfl; replace e0 := H.g 0 rfl rfl; replace e1 := H.k e1 rfl; replace e2 := H.k e2 rfl; replace e3 := H.k e3 rfl; replace e8 := H.k e8 rfl; replace e9 := H.k e9 rfl; replace e11 := H.k e11 rfl; replace e10 := H.k e10 rfl; replace e59 := H.k e59 rfl; clear H; refine hKq15 _ _ ?_; clear hKq15 Kq15; refine wp_seq_k fun Kq16 hKq16 => ?_
  refine sm_list [] 8 2 hs hd (by kernel_rfl) agN rfl ?_
  simp only [seval]
  go_wp2_with fail
  intro a H; replace hs := H.s hs; replace hd := H.d rfl; replace e0 := H.k e0 rfl; replace e1 := H.k e1 rfl; replace e2 := H.k e2 rfl; replace e3 := H.k e3 rfl; replace e11 := H.k e11 rfl; replace e10 := H.k e10 rfl; replace e59 := H.k e59 rfl; replace e8 := H.g 8 rfl rfl; replace e9 := H.g 9 rfl rfl; clear H; refine hKq16 _ _ ?_; clear hKq16 Kq16; refine wp_ret ?_; refine ret_block ?_; refine exit_then rfl ?_
  have gs_ := gr_set (grownBy_refl w4 (some gm)) 12 (.int .i64 (RowKit.wrap64 (pa + 1)))
  have ownF := own_kept H4.out.2.1 gs_ (fun k hk e => by injection e with e; subst e; exact own_blk_ne H4.out.2.1 H4.out.1 (by decide) hk)
  exact sm_ret2 rfl hd e8 e9 ⟨rfl, ⟨⟨c, nx, (RowKit.wrap64 (pa + 1)), ag, si, H4.out.1.set_ 12 _, ownF⟩, H4.out.2.2.1.set_ H4.out.1 (by decide), H4.out.2.2.2.1.set_ H4.out.1 (by decide), H4.out.2.2.2.2.1.set_ H4.out.1 (by decide), HH.out.ne⟩, H4.out.2.2.2.2.2.trans (fr_mem gs_ HKS.out.2.2.2.2.2)⟩
set_option maxRecDepth 100000 in
set_option maxHeartbeats 4000000 in
theorem mgIn_alla1 (b : MgB) (r now seq : Int) (w : World) (s0 s1 : SqS) (wa : Int) (h : MgAt w b r s0 s1 ⟨false, seq, 1, wa⟩) (hn : 0 ≤ now ∧ now ≤ 4611686018427387904) (hr : 1 ≤ r ∧ r ≤ 4611686018427387904) (hs0 : 0 ≤ seq ∧ seq < 65536) (hws1 : 0 ≤ s1.when ∧ s1.when ≤ 4611686018427387904) (hwa : 0 ≤ wa ∧ wa ≤ 4611686018427387904) (f1 : s1.free r now) (fa : ¬ (wa ≤ now ∧ r ≤ now - wa)) : Calls Tryz.prog 30 #[.pointer (some ⟨b.g, 0, none⟩), .int .i64 now, .int .i64 1, .int .i64 seq] w fun e w' => e = .returned (.tuple #[.bool false, .int .i64 0]) ∧ MgAt w' b r s0 ⟨false, seq, 1, now⟩ ⟨false, seq, 1, wa⟩ ∧ Fr b.all w w' := by
  refine calls_sm (N := 79) Tryz.func30 rfl (by kernel_rfl) ?_
  intro a hs hd ha
  have e0 : a.tmps[0]? = some (.pointer (some ⟨b.g, 0, none⟩)) := ha 0 _ rfl
  have e1 : a.tmps[1]? = some (.int .i64 now) := ha 1 _ rfl
  have e2 : a.tmps[2]? = some (.int .i64 1) := ha 2 _ rfl
  have e3 : a.tmps[3]? = some (.int .i64 seq) := ha 3 _ rfl
  clear ha
  conv => arg 2; whnf
  refine wp_seq_k fun Kq1 hKq1 => ?_
  obtain ⟨c, nx, pa, ag, si, bm, own⟩ := h.bm
  have HH := Lib.hid h
  clear h
  obtain ⟨gm, h, g0, g1, ga⟩ := b
  obtain ⟨n01, n0a, n1a⟩ := HH.out.ne
  have hk0 : g1 ∈ MgB.all ⟨gm, h, g0, g1, ga⟩ := by simp [MgB.all]
  have hka : ga ∈ MgB.all ⟨gm, h, g0, g1, ga⟩ := by simp [MgB.all]
  have hkm : gm ∈ MgB.all ⟨gm, h, g0, g1, ga⟩ := by simp [MgB.all]
  have HKS := Lib.hid (And.intro n01 (And.intro n0a (And.intro n1a (And.intro hk0 (And.intro hka hkm)))))
  clear n01 n0a n1a hk0 hka hkm
  have q0 := bm.cellOf (v := .int .i64 2) 0 rfl
  have q9 := bm.cellOf (v := .slice (some ⟨h, 0, none⟩) 2 c) 9 rfl
  have rk := reads_at (j := 1) (v := .pointer (some ⟨g1, 0, none⟩)) (Reads.of_own own) rfl
  have qk : w.cell? ⟨h, 1, none⟩ = some (.pointer (some ⟨g1, 0, none⟩)) := rk
  have HBM := Lib.hid (And.intro bm own)
  clear bm own rk
  refine sm_list [] 8 2 hs hd (by kernel_rfl) agN rfl ?_
  simp only [seval]
  go_wp2_with fail
  intro a H; replace hs := H.s hs; replace hd := H.d rfl; replace e0 := H.k e0 rfl; replace e1 := H.k e1 rfl; replace e2 := H.k e2 rfl; replace e3 := H.k e3 rfl; have e8 := H.g 8 rfl rfl; have e9 := H.g 9 rfl rfl; clear H; refine hKq1 _ _ ?_; clear hKq1 Kq1; refine wp_seq_k fun Kq2 hKq2 => ?_; refine wp_block ?_; refine wp_seq_k fun Kq3 hKq3 => ?_
  refine sm_list [0] 12 3 hs hd (by kernel_rfl) (agC e0 agN) rfl ?_
  simp only [seval]
  go_wp2_with fail
  intro a H; replace hs := H.s hs; replace hd := H.d rfl; replace e0 := H.g 0 rfl rfl; replace e1 := H.k e1 rfl; replace e2 := H.k e2 rfl; replace e3 := H.k e3 rfl; replace e8 := H.k e8 rfl; replace e9 := H.k e9 rfl; have e12 := H.g 12 rfl rfl; clear H; refine hKq3 _ _ ?_; clear hKq3 Kq3
  refine wp_cond_false (slotE e12) ?_
  clear e12; refine wp_seq_k fun Kq4 hKq4 => ?_
  refine sm_list [0, 2] 15 12 hs hd (by kernel_rfl) (agC e0 (agC e2 agN)) rfl ?_
  simp only [seval]
  go_wp2_with fail
  intro a H; replace hs := H.s hs; replace hd := H.d rfl; replace e0 := H.g 0 rfl rfl; replace e2 := H.g 2 rfl rfl; replace e1 := H.k e1 rfl; replace e3 := H.k e3 rfl; replace e8 := H.k e8 rfl; replace e9 := H.k e9 rfl; have e15 := H.g 15 rfl rfl; clear H; refine hKq4 _ _ ?_; clear hKq4 Kq4
  refine wp_cond_false (slotE e15) ?_
  clear e15; refine wp_skip ?_; refine hKq2 _ _ ?_; clear hKq2 Kq2; refine wp_seq_k fun Kq5 hKq5 => ?_; clear q0
  refine sm_list [0, 1, 2, 3, 10, 11] 27 13 hs hd (by kernel_rfl) (agC e0 (agC e1 (agC e2 (agC e3 (agU (agU agN)))))) rfl ?_
  simp only [seval]
  go_wp2_with fail
  obtain ⟨c0, c1, c2, c3, rs, lo, hB⟩ := HH.out.s1
  refine (sqIn_new g1 r s1.any s1.last s1.had s1.when c0 c1 c2 c3 rs lo now seq w hB hn hws1 hr hs0 f1).mono ?_
  rintro e w3 ⟨rfl, G3, S3⟩
  clear hB
  go_wp2_with fail
  intro a H; replace hs := H.s hs; replace hd := H.d rfl; replace e0 := H.g 0 rfl rfl; replace e1 := H.g 1 rfl rfl; replace e2 := H.g 2 rfl rfl; replace e3 := H.g 3 rfl rfl; replace e8 := H.k e8 rfl; replace e9 := H.k e9 rfl; have e10 := H.g 10 rfl rfl; have e11 := H.g 11 rfl rfl; clear H; refine hKq5 _ _ ?_; clear hKq5 Kq5; refine wp_seq_k fun Kq6 hKq6 => ?_; refine wp_seq_k fun Kq7 hKq7 => ?_; clear q9 qk
  have HS3 := Lib.hid (And.intro S3 G3)
  clear S3 G3
  refine sm_list [11] 40 2 hs hd (by kernel_rfl) (agC e11 agN) rfl ?_
  simp only [seval]
  go_wp2_with fail
  intro a H; replace hs := H.s hs; replace hd := H.d rfl; replace e11 := H.g 11 rfl rfl; replace e0 := H.k e0 rfl; replace e1 := H.k e1 rfl; replace e2 := H.k e2 rfl; replace e3 := H.k e3 rfl; replace e8 := H.k e8 rfl; replace e9 := H.k e9 rfl; replace e10 := H.k e10 rfl; have e41 := H.g 41 rfl rfl; clear H; refine hKq7 _ _ ?_; clear hKq7 Kq7
  refine wp_cond_false (slotE e41) ?_
  clear e41; refine wp_skip ?_; refine hKq6 _ _ ?_; clear hKq6 Kq6; refine wp_seq_k fun Kq8 hKq8 => ?_; refine wp_seq_k fun Kq9 hKq9 => ?_
  refine sm_list [10] 43 6 hs hd (by kernel_rfl) (agC e10 agN) rfl ?_
  simp only [seval]
  go_wp2_with fail
  intro a H; replace hs := H.s hs; replace hd := H.d rfl; replace e10 := H.g 10 rfl rfl; replace e0 := H.k e0 rfl; replace e1 := H.k e1 rfl; replace e2 := H.k e2 rfl; replace e3 := H.k e3 rfl; replace e8 := H.k e8 rfl; replace e9 := H.k e9 rfl; replace e11 := H.k e11 rfl; have e48 := H.g 48 rfl rfl; clear H; refine hKq9 _ _ ?_; clear hKq9 Kq9
  have F3 : Fr (MgB.all ⟨gm, h, g0, g1, ga⟩) w w3 := fr_mem HS3.out.2 HKS.out.2.2.2.1
  have bm3 := blk_other HBM.out.1 HH.out.s1 (by decide) HS3.out.2
  have own3 := own_other (g := 0) HBM.out.2 HH.out.s1 (by decide) HS3.out.2
  have so3 := HH.out.s0.other HS3.out.2 (show g0 ≠ g1 from HKS.out.1); have sa3 := HH.out.sa.other HS3.out.2 (show ga ≠ g1 from HKS.out.2.2.1.symm)
  have q10 := bm3.cellOf (v := .pointer (some ⟨ga, 0, none⟩)) 10 rfl
  have H3 := Lib.hid (And.intro bm3 (And.intro own3 (And.intro so3 (And.intro sa3 F3))))
  clear bm3 own3 so3 sa3 F3
  refine wp_cond_false (slotE e48) ?_
  clear e48; refine wp_skip ?_; refine hKq8 _ _ ?_; clear hKq8 Kq8; refine wp_seq_k fun Kq10 hKq10 => ?_
  refine sm_list [0, 1, 3, 10] 49 10 hs hd (by kernel_rfl) (agC e0 (agC e1 (agC e3 (agC e10 agN)))) rfl ?_
  simp only [seval]
  go_wp2_with fail
  obtain ⟨c0, c1, c2, c3, rs, lo, hB⟩ := H3.out.2.2.2.1
  refine (sqIn_again ga r wa c0 c1 c2 c3 rs lo now seq w3 hB hn hwa hr hs0 fa).mono ?_
  rintro e w4 ⟨rfl, G4, S4⟩
  clear hB
  go_wp2_with fail
  intro a H; replace hs := H.s hs; replace hd := H.d rfl; replace e0 := H.g 0 rfl rfl; replace e1 := H.g 1 rfl rfl; replace e3 := H.g 3 rfl rfl; replace e2 := H.k e2 rfl; replace e8 := H.k e8 rfl; replace e9 := H.k e9 rfl; replace e11 := H.k e11 rfl; replace e10 := H.g 10 rfl rfl; clear H; refine hKq10 _ _ ?_; clear hKq10 Kq10; refine wp_seq_k fun Kq11 hKq11 => ?_; refine wp_seq_k fun Kq12 hKq12 => ?_
  clear q10; have F4 := H3.out.2.2.2.2.trans (fr_mem G4 HKS.out.2.2.2.2.1)
  have bm4 := blk_other H3.out.1 H3.out.2.2.2.1 (by decide) G4
  have own4 := own_other (g := 0) H3.out.2.1 H3.out.2.2.2.1 (by decide) G4
  have sk4 := HS3.out.1.other G4 (show g1 ≠ ga from HKS.out.2.2.1); have so4 := H3.out.2.2.1.other G4 (show g0 ≠ ga from HKS.out.2.1); clear G4 HS3
  have q12 := bm4.cellOf (v := .int .i64 ag) 13 rfl
  have fz := bm4.frozen
  have lz := bm4.lt
  have H4 := Lib.hid (And.intro bm4 (And.intro own4 (And.intro sk4 (And.intro so4 (And.intro S4 F4)))))
  clear bm4 own4 sk4 so4 S4 F4 H3
  refine sm_list [10] 59 1 hs hd (by kernel_rfl) (agC e10 agN) rfl ?_
  simp only [seval]
  go_wp2_with fail
  intro a H; replace hs := H.s hs; replace hd := H.d rfl; replace e10 := H.g 10 rfl rfl; replace e0 := H.k e0 rfl; replace e1 := H.k e1 rfl; replace e2 := H.k e2 rfl; replace e3 := H.k e3 rfl; replace e8 := H.k e8 rfl; replace e9 := H.k e9 rfl; replace e11 := H.k e11 rfl; have e59 := H.g 59 rfl rfl; clear H; refine hKq12 _ _ ?_; clear hKq12 Kq12; refine wp_block ?_; refine wp_seq_k fun Kq13 hKq13 => ?_
  refine wp_seq_k fun Kq14 hKq14 => ?_
  refine sm_list [59] 60 2 hs hd (by kernel_rfl) (agC e59 agN) rfl ?_
  simp only [seval]
  go_wp2_with fail
  intro a H; replace hs := H.s hs; replace hd := H.d rfl; replace e59 := H.g 59 rfl rfl; replace e0 := H.k e0 rfl; replace e1 := H.k e1 rfl; replace e2 := H.k e2 rfl; replace e3 := H.k e3 rfl; replace e8 := H.k e8 rfl; replace e9 := H.k e9 rfl; replace e11 := H.k e11 rfl; replace e10 := H.k e10 rfl; have e60 := H.g 60 rfl rfl; clear H; refine hKq14 _ _ ?_; clear hKq14 Kq14
  refine wp_cond_false (slotE e60) ?_
  clear e60
  refine sm_list [59, 60] 62 1 hs hd (by kernel_rfl) (agC e59 (agU agN)) rfl ?_
  simp only [seval]
  go_wp2_with fail
  intro a H; replace hs := H.s hs; replace hd := H.d rfl; replace e59 := H.g 59 rfl rfl; replace e0 := H.k e0 rfl; replace e1 := H.k e1 rfl; replace e2 := H.k e2 rfl; replace e3 := H.k e3 rfl; replace e8 := H.k e8 rfl; replace e9 := H.k e9 rfl; replace e11 := H.k e11 rfl; replace e10 := H.k e10 rfl; have e60 := H.g 60 rfl rfl; clear H; refine hKq13 _ _ ?_; clear hKq13 Kq13
  refine wp_cond_false (slotE e60) ?_
  clear e60; refine wp_seq_k fun Kq15 hKq15 => ?_
  refine sm_list [59] 70 2 hs hd (by kernel_rfl) (agC e59 agN) rfl ?_
  simp only [seval]
  go_wp2_with fail
  intro a H; replace hs := H.s hs; replace hd := H.d rfl; replace e59 := H.g 59 rfl rfl; replace e0 := H.k e0 rfl; replace e1 := H.k e1 rfl; replace e2 := H.k e2 rfl; replace e3 := H.k e3 rfl; replace e8 := H.k e8 rfl; replace e9 := H.k e9 rfl; replace e11 := H.k e11 rfl; replace e10 := H.k e10 rfl; have e70 := H.g 70 rfl rfl; clear H; refine hKq15 _ _ ?_; clear hKq15 Kq15
  refine wp_cond_true (slotE e70) ?_
  clear e70
  refine sm_list [0] 72 7 hs hd (by kernel_rfl) (agC e0 agN) rfl ?_
  simp only [seval]
  go_wp2_with fail
  intro a H; replace hs := H.s hs; replace hd := H.d rfl; replace e0 := H.g 0 rfl rfl; replace e1 := H.k e1 rfl; replace e2 := H.k e2 rfl; replace e3 := H.k e3 rfl; replace e8 := H.k e8 rfl; replace e9 := H.k e9 rfl; replace e11 := H.k e11 rfl; replace e10 := H.k e10 rfl; replace e59 := H.k e59 rfl; clear H; refine hKq11 _ _ ?_; clear hKq11 Kq11; refine wp_seq_k fun Kq16 hKq16 => ?_
  refine sm_list [] 8 2 hs hd (by kernel_rfl) agN rfl ?_
  simp only [seval]
  go_wp2_with fail
  intro a H; replace hs := H.s hs; replace hd := H.d rfl; replace e0 := H.k e0 rfl; replace e1 := H.k e1 rfl; replace e2 := H.k e2 rfl; replace e3 := H.k e3 rfl; replace e11 := H.k e11 rfl; replace e10 := H.k e10 rfl; replace e59 := H.k e59 rfl; replace e8 := H.g 8 rfl rfl; replace e9 := H.g 9 rfl rfl; clear H; refine hKq16 _ _ ?_; clear hKq16 Kq16; refine wp_ret ?_; have gs_ := gr_set (grownBy_refl w4 (some gm)) 13 (.int .i64 (RowKit.wrap64 (ag + 1)))
  have ownF := own_kept H4.out.2.1 gs_ (fun k hk e => by injection e with e; subst e; exact own_blk_ne H4.out.2.1 H4.out.1 (by decide) hk)
  exact sm_ret2 rfl hd e8 e9 ⟨rfl, ⟨⟨c, nx, pa, (RowKit.wrap64 (ag + 1)), si, H4.out.1.set_ 13 _, ownF⟩, H4.out.2.2.2.1.set_ H4.out.1 (by decide), H4.out.2.2.1.set_ H4.out.1 (by decide), H4.out.2.2.2.2.1.set_ H4.out.1 (by decide), HH.out.ne⟩, H4.out.2.2.2.2.2.trans (fr_mem gs_ HKS.out.2.2.2.2.2)⟩
set_option maxRecDepth 100000 in
set_option maxHeartbeats 4000000 in
theorem mgIn_again0 (b : MgB) (r now seq : Int) (w : World) (s0 sa : SqS) (w1 : Int) (h : MgAt w b r ⟨false, seq, 1, w1⟩ s0 sa) (hn : 0 ≤ now ∧ now ≤ 4611686018427387904) (hr : 1 ≤ r ∧ r ≤ 4611686018427387904) (hs0 : 0 ≤ seq ∧ seq < 65536) (hw1 : 0 ≤ w1 ∧ w1 ≤ 4611686018427387904) (f1 : ¬ (w1 ≤ now ∧ r ≤ now - w1)) : Calls Tryz.prog 30 #[.pointer (some ⟨b.g, 0, none⟩), .int .i64 now, .int .i64 0, .int .i64 seq] w fun e w' => e = .returned (.tuple #[.bool false, .int .i64 0]) ∧ MgAt w' b r ⟨false, seq, 1, w1⟩ s0 sa ∧ Fr b.all w w' := by
  refine calls_sm (N := 79) Tryz.func30 rfl (by kernel_rfl) ?_
  intro a hs hd ha
  have e0 : a.tmps[0]? = some (.pointer (some ⟨b.g, 0, none⟩)) := ha 0 _ rfl
  have e1 : a.tmps[1]? = some (.int .i64 now) := ha 1 _ rfl
  have e2 : a.tmps[2]? = some (.int .i64 0) := ha 2 _ rfl
  have e3 : a.tmps[3]? = some (.int .i64 seq) := ha 3 _ rfl
  clear ha
  conv => arg 2; whnf
  refine wp_seq_k fun Kq1 hKq1 => ?_
  obtain ⟨c, nx, pa, ag, si, bm, own⟩ := h.bm
  have HH := Lib.hid h
  clear h
  obtain ⟨gm, h, g0, g1, ga⟩ := b
  obtain ⟨n01, n0a, n1a⟩ := HH.out.ne
  have hk0 : g0 ∈ MgB.all ⟨gm, h, g0, g1, ga⟩ := by simp [MgB.all]
  have hka : ga ∈ MgB.all ⟨gm, h, g0, g1, ga⟩ := by simp [MgB.all]
  have hkm : gm ∈ MgB.all ⟨gm, h, g0, g1, ga⟩ := by simp [MgB.all]
  have HKS := Lib.hid (And.intro n01 (And.intro n0a (And.intro n1a (And.intro hk0 (And.intro hka hkm)))))
  clear n01 n0a n1a hk0 hka hkm
  have q0 := bm.cellOf (v := .int .i64 2) 0 rfl
  have q9 := bm.cellOf (v := .slice (some ⟨h, 0, none⟩) 2 c) 9 rfl
  have rk := reads_at (j := 0) (v := .pointer (some ⟨g0, 0, none⟩)) (Reads.of_own own) rfl
  have qk : w.cell? ⟨h, 0, none⟩ = some (.pointer (some ⟨g0, 0, none⟩)) := rk
  have HBM := Lib.hid (And.intro bm own)
  clear bm own rk
  refine sm_list [] 8 2 hs hd (by kernel_rfl) agN rfl ?_
  simp only [seval]
  go_wp2_with fail
  intro a H; replace hs := H.s hs; replace hd := H.d rfl; replace e0 := H.k e0 rfl; replace e1 := H.k e1 rfl; replace e2 := H.k e2 rfl; replace e3 := H.k e3 rfl; have e8 := H.g 8 rfl rfl; have e9 := H.g 9 rfl rfl; clear H; refine hKq1 _ _ ?_; clear hKq1 Kq1; refine wp_seq_k fun Kq2 hKq2 => ?_; refine wp_block ?_; refine wp_seq_k fun Kq3 hKq3 => ?_
  refine sm_list [0] 12 3 hs hd (by kernel_rfl) (agC e0 agN) rfl ?_
  simp only [seval]
  go_wp2_with fail
  intro a H; replace hs := H.s hs; replace hd := H.d rfl; replace e0 := H.g 0 rfl rfl; replace e1 := H.k e1 rfl; replace e2 := H.k e2 rfl; replace e3 := H.k e3 rfl; replace e8 := H.k e8 rfl; replace e9 := H.k e9 rfl; have e12 := H.g 12 rfl rfl; clear H; refine hKq3 _ _ ?_; clear hKq3 Kq3
  refine wp_cond_false (slotE e12) ?_
  clear e12; refine wp_seq_k fun Kq4 hKq4 => ?_
  refine sm_list [0, 2] 15 12 hs hd (by kernel_rfl) (agC e0 (agC e2 agN)) rfl ?_
  simp only [seval]
  go_wp2_with fail
  intro a H; replace hs := H.s hs; replace hd := H.d rfl; replace e0 := H.g 0 rfl rfl; replace e2 := H.g 2 rfl rfl; replace e1 := H.k e1 rfl; replace e3 := H.k e3 rfl; replace e8 := H.k e8 rfl; replace e9 := H.k e9 rfl; have e15 := H.g 15 rfl rfl; clear H; refine hKq4 _ _ ?_; clear hKq4 Kq4
  refine wp_cond_false (slotE e15) ?_
  clear e15; refine wp_skip ?_; refine hKq2 _ _ ?_; clear hKq2 Kq2; refine wp_seq_k fun Kq5 hKq5 => ?_; clear q0
  refine sm_list [0, 1, 2, 3, 10, 11] 27 13 hs hd (by kernel_rfl) (agC e0 (agC e1 (agC e2 (agC e3 (agU (agU agN)))))) rfl ?_
  simp only [seval]
  go_wp2_with fail
  obtain ⟨c0, c1, c2, c3, rs, lo, hB⟩ := HH.out.s0
  refine (sqIn_again g0 r w1 c0 c1 c2 c3 rs lo now seq w hB hn hw1 hr hs0 f1).mono ?_
  rintro e w3 ⟨rfl, G3, S3⟩
  clear hB
  go_wp2_with fail
  intro a H; replace hs := H.s hs; replace hd := H.d rfl; replace e0 := H.g 0 rfl rfl; replace e1 := H.g 1 rfl rfl; replace e2 := H.g 2 rfl rfl; replace e3 := H.g 3 rfl rfl; replace e8 := H.k e8 rfl; replace e9 := H.k e9 rfl; have e10 := H.g 10 rfl rfl; have e11 := H.g 11 rfl rfl; clear H; refine hKq5 _ _ ?_; clear hKq5 Kq5; refine wp_seq_k fun Kq6 hKq6 => ?_; refine wp_seq_k fun Kq7 hKq7 => ?_; clear q9 qk
  have HS3 := Lib.hid (And.intro S3 G3)
  clear S3 G3
  refine sm_list [11] 40 2 hs hd (by kernel_rfl) (agC e11 agN) rfl ?_
  simp only [seval]
  go_wp2_with fail
  intro a H; replace hs := H.s hs; replace hd := H.d rfl; replace e11 := H.g 11 rfl rfl; replace e0 := H.k e0 rfl; replace e1 := H.k e1 rfl; replace e2 := H.k e2 rfl; replace e3 := H.k e3 rfl; replace e8 := H.k e8 rfl; replace e9 := H.k e9 rfl; replace e10 := H.k e10 rfl; have e41 := H.g 41 rfl rfl; clear H; refine hKq7 _ _ ?_; clear hKq7 Kq7
  refine wp_cond_false (slotE e41) ?_
  clear e41; refine wp_skip ?_; refine hKq6 _ _ ?_; clear hKq6 Kq6; refine wp_seq_k fun Kq8 hKq8 => ?_; refine wp_seq_k fun Kq9 hKq9 => ?_
  refine sm_list [10] 43 6 hs hd (by kernel_rfl) (agC e10 agN) rfl ?_
  simp only [seval]
  go_wp2_with fail
  intro a H; replace hs := H.s hs; replace hd := H.d rfl; replace e10 := H.g 10 rfl rfl; replace e0 := H.k e0 rfl; replace e1 := H.k e1 rfl; replace e2 := H.k e2 rfl; replace e3 := H.k e3 rfl; replace e8 := H.k e8 rfl; replace e9 := H.k e9 rfl; replace e11 := H.k e11 rfl; have e48 := H.g 48 rfl rfl; clear H; refine hKq9 _ _ ?_; clear hKq9 Kq9
  have F3 : Fr (MgB.all ⟨gm, h, g0, g1, ga⟩) w w3 := fr_mem HS3.out.2 HKS.out.2.2.2.1
  have bm3 := blk_other HBM.out.1 HH.out.s0 (by decide) HS3.out.2
  have own3 := own_other (g := 0) HBM.out.2 HH.out.s0 (by decide) HS3.out.2
  have so3 := HH.out.s1.other HS3.out.2 (show g1 ≠ g0 from HKS.out.1.symm); have sa3 := HH.out.sa.other HS3.out.2 (show ga ≠ g0 from HKS.out.2.1.symm)
  refine wp_cond_true (slotE e48) ?_
  clear e48; refine wp_seq_k fun Kq10 hKq10 => ?_
  refine sm_list [] 8 2 hs hd (by kernel_rfl) agN rfl ?_
  simp only [seval]
  go_wp2_with fail
  intro a H; replace hs := H.s hs; replace hd := H.d rfl; replace e0 := H.k e0 rfl; replace e1 := H.k e1 rfl; replace e2 := H.k e2 rfl; replace e3 := H.k e3 rfl; replace e10 := H.k e10 rfl; replace e11 := H.k e11 rfl; replace e8 := H.g 8 rfl rfl; replace e9 := H.g 9 rfl rfl; clear H; refine hKq10 _ _ ?_; clear hKq10 Kq10; refine wp_ret ?_; refine exit_then rfl ?_
  exact sm_ret2 rfl hd e8 e9 ⟨rfl, ⟨⟨c, nx, pa, ag, si, bm3, own3⟩, HS3.out.1, so3, sa3, HH.out.ne⟩, F3⟩
end Go.Proofs.YthhlfojaloaooaaGreat
