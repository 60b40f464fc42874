/-
  host: what comes in at the first port, and is taken.
-/
import Derived.Test.YthhlfojaloaooaaGreatRows
import Derived.Test.YthhlfojaloaooaaGreatHnZZ
import Derived.Test.YthhlfojaloaooaaGreatEtLZ
import Derived.WalkKit
import Derived.ProofKit
import Derived.OpenShut
import Derived.LoopTactic
import Derived.WalkLawsBesides
import Derived.WalkSpells
import Derived.Outline
import Derived.Lib.Hide
import Derived.Deep.DrawnRows
import Derived.Laws.CopyOwn
import Derived.MapKept
namespace Go.Proofs.YthhlfojaloaooaaGreat
set_option linter.unusedSimpArgs false
set_option linter.unusedVariables false
open Go.RowKit Go.WideShapes Go.ChangeShapes
attribute [local go_sem ↓] Go.wp_at_zero Go.wp_at_succ

set_option maxRecDepth 100000 in
set_option maxHeartbeats 4000000 in
theorem hIn_0true (B g gb : Nat) (ve : Value) (hg : Nat) (vm : Value) (b0 b : MgB) (ps : List Value) (hps : ps = [.pointer (some ⟨b0.g, 0, none⟩), .pointer (some ⟨b.g, 0, none⟩)]) (id : Int) (gens : List Int) (ag st r here now : Int) (u0 u1 ua t0 t1 ta : SqS) (A : Option Addr) (n c : Nat) (bs : List Int) (s0 s1 s2 s3 s4 s5 seq : Int) (data : List Int) (w : World)
    (h : HoAt B w g gb ve hg vm 2 ps id 2 [⟨5, 1, 2, 0, 0, 0, 0, 0, 0, 0, 0, 1, true⟩, ⟨5, 1, 2, 0, 0, 0, 0, 0, 0, 0, 0, 1, false⟩] gens ag st) (hmg : MgAt w b r u0 u1 ua) (hnow : now = here / 65536) (hr : Reads w w.heap.size 1 A n (us bs)) (hb : ∀ b ∈ bs, 0 ≤ b ∧ b ≤ 255) (hn : n ≤ 1000000) (hnc : n ≤ c) (hdec : decV bs = .ok ⟨[1, 2, 0, 0, 0, 0], [s0, s1, s2, s3, s4, s5], true, 5, 7, false, true, seq, 2048, data⟩)
    (hm : ∀ W, MgAt W b r u0 u1 ua → Calls Tryz.prog 30 #[.pointer (some ⟨b.g, 0, none⟩), .int .i64 now, .int .i64 0, .int .i64 seq] W fun e w' => e = .returned (.tuple #[.bool true, .int .i64 0]) ∧ MgAt w' b r t0 t1 ta ∧ Fr b.all W w') :
    Calls Tryz.prog 15 #[.pointer (some ⟨g, 0, none⟩), .int .i64 0, .slice A n c, .int .i64 here] w fun x w' => ∃ vq A2 l c2, x = .returned (.tuple #[.slice none 0 0, vq]) ∧ l = data.length ∧ w'.ownsRow w.heap.size 71 23 vq 1 (#[.int .i64 1, .int .i64 seq, .slice A2 l c2, .int .u8 0, .int .u8 0, .int .u8 0, .int .u8 0, .int .u8 0, .int .u8 0, .int .u8 0, .int .u8 0, .int .u8 0, .int .u8 0, .int .u8 0, .int .u8 0, .bool false, .int .i64 0, .int .i64 0, .bool false, .bool false, .int .i64 0, .int .i64 0, .slice none 0 0] : Array Value).toList ∧ Reads w' w'.heap.size 1 A2 l (us data) ∧ HoAt B w' g gb ve hg vm 2 ps id 2 [⟨5, 1, 2, 0, 0, 0, 0, 0, 0, 0, 0, 1, true⟩, ⟨5, 1, 2, 0, 0, 0, 0, 0, 0, 0, 0, 1, false⟩] gens ag st ∧ MgAt w' b r t0 t1 ta ∧ FTy ityps w w' ∧ Bys w w' ∧ Fr (g :: b.all) w w' := by
  have q0 := h.box.cellOf (v := .pointer (some ⟨gb, 0, none⟩)) 0 rfl
  have HH := Lib.hid (And.intro h (And.intro hmg (And.intro hps hnow)))
  have HR := Lib.hid (And.intro hr (And.intro hb (And.intro hn (And.intro hnc hdec))))
  have HM := Lib.hid hm
  clear h hmg hnow hr hb hn hnc hdec hm hps
  refine calls_sm (N := 138) Tryz.func15 rfl (by kernel_rfl) ?_
  intro a hs hd ha
  have e0 : a.tmps[0]? = some (.pointer (some ⟨g, 0, none⟩)) := ha 0 _ rfl
  have e1 : a.tmps[1]? = some (.int .i64 0) := ha 1 _ rfl
  have e2 : a.tmps[2]? = some (.slice A n c) := ha 2 _ rfl
  have e3 : a.tmps[3]? = some (.int .i64 here) := ha 3 _ rfl
  clear ha
  conv => arg 2; whnf
  refine wp_seq_k fun Kq1 hKq1 => ?_
  refine sm_list [] 8 2 hs hd (by kernel_rfl) agN rfl ?_
  simp only [seval]
  go_wp2_with fail
  intro a H; replace hs := H.s hs; replace hd := H.d rfl; replace e0 := H.k e0 rfl; replace e1 := H.k e1 rfl; replace e2 := H.k e2 rfl; replace e3 := H.k e3 rfl; have e8 := H.g 8 rfl rfl; have e9 := H.g 9 rfl rfl; clear H; refine hKq1 _ _ ?_; clear hKq1 Kq1
  refine wp_scope_straight ?_
  refine wp_seq_k fun Kq2 hKq2 => ?_; refine wp_seq_k fun Kq3 hKq3 => ?_
  refine sm_list [0] 21 2 hs hd (by kernel_rfl) (agC e0 agN) rfl ?_
  simp only [seval]
  go_wp2_with fail
  intro a H; replace hs := H.s hs; replace hd := H.d rfl; replace e0 := H.g 0 rfl rfl; replace e1 := H.k e1 rfl; replace e2 := H.k e2 rfl; replace e3 := H.k e3 rfl; replace e8 := H.k e8 rfl; replace e9 := H.k e9 rfl; have e22 := H.g 22 rfl rfl; clear H; refine hKq3 _ _ ?_; clear hKq3 Kq3
  refine wp_cond_false (slotE e22) ?_
  clear e22; refine wp_skip ?_; refine hKq2 _ _ ?_; clear hKq2 Kq2; refine wp_seq_k fun Kq4 hKq4 => ?_
  refine sm_list [0, 1, 2, 3, 10, 11] 23 11 hs hd (by kernel_rfl) (agC e0 (agC e1 (agC e2 (agC e3 (agU (agU agN)))))) rfl ?_
  simp only [seval]
  go_wp2_with fail
  refine (brIn_ok gb 2 0 (.int .i64 here) A n c bs 1 2 0 0 0 0 s0 s1 s2 s3 s4 s5 5 7 seq 2048 true false true data w HH.out.1.br (by omega) HR.out.1 HR.out.2.1 HR.out.2.2.1 HR.out.2.2.2.1 HR.out.2.2.2.2 rfl).mono ?_
  rintro x w2 ⟨h1, A2, c2, rfl, hb2, hh1, B1, rd2⟩
  obtain ⟨l, hl⟩ : ∃ l, l = data.length := ⟨_, rfl⟩
  rw [← hl] at B1 rd2
  have B1' : Blk w2 h1 52 #[.int .u8 1, .int .u8 2, .int .u8 0, .int .u8 0, .int .u8 0, .int .u8 0, .int .u8 s0, .int .u8 s1, .int .u8 s2, .int .u8 s3, .int .u8 s4, .int .u8 s5, .bool true, .int .i64 5, .int .i64 7, .bool false, .bool true, .int .i64 seq, .int .i64 2048, .slice A2 l c2] := B1
  have HB1 := Lib.hid (And.intro B1' (And.intro rd2 (And.intro hl hb2)))
  clear B1 B1' rd2 hl hb2 q0
  go_wp2_with fail
  intro a H; replace hs := H.s hs; replace hd := H.d rfl; replace e0 := H.g 0 rfl rfl; replace e1 := H.g 1 rfl rfl; replace e2 := H.g 2 rfl rfl; replace e3 := H.g 3 rfl rfl; replace e8 := H.k e8 rfl; replace e9 := H.k e9 rfl; have e10 := H.g 10 rfl rfl; have e11 := H.g 11 rfl rfl; clear H; refine hKq4 _ _ ?_; clear hKq4 Kq4; refine wp_seq_k fun Kq5 hKq5 => ?_
  refine sm_list [] 12 1 hs hd (by kernel_rfl) agN rfl ?_
  simp only [seval]
  go_wp2_with fail
  intro a H; replace hs := H.s hs; replace hd := H.d rfl; replace e0 := H.k e0 rfl; replace e1 := H.k e1 rfl; replace e2 := H.k e2 rfl; replace e3 := H.k e3 rfl; replace e8 := H.k e8 rfl; replace e9 := H.k e9 rfl; replace e10 := H.k e10 rfl; replace e11 := H.k e11 rfl; have e12 := H.g 12 rfl rfl; clear H; refine hKq5 _ _ ?_; clear hKq5 Kq5; refine wp_seq_k fun Kq6 hKq6 => ?_
  refine wp_label ?_
  refine hKq6 _ _ ?_; clear hKq6 Kq6; refine wp_seq_k fun Kq7 hKq7 => ?_; refine wp_seq_k fun Kq8 hKq8 => ?_
  refine sm_list [11] 34 3 hs hd (by kernel_rfl) (agC e11 agN) rfl ?_
  simp only [seval]
  go_wp2_with fail
  intro a H; replace hs := H.s hs; replace hd := H.d rfl; replace e11 := H.g 11 rfl rfl; replace e0 := H.k e0 rfl; replace e1 := H.k e1 rfl; replace e2 := H.k e2 rfl; replace e3 := H.k e3 rfl; replace e8 := H.k e8 rfl; replace e9 := H.k e9 rfl; replace e10 := H.k e10 rfl; replace e12 := H.k e12 rfl; have e34 := H.g 34 rfl rfl; have e35 := H.g 35 rfl rfl; have e36 := H.g 36 rfl rfl; clear H; refine hKq8 _ _ ?_
  clear hKq8 Kq8; refine wp_block ?_
  refine wp_loop (fun a w' => ∃ (d : Nat) (v : Value), d ≤ 1 ∧ Hid ((d = 0 ∧ v = .slice none 0 0 ∧ w2 = w') ∨ (d = 1 ∧ ∃ vq, v = vq ∧ w'.ownsRow w.heap.size 71 23 vq 1 (#[.int .i64 1, .int .i64 seq, .slice A2 l c2, .int .u8 0, .int .u8 0, .int .u8 0, .int .u8 0, .int .u8 0, .int .u8 0, .int .u8 0, .int .u8 0, .int .u8 0, .int .u8 0, .int .u8 0, .int .u8 0, .bool false, .int .i64 0, .int .i64 0, .bool false, .bool false, .int .i64 0, .int .i64 0, .slice none 0 0] : Array Value).toList ∧ Reads w' w'.heap.size 1 A2 l (us data) ∧ HoAt B w' g gb ve hg vm 2 ps id 2 [⟨5, 1, 2, 0, 0, 0, 0, 0, 0, 0, 0, 1, true⟩, ⟨5, 1, 2, 0, 0, 0, 0, 0, 0, 0, 0, 1, false⟩] gens ag st ∧ MgAt w' b r t0 t1 ta ∧ FTy ityps w w' ∧ Bys w w' ∧ Fr (g :: b.all) w w')) ∧ a.tmps.size = 138 ∧ a.defers = [] ∧ a.tmps[0]? = some (.pointer (some ⟨g, 0, none⟩)) ∧ a.tmps[1]? = some (.int .i64 0) ∧ a.tmps[3]? = some (.int .i64 here) ∧ a.tmps[10]? = some (.slice none 0 0) ∧ a.tmps[34]? = some (.slice (some ⟨h1, 0, none⟩) 1 1) ∧ a.tmps[35]? = some (.int .i64 1) ∧ a.tmps[12]? = some v ∧ a.tmps[36]? = some (.int .i64 (d : Int))) (fun a _ => 1 - (intOf (a.tmps.getD 36 undef)).toNat) ?_ ?_
  · exact ⟨0, _, by omega, Lib.hid (.inl ⟨rfl, rfl, rfl⟩), hs, hd, e0, e1, e3, e10, e34, e35, e12, e36⟩
  clear e0 e1 e2 e3 e8 e9 e10 e11 e12 e34 e35 e36 hs hd a
  rintro a w3 ⟨d, v, hd1, HS, hs, hd, e0, e1, e3, e10, e34, e35, e12, e36⟩
  have hm := slot e36
  refine wp_seq_k fun Kq9 hKq9 => ?_
  obtain rfl | rfl : d = 0 ∨ d = 1 := by omega
  · obtain ⟨rfl, rfl⟩ : v = .slice none 0 0 ∧ w2 = w3 := by
      rcases HS.out with ⟨_, h1, h2⟩ | ⟨h1, _⟩
      · exact ⟨h1, h2⟩
      · exact absurd h1 (by decide)
    have HMF := Lib.hid hm
    clear hm HS
    refine sm_list [35, 36] 37 1 hs hd (by kernel_rfl) (agC e35 (agC e36 agN)) rfl ?_
    simp only [seval]
    go_wp2_with fail
    intro a H; replace hs := H.s hs; replace hd := H.d rfl; replace e35 := H.g 35 rfl rfl; replace e36 := H.g 36 rfl rfl; replace e0 := H.k e0 rfl; replace e1 := H.k e1 rfl; replace e3 := H.k e3 rfl; replace e10 := H.k e10 rfl; replace e34 := H.k e34 rfl; replace e12 := H.k e12 rfl; have e37 := H.g 37 rfl rfl; clear H; refine hKq9 _ _ ?_; clear hKq9 Kq9; refine wp_seq_k fun Kq10 hKq10 => ?_
    refine wp_cond_true (slotE e37) ?_
    clear e37; refine wp_skip ?_; refine hKq10 _ _ ?_; clear hKq10 Kq10; refine wp_seq_k fun Kq11 hKq11 => ?_; refine wp_block ?_; refine wp_seq_k fun Kq12 hKq12 => ?_
    refine sm_list [14, 34, 36] 38 2 hs hd (by kernel_rfl) (agU (agC e34 (agC e36 agN))) rfl ?_
    simp only [seval]
    go_wp2_with (first | (refine wpList_load_any_d rfl 52 (.tmp 3) rfl ⟨h1, 0, none⟩ rfl #[.int .u8 1, .int .u8 2, .int .u8 0, .int .u8 0, .int .u8 0, .int .u8 0, .int .u8 s0, .int .u8 s1, .int .u8 s2, .int .u8 s3, .int .u8 s4, .int .u8 s5, .bool true, .int .i64 5, .int .i64 7, .bool false, .bool true, .int .i64 seq, .int .i64 2048, .slice A2 l c2] _ (blk_cells HB1.out.1) Tryz.underlying52 rfl (by kernel_rfl) ?_) | (refine wpList_store_new rfl 52 (.tmp 0) (.tmp 4) rfl rfl rfl rfl rfl (by kernel_rfl) (by rw [← Array.all_toList]; rfl) ?_) | fail)
    intro a H; replace hs := H.s hs; replace hd := H.d rfl; replace e34 := H.g 34 rfl rfl; replace e36 := H.g 36 rfl rfl; replace e0 := H.k e0 rfl; replace e1 := H.k e1 rfl; replace e3 := H.k e3 rfl; replace e10 := H.k e10 rfl; replace e35 := H.k e35 rfl; replace e12 := H.k e12 rfl; have e14 := H.g 14 rfl rfl; clear H; refine hKq12 _ _ ?_; clear hKq12 Kq12; refine wp_seq_k fun Kq13 hKq13 => ?_; refine wp_seq_k fun Kq14 hKq14 => ?_
    have BF := Blk.new w2 52 #[.int .u8 1, .int .u8 2, .int .u8 0, .int .u8 0, .int .u8 0, .int .u8 0, .int .u8 s0, .int .u8 s1, .int .u8 s2, .int .u8 s3, .int .u8 s4, .int .u8 s5, .bool true, .int .i64 5, .int .i64 7, .bool false, .bool true, .int .i64 seq, .int .i64 2048, .slice A2 l c2]
    have L3 := (Below.refl w2.heap.size w2).alloc (Nat.le_refl _) (.cells #[.int .u8 1, .int .u8 2, .int .u8 0, .int .u8 0, .int .u8 0, .int .u8 0, .int .u8 s0, .int .u8 s1, .int .u8 s2, .int .u8 s3, .int .u8 s4, .int .u8 s5, .bool true, .int .i64 5, .int .i64 7, .bool false, .bool true, .int .i64 seq, .int .i64 2048, .slice A2 l c2] 52)
    generalize hw3 : w2.alloc (.cells #[.int .u8 1, .int .u8 2, .int .u8 0, .int .u8 0, .int .u8 0, .int .u8 0, .int .u8 s0, .int .u8 s1, .int .u8 s2, .int .u8 s3, .int .u8 s4, .int .u8 s5, .bool true, .int .i64 5, .int .i64 7, .bool false, .bool true, .int .i64 seq, .int .i64 2048, .slice A2 l c2] 52) = w3 at BF L3 ⊢
    obtain ⟨q, hq⟩ : ∃ q, q = w2.heap.size := ⟨_, rfl⟩
    rw [← hq] at BF e14
    clear hw3 hq; have X3 := HH.out.1.kept (HB1.out.2.2.2.trans (L3.mono HB1.out.2.2.2.size))
    obtain ⟨Ae, ce, rfl, hce, rde⟩ := ownsRow_reads X3.ends
    obtain ⟨ad, hAe, _, hc1⟩ := reads_el (k := 0) Ed.len rde rfl (by decide)
    subst hAe
    obtain ⟨ad', hAe, _, hc2⟩ := reads_el (k := 1) Ed.len rde rfl (by decide)
    injection hAe with hAe
    subst hAe
    have he0 : ∀ j v, (#[.int .i64 5, .int .u8 1, .int .u8 2, .int .u8 0, .int .u8 0, .int .u8 0, .int .u8 0, .int .i64 0, .int .i64 0, .int .i64 0, .int .i64 0, .int .i64 1, .bool true] : Array Value).toList[j]? = some v → w3.cell? (ad.add j) = some v := fun j v hv => by have h := hc1 j v hv; rwa [show ad.add (0 * 13) = ad from rfl] at h
    have he1 : ∀ j v, (#[.int .i64 5, .int .u8 1, .int .u8 2, .int .u8 0, .int .u8 0, .int .u8 0, .int .u8 0, .int .i64 0, .int .i64 0, .int .i64 0, .int .i64 0, .int .i64 1, .bool false] : Array Value).toList[j]? = some v → w3.cell? ((⟨ad.block, ad.off + 13, none⟩ : Addr).add j) = some v := fun j v hv => hc2 j v hv
    have q2 := X3.box.cellOf (v := .slice (some ad) 2 ce) 2 rfl
    have H3 := Lib.hid (And.intro BF (And.intro L3 (And.intro X3 (And.intro he0 he1))))
    clear BF L3 X3 rde hc1 hc2 he0 he1 hce
    refine sm_list [0] 40 6 hs hd (by kernel_rfl) (agC e0 agN) rfl ?_
    simp only [seval]
    go_wp2_with fail
    intro a H; replace hs := H.s hs; replace hd := H.d rfl; replace e0 := H.g 0 rfl rfl; replace e1 := H.k e1 rfl; replace e3 := H.k e3 rfl; replace e10 := H.k e10 rfl; replace e34 := H.k e34 rfl; replace e35 := H.k e35 rfl; replace e12 := H.k e12 rfl; replace e36 := H.k e36 rfl; replace e14 := H.k e14 rfl; have e43 := H.g 43 rfl rfl; have e44 := H.g 44 rfl rfl; have e45 := H.g 45 rfl rfl; clear H
    refine hKq14 _ _ ?_; clear hKq14 Kq14; refine wp_block ?_; clear q2
    refine wp_loop (fun a w' => ∃ (i : Nat), i ≤ 1 ∧ Below w3.heap.size w3 w' ∧ a.tmps.size = 138 ∧ a.defers = [] ∧ a.tmps[0]? = some (.pointer (some ⟨g, 0, none⟩)) ∧ a.tmps[1]? = some (.int .i64 0) ∧ a.tmps[3]? = some (.int .i64 here) ∧ a.tmps[10]? = some (.slice none 0 0) ∧ a.tmps[12]? = some (.slice none 0 0) ∧ a.tmps[14]? = some (.pointer (some ⟨q, 0, none⟩)) ∧ a.tmps[34]? = some (.slice (some ⟨h1, 0, none⟩) 1 1) ∧ a.tmps[35]? = some (.int .i64 1) ∧ a.tmps[36]? = some (.int .i64 0) ∧ a.tmps[43]? = some (.slice (some ad) 2 ce) ∧ a.tmps[44]? = some (.int .i64 2) ∧ a.tmps[45]? = some (.int .i64 (i : Int))) (fun a _ => 2 - (intOf (a.tmps.getD 45 undef)).toNat) ?_ ?_
    · exact ⟨0, by omega, Below.refl _ _, hs, hd, e0, e1, e3, e10, e12, e14, e34, e35, e36, e43, e44, e45⟩
    clear e0 e1 e3 e10 e34 e35 e12 e36 e14 e43 e44 e45 hs hd a
    rintro a w4 ⟨i, hi1, L4, hs, hd, e0, e1, e3, e10, e12, e14, e34, e35, e36, e43, e44, e45⟩
    have hm := slot e45
    refine wp_seq_k fun Kq15 hKq15 => ?_
    obtain rfl | rfl : i = 0 ∨ i = 1 := by omega
    ·
      have HMI := Lib.hid hm
      clear hm
      refine sm_list [44, 45] 46 1 hs hd (by kernel_rfl) (agC e44 (agC e45 agN)) rfl ?_
      simp only [seval]
      go_wp2_with fail
      intro a H; replace hs := H.s hs; replace hd := H.d rfl; replace e44 := H.g 44 rfl rfl; replace e45 := H.g 45 rfl rfl; replace e0 := H.k e0 rfl; replace e1 := H.k e1 rfl; replace e3 := H.k e3 rfl; replace e10 := H.k e10 rfl; replace e12 := H.k e12 rfl; replace e14 := H.k e14 rfl; replace e34 := H.k e34 rfl; replace e35 := H.k e35 rfl; replace e36 := H.k e36 rfl; replace e43 := H.k e43 rfl; have e46 := H.g 46 rfl rfl
      clear H; refine hKq15 _ _ ?_; clear hKq15 Kq15; refine wp_seq_k fun Kq16 hKq16 => ?_
      refine wp_cond_true (slotE e46) ?_
      clear e46; refine wp_skip ?_; refine hKq16 _ _ ?_; clear hKq16 Kq16; refine wp_seq_k fun Kq17 hKq17 => ?_; refine wp_block ?_; refine wp_seq_k fun Kq18 hKq18 => ?_
      have HE4 : Hid (∀ j v, (#[.int .i64 5, .int .u8 1, .int .u8 2, .int .u8 0, .int .u8 0, .int .u8 0, .int .u8 0, .int .i64 0, .int .i64 0, .int .i64 0, .int .i64 0, .int .i64 1, .bool true] : Array Value).toList[j]? = some v → w4.cell? (ad.add j) = some v) := Lib.hid (fun j v hv => by
        have h := H3.out.2.2.2.1 j v hv
        rw [← h]
        exact L4.cell (by
          have hz := H3.out.2.2.1.ends
          rcases hz.2 with ⟨h1, _⟩ | ⟨q1, cap, cur, hv1, _, hh1, _⟩
          · cases h1
          · injection hv1 with hv1
            injection hv1 with hv1
            subst hv1
            rw [block_of_add]
            exact lt_of_block hh1))
      refine sm_list [15, 16, 43, 45] 47 3 hs hd (by kernel_rfl) (agU (agU (agC e43 (agC e45 agN)))) rfl ?_
      simp only [seval]
      go_wp2_with (first | (refine wpList_load_any_d rfl 32 (.tmp 5) rfl ad rfl #[.int .i64 5, .int .u8 1, .int .u8 2, .int .u8 0, .int .u8 0, .int .u8 0, .int .u8 0, .int .i64 0, .int .i64 0, .int .i64 0, .int .i64 0, .int .i64 1, .bool true] _ HE4.out Tryz.underlying32 rfl (by kernel_rfl) ?_) | (refine wpList_store_new rfl 32 (.tmp 1) (.tmp 6) rfl rfl rfl rfl rfl (by kernel_rfl) (by rw [← Array.all_toList]; rfl) ?_) | fail)
      intro a H; replace hs := H.s hs; replace hd := H.d rfl; replace e43 := H.g 43 rfl rfl; replace e45 := H.g 45 rfl rfl; replace e0 := H.k e0 rfl; replace e1 := H.k e1 rfl; replace e3 := H.k e3 rfl; replace e10 := H.k e10 rfl; replace e12 := H.k e12 rfl; replace e14 := H.k e14 rfl; replace e34 := H.k e34 rfl; replace e35 := H.k e35 rfl; replace e36 := H.k e36 rfl; replace e44 := H.k e44 rfl; have e15 := H.g 15 rfl rfl
      have e16 := H.g 16 rfl rfl; clear H; refine hKq18 _ _ ?_; clear hKq18 Kq18; refine wp_seq_k fun Kq19 hKq19 => ?_; refine wp_seq_k fun Kq20 hKq20 => ?_
      have BE := Blk.new w4 32 #[.int .i64 5, .int .u8 1, .int .u8 2, .int .u8 0, .int .u8 0, .int .u8 0, .int .u8 0, .int .i64 0, .int .i64 0, .int .i64 0, .int .i64 0, .int .i64 1, .bool true]
      have L5 := (Below.refl w4.heap.size w4).alloc (Nat.le_refl _) (.cells #[.int .i64 5, .int .u8 1, .int .u8 2, .int .u8 0, .int .u8 0, .int .u8 0, .int .u8 0, .int .i64 0, .int .i64 0, .int .i64 0, .int .i64 0, .int .i64 1, .bool true] 32)
      generalize hw5 : w4.alloc (.cells #[.int .i64 5, .int .u8 1, .int .u8 2, .int .u8 0, .int .u8 0, .int .u8 0, .int .u8 0, .int .i64 0, .int .i64 0, .int .i64 0, .int .i64 0, .int .i64 1, .bool true] 32) = w5 at BE L5 ⊢
      obtain ⟨p, hp⟩ : ∃ p, p = w4.heap.size := ⟨_, rfl⟩
      rw [← hp] at BE e16
      have L35 := L4.trans (L5.mono L4.size)
      have HB5 := Lib.hid (And.intro BE (And.intro (H3.out.1.kept L35) L35))
      clear hw5 hp L4 L5 HE4
      have k12 := BE.cellOf (v := .bool true) 12 rfl
      clear BE L35
      refine sm_list [14, 16] 50 23 hs hd (by kernel_rfl) (agC e14 (agC e16 agN)) rfl ?_
      simp only [seval]
      go_wp2_with fail
      intro a H; replace hs := H.s hs; replace hd := H.d rfl; replace e14 := H.g 14 rfl rfl; replace e16 := H.g 16 rfl rfl; replace e0 := H.k e0 rfl; replace e1 := H.k e1 rfl; replace e3 := H.k e3 rfl; replace e10 := H.k e10 rfl; replace e12 := H.k e12 rfl; replace e34 := H.k e34 rfl; replace e35 := H.k e35 rfl; replace e36 := H.k e36 rfl; replace e43 := H.k e43 rfl; replace e44 := H.k e44 rfl; replace e45 := H.k e45 rfl; replace e15 := H.k e15 rfl
      have e72 := H.g 72 rfl rfl; clear H; refine hKq20 _ _ ?_; clear hKq20 Kq20
      refine wp_cond_true (slotE e72) ?_
      clear e72; clear k12; refine wp_exit ?_; refine exit_then rfl ?_; clear hKq19 Kq19; refine exit_hit ?_; refine hKq17 _ _ ?_; clear hKq17 Kq17; clear e15; clear e16
      refine sm_list [45] 129 1 hs hd (by kernel_rfl) (agC e45 agN) rfl ?_
      simp only [seval]
      go_wp2_with fail
      intro a H; replace hs := H.s hs; replace hd := H.d rfl; replace e0 := H.k e0 rfl; replace e1 := H.k e1 rfl; replace e3 := H.k e3 rfl; replace e10 := H.k e10 rfl; replace e12 := H.k e12 rfl; replace e14 := H.k e14 rfl; replace e34 := H.k e34 rfl; replace e35 := H.k e35 rfl; replace e36 := H.k e36 rfl; replace e43 := H.k e43 rfl; replace e44 := H.k e44 rfl; replace e45 := H.g 45 rfl rfl; clear H
      exact ⟨⟨1, by omega, HB5.out.2.2, hs, hd, e0, e1, e3, e10, e12, e14, e34, e35, e36, e43, e44, e45⟩, by rw [HMI.out, slot e45]; decide⟩
    ·
      have HMI := Lib.hid hm
      clear hm
      refine sm_list [44, 45] 46 1 hs hd (by kernel_rfl) (agC e44 (agC e45 agN)) rfl ?_
      simp only [seval]
      go_wp2_with fail
      intro a H; replace hs := H.s hs; replace hd := H.d rfl; replace e44 := H.g 44 rfl rfl; replace e45 := H.g 45 rfl rfl; replace e0 := H.k e0 rfl; replace e1 := H.k e1 rfl; replace e3 := H.k e3 rfl; replace e10 := H.k e10 rfl; replace e12 := H.k e12 rfl; replace e14 := H.k e14 rfl; replace e34 := H.k e34 rfl; replace e35 := H.k e35 rfl; replace e36 := H.k e36 rfl; replace e43 := H.k e43 rfl; have e46 := H.g 46 rfl rfl
      clear H; refine hKq15 _ _ ?_; clear hKq15 Kq15; refine wp_seq_k fun Kq16 hKq16 => ?_
      refine wp_cond_true (slotE e46) ?_
      clear e46; refine wp_skip ?_; refine hKq16 _ _ ?_; clear hKq16 Kq16; refine wp_seq_k fun Kq17 hKq17 => ?_; refine wp_block ?_; refine wp_seq_k fun Kq18 hKq18 => ?_
      have HE4 : Hid (∀ j v, (#[.int .i64 5, .int .u8 1, .int .u8 2, .int .u8 0, .int .u8 0, .int .u8 0, .int .u8 0, .int .i64 0, .int .i64 0, .int .i64 0, .int .i64 0, .int .i64 1, .bool false] : Array Value).toList[j]? = some v → w4.cell? ((⟨ad.block, ad.off + 13, none⟩ : Addr).add j) = some v) := Lib.hid (fun j v hv => by
        have h := H3.out.2.2.2.2 j v hv
        rw [← h]
        exact L4.cell (by
          have hz := H3.out.2.2.1.ends
          rcases hz.2 with ⟨h1, _⟩ | ⟨q1, cap, cur, hv1, _, hh1, _⟩
          · cases h1
          · injection hv1 with hv1
            injection hv1 with hv1
            subst hv1
            rw [block_of_add]
            exact lt_of_block hh1))
      refine sm_list [15, 16, 43, 45] 47 3 hs hd (by kernel_rfl) (agU (agU (agC e43 (agC e45 agN)))) rfl ?_
      simp only [seval]
      go_wp2_with (first | (refine wpList_load_any_d rfl 32 (.tmp 5) rfl ⟨ad.block, ad.off + 13, none⟩ rfl #[.int .i64 5, .int .u8 1, .int .u8 2, .int .u8 0, .int .u8 0, .int .u8 0, .int .u8 0, .int .i64 0, .int .i64 0, .int .i64 0, .int .i64 0, .int .i64 1, .bool false] _ HE4.out Tryz.underlying32 rfl (by kernel_rfl) ?_) | (refine wpList_store_new rfl 32 (.tmp 1) (.tmp 6) rfl rfl rfl rfl rfl (by kernel_rfl) (by rw [← Array.all_toList]; rfl) ?_) | fail)
      intro a H; replace hs := H.s hs; replace hd := H.d rfl; replace e43 := H.g 43 rfl rfl; replace e45 := H.g 45 rfl rfl; replace e0 := H.k e0 rfl; replace e1 := H.k e1 rfl; replace e3 := H.k e3 rfl; replace e10 := H.k e10 rfl; replace e12 := H.k e12 rfl; replace e14 := H.k e14 rfl; replace e34 := H.k e34 rfl; replace e35 := H.k e35 rfl; replace e36 := H.k e36 rfl; replace e44 := H.k e44 rfl; have e15 := H.g 15 rfl rfl
      have e16 := H.g 16 rfl rfl; clear H; refine hKq18 _ _ ?_; clear hKq18 Kq18; refine wp_seq_k fun Kq19 hKq19 => ?_; refine wp_seq_k fun Kq20 hKq20 => ?_
      have BE := Blk.new w4 32 #[.int .i64 5, .int .u8 1, .int .u8 2, .int .u8 0, .int .u8 0, .int .u8 0, .int .u8 0, .int .i64 0, .int .i64 0, .int .i64 0, .int .i64 0, .int .i64 1, .bool false]
      have L5 := (Below.refl w4.heap.size w4).alloc (Nat.le_refl _) (.cells #[.int .i64 5, .int .u8 1, .int .u8 2, .int .u8 0, .int .u8 0, .int .u8 0, .int .u8 0, .int .i64 0, .int .i64 0, .int .i64 0, .int .i64 0, .int .i64 1, .bool false] 32)
      generalize hw5 : w4.alloc (.cells #[.int .i64 5, .int .u8 1, .int .u8 2, .int .u8 0, .int .u8 0, .int .u8 0, .int .u8 0, .int .i64 0, .int .i64 0, .int .i64 0, .int .i64 0, .int .i64 1, .bool false] 32) = w5 at BE L5 ⊢
      obtain ⟨p, hp⟩ : ∃ p, p = w4.heap.size := ⟨_, rfl⟩
      rw [← hp] at BE e16
      have L35 := L4.trans (L5.mono L4.size)
      have HB5 := Lib.hid (And.intro BE (And.intro (H3.out.1.kept L35) L35))
      clear hw5 hp L4 L5 HE4
      have k12 := BE.cellOf (v := .bool false) 12 rfl
      clear BE L35; have k0 := HB5.out.1.cellOf (v := .int .i64 5) 0 rfl; have f12 := HB5.out.2.1.cellOf (v := .bool true) 12 rfl; have f13 := HB5.out.2.1.cellOf (v := .int .i64 5) 13 rfl
      have hE : ∀ W, (binOp .neq 27 (.agg #[.int .u8 1, .int .u8 2, .int .u8 0, .int .u8 0, .int .u8 0, .int .u8 0]) (.agg #[.int .u8 1, .int .u8 2, .int .u8 0, .int .u8 0, .int .u8 0, .int .u8 0])).run Tryz.prog W = .ok (.bool false) W := fun W => by kernel_rfl
      refine sm_list [14, 16] 50 23 hs hd (by kernel_rfl) (agC e14 (agC e16 agN)) rfl ?_
      simp only [seval]
      go_wp2_with (first | (refine wpList_load_any_w (wanted_on rfl rfl rfl) 27 (.tmp 19) rfl ⟨p, 1, none⟩ rfl #[.int .u8 1, .int .u8 2, .int .u8 0, .int .u8 0, .int .u8 0, .int .u8 0] _ (blk_sub HB5.out.1 ed_mac) Tryz.underlying27 rfl (by kernel_rfl) ?_) | (refine wpList_load_any_w (wanted_on rfl rfl rfl) 27 (.tmp 21) rfl ⟨q, 0, none⟩ rfl #[.int .u8 1, .int .u8 2, .int .u8 0, .int .u8 0, .int .u8 0, .int .u8 0] _ (blk_sub HB5.out.2.1 fr_mac) Tryz.underlying27 rfl (by kernel_rfl) ?_) | fail)
      intro a H; replace hs := H.s hs; replace hd := H.d rfl; replace e14 := H.g 14 rfl rfl; replace e16 := H.g 16 rfl rfl; replace e0 := H.k e0 rfl; replace e1 := H.k e1 rfl; replace e3 := H.k e3 rfl; replace e10 := H.k e10 rfl; replace e12 := H.k e12 rfl; replace e34 := H.k e34 rfl; replace e35 := H.k e35 rfl; replace e36 := H.k e36 rfl; replace e43 := H.k e43 rfl; replace e44 := H.k e44 rfl; replace e45 := H.k e45 rfl; replace e15 := H.k e15 rfl
      have e72 := H.g 72 rfl rfl; clear H; refine hKq20 _ _ ?_; clear hKq20 Kq20
      refine wp_cond_false (slotE e72) ?_
      clear e72; refine wp_skip ?_; refine hKq19 _ _ ?_; clear hKq19 Kq19; refine wp_seq_k fun Kq21 hKq21 => ?_; refine wp_seq_k fun Kq22 hKq22 => ?_; clear k0 k12 f12 f13 hE
      refine sm_list [16] 73 3 hs hd (by kernel_rfl) (agC e16 agN) rfl ?_
      simp only [seval]
      go_wp2_with (first | (refine wpList_load_any_d rfl 30 (.tmp 1) rfl ⟨p, 10, none⟩ rfl #[.int .i64 0, .int .i64 1] _ (blk_sub HB5.out.1 ed_prt) Tryz.underlying30 rfl (by kernel_rfl) ?_) | fail)
      intro a H; replace hs := H.s hs; replace hd := H.d rfl; replace e16 := H.g 16 rfl rfl; replace e0 := H.k e0 rfl; replace e1 := H.k e1 rfl; replace e3 := H.k e3 rfl; replace e10 := H.k e10 rfl; replace e12 := H.k e12 rfl; replace e14 := H.k e14 rfl; replace e34 := H.k e34 rfl; replace e35 := H.k e35 rfl; replace e36 := H.k e36 rfl; replace e43 := H.k e43 rfl; replace e44 := H.k e44 rfl; replace e45 := H.k e45 rfl; replace e15 := H.k e15 rfl
      have e74 := H.g 74 rfl rfl; have e75 := H.g 75 rfl rfl; clear H; refine hKq22 _ _ ?_; clear hKq22 Kq22; refine wp_block ?_
      refine wp_loop (fun a w' => ∃ (k : Nat), k ≤ 0 ∧ a.tmps.size = 138 ∧ a.defers = [] ∧ a.tmps[0]? = some (.pointer (some ⟨g, 0, none⟩)) ∧ a.tmps[1]? = some (.int .i64 0) ∧ a.tmps[3]? = some (.int .i64 here) ∧ a.tmps[10]? = some (.slice none 0 0) ∧ a.tmps[12]? = some (.slice none 0 0) ∧ a.tmps[14]? = some (.pointer (some ⟨q, 0, none⟩)) ∧ a.tmps[15]? = some (.int .i64 1) ∧ a.tmps[34]? = some (.slice (some ⟨h1, 0, none⟩) 1 1) ∧ a.tmps[35]? = some (.int .i64 1) ∧ a.tmps[36]? = some (.int .i64 0) ∧ a.tmps[43]? = some (.slice (some ad) 2 ce) ∧ a.tmps[44]? = some (.int .i64 2) ∧ a.tmps[45]? = some (.int .i64 1) ∧ a.tmps[74]? = some (.agg #[.int .i64 0, .int .i64 1]) ∧ a.tmps[75]? = some (.int .i64 (k : Int)) ∧ w5 = w') (fun a _ => 2 - (intOf (a.tmps.getD 75 undef)).toNat) ?_ ?_
      · exact ⟨0, by omega, hs, hd, e0, e1, e3, e10, e12, e14, e15, e34, e35, e36, e43, e44, e45, e74, e75, rfl⟩
      clear e0 e1 e3 e10 e12 e14 e34 e35 e36 e43 e44 e45 e15 e16 e74 e75 hs hd a
      rintro a w6 ⟨k, hk1, hs, hd, e0, e1, e3, e10, e12, e14, e15, e34, e35, e36, e43, e44, e45, e74, e75, rfl⟩
      have hm := slot e75
      have hi0 : ∀ W : World, (Instr.index 30 (.agg #[.int .i64 0, .int .i64 1]) (.int .i64 0)).run Tryz.prog W = .ok (.int .i64 0) W := fun W => by kernel_rfl
      have hi1 : ∀ W : World, (Instr.index 30 (.agg #[.int .i64 0, .int .i64 1]) (.int .i64 1)).run Tryz.prog W = .ok (.int .i64 1) W := fun W => by kernel_rfl
      refine wp_seq_k fun Kq23 hKq23 => ?_
      obtain rfl : k = 0 := by omega
      have HMK := Lib.hid hm
      clear hm
      refine sm_list [75] 76 1 hs hd (by kernel_rfl) (agC e75 agN) rfl ?_
      simp only [seval]
      go_wp2_with fail
      intro a H; replace hs := H.s hs; replace hd := H.d rfl; replace e75 := H.g 75 rfl rfl; replace e0 := H.k e0 rfl; replace e1 := H.k e1 rfl; replace e3 := H.k e3 rfl; replace e10 := H.k e10 rfl; replace e12 := H.k e12 rfl; replace e14 := H.k e14 rfl; replace e15 := H.k e15 rfl; replace e34 := H.k e34 rfl; replace e35 := H.k e35 rfl; replace e36 := H.k e36 rfl; replace e43 := H.k e43 rfl; replace e44 := H.k e44 rfl; replace e45 := H.k e45 rfl; replace e74 := H.k e74 rfl
      have e76 := H.g 76 rfl rfl; clear H; refine hKq23 _ _ ?_; clear hKq23 Kq23; refine wp_seq_k fun Kq24 hKq24 => ?_
      refine wp_cond_true (slotE e76) ?_
      clear e76; refine wp_skip ?_; refine hKq24 _ _ ?_; clear hKq24 Kq24; refine wp_seq_k fun Kq25 hKq25 => ?_; refine wp_block ?_; refine wp_seq_k fun Kq26 hKq26 => ?_
      refine sm_list [17, 18, 74, 75] 77 2 hs hd (by kernel_rfl) (agU (agU (agC e74 (agC e75 agN)))) rfl ?_
      simp only [seval]
      go_wp2_with fail
      intro a H; replace hs := H.s hs; replace hd := H.d rfl; replace e74 := H.g 74 rfl rfl; replace e75 := H.g 75 rfl rfl; replace e0 := H.k e0 rfl; replace e1 := H.k e1 rfl; replace e3 := H.k e3 rfl; replace e10 := H.k e10 rfl; replace e12 := H.k e12 rfl; replace e14 := H.k e14 rfl; replace e15 := H.k e15 rfl; replace e34 := H.k e34 rfl; replace e35 := H.k e35 rfl; replace e36 := H.k e36 rfl; replace e43 := H.k e43 rfl; replace e44 := H.k e44 rfl; replace e45 := H.k e45 rfl
      have e17 := H.g 17 rfl rfl; have e18 := H.g 18 rfl rfl; clear H; refine hKq26 _ _ ?_; clear hKq26 Kq26; refine wp_seq_k fun Kq27 hKq27 => ?_; refine wp_seq_k fun Kq28 hKq28 => ?_; clear hi0 hi1; have f16 := HB5.out.2.1.cellOf (v := .bool true) 16 rfl
      refine sm_list [1, 14, 18] 79 8 hs hd (by kernel_rfl) (agC e1 (agC e14 (agC e18 agN))) rfl ?_
      simp only [seval]
      go_wp2_with fail
      intro a H; replace hs := H.s hs; replace hd := H.d rfl; replace e1 := H.g 1 rfl rfl; replace e14 := H.g 14 rfl rfl; replace e18 := H.g 18 rfl rfl; replace e0 := H.k e0 rfl; replace e3 := H.k e3 rfl; replace e10 := H.k e10 rfl; replace e12 := H.k e12 rfl; replace e15 := H.k e15 rfl; replace e34 := H.k e34 rfl; replace e35 := H.k e35 rfl; replace e36 := H.k e36 rfl; replace e43 := H.k e43 rfl; replace e44 := H.k e44 rfl; replace e45 := H.k e45 rfl; replace e74 := H.k e74 rfl; replace e75 := H.k e75 rfl; replace e17 := H.k e17 rfl
      have e86 := H.g 86 rfl rfl; clear H; refine hKq28 _ _ ?_; clear hKq28 Kq28
      refine wp_cond_false (slotE e86) ?_
      clear e86; refine wp_skip ?_; refine hKq27 _ _ ?_; clear hKq27 Kq27; refine wp_seq_k fun Kq29 hKq29 => ?_; refine wp_seq_k fun Kq30 hKq30 => ?_; clear f16; have X5 := H3.out.2.2.1.kept HB5.out.2.2
      obtain ⟨Am, cm, rfl, hcm, rdm⟩ := ownsRow_reads X5.own
      rw [HH.out.2.2.1] at rdm
      obtain ⟨am, hAm, hlm, hcr⟩ := rdm.2 (by decide)
      subst hAm
      have M5 : MgAt w5 b r u0 u1 ua := (FTy.be (T := []) (HB1.out.2.2.2.trans ((H3.out.2.1.trans (HB5.out.2.2.mono H3.out.2.1.size)).mono HB1.out.2.2.2.size))).mg HH.out.2.1 (by simp) (by simp) (by simp)
      have hrow : w5.cell? ⟨am.block, am.off + 1, none⟩ = some (.pointer (some ⟨b.g, 0, none⟩)) := hcr 1 _ rfl
      have hrows : ∀ w', FTy mtyps w5 w' → w'.cell? ⟨am.block, am.off + 1, none⟩ = some (.pointer (some ⟨b.g, 0, none⟩)) := fun w' hw => by
        obtain ⟨_, hrd⟩ : True ∧ Reads w' w'.heap.size 1 (some am) 2 ps := ⟨trivial, by
          obtain ⟨A', c', hv, _, hr'⟩ := ownsRow_reads (hw.own X5.own (by decide))
          injection hv with hv
          subst hv
          exact hr'⟩
        rw [HH.out.2.2.1] at hrd
        obtain ⟨am2, hA2, _, hc2⟩ := hrd.2 (by decide)
        injection hA2 with hA2
        subst hA2
        exact hc2 1 _ rfl
      have H5 := Lib.hid (And.intro X5 (And.intro M5 hrows))
      clear X5 M5 hrows hcr rdm hcm hrow hlm
      refine sm_any [0, 3, 14, 15, 17, 19, 20] 87 16 (by kernel_rfl) hs hd (by kernel_rfl) (agC e0 (agC e3 (agC e14 (agC e15 (agC e17 (agU (agU agN))))))) rfl (any_tree [] (.take 0 (.take 1 (.take 2 (.take 3 (.take 4 (.take 5 (.take 6 (.take 7 (.take 9 (.take 10 (.take 11 (.one 8 (.one 12 (.take 13 (.take 14 (.take 15 (.take 16 (.take 17 .nil)))))))))))))))))) (fun (w' : World) => FTy mtyps w5 w') (by kernel_rfl) (fun _ _ _ _ _ h => h) (FTy.be (Below.refl _ _).drew) ?_)
      simp only [seval]
      have hd0 : FTy mtyps w5 w5.drew := FTy.be (Below.refl _ _).drew
      have hL0 : Below w5.heap.size w5 w5.drew := (Below.refl _ _).drew
      obtain ⟨wd, hwde⟩ : ∃ wd, wd = w5.drew := ⟨_, rfl⟩
      rw [← hwde] at hd0 hL0 ⊢
      clear hwde
      iterate 11 (with_reducible (refine tr_take (v := ?_) rfl ?_ ?_ ?_); rotate_left; (first | exact wanted_none rfl | exact wanted_on rfl rfl rfl); (rintro w' hw'; have q4 := (hw'.blk H5.out.1.box (by decide)).cellOf (v := .slice (some am) 2 cm) 4 rfl; have f17 := (hw'.blk HB5.out.2.1 (by decide)).cellOf (v := .int .i64 seq) 17 rfl; have hrw := H5.out.2.2 _ hw'; go_simp; with_reducible rfl); simp only [Act.put, List.setIfInBounds_toArray, List.set_cons_zero, List.set_cons_succ])
      (with_reducible (refine tr_call 31 ?_ rfl ?_ ?_ ?_); rotate_left; (first | exact wanted_none rfl | exact wanted_on rfl rfl rfl); (go_simp; with_reducible rfl))
      refine (floor_any here wd).mono ?_
      rintro x w6 ⟨rfl, rfl⟩
      refine ⟨_, rfl, hd0, ?_⟩
      rw [← HH.out.2.2.2]
      simp only [Act.put, List.setIfInBounds_toArray, List.set_cons_zero, List.set_cons_succ]
      (with_reducible (refine tr_call 30 ?_ rfl ?_ ?_ ?_); rotate_left; (first | exact wanted_none rfl | exact wanted_on rfl rfl rfl); (go_simp; with_reducible rfl))
      have Md := (FTy.be (T := []) hL0).mg H5.out.2.1 (by simp) (by simp) (by simp)
      refine (HM.out wd Md).mono ?_
      rintro x w7 ⟨rfl, M7, F7⟩
      have f7 := hd0.trans (mg_fty Md F7)
      refine ⟨_, rfl, f7, ?_⟩
      simp only [Act.put, List.setIfInBounds_toArray, List.set_cons_zero, List.set_cons_succ]
      have rd7 := reads_mg Md F7 ((HB1.out.2.1.below (H3.out.2.1.trans ((HB5.out.2.2.mono H3.out.2.1.size).trans (hL0.mono (Nat.le_trans H3.out.2.1.size HB5.out.2.2.size))))).more (Nat.le_trans H3.out.2.1.size (Nat.le_trans HB5.out.2.2.size hL0.size)))
      have by7 : Bys wd w7 := Bys.mg Md F7
      have by5 : Bys w5 wd := Bys.be hL0
      have HFR : Hid (Fr (g :: b.all) w w7) := Lib.hid ((Fr.be (HB1.out.2.2.2.trans ((H3.out.2.1.trans ((HB5.out.2.2.mono H3.out.2.1.size).trans (hL0.mono (Nat.le_trans H3.out.2.1.size HB5.out.2.2.size)))).mono HB1.out.2.2.2.size))).trans (F7.more (fun k hk => List.mem_cons_of_mem _ hk)))
      have H7 := Lib.hid (And.intro M7 (And.intro f7 (And.intro rd7 (by5.trans by7))))
      clear M7 F7 f7 Md hd0 hL0 rd7 by7 by5
      (with_reducible (refine tr_take (v := ?_) rfl ?_ ?_ ?_); rotate_left; (first | exact wanted_none rfl | exact wanted_on rfl rfl rfl); (rintro w' _;  go_simp; with_reducible rfl); simp only [Act.put, List.setIfInBounds_toArray, List.set_cons_zero, List.set_cons_succ])
      (with_reducible (refine tr_take (v := ?_) rfl ?_ ?_ ?_); rotate_left; (first | exact wanted_none rfl | exact wanted_on rfl rfl rfl); (rintro w' _;  go_simp; with_reducible rfl); simp only [Act.put, List.setIfInBounds_toArray, List.set_cons_zero, List.set_cons_succ])
      (with_reducible (refine tr_take (v := ?_) rfl ?_ ?_ ?_); rotate_left; (first | exact wanted_none rfl | exact wanted_on rfl rfl rfl); (rintro w' _;  go_simp; with_reducible rfl); simp only [Act.put, List.setIfInBounds_toArray, List.set_cons_zero, List.set_cons_succ])
      (with_reducible (refine tr_take (v := ?_) rfl ?_ ?_ ?_); rotate_left; (first | exact wanted_none rfl | exact wanted_on rfl rfl rfl); (rintro w' _;  go_simp; with_reducible rfl); simp only [Act.put, List.setIfInBounds_toArray, List.set_cons_zero, List.set_cons_succ])
      (with_reducible (refine tr_take (v := ?_) rfl ?_ ?_ ?_); rotate_left; (first | exact wanted_none rfl | exact wanted_on rfl rfl rfl); (rintro w' _;  go_simp; with_reducible rfl); simp only [Act.put, List.setIfInBounds_toArray, List.set_cons_zero, List.set_cons_succ])
      refine tr_nil ?_
      intro a H; replace hs := H.s hs; replace hd := H.d rfl; replace e0 := H.g 0 rfl rfl; replace e3 := H.g 3 rfl rfl; replace e14 := H.g 14 rfl rfl; replace e15 := H.g 15 rfl rfl; replace e17 := H.g 17 rfl rfl; replace e1 := H.k e1 rfl; replace e10 := H.k e10 rfl; replace e12 := H.k e12 rfl; replace e34 := H.k e34 rfl; replace e35 := H.k e35 rfl; replace e36 := H.k e36 rfl; replace e43 := H.k e43 rfl; replace e44 := H.k e44 rfl; replace e45 := H.k e45 rfl; replace e74 := H.k e74 rfl; replace e75 := H.k e75 rfl; replace e18 := H.k e18 rfl
      have e19 := H.g 19 rfl rfl; clear H; refine hKq30 _ _ ?_; clear hKq30 Kq30; refine wp_seq_k fun Kq31 hKq31 => ?_; have X7 := H5.out.1.fty H7.out.2.1 (by decide); have F7 := H7.out.2.1.blk HB5.out.2.1 (by decide)
      have L25 : Below w2.heap.size w2 w5 := H3.out.2.1.trans (HB5.out.2.2.mono H3.out.2.1.size)
      have fw7 : FTy ityps w w7 := ((FTy.be (HB1.out.2.2.2.trans (L25.mono HB1.out.2.2.2.size))).trans (H7.out.2.1.more mtyps_ityps))
      have L27 : w.heap.size ≤ w7.heap.size := fw7.size
      have HY7 := Lib.hid ((Bys.be (HB1.out.2.2.2.trans (L25.mono HB1.out.2.2.2.size))).trans H7.out.2.2.2)
      refine sm_list [19] 103 2 hs hd (by kernel_rfl) (agC e19 agN) rfl ?_
      simp only [seval]
      go_wp2_with fail
      intro a H; replace hs := H.s hs; replace hd := H.d rfl; replace e19 := H.g 19 rfl rfl; replace e0 := H.k e0 rfl; replace e1 := H.k e1 rfl; replace e3 := H.k e3 rfl; replace e10 := H.k e10 rfl; replace e12 := H.k e12 rfl; replace e14 := H.k e14 rfl; replace e15 := H.k e15 rfl; replace e34 := H.k e34 rfl; replace e35 := H.k e35 rfl; replace e36 := H.k e36 rfl; replace e43 := H.k e43 rfl; replace e44 := H.k e44 rfl; replace e45 := H.k e45 rfl; replace e74 := H.k e74 rfl; replace e75 := H.k e75 rfl; replace e17 := H.k e17 rfl; replace e18 := H.k e18 rfl
      have e104 := H.g 104 rfl rfl; clear H; refine hKq31 _ _ ?_; clear hKq31 Kq31
      refine wp_cond_false (slotE e104) ?_
      clear e104; refine wp_skip ?_; refine hKq29 _ _ ?_; clear hKq29 Kq29; refine wp_seq_k fun Kq32 hKq32 => ?_
      have rd7 : Reads w7 w7.heap.size 1 A2 l (us data) := H7.out.2.2.1
      have f17 := F7.cellOf (v := .int .i64 seq) 17 rfl
      have f19 := F7.cellOf (v := .slice A2 l c2) 19 rfl
      have own0 := ownsRow_nil w7 w.heap.size 71 23
      have HX7 := Lib.hid (And.intro X7 (And.intro rd7 fw7))
      clear X7 F7 rd7 fw7 L25
      have h1c : ∀ u ∈ (#[.int .i64 1, .int .i64 seq, .slice A2 l c2, .int .u8 0, .int .u8 0, .int .u8 0, .int .u8 0, .int .u8 0, .int .u8 0, .int .u8 0, .int .u8 0, .int .u8 0, .int .u8 0, .int .u8 0, .int .u8 0, .bool false, .int .i64 0, .int .i64 0, .bool false, .bool false, .int .i64 0, .int .i64 0, .slice none 0 0] : Array Value).toList, u.oneCell' = true := by intro u hu; simp only [List.mem_cons, List.not_mem_nil, or_false] at hu; rcases hu with rfl | rfl | rfl | rfl | rfl | rfl | rfl | rfl | rfl | rfl | rfl | rfl | rfl | rfl | rfl | rfl | rfl | rfl | rfl | rfl | rfl | rfl | rfl <;> rfl
      refine sm_list [12, 14, 15] 112 9 hs hd (by kernel_rfl) (agC e12 (agC e14 (agC e15 agN))) rfl ?_
      simp only [seval]
      go_wp2_with (at_builtin; refine wpList_pushG 1 rfl (.tmp 3) (.tmp 10) 61 rfl styGOT (cs := #[.int .i64 1, .int .i64 seq, .slice A2 l c2, .int .u8 0, .int .u8 0, .int .u8 0, .int .u8 0, .int .u8 0, .int .u8 0, .int .u8 0, .int .u8 0, .int .u8 0, .int .u8 0, .int .u8 0, .int .u8 0, .bool false, .int .i64 0, .int .i64 0, .bool false, .bool false, .int .i64 0, .int .i64 0, .slice none 0 0]) rfl h1c rfl own0 rfl rfl (by omega) L27 ?_; intro v8 w8 own8 gr8 _; obtain ⟨A8, c8, rfl, _, _⟩ := ownsRow_reads own8; have HO8 := Lib.hid (And.intro own8 gr8); clear own8 gr8)
      intro a H; replace hs := H.s hs; replace hd := H.d rfl; replace e14 := H.g 14 rfl rfl; replace e15 := H.g 15 rfl rfl; replace e0 := H.k e0 rfl; replace e1 := H.k e1 rfl; replace e3 := H.k e3 rfl; replace e10 := H.k e10 rfl; replace e34 := H.k e34 rfl; replace e35 := H.k e35 rfl; replace e36 := H.k e36 rfl; replace e43 := H.k e43 rfl; replace e44 := H.k e44 rfl; replace e45 := H.k e45 rfl; replace e74 := H.k e74 rfl; replace e75 := H.k e75 rfl; replace e17 := H.k e17 rfl; replace e18 := H.k e18 rfl; replace e19 := H.k e19 rfl
      replace e12 := H.g 12 rfl rfl; clear H; refine hKq32 _ _ ?_; clear hKq32 Kq32; clear f17 f19 h1c
      have b8 : Below w7.heap.size w7 w8 := (Below.refl _ _).grown HO8.out.2 (Nat.le_refl _) (fun k hk => by cases hk)
      refine wp_exit ?_
      refine exit_miss (by decide) ?_
      refine exit_then rfl ?_; clear hKq25 Kq25; refine exit_then rfl ?_
      refine exit_miss (by decide) ?_
      refine exit_then rfl ?_; clear hKq21 Kq21
      refine exit_miss (by decide) ?_
      refine exit_then rfl ?_; clear hKq17 Kq17; refine exit_then rfl ?_
      refine exit_miss (by decide) ?_
      refine exit_then rfl ?_; clear hKq13 Kq13; refine exit_hit ?_; refine hKq11 _ _ ?_; clear hKq11 Kq11; clear e14; clear e15; clear e17; clear e18; clear e19; clear e74; clear e75; clear e43; clear e44; clear e45
      refine sm_list [36] 135 1 hs hd (by kernel_rfl) (agC e36 agN) rfl ?_
      simp only [seval]
      go_wp2_with fail
      intro a H; replace hs := H.s hs; replace hd := H.d rfl; replace e0 := H.k e0 rfl; replace e1 := H.k e1 rfl; replace e3 := H.k e3 rfl; replace e10 := H.k e10 rfl; replace e34 := H.k e34 rfl; replace e35 := H.k e35 rfl; replace e12 := H.k e12 rfl; replace e36 := H.g 36 rfl rfl; clear H
      exact ⟨⟨1, _, by omega, Lib.hid (.inr ⟨rfl, _, rfl, HO8.out.1, (HX7.out.2.1.below b8).more b8.size, HX7.out.1.kept b8, (FTy.be (T := []) b8).mg H7.out.1 (by simp) (by simp) (by simp), HX7.out.2.2.trans (FTy.be b8), HY7.out.trans (Bys.be b8), HFR.out.trans (Fr.be b8)⟩), hs, hd, e0, e1, e3, e10, e34, e35, e12, e36⟩, by rw [HMF.out, slot e36]; decide⟩
  · have HF : ∃ vq, v = vq ∧ w3.ownsRow w.heap.size 71 23 vq 1 (#[.int .i64 1, .int .i64 seq, .slice A2 l c2, .int .u8 0, .int .u8 0, .int .u8 0, .int .u8 0, .int .u8 0, .int .u8 0, .int .u8 0, .int .u8 0, .int .u8 0, .int .u8 0, .int .u8 0, .int .u8 0, .bool false, .int .i64 0, .int .i64 0, .bool false, .bool false, .int .i64 0, .int .i64 0, .slice none 0 0] : Array Value).toList ∧ Reads w3 w3.heap.size 1 A2 l (us data) ∧ HoAt B w3 g gb ve hg vm 2 ps id 2 [⟨5, 1, 2, 0, 0, 0, 0, 0, 0, 0, 0, 1, true⟩, ⟨5, 1, 2, 0, 0, 0, 0, 0, 0, 0, 0, 1, false⟩] gens ag st ∧ MgAt w3 b r t0 t1 ta ∧ FTy ityps w w3 ∧ Bys w w3 ∧ Fr (g :: b.all) w w3 := by
      rcases HS.out with ⟨h1, _⟩ | ⟨_, h2⟩
      · exact absurd h1 (by decide)
      · exact h2
    have HF2 := Lib.hid HF
    clear hm HS HF
    refine sm_list [35, 36] 37 1 hs hd (by kernel_rfl) (agC e35 (agC e36 agN)) rfl ?_
    simp only [seval]
    go_wp2_with fail
    intro a H; replace hs := H.s hs; replace hd := H.d rfl; replace e35 := H.g 35 rfl rfl; replace e36 := H.g 36 rfl rfl; replace e0 := H.k e0 rfl; replace e1 := H.k e1 rfl; replace e3 := H.k e3 rfl; replace e10 := H.k e10 rfl; replace e34 := H.k e34 rfl; replace e12 := H.k e12 rfl; have e37 := H.g 37 rfl rfl; clear H; refine hKq9 _ _ ?_; clear hKq9 Kq9; refine wp_seq_k fun Kq10 hKq10 => ?_
    refine wp_cond_false (slotE e37) ?_
    clear e37; refine wp_exit ?_; refine exit_then rfl ?_; clear hKq10 Kq10; refine exit_then rfl ?_; refine exit_hit ?_; refine hKq7 _ _ ?_; clear hKq7 Kq7; refine wp_seq_k fun Kq11 hKq11 => ?_
    refine sm_list [8, 9, 10, 12] 136 2 hs hd (by kernel_rfl) (agU (agU (agC e10 (agC e12 agN)))) rfl ?_
    simp only [seval]
    go_wp2_with fail
    intro a H; replace hs := H.s hs; replace hd := H.d rfl; replace e10 := H.g 10 rfl rfl; replace e12 := H.g 12 rfl rfl; replace e0 := H.k e0 rfl; replace e1 := H.k e1 rfl; replace e3 := H.k e3 rfl; replace e34 := H.k e34 rfl; replace e35 := H.k e35 rfl; replace e36 := H.k e36 rfl; have e8 := H.g 8 rfl rfl; have e9 := H.g 9 rfl rfl; clear H; refine hKq11 _ _ ?_; clear hKq11 Kq11; refine wp_ret ?_
    refine scope_ok trivial ?_
    obtain ⟨vq, rfl, h1, h2, h3, h4, h5, h6, h7⟩ := HF2.out
    exact sm_ret2 rfl hd e8 e9 ⟨v, A2, l, c2, rfl, HB1.out.2.2.1, h1, h2, h3, h4, h5, h6, h7⟩

end Go.Proofs.YthhlfojaloaooaaGreat
