/-
  The gates of all ports.
-/
import Derived.Test.YtaegngcbiefckaaPlnGt
namespace Go.Proofs.Ytaegngcbiefckaa
set_option linter.unusedSimpArgs false
set_option linter.unusedVariables false
open Go.RowKit Go.WideShapes Go.ChangeShapes
attribute [local go_sem ↓] Go.wp_at_zero Go.wp_at_succ

set_option maxRecDepth 100000 in
set_option maxHeartbeats 4000000 in
theorem mk_gates (C : Cf) (Y : Lay) (off : Int) (L g1 g2 g6 gG gm B0 m nW : Nat) (S : List Sp) (xsW : List Value) (wv : Value) (fm : Int × Int → Option Value) (a : Act) (w : World) (Q : Exit → Act → World → Prop)
    (hs : a.tmps.size = 317) (hd : a.defers = []) (e1 : a.tmps[1]? = some (.pointer (some ⟨g1, 0, none⟩))) (e2 : a.tmps[2]? = some (.pointer (some ⟨g2, 0, none⟩))) (e6 : a.tmps[6]? = some (.pointer (some ⟨g6, 0, none⟩))) (e7 : a.tmps[7]? = some (.map (some gm)))
    (hC : CfAt w L C Y) (BC : Blk w g1 26 (cfc C Y)) (B2 : Blk w g2 32 #[.int .i64 0, .slice none 0 0, .map none]) (B6 : Blk w g6 32 #[.int .i64 off, wv, .map (some gG)]) (hord : L ≤ g1 ∧ L ≤ g2 ∧ g1 < gG ∧ g2 < gG ∧ gG < g6 ∧ g6 < gm)
    (SM : SpM w B0 gm m fm S) (GT : GtM w B0 gG 0 (fun _ => none) [] C.cycle S) (OW : w.ownsRow B0 52 2 wv nW xsW) (hW : Well C) (hg : ∀ x ∈ S, GoodSp C x) (hS : S.length ≤ 1000)
    (hend : ∀ (a : Act) (w' : World) (mg : Nat) (fg : Int × Int → Option Value), a.tmps.size = 317 → a.defers = [] → a.tmps[2]? = some (.pointer (some ⟨g2, 0, none⟩)) → a.tmps[6]? = some (.pointer (some ⟨g6, 0, none⟩)) → Below gG w w' → Blk w' g6 32 #[.int .i64 off, wv, .map (some gG)] → GtM w' B0 gG mg fg (endsTo C C.nodes.length) C.cycle S → w'.ownsRow B0 52 2 wv nW xsW → portsOk C S = true → Q .normal a w')
    (hret : ∀ (a : Act) (w' : World), a.tmps.size = 317 → a.defers = [] → a.tmps[2]? = some (.pointer (some ⟨g2, 0, none⟩)) → a.tmps[3]? = some (.int .i64 61) → Below L w w' → Blk w' g2 32 #[.int .i64 0, .slice none 0 0, .map none] → portsOk C S = false → Q .ret a w') :
    Code.wp Try.prog (sub [true, true, true, true, true, true, false] (bodyOf Try.f11)) Q a w := by
  conv => arg 2; whnf
  have HEND := Lib.hid (And.intro hend hret)
  have HW := Lib.hid hW
  have HG := Lib.hid hg
  clear hend hret hW hg
  obtain ⟨ho1, ho2, ho3, ho4, ho5, ho6⟩ := hord
  have hgB := SM.lt
  have hBz := SM.hz
  have c0 := BC.cellOf (v := .slice Y.N.A C.nodes.length Y.N.c) 0 rfl
  have hn16 : C.nodes.length ≤ 16 := by have := HW.out.off.n2; omega
  refine wp_seq_k fun Kq1 hKq1 => ?_
  refine sm_list [1] 282 4 hs hd (by kernel_rfl) (agC e1 agN) rfl ?_
  simp only [seval]
  go_wp2_with fail
  intro a H; replace hs := H.s hs; replace hd := H.d rfl; replace e1 := H.g 1 rfl rfl; replace e2 := H.k e2 rfl; replace e6 := H.k e6 rfl; replace e7 := H.k e7 rfl; have e283 := H.g 283 rfl rfl; have e284 := H.g 284 rfl rfl; have e285 := H.g 285 rfl rfl; clear H; refine hKq1 _ _ ?_; clear hKq1 Kq1; refine wp_block ?_; clear c0
  refine wp_loop (fun a w' => ∃ (i mg : Nat) (fg : Int × Int → Option Value), i ≤ C.nodes.length ∧ mg ≤ 8 * i ∧ a.tmps.size = 317 ∧ a.defers = [] ∧ a.tmps[1]? = some (.pointer (some ⟨g1, 0, none⟩)) ∧ a.tmps[2]? = some (.pointer (some ⟨g2, 0, none⟩)) ∧ a.tmps[6]? = some (.pointer (some ⟨g6, 0, none⟩)) ∧ a.tmps[7]? = some (.map (some gm)) ∧ a.tmps[283]? = some (.slice Y.N.A C.nodes.length Y.N.c) ∧ a.tmps[284]? = some (.int .i64 (C.nodes.length : Int)) ∧ a.tmps[285]? = some (.int .i64 (i : Int)) ∧ Below gG w w' ∧ Blk w' g6 32 #[.int .i64 off, wv, .map (some gG)] ∧ SpM w' B0 gm m fm S ∧ w'.ownsRow B0 52 2 wv nW xsW ∧ GtM w' B0 gG mg fg (endsTo C i) C.cycle S) (fun a _ => C.nodes.length - (intOf (a.tmps.getD 285 undef)).toNat) ?_ ?_
  · exact ⟨0, 0, fun _ => none, Nat.zero_le _, Nat.zero_le _, hs, hd, e1, e2, e6, e7, e283, e284, e285, Below.refl _ _, B6, SM, OW, GT⟩
  clear hs hd e285 e1 e2 e6 e7 e283 e284 a SM GT OW B6
  rintro a w3 ⟨i, mg, fg, hi, hmg, hs, hd, e1, e2, e6, e7, e283, e284, e285, hb3, B6, SM, OW, GT⟩
  have hmo := slot e285
  refine wp_seq_k fun Kq2 hKq2 => ?_
  by_cases hlt : i < C.nodes.length
  ·
    have dj : decide ((i : Int) < (C.nodes.length : Int)) = true := decide_eq_true (by omega)
    obtain ⟨nd, hnd⟩ : ∃ nd, C.nodes[i]? = some nd := ⟨_, List.getElem?_eq_getElem hlt⟩
    have hpt := HW.out.nodes nd (List.mem_of_getElem? hnd)
    obtain ⟨p8, hp8⟩ : ∃ p : Nat, nd.ports = (p : Int) := ⟨nd.ports.toNat, by omega⟩
    have hp88 : p8 ≤ 8 := by omega
    clear hpt
    obtain ⟨ad, hA, hadb, hcl⟩ := reads_at ndc_len (hC.nodes.below (hb3.mono (by omega))) hnd hlt
    have HA := Lib.hid hA
    have HCL := Lib.hid hcl
    have hEO : endsOf C i = (List.range p8).map fun q : Nat => ((i : Int), (q : Int)) := by rw [endsOf_some hnd, hp8]; rfl
    have HEO := Lib.hid hEO
    have HP8 := Lib.hid hp8
    clear hA hcl hEO hp8 hnd
    rw [HA.out] at e283
    refine sm_list [284, 285] 286 1 hs hd (by kernel_rfl) (agC e284 (agC e285 agN)) rfl ?_
    simp only [seval]
    go_wp2_with fail
    intro a H; replace hs := H.s hs; replace hd := H.d rfl; replace e284 := H.g 284 rfl rfl; replace e285 := H.g 285 rfl rfl; replace e1 := H.k e1 rfl; replace e2 := H.k e2 rfl; replace e6 := H.k e6 rfl; replace e7 := H.k e7 rfl; replace e283 := H.k e283 rfl; have e286 := H.g 286 rfl rfl; clear H; refine hKq2 _ _ ?_; clear hKq2 Kq2; refine wp_seq_k fun Kq3 hKq3 => ?_
    refine wp_cond_true (slotE e286) ?_
    clear e286; refine wp_skip ?_; refine hKq3 _ _ ?_; clear hKq3 Kq3; refine wp_seq_k fun Kq4 hKq4 => ?_; refine wp_block ?_; refine wp_seq_k fun Kq5 hKq5 => ?_
    have L4 : Below w3.heap.size w3 (w3.alloc (.cells (ndc nd).toArray 55)) := (Below.refl _ _).alloc (Nat.le_refl _) _
    have B24 := Blk.new w3 55 (ndc nd).toArray
    have SM4 := SM.keep L4
    have GT4 := GT.keep L4
    have OW4 := ownsRow_keep OW L4
    have hgz : gG ≤ w3.heap.size := by have := SM.hz; omega
    have hb4 := hb3.trans (L4.mono hgz)
    have B64 := B6.kept L4
    refine sm_list [23, 24, 283, 285] 287 3 hs hd (by kernel_rfl) (agU (agU (agC e283 (agC e285 agN)))) rfl ?_
    simp only [seval]
    go_wp2_with (first | (refine wpList_load_any_d rfl 55 (.tmp 5) rfl (ad.add (i * 2)) rfl ((ndc nd).toArray) _ (fun j u hu => HCL.out j u (by simpa using hu)) Try.underlying55 rfl (by kernel_rfl) ?_) | (refine wpList_store_new rfl 55 (.tmp 1) (.tmp 6) rfl rfl rfl rfl rfl (by kernel_rfl) (by rw [← Array.all_toList]; rfl) ?_) | fail)
    intro a H; replace hs := H.s hs; replace hd := H.d rfl; replace e283 := H.g 283 rfl rfl; replace e285 := H.g 285 rfl rfl; replace e1 := H.k e1 rfl; replace e2 := H.k e2 rfl; replace e6 := H.k e6 rfl; replace e7 := H.k e7 rfl; replace e284 := H.k e284 rfl; have e23 := H.g 23 rfl rfl; have e24 := H.g 24 rfl rfl; clear H; refine hKq5 _ _ ?_; clear hKq5 Kq5; refine wp_seq_k fun Kq6 hKq6 => ?_
    rw [← HA.out] at e283
    obtain ⟨g24, hg24⟩ : ∃ g, g = w3.heap.size := ⟨_, rfl⟩
    rw [← hg24] at B24 e24
    generalize (w3.alloc (.cells (ndc nd).toArray 55)) = w4 at *
    clear hg24 L4 SM GT OW hb3 B6 hgz
    have n0 := B24.cellOf (v := .int .i64 nd.ports) 0 rfl
    rw [HP8.out] at n0
    refine sm_list [24] 290 3 hs hd (by kernel_rfl) (agC e24 agN) rfl ?_
    simp only [seval]
    go_wp2_with fail
    intro a H; replace hs := H.s hs; replace hd := H.d rfl; replace e24 := H.g 24 rfl rfl; replace e1 := H.k e1 rfl; replace e2 := H.k e2 rfl; replace e6 := H.k e6 rfl; replace e7 := H.k e7 rfl; replace e283 := H.k e283 rfl; replace e284 := H.k e284 rfl; replace e285 := H.k e285 rfl; replace e23 := H.k e23 rfl; have e291 := H.g 291 rfl rfl; have e292 := H.g 292 rfl rfl; clear H; refine hKq6 _ _ ?_
    clear hKq6 Kq6; refine wp_block ?_; clear n0 B24; clear e24
    refine wp_loop (fun a w' => ∃ (p mg : Nat) (fg : Int × Int → Option Value), p ≤ p8 ∧ mg ≤ 8 * i + p ∧ a.tmps.size = 317 ∧ a.defers = [] ∧ a.tmps[1]? = some (.pointer (some ⟨g1, 0, none⟩)) ∧ a.tmps[2]? = some (.pointer (some ⟨g2, 0, none⟩)) ∧ a.tmps[6]? = some (.pointer (some ⟨g6, 0, none⟩)) ∧ a.tmps[7]? = some (.map (some gm)) ∧ a.tmps[23]? = some (.int .i64 (i : Int)) ∧ a.tmps[283]? = some (.slice Y.N.A C.nodes.length Y.N.c) ∧ a.tmps[284]? = some (.int .i64 (C.nodes.length : Int)) ∧ a.tmps[285]? = some (.int .i64 (i : Int)) ∧ a.tmps[291]? = some (.int .i64 (p8 : Int)) ∧ a.tmps[292]? = some (.int .i64 (p : Int)) ∧ Below gG w w' ∧ Blk w' g6 32 #[.int .i64 off, wv, .map (some gG)] ∧ SpM w' B0 gm m fm S ∧ w'.ownsRow B0 52 2 wv nW xsW ∧ GtM w' B0 gG mg fg (endsTo C i ++ (List.range p).map fun q : Nat => ((i : Int), (q : Int))) C.cycle S) (fun a _ => p8 - (intOf (a.tmps.getD 292 undef)).toNat) ?_ ?_
    · exact ⟨0, mg, fg, Nat.zero_le _, by omega, hs, hd, e1, e2, e6, e7, e23, e283, e284, e285, e291, e292, hb4, B64, SM4, OW4, by simpa using GT4⟩
    clear hs hd e292 e1 e2 e6 e7 e23 e283 e284 e285 e291 a SM4 GT4 OW4 B64 hb4 hmg fg
    rintro a w5 ⟨p, mg, fg, hp, hmg, hs, hd, e1, e2, e6, e7, e23, e283, e284, e285, e291, e292, hb5, B6, SM, OW, GT⟩
    have hmi := slot e292
    refine wp_seq_k fun Kq7 hKq7 => ?_
    by_cases hlp : p < p8
    ·
      have dp : decide ((p : Int) < (p8 : Int)) = true := decide_eq_true (by omega)
      refine sm_list [291, 292] 293 1 hs hd (by kernel_rfl) (agC e291 (agC e292 agN)) rfl ?_
      simp only [seval]
      go_wp2_with fail
      intro a H; replace hs := H.s hs; replace hd := H.d rfl; replace e291 := H.g 291 rfl rfl; replace e292 := H.g 292 rfl rfl; replace e1 := H.k e1 rfl; replace e2 := H.k e2 rfl; replace e6 := H.k e6 rfl; replace e7 := H.k e7 rfl; replace e23 := H.k e23 rfl; replace e283 := H.k e283 rfl; replace e284 := H.k e284 rfl; replace e285 := H.k e285 rfl; have e293 := H.g 293 rfl rfl; clear H; refine hKq7 _ _ ?_
      clear hKq7 Kq7; refine wp_seq_k fun Kq8 hKq8 => ?_
      refine wp_cond_true (slotE e293) ?_
      clear e293; refine wp_skip ?_; refine hKq8 _ _ ?_; clear hKq8 Kq8; refine wp_seq_k fun Kq9 hKq9 => ?_; refine wp_block ?_; refine wp_seq_k fun Kq10 hKq10 => ?_
      refine sm_list [25, 292] 294 1 hs hd (by kernel_rfl) (agU (agC e292 agN)) rfl ?_
      simp only [seval]
      go_wp2_with fail
      intro a H; replace hs := H.s hs; replace hd := H.d rfl; replace e292 := H.g 292 rfl rfl; replace e1 := H.k e1 rfl; replace e2 := H.k e2 rfl; replace e6 := H.k e6 rfl; replace e7 := H.k e7 rfl; replace e23 := H.k e23 rfl; replace e283 := H.k e283 rfl; replace e284 := H.k e284 rfl; replace e285 := H.k e285 rfl; replace e291 := H.k e291 rfl; have e25 := H.g 25 rfl rfl; clear H; refine hKq10 _ _ ?_
      clear hKq10 Kq10; refine wp_seq_k fun Kq11 hKq11 => ?_
      have L6 : Below w5.heap.size w5 (w5.alloc (.cells #[.int .i64 (i : Int), .int .i64 (p : Int)] 61)) := (Below.refl _ _).alloc (Nat.le_refl _) _
      have B26 := Blk.new w5 61 #[.int .i64 (i : Int), .int .i64 (p : Int)]
      have SM6 := SM.keep L6
      have GT6 := GT.keep L6
      have OW6 := ownsRow_keep OW L6
      have hgz : gG ≤ w5.heap.size := by have := SM.hz; omega
      have hb6 := hb5.trans (L6.mono hgz)
      have B66 := B6.kept L6
      refine sm_list [23, 25, 26] 295 3 hs hd (by kernel_rfl) (agC e23 (agC e25 (agU agN))) rfl ?_
      simp only [seval]
      go_wp2_with (first | (refine wpList_store_new rfl 61 (.tmp 2) (.tmp 5) rfl rfl rfl rfl rfl (by kernel_rfl) (by rw [← Array.all_toList]; rfl) ?_) | fail)
      intro a H; replace hs := H.s hs; replace hd := H.d rfl; replace e23 := H.g 23 rfl rfl; replace e25 := H.g 25 rfl rfl; replace e1 := H.k e1 rfl; replace e2 := H.k e2 rfl; replace e6 := H.k e6 rfl; replace e7 := H.k e7 rfl; replace e283 := H.k e283 rfl; replace e284 := H.k e284 rfl; replace e285 := H.k e285 rfl; replace e291 := H.k e291 rfl; replace e292 := H.k e292 rfl; have e26 := H.g 26 rfl rfl
      clear H; refine hKq11 _ _ ?_; clear hKq11 Kq11; refine wp_seq_k fun Kq12 hKq12 => ?_
      obtain ⟨g26, hg26⟩ : ∃ g, g = w5.heap.size := ⟨_, rfl⟩
      rw [← hg26] at B26 e26
      generalize (w5.alloc (.cells #[.int .i64 (i : Int), .int .i64 (p : Int)] 61)) = w6 at *
      clear hg26 L6 SM GT OW hb5 B6 hgz
      have hB6 := SM6.hz
      have BC6 : Blk w6 g1 26 (cfc C Y) := BC.below hb6 ho3
      obtain ⟨v0, hv0⟩ : ∃ v0, v0 = (fm ((i : Int), (p : Int))).getD (.slice none 0 0) := ⟨_, rfl⟩
      obtain ⟨ss, hpm, own0⟩ := SM6.row ((i : Int), (p : Int))
      rw [← hv0] at own0
      have HV0 := Lib.hid hv0
      clear hv0
      have hssl : ss.length ≤ 1000 := Nat.le_trans (Nat.le_of_eq hpm.length_eq) (Nat.le_trans (atEnd_len _ _) hS)
      have HL : Hid (∀ W, Below w6.heap.size w6 W → Calls Try.prog 22 #[v0, .int .i64 C.cycle] W _) := Lib.hid fun W hW => list_any B0 ss.length v0 ss C.cycle W (ownsRow_keep own0 hW) hssl ⟨by have := HW.out.c1; omega, HW.out.c2⟩ (fun x hx => by have := atEnd_good HG.out x (hpm.subset hx); have := HW.out.c2; omega)
      have hrow0 : ∀ k, v0.ownBlock = some k → B0 ≤ k ∧ k < w6.heap.size := ownsRow_lt own0
      have HROW := Lib.hid hrow0
      have HOWN := Lib.hid own0
      have HPM := Lib.hid hpm
      clear hrow0 own0 hpm
      have h26r := own_blk_ne HOWN.out B26 (by decide)
      have H26 := Lib.hid h26r
      clear h26r
      have hok : okE ((i : Int), (p : Int)) := by unfold okE; simp only; omega
      have HOK := Lib.hid hok
      clear hok
      suffices HK : ∀ (a' : Act) (w8 : World) (g27 : Nat) (ok : Bool) (sv : Value) (ss' : List (Int × Int)) (t : List (Int × Int)) (cy : Int), a'.tmps.size = a.tmps.size → a'.defers = [] → a'.tmps[1]? = a.tmps[1]? → a'.tmps[2]? = a.tmps[2]? → a'.tmps[6]? = a.tmps[6]? → a'.tmps[7]? = a.tmps[7]? → a'.tmps[23]? = a.tmps[23]? → a'.tmps[283]? = a.tmps[283]? → a'.tmps[284]? = a.tmps[284]? → a'.tmps[285]? = a.tmps[285]? → a'.tmps[291]? = a.tmps[291]? → a'.tmps[292]? = a.tmps[292]? → a'.tmps[25]? = a.tmps[25]? → a'.tmps[26]? = a.tmps[26]? → a'.tmps[27]? = some (.pointer (some ⟨g27, 0, none⟩)) → a'.tmps[28]? = some (.bool ok) → Blk w8 g27 58 #[.int .i64 0, .int .i64 cy, sv] → Hid (cy = (if ok = true then C.cycle else 0) ∧ ss'.Perm ss ∧ ss'.Pairwise (fun x y => x.1 ≤ y.1) ∧ goV C.cycle 0 ss' = (if ok = true then some t else none)) → (ok = true → w8.ownsRow B0 67 2 sv t.length (t.flatMap spc)) → w8.ownsRow B0 93 2 v0 ss.length (ss'.flatMap spc) → w6.grownBy w8 v0.ownBlock → Kq12 a' w8 by
        refine sm_any [1, 7, 26, 27, 28] 298 9 (by kernel_rfl) hs hd (by kernel_rfl) (agC e1 (agC e7 (agC e26 (agU (agU agN))))) rfl (any_tree [] (.take 0 (.take 1 (.take 2 (.take 3 (.take 4 (.two 5 9 (.take 6 (.take 7 (.take 8 (.one 9 (.one 10 (.take 11 .nil)))))) (.one 5 (.take 6 (.take 7 (.take 8 (.one 10 (.take 11 .nil)))))))))))) (fun (w' : World) => (w'.heap[g26]? = w6.heap[g26]? ∧ w'.heap[g1]? = w6.heap[g1]? ∧ w'.heap[gm]? = w6.heap[gm]?)) (by kernel_rfl) (fun _ _ _ _ _ h => h) ⟨rfl, rfl, rfl⟩ ?_)
        simp only [seval]
        have hwd6 : Below w6.heap.size w6 w6.drew := (Below.refl _ _).drew
        have hcd : w6.drew.heap[g26]? = w6.heap[g26]? ∧ w6.drew.heap[g1]? = w6.heap[g1]? ∧ w6.drew.heap[gm]? = w6.heap[gm]? := ⟨rfl, rfl, rfl⟩
        obtain ⟨wd, hwd⟩ : ∃ wd, wd = w6.drew := ⟨_, rfl⟩
        rw [← hwd] at hwd6 hcd ⊢
        clear hwd
        (with_reducible (refine tr_take (v := ?_) rfl ?_ ?_ ?_); rotate_left; (first | exact wanted_none rfl | exact wanted_on rfl rfl rfl); (rintro w' _;  go_simp; with_reducible rfl); simp only [Act.put, List.setIfInBounds_toArray, List.set_cons_zero, List.set_cons_succ])
        (refine tr_take (v := .agg (#[.int .i64 (i : Int), .int .i64 (p : Int)])) rfl ?_ (fun w' hw' => run_load_whole_d 61 (.tmp 2) rfl rfl (show Blk w' g26 61 #[.int .i64 (i : Int), .int .i64 (p : Int)] from Blk.of_heap hw'.1 B26) Try.underlying61 rfl (by kernel_rfl)) ?_; (first | exact wanted_none rfl | exact wanted_on rfl rfl rfl); simp only [Act.put, List.setIfInBounds_toArray, List.set_cons_zero, List.set_cons_succ])
        (refine tr_take (v := v0) rfl ?_ (fun w' hw' => by rw [HV0.out]; exact run_lookup_E (.tmp 6) (.tmp 7) rfl rfl (SM6.E.of_block hw'.2.2) endKey Try.underlying86 (zero_spans _) ((i : Int), (p : Int)) rfl HOK.out) ?_; (first | exact wanted_none rfl | exact wanted_on rfl rfl rfl); simp only [Act.put, List.setIfInBounds_toArray, List.set_cons_zero, List.set_cons_succ])
        (with_reducible (refine tr_take (v := ?_) rfl ?_ ?_ ?_); rotate_left; (first | exact wanted_none rfl | exact wanted_on rfl rfl rfl); (rintro w' _;  go_simp; with_reducible rfl); simp only [Act.put, List.setIfInBounds_toArray, List.set_cons_zero, List.set_cons_succ])
        (with_reducible (refine tr_take (v := ?_) rfl ?_ ?_ ?_); rotate_left; (first | exact wanted_none rfl | exact wanted_on rfl rfl rfl); (rintro w' ⟨_, u2, _⟩; have q1 := (show Blk w' g1 26 (cfc C Y) from Blk.of_heap u2 BC6).cellOf (v := .int .i64 C.cycle) 3 rfl; go_simp; with_reducible rfl); simp only [Act.put, List.setIfInBounds_toArray, List.set_cons_zero, List.set_cons_succ])
        refine tr_two ?_ ?_
        (with_reducible (refine tr_call 22 ?_ rfl ?_ ?_ ?_); rotate_left; (first | exact wanted_none rfl | exact wanted_on rfl rfl rfl); (go_simp; with_reducible rfl))
        refine (HL.out wd hwd6).mono ?_
        rintro e w7 ⟨ok, sv, ss', t, rfl, hp7, hsr7, hgo7, hsl7, hz7, hown7, hgr7⟩
        have hcl7 : w7.heap[g26]? = wd.heap[g26]? ∧ w7.heap[g1]? = wd.heap[g1]? ∧ w7.heap[gm]? = wd.heap[gm]? := by
          have hz := (hwd6).size
          have h26 := B26.lt
          refine ⟨hgr7.block g26 (by omega) (fun e => H26.out e.symm), hgr7.block g1 (by omega) (fun e => by have := HROW.out g1 e.symm; omega), hgr7.block gm (by omega) (fun e => by have := HROW.out gm e.symm; omega)⟩
        have hsv1 : sv.oneCell' = true := by
          cases ok
          · rw [hz7 rfl]; rfl
          · obtain ⟨A7, c7, h7, _⟩ := ownsRow_reads (hsl7 rfl); rw [h7]; rfl
        obtain ⟨cy, hcy⟩ : ∃ cy, cy = (if ok = true then C.cycle else 0) := ⟨_, rfl⟩
        rw [← hcy]
        have h1c : (#[.int .i64 0, .int .i64 cy, sv] : Array Value).all (·.oneCell') = true := by rw [← Array.all_toList]; simp only [List.all_cons, List.all_nil, hsv1]; rfl
        have HPL := Lib.hid (And.intro hcy (And.intro hp7 (And.intro hsr7 hgo7)))
        clear hcy hp7 hsr7 hgo7 hz7 hsv1
        have hS7 : w7.heap[g26]? = w6.heap[g26]? ∧ w7.heap[g1]? = w6.heap[g1]? ∧ w7.heap[gm]? = w6.heap[gm]? := ⟨hcl7.1.trans hcd.1, hcl7.2.1.trans hcd.2.1, hcl7.2.2.trans hcd.2.2⟩
        refine ⟨_, rfl, hS7, ?_⟩
        simp only [Act.put, List.setIfInBounds_toArray, List.set_cons_zero, List.set_cons_succ]
        iterate 3 (with_reducible (refine tr_take (v := ?_) rfl ?_ ?_ ?_); rotate_left; (first | exact wanted_none rfl | exact wanted_on rfl rfl rfl); (rintro w' _;  go_simp; with_reducible rfl); simp only [Act.put, List.setIfInBounds_toArray, List.set_cons_zero, List.set_cons_succ])
        have hzw7 : w6.heap.size ≤ w7.heap.size := Nat.le_trans hwd6.size hgr7.size
        have h26 := B26.lt
        have hA8 : ∀ cs : Array Value, (w7.alloc (.cells cs 58)).heap[g26]? = w6.heap[g26]? ∧ (w7.alloc (.cells cs 58)).heap[g1]? = w6.heap[g1]? ∧ (w7.alloc (.cells cs 58)).heap[gm]? = w6.heap[gm]? := fun cs => ⟨(Below.heap_alloc _ _ _ (by omega)).trans hS7.1, (Below.heap_alloc _ _ _ (by omega)).trans hS7.2.1, (Below.heap_alloc _ _ _ (by omega)).trans hS7.2.2⟩
        have hA9 := hA8 #[.int .i64 0, .int .i64 0, .slice none 0 0]
        (with_reducible (refine tr_run (v := ?_) (w' := ?_) rfl ?_ ?_ ?_ ?_); rotate_left 2; (first | exact wanted_none rfl | exact wanted_on rfl rfl rfl); (go_simp; refine ⟨?_, ?_⟩ <;> with_reducible rfl); (exact hA9); simp only [Act.put, List.setIfInBounds_toArray, List.set_cons_zero, List.set_cons_succ])
        refine tr_store_new rfl rfl 58 (.tmp 3) (.tmp 12) rfl rfl rfl rfl rfl (by kernel_rfl) h1c ⟨hA8 _, ?_⟩
        simp only [Act.put, List.setIfInBounds_toArray, List.set_cons_zero, List.set_cons_succ]
        (with_reducible (refine tr_take (v := ?_) rfl ?_ ?_ ?_); rotate_left; (first | exact wanted_none rfl | exact wanted_on rfl rfl rfl); (rintro w' _;  go_simp; with_reducible rfl); simp only [Act.put, List.setIfInBounds_toArray, List.set_cons_zero, List.set_cons_succ])
        obtain ⟨g27, hg27⟩ : ∃ g, g = w7.heap.size := ⟨_, rfl⟩
        have B27x : Blk (w7.alloc (.cells #[.int .i64 0, .int .i64 cy, sv] 58)) g27 58 #[.int .i64 0, .int .i64 cy, sv] := Blk.at_new _ _ _ hg27
        have L8 : Below w7.heap.size w7 (w7.alloc (.cells #[.int .i64 0, .int .i64 cy, sv] 58)) := (Below.refl _ _).alloc (Nat.le_refl _) _
        have OSLx : ok = true → (w7.alloc (.cells #[.int .i64 0, .int .i64 cy, sv] 58)).ownsRow B0 67 2 sv t.length (t.flatMap spc) := fun h => ownsRow_keep (ownsRow_base (hsl7 h) (Nat.le_trans hB6 hwd6.size)) L8
        have OSPx := ownsRow_keep hown7 L8
        have GRx : w6.grownBy (w7.alloc (.cells #[.int .i64 0, .int .i64 cy, sv] 58)) v0.ownBlock := gr_trans (gr_below hwd6 _) (gr_trans hgr7 (gr_below L8 _))
        rw [← hg27]
        refine tr_nil ?_
        rotate_left
        have hA9 : (wd.alloc (.cells #[.int .i64 0, .int .i64 0, .slice none 0 0] 58)).heap[g26]? = w6.heap[g26]? ∧ (wd.alloc (.cells #[.int .i64 0, .int .i64 0, .slice none 0 0] 58)).heap[g1]? = w6.heap[g1]? ∧ (wd.alloc (.cells #[.int .i64 0, .int .i64 0, .slice none 0 0] 58)).heap[gm]? = w6.heap[gm]? := by
          have := hwd6.size
          have := B26.lt
          exact ⟨(Below.heap_alloc _ _ _ (by omega)).trans hcd.1, (Below.heap_alloc _ _ _ (by omega)).trans hcd.2.1, (Below.heap_alloc _ _ _ (by omega)).trans hcd.2.2⟩
        (with_reducible (refine tr_run (v := ?_) (w' := ?_) rfl ?_ ?_ ?_ ?_); rotate_left 2; (first | exact wanted_none rfl | exact wanted_on rfl rfl rfl); (go_simp; refine ⟨?_, ?_⟩ <;> with_reducible rfl); (exact hA9); simp only [Act.put, List.setIfInBounds_toArray, List.set_cons_zero, List.set_cons_succ])
        obtain ⟨g27, hg27⟩ : ∃ g, g = wd.heap.size := ⟨_, rfl⟩
        have B27z : Blk (wd.alloc (.cells #[.int .i64 0, .int .i64 0, .slice none 0 0] 58)) g27 58 #[.int .i64 0, .int .i64 0, .slice none 0 0] := Blk.at_new _ _ _ hg27
        have hwz : Below w6.heap.size w6 (wd.alloc (.cells #[.int .i64 0, .int .i64 0, .slice none 0 0] 58)) := hwd6.alloc hwd6.size _
        rw [← hg27]
        have hgz27 : w6.heap.size ≤ g27 := by rw [hg27]; exact hwd6.size
        have hz27 : g27 < (wd.alloc (.cells #[.int .i64 0, .int .i64 0, .slice none 0 0] 58)).heap.size := B27z.lt
        clear hg27
        generalize wd.alloc (.cells #[.int .i64 0, .int .i64 0, .slice none 0 0] 58) = wz at *
        (with_reducible (refine tr_call 22 ?_ rfl ?_ ?_ ?_); rotate_left; (first | exact wanted_none rfl | exact wanted_on rfl rfl rfl); (go_simp; with_reducible rfl))
        refine (HL.out wz hwz).mono ?_
        rintro e w7 ⟨ok, sv, ss', t, rfl, hp7, hsr7, hgo7, hsl7, hz7, hown7, hgr7⟩
        have hcl7 : w7.heap[g26]? = wz.heap[g26]? ∧ w7.heap[g1]? = wz.heap[g1]? ∧ w7.heap[gm]? = wz.heap[gm]? := by
          have hz := (hwz).size
          have h26 := B26.lt
          refine ⟨hgr7.block g26 (by omega) (fun e => H26.out e.symm), hgr7.block g1 (by omega) (fun e => by have := HROW.out g1 e.symm; omega), hgr7.block gm (by omega) (fun e => by have := HROW.out gm e.symm; omega)⟩
        have hsv1 : sv.oneCell' = true := by
          cases ok
          · rw [hz7 rfl]; rfl
          · obtain ⟨A7, c7, h7, _⟩ := ownsRow_reads (hsl7 rfl); rw [h7]; rfl
        obtain ⟨cy, hcy⟩ : ∃ cy, cy = (if ok = true then C.cycle else 0) := ⟨_, rfl⟩
        rw [← hcy]
        have h1c : (#[.int .i64 0, .int .i64 cy, sv] : Array Value).all (·.oneCell') = true := by rw [← Array.all_toList]; simp only [List.all_cons, List.all_nil, hsv1]; rfl
        have HPL := Lib.hid (And.intro hcy (And.intro hp7 (And.intro hsr7 hgo7)))
        clear hcy hp7 hsr7 hgo7 hz7 hsv1
        have hS7 : w7.heap[g26]? = w6.heap[g26]? ∧ w7.heap[g1]? = w6.heap[g1]? ∧ w7.heap[gm]? = w6.heap[gm]? := ⟨hcl7.1.trans hA9.1, hcl7.2.1.trans hA9.2.1, hcl7.2.2.trans hA9.2.2⟩
        refine ⟨_, rfl, hS7, ?_⟩
        simp only [Act.put, List.setIfInBounds_toArray, List.set_cons_zero, List.set_cons_succ]
        iterate 3 (with_reducible (refine tr_take (v := ?_) rfl ?_ ?_ ?_); rotate_left; (first | exact wanted_none rfl | exact wanted_on rfl rfl rfl); (rintro w' _;  go_simp; with_reducible rfl); simp only [Act.put, List.setIfInBounds_toArray, List.set_cons_zero, List.set_cons_succ])
        have B27y : Blk w7 g27 58 #[.int .i64 0, .int .i64 0, .slice none 0 0] := B27z.grown hgr7 (fun e => by have := HROW.out g27 e.symm; omega)
        refine tr_store_blk rfl rfl 58 (.tmp 3) (.tmp 12) rfl (off := 0) rfl B27y rfl (by simp) (by kernel_rfl) h1c ?_
        intro w9 B9 z9 gr9
        have h26 := B26.lt
        refine ⟨⟨(gr9.block g26 (by have := hgr7.size; have := hwz.size; omega) (fun e => by injection e with e; omega)).trans hS7.1, (gr9.block g1 (by have := hgr7.size; have := hwz.size; omega) (fun e => by injection e with e; omega)).trans hS7.2.1, (gr9.block gm (by have := hgr7.size; have := hwz.size; omega) (fun e => by injection e with e; omega)).trans hS7.2.2⟩, ?_⟩
        simp only [Act.put, List.setIfInBounds_toArray, List.set_cons_zero, List.set_cons_succ]
        (with_reducible (refine tr_take (v := ?_) rfl ?_ ?_ ?_); rotate_left; (first | exact wanted_none rfl | exact wanted_on rfl rfl rfl); (rintro w' _;  go_simp; with_reducible rfl); simp only [Act.put, List.setIfInBounds_toArray, List.set_cons_zero, List.set_cons_succ])
        have B27x : Blk w9 g27 58 #[.int .i64 0, .int .i64 cy, sv] := by simpa [putAll] using B9
        have OSLx : ok = true → w9.ownsRow B0 67 2 sv t.length (t.flatMap spc) := fun h => own_kept (ownsRow_base (hsl7 h) (Nat.le_trans hB6 hwz.size)) gr9 (fun k hk e => by have := (ownsRow_lt (hsl7 h) k hk).1; injection e with e; omega)
        have OSPx := own_kept hown7 gr9 (fun k hk e => by have := (HROW.out k hk).2; injection e with e; omega)
        have GRx : w6.grownBy w9 v0.ownBlock := ⟨gr9.os.trans (hgr7.os.trans hwz.os), gr9.tape.trans (hgr7.tape.trans hwz.tape), gr9.output.trans (hgr7.output.trans hwz.output), Nat.le_trans hwz.size (Nat.le_trans hgr7.size gr9.size), fun k hk hne => (gr9.block k (by have := hgr7.size; have := hwz.size; omega) (fun e => by injection e with e; omega)).trans ((hgr7.block k (by have := hwz.size; omega) hne).trans (hwz.block k hk))⟩
        refine tr_nil ?_
        all_goals
          intro a' H
          refine HK a' _ g27 ok sv ss' t cy H.size H.defers ((H.got rfl rfl).trans e1.symm) (H.out 2 rfl) (H.out 6 rfl) ((H.got rfl rfl).trans e7.symm) (H.out 23 rfl) (H.out 283 rfl) (H.out 284 rfl) (H.out 285 rfl) (H.out 291 rfl) (H.out 292 rfl) (H.out 25 rfl) ((H.got rfl rfl).trans e26.symm) ?_ ?_ ?_ ?_ ?_ ?_ ?_
          · exact H.got rfl rfl
          · exact H.got rfl rfl
          · exact B27x
          · exact HPL
          · exact OSLx
          · exact OSPx
          · exact GRx
      intro a' w8 g27 ok sv ss' t cy g_s g_d g1 g2 g6 g7 g23 g283 g284 g285 g291 g292 g25 g26 f27 f28 B27 HPL OSL OSP GR8
      replace hs := g_s.trans hs; replace hd := g_d; replace e1 := g1.trans e1; replace e2 := g2.trans e2; replace e6 := g6.trans e6; replace e7 := g7.trans e7; replace e23 := g23.trans e23; replace e283 := g283.trans e283; replace e284 := g284.trans e284; replace e285 := g285.trans e285; replace e291 := g291.trans e291; replace e292 := g292.trans e292; replace e25 := g25.trans e25; replace e26 := g26.trans e26
      clear g_s g_d g1 g2 g6 g7 g23 g283 g284 g285 g291 g292 g25 g26
      have e27 := f27
      clear f27
      have e28 := f28
      clear f28; clear a
      obtain ⟨a, rfl⟩ : ∃ a, a = a' := ⟨_, rfl⟩
      refine hKq12 _ _ ?_; clear hKq12 Kq12; refine wp_seq_k fun Kq13 hKq13 => ?_; refine wp_seq_k fun Kq14 hKq14 => ?_
      have hrt := fun (e2 : TypeId) (h : e2 ≠ 93) => row_type HOWN.out GR8 h
      have hpm8 : ss'.Perm (atEnd S ((i : Int), (p : Int))) := HPL.out.2.1.trans HPM.out
      have hl8 : ss'.length = ss.length := HPL.out.2.1.length_eq
      have SM8 := SM6.sorted hpm8 (by rw [hl8, ← HV0.out]; exact OSP) (by rw [← HV0.out]; exact GR8)
      have GT8 := GT6.fr (GR8.block gG (by omega) (fun e => by have := HROW.out gG e.symm; omega)) (hrt _ (by decide))
      have OW8 := own_type OW6 (hrt _ (by decide))
      have hb8 := hb6.grown GR8 (by omega) (fun k hk => by have := HROW.out k hk; omega)
      have B68 := B66.grown GR8 (fun e => by have := HROW.out g6 e.symm; omega)
      have B268 := B26.grown GR8 (Ne.symm H26.out)
      have HPM8 := Lib.hid hpm8
      clear hrt hpm8 hl8 SM6 GT6 OW6 hb6 B66 B26 OSP GR8 BC6 HL HROW HOWN H26 HPM hB6 hssl HV0
      have hok2 : ok = false ∨ ok = true := by cases ok <;> simp
      rcases hok2 with rfl | rfl
      · have hno : portsOk C S = false := by
          cases hq : portsOk C S
          · rfl
          · have hd1 := portsOk_iff.1 hq ((i : Int), (p : Int)) (List.mem_flatMap.2 ⟨i, List.mem_range.2 hlt, by rw [HEO.out]; exact List.mem_map.2 ⟨p, List.mem_range.2 hlp, rfl⟩⟩)
            have h2 := (go_disj HG.out HPM8.out HPL.out.2.2.1).2 hd1
            rw [HPL.out.2.2.2] at h2
            cases h2
        have HNO := Lib.hid hno
        clear hno
        refine sm_list [28] 307 2 hs hd (by kernel_rfl) (agC e28 agN) rfl ?_
        simp only [seval]
        go_wp2_with fail
        intro a H; replace hs := H.s hs; replace hd := H.d rfl; replace e28 := H.g 28 rfl rfl; replace e1 := H.k e1 rfl; replace e2 := H.k e2 rfl; replace e6 := H.k e6 rfl; replace e7 := H.k e7 rfl; replace e23 := H.k e23 rfl; replace e283 := H.k e283 rfl; replace e284 := H.k e284 rfl; replace e285 := H.k e285 rfl; replace e291 := H.k e291 rfl; replace e292 := H.k e292 rfl; replace e25 := H.k e25 rfl; replace e26 := H.k e26 rfl; replace e27 := H.k e27 rfl
        have e308 := H.g 308 rfl rfl; clear H; refine hKq14 _ _ ?_; clear hKq14 Kq14
        refine wp_cond_true (slotE e308) ?_
        clear e308; refine wp_seq_k fun Kq15 hKq15 => ?_
        have hlw : Below L w w8 := hb8.mono (by omega)
        have HB2 := Lib.hid (B2.below hb8 ho4)
        have hlz : L ≤ w8.heap.size := by have := SM8.hz; omega
        refine sm_list [2, 3] 309 1 hs hd (by kernel_rfl) (agC e2 (agU agN)) rfl ?_
        simp only [seval]
        go_wp2_with (first | (refine wpList_store_part rfl 32 (.tmp 0) (.tmp 2) rfl (off := 0) rfl HB2.out rfl (by simp) (by kernel_rfl) (by rw [← Array.all_toList]; rfl) ?_; intro wq Bq zq grq) | fail)
        intro a H; replace hs := H.s hs; replace hd := H.d rfl; replace e2 := H.g 2 rfl rfl; replace e1 := H.k e1 rfl; replace e6 := H.k e6 rfl; replace e7 := H.k e7 rfl; replace e23 := H.k e23 rfl; replace e283 := H.k e283 rfl; replace e284 := H.k e284 rfl; replace e285 := H.k e285 rfl; replace e291 := H.k e291 rfl; replace e292 := H.k e292 rfl; replace e25 := H.k e25 rfl; replace e26 := H.k e26 rfl; replace e27 := H.k e27 rfl; replace e28 := H.k e28 rfl
        have e3 := H.g 3 rfl rfl; clear H; refine hKq15 _ _ ?_; clear hKq15 Kq15; refine wp_ret ?_; refine exit_then rfl ?_; refine ret_block ?_; refine exit_then rfl ?_; refine exit_then rfl ?_; refine ret_block ?_; refine ret_block ?_; refine exit_then rfl ?_; refine exit_then rfl ?_; refine ret_block ?_
        have Bq' : Blk wq g2 32 #[.int .i64 0, .slice none 0 0, .map none] := by simpa [putAll] using Bq
        exact HEND.out.2 a wq hs hd e2 e3 (hlw.grown grq hlz (fun k hk => by cases hk; exact ho2)) Bq' HNO.out
      · have hcy : cy = C.cycle := HPL.out.1.trans (if_pos rfl)
        subst hcy
        have HGO := Lib.hid (HPL.out.2.2.2.trans (if_pos rfl))
        have OSL1 := OSL rfl
        clear OSL
        refine sm_list [28] 307 2 hs hd (by kernel_rfl) (agC e28 agN) rfl ?_
        simp only [seval]
        go_wp2_with fail
        intro a H; replace hs := H.s hs; replace hd := H.d rfl; replace e28 := H.g 28 rfl rfl; replace e1 := H.k e1 rfl; replace e2 := H.k e2 rfl; replace e6 := H.k e6 rfl; replace e7 := H.k e7 rfl; replace e23 := H.k e23 rfl; replace e283 := H.k e283 rfl; replace e284 := H.k e284 rfl; replace e285 := H.k e285 rfl; replace e291 := H.k e291 rfl; replace e292 := H.k e292 rfl; replace e25 := H.k e25 rfl; replace e26 := H.k e26 rfl; replace e27 := H.k e27 rfl
        have e308 := H.g 308 rfl rfl; clear H; refine hKq14 _ _ ?_; clear hKq14 Kq14
        refine wp_cond_false (slotE e308) ?_
        clear e308; refine wp_skip ?_; refine hKq13 _ _ ?_; clear hKq13 Kq13
        have p2 := B68.cellOf (v := .map (some gG)) 2 rfl
        have HB27 := Lib.hid B27
        have HB26 := Lib.hid B268
        have HGT := Lib.hid GT8
        obtain ⟨Av, cv, rfl, _, _⟩ := ownsRow_reads OSL1
        have hmgm : mg < maxLen := by unfold maxLen; omega
        clear B27 B268 GT8
        refine sm_list [6, 26, 27] 310 4 hs hd (by kernel_rfl) (agC e6 (agC e26 (agC e27 agN))) rfl ?_
        simp only [seval]
        go_wp2_with (first | (refine wpList_load_any_d rfl 61 (.tmp 1) rfl ⟨g26, 0, none⟩ rfl (#[.int .i64 (i : Int), .int .i64 (p : Int)]) _ (blk_cells HB26.out) Try.underlying61 rfl (by kernel_rfl) ?_) | (refine wpList_load_any_d rfl 58 (.tmp 2) rfl ⟨g27, 0, none⟩ rfl (#[.int .i64 0, .int .i64 C.cycle, .slice Av t.length cv]) _ (blk_cells HB27.out) Try.underlying58 rfl (by kernel_rfl) ?_) | (refine wpList_mapUpdate_E rfl (.tmp 4) (.tmp 5) (.tmp 6) 30 rfl rfl HGT.out.E endKey Try.underlying30 hmgm ((i : Int), (p : Int)) rfl HOK.out (.agg (#[.int .i64 0, .int .i64 C.cycle, .slice Av t.length cv])) rfl ?_; intro w9 hE9 gr9) | fail)
        intro a H; replace hs := H.s hs; replace hd := H.d rfl; replace e6 := H.g 6 rfl rfl; replace e26 := H.g 26 rfl rfl; replace e27 := H.g 27 rfl rfl; replace e1 := H.k e1 rfl; replace e2 := H.k e2 rfl; replace e7 := H.k e7 rfl; replace e23 := H.k e23 rfl; replace e283 := H.k e283 rfl; replace e284 := H.k e284 rfl; replace e285 := H.k e285 rfl; replace e291 := H.k e291 rfl; replace e292 := H.k e292 rfl; replace e25 := H.k e25 rfl; replace e28 := H.k e28 rfl
        clear H; refine hKq9 _ _ ?_; clear hKq9 Kq9; have GT9 := HGT.out.put not_mem_done HPM8.out HPL.out.2.2.1 HGO.out OSL1 hE9 gr9
        have SM9 := SM8.low (by omega) (by omega) gr9
        have OW9 := own_kept OW8 gr9 (fun k hk e => by have := (ownsRow_lt OW8 k hk).1; injection e with e; omega)
        have hb9 := hb8.grown gr9 (by have := SM8.hz; omega) (fun k hk => by cases hk; exact Nat.le_refl _)
        have B69 := B68.grown gr9 (by simp; omega)
        have e2q : (endsTo C i ++ (List.range p).map fun q : Nat => ((i : Int), (q : Int))) ++ [((i : Int), (p : Int))] = endsTo C i ++ (List.range (p + 1)).map fun q : Nat => ((i : Int), (q : Int)) := by rw [List.range_succ, List.map_append, List.append_assoc]; rfl
        rw [e2q] at GT9
        clear hE9 gr9 HGT HB26 HB27 p2 SM8 OW8 hb8 B68 e2q; clear e25; clear e26; clear e27; clear e28
        refine sm_list [292] 314 1 hs hd (by kernel_rfl) (agC e292 agN) rfl ?_
        simp only [seval]
        go_wp2_with fail
        intro a H; replace hs := H.s hs; replace hd := H.d rfl; replace e1 := H.k e1 rfl; replace e2 := H.k e2 rfl; replace e6 := H.k e6 rfl; replace e7 := H.k e7 rfl; replace e23 := H.k e23 rfl; replace e283 := H.k e283 rfl; replace e284 := H.k e284 rfl; replace e285 := H.k e285 rfl; replace e291 := H.k e291 rfl; replace e292 := H.g 292 rfl rfl; clear H
        exact ⟨⟨p + 1, _, _, by omega, by omega, hs, hd, e1, e2, e6, e7, e23, e283, e284, e285, e291, e292, hb9, B69, SM9, OW9, GT9⟩, by first | (simp only [hmi, slot e292, intOf]; omega) | (simp [e292, intOf]; omega)⟩
    · obtain rfl : p = p8 := by omega
      have dp : decide ((p : Int) < (p : Int)) = false := decide_eq_false (by omega)
      clear hlp hmi
      rw [← HEO.out, ← endsTo_succ] at GT
      refine sm_list [291, 292] 293 1 hs hd (by kernel_rfl) (agC e291 (agC e292 agN)) rfl ?_
      simp only [seval]
      go_wp2_with fail
      intro a H; replace hs := H.s hs; replace hd := H.d rfl; replace e291 := H.g 291 rfl rfl; replace e292 := H.g 292 rfl rfl; replace e1 := H.k e1 rfl; replace e2 := H.k e2 rfl; replace e6 := H.k e6 rfl; replace e7 := H.k e7 rfl; replace e23 := H.k e23 rfl; replace e283 := H.k e283 rfl; replace e284 := H.k e284 rfl; replace e285 := H.k e285 rfl; have e293 := H.g 293 rfl rfl; clear H; refine hKq7 _ _ ?_
      clear hKq7 Kq7; refine wp_seq_k fun Kq8 hKq8 => ?_
      refine wp_cond_false (slotE e293) ?_
      clear e293; refine wp_exit ?_; refine exit_then rfl ?_; clear hKq8 Kq8; refine exit_then rfl ?_; refine exit_hit ?_; refine hKq4 _ _ ?_; clear hKq4 Kq4; clear e23; clear e291; clear e292
      refine sm_list [285] 315 1 hs hd (by kernel_rfl) (agC e285 agN) rfl ?_
      simp only [seval]
      go_wp2_with fail
      intro a H; replace hs := H.s hs; replace hd := H.d rfl; replace e1 := H.k e1 rfl; replace e2 := H.k e2 rfl; replace e6 := H.k e6 rfl; replace e7 := H.k e7 rfl; replace e283 := H.k e283 rfl; replace e284 := H.k e284 rfl; replace e285 := H.g 285 rfl rfl; clear H
      exact ⟨⟨i + 1, _, _, by omega, by omega, hs, hd, e1, e2, e6, e7, e283, e284, e285, hb5, B6, SM, OW, GT⟩, by first | (simp only [hmo, slot e285, intOf]; omega) | (simp [e285, intOf]; omega)⟩
  · obtain rfl : i = C.nodes.length := by omega
    have dj : decide ((C.nodes.length : Int) < (C.nodes.length : Int)) = false := decide_eq_false (by omega)
    clear hlt hmo
    refine sm_list [284, 285] 286 1 hs hd (by kernel_rfl) (agC e284 (agC e285 agN)) rfl ?_
    simp only [seval]
    go_wp2_with fail
    intro a H; replace hs := H.s hs; replace hd := H.d rfl; replace e284 := H.g 284 rfl rfl; replace e285 := H.g 285 rfl rfl; replace e1 := H.k e1 rfl; replace e2 := H.k e2 rfl; replace e6 := H.k e6 rfl; replace e7 := H.k e7 rfl; replace e283 := H.k e283 rfl; have e286 := H.g 286 rfl rfl; clear H; refine hKq2 _ _ ?_; clear hKq2 Kq2; refine wp_seq_k fun Kq3 hKq3 => ?_
    refine wp_cond_false (slotE e286) ?_
    clear e286; refine wp_exit ?_; refine exit_then rfl ?_; clear hKq3 Kq3; refine exit_then rfl ?_; refine exit_hit ?_
    have hall : portsOk C S = true := portsOk_iff.2 fun e he => by
      obtain ⟨v, hv⟩ := Option.isSome_iff_exists.1 ((GT.has e).2 he)
      obtain ⟨sv, ss, t, _, h2, h3, h4, _⟩ := GT.row e v hv
      exact (go_disj HG.out h2 h3).1 (by rw [h4]; rfl)
    exact HEND.out.1 a w3 mg fg hs hd e2 e6 hb3 B6 GT OW hall
end Go.Proofs.Ytaegngcbiefckaa
