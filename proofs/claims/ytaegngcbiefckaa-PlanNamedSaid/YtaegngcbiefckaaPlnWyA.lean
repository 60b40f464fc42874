/-
  A way of a flow: one hop.
-/
import Derived.Test.YtaegngcbiefckaaPlnAp
namespace Go.Proofs.Ytaegngcbiefckaa
set_option linter.unusedSimpArgs false
set_option linter.unusedVariables false
open Go.RowKit Go.WideShapes Go.ChangeShapes
attribute [local go_sem ↓] Go.wp_at_zero Go.wp_at_succ

theorem sty_int : SliceTy Try.prog 36 3 1 8 := sliceTy_mk (z := .int .i64 0) Try.underlying36 (by kernel_rfl) rfl
theorem sty_end : SliceTy Try.prog 87 61 2 16 := sliceTy_mk (z := .agg #[.int .i64 0, .int .i64 0]) Try.underlying87 (by kernel_rfl) rfl
/-- Two rows that grow, apart from each other: the nodes that were passed; the ends at which it went out. -/
structure WayAt (w : World) (B0 : Nat) (vs vo : Value) (seen : List Int) (out : List (Int × Int)) : Prop where
  rs : w.ownsRow B0 3 1 vs seen.length (seen.map (Value.int .i64))
  ro : w.ownsRow B0 61 2 vo out.length (out.flatMap ecc)
  ap : ∀ g, vs.ownBlock = some g → vo.ownBlock ≠ some g
theorem WayAt.keep {w w' : World} {B0 : Nat} {vs vo : Value} {seen : List Int} {out : List (Int × Int)} (h : WayAt w B0 vs vo seen out) (hg : w.grownBy w' none) : WayAt w' B0 vs vo seen out :=
  ⟨h.rs.kept hg (by cases vs.ownBlock <;> simp), h.ro.kept hg (by cases vo.ownBlock <;> simp), h.ap⟩
theorem WayAt.drew {w : World} {B0 : Nat} {vs vo : Value} {seen : List Int} {out : List (Int × Int)} (h : WayAt w B0 vs vo seen out) : WayAt w.drew B0 vs vo seen out := ⟨h.rs, h.ro, h.ap⟩
theorem WayAt.alloc {w : World} {B0 : Nat} {vs vo : Value} {seen : List Int} {out : List (Int × Int)} (h : WayAt w B0 vs vo seen out) (o : Obj) : WayAt (w.alloc o) B0 vs vo seen out := h.keep (World.grownBy_alloc w o none)
theorem WayAt.pushO {w w' : World} {B0 : Nat} {vs vo vo' : Value} {seen : List Int} {out : List (Int × Int)} {e : Int × Int} (h : WayAt w B0 vs vo seen out) (hg : w.grownBy w' vo.ownBlock) (hm : Moved w vo vo')
    (ho : w'.ownsRow B0 61 2 vo' (out.length + 1) (out.flatMap ecc ++ ecc e)) : WayAt w' B0 vs vo' seen (out ++ [e]) := by
  refine ⟨h.rs.kept hg ?_, by simpa using ho, fun g hv => ?_⟩
  · cases hv : vs.ownBlock with
    | none => exact .inl rfl
    | some g => exact .inr (fun e => h.ap g hv e.symm)
  · rcases hm with hm | ⟨g', h1, h2⟩
    · rw [hm]; exact h.ap g hv
    · rw [h1]
      have := (h.rs.lt g hv).2
      intro e
      cases e
      omega
theorem WayAt.pushS {w w' : World} {B0 : Nat} {vs vs' vo : Value} {seen : List Int} {out : List (Int × Int)} {x : Int} (h : WayAt w B0 vs vo seen out) (hg : w.grownBy w' vs.ownBlock) (hm : Moved w vs vs')
    (ho : w'.ownsRow B0 3 1 vs' (seen.length + 1) (seen.map (Value.int .i64) ++ [.int .i64 x])) : WayAt w' B0 vs' vo (seen ++ [x]) out := by
  refine ⟨by simpa using ho, h.ro.kept hg ?_, fun g hv => ?_⟩
  · cases hv : vo.ownBlock with
    | none => exact .inl rfl
    | some g => exact .inr (fun e => h.ap g e.symm hv)
  · rcases hm with hm | ⟨g', h1, h2⟩
    · rw [hm] at hv; exact h.ap g hv
    · rw [h1] at hv
      cases hv
      intro e
      have := (h.ro.lt _ e).2
      omega
/-- What way reckons: from node at on. -/
def hopBad (C : Cf) (n i : Nat) (seen : List Int) (next : Int) : Bool :=
  seen.contains next || (decide (i + 1 < n) && (match C.nodes[next.toNat]? with | some nd => !nd.br | none => true))
def wayGo (C : Cf) (n : Nat) : Nat → Int → List Int → List (Int × Int) → List Int → Option (Int × List (Int × Int))
  | _, at_, _, out, [] => some (at_, out)
  | i, at_, seen, out, k :: ks =>
    if k < 0 ∨ (C.links.length : Int) ≤ k then none
    else match C.links[k.toNat]? with
      | none => none
      | some l =>
        if l.n0 = at_ then (if hopBad C n i seen l.n1 then none else wayGo C n (i + 1) l.n1 (seen ++ [l.n1]) (out ++ [(l.n0, l.p0)]) ks)
        else if l.n1 = at_ then (if hopBad C n i seen l.n0 then none else wayGo C n (i + 1) l.n0 (seen ++ [l.n0]) (out ++ [(l.n1, l.p1)]) ks)
        else none
def wayV (C : Cf) (src dst : Int) (ks : List Int) : Option (List (Int × Int)) :=
  match wayGo C ks.length 0 src [src] [] ks with
  | some (at_, out) => if 0 < out.length ∧ at_ = dst then some out else none
  | none => none
structure LinkOk (C : Cf) (l : Lk) : Prop where
  a : 0 ≤ l.n0 ∧ l.n0 < (C.nodes.length : Int)
  b : 0 ≤ l.n1 ∧ l.n1 < (C.nodes.length : Int)
theorem LinkOk.other {C : Cf} {l : Lk} (h : LinkOk C l) (s : Int) : 0 ≤ endX l (1 - s) ∧ endX l (1 - s) < (C.nodes.length : Int) := by
  unfold endX
  split
  · exact h.a
  · exact h.b
set_option maxRecDepth 100000 in
set_option maxHeartbeats 4000000 in
theorem way_hop (C : Cf) (Y : Lay) (f : Fw) (sl : Sl × Sl) (q i k n c g3 g4 g14 B B0 : Nat) (A : Option Addr) (s : Int) (l : Lk) (vs vo : Value) (seen : List Int) (out : List (Int × Int)) (a : Act) (w : World) (Q : Exit → Act → World → Prop)
    (hs : a.tmps.size = 104) (hd : a.defers = []) (e2 : a.tmps[2]? = some (.int .i64 (q : Int))) (e3 : a.tmps[3]? = some (.pointer (some ⟨g3, 0, none⟩))) (e4 : a.tmps[4]? = some (.pointer (some ⟨g4, 0, none⟩))) (e9 : a.tmps[9]? = some (vs)) (e10 : a.tmps[10]? = some (vo)) (e11 : a.tmps[11]? = some (.int .i64 (i : Int))) (e12 : a.tmps[12]? = some (.int .i64 (k : Int))) (e13 : a.tmps[13]? = some (.int .i64 s)) (e14 : a.tmps[14]? = some (.pointer (some ⟨g14, 0, none⟩))) (e22 : a.tmps[22]? = some (.slice A n c)) (e23 : a.tmps[23]? = some (.int .i64 (n : Int))) (e24 : a.tmps[24]? = some (.int .i64 (i : Int)))
    (hC : CfAt w B C Y) (BC : Blk w g3 26 (cfc C Y)) (BF : Blk w g4 74 (fwc f sl).toArray) (hB : B ≤ B0 ∧ g3 < B0 ∧ g4 < B0 ∧ B0 ≤ w.heap.size) (B14 : Blk w g14 61 #[.int .i64 (endX l s), .int .i64 (endY l s)])
    (hq : q < 2) (hcell : (fwc f sl).toArray[2 + q]? = some (.slice A n c)) (hl : C.links[k]? = some l) (hlk : LinkOk C l) (hs01 : s = 0 ∨ s = 1) (hW : WayAt w B0 vs vo seen out) (hi : i < n) (hn : n ≤ 100) (hsl : seen.length ≤ 100) (hol : out.length ≤ 100)
    (hend : ∀ (a : Act) (w' : World) (vs' vo' : Value), a.tmps.size = 104 → a.defers = [] → a.tmps[2]? = some (.int .i64 (q : Int)) → a.tmps[3]? = some (.pointer (some ⟨g3, 0, none⟩)) → a.tmps[4]? = some (.pointer (some ⟨g4, 0, none⟩)) → a.tmps[22]? = some (.slice A n c) → a.tmps[23]? = some (.int .i64 (n : Int)) → a.tmps[24]? = some (.int .i64 (i : Int)) → a.tmps[8]? = some (.int .i64 (endX l (1 - s))) → a.tmps[9]? = some vs' → a.tmps[10]? = some vo' → Below B0 w w' →
      WayAt w' B0 vs' vo' (seen ++ [endX l (1 - s)]) (out ++ [(endX l s, endY l s)]) → hopBad C n i seen (endX l (1 - s)) = false → Q (.exit 1) a w')
    (hret : ∀ (a : Act) (w' : World), a.tmps.size = 104 → a.defers = [] → a.tmps[6]? = some (.slice none 0 0) → a.tmps[7]? = some (.bool false) → Below B0 w w' → hopBad C n i seen (endX l (1 - s)) = true → Q .ret a w') :
    Code.wp Try.prog (subS [true, false, true, true, true, true, false, true, false, false, true, true, false, false, true, true, false, true, false, false, true, true, false, false, true, true] (bodyOf Try.f20)) Q a w := by
  conv => arg 2; whnf
  have HEND := Lib.hid (And.intro hend hret)
  have HCELL := Lib.hid hcell
  have HLL := Lib.hid hl
  clear hend hret hcell hl
  obtain ⟨x, hx⟩ : ∃ x, x = endX l s := ⟨_, rfl⟩
  obtain ⟨y, hy⟩ : ∃ y, y = endY l s := ⟨_, rfl⟩
  obtain ⟨z, hz⟩ : ∃ z, z = endX l (1 - s) := ⟨_, rfl⟩
  have hzr := hlk.other s
  rw [← hz] at hzr
  rw [← hx, ← hy] at B14
  have HXYZ := Lib.hid (And.intro hx (And.intro hy hz))
  clear hx hy hz hlk
  obtain ⟨hB1, hB2, hB3, hB4⟩ := hB
  have HW := Lib.hid hW.ro
  refine wp_seq_k fun Kq1 hKq1 => ?_
  refine sm_list [10, 14] 52 4 hs hd (by kernel_rfl) (agC e10 (agC e14 agN)) rfl ?_
  simp only [seval]
  go_wp2_with (first | (refine wpList_load_any_d rfl 61 (.tmp 1) rfl ⟨g14, 0, none⟩ rfl (#[.int .i64 x, .int .i64 y]) _ (blk_cells B14) Try.underlying61 rfl (by kernel_rfl) ?_) | (at_builtin; refine wpList_pushG 1 rfl (.tmp 2) (.tmp 4) 87 rfl sty_end (wr := w) (cs := #[.int .i64 x, .int .i64 y]) rfl (by intro u hu; simp at hu; rcases hu with rfl | rfl <;> rfl) (v := vo) rfl HW.out rfl rfl (by omega) hB4 ?_; intro v2 w2 own2 gr2 mv2) | fail)
  intro a H; replace hs := H.s hs; replace hd := H.d rfl; replace e2 := H.k e2 rfl; replace e3 := H.k e3 rfl; replace e4 := H.k e4 rfl; replace e9 := H.k e9 rfl; replace e11 := H.k e11 rfl; replace e12 := H.k e12 rfl; replace e13 := H.k e13 rfl; replace e22 := H.k e22 rfl; replace e23 := H.k e23 rfl; replace e24 := H.k e24 rfl; clear e14; replace e10 := H.g 10 rfl rfl; clear H; refine hKq1 _ _ ?_; clear hKq1 Kq1
  refine wp_seq_k fun Kq2 hKq2 => ?_
  have b2 : Below B0 w w2 := below_of_grown gr2 hW.ro hB4
  have hW2 : WayAt w2 B0 vs v2 seen (out ++ [(x, y)]) := hW.pushO (e := (x, y)) gr2 mv2 own2
  replace BC := BC.below b2 hB2
  replace BF := BF.below b2 hB3
  replace hC := hC.below (b2.mono hB1)
  have hz2 : B0 ≤ w2.heap.size := Nat.le_trans hB4 b2.size
  clear hW HW own2 gr2 mv2 B14 hB4
  have c1 := BC.cellOf (v := .slice Y.L.A C.links.length Y.L.c) 1 rfl
  have hkl := (List.getElem?_eq_some_iff.1 HLL.out).1
  obtain ⟨ad, hA, hadb, hc0, hcj⟩ := Reads.elem lkc_len hC.links HLL.out hkl
  rw [hA] at c1
  have hk0 : (0 : Int) ≤ (k : Int) := by omega
  have hkN : (k : Int) < (C.links.length : Int) := by omega
  have hl0 := hc0 _ rfl
  have hl2 := hcj 2 _ (by omega) rfl
  clear hc0 hcj hA hadb
  suffices HK : ∀ (a' : Act), a'.tmps.size = a.tmps.size → a'.defers = [] → a'.tmps[2]? = a.tmps[2]? → a'.tmps[3]? = a.tmps[3]? → a'.tmps[4]? = a.tmps[4]? → a'.tmps[9]? = a.tmps[9]? → a'.tmps[11]? = a.tmps[11]? → a'.tmps[12]? = a.tmps[12]? → a'.tmps[13]? = a.tmps[13]? → a'.tmps[22]? = a.tmps[22]? → a'.tmps[23]? = a.tmps[23]? → a'.tmps[24]? = a.tmps[24]? → a'.tmps[10]? = a.tmps[10]? → a'.tmps[8]? = some (.int .i64 z) → Kq2 a' w2 by
    rcases hs01 with rfl | rfl
    all_goals
      refine sm_list [3, 8, 12, 13] 56 10 hs hd (by kernel_rfl) (agC e3 (agU (agC e12 (agC e13 agN)))) rfl ?_
      simp only [seval]
      go_wp2_with fail
      all_goals
        intro a' H
        refine HK a' H.size H.defers (H.out 2 rfl) ((H.got rfl rfl).trans e3.symm) (H.out 4 rfl) (H.out 9 rfl) (H.out 11 rfl) ((H.got rfl rfl).trans e12.symm) ((H.got rfl rfl).trans e13.symm) (H.out 22 rfl) (H.out 23 rfl) (H.out 24 rfl) (H.out 10 rfl) ?_
        · (refine (H.got (t := 8) rfl rfl).trans (congrArg some ?_); refine congrArg (Value.int .i64) ?_; rw [HXYZ.out.2.2]; first | rfl | simp [endX])
  intro a' g_s g_d g2 g3 g4 g9 g11 g12 g13 g22 g23 g24 g10 f8
  replace hs := g_s.trans hs; replace hd := g_d; replace e2 := g2.trans e2; replace e3 := g3.trans e3; replace e4 := g4.trans e4; replace e9 := g9.trans e9; replace e11 := g11.trans e11; replace e12 := g12.trans e12; replace e13 := g13.trans e13; replace e22 := g22.trans e22; replace e23 := g23.trans e23; replace e24 := g24.trans e24; replace e10 := g10.trans e10; clear g_s g_d g2 g3 g4 g9 g11 g12 g13 g22 g23 g24 g10
  have e8 := f8
  clear f8; clear a
  obtain ⟨a, rfl⟩ : ∃ a, a = a' := ⟨_, rfl⟩
  refine hKq2 _ _ ?_; clear hKq2 Kq2; refine wp_seq_k fun Kq3 hKq3 => ?_; refine wp_seq_k fun Kq4 hKq4 => ?_; clear e13; clear c1 hl0 hl2
  obtain ⟨m, hm⟩ : ∃ m : Nat, z = (m : Int) := ⟨z.toNat, by omega⟩
  subst hm
  obtain ⟨nd, hnd⟩ : ∃ nd, C.nodes[m]? = some nd := ⟨_, List.getElem?_eq_getElem (by omega)⟩
  obtain ⟨bd, hD, hbdb, _, hcj⟩ := Reads.elem ndc_len hC.nodes hnd (by omega)
  have h1 := hcj 1 _ (by omega) rfl
  have c0 := BC.cellOf (v := .slice Y.N.A C.nodes.length Y.N.c) 0 rfl
  rw [hD] at c0
  have f2 : w2.cell? ⟨g4, 2 + q, none⟩ = some (.slice A n c) := BF.cellOf (2 + q) HCELL.out
  obtain ⟨As, cs, rfl, hcs, hrs⟩ := ownsRow_reads hW2.rs
  have HCON := Lib.hid (con_any As seen.length cs w2.heap.size seen (m : Int) w2 hrs rfl (by omega))
  have HB : Hid (hopBad C n i seen (m : Int) = (seen.contains (m : Int) || (decide (i + 1 < n) && !nd.br))) := Lib.hid (by unfold hopBad; rw [Int.toNat_natCast, hnd])
  obtain ⟨u, hu⟩ : ∃ u, u = seen.contains (m : Int) := ⟨_, rfl⟩
  rw [← hu] at HCON HB
  clear hu hcj hnd hD hrs hcs
  have hm0 : (0 : Int) ≤ (m : Int) := by omega
  have hmN : (m : Int) < (C.nodes.length : Int) := by omega
  obtain ⟨b, hb⟩ : ∃ b, b = nd.br := ⟨_, rfl⟩
  rw [← hb] at h1 HB
  clear hb
  have hq1 : (q : Int) < 2 := by omega
  have hq0 : (0 : Int) ≤ (q : Int) := by omega
  obtain ⟨R, hR⟩ : ∃ R, R = hopBad C n i seen (m : Int) := ⟨_, rfl⟩
  rw [← hR] at HB
  have HR := Lib.hid hR
  clear hR
  suffices HK : ∀ (a' : Act), a'.tmps.size = a.tmps.size → a'.defers = [] → a'.tmps[2]? = a.tmps[2]? → a'.tmps[3]? = a.tmps[3]? → a'.tmps[4]? = a.tmps[4]? → a'.tmps[9]? = a.tmps[9]? → a'.tmps[11]? = a.tmps[11]? → a'.tmps[12]? = a.tmps[12]? → a'.tmps[22]? = a.tmps[22]? → a'.tmps[23]? = a.tmps[23]? → a'.tmps[24]? = a.tmps[24]? → a'.tmps[10]? = a.tmps[10]? → a'.tmps[8]? = a.tmps[8]? → a'.tmps[87]? = some (.bool R) → Kq4 a' w2 by
    have hlt : decide ((i : Int) < (n : Int) - 1) = decide (i + 1 < n) := decide_eq_decide.2 (by omega)
    obtain ⟨il, hil⟩ : ∃ il, il = decide (i + 1 < n) := ⟨_, rfl⟩
    rw [← hil] at hlt
    have HIL := Lib.hid hil.symm
    clear hil
    have hcase : (u = true) ∨ (u = false ∧ il = false) ∨ (u = false ∧ il = true ∧ b = true) ∨ (u = false ∧ il = true ∧ b = false) := by cases u <;> cases il <;> cases b <;> simp
    rcases hcase with rfl | ⟨rfl, rfl⟩ | ⟨rfl, rfl, rfl⟩ | ⟨rfl, rfl, rfl⟩
    all_goals
      refine sm_list [2, 3, 4, 8, 9, 11] 66 22 hs hd (by kernel_rfl) (agC e2 (agC e3 (agC e4 (agC e8 (agC e9 (agC e11 agN)))))) rfl ?_
      simp only [seval]
      go_wp2_with fail
      refine HCON.out.mono ?_
      rintro e w4 ⟨rfl, rfl⟩
      go_wp2_with fail
      all_goals
        intro a' H
        refine HK a' H.size H.defers ((H.got rfl rfl).trans e2.symm) ((H.got rfl rfl).trans e3.symm) ((H.got rfl rfl).trans e4.symm) ((H.got rfl rfl).trans e9.symm) ((H.got rfl rfl).trans e11.symm) (H.out 12 rfl) (H.out 22 rfl) (H.out 23 rfl) (H.out 24 rfl) (H.out 10 rfl) ((H.got rfl rfl).trans e8.symm) ?_
        · (refine (H.got (t := 87) rfl rfl).trans (congrArg some ?_); refine congrArg Value.bool ?_; rw [HB.out]; first | rfl | (rw [HIL.out]; rfl) | (cases b <;> first | rfl | (rw [HIL.out]; rfl)))
  intro a' g_s g_d g2 g3 g4 g9 g11 g12 g22 g23 g24 g10 g8 f87
  replace hs := g_s.trans hs; replace hd := g_d; replace e2 := g2.trans e2; replace e3 := g3.trans e3; replace e4 := g4.trans e4; replace e9 := g9.trans e9; replace e11 := g11.trans e11; replace e12 := g12.trans e12; replace e22 := g22.trans e22; replace e23 := g23.trans e23; replace e24 := g24.trans e24; replace e10 := g10.trans e10; replace e8 := g8.trans e8; clear g_s g_d g2 g3 g4 g9 g11 g12 g22 g23 g24 g10 g8
  have e87 := f87
  clear f87; clear a
  obtain ⟨a, rfl⟩ : ∃ a, a = a' := ⟨_, rfl⟩
  refine hKq4 _ _ ?_; clear hKq4 Kq4; clear e11; clear e12; clear c0 h1 f2 HCON
  cases R
  ·
    refine wp_cond_false (slotE e87) ?_
    clear e87; refine wp_skip ?_; refine hKq3 _ _ ?_; clear hKq3 Kq3; refine wp_seq_k fun Kq5 hKq5 => ?_
    have HW := Lib.hid hW2.rs
    refine sm_list [8, 9] 88 4 hs hd (by kernel_rfl) (agC e8 (agC e9 agN)) rfl ?_
    simp only [seval]
    go_wp2_with (first | (at_builtin; refine wpList_pushG 1 rfl (.tmp 2) (.tmp 4) 36 rfl sty_int (wr := w2) (cs := #[.int .i64 (m : Int)]) rfl (by intro u hu; simp at hu; rcases hu with rfl; rfl) (v := .slice As seen.length cs) rfl HW.out rfl rfl (by omega) hz2 ?_; intro v3 w3 own3 gr3 mv3) | fail)
    intro a H; replace hs := H.s hs; replace hd := H.d rfl; replace e8 := H.g 8 rfl rfl; replace e2 := H.k e2 rfl; replace e3 := H.k e3 rfl; replace e4 := H.k e4 rfl; replace e22 := H.k e22 rfl; replace e23 := H.k e23 rfl; replace e24 := H.k e24 rfl; replace e10 := H.k e10 rfl; replace e9 := H.g 9 rfl rfl; clear H; refine hKq5 _ _ ?_; clear hKq5 Kq5
    have b3 : Below B0 w2 w3 := below_of_grown gr3 hW2.rs hz2
    have hW3 : WayAt w3 B0 v3 v2 (seen ++ [(m : Int)]) (out ++ [(x, y)]) := hW2.pushS gr3 mv3 own3
    refine wp_exit ?_
    obtain ⟨hx, hy, hz⟩ := HXYZ.out
    rw [hz] at e8 hW3
    rw [hx, hy] at hW3
    have hbad := HR.out.symm
    rw [hz] at hbad
    exact HEND.out.1 a w3 _ _ hs hd e2 e3 e4 e22 e23 e24 e8 e9 e10 (b2.trans b3) hW3 hbad
  · have hbad := HR.out.symm
    rw [HXYZ.out.2.2] at hbad
    have HBAD := Lib.hid hbad
    clear hbad
    refine wp_cond_true (slotE e87) ?_
    clear e87; refine wp_seq_k fun Kq5 hKq5 => ?_
    refine sm_list [] 6 2 hs hd (by kernel_rfl) agN rfl ?_
    simp only [seval]
    go_wp2_with fail
    intro a H; replace hs := H.s hs; replace hd := H.d rfl; replace e2 := H.k e2 rfl; replace e3 := H.k e3 rfl; replace e4 := H.k e4 rfl; replace e9 := H.k e9 rfl; replace e22 := H.k e22 rfl; replace e23 := H.k e23 rfl; replace e24 := H.k e24 rfl; replace e10 := H.k e10 rfl; replace e8 := H.k e8 rfl; have e6 := H.g 6 rfl rfl; have e7 := H.g 7 rfl rfl; clear H; refine hKq5 _ _ ?_; clear hKq5 Kq5; refine wp_ret ?_
    refine exit_then rfl ?_
    exact HEND.out.2 a w2 hs hd e6 e7 b2 HBAD.out
end Go.Proofs.Ytaegngcbiefckaa
