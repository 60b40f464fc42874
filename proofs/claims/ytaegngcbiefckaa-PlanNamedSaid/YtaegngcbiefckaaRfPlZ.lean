/-
  The network as the reference has it is made.
-/
import Derived.Test.YtaegngcbiefckaaRfX
namespace Go.Proofs.Ytaegngcbiefckaa
set_option linter.unusedSimpArgs false
set_option linter.unusedVariables false
open Go.RowKit Go.WideShapes Go.ChangeShapes
attribute [local go_sem ↓] Go.wp_at_zero Go.wp_at_succ

set_option maxRecDepth 100000 in
set_option maxHeartbeats 4000000 in
theorem plain_any (C : Cf) (Y : Lay) (w : World) (hC : CfAt w w.heap.size C Y) (hn : C.nodes.length ≤ 20 ∧ C.links.length ≤ 70 ∧ C.flows.length ≤ 20) : Calls Try.prog 12 #[.agg (cfc C Y)] w fun e w' => ∃ R, e = .returned (.agg (rfc C R)) ∧ RfAt w' w'.heap.size C R ∧ Below w.heap.size w w' := by
  obtain ⟨hn1, hn2, hn3⟩ := hn
  refine calls_sm (N := 112) Try.func12 rfl (by kernel_rfl) ?_
  intro a hs hd ha
  have e0 : a.tmps[0]? = some (.agg (cfc C Y)) := ha 0 _ rfl
  clear ha
  conv => arg 2; whnf
  refine wp_seq_k fun Kq1 hKq1 => ?_
  refine sm_list [0] 1 2 hs hd (by kernel_rfl) (agC e0 agN) rfl ?_
  simp only [seval]
  go_wp2_with fail
  intro a H; replace hs := H.s hs; replace hd := H.d rfl; clear e0; have e1 := H.g 1 rfl rfl; have e2 := H.g 2 rfl rfl; clear H; refine hKq1 _ _ ?_; clear hKq1 Kq1; refine wp_seq_k fun Kq2 hKq2 => ?_
  have BC := (Blk.new w 26 (cfc C Y)).alloc (.cells #[.slice none 0 0, .slice none 0 0, .slice none 0 0, .slice none 0 0, .slice none 0 0, .int .i64 0, .int .i64 0, .int .i64 0, .int .i64 0, .int .i64 0] 42)
  have B2 := Blk.new (w.alloc (.cells (cfc C Y) 26)) 42 #[.slice none 0 0, .slice none 0 0, .slice none 0 0, .slice none 0 0, .slice none 0 0, .int .i64 0, .int .i64 0, .int .i64 0, .int .i64 0, .int .i64 0]
  have L0 : Below w.heap.size w ((w.alloc (.cells (cfc C Y) 26)).alloc (.cells #[.slice none 0 0, .slice none 0 0, .slice none 0 0, .slice none 0 0, .slice none 0 0, .int .i64 0, .int .i64 0, .int .i64 0, .int .i64 0, .int .i64 0] 42)) := ((Below.refl _ _).alloc (Nat.le_refl _) _).alloc (by simp) _
  obtain ⟨g2, hg2⟩ : ∃ g, g = (w.alloc (.cells (cfc C Y) 26)).heap.size := ⟨_, rfl⟩
  have e2q : a.tmps[2]? = some (.pointer (some ⟨g2, 0, none⟩)) := by rw [hg2]; simpa using e2
  replace e2 := e2q
  clear e2q
  have hL2 : w.heap.size ≤ g2 := by rw [hg2]; simp
  rw [← hg2] at B2
  clear hg2
  generalize ((w.alloc (.cells (cfc C Y) 26)).alloc (.cells #[.slice none 0 0, .slice none 0 0, .slice none 0 0, .slice none 0 0, .slice none 0 0, .int .i64 0, .int .i64 0, .int .i64 0, .int .i64 0, .int .i64 0] 42)) = w1 at *
  obtain ⟨L, hL⟩ : ∃ B, B = w.heap.size := ⟨_, rfl⟩
  rw [← hL] at L0 hL2 e1 BC
  have HLL := Lib.hid hL
  clear hL
  have HC := Lib.hid hC
  clear hC
  have hL1 : L < w1.heap.size := BC.lt
  have hg2z : g2 < w1.heap.size := B2.lt
  have c3 := BC.cellOf (v := .int .i64 C.cycle) 3 rfl
  have c4 := BC.cellOf (v := .int .i64 C.every) 4 rfl
  have c5 := BC.cellOf (v := .int .i64 C.ppm) 5 rfl
  have c6 := BC.cellOf (v := .int .i64 C.grain) 6 rfl
  have c7 := BC.cellOf (v := .int .i64 C.proc) 7 rfl
  refine sm_list [1, 3] 10 12 hs hd (by kernel_rfl) (agC e1 (agU agN)) rfl ?_
  simp only [seval]
  go_wp2_with (first | (refine wpList_store_new rfl 42 (.tmp 1) (.tmp 13) rfl rfl rfl rfl rfl (by kernel_rfl) (by rw [← Array.all_toList]; rfl) ?_) | fail)
  intro a H; replace hs := H.s hs; replace hd := H.d rfl; replace e1 := H.g 1 rfl rfl; replace e2 := H.k e2 rfl; have e3 := H.g 3 rfl rfl; clear H; refine hKq2 _ _ ?_; clear hKq2 Kq2; refine wp_seq_k fun Kq3 hKq3 => ?_; refine wp_seq_k fun Kq4 hKq4 => ?_; clear c3 c4 c5 c6 c7
  have R3 : RAll (w1.alloc (.cells #[.slice none 0 0, .slice none 0 0, .slice none 0 0, .slice none 0 0, .slice none 0 0, .int .i64 C.cycle, .int .i64 C.every, .int .i64 C.ppm, .int .i64 C.grain, .int .i64 C.proc] 42)) w1.heap.size C Y (.slice none 0 0) (.slice none 0 0) (.slice none 0 0) (.slice none 0 0) (.slice none 0 0) 0 0 0 0 0 := RAll.start w1 C Y
  have L1 : Below w1.heap.size w1 (w1.alloc (.cells #[.slice none 0 0, .slice none 0 0, .slice none 0 0, .slice none 0 0, .slice none 0 0, .int .i64 C.cycle, .int .i64 C.every, .int .i64 C.ppm, .int .i64 C.grain, .int .i64 C.proc] 42)) := (Below.refl _ _).alloc (Nat.le_refl _) _
  generalize (w1.alloc (.cells #[.slice none 0 0, .slice none 0 0, .slice none 0 0, .slice none 0 0, .slice none 0 0, .int .i64 C.cycle, .int .i64 C.every, .int .i64 C.ppm, .int .i64 C.grain, .int .i64 C.proc] 42)) = w3 at *
  obtain ⟨g3, hg3⟩ : ∃ g, g = w1.heap.size := ⟨_, rfl⟩
  have hL3 : L < g3 := by rw [hg3]; exact hL1
  have hg23 : g2 < g3 := by rw [hg3]; exact hg2z
  have BC3 := BC.kept L1
  have B23 := B2.kept L1
  rw [← hg3] at R3 L1 e3
  clear hg3 BC B2 hL1 hg2z
  have L3 : Below L w w3 := by
    have h1 := HLL.out
    exact L0.trans (L1.mono (Nat.le_of_lt hL3))
  clear L0 L1
  have c0 := BC3.cellOf (v := .slice Y.N.A C.nodes.length Y.N.c) 0 rfl
  have c1 := BC3.cellOf (v := .slice Y.L.A C.links.length Y.L.c) 1 rfl
  have c2 := BC3.cellOf (v := .slice Y.F.A C.flows.length Y.F.c) 2 rfl
  refine sm_list [1] 22 4 hs hd (by kernel_rfl) (agC e1 agN) rfl ?_
  simp only [seval]
  go_wp2_with fail
  intro a H; replace hs := H.s hs; replace hd := H.d rfl; replace e1 := H.g 1 rfl rfl; replace e2 := H.k e2 rfl; replace e3 := H.k e3 rfl; have e23 := H.g 23 rfl rfl; have e24 := H.g 24 rfl rfl; have e25 := H.g 25 rfl rfl; clear H; refine hKq4 _ _ ?_; clear hKq4 Kq4; refine wp_block ?_
  skip
  refine wp_loop (fun a w' => ∃ (j : Nat) (q0 q1 : Value), j ≤ C.nodes.length ∧ a.tmps.size = 112 ∧ a.defers = [] ∧ a.tmps[1]? = some (.pointer (some ⟨L, 0, none⟩)) ∧ a.tmps[2]? = some (.pointer (some ⟨g2, 0, none⟩)) ∧ a.tmps[3]? = some (.pointer (some ⟨g3, 0, none⟩)) ∧ a.tmps[23]? = some (.slice Y.N.A C.nodes.length Y.N.c) ∧ a.tmps[24]? = some (.int .i64 (C.nodes.length : Int)) ∧ a.tmps[25]? = some (.int .i64 (j : Int)) ∧ RAll w' g3 C Y q0 q1 (.slice none 0 0) (.slice none 0 0) (.slice none 0 0) j j 0 0 0 ∧ Below g3 w3 w') (fun a _ => C.nodes.length - (intOf (a.tmps.getD 25 undef)).toNat) ?_ ?_
  · exact ⟨0, _, _, Nat.zero_le _, hs, hd, e1, e2, e3, e23, e24, e25, R3, Below.refl _ _⟩
  clear hs hd e25 e1 e2 e3 e23 e24 a R3
  rintro a w4 ⟨j, q0, q1, hj, hs, hd, e1, e2, e3, e23, e24, e25, R4, hb4⟩
  have hm := slot e25
  refine wp_seq_k fun Kq5 hKq5 => ?_
  by_cases hlt : j < C.nodes.length
  ·
    have dj : decide ((j : Int) < (C.nodes.length : Int)) = true := decide_eq_true (by omega)
    obtain ⟨x, hxi⟩ : ∃ x, C.nodes[j]? = some x := ⟨_, List.getElem?_eq_getElem hlt⟩
    obtain ⟨ad, hA, hadb, hcl⟩ := reads_at ndc_len (((HC.out.below (by have h1 := HLL.out; rw [← h1]; exact L3)).nodes).below (by have h1 := HLL.out; rw [← h1]; exact hb4.mono (Nat.le_of_lt hL3))) hxi hlt
    have HXI := Lib.hid hxi
    have HCL := Lib.hid hcl
    have HA := Lib.hid hA
    clear hxi hcl hA
    rw [HA.out] at e23
    have hz4 : g3 < w4.heap.size := R4.B.lt
    refine sm_list [24, 25] 26 1 hs hd (by kernel_rfl) (agC e24 (agC e25 agN)) rfl ?_
    simp only [seval]
    go_wp2_with fail
    intro a H; replace hs := H.s hs; replace hd := H.d rfl; replace e24 := H.g 24 rfl rfl; replace e25 := H.g 25 rfl rfl; replace e1 := H.k e1 rfl; replace e2 := H.k e2 rfl; replace e3 := H.k e3 rfl; replace e23 := H.k e23 rfl; have e26 := H.g 26 rfl rfl; clear H; refine hKq5 _ _ ?_; clear hKq5 Kq5; refine wp_seq_k fun Kq6 hKq6 => ?_
    refine wp_cond_true (slotE e26) ?_
    clear e26; refine wp_skip ?_; refine hKq6 _ _ ?_; clear hKq6 Kq6; refine wp_seq_k fun Kq7 hKq7 => ?_; refine wp_block ?_; refine wp_seq_k fun Kq8 hKq8 => ?_
    have R5 := R4.keep ((Below.refl w4.heap.size w4).alloc (Nat.le_refl _) (.cells #[.int .i64 x.ports, .bool x.br] 55))
    have B9 := Blk.new w4 55 #[.int .i64 x.ports, .bool x.br]
    have hb5 : Below g3 w3 (w4.alloc (.cells #[.int .i64 x.ports, .bool x.br] 55)) := hb4.alloc (Nat.le_of_lt hz4) _
    clear R4 hb4
    refine sm_list [5, 23, 25] 27 2 hs hd (by kernel_rfl) (agU (agC e23 (agC e25 agN))) rfl ?_
    simp only [seval]
    go_wp2_with (first | (refine wpList_load_any_d rfl 55 (.tmp 3) rfl (ad.add (j * 2)) rfl (#[.int .i64 x.ports, .bool x.br]) _ (fun j u hu => HCL.out j u hu) Try.underlying55 rfl (by kernel_rfl) ?_) | (refine wpList_store_new rfl 55 (.tmp 0) (.tmp 4) rfl rfl rfl rfl rfl (by kernel_rfl) (by rw [← Array.all_toList]; rfl) ?_) | fail)
    intro a H; replace hs := H.s hs; replace hd := H.d rfl; replace e23 := H.g 23 rfl rfl; replace e25 := H.g 25 rfl rfl; replace e1 := H.k e1 rfl; replace e2 := H.k e2 rfl; replace e3 := H.k e3 rfl; replace e24 := H.k e24 rfl; have e5 := H.g 5 rfl rfl; clear H; refine hKq8 _ _ ?_; clear hKq8 Kq8; refine wp_seq_k fun Kq9 hKq9 => ?_
    rw [← HA.out] at e23
    generalize w4.alloc (.cells #[.int .i64 x.ports, .bool x.br] 55) = w5 at *
    obtain ⟨g9, hg9⟩ : ∃ g, g = w4.heap.size := ⟨_, rfl⟩
    rw [← hg9] at B9 e5 hz4
    clear hg9
    have x0 := B9.cellOf (v := .int .i64 x.ports) 0 rfl
    have k0 := R5.B.cellOf (v := q0) 0 rfl
    have HR := Lib.hid R5
    have hz6 : g3 < w5.heap.size := R5.B.lt
    have B9n : q0.ownBlock ≠ some g9 := own_blk_ne R5.rows.1 B9 (by decide)
    have HB9 := Lib.hid B9
    have HB9n := Lib.hid B9n
    clear B9n R5
    refine sm_list [3, 5] 29 7 hs hd (by kernel_rfl) (agC e3 (agC e5 agN)) rfl ?_
    simp only [seval]
    go_wp2_with (first | (at_builtin; refine wpList_pushG 1 rfl (.tmp 3) (.tmp 6) 36 rfl rsI (wr := w5) (cs := #[.int .i64 x.ports]) rfl (by intro u hu; simp at hu; subst hu; rfl) (v := q0) rfl HR.out.rows.1 rfl rfl (by omega) HR.out.B.lt ?_; intro v2 w6 own2 gr2 mv2; obtain ⟨Bx, SX, bx⟩ := HR.out.pushP HXI.out own2 gr2 mv2; obtain ⟨Av, cv, rfl, _, _⟩ := ownsRow_reads own2; have fz := Bx.frozen; have xl := Bx.lt; have xc := Bx.cellOf (v := q0) 0 rfl; have SX := Lib.hid SX; have bx := Lib.hid bx; have B9y := Lib.hid ((HB9.out.grown gr2 (Ne.symm HB9n.out)).far (p := ⟨g3, 0, none⟩) (by show g9 ≠ g3; omega) (.slice Av (j + 1) cv)); clear own2 gr2 mv2 Bx) | fail)
    intro a H; replace hs := H.s hs; replace hd := H.d rfl; replace e3 := H.g 3 rfl rfl; replace e5 := H.g 5 rfl rfl; replace e1 := H.k e1 rfl; replace e2 := H.k e2 rfl; replace e23 := H.k e23 rfl; replace e24 := H.k e24 rfl; replace e25 := H.k e25 rfl; clear H; refine hKq9 _ _ ?_; clear hKq9 Kq9; clear fz xl xc k0 hz6 HR x0
    have B9 := B9y.out
    have R7 := SX.out
    replace hb5 := hb5.trans bx.out
    clear B9y HB9 HB9n SX bx
    generalize hsv : Value.slice Av (j + 1) cv = q0n at *
    clear hsv
    generalize w6.setCell ⟨g3, 0, none⟩ q0n = w7 at *
    have x1 := B9.cellOf (v := .bool x.br) 1 rfl
    have k1 := R7.B.cellOf (v := q1) 1 rfl
    have HR := Lib.hid R7
    have hz6 : g3 < w7.heap.size := R7.B.lt
    have B9n : q1.ownBlock ≠ some g9 := own_blk_ne R7.rows.2.1 B9 (by decide)
    have HB9 := Lib.hid B9
    have HB9n := Lib.hid B9n
    clear B9n R7
    refine sm_list [3, 5] 36 7 hs hd (by kernel_rfl) (agC e3 (agC e5 agN)) rfl ?_
    simp only [seval]
    go_wp2_with (first | (at_builtin; refine wpList_pushG 1 rfl (.tmp 3) (.tmp 6) 37 rfl rsB (wr := w7) (cs := #[.bool x.br]) rfl (by intro u hu; simp at hu; subst hu; rfl) (v := q1) rfl HR.out.rows.2.1 rfl rfl (by omega) HR.out.B.lt ?_; intro v2 w8 own2 gr2 mv2; obtain ⟨Bx, SX, bx⟩ := HR.out.pushB HXI.out own2 gr2 mv2; obtain ⟨Av, cv, rfl, _, _⟩ := ownsRow_reads own2; have fz := Bx.frozen; have xl := Bx.lt; have xc := Bx.cellOf (v := q1) 1 rfl; have SX := Lib.hid SX; have bx := Lib.hid bx; have B9y := Lib.hid ((HB9.out.grown gr2 (Ne.symm HB9n.out)).far (p := ⟨g3, 1, none⟩) (by show g9 ≠ g3; omega) (.slice Av (j + 1) cv)); clear own2 gr2 mv2 Bx) | fail)
    intro a H; replace hs := H.s hs; replace hd := H.d rfl; replace e3 := H.g 3 rfl rfl; replace e5 := H.g 5 rfl rfl; replace e1 := H.k e1 rfl; replace e2 := H.k e2 rfl; replace e23 := H.k e23 rfl; replace e24 := H.k e24 rfl; replace e25 := H.k e25 rfl; clear H; refine hKq7 _ _ ?_; clear hKq7 Kq7; clear fz xl xc k1 hz6 HR x1
    have B9 := B9y.out
    have R9 := SX.out
    replace hb5 := hb5.trans bx.out
    clear B9y HB9 HB9n SX bx
    generalize hsv : Value.slice Av (j + 1) cv = q1n at *
    clear hsv
    generalize w8.setCell ⟨g3, 1, none⟩ q1n = w9 at *
    refine sm_list [25] 43 1 hs hd (by kernel_rfl) (agC e25 agN) rfl ?_
    simp only [seval]
    go_wp2_with fail
    intro a H; replace hs := H.s hs; replace hd := H.d rfl; replace e1 := H.k e1 rfl; replace e2 := H.k e2 rfl; replace e3 := H.k e3 rfl; replace e23 := H.k e23 rfl; replace e24 := H.k e24 rfl; replace e5 := H.k e5 rfl; replace e25 := H.g 25 rfl rfl; clear H
    exact ⟨⟨j + 1, q0n, q1n, by omega, hs, hd, e1, e2, e3, e23, e24, e25, R9, hb5⟩, by first | (simp only [hm, slot e25, intOf]; omega) | (simp [e25, intOf]; omega)⟩
  ·
    have hjn : j = C.nodes.length := by omega
    have dj : decide ((j : Int) < (C.nodes.length : Int)) = false := decide_eq_false (by omega)
    clear hlt hm
    refine sm_list [24, 25] 26 1 hs hd (by kernel_rfl) (agC e24 (agC e25 agN)) rfl ?_
    simp only [seval]
    go_wp2_with fail
    intro a H; replace hs := H.s hs; replace hd := H.d rfl; replace e24 := H.g 24 rfl rfl; replace e25 := H.g 25 rfl rfl; replace e1 := H.k e1 rfl; replace e2 := H.k e2 rfl; replace e3 := H.k e3 rfl; replace e23 := H.k e23 rfl; have e26 := H.g 26 rfl rfl; clear H; refine hKq5 _ _ ?_; clear hKq5 Kq5; refine wp_seq_k fun Kq6 hKq6 => ?_
    refine wp_cond_false (slotE e26) ?_
    clear e26; refine wp_exit ?_; refine exit_then rfl ?_; clear hKq6 Kq6; refine exit_then rfl ?_; refine exit_hit ?_; refine hKq3 _ _ ?_; clear hKq3 Kq3; refine wp_seq_k fun Kq7 hKq7 => ?_; refine wp_seq_k fun Kq8 hKq8 => ?_; clear e23; clear e24; clear e25
    rw [hjn] at R4
    clear dj hj hjn
    have R3 := R4
    have hbq := hb4
    clear R4 hb4
    obtain ⟨wq, hwx⟩ : ∃ w, w = w4 := ⟨_, rfl⟩
    rw [← hwx] at R3 hbq
    subst hwx
    have L4 : Below L w wq := L3.trans (hbq.mono (Nat.le_of_lt hL3))
    have BC4 := BC3.below hbq hL3
    have B24 := B23.below hbq hg23
    clear L3 BC3 B23 hbq c0 c1 c2
    have c1 := BC4.cellOf (v := .slice Y.L.A C.links.length Y.L.c) 1 rfl
    refine sm_list [1] 44 4 hs hd (by kernel_rfl) (agC e1 agN) rfl ?_
    simp only [seval]
    go_wp2_with fail
    intro a H; replace hs := H.s hs; replace hd := H.d rfl; replace e1 := H.g 1 rfl rfl; replace e2 := H.k e2 rfl; replace e3 := H.k e3 rfl; have e45 := H.g 45 rfl rfl; have e46 := H.g 46 rfl rfl; have e47 := H.g 47 rfl rfl; clear H; refine hKq8 _ _ ?_; clear hKq8 Kq8; refine wp_block ?_
    skip
    refine wp_loop (fun a w' => ∃ (j : Nat) (q2 : Value), j ≤ C.links.length ∧ a.tmps.size = 112 ∧ a.defers = [] ∧ a.tmps[1]? = some (.pointer (some ⟨L, 0, none⟩)) ∧ a.tmps[2]? = some (.pointer (some ⟨g2, 0, none⟩)) ∧ a.tmps[3]? = some (.pointer (some ⟨g3, 0, none⟩)) ∧ a.tmps[45]? = some (.slice Y.L.A C.links.length Y.L.c) ∧ a.tmps[46]? = some (.int .i64 (C.links.length : Int)) ∧ a.tmps[47]? = some (.int .i64 (j : Int)) ∧ RAll w' g3 C Y q0 q1 q2 (.slice none 0 0) (.slice none 0 0) C.nodes.length C.nodes.length j 0 0 ∧ Below g3 wq w') (fun a _ => C.links.length - (intOf (a.tmps.getD 47 undef)).toNat) ?_ ?_
    · exact ⟨0, _, Nat.zero_le _, hs, hd, e1, e2, e3, e45, e46, e47, R3, Below.refl _ _⟩
    clear hs hd e47 e1 e2 e3 e45 e46 a R3
    rintro a w4 ⟨j, q2, hj, hs, hd, e1, e2, e3, e45, e46, e47, R4, hb4⟩
    have hm := slot e47
    refine wp_seq_k fun Kq9 hKq9 => ?_
    by_cases hlt : j < C.links.length
    ·
      have dj : decide ((j : Int) < (C.links.length : Int)) = true := decide_eq_true (by omega)
      obtain ⟨x, hxi⟩ : ∃ x, C.links[j]? = some x := ⟨_, List.getElem?_eq_getElem hlt⟩
      obtain ⟨ad, hA, hadb, hcl⟩ := reads_at lkc_len (((HC.out.below (by have h1 := HLL.out; rw [← h1]; exact L4)).links).below (by have h1 := HLL.out; rw [← h1]; exact hb4.mono (Nat.le_of_lt hL3))) hxi hlt
      have HXI := Lib.hid hxi
      have HCL := Lib.hid hcl
      have HA := Lib.hid hA
      clear hxi hcl hA
      rw [HA.out] at e45
      have hz4 : g3 < w4.heap.size := R4.B.lt
      refine sm_list [46, 47] 48 1 hs hd (by kernel_rfl) (agC e46 (agC e47 agN)) rfl ?_
      simp only [seval]
      go_wp2_with fail
      intro a H; replace hs := H.s hs; replace hd := H.d rfl; replace e46 := H.g 46 rfl rfl; replace e47 := H.g 47 rfl rfl; replace e1 := H.k e1 rfl; replace e2 := H.k e2 rfl; replace e3 := H.k e3 rfl; replace e45 := H.k e45 rfl; have e48 := H.g 48 rfl rfl; clear H; refine hKq9 _ _ ?_; clear hKq9 Kq9; refine wp_seq_k fun Kq10 hKq10 => ?_
      refine wp_cond_true (slotE e48) ?_
      clear e48; refine wp_skip ?_; refine hKq10 _ _ ?_; clear hKq10 Kq10; refine wp_seq_k fun Kq11 hKq11 => ?_; refine wp_block ?_; refine wp_seq_k fun Kq12 hKq12 => ?_
      have R5 := R4.keep ((Below.refl w4.heap.size w4).alloc (Nat.le_refl _) (.cells #[.int .i64 x.n0, .int .i64 x.p0, .int .i64 x.n1, .int .i64 x.p1, .int .i64 x.lo, .int .i64 x.hi] 80))
      have B9 := Blk.new w4 80 #[.int .i64 x.n0, .int .i64 x.p0, .int .i64 x.n1, .int .i64 x.p1, .int .i64 x.lo, .int .i64 x.hi]
      have hb5 : Below g3 wq (w4.alloc (.cells #[.int .i64 x.n0, .int .i64 x.p0, .int .i64 x.n1, .int .i64 x.p1, .int .i64 x.lo, .int .i64 x.hi] 80)) := hb4.alloc (Nat.le_of_lt hz4) _
      clear R4 hb4
      refine sm_list [7, 45, 47] 49 2 hs hd (by kernel_rfl) (agU (agC e45 (agC e47 agN))) rfl ?_
      simp only [seval]
      go_wp2_with (first | (refine wpList_load_any_d rfl 80 (.tmp 3) rfl (ad.add (j * 6)) rfl (#[.int .i64 x.n0, .int .i64 x.p0, .int .i64 x.n1, .int .i64 x.p1, .int .i64 x.lo, .int .i64 x.hi]) _ (fun j u hu => HCL.out j u hu) Try.underlying80 rfl (by kernel_rfl) ?_) | (refine wpList_store_new rfl 80 (.tmp 0) (.tmp 4) rfl rfl rfl rfl rfl (by kernel_rfl) (by rw [← Array.all_toList]; rfl) ?_) | fail)
      intro a H; replace hs := H.s hs; replace hd := H.d rfl; replace e45 := H.g 45 rfl rfl; replace e47 := H.g 47 rfl rfl; replace e1 := H.k e1 rfl; replace e2 := H.k e2 rfl; replace e3 := H.k e3 rfl; replace e46 := H.k e46 rfl; have e7 := H.g 7 rfl rfl; clear H; refine hKq12 _ _ ?_; clear hKq12 Kq12
      rw [← HA.out] at e45
      generalize w4.alloc (.cells #[.int .i64 x.n0, .int .i64 x.p0, .int .i64 x.n1, .int .i64 x.p1, .int .i64 x.lo, .int .i64 x.hi] 80) = w5 at *
      obtain ⟨g9, hg9⟩ : ∃ g, g = w4.heap.size := ⟨_, rfl⟩
      rw [← hg9] at B9 e7 hz4
      clear hg9
      have x0 := B9.cellOf (v := .int .i64 x.n0) 0 rfl
      have x1 := B9.cellOf (v := .int .i64 x.p0) 1 rfl
      have x2 := B9.cellOf (v := .int .i64 x.n1) 2 rfl
      have x3 := B9.cellOf (v := .int .i64 x.p1) 3 rfl
      have x4 := B9.cellOf (v := .int .i64 x.lo) 4 rfl
      have x5 := B9.cellOf (v := .int .i64 x.hi) 5 rfl
      have k2 := R5.B.cellOf (v := q2) 2 rfl
      have HR := Lib.hid R5
      have hz6 : g3 < w5.heap.size := R5.B.lt
      have B9n : q2.ownBlock ≠ some g9 := own_blk_ne R5.rows.2.2.1 B9 (by decide)
      have HB9 := Lib.hid B9
      have HB9n := Lib.hid B9n
      clear B9n R5
      refine sm_list [3, 7] 51 26 hs hd (by kernel_rfl) (agC e3 (agC e7 agN)) rfl ?_
      simp only [seval]
      go_wp2_with (first | (at_builtin; refine wpList_pushG 1 rfl (.tmp 3) (.tmp 25) 38 rfl rsL (wr := w5) (cs := #[.int .i64 x.n0, .int .i64 x.p0, .int .i64 x.n1, .int .i64 x.p1, .int .i64 x.lo, .int .i64 x.hi]) rfl (by intro u hu; simp at hu; rcases hu with rfl | rfl | rfl | rfl | rfl | rfl <;> rfl) (v := q2) rfl HR.out.rows.2.2.1 rfl rfl (by omega) HR.out.B.lt ?_; intro v2 w6 own2 gr2 mv2; obtain ⟨Bx, SX, bx⟩ := HR.out.pushL HXI.out own2 gr2 mv2; obtain ⟨Av, cv, rfl, _, _⟩ := ownsRow_reads own2; have fz := Bx.frozen; have xl := Bx.lt; have xc := Bx.cellOf (v := q2) 2 rfl; have SX := Lib.hid SX; have bx := Lib.hid bx; have B9y := Lib.hid ((HB9.out.grown gr2 (Ne.symm HB9n.out)).far (p := ⟨g3, 2, none⟩) (by show g9 ≠ g3; omega) (.slice Av (j + 1) cv)); clear own2 gr2 mv2 Bx) | fail)
      intro a H; replace hs := H.s hs; replace hd := H.d rfl; replace e3 := H.g 3 rfl rfl; replace e7 := H.g 7 rfl rfl; replace e1 := H.k e1 rfl; replace e2 := H.k e2 rfl; replace e45 := H.k e45 rfl; replace e46 := H.k e46 rfl; replace e47 := H.k e47 rfl; clear H; refine hKq11 _ _ ?_; clear hKq11 Kq11; clear fz xl xc k2 hz6 HR x0 x1 x2 x3 x4 x5
      have B9 := B9y.out
      have R7 := SX.out
      replace hb5 := hb5.trans bx.out
      clear B9y HB9 HB9n SX bx
      generalize hsv : Value.slice Av (j + 1) cv = q2n at *
      clear hsv
      generalize w6.setCell ⟨g3, 2, none⟩ q2n = w7 at *
      refine sm_list [47] 77 1 hs hd (by kernel_rfl) (agC e47 agN) rfl ?_
      simp only [seval]
      go_wp2_with fail
      intro a H; replace hs := H.s hs; replace hd := H.d rfl; replace e1 := H.k e1 rfl; replace e2 := H.k e2 rfl; replace e3 := H.k e3 rfl; replace e45 := H.k e45 rfl; replace e46 := H.k e46 rfl; replace e7 := H.k e7 rfl; replace e47 := H.g 47 rfl rfl; clear H
      exact ⟨⟨j + 1, q2n, by omega, hs, hd, e1, e2, e3, e45, e46, e47, R7, hb5⟩, by first | (simp only [hm, slot e47, intOf]; omega) | (simp [e47, intOf]; omega)⟩
    ·
      have hjn : j = C.links.length := by omega
      have dj : decide ((j : Int) < (C.links.length : Int)) = false := decide_eq_false (by omega)
      clear hlt hm
      refine sm_list [46, 47] 48 1 hs hd (by kernel_rfl) (agC e46 (agC e47 agN)) rfl ?_
      simp only [seval]
      go_wp2_with fail
      intro a H; replace hs := H.s hs; replace hd := H.d rfl; replace e46 := H.g 46 rfl rfl; replace e47 := H.g 47 rfl rfl; replace e1 := H.k e1 rfl; replace e2 := H.k e2 rfl; replace e3 := H.k e3 rfl; replace e45 := H.k e45 rfl; have e48 := H.g 48 rfl rfl; clear H; refine hKq9 _ _ ?_; clear hKq9 Kq9; refine wp_seq_k fun Kq10 hKq10 => ?_
      refine wp_cond_false (slotE e48) ?_
      clear e48; refine wp_exit ?_; refine exit_then rfl ?_; clear hKq10 Kq10; refine exit_then rfl ?_; refine exit_hit ?_; refine hKq7 _ _ ?_; clear hKq7 Kq7; refine wp_seq_k fun Kq11 hKq11 => ?_; refine wp_seq_k fun Kq12 hKq12 => ?_; clear e45; clear e46; clear e47
      rw [hjn] at R4
      clear dj hj hjn
      have R3 := R4
      have hbr := hb4
      clear R4 hb4
      obtain ⟨wr, hwx⟩ : ∃ w, w = w4 := ⟨_, rfl⟩
      rw [← hwx] at R3 hbr
      subst hwx
      have L5 : Below L w wr := L4.trans (hbr.mono (Nat.le_of_lt hL3))
      have BC5 := BC4.below hbr hL3
      have B25 := B24.below hbr hg23
      clear L4 BC4 B24 hbr c1
      have c2 := BC5.cellOf (v := .slice Y.F.A C.flows.length Y.F.c) 2 rfl
      refine sm_list [1] 78 4 hs hd (by kernel_rfl) (agC e1 agN) rfl ?_
      simp only [seval]
      go_wp2_with fail
      intro a H; replace hs := H.s hs; replace hd := H.d rfl; replace e1 := H.g 1 rfl rfl; replace e2 := H.k e2 rfl; replace e3 := H.k e3 rfl; have e79 := H.g 79 rfl rfl; have e80 := H.g 80 rfl rfl; have e81 := H.g 81 rfl rfl; clear H; refine hKq12 _ _ ?_; clear hKq12 Kq12; refine wp_block ?_
      skip
      refine wp_loop (fun a w' => ∃ (j : Nat) (q3 q4 : Value), j ≤ C.flows.length ∧ a.tmps.size = 112 ∧ a.defers = [] ∧ a.tmps[1]? = some (.pointer (some ⟨L, 0, none⟩)) ∧ a.tmps[2]? = some (.pointer (some ⟨g2, 0, none⟩)) ∧ a.tmps[3]? = some (.pointer (some ⟨g3, 0, none⟩)) ∧ a.tmps[79]? = some (.slice Y.F.A C.flows.length Y.F.c) ∧ a.tmps[80]? = some (.int .i64 (C.flows.length : Int)) ∧ a.tmps[81]? = some (.int .i64 (j : Int)) ∧ RAll w' g3 C Y q0 q1 q2 q3 q4 C.nodes.length C.nodes.length C.links.length j j ∧ Below g3 wr w') (fun a _ => C.flows.length - (intOf (a.tmps.getD 81 undef)).toNat) ?_ ?_
      · exact ⟨0, _, _, Nat.zero_le _, hs, hd, e1, e2, e3, e79, e80, e81, R3, Below.refl _ _⟩
      clear hs hd e81 e1 e2 e3 e79 e80 a R3
      rintro a w4 ⟨j, q3, q4, hj, hs, hd, e1, e2, e3, e79, e80, e81, R4, hb4⟩
      have hm := slot e81
      refine wp_seq_k fun Kq13 hKq13 => ?_
      by_cases hlt : j < C.flows.length
      ·
        have dj : decide ((j : Int) < (C.flows.length : Int)) = true := decide_eq_true (by omega)
        obtain ⟨⟨f, sl⟩, hxi⟩ : ∃ x, (C.flows.zip Y.ws)[j]? = some x := ⟨_, List.getElem?_eq_getElem (by rw [HC.out.zlen]; exact hlt)⟩
        obtain ⟨ad, hA, hadb, hcl⟩ := reads_at (f := fun x : Fw × (Sl × Sl) => fwc x.1 x.2) fwc_len (((HC.out.below (by have h1 := HLL.out; rw [← h1]; exact L5)).flows).below (by have h1 := HLL.out; rw [← h1]; exact hb4.mono (Nat.le_of_lt hL3))) hxi hlt
        have HXI := Lib.hid hxi
        have HCL := Lib.hid hcl
        have HA := Lib.hid hA
        clear hxi hcl hA
        rw [HA.out] at e79
        have hz4 : g3 < w4.heap.size := R4.B.lt
        refine sm_list [80, 81] 82 1 hs hd (by kernel_rfl) (agC e80 (agC e81 agN)) rfl ?_
        simp only [seval]
        go_wp2_with fail
        intro a H; replace hs := H.s hs; replace hd := H.d rfl; replace e80 := H.g 80 rfl rfl; replace e81 := H.g 81 rfl rfl; replace e1 := H.k e1 rfl; replace e2 := H.k e2 rfl; replace e3 := H.k e3 rfl; replace e79 := H.k e79 rfl; have e82 := H.g 82 rfl rfl; clear H; refine hKq13 _ _ ?_; clear hKq13 Kq13; refine wp_seq_k fun Kq14 hKq14 => ?_
        refine wp_cond_true (slotE e82) ?_
        clear e82; refine wp_skip ?_; refine hKq14 _ _ ?_; clear hKq14 Kq14; refine wp_seq_k fun Kq15 hKq15 => ?_; refine wp_block ?_; refine wp_seq_k fun Kq16 hKq16 => ?_
        have R5 := R4.keep ((Below.refl w4.heap.size w4).alloc (Nat.le_refl _) (.cells #[.int .i64 f.src, .int .i64 f.dst, .slice sl.1.A f.w0.length sl.1.c, .slice sl.2.A f.w1.length sl.2.c, .int .i64 f.start, .int .i64 f.len, .int .i64 f.size, .int .i64 f.late] 74))
        have B9 := Blk.new w4 74 #[.int .i64 f.src, .int .i64 f.dst, .slice sl.1.A f.w0.length sl.1.c, .slice sl.2.A f.w1.length sl.2.c, .int .i64 f.start, .int .i64 f.len, .int .i64 f.size, .int .i64 f.late]
        have hb5 : Below g3 wr (w4.alloc (.cells #[.int .i64 f.src, .int .i64 f.dst, .slice sl.1.A f.w0.length sl.1.c, .slice sl.2.A f.w1.length sl.2.c, .int .i64 f.start, .int .i64 f.len, .int .i64 f.size, .int .i64 f.late] 74)) := hb4.alloc (Nat.le_of_lt hz4) _
        clear R4 hb4
        refine sm_list [9, 79, 81] 83 2 hs hd (by kernel_rfl) (agU (agC e79 (agC e81 agN))) rfl ?_
        simp only [seval]
        go_wp2_with (first | (refine wpList_load_any_d rfl 74 (.tmp 3) rfl (ad.add (j * 8)) rfl (#[.int .i64 f.src, .int .i64 f.dst, .slice sl.1.A f.w0.length sl.1.c, .slice sl.2.A f.w1.length sl.2.c, .int .i64 f.start, .int .i64 f.len, .int .i64 f.size, .int .i64 f.late]) _ (fun j u hu => HCL.out j u hu) Try.underlying74 rfl (by kernel_rfl) ?_) | (refine wpList_store_new rfl 74 (.tmp 0) (.tmp 4) rfl rfl rfl rfl rfl (by kernel_rfl) (by rw [← Array.all_toList]; rfl) ?_) | fail)
        intro a H; replace hs := H.s hs; replace hd := H.d rfl; replace e79 := H.g 79 rfl rfl; replace e81 := H.g 81 rfl rfl; replace e1 := H.k e1 rfl; replace e2 := H.k e2 rfl; replace e3 := H.k e3 rfl; replace e80 := H.k e80 rfl; have e9 := H.g 9 rfl rfl; clear H; refine hKq16 _ _ ?_; clear hKq16 Kq16; refine wp_seq_k fun Kq17 hKq17 => ?_
        rw [← HA.out] at e79
        generalize w4.alloc (.cells #[.int .i64 f.src, .int .i64 f.dst, .slice sl.1.A f.w0.length sl.1.c, .slice sl.2.A f.w1.length sl.2.c, .int .i64 f.start, .int .i64 f.len, .int .i64 f.size, .int .i64 f.late] 74) = w5 at *
        obtain ⟨g9, hg9⟩ : ∃ g, g = w4.heap.size := ⟨_, rfl⟩
        rw [← hg9] at B9 e9 hz4
        clear hg9
        have x0 := B9.cellOf (v := .int .i64 f.src) 0 rfl
        have x1 := B9.cellOf (v := .int .i64 f.dst) 1 rfl
        have x4 := B9.cellOf (v := .int .i64 f.start) 4 rfl
        have x5 := B9.cellOf (v := .int .i64 f.len) 5 rfl
        have x6 := B9.cellOf (v := .int .i64 f.size) 6 rfl
        have x7 := B9.cellOf (v := .int .i64 f.late) 7 rfl
        have k3 := R5.B.cellOf (v := q3) 3 rfl
        have HR := Lib.hid R5
        have hz6 : g3 < w5.heap.size := R5.B.lt
        have B9n : q3.ownBlock ≠ some g9 := own_blk_ne R5.rows.2.2.2.1 B9 (by decide)
        have HB9 := Lib.hid B9
        have HB9n := Lib.hid B9n
        clear B9n R5
        refine sm_list [3, 9] 85 18 hs hd (by kernel_rfl) (agC e3 (agC e9 agN)) rfl ?_
        simp only [seval]
        go_wp2_with (first | (at_builtin; refine wpList_pushG 1 rfl (.tmp 3) (.tmp 17) 38 rfl rsL (wr := w5) (cs := #[.int .i64 f.src, .int .i64 f.dst, .int .i64 f.start, .int .i64 f.len, .int .i64 f.size, .int .i64 f.late]) rfl (by intro u hu; simp at hu; rcases hu with rfl | rfl | rfl | rfl | rfl | rfl <;> rfl) (v := q3) rfl HR.out.rows.2.2.2.1 rfl rfl (by omega) HR.out.B.lt ?_; intro v2 w6 own2 gr2 mv2; obtain ⟨Bx, SX, bx⟩ := HR.out.pushF (List.getElem?_zip_eq_some.1 HXI.out).1 own2 gr2 mv2; obtain ⟨Av, cv, rfl, _, _⟩ := ownsRow_reads own2; have fz := Bx.frozen; have xl := Bx.lt; have xc := Bx.cellOf (v := q3) 3 rfl; have SX := Lib.hid SX; have bx := Lib.hid bx; have B9y := Lib.hid ((HB9.out.grown gr2 (Ne.symm HB9n.out)).far (p := ⟨g3, 3, none⟩) (by show g9 ≠ g3; omega) (.slice Av (j + 1) cv)); clear own2 gr2 mv2 Bx) | fail)
        intro a H; replace hs := H.s hs; replace hd := H.d rfl; replace e3 := H.g 3 rfl rfl; replace e9 := H.g 9 rfl rfl; replace e1 := H.k e1 rfl; replace e2 := H.k e2 rfl; replace e79 := H.k e79 rfl; replace e80 := H.k e80 rfl; replace e81 := H.k e81 rfl; clear H; refine hKq17 _ _ ?_; clear hKq17 Kq17; clear fz xl xc k3 hz6 HR x0 x1 x4 x5 x6 x7
        have B9 := B9y.out
        have R7 := SX.out
        replace hb5 := hb5.trans bx.out
        clear B9y HB9 HB9n SX bx
        generalize hsv : Value.slice Av (j + 1) cv = q3n at *
        clear hsv
        generalize w6.setCell ⟨g3, 3, none⟩ q3n = w7 at *
        have x2 := B9.cellOf (v := .slice sl.1.A f.w0.length sl.1.c) 2 rfl
        have x3 := B9.cellOf (v := .slice sl.2.A f.w1.length sl.2.c) 3 rfl
        have k4 := R7.B.cellOf (v := q4) 4 rfl
        have HR := Lib.hid R7
        have hz6 : g3 < w7.heap.size := R7.B.lt
        have B9n : q4.ownBlock ≠ some g9 := own_blk_ne R7.rows.2.2.2.2 B9 (by decide)
        have HB9 := Lib.hid B9
        have HB9n := Lib.hid B9n
        clear B9n R7
        refine sm_list [3, 9] 103 7 hs hd (by kernel_rfl) (agC e3 (agC e9 agN)) rfl ?_
        simp only [seval]
        go_wp2_with (first | (at_builtin; refine wpList_pushG 1 rfl (.tmp 3) (.tmp 6) 39 rfl rsW (wr := w7) (cs := #[.slice sl.1.A f.w0.length sl.1.c, .slice sl.2.A f.w1.length sl.2.c]) rfl (by intro u hu; simp at hu; rcases hu with rfl | rfl <;> rfl) (v := q4) rfl HR.out.rows.2.2.2.2 rfl rfl (by omega) HR.out.B.lt ?_; intro v2 w8 own2 gr2 mv2; obtain ⟨Bx, SX, bx⟩ := HR.out.pushW HXI.out own2 gr2 mv2; obtain ⟨Av, cv, rfl, _, _⟩ := ownsRow_reads own2; have fz := Bx.frozen; have xl := Bx.lt; have xc := Bx.cellOf (v := q4) 4 rfl; have SX := Lib.hid SX; have bx := Lib.hid bx; have B9y := Lib.hid ((HB9.out.grown gr2 (Ne.symm HB9n.out)).far (p := ⟨g3, 4, none⟩) (by show g9 ≠ g3; omega) (.slice Av (j + 1) cv)); clear own2 gr2 mv2 Bx) | fail)
        intro a H; replace hs := H.s hs; replace hd := H.d rfl; replace e3 := H.g 3 rfl rfl; replace e9 := H.g 9 rfl rfl; replace e1 := H.k e1 rfl; replace e2 := H.k e2 rfl; replace e79 := H.k e79 rfl; replace e80 := H.k e80 rfl; replace e81 := H.k e81 rfl; clear H; refine hKq15 _ _ ?_; clear hKq15 Kq15; clear fz xl xc k4 hz6 HR x2 x3
        have B9 := B9y.out
        have R9 := SX.out
        replace hb5 := hb5.trans bx.out
        clear B9y HB9 HB9n SX bx
        generalize hsv : Value.slice Av (j + 1) cv = q4n at *
        clear hsv
        generalize w8.setCell ⟨g3, 4, none⟩ q4n = w9 at *
        refine sm_list [81] 110 1 hs hd (by kernel_rfl) (agC e81 agN) rfl ?_
        simp only [seval]
        go_wp2_with fail
        intro a H; replace hs := H.s hs; replace hd := H.d rfl; replace e1 := H.k e1 rfl; replace e2 := H.k e2 rfl; replace e3 := H.k e3 rfl; replace e79 := H.k e79 rfl; replace e80 := H.k e80 rfl; replace e9 := H.k e9 rfl; replace e81 := H.g 81 rfl rfl; clear H
        exact ⟨⟨j + 1, q3n, q4n, by omega, hs, hd, e1, e2, e3, e79, e80, e81, R9, hb5⟩, by first | (simp only [hm, slot e81, intOf]; omega) | (simp [e81, intOf]; omega)⟩
      ·
        have hjn : j = C.flows.length := by omega
        have dj : decide ((j : Int) < (C.flows.length : Int)) = false := decide_eq_false (by omega)
        clear hlt hm
        refine sm_list [80, 81] 82 1 hs hd (by kernel_rfl) (agC e80 (agC e81 agN)) rfl ?_
        simp only [seval]
        go_wp2_with fail
        intro a H; replace hs := H.s hs; replace hd := H.d rfl; replace e80 := H.g 80 rfl rfl; replace e81 := H.g 81 rfl rfl; replace e1 := H.k e1 rfl; replace e2 := H.k e2 rfl; replace e3 := H.k e3 rfl; replace e79 := H.k e79 rfl; have e82 := H.g 82 rfl rfl; clear H; refine hKq13 _ _ ?_; clear hKq13 Kq13; refine wp_seq_k fun Kq14 hKq14 => ?_
        refine wp_cond_false (slotE e82) ?_
        clear e82; refine wp_exit ?_; refine exit_then rfl ?_; clear hKq14 Kq14; refine exit_then rfl ?_; refine exit_hit ?_; refine hKq11 _ _ ?_; clear hKq11 Kq11; refine wp_seq_k fun Kq15 hKq15 => ?_; clear e79; clear e80; clear e81
        rw [hjn] at R4
        clear dj hj hjn
        have R3 := R4
        have hbs := hb4
        clear R4 hb4
        obtain ⟨ws, hwx⟩ : ∃ w, w = w4 := ⟨_, rfl⟩
        rw [← hwx] at R3 hbs
        subst hwx
        have L6 : Below L w ws := L5.trans (hbs.mono (Nat.le_of_lt hL3))
        have B26 := B25.below hbs hg23
        clear L5 BC5 B25 hbs c2
        have HR := Lib.hid R3
        have HB2 := Lib.hid B26
        have hg3z : g3 < ws.heap.size := R3.B.lt
        have hg2z : g2 < ws.heap.size := B26.lt
        clear R3 B26
        obtain ⟨a0, c0, hq0, _, _⟩ := ownsRow_reads HR.out.rows.1
        subst hq0
        obtain ⟨a1, c1, hq1, _, _⟩ := ownsRow_reads HR.out.rows.2.1
        subst hq1
        obtain ⟨a2, c2, hq2, _, _⟩ := ownsRow_reads HR.out.rows.2.2.1
        subst hq2
        obtain ⟨a3, c3, hq3, _, _⟩ := ownsRow_reads HR.out.rows.2.2.2.1
        subst hq3
        obtain ⟨a4, c4, hq4, _, _⟩ := ownsRow_reads HR.out.rows.2.2.2.2
        subst hq4
        refine sm_list [2, 3] 111 1 hs hd (by kernel_rfl) (agC e2 (agC e3 agN)) rfl ?_
        simp only [seval]
        go_wp2_with (first | (refine wpList_load_any_d rfl 42 (.tmp 1) rfl ⟨g3, 0, none⟩ rfl (#[.slice a0 C.nodes.length c0, .slice a1 C.nodes.length c1, .slice a2 C.links.length c2, .slice a3 C.flows.length c3, .slice a4 C.flows.length c4, .int .i64 C.cycle, .int .i64 C.every, .int .i64 C.ppm, .int .i64 C.grain, .int .i64 C.proc]) _ (blk_cells HR.out.B) Try.underlying42 rfl (by kernel_rfl) ?_) | (refine wpList_store_part rfl 42 (.tmp 0) (.tmp 2) rfl (off := 0) rfl HB2.out rfl (by simp) (by kernel_rfl) (by rw [← Array.all_toList]; rfl) ?_; intro w10 B10 z10 gr10) | fail)
        intro a H; replace hs := H.s hs; replace hd := H.d rfl; replace e2 := H.g 2 rfl rfl; replace e3 := H.g 3 rfl rfl; replace e1 := H.k e1 rfl; clear H; refine hKq15 _ _ ?_; clear hKq15 Kq15; refine wp_ret ?_
        have R10 : RAll w10 g3 C Y _ _ _ _ _ _ _ _ _ _ := RBx.far HR.out gr10 (by intro e; injection e with e; omega) (fun r hr k hk e => by
          injection e with e
          have := (ownsRow_lt (RBx.row HR.out r hr) k hk).1
          omega)
        have L7 : Below w.heap.size w w10 := by
          have h1 := HLL.out
          rw [← h1]
          exact L6.grown gr10 (by omega) (fun k hk => by cases hk; exact hL2)
        obtain ⟨R, hR1, hR2⟩ := R10.done HC.out L7 L7.size
        exact sm_ret_cell1 rfl hd e2 (t := 42) (cs := rfc C R) (by rw [← hR1]; simpa [putAll, rcs] using B10) Try.underlying42 rfl (by kernel_rfl) ⟨R, rfl, hR2, L7⟩
end Go.Proofs.Ytaegngcbiefckaa
