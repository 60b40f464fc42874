/-
  A named network: a link more, a flow more.
-/
import Derived.Test.YtaegngcbiefckaaPlnNm
namespace Go.Proofs.Ytaegngcbiefckaa
set_option linter.unusedSimpArgs false
set_option linter.unusedVariables false
open Go.RowKit Go.WideShapes Go.ChangeShapes
attribute [local go_sem ↓] Go.wp_at_zero Go.wp_at_succ

set_option maxRecDepth 100000 in
set_option maxHeartbeats 4000000 in
theorem link_any (C : Cf) (Y : Lay) (a0 b0 g6 gN : Nat) (na nb : Nd) (w : World) (hN : Nm w g6 gN C Y) (ha : C.nodes[a0]? = some na) (hb : C.nodes[b0]? = some nb) (hab : a0 ≠ b0) (hp : (0 ≤ na.ports ∧ na.ports ≤ 1000) ∧ (0 ≤ nb.ports ∧ nb.ports ≤ 1000)) (hl : C.links.length ≤ 1000) :
    Calls Try.prog 27 #[.int .i64 (a0 : Int), .int .i64 (b0 : Int), .pointer (some ⟨g6, 0, none⟩)] w fun e w' => e = .returned (.tuple #[]) ∧ (∃ Y' : Lay, Nm w' g6 gN (addLink C a0 b0) Y') ∧ FrN g6 w w' := by
  obtain ⟨N, L1, Fl, ws⟩ := Y
  have hyN := hN.yN
  simp only at hyN
  subst hyN
  obtain ⟨⟨hp1, hp2⟩, hp3, hp4⟩ := hp
  have haN := (List.getElem?_eq_some_iff.1 ha).1
  have hbN := (List.getElem?_eq_some_iff.1 hb).1
  have HA := Lib.hid ha
  have HB := Lib.hid hb
  clear ha hb
  refine calls_sm (N := 46) Try.func27 rfl (by kernel_rfl) ?_
  intro a hs hd ha
  have e0 : a.tmps[0]? = some (.int .i64 (a0 : Int)) := ha 0 _ rfl
  have e1 : a.tmps[1]? = some (.int .i64 (b0 : Int)) := ha 1 _ rfl
  have e2 : a.tmps[2]? = some (.pointer (some ⟨g6, 0, none⟩)) := ha 2 _ rfl
  clear ha
  conv => arg 2; whnf
  refine wp_seq_k fun Kq1 hKq1 => ?_
  have ha0 : (0 : Int) ≤ (a0 : Int) := by omega
  have hb0 : (0 : Int) ≤ (b0 : Int) := by omega
  have ha1 : (a0 : Int) < (C.nodes.length : Int) := by omega
  have hb1 : (b0 : Int) < (C.nodes.length : Int) := by omega
  have B6 := hN.B6
  have BN := hN.BN
  have hg6z : g6 < w.heap.size := B6.lt
  have hltN := hN.lt
  have hga : (C.nodes.flatMap ndc).toArray[a0 * 2]? = some (.int .i64 na.ports) := (nodes_at HA.out 0 (by omega)).trans rfl
  have hgb : (C.nodes.flatMap ndc).toArray[b0 * 2]? = some (.int .i64 nb.ports) := (nodes_at HB.out 0 (by omega)).trans rfl
  have HGA := Lib.hid hga
  have HGB := Lib.hid hgb
  clear hga hgb
  refine sm_any [0, 1, 2] 5 23 (by kernel_rfl) hs hd (by kernel_rfl) (agC e0 (agC e1 (agC e2 agN))) rfl (any_tree [23] (.take 0 (.take 1 (.take 2 (.take 3 (.take 4 (.take 5 (.take 6 (.take 7 (.take 8 (.take 9 (.take 10 (.take 11 (.take 12 (.take 13 (.take 14 (.take 15 (.take 16 (.take 17 (.take 18 (.take 19 (.one 20 (.one 21 (.take 22 (.wr 23 .nil)))))))))))))))))))))))) (fun (w' : World) => (w'.heap[g6]? = w.heap[g6]? ∧ w'.heap[gN]? = w.heap[gN]?)) (by kernel_rfl) (fun _ _ _ _ _ h => h) ⟨rfl, rfl⟩ ?_)
  simp only [seval]
  have hwd6 : Below w.heap.size w w.drew := (Below.refl _ _).drew
  obtain ⟨wd, hwd⟩ : ∃ wd, wd = w.drew := ⟨_, rfl⟩
  have hcd : wd.heap[g6]? = w.heap[g6]? ∧ wd.heap[gN]? = w.heap[gN]? := by rw [hwd]; exact ⟨rfl, rfl⟩
  rw [← hwd] at hwd6 ⊢
  clear hwd
  iterate 20 (first | (with_reducible (refine tr_take (v := ?_) rfl ?_ ?_ ?_); rotate_left; (first | exact wanted_none rfl | exact wanted_on rfl rfl rfl); (rintro w' ⟨u1, u2⟩; have v6 := Blk.of_heap u1 B6; have vN := Blk.of_heap u2 BN; have q0 := v6.cellOf (v := .slice (some ⟨gN, 0, none⟩) C.nodes.length C.nodes.length) 0 rfl; have q1 := v6.cellOf (v := .slice L1.A C.links.length L1.c) 1 rfl; have qa := vN.cellOf (v := .int .i64 na.ports) (a0 * 2) HGA.out; have qb := vN.cellOf (v := .int .i64 nb.ports) (b0 * 2) HGB.out; go_simp; with_reducible rfl); simp only [Act.put, List.setIfInBounds_toArray, List.set_cons_zero, List.set_cons_succ]))
  have NA := (hN.keep hwd6).keep ((Below.refl wd.heap.size wd).alloc (Nat.le_refl _) (.cells #[.int .i64 (a0 : Int), .int .i64 na.ports, .int .i64 (b0 : Int), .int .i64 nb.ports, .int .i64 90, .int .i64 100] 80))
  have hgNz : gN < wd.heap.size := (hN.keep hwd6).BN.lt
  have hA9 : (wd.alloc (.cells #[.int .i64 (a0 : Int), .int .i64 na.ports, .int .i64 (b0 : Int), .int .i64 nb.ports, .int .i64 90, .int .i64 100] 80)).heap[g6]? = w.heap[g6]? ∧ (wd.alloc (.cells #[.int .i64 (a0 : Int), .int .i64 na.ports, .int .i64 (b0 : Int), .int .i64 nb.ports, .int .i64 90, .int .i64 100] 80)).heap[gN]? = w.heap[gN]? := ⟨(Below.heap_alloc _ _ _ (by omega)).trans hcd.1, (Below.heap_alloc _ _ _ hgNz).trans hcd.2⟩
  have BT := Blk.new wd 80 #[.int .i64 (a0 : Int), .int .i64 na.ports, .int .i64 (b0 : Int), .int .i64 nb.ports, .int .i64 90, .int .i64 100]
  have hwa : Below w.heap.size w (wd.alloc (.cells #[.int .i64 (a0 : Int), .int .i64 na.ports, .int .i64 (b0 : Int), .int .i64 nb.ports, .int .i64 90, .int .i64 100] 80)) := hwd6.alloc hwd6.size _
  have hrw : g6 + 1 ≤ (wd.alloc (.cells #[.int .i64 (a0 : Int), .int .i64 na.ports, .int .i64 (b0 : Int), .int .i64 nb.ports, .int .i64 90, .int .i64 100] 80)).heap.size := by have := hwa.size; omega
  (with_reducible (refine tr_run (v := ?_) (w' := ?_) rfl ?_ ?_ ?_ ?_); rotate_left 2; (first | exact wanted_none rfl | exact wanted_on rfl rfl rfl); (go_simp; refine ⟨?_, ?_⟩ <;> with_reducible rfl); (exact hA9); simp only [Act.put, List.setIfInBounds_toArray, List.set_cons_zero, List.set_cons_succ])
  refine tr_pushes_at 1 rfl rfl (.tmp 4) (.tmp 23) 23 rfl sty_link (cs := #[.int .i64 (a0 : Int), .int .i64 na.ports, .int .i64 (b0 : Int), .int .i64 nb.ports, .int .i64 90, .int .i64 100]) rfl (by intro u hu; simp at hu; rcases hu with rfl | rfl | rfl | rfl | rfl | rfl <;> rfl) rfl NA.links rfl BT (by omega) hrw ?_
  intro v2 w2 own2 b2 gr2
  obtain ⟨Av, cv, rfl, _, _⟩ := ownsRow_reads own2
  obtain ⟨B2, N3, F3⟩ := NA.link (l := ⟨(a0 : Int), na.ports, (b0 : Int), nb.ports, 90, 100⟩) own2 gr2
  have hN2 : w2.heap[gN]? = w.heap[gN]? := (gr2.block gN NA.BN.lt (fun e => own_blk_ne NA.links NA.BN (by decide) e.symm)).trans hA9.2
  refine ⟨⟨B2.trans B6.symm, hN2⟩, ?_⟩
  simp only [Act.put, List.setIfInBounds_toArray, List.set_cons_zero, List.set_cons_succ]
  (with_reducible (refine tr_take (v := ?_) rfl ?_ ?_ ?_); rotate_left; (first | exact wanted_none rfl | exact wanted_on rfl rfl rfl); (rintro w' _;  go_simp; with_reducible rfl); simp only [Act.put, List.setIfInBounds_toArray, List.set_cons_zero, List.set_cons_succ])
  have fz := B2.frozen
  have xl := B2.lt
  have xc := B2.cellOf (v := .slice L1.A C.links.length L1.c) 1 rfl
  have F4 := (FrN.be (g6 := g6) hwa).trans F3
  (with_reducible (refine tr_wr (w' := ?_) rfl ?_ ?_ ?_); rotate_left; (first | exact wanted_none rfl | exact wanted_on rfl rfl rfl); (go_simp; with_reducible rfl); simp only [Act.put, List.setIfInBounds_toArray, List.set_cons_zero, List.set_cons_succ])
  refine tr_nil ?_
  intro a H; replace hs := H.s hs; replace hd := H.d rfl; replace e0 := H.g 0 rfl rfl; replace e1 := H.g 1 rfl rfl; replace e2 := H.g 2 rfl rfl; clear H; refine hKq1 _ _ ?_; clear hKq1 Kq1; refine wp_seq_k fun Kq2 hKq2 => ?_
  generalize w2.setCell ⟨g6, 1, none⟩ (.slice Av (C.links.length + 1) cv) = w3 at *
  clear NA BT B2 own2 b2 gr2 hN2 hA9 hwa hrw hgNz xc xl fz B6 BN hN hwd6 hcd
  have B6 := N3.B6
  have BN := N3.BN
  have q0 := B6.cellOf (v := .slice (some ⟨gN, 0, none⟩) C.nodes.length C.nodes.length) 0 rfl
  have qa := BN.cellOf (v := .int .i64 na.ports) (a0 * 2) HGA.out
  have xl := BN.lt
  have fz := BN.frozen
  refine sm_list [0, 2] 28 9 hs hd (by kernel_rfl) (agC e0 (agC e2 agN)) rfl ?_
  simp only [seval]
  go_wp2_with fail
  intro a H; replace hs := H.s hs; replace hd := H.d rfl; replace e0 := H.g 0 rfl rfl; replace e2 := H.g 2 rfl rfl; replace e1 := H.k e1 rfl; clear H; refine hKq2 _ _ ?_; clear hKq2 Kq2
  have hset := nodes_set HA.out (n' := ⟨na.ports + 1, na.br⟩) 0 (by omega) (.int .i64 (na.ports + 1)) rfl
  have BN4 := BN.set_ (a0 * 2) (.int .i64 (na.ports + 1))
  rw [Nat.add_zero] at hset
  rw [hset, ← incP_some HA.out] at BN4
  have gr4 : w3.grownBy (w3.setCell ⟨gN, a0 * 2, none⟩ (.int .i64 (na.ports + 1))) (some gN) := gr_set (grownBy_refl w3 _) _ _
  have N4 := N3.node gr4 BN4 (incP_len _ _)
  have F5 := F4.trans (FrN.one gr4 (Nat.le_of_lt hltN) (.inr ⟨_, _, BN, by decide⟩))
  have HB4 : Hid ((incP C.nodes a0)[b0]? = some nb) := Lib.hid (by rw [incP_some HA.out, List.getElem?_set_ne hab]; exact HB.out)
  have hil := incP_len C.nodes a0
  generalize w3.setCell ⟨gN, a0 * 2, none⟩ (.int .i64 (na.ports + 1)) = w4 at *
  clear hset gr4 BN4 B6 BN q0 qa xl fz N3 F4 HGB
  have B6 := N4.B6
  have BN := N4.BN
  obtain ⟨ns, hns⟩ : ∃ ns, ns = incP C.nodes a0 := ⟨_, rfl⟩
  rw [← hns] at HB4 hil BN B6 N4
  have HNS := Lib.hid hns
  clear hns
  have q0 := B6.cellOf (v := .slice (some ⟨gN, 0, none⟩) C.nodes.length C.nodes.length) 0 (by simp [cfc, hil])
  have hgb2 : (ns.flatMap ndc).toArray[b0 * 2]? = some (.int .i64 nb.ports) := (nodes_at HB4.out 0 (by omega)).trans rfl
  have qb := BN.cellOf (v := .int .i64 nb.ports) (b0 * 2) hgb2
  have HIL := Lib.hid hil
  clear hil hgb2
  have xl := BN.lt
  have fz := BN.frozen
  refine sm_list [1, 2] 37 9 hs hd (by kernel_rfl) (agC e1 (agC e2 agN)) rfl ?_
  simp only [seval]
  go_wp2_with fail
  intro a H; replace hs := H.s hs; replace hd := H.d rfl; replace e1 := H.g 1 rfl rfl; replace e2 := H.g 2 rfl rfl; replace e0 := H.k e0 rfl; clear H
  have hset := nodes_set HB4.out (n' := ⟨nb.ports + 1, nb.br⟩) 0 (by omega) (.int .i64 (nb.ports + 1)) rfl
  have BN5 := BN.set_ (b0 * 2) (.int .i64 (nb.ports + 1))
  rw [Nat.add_zero] at hset
  rw [hset, ← incP_some HB4.out] at BN5
  have gr5 : w4.grownBy (w4.setCell ⟨gN, b0 * 2, none⟩ (.int .i64 (nb.ports + 1))) (some gN) := gr_set (grownBy_refl w4 _) _ _
  have N5 := N4.node gr5 BN5 (incP_len _ _)
  have F6 := F5.trans (FrN.one gr5 (Nat.le_of_lt hltN) (.inr ⟨_, _, BN, by decide⟩))
  have e1 : addLink C a0 b0 = { { { C with links := C.links ++ [(⟨(a0 : Int), na.ports, (b0 : Int), nb.ports, 90, 100⟩ : Lk)] } with nodes := ns } with nodes := incP ns b0 } := by
    rw [addLink, portOf_some HA.out, portOf_some HB.out, HNS.out]
  exact bodyPost_end (results_none rfl _ _ _) hd ⟨rfl, ⟨_, by rw [e1]; exact N5⟩, F6⟩
set_option maxRecDepth 100000 in
set_option maxHeartbeats 4000000 in
theorem flow_any (C : Cf) (Y : Lay) (i g6 gN : Nat) (s d : Int) (w0 w1 : List Int) (s0 s1 : Sl) (w : World) (hN : Nm w g6 gN C Y) (h0 : w.ownsRow (g6 + 1) 3 1 (.slice s0.A w0.length s0.c) w0.length (w0.map (Value.int .i64))) (h1 : w.ownsRow (g6 + 1) 3 1 (.slice s1.A w1.length s1.c) w1.length (w1.map (Value.int .i64))) (hi : i ≤ 1000) (hl : C.flows.length ≤ 1000) :
    Calls Try.prog 28 #[.int .i64 (i : Int), .int .i64 s, .int .i64 d, .slice s0.A w0.length s0.c, .slice s1.A w1.length s1.c, .pointer (some ⟨g6, 0, none⟩)] w fun e w' => e = .returned (.tuple #[]) ∧ (∃ Y' : Lay, Nm w' g6 gN (addFlow C i s d w0 w1) Y') ∧ FrN g6 w w' := by
  refine calls_sm (N := 25) Try.func28 rfl (by kernel_rfl) ?_
  intro a hs hd ha
  have e0 : a.tmps[0]? = some (.int .i64 (i : Int)) := ha 0 _ rfl
  have e1 : a.tmps[1]? = some (.int .i64 s) := ha 1 _ rfl
  have e2 : a.tmps[2]? = some (.int .i64 d) := ha 2 _ rfl
  have e3 : a.tmps[3]? = some (.slice s0.A w0.length s0.c) := ha 3 _ rfl
  have e4 : a.tmps[4]? = some (.slice s1.A w1.length s1.c) := ha 4 _ rfl
  have e5 : a.tmps[5]? = some (.pointer (some ⟨g6, 0, none⟩)) := ha 5 _ rfl
  clear ha
  conv => arg 2; whnf
  have q2 := hN.B6.cellOf (v := .slice Y.F.A C.flows.length Y.F.c) 2 rfl
  have HN := Lib.hid hN
  have hg6z : g6 + 1 ≤ w.heap.size := hN.B6.lt
  have H0 := Lib.hid h0
  have H1 := Lib.hid h1
  clear hN h0 h1
  refine sm_list [0, 1, 2, 3, 4, 5] 11 14 hs hd (by kernel_rfl) (agC e0 (agC e1 (agC e2 (agC e3 (agC e4 (agC e5 agN)))))) rfl ?_
  simp only [seval]
  go_wp2_with (first | (at_builtin; refine wpList_pushG 1 rfl (.tmp 7) (.tmp 17) 24 rfl sty_flow (wr := w) (cs := #[.int .i64 s, .int .i64 d, .slice s0.A w0.length s0.c, .slice s1.A w1.length s1.c, .int .i64 (200000 + 400000 * (i : Int)), .int .i64 0, .int .i64 200, .int .i64 100000]) rfl (by intro u hu; simp at hu; rcases hu with rfl | rfl | rfl | rfl | rfl | rfl | rfl | rfl <;> rfl) (v := .slice Y.F.A C.flows.length Y.F.c) rfl HN.out.flows rfl rfl (by omega) hg6z ?_; intro v2 w2 own2 gr2 mv2; obtain ⟨Av, cv, rfl, _, _⟩ := ownsRow_reads own2; obtain ⟨B2, N3, F3⟩ := HN.out.flow (f := ⟨s, d, w0, w1, 200000 + 400000 * (i : Int), 0, 200, 100000⟩) (sl := (s0, s1)) own2 gr2 H0.out H1.out; have fz := B2.frozen; have xl := B2.lt; have xc := B2.cellOf (v := .slice Y.F.A C.flows.length Y.F.c) 2 rfl; have HN3 := Lib.hid N3; have HF3 := Lib.hid F3; clear own2 gr2 mv2 N3 F3) | fail)
  intro a H; replace hs := H.s hs; replace hd := H.d rfl; replace e0 := H.g 0 rfl rfl; replace e1 := H.g 1 rfl rfl; replace e2 := H.g 2 rfl rfl; replace e3 := H.g 3 rfl rfl; replace e4 := H.g 4 rfl rfl; replace e5 := H.g 5 rfl rfl; clear H
  exact bodyPost_end (results_none rfl _ _ _) hd ⟨rfl, ⟨_, HN3.out⟩, HF3.out⟩
end Go.Proofs.Ytaegngcbiefckaa
