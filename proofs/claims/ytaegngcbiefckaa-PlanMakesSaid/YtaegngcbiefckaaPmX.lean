/-
  PlanMakes: the slots of a port.
-/
import Derived.Test.YtaegngcbiefckaaRmGtZ
import Derived.Test.YtaegngcbiefckaaPlnHead
import Derived.Test.YtaegngcbiefckaaRfPlZ
import Derived.Test.YtaegngcbiefckaaPlnX
namespace Go.Proofs.Ytaegngcbiefckaa
set_option linter.unusedSimpArgs false
set_option linter.unusedVariables false
open Go.RowKit Go.WideShapes Go.ChangeShapes
attribute [local go_sem ↓] Go.wp_at_zero Go.wp_at_succ

theorem run_neq_slot (p q : Int × Int) (w : World) : (binOp .neq 67 (.agg #[.int .i64 p.1, .int .i64 p.2]) (.agg #[.int .i64 q.1, .int .i64 q.2])).run Try.prog w = .ok (.bool (!decide (p = q))) w := by
  obtain ⟨a, b⟩ := p
  obtain ⟨c, d⟩ := q
  by_cases h1 : a = c <;> by_cases h2 : b = d <;> simp [go_sem, h1, h2]
set_option maxRecDepth 100000 in
set_option maxHeartbeats 4000000 in
theorem pm_slots (t : List (Int × Int)) (cyc : Int) (A1 A2 : Option Addr) (n c1 c2 g13 g15 : Nat) (v1 v3 v5 v6 v9 v10 v11 v12 v101 v102 v103 : Value) (a : Act) (w : World) (Q : Exit → Act → World → Prop)
    (hs : a.tmps.size = 177) (hd : a.defers = []) (e1 : a.tmps[1]? = some (v1)) (e3 : a.tmps[3]? = some (v3)) (e5 : a.tmps[5]? = some (v5)) (e6 : a.tmps[6]? = some (v6)) (e9 : a.tmps[9]? = some (v9)) (e10 : a.tmps[10]? = some (v10)) (e11 : a.tmps[11]? = some (v11)) (e12 : a.tmps[12]? = some (v12)) (e13 : a.tmps[13]? = some (.pointer (some ⟨g13, 0, none⟩))) (e15 : a.tmps[15]? = some (.pointer (some ⟨g15, 0, none⟩))) (e101 : a.tmps[101]? = some (v101)) (e102 : a.tmps[102]? = some (v102)) (e103 : a.tmps[103]? = some (v103))
    (B13 : Blk w g13 58 #[.int .i64 0, .int .i64 cyc, .slice A1 n c1]) (B15 : Blk w g15 64 #[.int .i64 0, .int .i64 cyc, .slice A2 n c2]) (h1 : Reads w w.heap.size 2 A1 n (t.flatMap spc)) (h2 : Reads w w.heap.size 2 A2 n (t.flatMap spc)) (hn : t.length = n) (hnb : n ≤ 100000)
    (hend : ∀ (a : Act) (w' : World), a.tmps.size = 177 → a.defers = [] → a.tmps[1]? = some (v1) → a.tmps[3]? = some (v3) → a.tmps[5]? = some (v5) → a.tmps[6]? = some (v6) → a.tmps[9]? = some (v9) → a.tmps[10]? = some (v10) → a.tmps[11]? = some (v11) → a.tmps[12]? = some (v12) → a.tmps[101]? = some (v101) → a.tmps[102]? = some (v102) → a.tmps[103]? = some (v103) → Below w.heap.size w w' → Q .normal a w') :
    Code.wp Try.prog (sub [true, true, true, true, true, true, true, true, true, true, true, false, true, false, false, true, true, false, false, true, true, false, false, true, false, false, true, true, true, true] (bodyOf Try.f3)) Q a w := by
  conv => arg 2; whnf
  have HEND := Lib.hid hend
  have HN := Lib.hid hn
  have H1 := Lib.hid h1
  have H2 := Lib.hid h2
  clear hend hn h1 h2
  have hg13 : g13 < w.heap.size := B13.lt
  have hg15 : g15 < w.heap.size := B15.lt
  have s2 := B15.cellOf (v := .slice A2 n c2) 2 rfl
  refine wp_seq_k fun Kq1 hKq1 => ?_
  refine sm_list [15] 153 4 hs hd (by kernel_rfl) (agC e15 agN) rfl ?_
  simp only [rq, reOper, reOp, reO, reC, reK, Nat.reduceLeDiff, Nat.reduceEqDiff, ↓reduceIte, Nat.reduceAdd, Nat.reduceSub]
  go_wp2_with fail
  intro a H
  replace hs := H.size.trans hs
  replace hd : a.defers = [] := H.defers
  replace e15 : a.tmps[15]? = some _ := H.got rfl rfl
  replace e1 := H.keep e1 rfl; replace e3 := H.keep e3 rfl; replace e5 := H.keep e5 rfl; replace e6 := H.keep e6 rfl; replace e9 := H.keep e9 rfl; replace e10 := H.keep e10 rfl; replace e11 := H.keep e11 rfl; replace e12 := H.keep e12 rfl; replace e13 := H.keep e13 rfl; replace e101 := H.keep e101 rfl; replace e102 := H.keep e102 rfl; replace e103 := H.keep e103 rfl
  have e155 : a.tmps[155]? = some _ := H.got rfl rfl
  have e156 : a.tmps[156]? = some _ := H.got rfl rfl
  clear H
  refine hKq1 _ _ ?_
  clear hKq1 Kq1
  refine wp_block ?_
  clear s2
  refine wp_loop (fun a w' => ∃ j : Nat, j ≤ n ∧ a.tmps.size = 177 ∧ a.defers = [] ∧ a.tmps[1]? = some (v1) ∧ a.tmps[3]? = some (v3) ∧ a.tmps[5]? = some (v5) ∧ a.tmps[6]? = some (v6) ∧ a.tmps[9]? = some (v9) ∧ a.tmps[10]? = some (v10) ∧ a.tmps[11]? = some (v11) ∧ a.tmps[12]? = some (v12) ∧ a.tmps[13]? = some (.pointer (some ⟨g13, 0, none⟩)) ∧ a.tmps[15]? = some (.pointer (some ⟨g15, 0, none⟩)) ∧ a.tmps[101]? = some (v101) ∧ a.tmps[102]? = some (v102) ∧ a.tmps[103]? = some (v103) ∧ a.tmps[155]? = some (.int .i64 (n : Int)) ∧ a.tmps[156]? = some (.int .i64 (j : Int)) ∧ Below w.heap.size w w') (fun a _ => n - (intOf (a.tmps.getD 156 undef)).toNat) ?_ ?_
  · exact ⟨0, Nat.zero_le _, hs, hd, e1, e3, e5, e6, e9, e10, e11, e12, e13, e15, e101, e102, e103, e155, e156, Below.refl _ _⟩
  clear hs hd e156 e1 e3 e5 e6 e9 e10 e11 e12 e13 e15 e101 e102 e103 e155 a
  rintro a w3 ⟨j, hj, hs, hd, e1, e3, e5, e6, e9, e10, e11, e12, e13, e15, e101, e102, e103, e155, e156, hb3⟩
  have hm := slot e156
  refine wp_seq_k fun Kq2 hKq2 => ?_
  by_cases hlt : j < n
  ·
    have dj : decide ((j : Int) < (n : Int)) = true := decide_eq_true (by omega)
    obtain ⟨x, hx⟩ : ∃ x, t[j]? = some x := ⟨_, List.getElem?_eq_getElem (by rw [HN.out]; exact hlt)⟩
    obtain ⟨ad1, hA1, hb1, hc1⟩ := reads_at spc_len (H1.out.below hb3) hx hlt
    obtain ⟨ad2, hA2, hb2, hc2⟩ := reads_at spc_len (H2.out.below hb3) hx hlt
    have hsz := hb3.size
    have z1x := (B13.below hb3 hg13).cellOf (v := .slice A1 n c1) 2 rfl
    have z2x := (B15.below hb3 hg15).cellOf (v := .slice A2 n c2) 2 rfl
    rw [hA1] at z1x
    rw [hA2] at z2x
    refine sm_list [155, 156] 157 1 hs hd (by kernel_rfl) (agC e155 (agC e156 agN)) rfl ?_
    simp only [rq, reOper, reOp, reO, reC, reK, Nat.reduceLeDiff, Nat.reduceEqDiff, ↓reduceIte, Nat.reduceAdd, Nat.reduceSub]
    go_wp2_with fail
    intro a H
    replace hs := H.size.trans hs
    replace hd : a.defers = [] := H.defers
    replace e155 : a.tmps[155]? = some _ := H.got rfl rfl
    replace e156 : a.tmps[156]? = some _ := H.got rfl rfl
    replace e1 := H.keep e1 rfl; replace e3 := H.keep e3 rfl; replace e5 := H.keep e5 rfl; replace e6 := H.keep e6 rfl; replace e9 := H.keep e9 rfl; replace e10 := H.keep e10 rfl; replace e11 := H.keep e11 rfl; replace e12 := H.keep e12 rfl; replace e13 := H.keep e13 rfl; replace e15 := H.keep e15 rfl; replace e101 := H.keep e101 rfl; replace e102 := H.keep e102 rfl; replace e103 := H.keep e103 rfl
    have e157 : a.tmps[157]? = some _ := H.got rfl rfl
    clear H
    refine hKq2 _ _ ?_
    clear hKq2 Kq2
    refine wp_seq_k fun Kq3 hKq3 => ?_
    refine wp_cond_true (slotE e157) ?_
    clear e157
    refine wp_skip ?_
    refine hKq3 _ _ ?_
    clear hKq3 Kq3
    refine wp_seq_k fun Kq4 hKq4 => ?_
    refine wp_block ?_
    refine wp_seq_k fun Kq5 hKq5 => ?_
    refine sm_list [16, 156] 158 1 hs hd (by kernel_rfl) (agU (agC e156 agN)) rfl ?_
    simp only [rq, reOper, reOp, reO, reC, reK, Nat.reduceLeDiff, Nat.reduceEqDiff, ↓reduceIte, Nat.reduceAdd, Nat.reduceSub]
    go_wp2_with fail
    intro a H
    replace hs := H.size.trans hs
    replace hd : a.defers = [] := H.defers
    replace e156 : a.tmps[156]? = some _ := H.got rfl rfl
    replace e1 := H.keep e1 rfl; replace e3 := H.keep e3 rfl; replace e5 := H.keep e5 rfl; replace e6 := H.keep e6 rfl; replace e9 := H.keep e9 rfl; replace e10 := H.keep e10 rfl; replace e11 := H.keep e11 rfl; replace e12 := H.keep e12 rfl; replace e13 := H.keep e13 rfl; replace e15 := H.keep e15 rfl; replace e101 := H.keep e101 rfl; replace e102 := H.keep e102 rfl; replace e103 := H.keep e103 rfl; replace e155 := H.keep e155 rfl
    have e16 : a.tmps[16]? = some _ := H.got rfl rfl
    clear H
    refine hKq5 _ _ ?_
    clear hKq5 Kq5
    refine wp_seq_k fun Kq6 hKq6 => ?_
    clear dj
    have hneq := fun W => run_neq_slot x x W
    simp only [decide_true, Bool.not_true] at hneq
    have hg13w : g13 < w3.heap.size := Nat.lt_of_lt_of_le hg13 hsz
    have hg15w : g15 < w3.heap.size := Nat.lt_of_lt_of_le hg15 hsz
    have hj0 : (0 : Int) ≤ (j : Int) := by omega
    have hjn : (j : Int) < (n : Int) := by omega
    have HC1 : Hid (∀ w', Below w3.heap.size w3 w' → ∀ q v, (#[.int .i64 x.1, .int .i64 x.2] : Array Value).toList[q]? = some v → w'.cell? ((ad1.add (j * 2)).add q) = some v) := Lib.hid fun w' hw' q v hv => (hw'.cell (p := (ad1.add (j * 2)).add q) (by rw [add_blk, add_blk]; omega)).trans (hc1 q v hv)
    have HC2 : Hid (∀ w', Below w3.heap.size w3 w' → ∀ q v, (#[.int .i64 x.1, .int .i64 x.2] : Array Value).toList[q]? = some v → w'.cell? ((ad2.add (j * 2)).add q) = some v) := Lib.hid fun w' hw' q v hv => (hw'.cell (p := (ad2.add (j * 2)).add q) (by rw [add_blk, add_blk]; omega)).trans (hc2 q v hv)
    clear hc1 hc2 hx hA1 hA2
    suffices HK : ∀ (a' : Act) (w4 : World), a'.tmps.size = a.tmps.size → a'.defers = [] → a'.tmps[1]? = a.tmps[1]? → a'.tmps[3]? = a.tmps[3]? → a'.tmps[5]? = a.tmps[5]? → a'.tmps[6]? = a.tmps[6]? → a'.tmps[9]? = a.tmps[9]? → a'.tmps[10]? = a.tmps[10]? → a'.tmps[11]? = a.tmps[11]? → a'.tmps[12]? = a.tmps[12]? → a'.tmps[13]? = a.tmps[13]? → a'.tmps[15]? = a.tmps[15]? → a'.tmps[101]? = a.tmps[101]? → a'.tmps[102]? = a.tmps[102]? → a'.tmps[103]? = a.tmps[103]? → a'.tmps[155]? = a.tmps[155]? → a'.tmps[156]? = a.tmps[156]? → a'.tmps[16]? = a.tmps[16]? → a'.tmps[169]? = some (.bool false) → Below w3.heap.size w3 w4 → Kq6 a' w4 by
      refine sm_any [13, 15, 16] 159 11 (by kernel_rfl) hs hd (by kernel_rfl) (agC e13 (agC e15 (agC e16 agN))) rfl (any_class (fun w' => Below w3.heap.size w3 w') (by kernel_rfl) ((Below.refl _ _).drew) ?_)
      simp only [rq, reOper, reOp, reO, reC, reK, Nat.reduceLeDiff, Nat.reduceEqDiff, ↓reduceIte, Nat.reduceAdd, Nat.reduceSub]
      repeat (first | (with_reducible (refine wpQuiet_skip ?_ ?_); (first | exact wanted_off rfl rfl rfl rfl | exact wanted_off2 rfl rfl rfl); simp only [Act.put, List.setIfInBounds_toArray, List.set_cons_zero, List.set_cons_succ]) | (refine wpQuiet_val (v := .agg #[.int .i64 x.1, .int .i64 x.2]) ?_ (fun w' hw' => run_load_cells_d 67 (.tmp 6) rfl (ad1.add (j * 2)) rfl (#[.int .i64 x.1, .int .i64 x.2]) (HC1.out w' hw') Try.underlying67 rfl (by kernel_rfl)) ?_; (first | exact wanted_none rfl | exact wanted_on rfl rfl rfl); simp only [Act.put, List.setIfInBounds_toArray, List.set_cons_zero, List.set_cons_succ]) | (refine wpQuiet_val (v := .agg #[.int .i64 x.1, .int .i64 x.2]) ?_ (fun w' hw' => run_load_cells_d 68 (.tmp 11) rfl (ad2.add (j * 2)) rfl (#[.int .i64 x.1, .int .i64 x.2]) (HC2.out w' hw') Try.underlying68 rfl (by kernel_rfl)) ?_; (first | exact wanted_none rfl | exact wanted_on rfl rfl rfl); simp only [Act.put, List.setIfInBounds_toArray, List.set_cons_zero, List.set_cons_succ]) | (with_reducible (refine wpQuiet_val (v := ?_) ?_ ?_ ?_); rotate_left; (first | exact wanted_none rfl | exact wanted_on rfl rfl rfl); (intro w' hw'; obtain ⟨hc, hf⟩ := bcell hw'; go_simp; with_reducible rfl); simp only [Act.put, List.setIfInBounds_toArray, List.set_cons_zero, List.set_cons_succ]))
      refine wpQuiet_nil ?_
      intro w4 hw6
      all_goals
        intro a' H
        refine HK a' _ H.size H.defers (H.out 1 rfl) (H.out 3 rfl) (H.out 5 rfl) (H.out 6 rfl) (H.out 9 rfl) (H.out 10 rfl) (H.out 11 rfl) (H.out 12 rfl) ((H.got rfl rfl).trans e13.symm) ((H.got rfl rfl).trans e15.symm) (H.out 101 rfl) (H.out 102 rfl) (H.out 103 rfl) (H.out 155 rfl) (H.out 156 rfl) ((H.got rfl rfl).trans e16.symm) ?_ ?_
        · exact H.got rfl rfl
        · exact hw6
    intro a' w4 g_s g_d g1 g3 g5 g6 g9 g10 g11 g12 g13 g15 g101 g102 g103 g155 g156 g16 f169 hb4
    replace hs := g_s.trans hs
    replace hd := g_d
    replace e1 := g1.trans e1
    replace e3 := g3.trans e3
    replace e5 := g5.trans e5
    replace e6 := g6.trans e6
    replace e9 := g9.trans e9
    replace e10 := g10.trans e10
    replace e11 := g11.trans e11
    replace e12 := g12.trans e12
    replace e13 := g13.trans e13
    replace e15 := g15.trans e15
    replace e101 := g101.trans e101
    replace e102 := g102.trans e102
    replace e103 := g103.trans e103
    replace e155 := g155.trans e155
    replace e156 := g156.trans e156
    replace e16 := g16.trans e16
    clear g_s g_d g1 g3 g5 g6 g9 g10 g11 g12 g13 g15 g101 g102 g103 g155 g156 g16
    have e169 := f169
    clear f169
    clear a
    obtain ⟨a, rfl⟩ : ∃ a, a = a' := ⟨_, rfl⟩
    refine hKq6 _ _ ?_
    clear hKq6 Kq6
    refine wp_cond_false (slotE e169) ?_
    clear e169
    refine wp_skip ?_
    refine hKq4 _ _ ?_
    clear hKq4 Kq4
    clear e16
    clear z1x z2x hneq HC1 HC2
    refine sm_list [156] 170 1 hs hd (by kernel_rfl) (agC e156 agN) rfl ?_
    simp only [rq, reOper, reOp, reO, reC, reK, Nat.reduceLeDiff, Nat.reduceEqDiff, ↓reduceIte, Nat.reduceAdd, Nat.reduceSub]
    go_wp2_with fail
    intro a H
    replace hs := H.size.trans hs
    replace hd : a.defers = [] := H.defers
    replace e1 := H.keep e1 rfl; replace e3 := H.keep e3 rfl; replace e5 := H.keep e5 rfl; replace e6 := H.keep e6 rfl; replace e9 := H.keep e9 rfl; replace e10 := H.keep e10 rfl; replace e11 := H.keep e11 rfl; replace e12 := H.keep e12 rfl; replace e13 := H.keep e13 rfl; replace e15 := H.keep e15 rfl; replace e101 := H.keep e101 rfl; replace e102 := H.keep e102 rfl; replace e103 := H.keep e103 rfl; replace e155 := H.keep e155 rfl
    replace e156 : a.tmps[156]? = some _ := H.got rfl rfl
    clear H
    exact ⟨⟨j + 1, by omega, hs, hd, e1, e3, e5, e6, e9, e10, e11, e12, e13, e15, e101, e102, e103, e155, e156, hb3.trans (hb4.mono hsz)⟩, by first | (simp only [hm, slot e156, intOf]; omega) | (simp [e156, intOf]; omega)⟩
  · have hje : j = n := by omega
    have dj : decide ((j : Int) < (n : Int)) = false := decide_eq_false (by omega)
    have dj2 : decide (j < n) = false := decide_eq_false hlt
    clear hlt hm hje
    refine sm_list [155, 156] 157 1 hs hd (by kernel_rfl) (agC e155 (agC e156 agN)) rfl ?_
    simp only [rq, reOper, reOp, reO, reC, reK, Nat.reduceLeDiff, Nat.reduceEqDiff, ↓reduceIte, Nat.reduceAdd, Nat.reduceSub]
    go_wp2_with fail
    intro a H
    replace hs := H.size.trans hs
    replace hd : a.defers = [] := H.defers
    replace e155 : a.tmps[155]? = some _ := H.got rfl rfl
    replace e156 : a.tmps[156]? = some _ := H.got rfl rfl
    replace e1 := H.keep e1 rfl; replace e3 := H.keep e3 rfl; replace e5 := H.keep e5 rfl; replace e6 := H.keep e6 rfl; replace e9 := H.keep e9 rfl; replace e10 := H.keep e10 rfl; replace e11 := H.keep e11 rfl; replace e12 := H.keep e12 rfl; replace e13 := H.keep e13 rfl; replace e15 := H.keep e15 rfl; replace e101 := H.keep e101 rfl; replace e102 := H.keep e102 rfl; replace e103 := H.keep e103 rfl
    have e157 : a.tmps[157]? = some _ := H.got rfl rfl
    clear H
    refine hKq2 _ _ ?_
    clear hKq2 Kq2
    refine wp_seq_k fun Kq3 hKq3 => ?_
    refine wp_cond_false (slotE e157) ?_
    clear e157
    refine wp_exit ?_
    refine exit_then rfl ?_
    clear hKq3 Kq3
    refine exit_then rfl ?_
    refine exit_hit ?_
    exact HEND.out a w3 hs hd e1 e3 e5 e6 e9 e10 e11 e12 e101 e102 e103 hb3
end Go.Proofs.Ytaegngcbiefckaa

namespace Go.Proofs.Ytaegngcbiefckaa
set_option linter.unusedSimpArgs false
set_option linter.unusedVariables false
open Go.RowKit Go.WideShapes Go.ChangeShapes
attribute [local go_sem ↓] Go.wp_at_zero Go.wp_at_succ

set_option maxRecDepth 100000 in
set_option maxHeartbeats 4000000 in
theorem pm_ports (C : Cf) (R : RL) (S : List Sp) (W : List (Int × Int)) (nd : Nd) (wv : Value) (A Aw : Option Addr) (n c cw i P cnt gp g5 g6 g11 B1 gG mg : Nat) (fg : Int × Int → Option Value) (v101 v102 v103 v1 : Value) (a : Act) (w : World) (Q : Exit → Act → World → Prop)
    (hs : a.tmps.size = 177) (hd : a.defers = []) (e1 : a.tmps[1]? = some (v1)) (e3 : a.tmps[3]? = some (.pointer (some ⟨gp, 0, none⟩))) (e5 : a.tmps[5]? = some (.pointer (some ⟨g5, 0, none⟩))) (e6 : a.tmps[6]? = some (.pointer (some ⟨g6, 0, none⟩))) (e9 : a.tmps[9]? = some (.int .i64 (cnt : Int))) (e10 : a.tmps[10]? = some (.int .i64 (i : Int))) (e11 : a.tmps[11]? = some (.pointer (some ⟨g11, 0, none⟩))) (e101 : a.tmps[101]? = some (v101)) (e102 : a.tmps[102]? = some (v102)) (e103 : a.tmps[103]? = some (v103))
    (Bp : Blk w gp 32 #[.int .i64 (offV C), wv, .map (some gG)]) (GT : GtM w B1 gG mg fg (endsTo C C.nodes.length) C.cycle S) (hgG : gG < w.heap.size) (B5 : Blk w g5 42 (rfc C R)) (B6 : Blk w g6 47 #[.int .i64 (offV C), .slice Aw W.length cw, .slice A n c]) (B11 : Blk w g11 55 #[.int .i64 (P : Int), .bool nd.br]) (hr : Reads w w.heap.size 4 A n (S.flatMap rsp)) (hn : S.length = n) (hnb : n ≤ 1000)
    (hmk : makeV C = .ok (S, W)) (hgood : ∀ x ∈ S, GoodSp C x) (hnd : C.nodes[i]? = some nd) (hP : nd.ports = (P : Int)) (hcnt : cnt ≤ 1000)
    (hend : ∀ (a : Act) (w' : World), a.tmps.size = 177 → a.defers = [] → a.tmps[1]? = some (v1) → a.tmps[3]? = some (.pointer (some ⟨gp, 0, none⟩)) → a.tmps[5]? = some (.pointer (some ⟨g5, 0, none⟩)) → a.tmps[6]? = some (.pointer (some ⟨g6, 0, none⟩)) → a.tmps[101]? = some (v101) → a.tmps[102]? = some (v102) → a.tmps[103]? = some (v103) → a.tmps[9]? = some (.int .i64 ((cnt + P : Nat) : Int)) → Below w.heap.size w w' → Q .normal a w') :
    Code.wp Try.prog (sub [true, true, true, true, true, true, true, true, true, true, true, false, true, false, false, true, true, false, false, true] (bodyOf Try.f3)) Q a w := by
  conv => arg 2; whnf
  have HEND := Lib.hid hend
  have HN := Lib.hid hn
  have HR := Lib.hid hr
  have HMK := Lib.hid hmk
  have HGD := Lib.hid hgood
  have HND := Lib.hid hnd
  have HP := Lib.hid hP
  have HGT := Lib.hid GT
  have HW := Lib.hid (well (makeV_ok.1 hmk).1)
  have hP8 : P ≤ 8 := by have := (HW.out.nodes nd (List.mem_of_getElem? hnd)).2; omega
  have hi16 : i < 16 := by have h1 := (List.getElem?_eq_some_iff.1 hnd).1; have h2 := HW.out.off.n2; omega
  clear hend hn hr hmk hgood hnd hP GT
  have hzgp : gp < w.heap.size := Bp.lt
  have hzg5 : g5 < w.heap.size := B5.lt
  have hzg6 : g6 < w.heap.size := B6.lt
  have hzg11 : g11 < w.heap.size := B11.lt
  refine wp_seq_k fun Kq1 hKq1 => ?_
  refine sm_list [] 12 1 hs hd (by kernel_rfl) agN rfl ?_
  simp only [rq, reOper, reOp, reO, reC, reK, Nat.reduceLeDiff, Nat.reduceEqDiff, ↓reduceIte, Nat.reduceAdd, Nat.reduceSub]
  go_wp2_with fail
  intro a H
  replace hs := H.size.trans hs
  replace hd : a.defers = [] := H.defers
  replace e1 := H.keep e1 rfl; replace e3 := H.keep e3 rfl; replace e5 := H.keep e5 rfl; replace e6 := H.keep e6 rfl; replace e9 := H.keep e9 rfl; replace e10 := H.keep e10 rfl; replace e11 := H.keep e11 rfl; replace e101 := H.keep e101 rfl; replace e102 := H.keep e102 rfl; replace e103 := H.keep e103 rfl
  have e12 : a.tmps[12]? = some _ := H.got rfl rfl
  clear H
  refine hKq1 _ _ ?_
  clear hKq1 Kq1
  refine wp_block ?_
  refine wp_loop (fun a w' => ∃ p : Nat, p ≤ P ∧ a.tmps.size = 177 ∧ a.defers = [] ∧ a.tmps[1]? = some (v1) ∧ a.tmps[3]? = some (.pointer (some ⟨gp, 0, none⟩)) ∧ a.tmps[5]? = some (.pointer (some ⟨g5, 0, none⟩)) ∧ a.tmps[6]? = some (.pointer (some ⟨g6, 0, none⟩)) ∧ a.tmps[10]? = some (.int .i64 (i : Int)) ∧ a.tmps[11]? = some (.pointer (some ⟨g11, 0, none⟩)) ∧ a.tmps[101]? = some (v101) ∧ a.tmps[102]? = some (v102) ∧ a.tmps[103]? = some (v103) ∧ a.tmps[12]? = some (.int .i64 (p : Int)) ∧ a.tmps[9]? = some (.int .i64 ((cnt + p : Nat) : Int)) ∧ Below w.heap.size w w') (fun a _ => P - (intOf (a.tmps.getD 12 undef)).toNat) ?_ ?_
  · exact ⟨0, Nat.zero_le _, hs, hd, e1, e3, e5, e6, e10, e11, e101, e102, e103, e12, e9, Below.refl _ _⟩
  clear hs hd e12 e9 e1 e3 e5 e6 e10 e11 e101 e102 e103 a
  rintro a w3 ⟨p, hp, hs, hd, e1, e3, e5, e6, e10, e11, e101, e102, e103, e12, e9, hb3⟩
  have hm := slot e12
  refine wp_seq_k fun Kq2 hKq2 => ?_
  refine wp_seq_k fun Kq3 hKq3 => ?_
  have B113 := B11.below hb3 hzg11
  have n0 := B113.cellOf (v := .int .i64 (P : Int)) 0 rfl
  by_cases hlt : p < P
  ·
    have dj : decide ((p : Int) < (P : Int)) = true := decide_eq_true (by omega)
    refine sm_list [11, 12] 108 4 hs hd (by kernel_rfl) (agC e11 (agC e12 agN)) rfl ?_
    simp only [rq, reOper, reOp, reO, reC, reK, Nat.reduceLeDiff, Nat.reduceEqDiff, ↓reduceIte, Nat.reduceAdd, Nat.reduceSub]
    go_wp2_with fail
    intro a H
    replace hs := H.size.trans hs
    replace hd : a.defers = [] := H.defers
    replace e11 : a.tmps[11]? = some _ := H.got rfl rfl
    replace e12 : a.tmps[12]? = some _ := H.got rfl rfl
    replace e1 := H.keep e1 rfl; replace e3 := H.keep e3 rfl; replace e5 := H.keep e5 rfl; replace e6 := H.keep e6 rfl; replace e10 := H.keep e10 rfl; replace e101 := H.keep e101 rfl; replace e102 := H.keep e102 rfl; replace e103 := H.keep e103 rfl; replace e9 := H.keep e9 rfl
    have e111 : a.tmps[111]? = some _ := H.got rfl rfl
    clear H
    refine hKq3 _ _ ?_
    clear hKq3 Kq3
    refine wp_cond_true (slotE e111) ?_
    clear e111
    refine wp_skip ?_
    refine hKq2 _ _ ?_
    clear hKq2 Kq2
    refine wp_seq_k fun Kq4 hKq4 => ?_
    refine wp_block ?_
    refine wp_seq_k fun Kq5 hKq5 => ?_
    clear dj n0
    have hcp : IntKind.i64.wrap (((cnt + p : Nat) : Int) + 1) = ((cnt + (p + 1) : Nat) : Int) := by rw [wrap64 (by omega) (by omega)]; omega
    refine sm_list [9] 114 2 hs hd (by kernel_rfl) (agC e9 agN) rfl ?_
    simp only [rq, reOper, reOp, reO, reC, reK, Nat.reduceLeDiff, Nat.reduceEqDiff, ↓reduceIte, Nat.reduceAdd, Nat.reduceSub]
    go_wp2_with fail
    intro a H
    replace hs := H.size.trans hs
    replace hd : a.defers = [] := H.defers
    replace e1 := H.keep e1 rfl; replace e3 := H.keep e3 rfl; replace e5 := H.keep e5 rfl; replace e6 := H.keep e6 rfl; replace e10 := H.keep e10 rfl; replace e11 := H.keep e11 rfl; replace e101 := H.keep e101 rfl; replace e102 := H.keep e102 rfl; replace e103 := H.keep e103 rfl; replace e12 := H.keep e12 rfl
    replace e9 : a.tmps[9]? = some _ := H.got rfl rfl
    clear H
    refine hKq5 _ _ ?_
    clear hKq5 Kq5
    refine wp_seq_k fun Kq6 hKq6 => ?_
    have e9b : a.tmps[9]? = some (.int .i64 ((cnt + (p + 1) : Nat) : Int)) := by first | exact e9 | (rw [← hcp]; exact e9) | (rw [e9]; exact congrArg some (congrArg (Value.int .i64) (by omega)))
    replace e9 := e9b
    clear e9b hcp
    have hsz := hb3.size
    have GT3 := HGT.out.keep hb3
    have hends : ((i : Int), (p : Int)) ∈ endsTo C C.nodes.length := PortIn.to ⟨nd, by simp, by simpa using HND.out, by simp, by show (p : Int) < nd.ports; rw [HP.out]; omega⟩
    obtain ⟨v, hv⟩ := Option.isSome_iff_exists.1 ((GT3.has _).2 hends)
    obtain ⟨sv, ss, ts, rfl, hpm, hsrt, hgo, hown⟩ := GT3.row _ v hv
    obtain ⟨Av, cv, rfl, _, hrv⟩ := ownsRow_reads hown
    have htl : ts.length ≤ 100000 := by
      have h1 := goV_len ss 0 ts hgo
      have h2 := hpm.length_eq
      have h3 := atEnd_len S ((i : Int), (p : Int))
      have h4 := HN.out
      omega
    have Bp3 := Bp.below hb3 hzgp
    have k2 := Bp3.cellOf (v := .map (some gG)) 2 rfl
    have HE := Lib.hid GT3.E
    have HV := Lib.hid hv
    have HPG := Lib.hid (And.intro hpm (And.intro hsrt hgo))
    have HRV := Lib.hid hrv
    have HOKE : Hid (okE ((i : Int), (p : Int))) := Lib.hid ⟨by show (0 : Int) ≤ (i : Int); omega, by show (i : Int) < 64; omega, by show (0 : Int) ≤ (p : Int); omega, by show (p : Int) < 64; omega⟩
    clear hv hpm hsrt hgo hown hrv GT3 hends
    refine sm_list [3, 10, 12, 13, 14] 116 9 hs hd (by kernel_rfl) (agC e3 (agC e10 (agC e12 (agU (agU agN))))) rfl ?_
    simp only [rq, reOper, reOp, reO, reC, reK, Nat.reduceLeDiff, Nat.reduceEqDiff, ↓reduceIte, Nat.reduceAdd, Nat.reduceSub]
    go_wp2_with (first | (refine wpList_lookupOk_E rfl (.tmp 7) (.tmp 10) 30 rfl rfl HE.out endKey Try.underlying30 (zero_list _) ((i : Int), (p : Int)) rfl HOKE.out ?_; rw [show (fg ((i : Int), (p : Int))).getD (.agg #[.int .i64 0, .int .i64 0, .slice none 0 0]) = .agg (#[.int .i64 0, .int .i64 C.cycle, .slice Av ts.length cv]) from by rw [HV.out]; rfl, show (fg ((i : Int), (p : Int))).isSome = true from by rw [HV.out]; rfl]) | (refine wpList_store_new rfl 58 (.tmp 3) (.tmp 12) rfl rfl rfl rfl rfl (by kernel_rfl) (by rw [← Array.all_toList]; rfl) ?_) | fail)
    intro a H
    replace hs := H.size.trans hs
    replace hd : a.defers = [] := H.defers
    replace e3 : a.tmps[3]? = some _ := H.got rfl rfl
    replace e10 : a.tmps[10]? = some _ := H.got rfl rfl
    replace e12 : a.tmps[12]? = some _ := H.got rfl rfl
    replace e1 := H.keep e1 rfl; replace e5 := H.keep e5 rfl; replace e6 := H.keep e6 rfl; replace e11 := H.keep e11 rfl; replace e101 := H.keep e101 rfl; replace e102 := H.keep e102 rfl; replace e103 := H.keep e103 rfl; replace e9 := H.keep e9 rfl
    have e13 : a.tmps[13]? = some _ := H.got rfl rfl
    have e14 : a.tmps[14]? = some _ := H.got rfl rfl
    clear H
    refine hKq6 _ _ ?_
    clear hKq6 Kq6
    refine wp_seq_k fun Kq7 hKq7 => ?_
    clear k2 HE HV
    have B13 := Blk.new w3 58 #[.int .i64 0, .int .i64 C.cycle, .slice Av ts.length cv]
    have L4 : Below w3.heap.size w3 (w3.alloc (.cells #[.int .i64 0, .int .i64 C.cycle, .slice Av ts.length cv] 58)) := (Below.refl _ _).alloc (Nat.le_refl _) _
    have hb4 : Below w.heap.size w (w3.alloc (.cells #[.int .i64 0, .int .i64 C.cycle, .slice Av ts.length cv] 58)) := hb3.trans (L4.mono hsz)
    have HRV4 := Lib.hid ((HRV.out.below L4).more L4.size)
    generalize (w3.alloc (.cells #[.int .i64 0, .int .i64 C.cycle, .slice Av ts.length cv] 58)) = w4 at *
    obtain ⟨g13, hg13⟩ : ∃ g, g = w3.heap.size := ⟨_, rfl⟩
    rw [← hg13] at B13 e13
    clear hg13 L4 HRV Bp3 B113 hsz hb3
    have hsz := hb4.size
    have B54 := B5.below hb4 hzg5
    have B64 := B6.below hb4 hzg6
    have hG := rgates_any C R (offV C) (.slice Aw W.length cw) A n c S (i : Int) (p : Int) ss ts w4 rfl ((HR.out.below hb4).more hsz) HN.out (by omega) ⟨HW.out.c1, HW.out.c2⟩ HGD.out HPG.out.1 HPG.out.2.1 HPG.out.2.2 htl
    have HG := Lib.hid hG
    clear hG
    refine sm_list [5, 6, 10, 12, 15] 125 5 hs hd (by kernel_rfl) (agC e5 (agC e6 (agC e10 (agC e12 (agU agN))))) rfl ?_
    simp only [rq, reOper, reOp, reO, reC, reK, Nat.reduceLeDiff, Nat.reduceEqDiff, ↓reduceIte, Nat.reduceAdd, Nat.reduceSub]
    go_wp2_with (first | (refine wpList_load_any_d rfl 42 (.tmp 0) rfl ⟨g5, 0, none⟩ rfl (rfc C R) _ (blk_cells B54) Try.underlying42 rfl (by kernel_rfl) ?_) | (refine wpList_load_any_d rfl 47 (.tmp 1) rfl ⟨g6, 0, none⟩ rfl (#[.int .i64 (offV C), .slice Aw W.length cw, .slice A n c]) _ (blk_cells B64) Try.underlying47 rfl (by kernel_rfl) ?_) | fail)
    refine HG.out.mono ?_
    rintro e w5 ⟨sv2, rfl, hb5, ho5⟩
    obtain ⟨A2, c2, rfl, _, _⟩ := ownsRow_reads ho5
    have HO5 := Lib.hid ho5
    have HB5 := Lib.hid hb5
    clear ho5 hb5
    go_wp2_with (first | (refine wpList_store_new rfl 64 (.tmp 4) (.tmp 9) rfl rfl rfl rfl rfl (by kernel_rfl) (by rw [← Array.all_toList]; rfl) ?_) | fail)
    intro a H
    replace hs := H.size.trans hs
    replace hd : a.defers = [] := H.defers
    replace e5 : a.tmps[5]? = some _ := H.got rfl rfl
    replace e6 : a.tmps[6]? = some _ := H.got rfl rfl
    replace e10 : a.tmps[10]? = some _ := H.got rfl rfl
    replace e12 : a.tmps[12]? = some _ := H.got rfl rfl
    replace e1 := H.keep e1 rfl; replace e3 := H.keep e3 rfl; replace e11 := H.keep e11 rfl; replace e101 := H.keep e101 rfl; replace e102 := H.keep e102 rfl; replace e103 := H.keep e103 rfl; replace e9 := H.keep e9 rfl; replace e13 := H.keep e13 rfl; replace e14 := H.keep e14 rfl
    have e15 : a.tmps[15]? = some _ := H.got rfl rfl
    clear H
    refine hKq7 _ _ ?_
    clear hKq7 Kq7
    refine wp_seq_k fun Kq8 hKq8 => ?_
    refine wp_seq_k fun Kq9 hKq9 => ?_
    clear HG B54 B64
    have B15 := Blk.new w5 64 #[.int .i64 0, .int .i64 C.cycle, .slice A2 ts.length c2]
    have L6 : Below w5.heap.size w5 (w5.alloc (.cells #[.int .i64 0, .int .i64 C.cycle, .slice A2 ts.length c2] 64)) := (Below.refl _ _).alloc (Nat.le_refl _) _
    have hsz5 := HB5.out.size
    have L46 : Below w4.heap.size w4 (w5.alloc (.cells #[.int .i64 0, .int .i64 C.cycle, .slice A2 ts.length c2] 64)) := HB5.out.trans (L6.mono hsz5)
    have HR2 := Lib.hid (Reads.of_own (ownsRow_keep HO5.out L6))
    have hb6 : Below w.heap.size w (w5.alloc (.cells #[.int .i64 0, .int .i64 C.cycle, .slice A2 ts.length c2] 64)) := hb4.trans (L46.mono hsz)
    have B136 := B13.kept L46
    have HR1 := Lib.hid ((HRV4.out.below L46).more L46.size)
    generalize (w5.alloc (.cells #[.int .i64 0, .int .i64 C.cycle, .slice A2 ts.length c2] 64)) = w6 at *
    obtain ⟨g15, hg15⟩ : ∃ g, g = w5.heap.size := ⟨_, rfl⟩
    rw [← hg15] at B15 e15
    clear hg15 L6 L46 HO5 HB5 HRV4 B13 hb4 hsz hsz5
    have f0 := B136.cellOf (v := .int .i64 0) 0 rfl
    have f1 := B136.cellOf (v := .int .i64 C.cycle) 1 rfl
    have f2 := B136.cellOf (v := .slice Av ts.length cv) 2 rfl
    have s1 := B15.cellOf (v := .int .i64 C.cycle) 1 rfl
    have s2 := B15.cellOf (v := .slice A2 ts.length c2) 2 rfl
    refine sm_list [13, 14, 15] 130 23 hs hd (by kernel_rfl) (agC e13 (agC e14 (agC e15 agN))) rfl ?_
    simp only [rq, reOper, reOp, reO, reC, reK, Nat.reduceLeDiff, Nat.reduceEqDiff, ↓reduceIte, Nat.reduceAdd, Nat.reduceSub]
    go_wp2_with fail
    intro a H
    replace hs := H.size.trans hs
    replace hd : a.defers = [] := H.defers
    replace e13 : a.tmps[13]? = some _ := H.got rfl rfl
    replace e14 : a.tmps[14]? = some _ := H.got rfl rfl
    replace e15 : a.tmps[15]? = some _ := H.got rfl rfl
    replace e1 := H.keep e1 rfl; replace e3 := H.keep e3 rfl; replace e5 := H.keep e5 rfl; replace e6 := H.keep e6 rfl; replace e10 := H.keep e10 rfl; replace e11 := H.keep e11 rfl; replace e101 := H.keep e101 rfl; replace e102 := H.keep e102 rfl; replace e103 := H.keep e103 rfl; replace e12 := H.keep e12 rfl; replace e9 := H.keep e9 rfl
    have e152 : a.tmps[152]? = some _ := H.got rfl rfl
    clear H
    refine hKq9 _ _ ?_
    clear hKq9 Kq9
    refine wp_cond_false (slotE e152) ?_
    clear e152
    refine wp_skip ?_
    refine hKq8 _ _ ?_
    clear hKq8 Kq8
    clear f0 f1 f2 s1 s2
    clear e14
    refine pm_slots ts C.cycle Av A2 ts.length cv c2 g13 g15 _ _ _ _ _ _ _ _ _ _ _ a w6 _ hs hd e1 e3 e5 e6 e9 e10 e11 e12 e13 e15 e101 e102 e103 B136 B15 HR1.out HR2.out rfl htl ?_
    clear hs hd e1 e3 e5 e6 e9 e10 e11 e12 e13 e15 e101 e102 e103 B136 B15 a
    intro a w7 hs hd e1 e3 e5 e6 e9 e10 e11 e12 e101 e102 e103 hb7
    refine hKq4 _ _ ?_
    clear hKq4 Kq4
    refine sm_list [12] 112 2 hs hd (by kernel_rfl) (agC e12 agN) rfl ?_
    simp only [rq, reOper, reOp, reO, reC, reK, Nat.reduceLeDiff, Nat.reduceEqDiff, ↓reduceIte, Nat.reduceAdd, Nat.reduceSub]
    go_wp2_with fail
    intro a H
    replace hs := H.size.trans hs
    replace hd : a.defers = [] := H.defers
    replace e1 := H.keep e1 rfl; replace e3 := H.keep e3 rfl; replace e5 := H.keep e5 rfl; replace e6 := H.keep e6 rfl; replace e9 := H.keep e9 rfl; replace e10 := H.keep e10 rfl; replace e11 := H.keep e11 rfl; replace e101 := H.keep e101 rfl; replace e102 := H.keep e102 rfl; replace e103 := H.keep e103 rfl
    replace e12 : a.tmps[12]? = some _ := H.got rfl rfl
    clear H
    exact ⟨⟨p + 1, by omega, hs, hd, e1, e3, e5, e6, e10, e11, e101, e102, e103, e12, e9, hb6.trans (hb7.mono hb6.size)⟩, by first | (simp only [hm, slot e12, intOf]; omega) | (simp [e12, intOf]; omega)⟩
  · have hje : p = P := by omega
    have dj : decide ((p : Int) < (P : Int)) = false := decide_eq_false (by omega)
    have dj2 : decide (p < P) = false := decide_eq_false hlt
    rw [hje] at e9
    clear hlt hm hje
    refine sm_list [11, 12] 108 4 hs hd (by kernel_rfl) (agC e11 (agC e12 agN)) rfl ?_
    simp only [rq, reOper, reOp, reO, reC, reK, Nat.reduceLeDiff, Nat.reduceEqDiff, ↓reduceIte, Nat.reduceAdd, Nat.reduceSub]
    go_wp2_with fail
    intro a H
    replace hs := H.size.trans hs
    replace hd : a.defers = [] := H.defers
    replace e11 : a.tmps[11]? = some _ := H.got rfl rfl
    replace e12 : a.tmps[12]? = some _ := H.got rfl rfl
    replace e1 := H.keep e1 rfl; replace e3 := H.keep e3 rfl; replace e5 := H.keep e5 rfl; replace e6 := H.keep e6 rfl; replace e10 := H.keep e10 rfl; replace e101 := H.keep e101 rfl; replace e102 := H.keep e102 rfl; replace e103 := H.keep e103 rfl; replace e9 := H.keep e9 rfl
    have e111 : a.tmps[111]? = some _ := H.got rfl rfl
    clear H
    refine hKq3 _ _ ?_
    clear hKq3 Kq3
    refine wp_cond_false (slotE e111) ?_
    clear e111
    refine wp_exit ?_
    refine exit_then rfl ?_
    clear hKq2 Kq2
    refine exit_then rfl ?_
    refine exit_hit ?_
    exact HEND.out a w3 hs hd e1 e3 e5 e6 e101 e102 e103 e9 hb3
end Go.Proofs.Ytaegngcbiefckaa

namespace Go.Proofs.Ytaegngcbiefckaa
set_option linter.unusedSimpArgs false
set_option linter.unusedVariables false
open Go.RowKit Go.WideShapes Go.ChangeShapes
attribute [local go_sem ↓] Go.wp_at_zero Go.wp_at_succ

theorem ends_len {C : Cf} {i : Nat} {n : Nd} (h : C.nodes[i]? = some n) : (endsTo C (i + 1)).length = (endsTo C i).length + n.ports.toNat := by
  rw [endsTo_succ, List.length_append, endsOf_some h, List.length_map, List.length_range]
theorem ends_few {C : Cf} (hp : ∀ n ∈ C.nodes, n.ports ≤ 8) : ∀ i, i ≤ C.nodes.length → (endsTo C i).length ≤ 8 * i
  | 0, _ => by simp [endsTo]
  | i + 1, h => by
    obtain ⟨n, hn⟩ : ∃ n, C.nodes[i]? = some n := ⟨_, List.getElem?_eq_getElem (by omega)⟩
    have h1 := ends_few hp i (by omega)
    have h2 := hp n (List.mem_of_getElem? hn)
    rw [ends_len hn]
    omega
theorem RMade.two {C : Cf} {w w' : World} {e : Ending} (h : RMade C w w' e) : ∃ (k off : Int) (vW vS : Value), e = .returned (.tuple #[.agg #[.int .i64 off, vW, vS], .int .i64 k]) ∧ Below w.heap.size w w' ∧ (#[.int .i64 off, vW, vS] : Array Value).all (·.oneCell') = true ∧
    ((k ≠ 0 ∧ makeV C = .error k) ∨ (k = 0 ∧ off = offV C ∧ ∃ (S : List Sp) (W : List (Int × Int)) (Aw A : Option Addr) (cw c : Nat), makeV C = .ok (S, W) ∧ vW = .slice Aw W.length cw ∧ vS = .slice A S.length c ∧ Reads w' w'.heap.size 2 Aw W.length (W.flatMap spc) ∧ Reads w' w'.heap.size 4 A S.length (S.flatMap rsp) ∧ S.length ≤ 1000)) := by
  obtain ⟨h0, ⟨k, h1, rfl⟩ | ⟨S, W, vW, vS, h1, rfl, h3, h4, h5⟩⟩ := h
  · exact ⟨k, 0, _, _, rfl, h0, by rw [← Array.all_toList]; rfl, .inl ⟨make_err_ne h1, h1⟩⟩
  · obtain ⟨Aw, cw, rfl, _, r1⟩ := ownsRow_reads h3
    obtain ⟨A, c, rfl, _, r2⟩ := ownsRow_reads h4
    exact ⟨0, offV C, _, _, rfl, h0, by rw [← Array.all_toList]; rfl, .inr ⟨rfl, rfl, S, W, Aw, A, cw, c, h1, rfl, rfl, r1, r2, h5⟩⟩
set_option maxRecDepth 100000 in
set_option maxHeartbeats 4000000 in
theorem pm_nodes (C : Cf) (Y : Lay) (R : RL) (S : List Sp) (W : List (Int × Int)) (wv : Value) (A Aw : Option Addr) (n c cw g gp g5 g6 B1 gG mg : Nat) (fg : Int × Int → Option Value) (a : Act) (w : World) (Q : Exit → Act → World → Prop)
    (hs : a.tmps.size = 177) (hd : a.defers = []) (e1 : a.tmps[1]? = some (.pointer (some ⟨g, 0, none⟩))) (e3 : a.tmps[3]? = some (.pointer (some ⟨gp, 0, none⟩))) (e5 : a.tmps[5]? = some (.pointer (some ⟨g5, 0, none⟩))) (e6 : a.tmps[6]? = some (.pointer (some ⟨g6, 0, none⟩))) (e9 : a.tmps[9]? = some (.int .i64 0))
    (hC : CfAt w g C Y) (BC : Blk w g 26 (cfc C Y)) (Bp : Blk w gp 32 #[.int .i64 (offV C), wv, .map (some gG)]) (GT : GtM w B1 gG mg fg (endsTo C C.nodes.length) C.cycle S) (hgG : gG < w.heap.size) (B5 : Blk w g5 42 (rfc C R)) (B6 : Blk w g6 47 #[.int .i64 (offV C), .slice Aw W.length cw, .slice A n c]) (hr : Reads w w.heap.size 4 A n (S.flatMap rsp)) (hn : S.length = n) (hnb : n ≤ 1000)
    (hmk : makeV C = .ok (S, W)) (hgood : ∀ x ∈ S, GoodSp C x)
    (hend : ∀ (a : Act) (w' : World), a.tmps.size = 177 → a.defers = [] → a.tmps[3]? = some (.pointer (some ⟨gp, 0, none⟩)) → a.tmps[9]? = some (.int .i64 ((endsTo C C.nodes.length).length : Int)) → Below w.heap.size w w' → Q .normal a w') :
    Code.wp Try.prog (sub [true, true, true, true, true, true, true, true, true, true, true, false] (bodyOf Try.f3)) Q a w := by
  conv => arg 2; whnf
  have HEND := Lib.hid hend
  have HN := Lib.hid hn
  have HR := Lib.hid hr
  have HMK := Lib.hid hmk
  have HGD := Lib.hid hgood
  have HGT := Lib.hid GT
  have HW := Lib.hid (well (makeV_ok.1 hmk).1)
  have hn16 : (C.nodes.length : Int) ≤ 16 := HW.out.off.n2
  have HP8 : Hid (∀ n ∈ C.nodes, n.ports ≤ 8) := Lib.hid fun n hn => (HW.out.nodes n hn).2
  have HC := Lib.hid hC
  clear hend hn hr hmk hgood GT hC
  have hzgp : gp < w.heap.size := Bp.lt
  have hzg5 : g5 < w.heap.size := B5.lt
  have hzg6 : g6 < w.heap.size := B6.lt
  have hzg : g < w.heap.size := BC.lt
  refine wp_seq_k fun Kq1 hKq1 => ?_
  have c0 := BC.cellOf (v := .slice Y.N.A C.nodes.length Y.N.c) 0 rfl
  refine sm_list [1] 100 4 hs hd (by kernel_rfl) (agC e1 agN) rfl ?_
  simp only [rq, reOper, reOp, reO, reC, reK, Nat.reduceLeDiff, Nat.reduceEqDiff, ↓reduceIte, Nat.reduceAdd, Nat.reduceSub]
  go_wp2_with fail
  intro a H
  replace hs := H.size.trans hs
  replace hd : a.defers = [] := H.defers
  replace e1 : a.tmps[1]? = some _ := H.got rfl rfl
  replace e3 := H.keep e3 rfl; replace e5 := H.keep e5 rfl; replace e6 := H.keep e6 rfl; replace e9 := H.keep e9 rfl
  have e101 : a.tmps[101]? = some _ := H.got rfl rfl
  have e102 : a.tmps[102]? = some _ := H.got rfl rfl
  have e103 : a.tmps[103]? = some _ := H.got rfl rfl
  clear H
  refine hKq1 _ _ ?_
  clear hKq1 Kq1
  refine wp_block ?_
  clear c0
  refine wp_loop (fun a w' => ∃ i : Nat, i ≤ C.nodes.length ∧ a.tmps.size = 177 ∧ a.defers = [] ∧ a.tmps[1]? = some (.pointer (some ⟨g, 0, none⟩)) ∧ a.tmps[3]? = some (.pointer (some ⟨gp, 0, none⟩)) ∧ a.tmps[5]? = some (.pointer (some ⟨g5, 0, none⟩)) ∧ a.tmps[6]? = some (.pointer (some ⟨g6, 0, none⟩)) ∧ a.tmps[101]? = some (.slice Y.N.A C.nodes.length Y.N.c) ∧ a.tmps[102]? = some (.int .i64 (C.nodes.length : Int)) ∧ a.tmps[103]? = some (.int .i64 (i : Int)) ∧ a.tmps[9]? = some (.int .i64 ((endsTo C i).length : Int)) ∧ Below w.heap.size w w') (fun a _ => C.nodes.length - (intOf (a.tmps.getD 103 undef)).toNat) ?_ ?_
  · exact ⟨0, Nat.zero_le _, hs, hd, e1, e3, e5, e6, e101, e102, e103, e9, Below.refl _ _⟩
  clear hs hd e103 e9 e1 e3 e5 e6 e101 e102 a
  rintro a w3 ⟨i, hi, hs, hd, e1, e3, e5, e6, e101, e102, e103, e9, hb3⟩
  have hm := slot e103
  obtain ⟨cnt, hcnt⟩ : ∃ z, z = (endsTo C i).length := ⟨_, rfl⟩
  rw [← hcnt] at e9
  have HCN := Lib.hid hcnt
  have hcn : cnt ≤ 1000 := by have := ends_few HP8.out i hi; omega
  clear hcnt
  refine wp_seq_k fun Kq2 hKq2 => ?_
  by_cases hlt : i < C.nodes.length
  ·
    have dj : decide ((i : Int) < (C.nodes.length : Int)) = true := decide_eq_true (by omega)
    obtain ⟨nd, hnd⟩ : ∃ n, C.nodes[i]? = some n := ⟨_, List.getElem?_eq_getElem hlt⟩
    have hsz := hb3.size
    obtain ⟨ad, hA, hadb, hcl⟩ := reads_at ndc_len (HC.out.below (hb3.mono (Nat.le_of_lt hzg))).nodes hnd hlt
    obtain ⟨P, hP⟩ : ∃ P : Nat, nd.ports = (P : Int) := ⟨nd.ports.toNat, by have := (HW.out.nodes nd (List.mem_of_getElem? hnd)).1; omega⟩
    have HND := Lib.hid hnd
    have HCL := Lib.hid hcl
    have HA := Lib.hid hA
    have HPP := Lib.hid hP
    clear hnd hcl hA hP
    rw [HA.out] at e101
    refine sm_list [102, 103] 104 1 hs hd (by kernel_rfl) (agC e102 (agC e103 agN)) rfl ?_
    simp only [rq, reOper, reOp, reO, reC, reK, Nat.reduceLeDiff, Nat.reduceEqDiff, ↓reduceIte, Nat.reduceAdd, Nat.reduceSub]
    go_wp2_with fail
    intro a H
    replace hs := H.size.trans hs
    replace hd : a.defers = [] := H.defers
    replace e102 : a.tmps[102]? = some _ := H.got rfl rfl
    replace e103 : a.tmps[103]? = some _ := H.got rfl rfl
    replace e1 := H.keep e1 rfl; replace e3 := H.keep e3 rfl; replace e5 := H.keep e5 rfl; replace e6 := H.keep e6 rfl; replace e101 := H.keep e101 rfl; replace e9 := H.keep e9 rfl
    have e104 : a.tmps[104]? = some _ := H.got rfl rfl
    clear H
    refine hKq2 _ _ ?_
    clear hKq2 Kq2
    refine wp_seq_k fun Kq3 hKq3 => ?_
    refine wp_cond_true (slotE e104) ?_
    clear e104
    refine wp_skip ?_
    refine hKq3 _ _ ?_
    clear hKq3 Kq3
    refine wp_seq_k fun Kq4 hKq4 => ?_
    refine wp_block ?_
    refine wp_seq_k fun Kq5 hKq5 => ?_
    refine sm_list [10, 11, 101, 103] 105 3 hs hd (by kernel_rfl) (agU (agU (agC e101 (agC e103 agN)))) rfl ?_
    simp only [rq, reOper, reOp, reO, reC, reK, Nat.reduceLeDiff, Nat.reduceEqDiff, ↓reduceIte, Nat.reduceAdd, Nat.reduceSub]
    go_wp2_with (first | (refine wpList_load_any_d rfl 55 (.tmp 5) rfl (ad.add (i * 2)) rfl (#[.int .i64 nd.ports, .bool nd.br]) _ (fun j u hu => HCL.out j u hu) Try.underlying55 rfl (by kernel_rfl) ?_) | (refine wpList_store_new rfl 55 (.tmp 1) (.tmp 6) rfl rfl rfl rfl rfl (by kernel_rfl) (by rw [← Array.all_toList]; rfl) ?_) | fail)
    intro a H
    replace hs := H.size.trans hs
    replace hd : a.defers = [] := H.defers
    replace e101 : a.tmps[101]? = some _ := H.got rfl rfl
    replace e103 : a.tmps[103]? = some _ := H.got rfl rfl
    replace e1 := H.keep e1 rfl; replace e3 := H.keep e3 rfl; replace e5 := H.keep e5 rfl; replace e6 := H.keep e6 rfl; replace e102 := H.keep e102 rfl; replace e9 := H.keep e9 rfl
    have e10 : a.tmps[10]? = some _ := H.got rfl rfl
    have e11 : a.tmps[11]? = some _ := H.got rfl rfl
    clear H
    refine hKq5 _ _ ?_
    clear hKq5 Kq5
    rw [← HA.out] at e101
    have B11 := Blk.new w3 55 #[.int .i64 nd.ports, .bool nd.br]
    have L4 : Below w3.heap.size w3 (w3.alloc (.cells #[.int .i64 nd.ports, .bool nd.br] 55)) := (Below.refl _ _).alloc (Nat.le_refl _) _
    have hb4 : Below w.heap.size w (w3.alloc (.cells #[.int .i64 nd.ports, .bool nd.br] 55)) := hb3.trans (L4.mono hsz)
    generalize (w3.alloc (.cells #[.int .i64 nd.ports, .bool nd.br] 55)) = w4 at *
    obtain ⟨g11, hg11⟩ : ∃ g, g = w3.heap.size := ⟨_, rfl⟩
    rw [← hg11] at B11 e11
    rw [HPP.out] at B11
    have hsz4 := hb4.size
    clear hg11 L4 hb3 hsz dj
    refine pm_ports C R S W nd wv A Aw n c cw i P cnt gp g5 g6 g11 B1 gG mg fg _ _ _ _ a w4 _ hs hd e1 e3 e5 e6 e9 e10 e11 e101 e102 e103 (Bp.below hb4 hzgp) (HGT.out.keep hb4) (by omega) (B5.below hb4 hzg5) (B6.below hb4 hzg6) B11 ((HR.out.below hb4).more hsz4) HN.out hnb HMK.out HGD.out HND.out HPP.out hcn ?_
    clear hs hd e1 e3 e5 e6 e9 e10 e11 e101 e102 e103 B11 a
    intro a w7 hs hd e1 e3 e5 e6 e101 e102 e103 e9 hb7
    refine hKq4 _ _ ?_
    clear hKq4 Kq4
    refine sm_list [103] 171 1 hs hd (by kernel_rfl) (agC e103 agN) rfl ?_
    simp only [rq, reOper, reOp, reO, reC, reK, Nat.reduceLeDiff, Nat.reduceEqDiff, ↓reduceIte, Nat.reduceAdd, Nat.reduceSub]
    go_wp2_with fail
    intro a H
    replace hs := H.size.trans hs
    replace hd : a.defers = [] := H.defers
    replace e1 := H.keep e1 rfl; replace e3 := H.keep e3 rfl; replace e5 := H.keep e5 rfl; replace e6 := H.keep e6 rfl; replace e101 := H.keep e101 rfl; replace e102 := H.keep e102 rfl; replace e9 := H.keep e9 rfl
    replace e103 : a.tmps[103]? = some _ := H.got rfl rfl
    clear H
    have hnx : cnt + P = (endsTo C (i + 1)).length := by rw [HCN.out, ends_len HND.out, HPP.out]; simp
    rw [hnx] at e9
    exact ⟨⟨i + 1, by omega, hs, hd, e1, e3, e5, e6, e101, e102, e103, e9, hb4.trans (hb7.mono hsz4)⟩, by first | (simp only [hm, slot e103, intOf]; omega) | (simp [e103, intOf]; omega)⟩
  · have hje : i = C.nodes.length := by omega
    have dj : decide ((i : Int) < (C.nodes.length : Int)) = false := decide_eq_false (by omega)
    have dj2 : decide (i < C.nodes.length) = false := decide_eq_false hlt
    rw [HCN.out, hje] at e9
    clear hlt hm hje
    refine sm_list [102, 103] 104 1 hs hd (by kernel_rfl) (agC e102 (agC e103 agN)) rfl ?_
    simp only [rq, reOper, reOp, reO, reC, reK, Nat.reduceLeDiff, Nat.reduceEqDiff, ↓reduceIte, Nat.reduceAdd, Nat.reduceSub]
    go_wp2_with fail
    intro a H
    replace hs := H.size.trans hs
    replace hd : a.defers = [] := H.defers
    replace e102 : a.tmps[102]? = some _ := H.got rfl rfl
    replace e103 : a.tmps[103]? = some _ := H.got rfl rfl
    replace e1 := H.keep e1 rfl; replace e3 := H.keep e3 rfl; replace e5 := H.keep e5 rfl; replace e6 := H.keep e6 rfl; replace e101 := H.keep e101 rfl; replace e9 := H.keep e9 rfl
    have e104 : a.tmps[104]? = some _ := H.got rfl rfl
    clear H
    refine hKq2 _ _ ?_
    clear hKq2 Kq2
    refine wp_seq_k fun Kq3 hKq3 => ?_
    refine wp_cond_false (slotE e104) ?_
    clear e104
    refine wp_exit ?_
    refine exit_then rfl ?_
    clear hKq3 Kq3
    refine exit_then rfl ?_
    refine exit_hit ?_
    exact HEND.out a w3 hs hd e3 e9 hb3
end Go.Proofs.Ytaegngcbiefckaa

namespace Go.Proofs.Ytaegngcbiefckaa
set_option linter.unusedSimpArgs false
set_option linter.unusedVariables false
open Go.RowKit Go.WideShapes Go.ChangeShapes
attribute [local go_sem ↓] Go.wp_at_zero Go.wp_at_succ

set_option maxRecDepth 100000 in
set_option maxHeartbeats 4000000 in
theorem pm_wins (offp : Int) (mv : Value) (vS : Value) (W : List (Int × Int)) (A1 A2 : Option Addr) (n c1 c2 g gp g5 g6 : Nat) (a : Act) (w : World) (Q : Exit → Act → World → Prop)
    (hs : a.tmps.size = 177) (hd : a.defers = []) (e1 : a.tmps[1]? = some (.pointer (some ⟨g, 0, none⟩))) (e3 : a.tmps[3]? = some (.pointer (some ⟨gp, 0, none⟩))) (e5 : a.tmps[5]? = some (.pointer (some ⟨g5, 0, none⟩))) (e6 : a.tmps[6]? = some (.pointer (some ⟨g6, 0, none⟩)))
    (Bp : Blk w gp 32 #[.int .i64 offp, .slice A1 n c1, mv]) (B6 : Blk w g6 47 #[.int .i64 offp, .slice A2 n c2, vS]) (h1 : Reads w w.heap.size 2 A1 n (W.flatMap spc)) (h2 : Reads w w.heap.size 2 A2 n (W.flatMap spc)) (hn : W.length = n) (hnb : n ≤ 1000)
    (hend : ∀ (a : Act) (w' : World), a.tmps.size = 177 → a.defers = [] → a.tmps[1]? = some (.pointer (some ⟨g, 0, none⟩)) → a.tmps[3]? = some (.pointer (some ⟨gp, 0, none⟩)) → a.tmps[5]? = some (.pointer (some ⟨g5, 0, none⟩)) → a.tmps[6]? = some (.pointer (some ⟨g6, 0, none⟩)) → Below w.heap.size w w' → Q .normal a w') :
    Code.wp Try.prog (sub [true, true, true, true, true, true, true, true, true, false] (bodyOf Try.f3)) Q a w := by
  conv => arg 2; whnf
  have HEND := Lib.hid hend
  have HN := Lib.hid hn
  have H1 := Lib.hid h1
  have H2 := Lib.hid h2
  clear hend hn h1 h2
  have hzp : gp < w.heap.size := Bp.lt
  have hz6 : g6 < w.heap.size := B6.lt
  have s2 := B6.cellOf (v := .slice A2 n c2) 1 rfl
  refine wp_seq_k fun Kq1 hKq1 => ?_
  refine sm_list [6] 74 4 hs hd (by kernel_rfl) (agC e6 agN) rfl ?_
  simp only [rq, reOper, reOp, reO, reC, reK, Nat.reduceLeDiff, Nat.reduceEqDiff, ↓reduceIte, Nat.reduceAdd, Nat.reduceSub]
  go_wp2_with fail
  intro a H
  replace hs := H.size.trans hs
  replace hd : a.defers = [] := H.defers
  replace e6 : a.tmps[6]? = some _ := H.got rfl rfl
  replace e1 := H.keep e1 rfl; replace e3 := H.keep e3 rfl; replace e5 := H.keep e5 rfl
  have e76 : a.tmps[76]? = some _ := H.got rfl rfl
  have e77 : a.tmps[77]? = some _ := H.got rfl rfl
  clear H
  refine hKq1 _ _ ?_
  clear hKq1 Kq1
  refine wp_block ?_
  clear s2
  refine wp_loop (fun a w' => ∃ j : Nat, j ≤ n ∧ a.tmps.size = 177 ∧ a.defers = [] ∧ a.tmps[1]? = some (.pointer (some ⟨g, 0, none⟩)) ∧ a.tmps[3]? = some (.pointer (some ⟨gp, 0, none⟩)) ∧ a.tmps[5]? = some (.pointer (some ⟨g5, 0, none⟩)) ∧ a.tmps[6]? = some (.pointer (some ⟨g6, 0, none⟩)) ∧ a.tmps[76]? = some (.int .i64 (n : Int)) ∧ a.tmps[77]? = some (.int .i64 (j : Int)) ∧ Below w.heap.size w w') (fun a _ => n - (intOf (a.tmps.getD 77 undef)).toNat) ?_ ?_
  · exact ⟨0, Nat.zero_le _, hs, hd, e1, e3, e5, e6, e76, e77, Below.refl _ _⟩
  clear hs hd e77 e1 e3 e5 e6 e76 a
  rintro a w3 ⟨j, hj, hs, hd, e1, e3, e5, e6, e76, e77, hb3⟩
  have hm := slot e77
  refine wp_seq_k fun Kq2 hKq2 => ?_
  by_cases hlt : j < n
  ·
    have dj : decide ((j : Int) < (n : Int)) = true := decide_eq_true (by omega)
    obtain ⟨⟨x1, x2⟩, hx⟩ : ∃ x, W[j]? = some x := ⟨_, List.getElem?_eq_getElem (by rw [HN.out]; exact hlt)⟩
    obtain ⟨ad1, hA1, hb1, hc1⟩ := reads_at spc_len (H1.out.below hb3) hx hlt
    obtain ⟨ad2, hA2, hb2, hc2⟩ := reads_at spc_len (H2.out.below hb3) hx hlt
    have hsz := hb3.size
    have z1x := (Bp.below hb3 hzp).cellOf (v := .slice A1 n c1) 1 rfl
    have z2x := (B6.below hb3 hz6).cellOf (v := .slice A2 n c2) 1 rfl
    rw [hA1] at z1x
    rw [hA2] at z2x
    refine sm_list [76, 77] 78 1 hs hd (by kernel_rfl) (agC e76 (agC e77 agN)) rfl ?_
    simp only [rq, reOper, reOp, reO, reC, reK, Nat.reduceLeDiff, Nat.reduceEqDiff, ↓reduceIte, Nat.reduceAdd, Nat.reduceSub]
    go_wp2_with fail
    intro a H
    replace hs := H.size.trans hs
    replace hd : a.defers = [] := H.defers
    replace e76 : a.tmps[76]? = some _ := H.got rfl rfl
    replace e77 : a.tmps[77]? = some _ := H.got rfl rfl
    replace e1 := H.keep e1 rfl; replace e3 := H.keep e3 rfl; replace e5 := H.keep e5 rfl; replace e6 := H.keep e6 rfl
    have e78 : a.tmps[78]? = some _ := H.got rfl rfl
    clear H
    refine hKq2 _ _ ?_
    clear hKq2 Kq2
    refine wp_seq_k fun Kq3 hKq3 => ?_
    refine wp_cond_true (slotE e78) ?_
    clear e78
    refine wp_skip ?_
    refine hKq3 _ _ ?_
    clear hKq3 Kq3
    refine wp_seq_k fun Kq4 hKq4 => ?_
    refine wp_block ?_
    refine wp_seq_k fun Kq5 hKq5 => ?_
    refine sm_list [8, 77] 79 1 hs hd (by kernel_rfl) (agU (agC e77 agN)) rfl ?_
    simp only [rq, reOper, reOp, reO, reC, reK, Nat.reduceLeDiff, Nat.reduceEqDiff, ↓reduceIte, Nat.reduceAdd, Nat.reduceSub]
    go_wp2_with fail
    intro a H
    replace hs := H.size.trans hs
    replace hd : a.defers = [] := H.defers
    replace e77 : a.tmps[77]? = some _ := H.got rfl rfl
    replace e1 := H.keep e1 rfl; replace e3 := H.keep e3 rfl; replace e5 := H.keep e5 rfl; replace e6 := H.keep e6 rfl; replace e76 := H.keep e76 rfl
    have e8 : a.tmps[8]? = some _ := H.got rfl rfl
    clear H
    refine hKq5 _ _ ?_
    clear hKq5 Kq5
    refine wp_seq_k fun Kq6 hKq6 => ?_
    clear dj
    have hneq := fun W => run_neq_win (x1, x2) (x1, x2) W
    simp only [decide_true, Bool.not_true] at hneq
    have hgpw : gp < w3.heap.size := Nat.lt_of_lt_of_le hzp hsz
    have hg6w : g6 < w3.heap.size := Nat.lt_of_lt_of_le hz6 hsz
    have hj0 : (0 : Int) ≤ (j : Int) := by omega
    have hjn : (j : Int) < (n : Int) := by omega
    have HC1 : Hid (∀ w', Below w3.heap.size w3 w' → ∀ q v, (#[.int .i64 x1, .int .i64 x2] : Array Value).toList[q]? = some v → w'.cell? ((ad1.add (j * 2)).add q) = some v) := Lib.hid fun w' hw' q v hv => (hw'.cell (p := (ad1.add (j * 2)).add q) (by rw [add_blk, add_blk]; omega)).trans (hc1 q v hv)
    have HC2 : Hid (∀ w', Below w3.heap.size w3 w' → w'.cell? (ad2.add (j * 2)) = some (.int .i64 x1) ∧ w'.cell? ⟨(ad2.add (j * 2)).block, (ad2.add (j * 2)).off + 1, none⟩ = some (.int .i64 x2) ∧ w'.cell? ⟨gp, 1, none⟩ = some (.slice (some ad1) n c1) ∧ w'.cell? ⟨g6, 1, none⟩ = some (.slice (some ad2) n c2)) := Lib.hid fun w' hw' => ⟨(hw'.cell (p := ad2.add (j * 2)) (by rw [add_blk]; omega)).trans (hc2 0 _ rfl), (hw'.cell (p := ⟨(ad2.add (j * 2)).block, (ad2.add (j * 2)).off + 1, none⟩) (by show (ad2.add (j * 2)).block < _; rw [add_blk]; omega)).trans (hc2 1 _ rfl), (hw'.cell (p := ⟨gp, 1, none⟩) hgpw).trans z1x, (hw'.cell (p := ⟨g6, 1, none⟩) hg6w).trans z2x⟩
    clear hc1 hc2 hx hA1 hA2 z1x z2x
    suffices HK : ∀ (a' : Act) (w4 : World), a'.tmps.size = a.tmps.size → a'.defers = [] → a'.tmps[1]? = a.tmps[1]? → a'.tmps[3]? = a.tmps[3]? → a'.tmps[5]? = a.tmps[5]? → a'.tmps[6]? = a.tmps[6]? → a'.tmps[76]? = a.tmps[76]? → a'.tmps[77]? = a.tmps[77]? → a'.tmps[8]? = a.tmps[8]? → a'.tmps[98]? = some (.bool false) → Below w3.heap.size w3 w4 → Kq6 a' w4 by
      refine sm_any [3, 6, 8] 80 19 (by kernel_rfl) hs hd (by kernel_rfl) (agC e3 (agC e6 (agC e8 agN))) rfl (any_class (fun w' => Below w3.heap.size w3 w') (by kernel_rfl) ((Below.refl _ _).drew) ?_)
      simp only [rq, reOper, reOp, reO, reC, reK, Nat.reduceLeDiff, Nat.reduceEqDiff, ↓reduceIte, Nat.reduceAdd, Nat.reduceSub]
      repeat (first | (with_reducible (refine wpQuiet_skip ?_ ?_); (first | exact wanted_off rfl rfl rfl rfl | exact wanted_off2 rfl rfl rfl); simp only [Act.put, List.setIfInBounds_toArray, List.set_cons_zero, List.set_cons_succ]) | (refine wpQuiet_val (v := .agg #[.int .i64 x1, .int .i64 x2]) ?_ (fun w' hw' => run_load_cells_d 52 (.tmp 6) rfl (ad1.add (j * 2)) rfl (#[.int .i64 x1, .int .i64 x2]) (HC1.out w' hw') Try.underlying52 rfl (by kernel_rfl)) ?_; (first | exact wanted_none rfl | exact wanted_on rfl rfl rfl); simp only [Act.put, List.setIfInBounds_toArray, List.set_cons_zero, List.set_cons_succ]) | (with_reducible (refine wpQuiet_val (v := ?_) ?_ ?_ ?_); rotate_left; (first | exact wanted_none rfl | exact wanted_on rfl rfl rfl); (intro w' hw'; obtain ⟨q1, q2, q3, q4⟩ := HC2.out w' hw'; go_simp; with_reducible rfl); simp only [Act.put, List.setIfInBounds_toArray, List.set_cons_zero, List.set_cons_succ]))
      refine wpQuiet_nil ?_
      intro w4 hw6
      all_goals
        intro a' H
        refine HK a' _ H.size H.defers (H.out 1 rfl) ((H.got rfl rfl).trans e3.symm) (H.out 5 rfl) ((H.got rfl rfl).trans e6.symm) (H.out 76 rfl) (H.out 77 rfl) ((H.got rfl rfl).trans e8.symm) ?_ ?_
        · exact H.got rfl rfl
        · exact hw6
    intro a' w4 g_s g_d g1 g3 g5 g6 g76 g77 g8 f98 hb4
    replace hs := g_s.trans hs
    replace hd := g_d
    replace e1 := g1.trans e1
    replace e3 := g3.trans e3
    replace e5 := g5.trans e5
    replace e6 := g6.trans e6
    replace e76 := g76.trans e76
    replace e77 := g77.trans e77
    replace e8 := g8.trans e8
    clear g_s g_d g1 g3 g5 g6 g76 g77 g8
    have e98 := f98
    clear f98
    clear a
    obtain ⟨a, rfl⟩ : ∃ a, a = a' := ⟨_, rfl⟩
    refine hKq6 _ _ ?_
    clear hKq6 Kq6
    refine wp_cond_false (slotE e98) ?_
    clear e98
    refine wp_skip ?_
    refine hKq4 _ _ ?_
    clear hKq4 Kq4
    clear e8
    clear hneq HC1 HC2
    refine sm_list [77] 99 1 hs hd (by kernel_rfl) (agC e77 agN) rfl ?_
    simp only [rq, reOper, reOp, reO, reC, reK, Nat.reduceLeDiff, Nat.reduceEqDiff, ↓reduceIte, Nat.reduceAdd, Nat.reduceSub]
    go_wp2_with fail
    intro a H
    replace hs := H.size.trans hs
    replace hd : a.defers = [] := H.defers
    replace e1 := H.keep e1 rfl; replace e3 := H.keep e3 rfl; replace e5 := H.keep e5 rfl; replace e6 := H.keep e6 rfl; replace e76 := H.keep e76 rfl
    replace e77 : a.tmps[77]? = some _ := H.got rfl rfl
    clear H
    exact ⟨⟨j + 1, by omega, hs, hd, e1, e3, e5, e6, e76, e77, hb3.trans (hb4.mono hsz)⟩, by first | (simp only [hm, slot e77, intOf]; omega) | (simp [e77, intOf]; omega)⟩
  · have hje : j = n := by omega
    have dj : decide ((j : Int) < (n : Int)) = false := decide_eq_false (by omega)
    have dj2 : decide (j < n) = false := decide_eq_false hlt
    clear hlt hm hje
    refine sm_list [76, 77] 78 1 hs hd (by kernel_rfl) (agC e76 (agC e77 agN)) rfl ?_
    simp only [rq, reOper, reOp, reO, reC, reK, Nat.reduceLeDiff, Nat.reduceEqDiff, ↓reduceIte, Nat.reduceAdd, Nat.reduceSub]
    go_wp2_with fail
    intro a H
    replace hs := H.size.trans hs
    replace hd : a.defers = [] := H.defers
    replace e76 : a.tmps[76]? = some _ := H.got rfl rfl
    replace e77 : a.tmps[77]? = some _ := H.got rfl rfl
    replace e1 := H.keep e1 rfl; replace e3 := H.keep e3 rfl; replace e5 := H.keep e5 rfl; replace e6 := H.keep e6 rfl
    have e78 : a.tmps[78]? = some _ := H.got rfl rfl
    clear H
    refine hKq2 _ _ ?_
    clear hKq2 Kq2
    refine wp_seq_k fun Kq3 hKq3 => ?_
    refine wp_cond_false (slotE e78) ?_
    clear e78
    refine wp_exit ?_
    refine exit_then rfl ?_
    clear hKq3 Kq3
    refine exit_then rfl ?_
    refine exit_hit ?_
    exact HEND.out a w3 hs hd e1 e3 e5 e6 hb3
end Go.Proofs.Ytaegngcbiefckaa

namespace Go.Proofs.Ytaegngcbiefckaa
set_option linter.unusedSimpArgs false
set_option linter.unusedVariables false
open Go.RowKit Go.WideShapes Go.ChangeShapes
attribute [local go_sem ↓] Go.wp_at_zero Go.wp_at_succ

set_option maxRecDepth 100000 in
set_option maxHeartbeats 4000000 in
theorem makes_any (C : Cf) (Y : Lay) (w : World) (hC : CfAt w w.heap.size C Y) : Calls Try.prog 3 #[.agg (cfc C Y)] w fun e w' => e = .returned (.bool true) ∧ Below w.heap.size w w' := by
  refine calls_sm (N := 177) Try.func3 rfl (by kernel_rfl) ?_
  intro a hs hd ha
  have e0 : a.tmps[0]? = some (.agg (cfc C Y)) := ha 0 _ rfl
  clear ha
  conv => arg 2; whnf
  refine wp_seq_k fun Kq1 hKq1 => ?_
  refine sm_list [0] 1 2 hs hd (by kernel_rfl) (agC e0 agN) rfl ?_
  simp only [rq, reOper, reOp, reO, reC, reK, Nat.reduceLeDiff, Nat.reduceEqDiff, ↓reduceIte, Nat.reduceAdd, Nat.reduceSub]
  go_wp2_with fail
  intro a H
  replace hs := H.size.trans hs
  replace hd : a.defers = [] := H.defers
  clear e0
  have e1 : a.tmps[1]? = some _ := H.got rfl rfl
  clear H
  refine hKq1 _ _ ?_
  clear hKq1 Kq1
  refine wp_seq_k fun Kq2 hKq2 => ?_
  refine wp_seq_k fun Kq3 hKq3 => ?_
  have BC := Blk.new w 26 (cfc C Y)
  have L0 : Below w.heap.size w (w.alloc (.cells (cfc C Y) 26)) := (Below.refl _ _).alloc (Nat.le_refl _) _
  have hz1 : w.heap.size < (w.alloc (.cells (cfc C Y) 26)).heap.size := by simp
  replace hC := (hC.below L0)
  generalize w.alloc (.cells (cfc C Y) 26) = w1 at *
  obtain ⟨g, hg⟩ : ∃ g, g = w.heap.size := ⟨_, rfl⟩
  rw [← hg] at BC hz1 hC e1 L0
  have HG := Lib.hid hg
  clear hg
  have HH := Lib.hid (head_any w1)
  have hgz1 : g < w1.heap.size := BC.lt
  refine sm_list [] 17 2 hs hd (by kernel_rfl) agN rfl ?_
  simp only [rq, reOper, reOp, reO, reC, reK, Nat.reduceLeDiff, Nat.reduceEqDiff, ↓reduceIte, Nat.reduceAdd, Nat.reduceSub]
  go_wp2_with fail
  refine HH.out.mono ?_
  rintro e w2 ⟨rfl, hb2⟩
  go_wp2_with fail
  intro a H
  replace hs := H.size.trans hs
  replace hd : a.defers = [] := H.defers
  replace e1 := H.keep e1 rfl
  have e18 : a.tmps[18]? = some _ := H.got rfl rfl
  clear H
  refine hKq3 _ _ ?_
  clear hKq3 Kq3
  refine wp_cond_false (slotE e18) ?_
  clear e18
  refine wp_skip ?_
  refine hKq2 _ _ ?_
  clear hKq2 Kq2
  refine wp_seq_k fun Kq4 hKq4 => ?_
  refine wp_seq_k fun Kq5 hKq5 => ?_
  clear HH
  have L2 : Below g w w2 := L0.trans (hb2.mono (Nat.le_of_lt hgz1))
  have BC2 := BC.kept hb2
  have hC2 := hC.below (hb2.mono (Nat.le_of_lt hgz1))
  have hgz2 : g < w2.heap.size := BC2.lt
  clear BC hC L0 hb2
  have HBG := Lib.hid (big_any C Y w2 (hC2.more (Nat.le_of_lt hgz2)))
  obtain ⟨B, hB⟩ : ∃ B, B = bigV C := ⟨_, rfl⟩
  rw [← hB] at HBG
  have HB := Lib.hid hB
  clear hB
  obtain ⟨R, hR⟩ : ∃ R, R = B := ⟨_, rfl⟩
  have HR := Lib.hid hR
  clear hR
  suffices HK : ∀ (a' : Act) (w3 : World), a'.tmps.size = a.tmps.size → a'.defers = [] → a'.tmps[1]? = a.tmps[1]? → a'.tmps[20]? = some (.bool R) → Below w2.heap.size w2 w3 → Kq5 a' w3 by
    refine sm_list [1] 19 2 hs hd (by kernel_rfl) (agC e1 agN) rfl ?_
    simp only [rq, reOper, reOp, reO, reC, reK, Nat.reduceLeDiff, Nat.reduceEqDiff, ↓reduceIte, Nat.reduceAdd, Nat.reduceSub]
    go_wp2_with (first | (refine wpList_load_any_d rfl 26 (.tmp 0) rfl ⟨g, 0, none⟩ rfl (cfc C Y) _ (blk_cells BC2) Try.underlying26 rfl (by kernel_rfl) ?_) | fail)
    refine HBG.out.mono ?_
    rintro e w3 ⟨rfl, hb3⟩
    go_wp2_with fail
    all_goals
      intro a' H
      refine HK a' _ H.size H.defers ((H.got rfl rfl).trans e1.symm) ?_ ?_
      · (refine (H.got (t := 20) rfl rfl).trans (congrArg some ?_); rw [HR.out])
      · exact hb3
  intro a' w3 g_s g_d g1 f20 hb3
  replace hs := g_s.trans hs
  replace hd := g_d
  replace e1 := g1.trans e1
  clear g_s g_d g1
  have e20 := f20
  clear f20
  clear a
  obtain ⟨a, rfl⟩ : ∃ a, a = a' := ⟨_, rfl⟩
  refine hKq5 _ _ ?_
  clear hKq5 Kq5
  have L3 : Below g w w3 := L2.trans (hb3.mono (Nat.le_of_lt hgz2))
  have BC3 := BC2.kept hb3
  have hC3 := hC2.below (hb3.mono (Nat.le_of_lt hgz2))
  have hgz3 : g < w3.heap.size := BC3.lt
  clear BC2 hC2 L2 hb3 HBG
  rcases (by cases R <;> simp : R = true ∨ R = false) with rfl | rfl
  ·
    refine wp_cond_true (slotE e20) ?_
    clear e20
    refine wp_seq_k fun Kq6 hKq6 => ?_
    refine sm_list [] 2 1 hs hd (by kernel_rfl) agN rfl ?_
    simp only [rq, reOper, reOp, reO, reC, reK, Nat.reduceLeDiff, Nat.reduceEqDiff, ↓reduceIte, Nat.reduceAdd, Nat.reduceSub]
    go_wp2_with fail
    intro a H
    replace hs := H.size.trans hs
    replace hd : a.defers = [] := H.defers
    replace e1 := H.keep e1 rfl
    have e2 : a.tmps[2]? = some _ := H.got rfl rfl
    clear H
    refine hKq6 _ _ ?_
    clear hKq6 Kq6
    refine wp_ret ?_
    refine exit_then rfl ?_
    exact sm_ret rfl hd e2 ⟨rfl, by rw [← HG.out]; exact L3⟩
  · have hbf1 : B = false := HR.out.symm
    have hbig : bigV C = false := HB.out.symm.trans hbf1
    have HBIG := Lib.hid hbig
    have hfl20 : C.flows.length ≤ 20 := by
      have h := hbig
      unfold bigV at h
      simp only [Bool.or_eq_false_iff, decide_eq_false_iff_not] at h
      omega
    clear hbf1 hbig HR HB B
    refine wp_cond_false (slotE e20) ?_
    clear e20
    refine wp_skip ?_
    refine hKq4 _ _ ?_
    clear hKq4 Kq4
    refine wp_seq_k fun Kq6 hKq6 => ?_
    have HM := Lib.hid (make_any C Y w3 (hC3.more (Nat.le_of_lt hgz3)))
    refine sm_list [1, 3, 4] 21 5 hs hd (by kernel_rfl) (agC e1 (agU (agU agN))) rfl ?_
    simp only [rq, reOper, reOp, reO, reC, reK, Nat.reduceLeDiff, Nat.reduceEqDiff, ↓reduceIte, Nat.reduceAdd, Nat.reduceSub]
    go_wp2_with (first | (refine wpList_load_any_d rfl 26 (.tmp 0) rfl ⟨g, 0, none⟩ rfl (cfc C Y) _ (blk_cells BC3) Try.underlying26 rfl (by kernel_rfl) ?_) | fail)
    refine HM.out.mono ?_
    intro e wx hmade
    obtain ⟨ka, offa, wva, mva, rfl, hbx, h1c, hpa⟩ := hmade.two
    have HPa := Lib.hid hpa
    have HBX := Lib.hid hbx
    clear hmade hpa hbx
    go_wp2_with (first | (refine wpList_store_new rfl 32 (.tmp 1) (.tmp 6) rfl rfl rfl rfl rfl (by kernel_rfl) h1c ?_) | fail)
    intro a H
    replace hs := H.size.trans hs
    replace hd : a.defers = [] := H.defers
    replace e1 : a.tmps[1]? = some _ := H.got rfl rfl
    have e3 : a.tmps[3]? = some _ := H.got rfl rfl
    have e4 : a.tmps[4]? = some _ := H.got rfl rfl
    clear H
    refine hKq6 _ _ ?_
    clear hKq6 Kq6
    refine wp_seq_k fun Kq7 hKq7 => ?_
    have Bpa := Blk.new wx 32 #[.int .i64 offa, wva, mva]
    have hba : Below w3.heap.size w3 (wx.alloc (.cells #[.int .i64 offa, wva, mva] 32)) := HBX.out.alloc HBX.out.size _
    have Lxa : Below wx.heap.size wx (wx.alloc (.cells #[.int .i64 offa, wva, mva] 32)) := (Below.refl _ _).alloc (Nat.le_refl _) _
    have hzxa : w3.heap.size ≤ wx.heap.size := HBX.out.size
    obtain ⟨gp, hggp⟩ : ∃ q, q = wx.heap.size := ⟨_, rfl⟩
    rw [← hggp] at Bpa e3
    have hzgp : w3.heap.size ≤ gp := by rw [hggp]; exact HBX.out.size
    generalize (wx.alloc (.cells #[.int .i64 offa, wva, mva] 32)) = w4 at *
    obtain ⟨wXa, hwXa⟩ : ∃ q, q = wx := ⟨_, rfl⟩
    rw [← hwXa] at HPa Lxa
    clear hwXa hggp HM HBX h1c hzxa
    have L4 : Below g w w4 := L3.trans (hba.mono (Nat.le_of_lt hgz3))
    have BC4 := BC3.kept hba
    have hC4 := hC3.below (hba.mono (Nat.le_of_lt hgz3))
    have hgz4 : g < w4.heap.size := BC4.lt
    have hzp : gp < w4.heap.size := Bpa.lt
    have hsz3 : C.nodes.length ≤ 20 ∧ C.links.length ≤ 70 ∧ C.flows.length ≤ 20 := by
      have h := HBIG.out
      unfold bigV at h
      simp only [Bool.or_eq_false_iff, decide_eq_false_iff_not] at h
      omega
    have HSZ3 := Lib.hid hsz3
    clear BC3 hC3 L3 hba
    have HPLN := Lib.hid (plain_any C Y w4 (hC4.more (Nat.le_of_lt hgz4)) HSZ3.out)
    refine sm_list [1, 5] 26 2 hs hd (by kernel_rfl) (agC e1 (agU agN)) rfl ?_
    simp only [rq, reOper, reOp, reO, reC, reK, Nat.reduceLeDiff, Nat.reduceEqDiff, ↓reduceIte, Nat.reduceAdd, Nat.reduceSub]
    go_wp2_with (first | (refine wpList_load_any_d rfl 26 (.tmp 0) rfl ⟨g, 0, none⟩ rfl (cfc C Y) _ (blk_cells BC4) Try.underlying26 rfl (by kernel_rfl) ?_) | fail)
    refine HPLN.out.mono ?_
    rintro e w5 ⟨R, rfl, hR5, hb5⟩
    have HR5 := Lib.hid hR5
    have HB5 := Lib.hid hb5
    clear hR5 hb5
    go_wp2_with (first | (refine wpList_store_new rfl 42 (.tmp 1) (.tmp 3) rfl rfl rfl rfl rfl (by kernel_rfl) (by rw [← Array.all_toList]; rfl) ?_) | fail)
    intro a H
    replace hs := H.size.trans hs
    replace hd : a.defers = [] := H.defers
    replace e1 : a.tmps[1]? = some _ := H.got rfl rfl
    replace e3 := H.keep e3 rfl; replace e4 := H.keep e4 rfl
    have e5 : a.tmps[5]? = some _ := H.got rfl rfl
    clear H
    refine hKq7 _ _ ?_
    clear hKq7 Kq7
    refine wp_seq_k fun Kq8 hKq8 => ?_
    clear HPLN
    have B5x := Blk.new w5 42 (rfc C R)
    have Lx5 : Below w5.heap.size w5 (w5.alloc (.cells (rfc C R) 42)) := (Below.refl _ _).alloc (Nat.le_refl _) _
    have hs45 := HB5.out.size
    have b46 : Below w4.heap.size w4 (w5.alloc (.cells (rfc C R) 42)) := HB5.out.trans (Lx5.mono hs45)
    have hR6 : RfAt (w5.alloc (.cells (rfc C R) 42)) w5.heap.size C R := HR5.out.below Lx5
    generalize (w5.alloc (.cells (rfc C R) 42)) = w6 at *
    obtain ⟨g5, hg5⟩ : ∃ q, q = w5.heap.size := ⟨_, rfl⟩
    rw [← hg5] at B5x e5 hR6
    clear hg5 Lx5 HB5 HR5 hs45
    have hs46 := b46.size
    have L6 : Below g w w6 := L4.trans (b46.mono (Nat.le_of_lt hgz4))
    have BC6 := BC4.kept b46
    have hC6 := hC4.below (b46.mono (Nat.le_of_lt hgz4))
    have Bp6 := Bpa.kept b46
    have hz5 : g5 < w6.heap.size := B5x.lt
    have Lxa6 : Below wXa.heap.size wXa w6 := Lxa.trans (b46.mono Lxa.size)
    clear BC4 hC4 Bpa L4 Lxa
    have HRM := Lib.hid (rmake_any C R w6 (hR6.more (Nat.le_of_lt hz5)) HSZ3.out)
    refine sm_list [5, 6, 7] 28 5 hs hd (by kernel_rfl) (agC e5 (agU (agU agN))) rfl ?_
    simp only [rq, reOper, reOp, reO, reC, reK, Nat.reduceLeDiff, Nat.reduceEqDiff, ↓reduceIte, Nat.reduceAdd, Nat.reduceSub]
    go_wp2_with (first | (refine wpList_load_any_d rfl 42 (.tmp 0) rfl ⟨g5, 0, none⟩ rfl (rfc C R) _ (blk_cells B5x) Try.underlying42 rfl (by kernel_rfl) ?_) | fail)
    refine HRM.out.mono ?_
    intro e w7 hm7
    obtain ⟨kr, offr, vWr, vSr, rfl, hb7, h1r, hp7⟩ := hm7.two
    have HP7 := Lib.hid hp7
    have HB7 := Lib.hid hb7
    clear hm7 hp7 hb7
    go_wp2_with (first | (refine wpList_store_new rfl 47 (.tmp 1) (.tmp 6) rfl rfl rfl rfl rfl (by kernel_rfl) h1r ?_) | fail)
    intro a H
    replace hs := H.size.trans hs
    replace hd : a.defers = [] := H.defers
    replace e5 : a.tmps[5]? = some _ := H.got rfl rfl
    replace e1 := H.keep e1 rfl; replace e3 := H.keep e3 rfl; replace e4 := H.keep e4 rfl
    have e6 : a.tmps[6]? = some _ := H.got rfl rfl
    have e7 : a.tmps[7]? = some _ := H.got rfl rfl
    clear H
    refine hKq8 _ _ ?_
    clear hKq8 Kq8
    refine wp_seq_k fun Kq9 hKq9 => ?_
    refine wp_seq_k fun Kq10 hKq10 => ?_
    clear HRM h1r
    have B6x := Blk.new w7 47 #[.int .i64 offr, vWr, vSr]
    have Lx7 : Below w7.heap.size w7 (w7.alloc (.cells #[.int .i64 offr, vWr, vSr] 47)) := (Below.refl _ _).alloc (Nat.le_refl _) _
    have hs67 := HB7.out.size
    have b68 : Below w6.heap.size w6 (w7.alloc (.cells #[.int .i64 offr, vWr, vSr] 47)) := HB7.out.trans (Lx7.mono hs67)
    have hs68 := b68.size
    have L8 : Below g w (w7.alloc (.cells #[.int .i64 offr, vWr, vSr] 47)) := L6.trans (b68.mono (by omega))
    have BC8 := BC6.kept b68
    have hC8 := hC6.below (b68.mono (by omega))
    have Bp8 := Bp6.kept b68
    have B58 := B5x.kept b68
    have Lxa8 : Below wXa.heap.size wXa (w7.alloc (.cells #[.int .i64 offr, vWr, vSr] 47)) := Lxa6.trans (b68.mono Lxa6.size)
    generalize (w7.alloc (.cells #[.int .i64 offr, vWr, vSr] 47)) = w8 at *
    obtain ⟨g6, hg6⟩ : ∃ q, q = w7.heap.size := ⟨_, rfl⟩
    rw [← hg6] at B6x e6
    clear hg6 HB7 hs67 b68 BC6 hC6 Bp6 B5x Lxa6 L6 b46 hs46 hR6
    have hgz8 : g < w8.heap.size := BC8.lt
    have hg6z : g6 < w8.heap.size := B6x.lt
    have hgpz : gp < w8.heap.size := Bp8.lt
    have hg5z : g5 < w8.heap.size := B58.lt
    rcases HPa.out with ⟨hk, hm, rfl, rfl, rfl⟩ | ⟨rfl, hofa, S, Wa, B1, gG, mg, fg, hm, rfl, hgGl, GT, OW, hgd⟩
    · rcases HP7.out with ⟨hk2, hm2⟩ | ⟨rfl, _, S2, W2, Aw2, A2, cw2, c2, hm2, _⟩
      rotate_left
      · rw [hm] at hm2; cases hm2
      have hke : kr = ka := by rw [hm] at hm2; injection hm2 with h; exact h.symm
      subst hke
      have dn : (kr != kr) = false := bne_self_eq_false _
      have dk : (kr != 0) = true := bne_iff_ne.2 hk
      clear HPa HP7 hm hm2 hk hk2
      refine sm_list [4, 7] 33 3 hs hd (by kernel_rfl) (agC e4 (agC e7 agN)) rfl ?_
      simp only [rq, reOper, reOp, reO, reC, reK, Nat.reduceLeDiff, Nat.reduceEqDiff, ↓reduceIte, Nat.reduceAdd, Nat.reduceSub]
      go_wp2_with fail
      intro a H
      replace hs := H.size.trans hs
      replace hd : a.defers = [] := H.defers
      replace e4 : a.tmps[4]? = some _ := H.got rfl rfl
      replace e7 : a.tmps[7]? = some _ := H.got rfl rfl
      replace e1 := H.keep e1 rfl; replace e3 := H.keep e3 rfl; replace e5 := H.keep e5 rfl; replace e6 := H.keep e6 rfl
      have e35 : a.tmps[35]? = some _ := H.got rfl rfl
      clear H
      refine hKq10 _ _ ?_
      clear hKq10 Kq10
      refine wp_cond_false (slotE e35) ?_
      clear e35
      refine wp_skip ?_
      refine hKq9 _ _ ?_
      clear hKq9 Kq9
      refine wp_seq_k fun Kq11 hKq11 => ?_
      refine wp_seq_k fun Kq12 hKq12 => ?_
      refine sm_list [7] 36 2 hs hd (by kernel_rfl) (agC e7 agN) rfl ?_
      simp only [rq, reOper, reOp, reO, reC, reK, Nat.reduceLeDiff, Nat.reduceEqDiff, ↓reduceIte, Nat.reduceAdd, Nat.reduceSub]
      go_wp2_with fail
      intro a H
      replace hs := H.size.trans hs
      replace hd : a.defers = [] := H.defers
      replace e7 : a.tmps[7]? = some _ := H.got rfl rfl
      replace e1 := H.keep e1 rfl; replace e3 := H.keep e3 rfl; replace e4 := H.keep e4 rfl; replace e5 := H.keep e5 rfl; replace e6 := H.keep e6 rfl
      have e37 : a.tmps[37]? = some _ := H.got rfl rfl
      clear H
      refine hKq12 _ _ ?_
      clear hKq12 Kq12
      refine wp_cond_true (slotE e37) ?_
      clear e37
      refine wp_seq_k fun Kq13 hKq13 => ?_
      clear dn dk
      have p0 := Bp8.cellOf (v := .int .i64 0) 0 rfl
      have p1 := Bp8.cellOf (v := .slice none 0 0) 1 rfl
      have p2 := Bp8.cellOf (v := .map none) 2 rfl
      refine sm_list [2, 3] 38 15 hs hd (by kernel_rfl) (agU (agC e3 agN)) rfl ?_
      simp only [rq, reOper, reOp, reO, reC, reK, Nat.reduceLeDiff, Nat.reduceEqDiff, ↓reduceIte, Nat.reduceAdd, Nat.reduceSub]
      go_wp2_with fail
      intro a H
      replace hs := H.size.trans hs
      replace hd : a.defers = [] := H.defers
      replace e3 : a.tmps[3]? = some _ := H.got rfl rfl
      replace e1 := H.keep e1 rfl; replace e4 := H.keep e4 rfl; replace e5 := H.keep e5 rfl; replace e6 := H.keep e6 rfl; replace e7 := H.keep e7 rfl
      have e2 : a.tmps[2]? = some _ := H.got rfl rfl
      clear H
      refine hKq13 _ _ ?_
      clear hKq13 Kq13
      refine wp_ret ?_
      refine exit_then rfl ?_
      exact sm_ret rfl hd e2 ⟨rfl, by rw [← HG.out]; exact L8⟩
    · rcases HP7.out with ⟨hk2, hm2⟩ | ⟨rfl, hofr, S2, W2, Aw2, A2, cw2, c2, hm2, rfl, rfl, hrW, hrS, hSn⟩
      · rw [hm] at hm2; cases hm2
      have hee : S2 = S ∧ W2 = Wa := by rw [hm] at hm2; injection hm2 with h; injection h with h1 h2; exact ⟨h1.symm, h2.symm⟩
      obtain ⟨rfl, rfl⟩ := hee
      clear hm2 HPa HP7
      obtain ⟨A1, c1, rfl, _, hrP⟩ := ownsRow_reads OW
      have hrP8 := (hrP.below Lxa8).more Lxa8.size
      have hrW8 := (hrW.below Lx7).more Lx7.size
      have hrS8 := (hrS.below Lx7).more Lx7.size
      have GT8 := GT.keep Lxa8
      have hgG8 : gG < w8.heap.size := Nat.lt_of_lt_of_le GT.E.lt Lxa8.size
      subst hofa
      obtain ⟨ow, how⟩ : ∃ o, o = offV C := ⟨_, rfl⟩
      have hro : offr = ow := hofr.trans how.symm
      subst hro
      have HMK := Lib.hid hm
      have HGD := Lib.hid hgd
      have HGT := Lib.hid GT8
      have HRP := Lib.hid hrP8
      have HRW := Lib.hid hrW8
      have HRS := Lib.hid hrS8
      have HOW := Lib.hid how
      have hWn : W2.length ≤ 1000 := by
        have h1 := (make_less hm 0).1
        have h2 := HSZ3.out
        omega
      clear hm hgd GT GT8 hrP hrW hrS hrP8 hrW8 hrS8 OW hgGl hofr Lxa8 Lx7
      rw [← how] at Bp8
      clear how
      have dn : ((0 : Int) != 0) = false := rfl
      refine sm_list [4, 7] 33 3 hs hd (by kernel_rfl) (agC e4 (agC e7 agN)) rfl ?_
      simp only [rq, reOper, reOp, reO, reC, reK, Nat.reduceLeDiff, Nat.reduceEqDiff, ↓reduceIte, Nat.reduceAdd, Nat.reduceSub]
      go_wp2_with fail
      intro a H
      replace hs := H.size.trans hs
      replace hd : a.defers = [] := H.defers
      replace e4 : a.tmps[4]? = some _ := H.got rfl rfl
      replace e7 : a.tmps[7]? = some _ := H.got rfl rfl
      replace e1 := H.keep e1 rfl; replace e3 := H.keep e3 rfl; replace e5 := H.keep e5 rfl; replace e6 := H.keep e6 rfl
      have e35 : a.tmps[35]? = some _ := H.got rfl rfl
      clear H
      refine hKq10 _ _ ?_
      clear hKq10 Kq10
      refine wp_cond_false (slotE e35) ?_
      clear e35
      refine wp_skip ?_
      refine hKq9 _ _ ?_
      clear hKq9 Kq9
      refine wp_seq_k fun Kq11 hKq11 => ?_
      refine wp_seq_k fun Kq12 hKq12 => ?_
      refine sm_list [7] 36 2 hs hd (by kernel_rfl) (agC e7 agN) rfl ?_
      simp only [rq, reOper, reOp, reO, reC, reK, Nat.reduceLeDiff, Nat.reduceEqDiff, ↓reduceIte, Nat.reduceAdd, Nat.reduceSub]
      go_wp2_with fail
      intro a H
      replace hs := H.size.trans hs
      replace hd : a.defers = [] := H.defers
      replace e7 : a.tmps[7]? = some _ := H.got rfl rfl
      replace e1 := H.keep e1 rfl; replace e3 := H.keep e3 rfl; replace e4 := H.keep e4 rfl; replace e5 := H.keep e5 rfl; replace e6 := H.keep e6 rfl
      have e37 : a.tmps[37]? = some _ := H.got rfl rfl
      clear H
      refine hKq12 _ _ ?_
      clear hKq12 Kq12
      refine wp_cond_false (slotE e37) ?_
      clear e37
      refine wp_skip ?_
      refine hKq11 _ _ ?_
      clear hKq11 Kq11
      refine wp_seq_k fun Kq13 hKq13 => ?_
      refine wp_seq_k fun Kq14 hKq14 => ?_
      clear dn
      have HW := Lib.hid (well (makeV_ok.1 HMK.out).1)
      have HOF : Hid (∀ w', Below w8.heap.size w8 w' → Calls Try.prog 14 #[.agg (cfc C Y)] w' fun e w2 => e = .returned (.int .i64 offr) ∧ Below w'.heap.size w' w2) := Lib.hid fun w' hw' => by
        have h := off_any C Y w' ((hC8.below (hw'.mono (Nat.le_of_lt hgz8))).more (Nat.le_trans (Nat.le_of_lt hgz8) hw'.size)) HW.out.off
        rw [← HOW.out] at h
        exact h
      have p0 := Bp8.cellOf (v := .int .i64 offr) 0 rfl
      have p1 := Bp8.cellOf (v := .slice A1 W2.length c1) 1 rfl
      have r0 := B6x.cellOf (v := .int .i64 offr) 0 rfl
      have r1 := B6x.cellOf (v := .slice Aw2 W2.length cw2) 1 rfl
      have dn2 : (offr != offr) = false := bne_self_eq_false _
      have dn3 : ((W2.length : Int) != (W2.length : Int)) = false := bne_self_eq_false _
      suffices HK : ∀ (a' : Act) (w9 : World), a'.tmps.size = a.tmps.size → a'.defers = [] → a'.tmps[1]? = a.tmps[1]? → a'.tmps[3]? = a.tmps[3]? → a'.tmps[4]? = a.tmps[4]? → a'.tmps[5]? = a.tmps[5]? → a'.tmps[6]? = a.tmps[6]? → a'.tmps[7]? = a.tmps[7]? → a'.tmps[73]? = some (.bool false) → Below w8.heap.size w8 w9 → Kq14 a' w9 by
        refine sm_any [1, 3, 6] 53 21 (by kernel_rfl) hs hd (by kernel_rfl) (agC e1 (agC e3 (agC e6 agN))) rfl (any_class (fun w' => Below w8.heap.size w8 w') (by kernel_rfl) ((Below.refl _ _).drew) ?_)
        simp only [rq, reOper, reOp, reO, reC, reK, Nat.reduceLeDiff, Nat.reduceEqDiff, ↓reduceIte, Nat.reduceAdd, Nat.reduceSub]
        repeat (first | (with_reducible (refine wpQuiet_skip ?_ ?_); (first | exact wanted_off rfl rfl rfl rfl | exact wanted_off2 rfl rfl rfl); simp only [Act.put, List.setIfInBounds_toArray, List.set_cons_zero, List.set_cons_succ]) | (refine wpQuiet_val (v := .agg (cfc C Y)) ?_ (fun w' hw' => run_load_whole_d 26 (.tmp 0) rfl rfl (BC8.kept hw') Try.underlying26 rfl (by kernel_rfl)) ?_; (first | exact wanted_none rfl | exact wanted_on rfl rfl rfl); simp only [Act.put, List.setIfInBounds_toArray, List.set_cons_zero, List.set_cons_succ]) | (with_reducible (refine wpQuiet_call (v := ?_) 14 ?_ ?_ ?_ ?_ ?_); rotate_left 2; (first | exact wanted_none rfl | exact wanted_on rfl rfl rfl); (intro w' hw'; obtain ⟨hc, hf⟩ := bcell hw'; go_simp; with_reducible rfl); (intro w' hw'; (with_reducible refine (HOF.out _ hw').mono ?_); rintro e w2 ⟨rfl, hb⟩; refine ⟨?_, hw'.trans (hb.mono (by have h0 := hw'.size; first | omega | (simp at h0; omega)))⟩; with_reducible rfl); simp only [Act.put, List.setIfInBounds_toArray, List.set_cons_zero, List.set_cons_succ]) | (with_reducible (refine wpQuiet_val (v := ?_) ?_ ?_ ?_); rotate_left; (first | exact wanted_none rfl | exact wanted_on rfl rfl rfl); (intro w' hw'; obtain ⟨hc, hf⟩ := bcell hw'; go_simp; with_reducible rfl); simp only [Act.put, List.setIfInBounds_toArray, List.set_cons_zero, List.set_cons_succ]))
        refine wpQuiet_nil ?_
        intro w9 hw6
        all_goals
          intro a' H
          refine HK a' _ H.size H.defers ((H.got rfl rfl).trans e1.symm) ((H.got rfl rfl).trans e3.symm) (H.out 4 rfl) (H.out 5 rfl) ((H.got rfl rfl).trans e6.symm) (H.out 7 rfl) ?_ ?_
          · (refine (H.got (t := 73) rfl rfl).trans (congrArg some ?_); first | rfl | simp)
          · exact hw6
      intro a' w9 g_s g_d g1 g3 g4 g5 g6 g7 f73 b9
      replace hs := g_s.trans hs
      replace hd := g_d
      replace e1 := g1.trans e1
      replace e3 := g3.trans e3
      replace e4 := g4.trans e4
      replace e5 := g5.trans e5
      replace e6 := g6.trans e6
      replace e7 := g7.trans e7
      clear g_s g_d g1 g3 g4 g5 g6 g7
      have e73 := f73
      clear f73
      clear a
      obtain ⟨a, rfl⟩ : ∃ a, a = a' := ⟨_, rfl⟩
      refine hKq14 _ _ ?_
      clear hKq14 Kq14
      refine wp_cond_false (slotE e73) ?_
      clear e73
      refine wp_skip ?_
      refine hKq13 _ _ ?_
      clear hKq13 Kq13
      refine wp_seq_k fun Kq15 hKq15 => ?_
      clear p0 p1 r0 r1 dn2 dn3 HOF
      have hs89 := b9.size
      have L9 : Below g w w9 := L8.trans (b9.mono (Nat.le_of_lt hgz8))
      have BC9 := BC8.kept b9
      have hC9 := hC8.below (b9.mono (Nat.le_of_lt hgz8))
      have Bp9 := Bp8.kept b9
      have B59 := B58.kept b9
      have B69 := B6x.kept b9
      have HRP9 := Lib.hid ((HRP.out.below b9).more hs89)
      have HRW9 := Lib.hid ((HRW.out.below b9).more hs89)
      have HRS9 := Lib.hid ((HRS.out.below b9).more hs89)
      have HGT9 := Lib.hid (HGT.out.keep b9)
      clear L8 BC8 hC8 Bp8 B58 B6x HRP HRW HRS HGT b9
      clear e4
      clear e7
      refine pm_wins offr _ _ W2 A1 Aw2 W2.length c1 cw2 g gp g5 g6 a w9 _ hs hd e1 e3 e5 e6 Bp9 B69 HRP9.out HRW9.out rfl hWn ?_
      clear hs hd e1 e3 e5 e6 a
      intro a w10 hs hd e1 e3 e5 e6 b10
      refine hKq15 _ _ ?_
      clear hKq15 Kq15
      refine wp_seq_k fun Kq16 hKq16 => ?_
      refine sm_list [] 9 1 hs hd (by kernel_rfl) agN rfl ?_
      simp only [rq, reOper, reOp, reO, reC, reK, Nat.reduceLeDiff, Nat.reduceEqDiff, ↓reduceIte, Nat.reduceAdd, Nat.reduceSub]
      go_wp2_with fail
      intro a H
      replace hs := H.size.trans hs
      replace hd : a.defers = [] := H.defers
      replace e1 := H.keep e1 rfl; replace e3 := H.keep e3 rfl; replace e5 := H.keep e5 rfl; replace e6 := H.keep e6 rfl
      have e9 : a.tmps[9]? = some _ := H.got rfl rfl
      clear H
      refine hKq16 _ _ ?_
      clear hKq16 Kq16
      refine wp_seq_k fun Kq17 hKq17 => ?_
      have hs910 := b10.size
      have Bp10 := Bp9.kept b10
      have hs10 : g < w10.heap.size := by omega
      have Bp10o := Bp10
      rw [HOW.out] at Bp10
      have B610 := B69.kept b10
      rw [HOW.out] at B610
      refine pm_nodes C Y R S2 W2 _ A2 Aw2 S2.length c2 cw2 g gp g5 g6 B1 gG mg fg a w10 _ hs hd e1 e3 e5 e6 e9 (hC9.below (b10.mono (by omega))) (BC9.kept b10) Bp10 (HGT9.out.keep b10) (by omega) (B59.kept b10) B610 ((HRS9.out.below b10).more hs910) rfl hSn HMK.out HGD.out ?_
      clear hs hd e1 e3 e5 e6 e9 a
      intro a w11 hs hd e3 e9 b11
      refine hKq17 _ _ ?_
      clear hKq17 Kq17
      refine wp_seq_k fun Kq18 hKq18 => ?_
      have Bp11 := Bp10o.kept b11
      have k2 := Bp11.cellOf (v := .map (some gG)) 2 rfl
      have GT11 := (HGT9.out.keep b10).keep b11
      have GT11 := (HGT9.out.keep b10).keep b11
      have hcnt := GT11.cnt
      rw [← hcnt] at e9
      have HLN := Lib.hid GT11.E
      clear GT11 hcnt Bp10 B610
      have hlen : (Builtin.len_ #[30] 3 #[.map (some gG)]).run Try.prog w11 = .ok (.int .i64 (mg : Int)) w11 := HLN.out.len Try.underlying30 3
      have dm : ((mg : Int) == (mg : Int)) = true := beq_self_eq_true _
      have dm2 : ((mg : Nat) == mg) = true := beq_self_eq_true _
      refine sm_list [2, 3, 9] 172 5 hs hd (by kernel_rfl) (agU (agC e3 (agC e9 agN))) rfl ?_
      simp only [rq, reOper, reOp, reO, reC, reK, Nat.reduceLeDiff, Nat.reduceEqDiff, ↓reduceIte, Nat.reduceAdd, Nat.reduceSub]
      go_wp2_with fail
      intro a H
      replace hs := H.size.trans hs
      replace hd : a.defers = [] := H.defers
      replace e3 : a.tmps[3]? = some _ := H.got rfl rfl
      replace e9 : a.tmps[9]? = some _ := H.got rfl rfl
      have e2 : a.tmps[2]? = some _ := H.got rfl rfl
      clear H
      refine hKq18 _ _ ?_
      clear hKq18 Kq18
      refine wp_ret ?_
      exact sm_ret rfl hd e2 ⟨rfl, by rw [← HG.out]; exact (L9.trans (b10.mono (by omega))).trans (b11.mono (by omega))⟩
end Go.Proofs.Ytaegngcbiefckaa
