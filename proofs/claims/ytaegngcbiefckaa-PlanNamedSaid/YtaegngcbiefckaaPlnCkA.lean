/-
  A network check: the two ends of a link.
-/
import Derived.Test.YtaegngcbiefckaaPlnD
namespace Go.Proofs.Ytaegngcbiefckaa
set_option linter.unusedSimpArgs false
set_option linter.unusedVariables false
open Go.RowKit Go.WideShapes Go.ChangeShapes
attribute [local go_sem ↓] Go.wp_at_zero Go.wp_at_succ

theorem okE_good {C : Cf} {used : List (Int × Int)} {x y : Int} (hn : C.nodes.length ≤ 16) (hp : ∀ n ∈ C.nodes, n.ports ≤ 8) (h : badEnd C used (x, y) = false) : okE (x, y) := by
  rcases end_cases C used x y hn hp with ⟨_, hB⟩ | ⟨_, _, hB⟩ | ⟨_, _, _, hB⟩ | ⟨k, nd, rfl, _, _, _, _, ⟨_, hB⟩ | ⟨_, hok, _⟩⟩
  · rw [h] at hB; cases hB
  · rw [h] at hB; cases hB
  · rw [h] at hB; cases hB
  · rw [h] at hB; cases hB
  · exact hok
set_option maxRecDepth 100000 in
set_option maxHeartbeats 4000000 in
theorem ck_inner (C : Cf) (Y : Lay) (g gm g7 j m : Nat) (l : Lk) (r : List Lk) (used : List (Int × Int)) (f : Int × Int → Option Value) (a : Act) (w : World) (Q : Exit → Act → World → Prop)
    (hs : a.tmps.size = 174) (hd : a.defers = []) (e1 : a.tmps[1]? = some (.pointer (some ⟨g, 0, none⟩))) (e5 : a.tmps[5]? = some (.map (some gm))) (e7 : a.tmps[7]? = some (.pointer (some ⟨g7, 0, none⟩))) (e100 : a.tmps[100]? = some (.slice Y.L.A C.links.length Y.L.c)) (e101 : a.tmps[101]? = some (.int .i64 (C.links.length : Int))) (e102 : a.tmps[102]? = some (.int .i64 (j : Int)))
    (hC : CfAt w g C Y) (BC : Blk w g 26 (cfc C Y)) (hg : g < gm ∧ gm < g7) (B7 : Blk w g7 80 (lkc l).toArray) (hE : EM Try.prog 61 w gm m f) (hf : (∀ p, okE p → f p = if p ∈ used then some (.bool true) else none)) (hm : m ≤ 128)
    (hn : C.nodes.length ≤ 16) (hp : ∀ n ∈ C.nodes, n.ports ≤ 8)
    (hend : ∀ (a : Act) (w' : World) (m' : Nat) (f' : Int × Int → Option Value) (used' : List (Int × Int)), a.tmps.size = 174 → a.defers = [] → a.tmps[1]? = some (.pointer (some ⟨g, 0, none⟩)) → a.tmps[5]? = some (.map (some gm)) → a.tmps[7]? = some (.pointer (some ⟨g7, 0, none⟩)) → a.tmps[100]? = some (.slice Y.L.A C.links.length Y.L.c) → a.tmps[101]? = some (.int .i64 (C.links.length : Int)) → a.tmps[102]? = some (.int .i64 (j : Int)) → Below gm w w' → Blk w' g7 80 (lkc l).toArray → EM Try.prog 61 w' gm m' f' → (∀ p, okE p → f' p = if p ∈ used' then some (.bool true) else none) → m' ≤ m + 2 →
      stepV C 2 used' l r = stepV C 0 used l r → Q .normal a w')
    (hret : ∀ (a : Act) (w' : World), a.tmps.size = 174 → a.defers = [] → a.tmps[2]? = some (.int .i64 63) → Below gm w w' → stepV C 0 used l r = 63 → Q .ret a w') :
    Code.wp Try.prog (sub [true, true, true, true, false, true, false, false, true, true, false, false, true, false] (bodyOf Try.f19)) Q a w := by
  conv => arg 2; whnf
  have HEND := Lib.hid (And.intro hend hret)
  have HF := Lib.hid hf
  have HP := Lib.hid hp
  clear hend hret hf hp; refine wp_seq_k fun Kq1 hKq1 => ?_
  have hx : ∀ (q : Nat) (v : Value), (#[.int .i64 l.n0, .int .i64 l.p0, .int .i64 l.n1, .int .i64 l.p1] : Array Value).toList[q]? = some v → w.cell? ((⟨g7, 0, none⟩ : Addr).add q) = some v := fun q v hq => by
      rcases q with _ | _ | _ | _ | q <;> simp at hq <;> subst hq <;> exact blk_cells B7 _ _ rfl
  have HX := Lib.hid hx
  clear hx
  refine sm_list [7] 106 3 hs hd (by kernel_rfl) (agC e7 agN) rfl ?_
  simp only [seval]
  go_wp2_with (first | (refine wpList_load_any_d rfl 78 (.tmp 1) rfl ⟨g7, 0, none⟩ rfl (#[.int .i64 l.n0, .int .i64 l.p0, .int .i64 l.n1, .int .i64 l.p1]) _ HX.out Try.underlying78 rfl (by kernel_rfl) ?_) | fail)
  intro a H; replace hs := H.s hs; replace hd := H.d rfl; replace e7 := H.g 7 rfl rfl; replace e1 := H.k e1 rfl; replace e5 := H.k e5 rfl; replace e100 := H.k e100 rfl; replace e101 := H.k e101 rfl; replace e102 := H.k e102 rfl; have e107 := H.g 107 rfl rfl; have e108 := H.g 108 rfl rfl; clear H; refine hKq1 _ _ ?_; clear hKq1 Kq1; refine wp_block ?_
  refine wp_loop (fun a w' => ∃ (s : Int) (used' : List (Int × Int)) (m' : Nat) (f' : Int × Int → Option Value), (0 ≤ s ∧ s ≤ 2) ∧ a.tmps.size = 174 ∧ a.defers = [] ∧ a.tmps[1]? = some (.pointer (some ⟨g, 0, none⟩)) ∧ a.tmps[5]? = some (.map (some gm)) ∧ a.tmps[7]? = some (.pointer (some ⟨g7, 0, none⟩)) ∧ a.tmps[100]? = some (.slice Y.L.A C.links.length Y.L.c) ∧ a.tmps[101]? = some (.int .i64 (C.links.length : Int)) ∧ a.tmps[102]? = some (.int .i64 (j : Int)) ∧ a.tmps[107]? = some (.agg (#[.int .i64 l.n0, .int .i64 l.p0, .int .i64 l.n1, .int .i64 l.p1])) ∧ a.tmps[108]? = some (.int .i64 s) ∧ Below gm w w' ∧ Blk w' g7 80 (lkc l).toArray ∧ EM Try.prog 61 w' gm m' f' ∧ (∀ p, okE p → f' p = if p ∈ used' then some (.bool true) else none) ∧ (m' : Int) ≤ m + s ∧ stepV C s used' l r = stepV C 0 used l r) (fun a _ => 2 - (intOf (a.tmps.getD 108 undef)).toNat) ?_ ?_
  · exact ⟨0, used, m, f, by omega, hs, hd, e1, e5, e7, e100, e101, e102, e107, e108, Below.refl _ _, B7, hE, HF.out, by omega, rfl⟩
  clear hs hd e108 e1 e5 e7 e100 e101 e102 e107 a HF hE B7 HX
  rintro a w3 ⟨s, used', m', f', ⟨hs0, hs2⟩, hs, hd, e1, e5, e7, e100, e101, e102, e107, e108, hb, B7, hE, hf, hm', hV⟩
  have HF := Lib.hid hf
  have HV := Lib.hid hV
  clear hf hV
  have hmm := slot e108
  refine wp_seq_k fun Kq2 hKq2 => ?_
  by_cases hlt : s < 2
  ·
    have dj : decide (s < 2) = true := decide_eq_true hlt
    have hs01 : s = 0 ∨ s = 1 := by omega
    have HS := Lib.hid hs01
    refine sm_list [108] 109 1 hs hd (by kernel_rfl) (agC e108 agN) rfl ?_
    simp only [seval]
    go_wp2_with fail
    intro a H; replace hs := H.s hs; replace hd := H.d rfl; replace e108 := H.g 108 rfl rfl; replace e1 := H.k e1 rfl; replace e5 := H.k e5 rfl; replace e7 := H.k e7 rfl; replace e100 := H.k e100 rfl; replace e101 := H.k e101 rfl; replace e102 := H.k e102 rfl; replace e107 := H.k e107 rfl; have e109 := H.g 109 rfl rfl; clear H; refine hKq2 _ _ ?_; clear hKq2 Kq2; refine wp_seq_k fun Kq3 hKq3 => ?_
    refine wp_cond_true (slotE e109) ?_
    clear e109; refine wp_skip ?_; refine hKq3 _ _ ?_; clear hKq3 Kq3; refine wp_seq_k fun Kq4 hKq4 => ?_; refine wp_block ?_; refine wp_seq_k fun Kq5 hKq5 => ?_
    have hz3 : gm < w3.heap.size := hE.lt
    have hz7 : g7 < w3.heap.size := B7.lt
    suffices HK : ∀ (a' : Act) (w5 : World), a'.tmps.size = a.tmps.size → a'.defers = [] → a'.tmps[1]? = a.tmps[1]? → a'.tmps[5]? = a.tmps[5]? → a'.tmps[7]? = a.tmps[7]? → a'.tmps[100]? = a.tmps[100]? → a'.tmps[101]? = a.tmps[101]? → a'.tmps[102]? = a.tmps[102]? → a'.tmps[107]? = a.tmps[107]? → a'.tmps[108]? = a.tmps[108]? → a'.tmps[9]? = some (.pointer (some ⟨w3.heap.size, 0, none⟩)) → Blk w5 w3.heap.size 61 #[.int .i64 (endX l s), .int .i64 (endY l s)] → Below w3.heap.size w3 w5 → Kq5 a' w5 by
      have hi0 : ∀ W : World, (Instr.index 78 (.agg (#[.int .i64 l.n0, .int .i64 l.p0, .int .i64 l.n1, .int .i64 l.p1])) (.int .i64 0)).run Try.prog W = .ok (.agg #[.int .i64 l.n0, .int .i64 l.p0]) W := fun W => by kernel_rfl
      have hi1 : ∀ W : World, (Instr.index 78 (.agg (#[.int .i64 l.n0, .int .i64 l.p0, .int .i64 l.n1, .int .i64 l.p1])) (.int .i64 1)).run Try.prog W = .ok (.agg #[.int .i64 l.n1, .int .i64 l.p1]) W := fun W => by kernel_rfl
      rcases hs01 with rfl | rfl
      all_goals
        refine sm_list [9, 107, 108] 110 1 hs hd (by kernel_rfl) (agU (agC e107 (agC e108 agN))) rfl ?_
        simp only [seval]
        go_wp2_with (first | (refine wpList_store_new rfl 61 (.tmp 0) (.tmp 3) rfl rfl rfl rfl rfl (by kernel_rfl) (by rw [← Array.all_toList]; rfl) ?_) | fail)
        all_goals
          intro a' H
          refine HK a' _ H.size H.defers (H.out 1 rfl) (H.out 5 rfl) (H.out 7 rfl) (H.out 100 rfl) (H.out 101 rfl) (H.out 102 rfl) ((H.got rfl rfl).trans e107.symm) ((H.got rfl rfl).trans e108.symm) ?_ ?_ ?_
          · exact H.got rfl rfl
          · exact Blk.new w3 _ _
          · exact (Below.refl _ _).alloc (Nat.le_refl _) _
    intro a' w5 g_s g_d g1 g5 g7 g100 g101 g102 g107 g108 f9 B9 b9
    replace hs := g_s.trans hs; replace hd := g_d; replace e1 := g1.trans e1; replace e5 := g5.trans e5; replace e7 := g7.trans e7; replace e100 := g100.trans e100; replace e101 := g101.trans e101; replace e102 := g102.trans e102; replace e107 := g107.trans e107; replace e108 := g108.trans e108; clear g_s g_d g1 g5 g7 g100 g101 g102 g107 g108
    have e9 := f9
    clear f9; clear a
    obtain ⟨a, rfl⟩ : ∃ a, a = a' := ⟨_, rfl⟩
    refine hKq5 _ _ ?_; clear hKq5 Kq5; refine wp_seq_k fun Kq6 hKq6 => ?_; refine wp_seq_k fun Kq7 hKq7 => ?_
    obtain ⟨g9, hg9⟩ : ∃ g9, g9 = w3.heap.size := ⟨_, rfl⟩
    rw [← hg9] at B9 e9
    have hz9 : w3.heap.size ≤ g9 := Nat.le_of_eq hg9.symm
    clear hg9 hs01 dj
    have hb5 : Below gm w w5 := hb.trans (b9.mono (by omega))
    replace B7 := B7.kept b9
    replace hE : EM Try.prog 61 w5 gm m' f' := hE.below b9 hz3
    replace hz3 : gm < w5.heap.size := hE.lt
    replace hz7 : g7 < w5.heap.size := B7.lt
    clear b9 hb
    obtain ⟨x, hx⟩ : ∃ x, x = endX l s := ⟨_, rfl⟩
    obtain ⟨y, hy⟩ : ∃ y, y = endY l s := ⟨_, rfl⟩
    rw [← hx, ← hy] at B9
    have HXY := Lib.hid (And.intro hx hy)
    clear hx hy
    have hcase := end_cases C used' x y hn HP.out
    have y0 := B9.cellOf (v := .int .i64 x) 0 rfl
    have y1 := B9.cellOf (v := .int .i64 y) 1 rfl
    have BC5 : Blk w5 g 26 (cfc C Y) := BC.below hb5 hg.1
    have c0 := BC5.cellOf (v := .slice Y.N.A C.nodes.length Y.N.c) 0 rfl
    have hg5 : g < w5.heap.size := BC5.lt
    have h9 : g9 < w5.heap.size := B9.lt
    have HC5 := Lib.hid (hC.below (hb5.mono (Nat.le_of_lt hg.1)))
    obtain ⟨R, hR⟩ : ∃ R, R = badEnd C used' (x, y) := ⟨_, rfl⟩
    have HR := Lib.hid hR
    clear hR
    suffices HK : ∀ (a' : Act) (w6 : World), a'.tmps.size = a.tmps.size → a'.defers = [] → a'.tmps[1]? = a.tmps[1]? → a'.tmps[5]? = a.tmps[5]? → a'.tmps[7]? = a.tmps[7]? → a'.tmps[100]? = a.tmps[100]? → a'.tmps[101]? = a.tmps[101]? → a'.tmps[102]? = a.tmps[102]? → a'.tmps[107]? = a.tmps[107]? → a'.tmps[108]? = a.tmps[108]? → a'.tmps[9]? = a.tmps[9]? → a'.tmps[143]? = some (.bool R) → Below w5.heap.size w5 w6 → Kq7 a' w6 by
      rcases hcase with ⟨d1, hB⟩ | ⟨d1, d2, hB⟩ | ⟨d1, d2, d3, hB⟩ | ⟨k, nd, hk, hnd, d1, d2, d3, hrest⟩
      rotate_left 3
      subst hk
      obtain ⟨ad, had, hadb, hc0, _⟩ := Reads.elem ndc_len HC5.out.nodes hnd (by have := of_decide_eq_false d2; omega)
      have hnode : ∀ w', Below w5.heap.size w5 w' → w'.cell? (ad.add (k * 2)) = some (.int .i64 nd.ports) := fun w' hw' => (hw'.cell (by omega)).trans (hc0 _ rfl)
      have hk0 : (0 : Int) ≤ (k : Int) := by omega
      have hkN : (k : Int) < (C.nodes.length : Int) := by have := of_decide_eq_false d2; omega
      have d2n : decide (C.nodes.length ≤ k) = false := decide_eq_false (by omega)
      rw [had] at c0
      clear hc0 had hnd
      have hlk : okE ((k : Int), y) → (f' ((k : Int), y)).getD (.bool false) = .bool (used'.contains ((k : Int), y)) := fun hok => by rw [HF.out _ hok]; by_cases h : ((k : Int), y) ∈ used' <;> simp [h]
      have HLK := Lib.hid hlk
      clear hlk
      rcases hrest with ⟨d4, hB⟩ | ⟨d4, hok, hB⟩
      all_goals
        refine sm_any [1, 5, 9] 111 33 (by kernel_rfl) hs hd (by kernel_rfl) (agC e1 (agC e5 (agC e9 agN))) rfl (any_class (fun w' => Below w5.heap.size w5 w') (by kernel_rfl) ((Below.refl _ _).drew) ?_)
        simp only [seval]
        have HB := Lib.hid hB
        clear hB
        repeat (first | (with_reducible (refine wpQuiet_skip ?_ ?_); (first | exact wanted_off rfl rfl rfl rfl | exact wanted_off2 rfl rfl rfl); simp only [Act.put, List.setIfInBounds_toArray, List.set_cons_zero, List.set_cons_succ]) | (refine wpQuiet_val (v := .agg _) ?_ (fun w' hw' => run_load_whole_d 61 (.tmp 2) rfl rfl (B9.below hw' h9) Try.underlying61 rfl (by kernel_rfl)) ?_; (first | exact wanted_none rfl | exact wanted_on rfl rfl rfl); simp only [Act.put, List.setIfInBounds_toArray, List.set_cons_zero, List.set_cons_succ]) | (refine wpQuiet_val (v := (.bool (used'.contains ((k : Int), y)))) ?_ (fun w' hw' => by rw [← HLK.out hok]; exact run_lookup_E (.tmp 32) (.tmp 33) rfl rfl (hE.below hw' hz3) endKey Try.underlying110 (zero_bool _) ((k : Int), y) rfl hok) ?_; (first | exact wanted_none rfl | exact wanted_on rfl rfl rfl); simp only [Act.put, List.setIfInBounds_toArray, List.set_cons_zero, List.set_cons_succ]) | (with_reducible (refine wpQuiet_val (v := ?_) ?_ ?_ ?_); rotate_left; (first | exact wanted_none rfl | exact wanted_on rfl rfl rfl); (intro w' hw'; obtain ⟨hc, hf⟩ := bcell hw'; go_simp; with_reducible rfl); simp only [Act.put, List.setIfInBounds_toArray, List.set_cons_zero, List.set_cons_succ]))
        refine wpQuiet_nil ?_
        intro w6 hw6
        all_goals
          intro a' H
          refine HK a' _ H.size H.defers ((H.got rfl rfl).trans e1.symm) ((H.got rfl rfl).trans e5.symm) (H.out 7 rfl) (H.out 100 rfl) (H.out 101 rfl) (H.out 102 rfl) (H.out 107 rfl) (H.out 108 rfl) ((H.got rfl rfl).trans e9.symm) ?_ ?_
          · (refine (H.got (t := 143) rfl rfl).trans (congrArg some ?_); rw [HR.out]; first | exact congrArg Value.bool HB.out.symm | (rw [HB.out]; simp))
          · exact hw6
    intro a' w6 g_s g_d g1 g5 g7 g100 g101 g102 g107 g108 g9 f143 b6
    replace hs := g_s.trans hs; replace hd := g_d; replace e1 := g1.trans e1; replace e5 := g5.trans e5; replace e7 := g7.trans e7; replace e100 := g100.trans e100; replace e101 := g101.trans e101; replace e102 := g102.trans e102; replace e107 := g107.trans e107; replace e108 := g108.trans e108; replace e9 := g9.trans e9; clear g_s g_d g1 g5 g7 g100 g101 g102 g107 g108 g9
    have e143 := f143
    clear f143; clear a
    obtain ⟨a, rfl⟩ : ∃ a, a = a' := ⟨_, rfl⟩
    refine hKq7 _ _ ?_; clear hKq7 Kq7
    have hb6 := hb5.trans (b6.mono (Nat.le_of_lt hz3))
    replace B7 := B7.kept b6
    replace B9 := B9.kept b6
    replace hE : EM Try.prog 61 w6 gm m' f' := hE.below b6 hz3
    clear b6 BC5 c0 y0 y1 hcase hb5 HC5
    obtain ⟨hx, hy⟩ := HXY.out
    have HX2 := Lib.hid (And.intro hx hy)
    clear hx hy HXY
    cases R
    ·
      have hbad : badEnd C used' (x, y) = false := HR.out.symm
      have hok : okE (x, y) := okE_good hn HP.out hbad
      have hm1 : m' < maxLen := by unfold maxLen; omega
      have HB := Lib.hid hbad
      clear hbad
      refine wp_cond_false (slotE e143) ?_
      clear e143; refine wp_skip ?_; refine hKq6 _ _ ?_; clear hKq6 Kq6
      refine sm_list [5, 9] 144 2 hs hd (by kernel_rfl) (agC e5 (agC e9 agN)) rfl ?_
      simp only [seval]
      go_wp2_with (first | (refine wpList_load_any_d rfl 61 (.tmp 1) rfl ⟨g9, 0, none⟩ rfl (#[.int .i64 x, .int .i64 y]) _ (blk_cells B9) Try.underlying61 rfl (by kernel_rfl) ?_) | (at_mapUpdate; refine wpList_mapUpdate_E rfl (.tmp 2) (.tmp 3) (.const (.bool true)) _ rfl rfl hE endKey Try.underlying110 hm1 (x, y) rfl hok (.bool true) rfl ?_; intro w7 hE7 hg7) | fail)
      intro a H; replace hs := H.s hs; replace hd := H.d rfl; replace e5 := H.g 5 rfl rfl; replace e1 := H.k e1 rfl; replace e7 := H.k e7 rfl; replace e100 := H.k e100 rfl; replace e101 := H.k e101 rfl; replace e102 := H.k e102 rfl; replace e107 := H.k e107 rfl; replace e108 := H.k e108 rfl; clear e9; clear H; refine hKq4 _ _ ?_; clear hKq4 Kq4
      have hb7 : Below gm w w7 := hb6.trans (below_one hg7 (Nat.le_of_lt hE.lt) (Nat.le_refl _))
      have B77 := B7.keep hg7 (by omega)
      refine sm_list [108] 146 1 hs hd (by kernel_rfl) (agC e108 agN) rfl ?_
      simp only [seval]
      go_wp2_with fail
      intro a H; replace hs := H.s hs; replace hd := H.d rfl; replace e1 := H.k e1 rfl; replace e5 := H.k e5 rfl; replace e7 := H.k e7 rfl; replace e100 := H.k e100 rfl; replace e101 := H.k e101 rfl; replace e102 := H.k e102 rfl; replace e107 := H.k e107 rfl; replace e108 := H.g 108 rfl rfl; clear H
      refine ⟨⟨s + 1, (x, y) :: used', _, _, by omega, hs, hd, e1, e5, e7, e100, e101, e102, e107, e108, hb7, B77, hE7, fun p hp => ?_, ?_, ?_⟩, ?_⟩
      · rcases Classical.em (p = (x, y)) with hq | hq
        · subst hq; rw [upd_same, if_pos (List.mem_cons_self ..)]
        · rw [upd_other hq, HF.out p hp]; simp [hq]
      · split <;> omega
      · rw [← HV.out]; obtain ⟨hx, hy⟩ := HX2.out; rw [hx, hy]; exact stepV_good HS.out (by rw [← hx, ← hy]; exact HB.out)
      · simp only [hmm, slot e108, intOf]; omega
    · have hbad : badEnd C used' (x, y) = true := HR.out.symm
      have HB := Lib.hid hbad
      clear hbad
      refine wp_cond_true (slotE e143) ?_
      clear e143; refine wp_seq_k fun Kq8 hKq8 => ?_
      refine sm_list [] 2 1 hs hd (by kernel_rfl) agN rfl ?_
      simp only [seval]
      go_wp2_with fail
      intro a H; replace hs := H.s hs; replace hd := H.d rfl; replace e1 := H.k e1 rfl; replace e5 := H.k e5 rfl; replace e7 := H.k e7 rfl; replace e100 := H.k e100 rfl; replace e101 := H.k e101 rfl; replace e102 := H.k e102 rfl; replace e107 := H.k e107 rfl; replace e108 := H.k e108 rfl; replace e9 := H.k e9 rfl; have e2 := H.g 2 rfl rfl; clear H; refine hKq8 _ _ ?_; clear hKq8 Kq8; refine wp_ret ?_
      refine exit_then rfl ?_; refine ret_block ?_; refine exit_then rfl ?_; refine exit_then rfl ?_; refine ret_block ?_
      exact HEND.out.2 a w6 hs hd e2 hb6 (by rw [← HV.out]; obtain ⟨hx, hy⟩ := HX2.out; exact stepV_bad HS.out (by rw [← hx, ← hy]; exact HB.out))
  · obtain rfl : s = 2 := by omega
    have dj : decide ((2 : Int) < 2) = false := rfl
    clear hlt hmm
    refine sm_list [108] 109 1 hs hd (by kernel_rfl) (agC e108 agN) rfl ?_
    simp only [seval]
    go_wp2_with fail
    intro a H; replace hs := H.s hs; replace hd := H.d rfl; replace e108 := H.g 108 rfl rfl; replace e1 := H.k e1 rfl; replace e5 := H.k e5 rfl; replace e7 := H.k e7 rfl; replace e100 := H.k e100 rfl; replace e101 := H.k e101 rfl; replace e102 := H.k e102 rfl; replace e107 := H.k e107 rfl; have e109 := H.g 109 rfl rfl; clear H; refine hKq2 _ _ ?_; clear hKq2 Kq2; refine wp_seq_k fun Kq3 hKq3 => ?_
    refine wp_cond_false (slotE e109) ?_
    clear e109; refine wp_exit ?_; refine exit_then rfl ?_; clear hKq3 Kq3; refine exit_then rfl ?_; refine exit_hit ?_
    exact HEND.out.1 a w3 m' f' used' hs hd e1 e5 e7 e100 e101 e102 hb B7 hE HF.out (by omega) HV.out
end Go.Proofs.Ytaegngcbiefckaa
