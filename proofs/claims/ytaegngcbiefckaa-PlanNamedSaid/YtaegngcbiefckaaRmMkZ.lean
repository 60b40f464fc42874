/-
  The reference makes a plan.
-/
import Derived.Test.YtaegngcbiefckaaRmB
import Derived.Test.YtaegngcbiefckaaRmFlZ
import Derived.Test.YtaegngcbiefckaaRfOfZ
import Derived.Test.YtaegngcbiefckaaRfCkZ
import Derived.Test.YtaegngcbiefckaaPlnMk
namespace Go.Proofs.Ytaegngcbiefckaa
set_option linter.unusedSimpArgs false
set_option linter.unusedVariables false
open Go.RowKit Go.WideShapes Go.ChangeShapes
attribute [local go_sem ↓] Go.wp_at_zero Go.wp_at_succ

theorem flowsGo_end {C : Cf} {S : List Sp} {W : List (Int × Int)} (h0 : checkV C = 0) (h : flowsGo C (offV C) [] [] C.flows = .ok (S, W)) {x : Sp} (hx : x ∈ S) : x.1 ∈ endsTo C C.nodes.length := by
  obtain ⟨rs, h1, rfl, rfl⟩ := (flowsGo_ok C (offV C) C.flows [] [] S W).1 h
  rw [List.nil_append] at hx
  obtain ⟨r, hr, hxr⟩ := List.mem_flatMap.1 hx
  obtain ⟨f, _, xs, ys, S1, T1, _, _, _, _, hwx, hwy, _, h3, h4, e⟩ := h1.parts.1 r hr
  obtain ⟨hxl, _, sx, _⟩ := wayV_steps hwx
  obtain ⟨hyl, _, sy, _⟩ := wayV_steps hwy
  have hlk : ∃ l ∈ C.links, x.1 = (l.n0, l.p0) ∨ x.1 = (l.n1, l.p1) := by
    rw [e] at hxr
    rcases List.mem_append.1 hxr with hm | hm
    · exact steps_mem xs f.w0 _ sx (by rw [← (hopsGo_ends xs f.w0 0 0 0 _ hxl h3).1]; exact List.mem_map.2 ⟨x, hm, rfl⟩)
    · exact steps_mem ys f.w1 _ sy (by rw [← (hopsGo_ends ys f.w1 0 0 0 _ hyl h4).1]; exact List.mem_map.2 ⟨x, hm, rfl⟩)
  obtain ⟨l, hl, he⟩ := hlk
  have hin := linksV_in C.links [] (checkV_zero.1 h0).2.2.2 l hl
  rcases he with he | he
  · rw [he]; exact hin.1.to
  · rw [he]; exact hin.2.to
theorem noOv_pair {S : List Sp} : NoOv S S.length ↔ S.Pairwise NoHit := by
  constructor
  · intro h
    rw [List.pairwise_iff_getElem]
    intro i j hi hj hij hh
    refine h j i _ _ hj hij (List.getElem?_eq_getElem hj) (List.getElem?_eq_getElem hi) ⟨hh.1.symm, hh.2.2, hh.2.1⟩
  · intro h i j x y hi hj hx hy hh
    rw [List.pairwise_iff_getElem] at h
    obtain ⟨hi', rfl⟩ := List.getElem?_eq_some_iff.1 hx
    obtain ⟨hj', rfl⟩ := List.getElem?_eq_some_iff.1 hy
    exact h j i hj' hi' hj ⟨hh.1.symm, hh.2.2, hh.2.1⟩
theorem ports_over {C : Cf} {S : List Sp} (hE : ∀ x ∈ S, x.1 ∈ endsTo C C.nodes.length) : portsOk C S = true ↔ NoOv S S.length := by
  rw [portsOk_iff, noOv_pair]
  have key : ∀ e, Disj (atEnd S e) ↔ S.Pairwise fun x y => x.1 = e → y.1 = e → (x.2.2 ≤ y.2.1 ∨ y.2.2 ≤ x.2.1) := by
    intro e
    unfold Disj atEnd
    rw [List.pairwise_filterMap]
    constructor
    · intro h
      refine h.imp fun {x y} h hx hy => h _ ?_ _ ?_
      · rw [if_pos hx]
      · rw [if_pos hy]
    · intro h
      refine h.imp fun {x y} h b hb b' hb' => ?_
      split at hb
      · split at hb'
        · cases hb; cases hb'; rename_i h1 h2; exact h h1 h2
        · cases hb'
      · cases hb
  constructor
  · intro h
    rw [List.pairwise_iff_getElem]
    intro i j hi hj hij hh
    have := (key _).1 (h _ (hE _ (List.getElem_mem hi)))
    rw [List.pairwise_iff_getElem] at this
    have := this i j hi hj hij rfl hh.1.symm
    omega
  · intro h e _
    refine (key e).2 (h.imp fun {x y} hn hx hy => ?_)
    unfold NoHit at hn
    by_cases hq : x.2.2 ≤ y.2.1
    · exact .inl hq
    · refine .inr ?_
      have hc : ¬ (x.2.1 < y.2.2 ∧ y.2.1 < x.2.2) := fun c => hn ⟨hx.trans hy.symm, c⟩
      omega
/-- What the reference's Make answers. -/
def RMade (C : Cf) (w w' : World) (e : Ending) : Prop :=
  Below w.heap.size w w' ∧ ((∃ k : Int, makeV C = .error k ∧ e = .returned (.tuple #[.agg #[.int .i64 0, .slice none 0 0, .slice none 0 0], .int .i64 k])) ∨
    ∃ (S : List Sp) (W : List (Int × Int)) (vW vS : Value), makeV C = .ok (S, W) ∧ e = .returned (.tuple #[.agg (pcs (offV C) vW vS), .int .i64 0]) ∧ w'.ownsRow w.heap.size 53 2 vW W.length (W.flatMap spc) ∧ w'.ownsRow w.heap.size 103 4 vS S.length (S.flatMap rsp) ∧ S.length ≤ 1000)
def RFlI (C : Cf) (R : RL) (off : Int) (L g2 g5 : Nat) (w5 : World) (a : Act) (w' : World) : Prop :=
  ∃ (j : Nat) (S : List Sp) (W : List (Int × Int)) (vW vS : Value), j ≤ C.flows.length ∧ a.tmps.size = 388 ∧ a.defers = [] ∧ a.tmps[1]? = some (.pointer (some ⟨L, 0, none⟩)) ∧ a.tmps[2]? = some (.pointer (some ⟨g2, 0, none⟩)) ∧ a.tmps[5]? = some (.pointer (some ⟨g5, 0, none⟩)) ∧ a.tmps[46]? = some (.slice R.F.A C.flows.length R.F.c) ∧ a.tmps[47]? = some (.int .i64 (C.flows.length : Int)) ∧ a.tmps[48]? = some (.int .i64 (j : Int)) ∧ Below g5 w5 w' ∧ PBx w' g5 off W S vW vS ∧ S.length ≤ 32 * j ∧ Hid (W.length = j) ∧ GoodAll C S ∧ FInv C off j S W
theorem RFlI.intro {C : Cf} {R : RL} {off : Int} {L g2 g5 : Nat} {w5 : World} {a : Act} {w' : World} (h : ∃ (j : Nat) (S : List Sp) (W : List (Int × Int)) (vW vS : Value), j ≤ C.flows.length ∧ a.tmps.size = 388 ∧ a.defers = [] ∧ a.tmps[1]? = some (.pointer (some ⟨L, 0, none⟩)) ∧ a.tmps[2]? = some (.pointer (some ⟨g2, 0, none⟩)) ∧ a.tmps[5]? = some (.pointer (some ⟨g5, 0, none⟩)) ∧ a.tmps[46]? = some (.slice R.F.A C.flows.length R.F.c) ∧ a.tmps[47]? = some (.int .i64 (C.flows.length : Int)) ∧ a.tmps[48]? = some (.int .i64 (j : Int)) ∧ Below g5 w5 w' ∧ PBx w' g5 off W S vW vS ∧ S.length ≤ 32 * j ∧ Hid (W.length = j) ∧ GoodAll C S ∧ FInv C off j S W) : RFlI C R off L g2 g5 w5 a w' := h
theorem RFlI.out {C : Cf} {R : RL} {off : Int} {L g2 g5 : Nat} {w5 : World} {a : Act} {w' : World} (h : RFlI C R off L g2 g5 w5 a w') : ∃ (j : Nat) (S : List Sp) (W : List (Int × Int)) (vW vS : Value), j ≤ C.flows.length ∧ a.tmps.size = 388 ∧ a.defers = [] ∧ a.tmps[1]? = some (.pointer (some ⟨L, 0, none⟩)) ∧ a.tmps[2]? = some (.pointer (some ⟨g2, 0, none⟩)) ∧ a.tmps[5]? = some (.pointer (some ⟨g5, 0, none⟩)) ∧ a.tmps[46]? = some (.slice R.F.A C.flows.length R.F.c) ∧ a.tmps[47]? = some (.int .i64 (C.flows.length : Int)) ∧ a.tmps[48]? = some (.int .i64 (j : Int)) ∧ Below g5 w5 w' ∧ PBx w' g5 off W S vW vS ∧ S.length ≤ 32 * j ∧ Hid (W.length = j) ∧ GoodAll C S ∧ FInv C off j S W := h
set_option maxRecDepth 100000 in
set_option maxHeartbeats 4000000 in
theorem rmake_any (C : Cf) (R : RL) (w : World) (hC : RfAt w w.heap.size C R) (hsz : C.nodes.length ≤ 20 ∧ C.links.length ≤ 70 ∧ C.flows.length ≤ 20) : Calls Try.prog 13 #[.agg (rfc C R)] w fun e w' => RMade C w w' e := by
  refine calls_sm (N := 388) Try.func13 rfl (by kernel_rfl) ?_
  intro a hs hd ha
  have e0 : a.tmps[0]? = some (.agg (rfc C R)) := ha 0 _ rfl
  clear ha
  conv => arg 2; whnf
  refine wp_seq_k fun Kq1 hKq1 => ?_
  refine sm_list [0] 1 3 hs hd (by kernel_rfl) (agC e0 agN) rfl ?_
  simp only [seval]
  go_wp2_with fail
  intro a H; replace hs := H.s hs; replace hd := H.d rfl; clear e0; have e1 := H.g 1 rfl rfl; have e2 := H.g 2 rfl rfl; clear H; refine hKq1 _ _ ?_; clear hKq1 Kq1; refine wp_seq_k fun Kq2 hKq2 => ?_
  have BC := (Blk.new w 42 (rfc C R)).alloc (.cells #[.int .i64 0, .slice none 0 0, .slice none 0 0] 47)
  have B2 := Blk.new (w.alloc (.cells (rfc C R) 42)) 47 #[.int .i64 0, .slice none 0 0, .slice none 0 0]
  have L0 : Below w.heap.size w ((w.alloc (.cells (rfc C R) 42)).alloc (.cells #[.int .i64 0, .slice none 0 0, .slice none 0 0] 47)) := ((Below.refl _ _).alloc (Nat.le_refl _) _).alloc (by simp) _
  obtain ⟨g2, hg2⟩ : ∃ g, g = (w.alloc (.cells (rfc C R) 42)).heap.size := ⟨_, rfl⟩
  have e2q : a.tmps[2]? = some (.pointer (some ⟨g2, 0, none⟩)) := by rw [hg2]; simpa using e2
  replace e2 := e2q
  clear e2q
  have hL2 : w.heap.size < g2 := by rw [hg2]; simp
  rw [← hg2] at B2
  clear hg2
  generalize ((w.alloc (.cells (rfc C R) 42)).alloc (.cells #[.int .i64 0, .slice none 0 0, .slice none 0 0] 47)) = w1 at *
  obtain ⟨L, hL⟩ : ∃ B, B = w.heap.size := ⟨_, rfl⟩
  rw [← hL] at hC L0 hL2 e1 BC
  have HLL := Lib.hid hL
  clear hL
  have hL1 : L < w1.heap.size := BC.lt
  have hg2z : g2 < w1.heap.size := B2.lt
  have HCK := Lib.hid (rcheck_any C R w1 ((hC.below L0).more (Nat.le_of_lt hL1)) hsz)
  refine sm_list [1, 4] 36 2 hs hd (by kernel_rfl) (agC e1 (agU agN)) rfl ?_
  simp only [seval]
  go_wp2_with (first | (refine wpList_load_any_d rfl 42 (.tmp 0) rfl ⟨L, 0, none⟩ rfl (rfc C R) _ (blk_cells BC) Try.underlying42 rfl (by kernel_rfl) ?_) | fail)
  refine HCK.out.mono ?_
  rintro e w2 ⟨rfl, hb2⟩
  go_wp2_with fail
  intro a H; replace hs := H.s hs; replace hd := H.d rfl; replace e1 := H.g 1 rfl rfl; replace e2 := H.k e2 rfl; have e4 := H.g 4 rfl rfl; clear H; refine hKq2 _ _ ?_; clear hKq2 Kq2; refine wp_seq_k fun Kq3 hKq3 => ?_; refine wp_seq_k fun Kq4 hKq4 => ?_; clear HCK
  have L2 : Below L w w2 := L0.trans (hb2.mono (Nat.le_of_lt hL1))
  replace BC := BC.kept hb2
  replace B2 := B2.kept hb2
  have hLz : L ≤ w2.heap.size := Nat.le_of_lt BC.lt
  obtain ⟨ck, hck⟩ : ∃ k, k = checkV C := ⟨_, rfl⟩
  rw [← hck] at e4
  have HCV := Lib.hid hck
  clear hck hb2 L0 hL1
  by_cases hz : ck = 0
  rotate_left
  · have dn : (ck != 0) = true := bne_iff_ne.2 hz
    have HV := Lib.hid (make_err1 (C := C) (by rw [← HCV.out]; exact hz))
    clear hz
    refine sm_list [4] 38 2 hs hd (by kernel_rfl) (agC e4 agN) rfl ?_
    simp only [seval]
    go_wp2_with fail
    intro a H; replace hs := H.s hs; replace hd := H.d rfl; replace e4 := H.g 4 rfl rfl; replace e1 := H.k e1 rfl; replace e2 := H.k e2 rfl; have e39 := H.g 39 rfl rfl; clear H; refine hKq4 _ _ ?_; clear hKq4 Kq4
    refine wp_cond_true (slotE e39) ?_
    clear e39; refine wp_seq_k fun Kq5 hKq5 => ?_
    have HB2 := Lib.hid B2
    refine sm_list [2, 3, 4] 40 2 hs hd (by kernel_rfl) (agC e2 (agU (agC e4 agN))) rfl ?_
    simp only [seval]
    go_wp2_with (first | (refine wpList_store_part rfl 47 (.tmp 0) (.tmp 3) rfl (off := 0) rfl HB2.out rfl (by simp) (by kernel_rfl) (by rw [← Array.all_toList]; rfl) ?_; intro wq Bq zq grq) | fail)
    intro a H; replace hs := H.s hs; replace hd := H.d rfl; replace e2 := H.g 2 rfl rfl; replace e4 := H.g 4 rfl rfl; replace e1 := H.k e1 rfl; have e3 := H.g 3 rfl rfl; clear H; refine hKq5 _ _ ?_; clear hKq5 Kq5; refine wp_ret ?_; refine exit_then rfl ?_
    have Bq' : Blk wq g2 47 #[.int .i64 0, .slice none 0 0, .slice none 0 0] := by simpa [putAll] using Bq
    refine sm_ret_cell rfl hd e2 Bq' Try.underlying47 rfl (by kernel_rfl) e3 ⟨by rw [← HLL.out]; exact L2.grown grq hLz (fun k hk => by cases hk; exact Nat.le_of_lt hL2), .inl ⟨ck, by rw [HCV.out]; exact HV.out, rfl⟩⟩
  · have dn : (ck != 0) = false := by rw [hz]; rfl
    have hz0 : checkV C = 0 := by rw [← HCV.out]; exact hz
    have HZ := Lib.hid hz0
    have HW := Lib.hid (well hz0)
    clear hz hz0 HCV
    refine sm_list [4] 38 2 hs hd (by kernel_rfl) (agC e4 agN) rfl ?_
    simp only [seval]
    go_wp2_with fail
    intro a H; replace hs := H.s hs; replace hd := H.d rfl; replace e4 := H.g 4 rfl rfl; replace e1 := H.k e1 rfl; replace e2 := H.k e2 rfl; have e39 := H.g 39 rfl rfl; clear H; refine hKq4 _ _ ?_; clear hKq4 Kq4
    refine wp_cond_false (slotE e39) ?_
    clear e39; refine wp_skip ?_; refine hKq3 _ _ ?_; clear hKq3 Kq3; refine wp_seq_k fun Kq5 hKq5 => ?_; clear e4; clear dn
    have HOF := Lib.hid (roff_any C R w2 ((hC.below L2).more hLz) HW.out.off)
    obtain ⟨off, hoff⟩ : ∃ k, k = offV C := ⟨_, rfl⟩
    have hob := offV_bounds HW.out.off
    rw [← hoff] at HOF hob
    have HOV := Lib.hid hoff
    have HOB : Hid (0 ≤ off ∧ off ≤ 1000000000000000) := Lib.hid (by omega)
    clear hoff hob
    refine sm_list [1, 5] 42 3 hs hd (by kernel_rfl) (agC e1 (agU agN)) rfl ?_
    simp only [seval]
    go_wp2_with (first | (refine wpList_load_any_d rfl 42 (.tmp 0) rfl ⟨L, 0, none⟩ rfl (rfc C R) _ (blk_cells BC) Try.underlying42 rfl (by kernel_rfl) ?_) | fail)
    refine HOF.out.mono ?_
    rintro e w3 ⟨rfl, hb3⟩
    go_wp2_with (first | (refine wpList_store_new rfl 47 (.tmp 1) (.tmp 4) rfl rfl rfl rfl rfl (by kernel_rfl) (by rw [← Array.all_toList]; rfl) ?_) | fail)
    intro a H; replace hs := H.s hs; replace hd := H.d rfl; replace e1 := H.g 1 rfl rfl; replace e2 := H.k e2 rfl; have e5 := H.g 5 rfl rfl; clear H; refine hKq5 _ _ ?_; clear hKq5 Kq5; refine wp_seq_k fun Kq6 hKq6 => ?_; refine wp_seq_k fun Kq7 hKq7 => ?_; clear HOF
    have L3 : Below L w w3 := L2.trans (hb3.mono hLz)
    replace BC := BC.kept hb3
    replace B2 := B2.kept hb3
    clear hb3 L2 hLz
    have hP := PBx.start w3 off
    have L5 : Below w3.heap.size w3 (w3.alloc (.cells (pcs off (.slice none 0 0) (.slice none 0 0)) 47)) := (Below.refl _ _).alloc (Nat.le_refl _) _
    replace BC := BC.kept L5
    have hg2w : g2 < w3.heap.size := B2.lt
    replace B2 := B2.kept L5
    obtain ⟨g5, hg5⟩ : ∃ g, g = w3.heap.size := ⟨_, rfl⟩
    have h5e : (w3.alloc (.cells (pcs off (.slice none 0 0) (.slice none 0 0)) 47)) = w3.alloc (.cells #[.int .i64 off, .slice none 0 0, .slice none 0 0] 47) := rfl
    rw [h5e] at hP L5 BC B2
    rw [← hg5] at hP e5 hg2w L5
    have L5w := L3.trans (L5.mono (by omega))
    generalize w3.alloc (.cells #[.int .i64 off, .slice none 0 0, .slice none 0 0] 47) = w5 at *
    clear hg5 h5e L5 L3 hg2z
    skip
    have c3 := BC.cellOf (v := .slice R.F.A C.flows.length R.F.c) 3 rfl
    refine sm_list [1] 45 4 hs hd (by kernel_rfl) (agC e1 agN) rfl ?_
    simp only [seval]
    go_wp2_with fail
    intro a H; replace hs := H.s hs; replace hd := H.d rfl; replace e1 := H.g 1 rfl rfl; replace e2 := H.k e2 rfl; replace e5 := H.k e5 rfl; have e46 := H.g 46 rfl rfl; have e47 := H.g 47 rfl rfl; have e48 := H.g 48 rfl rfl; clear H; refine hKq7 _ _ ?_; clear hKq7 Kq7; refine wp_block ?_; clear c3
    have hC5 := hC.below L5w
    have hF16 := HW.out.flows
    refine wp_loop (RFlI C R off L g2 g5 w5) (fun a _ => C.flows.length - (intOf (a.tmps.getD 48 undef)).toNat) ?_ ?_
    · exact RFlI.intro ⟨0, [], [], _, _, Nat.zero_le _, hs, hd, e1, e2, e5, e46, e47, e48, Below.refl _ _, hP, Nat.zero_le _, Lib.hid rfl, GoodAll.nil, FInv.start⟩
    clear hs hd e48 e1 e2 e5 e46 e47 a hP
    rintro a w6 hinv
    obtain ⟨j, S, W, vW, vS, hj, hs, hd, e1, e2, e5, e46, e47, e48, hb6, hP, hSl, HWL, hgood, hfi⟩ := hinv.out
    clear hinv
    have hm := slot e48
    have HGD := Lib.hid hgood
    have HFI := Lib.hid hfi
    clear hgood hfi
    have BC6 := BC.below hb6 (by omega)
    have B26 := B2.below hb6 (by omega)
    have hC6 := hC5.below (hb6.mono (by omega))
    have L6w : Below L w w6 := L5w.trans (hb6.mono (by omega))
    refine wp_seq_k fun Kq8 hKq8 => ?_
    by_cases hlt : j < C.flows.length
    ·
      have dj : decide ((j : Int) < (C.flows.length : Int)) = true := decide_eq_true (by omega)
      obtain ⟨f, hf⟩ : ∃ f, C.flows[j]? = some f := ⟨_, List.getElem?_eq_getElem hlt⟩
      have HFJ := Lib.hid hf
      clear hf
      refine sm_list [47, 48] 49 1 hs hd (by kernel_rfl) (agC e47 (agC e48 agN)) rfl ?_
      simp only [seval]
      go_wp2_with fail
      intro a H; replace hs := H.s hs; replace hd := H.d rfl; replace e47 := H.g 47 rfl rfl; replace e48 := H.g 48 rfl rfl; replace e1 := H.k e1 rfl; replace e2 := H.k e2 rfl; replace e5 := H.k e5 rfl; replace e46 := H.k e46 rfl; have e49 := H.g 49 rfl rfl; clear H; refine hKq8 _ _ ?_; clear hKq8 Kq8; refine wp_seq_k fun Kq9 hKq9 => ?_
      refine wp_cond_true (slotE e49) ?_
      clear e49; refine wp_skip ?_; refine hKq9 _ _ ?_; clear hKq9 Kq9; refine wp_seq_k fun Kq10 hKq10 => ?_
      refine rm_flow C R f off j L g2 g5 S W vW vS a w6 _ hs hd e1 e2 e5 e46 e47 e48 hC6 BC6 B26 hP ⟨by omega, by omega⟩ HFJ.out HZ.out HOB.out (by omega) (by rw [HWL.out]; omega) ?_ ?_
      rotate_left
      · clear hs hd e1 e2 e5 e46 e47 e48 BC6 B26 hC6 hP
        intro a w7 k hs hd e2 e3 hb7 B27 hV
        have HV := Lib.hid (make_err2 HZ.out (by rw [← HOV.out]; exact HFI.out.bad HFJ.out hV))
        clear hV; refine exit_then rfl ?_; refine exit_then rfl ?_; refine ret_block ?_; refine exit_then rfl ?_
        exact sm_ret_cell rfl hd e2 B27 Try.underlying47 rfl (by kernel_rfl) e3 ⟨by rw [← HLL.out]; exact L6w.trans (hb7.mono (by omega)), .inl ⟨k, HV.out, rfl⟩⟩
      clear hs hd e1 e2 e5 e46 e47 e48 BC6 B26 hC6 hP
      intro a w7 S7 vS7 vW7 x hs hd e1 e2 e5 e46 e47 e48 hb7 hP7 hS7 hV
      have HST := Lib.hid (HFI.out.step HFJ.out hV)
      have HG7 := Lib.hid (flowGo_span HW.out HOB.out.1 HGD.out hV)
      clear hV; refine hKq10 _ _ ?_; clear hKq10 Kq10
      refine sm_list [48] 340 1 hs hd (by kernel_rfl) (agC e48 agN) rfl ?_
      simp only [seval]
      go_wp2_with fail
      intro a H; replace hs := H.s hs; replace hd := H.d rfl; replace e1 := H.k e1 rfl; replace e2 := H.k e2 rfl; replace e5 := H.k e5 rfl; replace e46 := H.k e46 rfl; replace e47 := H.k e47 rfl; replace e48 := H.g 48 rfl rfl; clear H
      exact ⟨RFlI.intro ⟨j + 1, S7, W ++ [x], vW7, vS7, by omega, hs, hd, e1, e2, e5, e46, e47, e48, hb6.trans hb7, hP7, by omega, Lib.hid (by rw [List.length_append, HWL.out]; rfl), HG7.out, HST.out⟩, by first | (simp only [hm, slot e48, intOf]; omega) | (simp [e48, intOf]; omega)⟩
    · have hje : j = C.flows.length := by omega
      have dj : decide ((j : Int) < (C.flows.length : Int)) = false := decide_eq_false (by omega)
      have dj2 : decide (j < C.flows.length) = false := decide_eq_false hlt
      have HFV := Lib.hid (HFI.out.done (by omega))
      clear HFI; clear hlt hm hje
      refine sm_list [47, 48] 49 1 hs hd (by kernel_rfl) (agC e47 (agC e48 agN)) rfl ?_
      simp only [seval]
      go_wp2_with fail
      intro a H; replace hs := H.s hs; replace hd := H.d rfl; replace e47 := H.g 47 rfl rfl; replace e48 := H.g 48 rfl rfl; replace e1 := H.k e1 rfl; replace e2 := H.k e2 rfl; replace e5 := H.k e5 rfl; replace e46 := H.k e46 rfl; have e49 := H.g 49 rfl rfl; clear H; refine hKq8 _ _ ?_; clear hKq8 Kq8; refine wp_seq_k fun Kq9 hKq9 => ?_
      refine wp_cond_false (slotE e49) ?_
      clear e49; refine wp_exit ?_; refine exit_then rfl ?_; clear hKq9 Kq9; refine exit_then rfl ?_; refine exit_hit ?_; refine hKq6 _ _ ?_; clear hKq6 Kq6; refine wp_seq_k fun Kq10 hKq10 => ?_; clear e1; clear e46; clear e47; clear e48
      have HPO := Lib.hid (ports_over (C := C) (S := S) (fun x hx => flowsGo_end HZ.out (by rw [← HOV.out]; exact HFV.out) hx))
      refine rm_over off g2 g5 S W vW vS a w6 _ hs hd e2 e5 B26 hP (by omega) (by omega) ?_ ?_
      rotate_left
      · clear hs hd e2 e5
        intro a w7 hs hd e2 e3 hb7 B27 hno
        have HV := Lib.hid (make_err3 HZ.out (by rw [← HOV.out]; exact HFV.out) (by cases hq : portsOk C S; rfl; exact absurd (HPO.out.1 hq) hno))
        refine exit_then rfl ?_
        exact sm_ret_cell rfl hd e2 B27 Try.underlying47 rfl (by kernel_rfl) e3 ⟨by rw [← HLL.out]; exact L6w.trans (hb7.mono (by omega)), .inl ⟨61, HV.out, rfl⟩⟩
      clear hs hd e2 e5
      intro a w7 hs hd e2 e5 hb7 hno
      have HV := Lib.hid (make_fine HZ.out (by rw [← HOV.out]; exact HFV.out) (HPO.out.2 hno))
      have hP7 := hP.keep hb7
      have B27 := B26.kept hb7
      have L7w : Below L w w7 := L6w.trans (hb7.mono (by have := hP.B.lt; omega))
      clear hno HPO HFV hb7; refine hKq10 _ _ ?_; clear hKq10 Kq10; refine wp_seq_k fun Kq11 hKq11 => ?_
      have hlz7 : L ≤ w7.heap.size := by have := B27.lt; omega
      have HB2 := Lib.hid B27
      have HP7 := Lib.hid hP7
      obtain ⟨Av, cv, rfl, _, _⟩ := ownsRow_reads hP7.rW
      obtain ⟨As, cs, rfl, _, _⟩ := ownsRow_reads hP7.rS
      have B57 := hP7.B
      clear hP7
      refine sm_list [2, 3, 5] 387 1 hs hd (by kernel_rfl) (agC e2 (agU (agC e5 agN))) rfl ?_
      simp only [seval]
      go_wp2_with (first | (refine wpList_load_any_d rfl 47 (.tmp 2) rfl ⟨g5, 0, none⟩ rfl (#[.int .i64 off, .slice Av W.length cv, .slice As S.length cs]) _ (blk_cells HP7.out.B) Try.underlying47 rfl (by kernel_rfl) ?_) | (refine wpList_store_part rfl 47 (.tmp 0) (.tmp 3) rfl (off := 0) rfl HB2.out rfl (by simp) (by kernel_rfl) (by rw [← Array.all_toList]; rfl) ?_; intro wq Bq zq grq) | fail)
      intro a H; replace hs := H.s hs; replace hd := H.d rfl; replace e2 := H.g 2 rfl rfl; replace e5 := H.g 5 rfl rfl; have e3 := H.g 3 rfl rfl; clear H; refine hKq11 _ _ ?_; clear hKq11 Kq11; refine wp_ret ?_
      have Bq' : Blk wq g2 47 #[.int .i64 off, .slice Av W.length cv, .slice As S.length cs] := by simpa [putAll] using Bq
      have hPq := HP7.out.far HB2.out grq (by omega) (by decide) (by decide)
      refine sm_ret_cell rfl hd e2 Bq' Try.underlying47 rfl (by kernel_rfl) e3 ⟨by rw [← HLL.out]; exact L7w.grown grq hlz7 (fun k hk => by cases hk; exact Nat.le_of_lt hL2), .inr ⟨S, W, _, _, HV.out, by rw [← HOV.out]; rfl, ownsRow_base hPq.rW (by rw [← HLL.out]; omega), ownsRow_base hPq.rS (by rw [← HLL.out]; omega), by omega⟩⟩
end Go.Proofs.Ytaegngcbiefckaa
