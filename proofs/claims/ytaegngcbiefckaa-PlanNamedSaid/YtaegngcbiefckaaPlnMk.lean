/-
  A plan is made.
-/
import Derived.Test.YtaegngcbiefckaaPlnGtW
namespace Go.Proofs.Ytaegngcbiefckaa
set_option linter.unusedSimpArgs false
set_option linter.unusedVariables false
open Go.RowKit Go.WideShapes Go.ChangeShapes
attribute [local go_sem ↓] Go.wp_at_zero Go.wp_at_succ

def GoodAll (C : Cf) (S : List Sp) : Prop := ∀ x ∈ S, GoodSp C x
theorem GoodAll.nil {C : Cf} : GoodAll C [] := fun x hx => by cases hx
def FInv (C : Cf) (off : Int) (j : Nat) (S : List Sp) (W : List (Int × Int)) : Prop := flowsGo C off [] [] C.flows = flowsGo C off S W (C.flows.drop j)
section
variable {C : Cf} {off k : Int} {j : Nat} {S S' : List Sp} {W : List (Int × Int)} {f : Fw} {x : Int × Int}
theorem FInv.start : FInv C off 0 [] [] := rfl
theorem FInv.bad (h : FInv C off j S W) (hf : C.flows[j]? = some f) (hg : flowGo C off S f = .error k) : flowsGo C off [] [] C.flows = .error k := by
  unfold FInv at h
  rw [h, drop_get hf, flowsGo, hg]
theorem FInv.step (h : FInv C off j S W) (hf : C.flows[j]? = some f) (hg : flowGo C off S f = .ok (S', x)) : FInv C off (j + 1) S' (W ++ [x]) := by
  unfold FInv at h ⊢
  rw [h, drop_get hf, flowsGo, hg]
theorem FInv.done (h : FInv C off j S W) (hj : C.flows.length ≤ j) : flowsGo C off [] [] C.flows = .ok (S, W) := by
  unfold FInv at h
  rw [h, List.drop_eq_nil_of_le hj, flowsGo]
theorem make_err1 (h : checkV C ≠ 0) : makeV C = .error (checkV C) := by rw [makeV, if_pos h]
theorem make_err2 (h : checkV C = 0) (hg : flowsGo C (offV C) [] [] C.flows = .error k) : makeV C = .error k := by rw [makeV, if_neg (by rw [h]; decide), hg]
theorem make_err3 (h : checkV C = 0) (hg : flowsGo C (offV C) [] [] C.flows = .ok (S, W)) (hp : portsOk C S = false) : makeV C = .error 61 := by
  rw [makeV, if_neg (by rw [h]; decide), hg]; simp only; rw [hp]; rfl
theorem make_fine (h : checkV C = 0) (hg : flowsGo C (offV C) [] [] C.flows = .ok (S, W)) (hp : portsOk C S = true) : makeV C = .ok (S, W) := by
  rw [makeV, if_neg (by rw [h]; decide), hg]; simp only; rw [hp]; rfl
end
theorem GtM.set {w w' : World} {B1 gG mg g : Nat} {fg : Int × Int → Option Value} {V : List (Int × Int)} {cyc : Int} {S : List Sp} {t : TypeId} {cs : Array Value} (h : GtM w B1 gG mg fg V cyc S) (B : Blk w g t cs) (hg : g ≠ gG) (ht : t ≠ 67) (hb : w.grownBy w' (some g)) : GtM w' B1 gG mg fg V cyc S :=
  h.fr (hb.block gG h.E.lt (fun e => hg (by injection e with e; exact e.symm))) fun k cs z hk hh => hb.block k hk (by
    intro e
    injection e with e
    subst e
    have B' := B
    unfold Blk at B'
    rw [B'] at hh
    injection hh with hh
    injection hh with _ hh _
    exact ht hh)
/-- What Make answers: the world behind it, and what it returns. -/
def Made (C : Cf) (w w' : World) (e : Ending) : Prop :=
  Below w.heap.size w w' ∧ ((∃ k : Int, makeV C = .error k ∧ e = .returned (.tuple #[.agg #[.int .i64 0, .slice none 0 0, .map none], .int .i64 k])) ∨
    ∃ (S : List Sp) (W : List (Int × Int)) (wv : Value) (B1 gG mg : Nat) (fg : Int × Int → Option Value), makeV C = .ok (S, W) ∧ e = .returned (.tuple #[.agg #[.int .i64 (offV C), wv, .map (some gG)], .int .i64 0]) ∧
      w.heap.size ≤ gG ∧ GtM w' B1 gG mg fg (endsTo C C.nodes.length) C.cycle S ∧ w'.ownsRow w.heap.size 52 2 wv W.length (W.flatMap spc) ∧ ∀ x ∈ S, GoodSp C x)
def FlI (C : Cf) (Y : Lay) (off : Int) (L g2 g6 gm gG B0 : Nat) (w5 : World) (a : Act) (w' : World) : Prop :=
  ∃ (j m : Nat) (fm : Int × Int → Option Value) (S : List Sp) (W : List (Int × Int)) (wv : Value), j ≤ C.flows.length ∧ a.tmps.size = 317 ∧ a.defers = [] ∧ a.tmps[1]? = some (.pointer (some ⟨L, 0, none⟩)) ∧ a.tmps[2]? = some (.pointer (some ⟨g2, 0, none⟩)) ∧ a.tmps[5]? = some (.int .i64 off) ∧ a.tmps[6]? = some (.pointer (some ⟨g6, 0, none⟩)) ∧ a.tmps[7]? = some (.map (some gm)) ∧ a.tmps[42]? = some (.slice Y.F.A C.flows.length Y.F.c) ∧ a.tmps[43]? = some (.int .i64 (C.flows.length : Int)) ∧ a.tmps[44]? = some (.int .i64 (j : Int)) ∧ Below g6 w5 w' ∧ Blk w' g6 32 #[.int .i64 off, wv, .map (some gG)] ∧ SpM w' B0 gm m fm S ∧ w'.ownsRow B0 52 2 wv W.length (W.flatMap spc) ∧ S.length ≤ 32 * j ∧ Hid (W.length = j) ∧ GoodAll C S ∧ FInv C off j S W
theorem FlI.intro {C : Cf} {Y : Lay} {off : Int} {L g2 g6 gm gG B0 : Nat} {w5 : World} {a : Act} {w' : World} (h : ∃ (j m : Nat) (fm : Int × Int → Option Value) (S : List Sp) (W : List (Int × Int)) (wv : Value), j ≤ C.flows.length ∧ a.tmps.size = 317 ∧ a.defers = [] ∧ a.tmps[1]? = some (.pointer (some ⟨L, 0, none⟩)) ∧ a.tmps[2]? = some (.pointer (some ⟨g2, 0, none⟩)) ∧ a.tmps[5]? = some (.int .i64 off) ∧ a.tmps[6]? = some (.pointer (some ⟨g6, 0, none⟩)) ∧ a.tmps[7]? = some (.map (some gm)) ∧ a.tmps[42]? = some (.slice Y.F.A C.flows.length Y.F.c) ∧ a.tmps[43]? = some (.int .i64 (C.flows.length : Int)) ∧ a.tmps[44]? = some (.int .i64 (j : Int)) ∧ Below g6 w5 w' ∧ Blk w' g6 32 #[.int .i64 off, wv, .map (some gG)] ∧ SpM w' B0 gm m fm S ∧ w'.ownsRow B0 52 2 wv W.length (W.flatMap spc) ∧ S.length ≤ 32 * j ∧ Hid (W.length = j) ∧ GoodAll C S ∧ FInv C off j S W) : FlI C Y off L g2 g6 gm gG B0 w5 a w' := h
theorem FlI.out {C : Cf} {Y : Lay} {off : Int} {L g2 g6 gm gG B0 : Nat} {w5 : World} {a : Act} {w' : World} (h : FlI C Y off L g2 g6 gm gG B0 w5 a w') : ∃ (j m : Nat) (fm : Int × Int → Option Value) (S : List Sp) (W : List (Int × Int)) (wv : Value), j ≤ C.flows.length ∧ a.tmps.size = 317 ∧ a.defers = [] ∧ a.tmps[1]? = some (.pointer (some ⟨L, 0, none⟩)) ∧ a.tmps[2]? = some (.pointer (some ⟨g2, 0, none⟩)) ∧ a.tmps[5]? = some (.int .i64 off) ∧ a.tmps[6]? = some (.pointer (some ⟨g6, 0, none⟩)) ∧ a.tmps[7]? = some (.map (some gm)) ∧ a.tmps[42]? = some (.slice Y.F.A C.flows.length Y.F.c) ∧ a.tmps[43]? = some (.int .i64 (C.flows.length : Int)) ∧ a.tmps[44]? = some (.int .i64 (j : Int)) ∧ Below g6 w5 w' ∧ Blk w' g6 32 #[.int .i64 off, wv, .map (some gG)] ∧ SpM w' B0 gm m fm S ∧ w'.ownsRow B0 52 2 wv W.length (W.flatMap spc) ∧ S.length ≤ 32 * j ∧ Hid (W.length = j) ∧ GoodAll C S ∧ FInv C off j S W := h
set_option maxRecDepth 100000 in
set_option maxHeartbeats 4000000 in
theorem make_any (C : Cf) (Y : Lay) (w : World) (hC : CfAt w w.heap.size C Y) : Calls Try.prog 11 #[.agg (cfc C Y)] w fun e w' => Made C w w' e := by
  refine calls_sm (N := 317) Try.func11 rfl (by kernel_rfl) ?_
  intro a hs hd ha
  have e0 : a.tmps[0]? = some (.agg (cfc C Y)) := ha 0 _ rfl
  clear ha
  conv => arg 2; whnf
  refine wp_seq_k fun Kq1 hKq1 => ?_
  refine sm_list [0] 1 3 hs hd (by kernel_rfl) (agC e0 agN) rfl ?_
  simp only [seval]
  go_wp2_with fail
  intro a H; replace hs := H.s hs; replace hd := H.d rfl; clear e0; have e1 := H.g 1 rfl rfl; have e2 := H.g 2 rfl rfl; clear H; refine hKq1 _ _ ?_; clear hKq1 Kq1; refine wp_seq_k fun Kq2 hKq2 => ?_; refine wp_seq_k fun Kq3 hKq3 => ?_
  have BC := (Blk.new w 26 (cfc C Y)).alloc (.cells #[.int .i64 0, .slice none 0 0, .map none] 32)
  have B2 := Blk.new (w.alloc (.cells (cfc C Y) 26)) 32 #[.int .i64 0, .slice none 0 0, .map none]
  have L0 : Below w.heap.size w ((w.alloc (.cells (cfc C Y) 26)).alloc (.cells #[.int .i64 0, .slice none 0 0, .map none] 32)) := ((Below.refl _ _).alloc (Nat.le_refl _) _).alloc (by simp) _
  obtain ⟨g2, hg2⟩ : ∃ g, g = (w.alloc (.cells (cfc C Y) 26)).heap.size := ⟨_, rfl⟩
  have e2q : a.tmps[2]? = some (.pointer (some ⟨g2, 0, none⟩)) := by rw [hg2]; simpa using e2
  replace e2 := e2q
  clear e2q
  have hL2 : w.heap.size ≤ g2 := by rw [hg2]; simp
  rw [← hg2] at B2
  clear hg2
  generalize ((w.alloc (.cells (cfc C Y) 26)).alloc (.cells #[.int .i64 0, .slice none 0 0, .map none] 32)) = w1 at *
  obtain ⟨L, hL⟩ : ∃ B, B = w.heap.size := ⟨_, rfl⟩
  rw [← hL] at hC L0 hL2 e1 BC
  have HLL := Lib.hid hL
  clear hL
  have hL1 : L < w1.heap.size := BC.lt
  have hg2z : g2 < w1.heap.size := B2.lt
  have HCK := Lib.hid (check_any C Y w1 ((hC.below L0).more (Nat.le_of_lt hL1)))
  refine sm_list [1, 4] 29 2 hs hd (by kernel_rfl) (agC e1 (agU agN)) rfl ?_
  simp only [seval]
  go_wp2_with (first | (refine wpList_load_any_d rfl 26 (.tmp 0) rfl ⟨L, 0, none⟩ rfl (cfc C Y) _ (blk_cells BC) Try.underlying26 rfl (by kernel_rfl) ?_) | fail)
  refine HCK.out.mono ?_
  rintro e w2 ⟨rfl, hb2⟩
  go_wp2_with fail
  intro a H; replace hs := H.s hs; replace hd := H.d rfl; replace e1 := H.g 1 rfl rfl; replace e2 := H.k e2 rfl; have e4 := H.g 4 rfl rfl; clear H; refine hKq3 _ _ ?_; clear hKq3 Kq3; refine wp_seq_k fun Kq4 hKq4 => ?_; clear HCK
  have L2 : Below L w w2 := L0.trans (hb2.mono (Nat.le_of_lt hL1))
  replace BC := BC.kept hb2
  replace B2 := B2.kept hb2
  have hLz : L ≤ w2.heap.size := Nat.le_of_lt BC.lt
  obtain ⟨ck, hck⟩ : ∃ k, k = checkV C := ⟨_, rfl⟩
  rw [← hck] at e4
  have HCV := Lib.hid hck
  clear hck hb2 L0 hL1
  by_cases hz : ck = 0
  rotate_left
  · have dn : (ck != 0) = true := bne_iff_ne.2 hz
    have HV := Lib.hid (make_err1 (C := C) (by rw [← HCV.out]; exact hz))
    clear hz
    refine sm_list [4] 31 2 hs hd (by kernel_rfl) (agC e4 agN) rfl ?_
    simp only [seval]
    go_wp2_with fail
    intro a H; replace hs := H.s hs; replace hd := H.d rfl; replace e4 := H.g 4 rfl rfl; replace e1 := H.k e1 rfl; replace e2 := H.k e2 rfl; have e32 := H.g 32 rfl rfl; clear H; refine hKq4 _ _ ?_; clear hKq4 Kq4
    refine wp_cond_true (slotE e32) ?_
    clear e32; refine wp_seq_k fun Kq5 hKq5 => ?_
    have HB2 := Lib.hid B2
    clear B2
    refine sm_list [2, 3, 4] 33 2 hs hd (by kernel_rfl) (agC e2 (agU (agC e4 agN))) rfl ?_
    simp only [seval]
    go_wp2_with (first | (refine wpList_store_part rfl 32 (.tmp 0) (.tmp 3) rfl (off := 0) rfl HB2.out rfl (by simp) (by kernel_rfl) (by rw [← Array.all_toList]; rfl) ?_; intro wq Bq zq grq) | fail)
    intro a H; replace hs := H.s hs; replace hd := H.d rfl; replace e2 := H.g 2 rfl rfl; replace e4 := H.g 4 rfl rfl; replace e1 := H.k e1 rfl; have e3 := H.g 3 rfl rfl; clear H; refine hKq5 _ _ ?_; clear hKq5 Kq5; refine wp_ret ?_; refine exit_then rfl ?_
    have Bq' : Blk wq g2 32 #[.int .i64 0, .slice none 0 0, .map none] := by simpa [putAll] using Bq
    refine sm_ret_cell rfl hd e2 Bq' Try.underlying32 rfl (by kernel_rfl) e3 ⟨by rw [← HLL.out]; exact L2.grown grq hLz (fun k hk => by cases hk; exact hL2), .inl ⟨ck, by rw [HCV.out]; exact HV.out, rfl⟩⟩
  · have dn : (ck != 0) = false := by rw [hz]; rfl
    have hz0 : checkV C = 0 := by rw [← HCV.out]; exact hz
    have HZ := Lib.hid hz0
    have HW := Lib.hid (well hz0)
    clear hz hz0 HCV
    refine sm_list [4] 31 2 hs hd (by kernel_rfl) (agC e4 agN) rfl ?_
    simp only [seval]
    go_wp2_with fail
    intro a H; replace hs := H.s hs; replace hd := H.d rfl; replace e4 := H.g 4 rfl rfl; replace e1 := H.k e1 rfl; replace e2 := H.k e2 rfl; have e32 := H.g 32 rfl rfl; clear H; refine hKq4 _ _ ?_; clear hKq4 Kq4
    refine wp_cond_false (slotE e32) ?_
    clear e32; refine wp_skip ?_; refine hKq2 _ _ ?_; clear hKq2 Kq2; refine wp_seq_k fun Kq5 hKq5 => ?_; clear e4; clear dn
    have HOF := Lib.hid (off_any C Y w2 ((hC.below L2).more hLz) HW.out.off)
    refine sm_list [1, 5] 35 2 hs hd (by kernel_rfl) (agC e1 (agU agN)) rfl ?_
    simp only [seval]
    go_wp2_with (first | (refine wpList_load_any_d rfl 26 (.tmp 0) rfl ⟨L, 0, none⟩ rfl (cfc C Y) _ (blk_cells BC) Try.underlying26 rfl (by kernel_rfl) ?_) | fail)
    refine HOF.out.mono ?_
    rintro e w3 ⟨rfl, hb3⟩
    go_wp2_with fail
    intro a H; replace hs := H.s hs; replace hd := H.d rfl; replace e1 := H.g 1 rfl rfl; replace e2 := H.k e2 rfl; have e5 := H.g 5 rfl rfl; clear H; refine hKq5 _ _ ?_; clear hKq5 Kq5; refine wp_seq_k fun Kq6 hKq6 => ?_; clear HOF
    have L3 : Below L w w3 := L2.trans (hb3.mono hLz)
    replace BC := BC.kept hb3
    replace B2 := B2.kept hb3
    obtain ⟨off, hoff⟩ : ∃ k, k = offV C := ⟨_, rfl⟩
    have hob := offV_bounds HW.out.off
    rw [← hoff] at e5 hob
    have HOV := Lib.hid hoff
    have HOB : Hid (0 ≤ off ∧ off ≤ 1000000000000000) := Lib.hid (by omega)
    clear hoff hob hb3 L2 hLz
    have hmk := @run_makeMap Try.prog
    refine sm_list [5, 6] 37 3 hs hd (by kernel_rfl) (agC e5 (agU agN)) rfl ?_
    simp only [seval]
    go_wp2_with (first | (refine wpList_store_new rfl 32 (.tmp 1) (.tmp 4) rfl rfl rfl rfl rfl (by kernel_rfl) (by rw [← Array.all_toList]; rfl) ?_) | fail)
    intro a H; replace hs := H.s hs; replace hd := H.d rfl; replace e5 := H.g 5 rfl rfl; replace e1 := H.k e1 rfl; replace e2 := H.k e2 rfl; have e6 := H.g 6 rfl rfl; clear H; refine hKq6 _ _ ?_; clear hKq6 Kq6; refine wp_seq_k fun Kq7 hKq7 => ?_
    have EG := (EM.made (P := Try.prog) (k := 61) w3).alloc (.cells #[.int .i64 off, .slice none 0 0, .map (some w3.heap.size)] 32)
    have B6 := Blk.new (w3.alloc (.map #[] 0)) 32 #[.int .i64 off, .slice none 0 0, .map (some w3.heap.size)]
    have L4 : Below w3.heap.size w3 ((w3.alloc (.map #[] 0)).alloc (.cells #[.int .i64 off, .slice none 0 0, .map (some w3.heap.size)] 32)) := ((Below.refl _ _).alloc (Nat.le_refl _) _).alloc (by simp) _
    have hlz3 : L < w3.heap.size := BC.lt
    have hg2z3 : g2 < w3.heap.size := B2.lt
    obtain ⟨g6, hg6⟩ : ∃ g, g = (w3.alloc (.map #[] 0)).heap.size := ⟨_, rfl⟩
    have e6q : a.tmps[6]? = some (.pointer (some ⟨g6, 0, none⟩)) := by rw [hg6]; simpa using e6
    replace e6 := e6q
    have hg6G : w3.heap.size < g6 := by rw [hg6]; simp
    rw [← hg6] at B6
    clear e6q hg6
    obtain ⟨gG, hgG⟩ : ∃ g, g = w3.heap.size := ⟨_, rfl⟩
    rw [← hgG] at EG B6 hg6G hlz3 hg2z3 L4 ⊢
    replace BC := BC.below L4 hlz3
    replace B2 := B2.below L4 hg2z3
    generalize ((w3.alloc (.map #[] 0)).alloc (.cells #[.int .i64 off, .slice none 0 0, .map (some gG)] 32)) = w4 at *
    clear hgG
    have L4w : Below L w w4 := L3.trans (L4.mono (Nat.le_of_lt hlz3))
    clear L3 L4
    refine sm_list [7] 40 1 hs hd (by kernel_rfl) (agU agN) rfl ?_
    simp only [seval]
    go_wp2_with fail
    intro a H; replace hs := H.s hs; replace hd := H.d rfl; replace e1 := H.k e1 rfl; replace e2 := H.k e2 rfl; replace e5 := H.k e5 rfl; replace e6 := H.k e6 rfl; have e7 := H.g 7 rfl rfl; clear H; refine hKq7 _ _ ?_; clear hKq7 Kq7; refine wp_seq_k fun Kq8 hKq8 => ?_; refine wp_seq_k fun Kq9 hKq9 => ?_; clear hmk
    have EMm := EM.made (P := Try.prog) (k := 61) w4
    have L5 : Below w4.heap.size w4 (w4.alloc (.map #[] 0)) := (Below.refl _ _).alloc (Nat.le_refl _) _
    replace EG := EG.below L5 EG.lt
    have hg6z : g6 < w4.heap.size := B6.lt
    replace B6 := B6.kept L5
    replace BC := BC.kept L5
    replace B2 := B2.kept L5
    obtain ⟨gm, hgm⟩ : ∃ g, g = w4.heap.size := ⟨_, rfl⟩
    rw [← hgm] at EMm e7 hg6z
    have L5w : Below L w (w4.alloc (.map #[] 0)) := L4w.trans (L5.mono (by omega))
    generalize (w4.alloc (.map #[] 0)) = w5 at *
    clear hgm L5 L4w
    have hz5 : gm < w5.heap.size := EMm.lt
    obtain ⟨B0, hB0⟩ : ∃ B, B = w5.heap.size := ⟨_, rfl⟩
    have SM := SpM.start EMm (by rw [hB0]; exact hz5) (Nat.le_of_eq hB0)
    have HB0 : gm < B0 := by rw [hB0]; exact hz5
    have GT0 : GtM w5 B0 gG 0 (fun _ => none) [] C.cycle [] := GtM.start EG (by omega)
    have OW0 : w5.ownsRow B0 52 2 (.slice none 0 0) ([] : List (Int × Int)).length (([] : List (Int × Int)).flatMap spc) := ownsRow_nil _ _ _ _
    have hB05 : B0 ≤ w5.heap.size := Nat.le_of_eq hB0
    clear hB0 EMm GT0
    have c2 := BC.cellOf (v := .slice Y.F.A C.flows.length Y.F.c) 2 rfl
    refine sm_list [1] 41 4 hs hd (by kernel_rfl) (agC e1 agN) rfl ?_
    simp only [seval]
    go_wp2_with fail
    intro a H; replace hs := H.s hs; replace hd := H.d rfl; replace e1 := H.g 1 rfl rfl; replace e2 := H.k e2 rfl; replace e5 := H.k e5 rfl; replace e6 := H.k e6 rfl; replace e7 := H.k e7 rfl; have e42 := H.g 42 rfl rfl; have e43 := H.g 43 rfl rfl; have e44 := H.g 44 rfl rfl; clear H; refine hKq9 _ _ ?_; clear hKq9 Kq9; refine wp_block ?_; clear c2
    have hC5 := hC.below L5w
    refine wp_loop (FlI C Y off L g2 g6 gm gG B0 w5) (fun a _ => C.flows.length - (intOf (a.tmps.getD 44 undef)).toNat) ?_ ?_
    · exact FlI.intro ⟨0, 0, _, [], [], _, Nat.zero_le _, hs, hd, e1, e2, e5, e6, e7, e42, e43, e44, Below.refl _ _, B6, SM, OW0, Nat.zero_le _, Lib.hid rfl, GoodAll.nil, FInv.start⟩
    clear hs hd e44 e1 e2 e5 e6 e7 e42 e43 a SM OW0 B6
    rintro a w6 hinv
    obtain ⟨j, m, fm, S, W, wv, hj, hs, hd, e1, e2, e5, e6, e7, e42, e43, e44, hb6, B6, SM, OW, hSl, hWl, hgood, hfi⟩ := hinv.out
    clear hinv
    have hm := slot e44
    have HWL := hWl
    have HGD := Lib.hid hgood
    have HFI := Lib.hid hfi
    clear hWl hgood hfi; have hF16 := HW.out.flows
    have hLg6 : L ≤ g6 := by omega
    have BC6 := BC.below hb6 (by omega)
    have B26 := B2.below hb6 (by omega)
    have hC6 := hC5.below (hb6.mono hLg6)
    have L6w : Below L w w6 := L5w.trans (hb6.mono hLg6)
    refine wp_seq_k fun Kq10 hKq10 => ?_
    by_cases hlt : j < C.flows.length
    ·
      have dj : decide ((j : Int) < (C.flows.length : Int)) = true := decide_eq_true (by omega)
      obtain ⟨f, hf⟩ : ∃ f, C.flows[j]? = some f := ⟨_, List.getElem?_eq_getElem hlt⟩
      obtain ⟨sl, hsl⟩ : ∃ s, Y.ws[j]? = some s := ⟨_, List.getElem?_eq_getElem (by rw [hC.wslen]; exact hlt)⟩
      have HFJ := Lib.hid hf
      have HSJ := Lib.hid hsl
      clear hf hsl
      refine sm_list [43, 44] 45 1 hs hd (by kernel_rfl) (agC e43 (agC e44 agN)) rfl ?_
      simp only [seval]
      go_wp2_with fail
      intro a H; replace hs := H.s hs; replace hd := H.d rfl; replace e43 := H.g 43 rfl rfl; replace e44 := H.g 44 rfl rfl; replace e1 := H.k e1 rfl; replace e2 := H.k e2 rfl; replace e5 := H.k e5 rfl; replace e6 := H.k e6 rfl; replace e7 := H.k e7 rfl; replace e42 := H.k e42 rfl; have e45 := H.g 45 rfl rfl; clear H; refine hKq10 _ _ ?_; clear hKq10 Kq10; refine wp_seq_k fun Kq11 hKq11 => ?_
      refine wp_cond_true (slotE e45) ?_
      clear e45; refine wp_skip ?_; refine hKq11 _ _ ?_; clear hKq11 Kq11; refine wp_seq_k fun Kq12 hKq12 => ?_
      refine mk_flow C Y f sl off j L L g2 g6 gG gm B0 m S W wv fm _ a w6 _ hs hd e1 e2 e5 e6 e7 e42 e43 e44 hC6 BC6 B26 B6 ⟨Nat.le_refl _, hL2, by omega, by omega, hg6z⟩ SM OW HFJ.out HSJ.out HW.out HOB.out (by omega) (by rw [HWL.out]; omega) ?_ ?_
      rotate_left
      · clear hs hd e1 e2 e5 e6 e7 e42 e43 e44 BC6 B26 hC6 SM OW B6
        intro a w7 k hs hd e2 e3 hb7 B27 hV
        have HV := Lib.hid (make_err2 HZ.out (by rw [← HOV.out]; exact HFI.out.bad HFJ.out hV))
        clear hV; refine exit_then rfl ?_; refine exit_then rfl ?_; refine ret_block ?_; refine exit_then rfl ?_
        exact sm_ret_cell rfl hd e2 B27 Try.underlying32 rfl (by kernel_rfl) e3 ⟨by rw [← HLL.out]; exact L6w.trans hb7, .inl ⟨k, HV.out, rfl⟩⟩
      clear hs hd e1 e2 e5 e6 e7 e42 e43 e44 BC6 B26 hC6 SM OW B6
      intro a w7 m7 fm7 S7 x wv7 hs hd e1 e2 e5 e6 e7 e42 e43 e44 hb7 SM7 B67 OW7 hS7 hV
      have HST := Lib.hid (HFI.out.step HFJ.out hV)
      have HG7 := Lib.hid (flowGo_span HW.out HOB.out.1 HGD.out hV)
      clear hV; refine hKq12 _ _ ?_; clear hKq12 Kq12
      refine sm_list [44] 281 1 hs hd (by kernel_rfl) (agC e44 agN) rfl ?_
      simp only [seval]
      go_wp2_with fail
      intro a H; replace hs := H.s hs; replace hd := H.d rfl; replace e1 := H.k e1 rfl; replace e2 := H.k e2 rfl; replace e5 := H.k e5 rfl; replace e6 := H.k e6 rfl; replace e7 := H.k e7 rfl; replace e42 := H.k e42 rfl; replace e43 := H.k e43 rfl; replace e44 := H.g 44 rfl rfl; clear H
      exact ⟨FlI.intro ⟨j + 1, m7, fm7, S7, W ++ [x], wv7, by omega, hs, hd, e1, e2, e5, e6, e7, e42, e43, e44, hb6.trans hb7, B67, SM7, by rw [List.length_append]; exact OW7, by omega, Lib.hid (by rw [List.length_append, HWL.out]; rfl), HG7.out, HST.out⟩, by first | (simp only [hm, slot e44, intOf]; omega) | (simp [e44, intOf]; omega)⟩
    · obtain rfl : j = C.flows.length := by omega
      have dj : decide ((C.flows.length : Int) < (C.flows.length : Int)) = false := decide_eq_false (by omega)
      clear hlt hm
      have HFV := Lib.hid (HFI.out.done (Nat.le_refl _))
      clear HFI
      refine sm_list [43, 44] 45 1 hs hd (by kernel_rfl) (agC e43 (agC e44 agN)) rfl ?_
      simp only [seval]
      go_wp2_with fail
      intro a H; replace hs := H.s hs; replace hd := H.d rfl; replace e43 := H.g 43 rfl rfl; replace e44 := H.g 44 rfl rfl; replace e1 := H.k e1 rfl; replace e2 := H.k e2 rfl; replace e5 := H.k e5 rfl; replace e6 := H.k e6 rfl; replace e7 := H.k e7 rfl; replace e42 := H.k e42 rfl; have e45 := H.g 45 rfl rfl; clear H; refine hKq10 _ _ ?_; clear hKq10 Kq10; refine wp_seq_k fun Kq11 hKq11 => ?_
      refine wp_cond_false (slotE e45) ?_
      clear e45; refine wp_exit ?_; refine exit_then rfl ?_; clear hKq11 Kq11; refine exit_then rfl ?_; refine exit_hit ?_; refine hKq8 _ _ ?_; clear hKq8 Kq8; refine wp_seq_k fun Kq12 hKq12 => ?_; clear e5; clear e42; clear e43; clear e44
      have GT6 : GtM w6 B0 gG 0 (fun _ => none) [] C.cycle S := GtM.start (EG.below hb6 hg6G) (by omega)
      refine mk_gates C Y off L L g2 g6 gG gm B0 m W.length S (W.flatMap spc) wv fm a w6 _ hs hd e1 e2 e6 e7 hC6 BC6 B26 B6 ⟨Nat.le_refl _, hL2, hlz3, hg2z3, hg6G, hg6z⟩ SM GT6 OW HW.out HGD.out (by omega) ?_ ?_
      rotate_left
      · clear hs hd e1 e2 e6 e7 BC6 B26 hC6 SM OW B6 GT6
        intro a w7 hs hd e2 e3 hb7 B27 hV
        have HV := Lib.hid (make_err3 HZ.out (by rw [← HOV.out]; exact HFV.out) hV)
        clear hV; refine exit_then rfl ?_
        exact sm_ret_cell rfl hd e2 B27 Try.underlying32 rfl (by kernel_rfl) e3 ⟨by rw [← HLL.out]; exact L6w.trans hb7, .inl ⟨61, HV.out, rfl⟩⟩
      clear hs hd e1 e2 e6 e7 BC6 hC6 SM OW GT6
      intro a w7 mg fg hs hd e2 e6 hb7 B67 GT7 OW7 hV
      have HV := Lib.hid (make_fine HZ.out (by rw [← HOV.out]; exact HFV.out) hV)
      have B27 := B26.below hb7 hg2z3
      have L7w : Below L w w7 := L6w.trans (hb7.mono (by omega))
      clear hV hb7; refine hKq12 _ _ ?_; clear hKq12 Kq12; refine wp_seq_k fun Kq13 hKq13 => ?_
      have HB6 := Lib.hid B67
      have HB2 := Lib.hid B27
      obtain ⟨Av, cv, rfl, _, _⟩ := ownsRow_reads OW7
      have hlz7 : L ≤ w7.heap.size := by have := B27.lt; omega
      clear B67 B6
      refine sm_list [2, 3, 6] 316 1 hs hd (by kernel_rfl) (agC e2 (agU (agC e6 agN))) rfl ?_
      simp only [seval]
      go_wp2_with (first | (refine wpList_load_any_d rfl 32 (.tmp 2) rfl ⟨g6, 0, none⟩ rfl (#[.int .i64 off, .slice Av W.length cv, .map (some gG)]) _ (blk_cells HB6.out) Try.underlying32 rfl (by kernel_rfl) ?_) | (refine wpList_store_part rfl 32 (.tmp 0) (.tmp 3) rfl (off := 0) rfl HB2.out rfl (by simp) (by kernel_rfl) (by rw [← Array.all_toList]; rfl) ?_; intro wq Bq zq grq) | fail)
      intro a H; replace hs := H.s hs; replace hd := H.d rfl; replace e2 := H.g 2 rfl rfl; replace e6 := H.g 6 rfl rfl; have e3 := H.g 3 rfl rfl; clear H; refine hKq13 _ _ ?_; clear hKq13 Kq13; refine wp_ret ?_
      have Bq' : Blk wq g2 32 #[.int .i64 off, .slice Av W.length cv, .map (some gG)] := by simpa [putAll] using Bq
      have GTq := GT7.set B27 (by omega) (by decide) grq
      have OWq := own_kept OW7 grq (fun k hk e => by have := (ownsRow_lt OW7 k hk).1; injection e with e; omega)
      refine sm_ret_cell rfl hd e2 Bq' Try.underlying32 rfl (by kernel_rfl) e3 ⟨by rw [← HLL.out]; exact L7w.grown grq hlz7 (fun k hk => by cases hk; exact hL2), .inr ⟨S, W, _, B0, gG, mg, fg, HV.out, by rw [HOV.out], by rw [← HLL.out]; omega, GTq, ownsRow_base OWq (by rw [← HLL.out]; omega), HGD.out⟩⟩
end Go.Proofs.Ytaegngcbiefckaa
