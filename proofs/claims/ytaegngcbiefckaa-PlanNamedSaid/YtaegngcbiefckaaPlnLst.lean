/-
  A port's gates: the list of its slots.
-/
import Derived.Test.YtaegngcbiefckaaPlnV
import Derived.Test.YtaegngcbiefckaaPlnSort
namespace Go.Proofs.Ytaegngcbiefckaa
set_option linter.unusedSimpArgs false
set_option linter.unusedVariables false
open Go.RowKit Go.WideShapes Go.ChangeShapes
attribute [local go_sem ↓] Go.wp_at_zero Go.wp_at_succ

theorem sty_slot : SliceTy Try.prog 56 67 2 16 := sliceTy_mk (z := .agg #[.int .i64 0, .int .i64 0]) Try.underlying56 (by kernel_rfl) rfl
def GoInv (cyc : Int) (ss : List (Int × Int)) (i : Nat) (at_ : Int) (t : List (Int × Int)) : Prop := goV cyc 0 ss = (goV cyc at_ (ss.drop i)).map (t ++ ·)
section
variable {cyc at_ : Int} {ss t : List (Int × Int)} {i : Nat} {x : Int × Int}
theorem GoInv.start : GoInv cyc ss 0 0 [] := by
  unfold GoInv
  rw [List.drop_zero]
  cases goV cyc 0 ss <;> rfl
theorem GoInv.bad (h : GoInv cyc ss i at_ t) (hx : ss[i]? = some x) (hlt : x.1 < at_) : goV cyc 0 ss = none := by
  obtain ⟨a, b⟩ := x
  unfold GoInv at h
  rw [h, drop_get hx, goV, if_pos hlt]; rfl
theorem GoInv.one (h : GoInv cyc ss i at_ t) (hx : ss[i]? = some x) (he : x.1 = at_) : GoInv cyc ss (i + 1) x.2 (t ++ [(128, x.2 - x.1)]) := by
  obtain ⟨a, b⟩ := x
  simp only at he
  unfold GoInv at h ⊢
  rw [h, drop_get hx, goV, if_neg (by omega), if_neg (by omega)]
  cases goV cyc b (ss.drop (i + 1)) <;> simp
theorem GoInv.two (h : GoInv cyc ss i at_ t) (hx : ss[i]? = some x) (hlt : at_ < x.1) : GoInv cyc ss (i + 1) x.2 (t ++ [(127, x.1 - at_)] ++ [(128, x.2 - x.1)]) := by
  obtain ⟨a, b⟩ := x
  simp only at hlt
  unfold GoInv at h ⊢
  rw [h, drop_get hx, goV, if_neg (by omega), if_pos hlt]
  cases goV cyc b (ss.drop (i + 1)) <;> simp
theorem GoInv.full (h : GoInv cyc ss ss.length at_ t) (hlt : at_ < cyc) : goV cyc 0 ss = some (t ++ [(127, cyc - at_)]) := by
  unfold GoInv at h
  rw [h, List.drop_length, goV, if_pos hlt]; rfl
theorem GoInv.done (h : GoInv cyc ss ss.length at_ t) (hlt : ¬ at_ < cyc) : goV cyc 0 ss = some t := by
  unfold GoInv at h
  rw [h, List.drop_length, goV, if_neg hlt]; simp
end
structure Sls (w : World) (g S0 : Nat) (cyc : Int) (sv : Value) (t : List (Int × Int)) : Prop where
  B : Blk w g 58 #[.int .i64 0, .int .i64 cyc, sv]
  own : w.ownsRow S0 67 2 sv t.length (t.flatMap spc)
  hz : S0 ≤ w.heap.size
  lt : g < S0
theorem Sls.push {w w2 : World} {g S0 : Nat} {cyc : Int} {sv v2 : Value} {t : List (Int × Int)} (e : Int × Int) (h : Sls w g S0 cyc sv t) (own2 : w2.ownsRow S0 67 2 v2 (t.length + 1) (t.flatMap spc ++ [.int .i64 e.1, .int .i64 e.2]))
    (gr : w.grownBy w2 sv.ownBlock) : Blk w2 g 58 #[.int .i64 0, .int .i64 cyc, sv] ∧ Sls (w2.setCell ⟨g, 2, none⟩ v2) g S0 cyc v2 (t ++ [e]) ∧ Below g w (w2.setCell ⟨g, 2, none⟩ v2) := by
  have hb := below_of_grown gr h.own h.hz
  have B2 := h.B.below hb h.lt
  refine ⟨B2, ⟨B2.set_ 2 v2, ?_, ?_, h.lt⟩, (hb.mono (Nat.le_of_lt h.lt)).setCell (Nat.le_refl _) _⟩
  · have e2 : (t ++ [e]).flatMap spc = t.flatMap spc ++ [.int .i64 e.1, .int .i64 e.2] := by simp [spc]
    rw [e2, List.length_append]
    exact stores_own (fun hk => by have := (ownsRow_lt own2 g hk).1; have := h.lt; omega) [v2] 2 own2
  · have := hb.size
    have := h.hz
    simp [World.setCell]; omega
theorem ownsRow_grown {w w' : World} {base g : Nat} {e : TypeId} {size n : Nat} {v : Value} {xs : List Value} (h : w.ownsRow base e size v n xs) (hb : w.grownBy w' (some g)) (hne : v.ownBlock ≠ some g) : w'.ownsRow base e size v n xs := by
  have hlt := ownsRow_lt h
  obtain ⟨h1, h2⟩ := h
  refine ⟨h1, ?_⟩
  rcases h2 with h2 | ⟨q, cap, cur, hv, hg, hh, r⟩
  · exact .inl h2
  · have hq : v.ownBlock = some q := by rw [hv]; rfl
    refine .inr ⟨q, cap, cur, hv, hg, ?_, r⟩
    rw [hb.block q (hlt q hq).2 (by rw [← hq]; exact hne)]
    exact hh
theorem grown_mid {w w1 w2 w3 : World} {r : Option Nat} (h1 : Below w.heap.size w w1) (h2 : w1.grownBy w2 r) (h3 : Below w.heap.size w2 w3) : w.grownBy w3 r :=
  ⟨h3.os.trans (h2.os.trans h1.os), h3.tape.trans (h2.tape.trans h1.tape), h3.output.trans (h2.output.trans h1.output), Nat.le_trans h1.size (Nat.le_trans h2.size h3.size), fun k hk hn =>
    (h3.block k hk).trans ((h2.block k (Nat.lt_of_lt_of_le hk h1.size) hn).trans (h1.block k hk))⟩
set_option maxRecDepth 100000 in
set_option maxHeartbeats 4000000 in
theorem list_any (B n : Nat) (v : Value) (ss : List (Int × Int)) (cyc : Int) (w : World) (h : w.ownsRow B 93 2 v n (ss.flatMap spc)) (hn : n ≤ 1000) (hc : 0 ≤ cyc ∧ cyc ≤ 1073741824)
    (hx : ∀ x ∈ ss, x.1 ≤ x.2 ∧ -1099511627776 ≤ x.1 ∧ x.2 ≤ 1099511627776) :
    Calls Try.prog 22 #[v, .int .i64 cyc] w fun e w' => ∃ (ok : Bool) (sv : Value) (ss' t : List (Int × Int)), e = .returned (.tuple #[.agg #[.int .i64 0, .int .i64 (if ok then cyc else 0), sv], .bool ok]) ∧
      ss'.Perm ss ∧ ss'.Pairwise (fun x y => x.1 ≤ y.1) ∧ goV cyc 0 ss' = (if ok then some t else none) ∧ (ok = true → w'.ownsRow w.heap.size 67 2 sv t.length (t.flatMap spc)) ∧ (ok = false → sv = .slice none 0 0) ∧
      w'.ownsRow B 93 2 v n (ss'.flatMap spc) ∧ w.grownBy w' v.ownBlock := by
  obtain ⟨A, c, rfl, hnc, hrd⟩ := ownsRow_reads h
  clear hnc hrd
  have HX := Lib.hid hx
  clear hx
  refine calls_sm (N := 66) Try.func22 rfl (by kernel_rfl) ?_
  intro a hs hd ha
  have e0 : a.tmps[0]? = some (.slice A n c) := ha 0 _ rfl
  have e1 : a.tmps[1]? = some (.int .i64 cyc) := ha 1 _ rfl
  clear ha
  conv => arg 2; whnf
  refine wp_seq_k fun Kq1 hKq1 => ?_
  refine sm_list [] 4 2 hs hd (by kernel_rfl) agN rfl ?_
  simp only [seval]
  go_wp2_with fail
  intro a H; replace hs := H.s hs; replace hd := H.d rfl; replace e0 := H.k e0 rfl; replace e1 := H.k e1 rfl; have e4 := H.g 4 rfl rfl; clear H; refine hKq1 _ _ ?_; clear hKq1 Kq1; refine wp_seq_k fun Kq2 hKq2 => ?_
  have B4 := Blk.new w 58 #[.int .i64 0, .int .i64 0, .slice none 0 0]
  have L1 : Below w.heap.size w (w.alloc (.cells #[.int .i64 0, .int .i64 0, .slice none 0 0] 58)) := (Below.refl _ _).alloc (Nat.le_refl _) _
  have own1 := ownsRow_keep h L1
  have hz1 : w.heap.size < (w.alloc (.cells #[.int .i64 0, .int .i64 0, .slice none 0 0] 58)).heap.size := by simp
  have hrow : ∀ k, (Value.slice A n c).ownBlock = some k → k < w.heap.size := fun k hk => (ownsRow_lt h k hk).2
  have HROW := Lib.hid hrow
  clear h hrow
  generalize (w.alloc (.cells #[.int .i64 0, .int .i64 0, .slice none 0 0] 58)) = w1 at *
  obtain ⟨g4, hg4⟩ : ∃ g, g = w.heap.size := ⟨_, rfl⟩
  rw [← hg4] at B4 hz1 L1 HROW e4
  have HG4 := Lib.hid hg4
  clear hg4
  have HSRT := Lib.hid (sort_any B n (.slice A n c) ss w1 own1 (by omega))
  clear own1
  refine sm_list [0] 10 2 hs hd (by kernel_rfl) (agC e0 agN) rfl ?_
  simp only [seval]
  go_wp2_with fail
  refine HSRT.out.mono ?_
  rintro e w2 ⟨rfl, ss', hp, hsr, own2, gr2⟩
  have HP := Lib.hid hp
  have HSR := Lib.hid hsr
  have HO2 := Lib.hid own2
  have HGR := Lib.hid gr2
  clear hp hsr own2 gr2
  go_wp2_with fail
  intro a H; replace hs := H.s hs; replace hd := H.d rfl; replace e0 := H.g 0 rfl rfl; replace e1 := H.k e1 rfl; replace e4 := H.k e4 rfl; clear H; refine hKq2 _ _ ?_; clear hKq2 Kq2; refine wp_seq_k fun Kq3 hKq3 => ?_
  have hlen : ss'.length = n := by have := HO2.out.1; rw [flatMap_length spc_len] at this; omega
  have hx : ∀ x ∈ ss', x.1 ≤ x.2 ∧ -1099511627776 ≤ x.1 ∧ x.2 ≤ 1099511627776 := fun x hx => HX.out x (HP.out.subset hx)
  clear HX
  have HX := Lib.hid hx
  clear hx HSRT
  replace B4 := B4.grown HGR.out (fun e => by have := HROW.out g4 e.symm; omega)
  have hz2 : g4 < w2.heap.size := B4.lt
  have hrd : Reads w2 w2.heap.size 2 A n (ss'.flatMap spc) := by
    obtain ⟨A2, c2, he, _, hr⟩ := ownsRow_reads HO2.out
    cases he
    exact hr
  refine sm_list [1, 6] 12 2 hs hd (by kernel_rfl) (agC e1 (agU agN)) rfl ?_
  simp only [seval]
  go_wp2_with (first | (refine wpList_store_new rfl 58 (.tmp 1) (.tmp 3) rfl rfl rfl rfl rfl (by kernel_rfl) (by rw [← Array.all_toList]; rfl) ?_) | fail)
  intro a H; replace hs := H.s hs; replace hd := H.d rfl; replace e1 := H.g 1 rfl rfl; replace e0 := H.k e0 rfl; replace e4 := H.k e4 rfl; have e6 := H.g 6 rfl rfl; clear H; refine hKq3 _ _ ?_; clear hKq3 Kq3; refine wp_seq_k fun Kq4 hKq4 => ?_
  obtain ⟨S0, hS0⟩ : ∃ S, S = (w2.alloc (.cells #[.int .i64 0, .int .i64 cyc, .slice none 0 0] 58)).heap.size := ⟨_, rfl⟩
  have hS1 : w2.heap.size < S0 := by rw [hS0]; simp
  have SL : Sls (w2.alloc (.cells #[.int .i64 0, .int .i64 cyc, .slice none 0 0] 58)) w2.heap.size S0 cyc (.slice none 0 0) [] := ⟨Blk.new w2 _ _, ownsRow_nil _ _ _ _, Nat.le_of_eq hS0, hS1⟩
  have L2 : Below w2.heap.size w2 (w2.alloc (.cells #[.int .i64 0, .int .i64 cyc, .slice none 0 0] 58)) := (Below.refl _ _).alloc (Nat.le_refl _) _
  replace B4 := B4.kept L2
  replace hrd := hrd.below L2
  generalize (w2.alloc (.cells #[.int .i64 0, .int .i64 cyc, .slice none 0 0] 58)) = w3 at *
  clear hS0
  obtain ⟨g6, hg6⟩ : ∃ g, g = w2.heap.size := ⟨_, rfl⟩
  rw [← hg6] at SL hS1 hz2 L2 e6 hrd
  have HG6 := Lib.hid hg6
  clear hg6
  refine sm_list [] 7 1 hs hd (by kernel_rfl) agN rfl ?_
  simp only [seval]
  go_wp2_with fail
  intro a H; replace hs := H.s hs; replace hd := H.d rfl; replace e0 := H.k e0 rfl; replace e1 := H.k e1 rfl; replace e4 := H.k e4 rfl; replace e6 := H.k e6 rfl; have e7 := H.g 7 rfl rfl; clear H; refine hKq4 _ _ ?_; clear hKq4 Kq4; refine wp_seq_k fun Kq5 hKq5 => ?_; refine wp_seq_k fun Kq6 hKq6 => ?_
  refine sm_list [0] 14 3 hs hd (by kernel_rfl) (agC e0 agN) rfl ?_
  simp only [seval]
  go_wp2_with fail
  intro a H; replace hs := H.s hs; replace hd := H.d rfl; replace e0 := H.g 0 rfl rfl; replace e1 := H.k e1 rfl; replace e4 := H.k e4 rfl; replace e6 := H.k e6 rfl; replace e7 := H.k e7 rfl; have e14 := H.g 14 rfl rfl; have e15 := H.g 15 rfl rfl; have e16 := H.g 16 rfl rfl; clear H; refine hKq6 _ _ ?_; clear hKq6 Kq6; refine wp_block ?_; clear e0
  refine wp_loop (fun a w' => ∃ (i : Nat) (at_ : Int) (sv : Value) (t : List (Int × Int)), i ≤ n ∧ t.length ≤ 2 * i ∧ (-1099511627776 ≤ at_ ∧ at_ ≤ 1099511627776) ∧ a.tmps.size = 66 ∧ a.defers = [] ∧ a.tmps[1]? = some (.int .i64 cyc) ∧ a.tmps[4]? = some (.pointer (some ⟨g4, 0, none⟩)) ∧ a.tmps[6]? = some (.pointer (some ⟨g6, 0, none⟩)) ∧ a.tmps[14]? = some (.slice A n c) ∧ a.tmps[15]? = some (.int .i64 (n : Int)) ∧ a.tmps[16]? = some (.int .i64 (i : Int)) ∧ a.tmps[7]? = some (.int .i64 at_) ∧ Below g6 w3 w' ∧ Sls w' g6 S0 cyc sv t ∧ GoInv cyc ss' i at_ t) (fun a _ => n - (intOf (a.tmps.getD 16 undef)).toNat) ?_ ?_
  · exact ⟨0, 0, _, [], Nat.zero_le _, by simp, by omega, hs, hd, e1, e4, e6, e14, e15, e16, e7, Below.refl _ _, SL, GoInv.start⟩
  clear hs hd e16 e7 e1 e4 e6 e14 e15 a SL
  rintro a w4 ⟨i, at_, sv, t, hi, htl, ⟨ha0, ha1⟩, hs, hd, e1, e4, e6, e14, e15, e16, e7, hb4, SL, hG⟩
  have HG := Lib.hid hG
  clear hG
  have hm := slot e16
  have hzz := SL.hz
  refine wp_seq_k fun Kq7 hKq7 => ?_
  by_cases hlt : i < n
  ·
    have dj : decide ((i : Int) < (n : Int)) = true := decide_eq_true (by omega)
    obtain ⟨x, hxi⟩ : ∃ x, ss'[i]? = some x := ⟨_, List.getElem?_eq_getElem (by omega)⟩
    obtain ⟨hx1, hx2, hx3⟩ := HX.out x (List.mem_of_getElem? hxi)
    obtain ⟨ad, hA, hadb, hcl⟩ := reads_at spc_len (hrd.below hb4) hxi hlt
    have HXI := Lib.hid hxi
    have HCL := Lib.hid hcl
    have HA := Lib.hid hA
    clear hxi hcl hA
    rw [HA.out] at e14
    refine sm_list [15, 16] 17 1 hs hd (by kernel_rfl) (agC e15 (agC e16 agN)) rfl ?_
    simp only [seval]
    go_wp2_with fail
    intro a H; replace hs := H.s hs; replace hd := H.d rfl; replace e15 := H.g 15 rfl rfl; replace e16 := H.g 16 rfl rfl; replace e1 := H.k e1 rfl; replace e4 := H.k e4 rfl; replace e6 := H.k e6 rfl; replace e14 := H.k e14 rfl; replace e7 := H.k e7 rfl; have e17 := H.g 17 rfl rfl; clear H; refine hKq7 _ _ ?_; clear hKq7 Kq7; refine wp_seq_k fun Kq8 hKq8 => ?_
    refine wp_cond_true (slotE e17) ?_
    clear e17; refine wp_skip ?_; refine hKq8 _ _ ?_; clear hKq8 Kq8; refine wp_seq_k fun Kq9 hKq9 => ?_; refine wp_block ?_; refine wp_seq_k fun Kq10 hKq10 => ?_
    have SL5 : Sls (w4.alloc (.cells #[.int .i64 x.1, .int .i64 x.2] 93)) g6 S0 cyc sv t := ⟨SL.B.alloc _, ownsRow_keep SL.own ((Below.refl _ _).alloc (Nat.le_refl _) _), by simp; omega, SL.lt⟩
    have B9 := Blk.new w4 93 #[.int .i64 x.1, .int .i64 x.2]
    have hz9 : S0 ≤ w4.heap.size := hzz
    have hb5 : Below g6 w3 (w4.alloc (.cells #[.int .i64 x.1, .int .i64 x.2] 93)) := hb4.alloc (Nat.le_trans (Nat.le_of_lt hS1) hzz) _
    refine sm_list [9, 14, 16] 18 2 hs hd (by kernel_rfl) (agU (agC e14 (agC e16 agN))) rfl ?_
    simp only [seval]
    go_wp2_with (first | (refine wpList_load_any_d rfl 93 (.tmp 3) rfl (ad.add (i * 2)) rfl (#[.int .i64 x.1, .int .i64 x.2]) _ (fun j u hu => HCL.out j u hu) Try.underlying93 rfl (by kernel_rfl) ?_) | (refine wpList_store_new rfl 93 (.tmp 0) (.tmp 4) rfl rfl rfl rfl rfl (by kernel_rfl) (by rw [← Array.all_toList]; rfl) ?_) | fail)
    intro a H; replace hs := H.s hs; replace hd := H.d rfl; replace e14 := H.g 14 rfl rfl; replace e16 := H.g 16 rfl rfl; replace e1 := H.k e1 rfl; replace e4 := H.k e4 rfl; replace e6 := H.k e6 rfl; replace e15 := H.k e15 rfl; replace e7 := H.k e7 rfl; have e9 := H.g 9 rfl rfl; clear H; refine hKq10 _ _ ?_; clear hKq10 Kq10; refine wp_seq_k fun Kq11 hKq11 => ?_; refine wp_seq_k fun Kq12 hKq12 => ?_
    rw [← HA.out] at e14
    generalize w4.alloc (.cells #[.int .i64 x.1, .int .i64 x.2] 93) = w5 at *
    obtain ⟨g9, hg9⟩ : ∃ g, g = w4.heap.size := ⟨_, rfl⟩
    rw [← hg9] at B9 hz9 e9
    clear hg9 SL hb4 hzz
    have hzz := SL5.hz
    have x1 := B9.cellOf (v := .int .i64 x.1) 0 rfl
    have x2 := B9.cellOf (v := .int .i64 x.2) 1 rfl
    by_cases hbad : x.1 < at_
    · have dq : decide (x.1 < at_) = true := decide_eq_true hbad
      have hnone := HG.out.bad HXI.out hbad
      have HN := Lib.hid hnone
      clear hnone hbad x2
      refine sm_list [7, 9] 20 4 hs hd (by kernel_rfl) (agC e7 (agC e9 agN)) rfl ?_
      simp only [seval]
      go_wp2_with fail
      intro a H; replace hs := H.s hs; replace hd := H.d rfl; replace e7 := H.g 7 rfl rfl; replace e9 := H.g 9 rfl rfl; replace e1 := H.k e1 rfl; replace e4 := H.k e4 rfl; replace e6 := H.k e6 rfl; replace e14 := H.k e14 rfl; replace e15 := H.k e15 rfl; replace e16 := H.k e16 rfl; have e23 := H.g 23 rfl rfl; clear H; refine hKq12 _ _ ?_; clear hKq12 Kq12
      refine wp_cond_true (slotE e23) ?_
      clear e23; refine wp_seq_k fun Kq13 hKq13 => ?_
      have B4x := B4.below hb5 hz2
      have HB4 := Lib.hid B4x
      have hz5 : g4 < w5.heap.size := B4x.lt
      clear x1 B4x
      refine sm_list [4, 5] 24 1 hs hd (by kernel_rfl) (agC e4 (agU agN)) rfl ?_
      simp only [seval]
      go_wp2_with (first | (refine wpList_store_part rfl 58 (.tmp 0) (.tmp 2) rfl (off := 0) rfl HB4.out rfl (by simp) (by kernel_rfl) (by rw [← Array.all_toList]; rfl) ?_; intro w6 B6 z6 gr6) | fail)
      intro a H; replace hs := H.s hs; replace hd := H.d rfl; replace e4 := H.g 4 rfl rfl; replace e1 := H.k e1 rfl; replace e6 := H.k e6 rfl; replace e14 := H.k e14 rfl; replace e15 := H.k e15 rfl; replace e7 := H.k e7 rfl; replace e16 := H.k e16 rfl; replace e9 := H.k e9 rfl; have e5 := H.g 5 rfl rfl; clear H; refine hKq13 _ _ ?_; clear hKq13 Kq13; refine wp_ret ?_; refine exit_then rfl ?_; refine ret_block ?_
      refine exit_then rfl ?_; refine exit_then rfl ?_; refine ret_block ?_; refine exit_then rfl ?_
      have B6' : Blk w6 g4 58 #[.int .i64 0, .int .i64 0, .slice none 0 0] := by simpa [putAll] using B6
      have hlow : Below g4 w2 w6 := ((L2.mono (Nat.le_of_lt hz2)).trans (hb5.mono (Nat.le_of_lt hz2))).grown gr6 (Nat.le_of_lt hz5) (fun k hk => by cases hk; exact Nat.le_refl _)
      have hown := ownsRow_below HO2.out hlow HROW.out
      exact sm_ret_cell rfl hd e4 B6' Try.underlying58 rfl (by kernel_rfl) e5 ⟨false, _, ss', [], rfl, HP.out, HSR.out, HN.out, (fun h => by cases h), fun _ => rfl, hown, grown_mid (by rw [← HG4.out]; exact L1) HGR.out (by rw [← HG4.out]; exact hlow)⟩
    · have dq : decide (x.1 < at_) = false := decide_eq_false hbad
      refine sm_list [7, 9] 20 4 hs hd (by kernel_rfl) (agC e7 (agC e9 agN)) rfl ?_
      simp only [seval]
      go_wp2_with fail
      intro a H; replace hs := H.s hs; replace hd := H.d rfl; replace e7 := H.g 7 rfl rfl; replace e9 := H.g 9 rfl rfl; replace e1 := H.k e1 rfl; replace e4 := H.k e4 rfl; replace e6 := H.k e6 rfl; replace e14 := H.k e14 rfl; replace e15 := H.k e15 rfl; replace e16 := H.k e16 rfl; have e23 := H.g 23 rfl rfl; clear H; refine hKq12 _ _ ?_; clear hKq12 Kq12
      refine wp_cond_false (slotE e23) ?_
      clear e23; refine wp_skip ?_; refine hKq11 _ _ ?_; clear hKq11 Kq11; refine wp_seq_k fun Kq13 hKq13 => ?_; refine wp_seq_k fun Kq14 hKq14 => ?_
      have SL := SL5
      clear SL5
      by_cases hgt : at_ < x.1
      · have dg : decide (at_ < x.1) = true := decide_eq_true hgt
        refine sm_list [7, 9] 25 4 hs hd (by kernel_rfl) (agC e7 (agC e9 agN)) rfl ?_
        simp only [seval]
        go_wp2_with fail
        intro a H; replace hs := H.s hs; replace hd := H.d rfl; replace e7 := H.g 7 rfl rfl; replace e9 := H.g 9 rfl rfl; replace e1 := H.k e1 rfl; replace e4 := H.k e4 rfl; replace e6 := H.k e6 rfl; replace e14 := H.k e14 rfl; replace e15 := H.k e15 rfl; replace e16 := H.k e16 rfl; have e28 := H.g 28 rfl rfl; clear H; refine hKq14 _ _ ?_; clear hKq14 Kq14
        refine wp_cond_true (slotE e28) ?_
        clear e28; have hg2 := HG.out.two HXI.out hgt
        have HG2 := Lib.hid hg2
        clear hg2 hgt dg
        have c2 := SL.B.cellOf (v := sv) 2 rfl
        have HS := Lib.hid SL
        have hz6 : g6 < w5.heap.size := SL.B.lt
        clear SL
        have B9n := own_blk_ne HS.out.own B9 (by decide)
        have HB9 := Lib.hid B9
        have HB9n := Lib.hid B9n
        clear B9n
        refine sm_list [6, 7, 9] 29 10 hs hd (by kernel_rfl) (agC e6 (agC e7 (agC e9 agN))) rfl ?_
        simp only [seval]
        go_wp2_with (first | (at_builtin; refine wpList_pushG 1 rfl (.tmp 4) (.tmp 10) 56 rfl sty_slot (wr := w5) (cs := #[.int .i64 127, .int .i64 (x.1 - at_)]) rfl (by intro u hu; simp at hu; rcases hu with rfl | rfl <;> rfl) (v := sv) rfl HS.out.own rfl rfl (by omega) HS.out.hz ?_; intro v2 w6 own2 gr2 mv2; obtain ⟨Bx, SX, bx⟩ := HS.out.push (127, x.1 - at_) own2 gr2; have B9y := Lib.hid ((HB9.out.grown gr2 (Ne.symm HB9n.out)).far (p := ⟨g6, 2, none⟩) (by show g9 ≠ g6; omega) v2); obtain ⟨Av, cv, rfl, _, _⟩ := ownsRow_reads own2; have fz := Bx.frozen; have xl := Bx.lt; have xc := Bx.cellOf (v := sv) 2 rfl; have SX := Lib.hid SX; have bx := Lib.hid bx; clear own2 gr2 mv2 Bx) | fail)
        intro a H; replace hs := H.s hs; replace hd := H.d rfl; replace e6 := H.g 6 rfl rfl; replace e7 := H.g 7 rfl rfl; replace e9 := H.g 9 rfl rfl; replace e1 := H.k e1 rfl; replace e4 := H.k e4 rfl; replace e14 := H.k e14 rfl; replace e15 := H.k e15 rfl; replace e16 := H.k e16 rfl; clear H; refine hKq13 _ _ ?_; clear hKq13 Kq13; refine wp_seq_k fun Kq15 hKq15 => ?_; clear fz xl xc c2 hz6 HS
        replace SX := SX.out
        replace bx := bx.out
        replace B9 := B9y.out
        clear B9y HB9 HB9n x1 x2
        generalize hsv : Value.slice Av (List.length (t) + 1) cv = sv7 at *
        clear hsv
        generalize w6.setCell ⟨g6, 2, none⟩ sv7 = w7 at *
        replace hb5 := hb5.trans bx
        have SL := SX
        clear SX bx
        have x1 := B9.cellOf (v := .int .i64 x.1) 0 rfl
        have x2 := B9.cellOf (v := .int .i64 x.2) 1 rfl
        obtain ⟨t7, ht7⟩ : ∃ u, u = t ++ [(127, x.1 - at_)] := ⟨_, rfl⟩
        rw [← ht7] at SL HG2
        have ht7l : t7.length ≤ 2 * i + 1 := by rw [ht7]; simp; omega
        clear ht7
        have c2 := SL.B.cellOf (v := sv7) 2 rfl
        have HS := Lib.hid SL
        have hz6 : g6 < w7.heap.size := SL.B.lt
        clear SL
        have B9n := own_blk_ne HS.out.own B9 (by decide)
        have HB9 := Lib.hid B9
        have HB9n := Lib.hid B9n
        clear B9n
        refine sm_list [6, 9] 39 11 hs hd (by kernel_rfl) (agC e6 (agC e9 agN)) rfl ?_
        simp only [seval]
        go_wp2_with (first | (at_builtin; refine wpList_pushG 1 rfl (.tmp 3) (.tmp 10) 56 rfl sty_slot (wr := w7) (cs := #[.int .i64 128, .int .i64 (x.2 - x.1)]) rfl (by intro u hu; simp at hu; rcases hu with rfl | rfl <;> rfl) (v := sv7) rfl HS.out.own rfl rfl (by omega) HS.out.hz ?_; intro v2 w8 own2 gr2 mv2; obtain ⟨Bx, SX, bx⟩ := HS.out.push (128, x.2 - x.1) own2 gr2; have B9y := Lib.hid ((HB9.out.grown gr2 (Ne.symm HB9n.out)).far (p := ⟨g6, 2, none⟩) (by show g9 ≠ g6; omega) v2); obtain ⟨Av, cv, rfl, _, _⟩ := ownsRow_reads own2; have fz := Bx.frozen; have xl := Bx.lt; have xc := Bx.cellOf (v := sv7) 2 rfl; have SX := Lib.hid SX; have bx := Lib.hid bx; clear own2 gr2 mv2 Bx) | fail)
        intro a H; replace hs := H.s hs; replace hd := H.d rfl; replace e6 := H.g 6 rfl rfl; replace e9 := H.g 9 rfl rfl; replace e1 := H.k e1 rfl; replace e4 := H.k e4 rfl; replace e14 := H.k e14 rfl; replace e15 := H.k e15 rfl; replace e7 := H.k e7 rfl; replace e16 := H.k e16 rfl; clear H; refine hKq15 _ _ ?_; clear hKq15 Kq15; clear fz xl xc c2 hz6 HS
        replace SX := SX.out
        replace bx := bx.out
        replace B9 := B9y.out
        clear B9y HB9 HB9n x1 x2
        generalize hsv : Value.slice Av (List.length (t7) + 1) cv = sv9 at *
        clear hsv
        generalize w8.setCell ⟨g6, 2, none⟩ sv9 = w9 at *
        replace hb5 := hb5.trans bx
        have SL := SX
        clear SX bx
        have x1 := B9.cellOf (v := .int .i64 x.1) 0 rfl
        have x2 := B9.cellOf (v := .int .i64 x.2) 1 rfl
        refine sm_list [7, 9] 50 2 hs hd (by kernel_rfl) (agC e7 (agC e9 agN)) rfl ?_
        simp only [seval]
        go_wp2_with fail
        intro a H; replace hs := H.s hs; replace hd := H.d rfl; replace e9 := H.g 9 rfl rfl; replace e1 := H.k e1 rfl; replace e4 := H.k e4 rfl; replace e6 := H.k e6 rfl; replace e14 := H.k e14 rfl; replace e15 := H.k e15 rfl; replace e16 := H.k e16 rfl; replace e7 := H.g 7 rfl rfl; clear H; refine hKq9 _ _ ?_; clear hKq9 Kq9
        refine sm_list [16] 52 1 hs hd (by kernel_rfl) (agC e16 agN) rfl ?_
        simp only [seval]
        go_wp2_with fail
        intro a H; replace hs := H.s hs; replace hd := H.d rfl; replace e1 := H.k e1 rfl; replace e4 := H.k e4 rfl; replace e6 := H.k e6 rfl; replace e14 := H.k e14 rfl; replace e15 := H.k e15 rfl; replace e9 := H.k e9 rfl; replace e7 := H.k e7 rfl; replace e16 := H.g 16 rfl rfl; clear H
        exact ⟨⟨i + 1, x.2, sv9, _, by omega, by simp; omega, by omega, hs, hd, e1, e4, e6, e14, e15, e16, e7, hb5, SL, HG2.out⟩, by first | (simp only [hm, slot e16, intOf]; omega) | (simp [e16, intOf]; omega)⟩
      · have dg : decide (at_ < x.1) = false := decide_eq_false hgt
        refine sm_list [7, 9] 25 4 hs hd (by kernel_rfl) (agC e7 (agC e9 agN)) rfl ?_
        simp only [seval]
        go_wp2_with fail
        intro a H; replace hs := H.s hs; replace hd := H.d rfl; replace e7 := H.g 7 rfl rfl; replace e9 := H.g 9 rfl rfl; replace e1 := H.k e1 rfl; replace e4 := H.k e4 rfl; replace e6 := H.k e6 rfl; replace e14 := H.k e14 rfl; replace e15 := H.k e15 rfl; replace e16 := H.k e16 rfl; have e28 := H.g 28 rfl rfl; clear H; refine hKq14 _ _ ?_; clear hKq14 Kq14
        refine wp_cond_false (slotE e28) ?_
        clear e28; refine wp_skip ?_; refine hKq13 _ _ ?_; clear hKq13 Kq13; refine wp_seq_k fun Kq15 hKq15 => ?_; have hg2 := HG.out.one HXI.out (by omega)
        have HG2 := Lib.hid hg2
        clear hg2 hgt dg
        have c2 := SL.B.cellOf (v := sv) 2 rfl
        have HS := Lib.hid SL
        have hz6 : g6 < w5.heap.size := SL.B.lt
        clear SL
        have B9n := own_blk_ne HS.out.own B9 (by decide)
        have HB9 := Lib.hid B9
        have HB9n := Lib.hid B9n
        clear B9n
        refine sm_list [6, 9] 39 11 hs hd (by kernel_rfl) (agC e6 (agC e9 agN)) rfl ?_
        simp only [seval]
        go_wp2_with (first | (at_builtin; refine wpList_pushG 1 rfl (.tmp 3) (.tmp 10) 56 rfl sty_slot (wr := w5) (cs := #[.int .i64 128, .int .i64 (x.2 - x.1)]) rfl (by intro u hu; simp at hu; rcases hu with rfl | rfl <;> rfl) (v := sv) rfl HS.out.own rfl rfl (by omega) HS.out.hz ?_; intro v2 w8 own2 gr2 mv2; obtain ⟨Bx, SX, bx⟩ := HS.out.push (128, x.2 - x.1) own2 gr2; have B9y := Lib.hid ((HB9.out.grown gr2 (Ne.symm HB9n.out)).far (p := ⟨g6, 2, none⟩) (by show g9 ≠ g6; omega) v2); obtain ⟨Av, cv, rfl, _, _⟩ := ownsRow_reads own2; have fz := Bx.frozen; have xl := Bx.lt; have xc := Bx.cellOf (v := sv) 2 rfl; have SX := Lib.hid SX; have bx := Lib.hid bx; clear own2 gr2 mv2 Bx) | fail)
        intro a H; replace hs := H.s hs; replace hd := H.d rfl; replace e6 := H.g 6 rfl rfl; replace e9 := H.g 9 rfl rfl; replace e1 := H.k e1 rfl; replace e4 := H.k e4 rfl; replace e14 := H.k e14 rfl; replace e15 := H.k e15 rfl; replace e7 := H.k e7 rfl; replace e16 := H.k e16 rfl; clear H; refine hKq15 _ _ ?_; clear hKq15 Kq15; clear fz xl xc c2 hz6 HS
        replace SX := SX.out
        replace bx := bx.out
        replace B9 := B9y.out
        clear B9y HB9 HB9n x1 x2
        generalize hsv : Value.slice Av (List.length (t) + 1) cv = sv9 at *
        clear hsv
        generalize w8.setCell ⟨g6, 2, none⟩ sv9 = w9 at *
        replace hb5 := hb5.trans bx
        have SL := SX
        clear SX bx
        have x1 := B9.cellOf (v := .int .i64 x.1) 0 rfl
        have x2 := B9.cellOf (v := .int .i64 x.2) 1 rfl
        refine sm_list [7, 9] 50 2 hs hd (by kernel_rfl) (agC e7 (agC e9 agN)) rfl ?_
        simp only [seval]
        go_wp2_with fail
        intro a H; replace hs := H.s hs; replace hd := H.d rfl; replace e9 := H.g 9 rfl rfl; replace e1 := H.k e1 rfl; replace e4 := H.k e4 rfl; replace e6 := H.k e6 rfl; replace e14 := H.k e14 rfl; replace e15 := H.k e15 rfl; replace e16 := H.k e16 rfl; replace e7 := H.g 7 rfl rfl; clear H; refine hKq9 _ _ ?_; clear hKq9 Kq9
        refine sm_list [16] 52 1 hs hd (by kernel_rfl) (agC e16 agN) rfl ?_
        simp only [seval]
        go_wp2_with fail
        intro a H; replace hs := H.s hs; replace hd := H.d rfl; replace e1 := H.k e1 rfl; replace e4 := H.k e4 rfl; replace e6 := H.k e6 rfl; replace e14 := H.k e14 rfl; replace e15 := H.k e15 rfl; replace e9 := H.k e9 rfl; replace e7 := H.k e7 rfl; replace e16 := H.g 16 rfl rfl; clear H
        exact ⟨⟨i + 1, x.2, sv9, _, by omega, by simp; omega, by omega, hs, hd, e1, e4, e6, e14, e15, e16, e7, hb5, SL, HG2.out⟩, by first | (simp only [hm, slot e16, intOf]; omega) | (simp [e16, intOf]; omega)⟩
  · obtain rfl : i = n := by omega
    have dj : decide ((i : Int) < (i : Int)) = false := decide_eq_false (by omega)
    clear hlt hm
    refine sm_list [15, 16] 17 1 hs hd (by kernel_rfl) (agC e15 (agC e16 agN)) rfl ?_
    simp only [seval]
    go_wp2_with fail
    intro a H; replace hs := H.s hs; replace hd := H.d rfl; replace e15 := H.g 15 rfl rfl; replace e16 := H.g 16 rfl rfl; replace e1 := H.k e1 rfl; replace e4 := H.k e4 rfl; replace e6 := H.k e6 rfl; replace e14 := H.k e14 rfl; replace e7 := H.k e7 rfl; have e17 := H.g 17 rfl rfl; clear H; refine hKq7 _ _ ?_; clear hKq7 Kq7; refine wp_seq_k fun Kq8 hKq8 => ?_
    refine wp_cond_false (slotE e17) ?_
    clear e17; refine wp_exit ?_; refine exit_then rfl ?_; clear hKq8 Kq8; refine exit_then rfl ?_; refine exit_hit ?_; refine hKq5 _ _ ?_; clear hKq5 Kq5; refine wp_seq_k fun Kq9 hKq9 => ?_; refine wp_seq_k fun Kq10 hKq10 => ?_; clear e14; clear e15; clear e16
    have hb5 := hb4
    clear hb4
    have hlen : ss'.length = i := by have := HO2.out.1; rw [flatMap_length spc_len] at this; omega
    rw [← hlen] at HG
    by_cases hgt : at_ < cyc
    · have dg : decide (at_ < cyc) = true := decide_eq_true hgt
      refine sm_list [1, 7] 53 3 hs hd (by kernel_rfl) (agC e1 (agC e7 agN)) rfl ?_
      simp only [seval]
      go_wp2_with fail
      intro a H; replace hs := H.s hs; replace hd := H.d rfl; replace e1 := H.g 1 rfl rfl; replace e7 := H.g 7 rfl rfl; replace e4 := H.k e4 rfl; replace e6 := H.k e6 rfl; have e55 := H.g 55 rfl rfl; clear H; refine hKq10 _ _ ?_; clear hKq10 Kq10
      refine wp_cond_true (slotE e55) ?_
      clear e55
      have HN := Lib.hid (HG.out.full hgt)
      clear hgt dg HG
      have c2 := SL.B.cellOf (v := sv) 2 rfl
      have HS := Lib.hid SL
      have hz6 : g6 < w4.heap.size := SL.B.lt
      clear SL
      refine sm_list [1, 6, 7] 56 9 hs hd (by kernel_rfl) (agC e1 (agC e6 (agC e7 agN))) rfl ?_
      simp only [seval]
      go_wp2_with (first | (at_builtin; refine wpList_pushG 1 rfl (.tmp 4) (.tmp 9) 56 rfl sty_slot (wr := w4) (cs := #[.int .i64 127, .int .i64 (cyc - at_)]) rfl (by intro u hu; simp at hu; rcases hu with rfl | rfl <;> rfl) (v := sv) rfl HS.out.own rfl rfl (by omega) HS.out.hz ?_; intro v2 w6 own2 gr2 mv2; obtain ⟨Bx, SX, bx⟩ := HS.out.push (127, cyc - at_) own2 gr2; obtain ⟨Av, cv, rfl, _, _⟩ := ownsRow_reads own2; have fz := Bx.frozen; have xl := Bx.lt; have xc := Bx.cellOf (v := sv) 2 rfl; have SX := Lib.hid SX; have bx := Lib.hid bx; clear own2 gr2 mv2 Bx) | fail)
      intro a H; replace hs := H.s hs; replace hd := H.d rfl; replace e1 := H.g 1 rfl rfl; replace e6 := H.g 6 rfl rfl; replace e7 := H.g 7 rfl rfl; replace e4 := H.k e4 rfl; clear H; refine hKq9 _ _ ?_; clear hKq9 Kq9; refine wp_seq_k fun Kq11 hKq11 => ?_; clear fz xl xc c2 hz6 HS
      replace SX := SX.out
      replace bx := bx.out
      generalize hsv : Value.slice Av (List.length (t) + 1) cv = sv7 at *
      clear hsv
      generalize w6.setCell ⟨g6, 2, none⟩ sv7 = w7 at *
      replace hb5 := hb5.trans bx
      have SL := SX
      clear SX bx
      obtain ⟨t7, ht7⟩ : ∃ u, u = t ++ [(127, cyc - at_)] := ⟨_, rfl⟩
      rw [← ht7] at SL HN
      clear ht7
      have HSL := Lib.hid SL
      have B4x := B4.below hb5 hz2
      have HB4 := Lib.hid B4x
      have hz5 : g4 < w7.heap.size := B4x.lt
      clear B4x SL
      obtain ⟨Av, cv, rfl, _, _⟩ := ownsRow_reads HSL.out.own
      refine sm_list [4, 5, 6] 65 1 hs hd (by kernel_rfl) (agC e4 (agU (agC e6 agN))) rfl ?_
      simp only [seval]
      go_wp2_with (first | (refine wpList_load_any_d rfl 58 (.tmp 2) rfl ⟨g6, 0, none⟩ rfl (#[.int .i64 0, .int .i64 cyc, .slice Av t7.length cv]) _ (blk_cells HSL.out.B) Try.underlying58 rfl (by kernel_rfl) ?_) | (refine wpList_store_part rfl 58 (.tmp 0) (.tmp 3) rfl (off := 0) rfl HB4.out rfl (by simp) (by kernel_rfl) (by rw [← Array.all_toList]; rfl) ?_; intro w10 B10 z10 gr10) | fail)
      intro a H; replace hs := H.s hs; replace hd := H.d rfl; replace e4 := H.g 4 rfl rfl; replace e6 := H.g 6 rfl rfl; replace e1 := H.k e1 rfl; replace e7 := H.k e7 rfl; have e5 := H.g 5 rfl rfl; clear H; refine hKq11 _ _ ?_; clear hKq11 Kq11; refine wp_ret ?_
      have B6' : Blk w10 g4 58 #[.int .i64 0, .int .i64 cyc, .slice Av t7.length cv] := by simpa [putAll] using B10
      have hlow : Below g4 w2 w10 := ((L2.mono (Nat.le_of_lt hz2)).trans (hb5.mono (Nat.le_of_lt hz2))).grown gr10 (Nat.le_of_lt hz5) (fun k hk => by cases hk; exact Nat.le_refl _)
      have hown := ownsRow_below HO2.out hlow HROW.out
      have hzs := HSL.out.hz
      have hsl : w10.ownsRow w.heap.size 67 2 (.slice Av t7.length cv) t7.length (t7.flatMap spc) := by rw [← HG4.out]; exact ownsRow_base (ownsRow_grown HSL.out.own gr10 (fun e => by have := (ownsRow_lt HSL.out.own g4 e).1; omega)) (Nat.le_of_lt (Nat.lt_trans hz2 hS1))
      exact sm_ret_cell rfl hd e4 B6' Try.underlying58 rfl (by kernel_rfl) e5 ⟨true, _, ss', t7, rfl, HP.out, HSR.out, HN.out, fun _ => hsl, (fun h => by cases h), hown, grown_mid (by rw [← HG4.out]; exact L1) HGR.out (by rw [← HG4.out]; exact hlow)⟩
    · have dg : decide (at_ < cyc) = false := decide_eq_false hgt
      refine sm_list [1, 7] 53 3 hs hd (by kernel_rfl) (agC e1 (agC e7 agN)) rfl ?_
      simp only [seval]
      go_wp2_with fail
      intro a H; replace hs := H.s hs; replace hd := H.d rfl; replace e1 := H.g 1 rfl rfl; replace e7 := H.g 7 rfl rfl; replace e4 := H.k e4 rfl; replace e6 := H.k e6 rfl; have e55 := H.g 55 rfl rfl; clear H; refine hKq10 _ _ ?_; clear hKq10 Kq10
      refine wp_cond_false (slotE e55) ?_
      clear e55; refine wp_skip ?_; refine hKq9 _ _ ?_; clear hKq9 Kq9; refine wp_seq_k fun Kq11 hKq11 => ?_
      have HN := Lib.hid (HG.out.done (by omega))
      clear hgt dg HG
      have HSL := Lib.hid SL
      have B4x := B4.below hb5 hz2
      have HB4 := Lib.hid B4x
      have hz5 : g4 < w4.heap.size := B4x.lt
      clear B4x SL
      obtain ⟨Av, cv, rfl, _, _⟩ := ownsRow_reads HSL.out.own
      refine sm_list [4, 5, 6] 65 1 hs hd (by kernel_rfl) (agC e4 (agU (agC e6 agN))) rfl ?_
      simp only [seval]
      go_wp2_with (first | (refine wpList_load_any_d rfl 58 (.tmp 2) rfl ⟨g6, 0, none⟩ rfl (#[.int .i64 0, .int .i64 cyc, .slice Av t.length cv]) _ (blk_cells HSL.out.B) Try.underlying58 rfl (by kernel_rfl) ?_) | (refine wpList_store_part rfl 58 (.tmp 0) (.tmp 3) rfl (off := 0) rfl HB4.out rfl (by simp) (by kernel_rfl) (by rw [← Array.all_toList]; rfl) ?_; intro w10 B10 z10 gr10) | fail)
      intro a H; replace hs := H.s hs; replace hd := H.d rfl; replace e4 := H.g 4 rfl rfl; replace e6 := H.g 6 rfl rfl; replace e1 := H.k e1 rfl; replace e7 := H.k e7 rfl; have e5 := H.g 5 rfl rfl; clear H; refine hKq11 _ _ ?_; clear hKq11 Kq11; refine wp_ret ?_
      have B6' : Blk w10 g4 58 #[.int .i64 0, .int .i64 cyc, .slice Av t.length cv] := by simpa [putAll] using B10
      have hlow : Below g4 w2 w10 := ((L2.mono (Nat.le_of_lt hz2)).trans (hb5.mono (Nat.le_of_lt hz2))).grown gr10 (Nat.le_of_lt hz5) (fun k hk => by cases hk; exact Nat.le_refl _)
      have hown := ownsRow_below HO2.out hlow HROW.out
      have hzs := HSL.out.hz
      have hsl : w10.ownsRow w.heap.size 67 2 (.slice Av t.length cv) t.length (t.flatMap spc) := by rw [← HG4.out]; exact ownsRow_base (ownsRow_grown HSL.out.own gr10 (fun e => by have := (ownsRow_lt HSL.out.own g4 e).1; omega)) (Nat.le_of_lt (Nat.lt_trans hz2 hS1))
      exact sm_ret_cell rfl hd e4 B6' Try.underlying58 rfl (by kernel_rfl) e5 ⟨true, _, ss', t, rfl, HP.out, HSR.out, HN.out, fun _ => hsl, (fun h => by cases h), hown, grown_mid (by rw [← HG4.out]; exact L1) HGR.out (by rw [← HG4.out]; exact hlow)⟩
end Go.Proofs.Ytaegngcbiefckaa
