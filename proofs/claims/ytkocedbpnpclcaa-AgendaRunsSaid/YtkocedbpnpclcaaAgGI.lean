/-
  heap.Pop and heap.Remove over the agenda's list.
-/
import Derived.Test.YtkocedbpnpclcaaAgFI
namespace Go.Proofs.Ytkocedbpnpclcaa
set_option linter.unusedSimpArgs false
set_option linter.unusedVariables false
open Go.RowKit Go.WideShapes Go.ChangeShapes
attribute [local go_sem ↓] Go.wp_at_zero Go.wp_at_succ

/-- What Remove and Pop leave. -/
def GoneI (w : World) (g ga c n : Nat) (xs : List El) (now turn : Int) (gm : Nat) (a : El) (e : Ending) (w' : World) : Prop :=
  e = .returned (.iface 54 (.pointer (some ⟨a.blk, 0, none⟩))) ∧ ∃ ys, HLI w' ga c ys ∧ (a :: ys).Perm xs ∧ ys.length = n ∧ HeapN ys n ∧ Blk w' g 53 (acsI now turn (.slice (some ⟨ga, 0, none⟩) n c) gm) ∧ Blk w' a.blk 56 (icells .i64 a.it (-1)) ∧ Fr (g :: blks ga xs) w w'
/-- The state ahead of the last Pop. -/
def LastI (w : World) (g ga c n : Nat) (xs : List El) (now turn : Int) (gm : Nat) (a : El) (w' : World) : Prop :=
  ∃ zs, HLI w' ga c zs ∧ zs.length = n + 1 ∧ zs[n]? = some a ∧ HeapN zs n ∧ zs.Perm xs ∧ Blk w' g 53 (acsI now turn (.slice (some ⟨ga, 0, none⟩) (n + 1) c) gm) ∧ Fr (blks ga xs) w w'
theorem last_popI {w w' : World} {g ga c n L : Nat} {xs : List El} {now turn : Int} {gm : Nat} {a : El} (h : LastI w g ga c n xs now turn gm a w') (hL : L = n + 1) (hmx : n ≤ 1000000000) (hg : g ∉ blks ga xs) :
    Calls Try.prog 47 #[.pointer (some ⟨g, 2, none⟩)] w' (GoneI w g ga c n xs now turn gm a) := by
  obtain ⟨zs, hH, hl, ha, hN, hP, hB, hF⟩ := h
  have e := take_last hl ha
  have hlt : (zs.take n).length = n := by rw [List.length_take]; omega
  have hg' : g ∉ blks ga zs := fun hm => hg (blks_permI hP g hm)
  refine (lpop_anyI w' g ga c n L (zs.take n) a now turn gm (by rw [e]; exact hH) hlt hL (by omega) (by rw [hL]; exact hB) (by rw [e]; exact hg')).mono ?_
  rintro e' w2 ⟨rfl, h1, h2, h3, h4⟩
  refine ⟨rfl, zs.take n, h1, ?_, hlt, ?_, h2, h3, (hF.more (fun k hk => List.mem_cons_of_mem _ hk)).trans (h4.more (fun k hk => ?_))⟩
  · have : (a :: zs.take n).Perm (zs.take n ++ [a]) := (List.perm_append_singleton a (zs.take n)).symm
    rw [e] at this
    exact this.trans hP
  · have := heap_take hN
    rw [hlt] at this
    exact this
  · simp at hk
    rcases hk with rfl | rfl
    · exact List.mem_cons_self ..
    · exact List.mem_cons_of_mem _ (blks_permI hP _ (List.mem_cons_of_mem _ (blk_mem ha)))
set_option maxRecDepth 100000 in
set_option maxHeartbeats 4000000 in
theorem hrem_anyI (w : World) (g ga c n : Nat) (xs : List El) (now turn : Int) (gm : Nat) (h : HLI w ga c xs) (hn : xs.length = n + 1) (hmx : n ≤ 1000000000)
    (hB : Blk w g 53 (acsI now turn (.slice (some ⟨ga, 0, none⟩) (n + 1) c) gm)) (hg : g ∉ blks ga xs) (hh : HeapN xs (n + 1)) (i : Nat) (a : El) (ha : xs[i]? = some a) :
    Calls Try.prog 21 #[.iface 58 (.pointer (some ⟨g, 2, none⟩)), .int .i64 (i : Int)] w (GoneI w g ga c n xs now turn gm a) := by
  obtain ⟨L, hL⟩ : ∃ L, L = n + 1 := ⟨_, rfl⟩
  have hi := at_lt ha
  have hcell := hB.cellOf (v := .slice (some ⟨ga, 0, none⟩) (n + 1) c) 2 rfl
  rw [← hL] at hcell
  have hm := fun q => meth_lenI q hcell
  have hms := fun q => meth_swapI q hcell
  have hmp := fun q w => meth_popI q ⟨g, 2, none⟩ w
  have f1 : IntKind.i64.wrap ((L : Int) - 1) = (n : Int) := by rw [show (L : Int) - 1 = (n : Int) by omega]; exact IntWalk.i64_in _ ⟨by omega, by omega⟩
  have HG := Lib.hid (And.intro hL (And.intro hmx hg))
  by_cases hni : n = i
  · have d1 : ((n : Int) != (i : Int)) = false := by rw [hni]; simp
    have HLa : Hid (LastI w g ga c n xs now turn gm a w) := Lib.hid ⟨xs, h, hn, by rw [hni]; exact ha, fun k u v h0 h1 => hh k u v h0 (by omega), List.Perm.refl _, hB, Fr.refl _ _⟩
    have HP := Lib.hid (last_popI HLa.out hL hmx hg)
    clear h hn hmx hB hg hh ha hi hL hni HLa hms
    go_enter Try.func21, Try.ntmps21
    go_wp2_with fail
    refine (len_anyI (some ⟨ga, 0, none⟩) L c w).mono ?_
    rintro e w2 ⟨rfl, rfl⟩
    go_wp2_with fail
    refine HP.out.mono ?_
    rintro e w3 ⟨rfl, hR⟩
    go_wp2_with fail
    go_ret
    exact ⟨rfl, hR⟩
  · have d1 : ((n : Int) != (i : Int)) = true := bne_iff_ne.2 (by omega)
    obtain ⟨b, hb⟩ : ∃ b, xs[n]? = some b := ⟨_, List.getElem?_eq_getElem (by omega)⟩
    have HS := Lib.hid (swap_anyI w ga c L xs h (by omega) i n a b ha hb)
    have hBo := both_last hh (by omega) ha hb
    have HX := Lib.hid (And.intro hBo (And.intro (sw_k ha hb) (And.intro (sw_len xs i n) (And.intro (sw_perm xs i n) (And.intro hn (And.intro hi (And.intro hB hB.lt)))))))
    have HNI := Lib.hid hni
    clear h hn hmx hB hg hh hi hL hni ha hb hBo
    go_enter Try.func21, Try.ntmps21
    go_wp2_with fail
    refine (len_anyI (some ⟨ga, 0, none⟩) L c w).mono ?_
    rintro e w2 ⟨rfl, rfl⟩
    go_wp2_with fail
    refine HS.out.mono ?_
    rintro e w3 ⟨rfl, hH3, hF3⟩
    obtain ⟨hBo, hzn, hzl, hzp, hn, hi, hB, hBl⟩ := HX.out
    obtain ⟨hL, hmx, hg⟩ := HG.out
    have hB3 := hF3.blk hB hg
    have hcell3 := hB3.cellOf (v := .slice (some ⟨ga, 0, none⟩) (n + 1) c) 2 rfl
    have hgz : g ∉ blks ga (sw xs i n) := fun hm => hg (blks_permI hzp g hm)
    have HD := Lib.hid (down_anyI w3 g ga c L n (sw xs i n) hH3 (by omega) (by omega) (by rw [hL]; exact hcell3) hB3.lt hgz (by omega) i (by omega) hBo)
    have H3 := Lib.hid (And.intro hF3 (And.intro hB3 hgz))
    clear hBo hzn hzl hzp hn hi hB hBl hL hmx hg hB3 hcell3 hgz hH3 hF3 HS hm hms hcell
    go_wp2_with fail
    refine HD.out.mono ?_
    rintro e w4 ⟨mv, rfl, zs, hH4, hP4, hst, hq4, hF4⟩
    obtain ⟨hBo, hzn, hzl, hzp, hn, hi, hB, hBl⟩ := HX.out
    obtain ⟨hL, hmx, hg⟩ := HG.out
    obtain ⟨hF3, hB3, hgz⟩ := H3.out
    have hz4 : zs.length = n + 1 := by rw [hP4.length_eq, hzl, hn]
    have hzn4 : zs[n]? = some a := (hq4 n (Nat.le_refl _)).trans hzn
    have hP := hP4.trans hzp
    have hF := hF3.trans (hF4.more (blks_permI hzp))
    have hB4 := hF4.blk hB3 hgz
    rcases hst with ⟨rfl, hN⟩ | ⟨rfl, hU⟩
    · have HP := Lib.hid (last_popI (w := w) (w' := w4) (xs := xs) ⟨zs, hH4, hz4, hzn4, hN, hP, hB4, hF⟩ hL hmx hg)
      clear hBo hzn hzl hzp hn hi hB hBl hL hmx hg hF3 hB3 hgz hz4 hzn4 hP hF hB4 hN hH4 hP4 hq4 hF4
      go_wp2_with fail
      refine HP.out.mono ?_
      rintro e w5 ⟨rfl, hR⟩
      go_wp2_with fail
      go_ret
      exact ⟨rfl, hR⟩
    · have hgz4 : g ∉ blks ga zs := fun hm => hg (blks_permI hP g hm)
      have hcell4 := hB4.cellOf (v := .slice (some ⟨ga, 0, none⟩) (n + 1) c) 2 rfl
      have HU := Lib.hid (up_anyI w4 g ga c L n zs hH4 (by omega) (by omega) (by rw [hL]; exact hcell4) hB4.lt hgz4 (by omega) i (by have := HNI.out; omega) hU)
      have H4 := Lib.hid (And.intro hz4 (And.intro hzn4 (And.intro hP (And.intro hF (And.intro hB4 hgz4)))))
      clear hBo hzn hzl hzp hn hi hB hBl hL hmx hg hF3 hB3 hgz hz4 hzn4 hP hF hB4 hU hH4 hP4 hq4 hF4 hgz4 hcell4
      go_wp2_with fail
      refine HU.out.mono ?_
      rintro e w5 ⟨rfl, zs', hH5, hP5, hN5, hq5, hF5⟩
      obtain ⟨hz4, hzn4, hP, hF, hB4, hgz4⟩ := H4.out
      obtain ⟨hL, hmx, hg⟩ := HG.out
      have HP := Lib.hid (last_popI (w := w) (w' := w5) (xs := xs) ⟨zs', hH5, by rw [hP5.length_eq, hz4], (hq5 n (Nat.le_refl _)).trans hzn4, hN5, hP5.trans hP, hF5.blk hB4 hgz4, hF.trans (hF5.more (blks_permI hP))⟩ hL hmx hg)
      clear hz4 hzn4 hP hF hB4 hgz4 hL hmx hg hH5 hP5 hN5 hq5 hF5
      go_wp2_with fail
      refine HP.out.mono ?_
      rintro e w6 ⟨rfl, hR⟩
      go_wp2_with fail
      go_ret
      exact ⟨rfl, hR⟩
set_option maxRecDepth 100000 in
set_option maxHeartbeats 4000000 in
theorem hpop_anyI (w : World) (g ga c n : Nat) (xs : List El) (now turn : Int) (gm : Nat) (h : HLI w ga c xs) (hn : xs.length = n + 1) (hmx : n ≤ 1000000000)
    (hB : Blk w g 53 (acsI now turn (.slice (some ⟨ga, 0, none⟩) (n + 1) c) gm)) (hg : g ∉ blks ga xs) (hh : HeapN xs (n + 1)) (a : El) (ha : xs[0]? = some a) :
    Calls Try.prog 20 #[.iface 58 (.pointer (some ⟨g, 2, none⟩))] w (GoneI w g ga c n xs now turn gm a) := by
  obtain ⟨L, hL⟩ : ∃ L, L = n + 1 := ⟨_, rfl⟩
  have hcell := hB.cellOf (v := .slice (some ⟨ga, 0, none⟩) (n + 1) c) 2 rfl
  rw [← hL] at hcell
  have hm := fun q => meth_lenI q hcell
  have hms := fun q => meth_swapI q hcell
  have hmp := fun q w => meth_popI q ⟨g, 2, none⟩ w
  have f1 : IntKind.i64.wrap ((L : Int) - 1) = (n : Int) := by rw [show (L : Int) - 1 = (n : Int) by omega]; exact IntWalk.i64_in _ ⟨by omega, by omega⟩
  have HG := Lib.hid (And.intro hL (And.intro hmx hg))
  obtain ⟨b, hb⟩ : ∃ b, xs[n]? = some b := ⟨_, List.getElem?_eq_getElem (by omega)⟩
  have HS := Lib.hid (swap_anyI w ga c L xs h (by omega) 0 n a b ha hb)
  have hBo : Both (sw xs 0 n) n 0 := by
    rcases Nat.eq_zero_or_pos n with e | e
    · exact ⟨fun k u v h0 h1 => by omega, fun c u v h0 => by omega⟩
    · exact both_last hh e ha hb
  have HX := Lib.hid (And.intro hBo (And.intro (sw_k ha hb) (And.intro (sw_len xs 0 n) (And.intro (sw_perm xs 0 n) (And.intro hn (And.intro hB hB.lt))))))
  clear h hn hmx hB hg hh hL ha hb hBo
  go_enter Try.func20, Try.ntmps20
  go_wp2_with fail
  refine (len_anyI (some ⟨ga, 0, none⟩) L c w).mono ?_
  rintro e w2 ⟨rfl, rfl⟩
  go_wp2_with fail
  refine HS.out.mono ?_
  rintro e w3 ⟨rfl, hH3, hF3⟩
  obtain ⟨hBo, hzn, hzl, hzp, hn, hB, hBl⟩ := HX.out
  obtain ⟨hL, hmx, hg⟩ := HG.out
  have hB3 := hF3.blk hB hg
  have hcell3 := hB3.cellOf (v := .slice (some ⟨ga, 0, none⟩) (n + 1) c) 2 rfl
  have hgz : g ∉ blks ga (sw xs 0 n) := fun hm => hg (blks_permI hzp g hm)
  have HD := Lib.hid (down_anyI w3 g ga c L n (sw xs 0 n) hH3 (by omega) (by omega) (by rw [hL]; exact hcell3) hB3.lt hgz (by omega) 0 (by omega) hBo)
  have H3 := Lib.hid (And.intro hF3 (And.intro hB3 hgz))
  clear hBo hzn hzl hzp hn hB hBl hL hmx hg hB3 hcell3 hgz hH3 hF3 HS hm hms hcell
  go_wp2_with fail
  refine HD.out.mono ?_
  rintro e w4 ⟨mv, rfl, zs, hH4, hP4, hst, hq4, hF4⟩
  obtain ⟨hBo, hzn, hzl, hzp, hn, hB, hBl⟩ := HX.out
  obtain ⟨hL, hmx, hg⟩ := HG.out
  obtain ⟨hF3, hB3, hgz⟩ := H3.out
  have hz4 : zs.length = n + 1 := by rw [hP4.length_eq, hzl, hn]
  have hzn4 : zs[n]? = some a := (hq4 n (Nat.le_refl _)).trans hzn
  have hP := hP4.trans hzp
  have hF := hF3.trans (hF4.more (blks_permI hzp))
  have hB4 := hF4.blk hB3 hgz
  have hN : HeapN zs n := by rcases hst with ⟨_, hN⟩ | ⟨_, hU⟩; exact hN; exact up_top hU
  have HP := Lib.hid (last_popI (w := w) (w' := w4) (xs := xs) ⟨zs, hH4, hz4, hzn4, hN, hP, hB4, hF⟩ hL hmx hg)
  clear hBo hzn hzl hzp hn hB hBl hL hmx hg hF3 hB3 hgz hz4 hzn4 hP hF hB4 hN hH4 hP4 hq4 hF4 hst
  go_wp2_with fail
  refine HP.out.mono ?_
  rintro e w5 ⟨rfl, hR⟩
  go_wp2_with fail
  go_ret
  exact ⟨rfl, hR⟩
end Go.Proofs.Ytkocedbpnpclcaa
