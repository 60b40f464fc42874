/-
  heap.down over the agenda's list.
-/
import Derived.Test.YtkocedbpnpclcaaAgCI
namespace Go.Proofs.Ytkocedbpnpclcaa
set_option linter.unusedSimpArgs false
set_option linter.unusedVariables false
open Go.RowKit Go.WideShapes Go.ChangeShapes
attribute [local go_sem ↓] Go.wp_at_zero Go.wp_at_succ

set_option maxRecDepth 100000 in
set_option maxHeartbeats 8000000 in
theorem down_anyI (w : World) (g ga c n m : Nat) (xs : List El) (h : HLI w ga c xs) (hn : xs.length = n) (hmx : n ≤ 1099511627776) (hcell : w.cell? ⟨g, 2, none⟩ = some (.slice (some ⟨ga, 0, none⟩) n c)) (hgl : g < w.heap.size) (hg : g ∉ blks ga xs)
    (hmn : m ≤ n) (i0 : Nat) (hi0 : i0 < n) (hU : Both xs m i0) :
    Calls Try.prog 23 #[.iface 58 (.pointer (some ⟨g, 2, none⟩)), .int .i64 (i0 : Int), .int .i64 (m : Int)] w fun e w' => ∃ mv : Bool, e = .returned (.bool mv) ∧ ∃ xs', HLI w' ga c xs' ∧ xs'.Perm xs ∧ (mv = true ∧ HeapN xs' m ∨ mv = false ∧ UpTo xs' m i0) ∧ (∀ q, m ≤ q → xs'[q]? = xs[q]?) ∧ Fr (blks ga xs) w w' := by
  have HC := Lib.hid hcell
  have HN := Lib.hid (And.intro hn hmx)
  go_enter Try.func23, Try.ntmps23
  go_wp2_with fail
  go_loopw [7] (fun jv wr => ∃ (ii : Nat) (ys : List El), jv = .int .i64 (ii : Nat) ∧ ii < n ∧ Hid (HLI wr ga c ys ∧ ys.Perm xs ∧ (ii = i0 ∧ Both ys m ii ∨ i0 < ii ∧ ii < m ∧ DownTo ys m ii) ∧ (∀ q, m ≤ q → ys[q]? = xs[q]?) ∧ Fr (blks ga xs) w wr)) (fun jv _ => n - (intOf jv).toNat)
  case atStart => exact ⟨i0, xs, rfl, hi0, Lib.hid ⟨h, List.Perm.refl _, .inl ⟨rfl, hU⟩, fun _ _ => rfl, Fr.refl _ _⟩⟩
  case round =>
    clear h hU hcell hi0 hn hmx
    obtain ⟨ii, ys, rfl, hin, hinv⟩ := hrel
    obtain ⟨wo, rfl⟩ : ∃ wo : World, wo = wr := ⟨_, rfl⟩
    obtain ⟨hH, hP, hst, hq, hF⟩ := hinv.out
    have hlen : ys.length = n := hP.length_eq.trans HN.out.1
    have hcell : wo.cell? ⟨g, 2, none⟩ = some (.slice (some ⟨ga, 0, none⟩) n c) := (hF.cell hgl hg).trans HC.out
    have hbig := HN.out.2
    obtain ⟨a, ha⟩ : ∃ a, ys[ii]? = some a := ⟨_, List.getElem?_eq_getElem (by omega)⟩
    have hB : Both ys m ii := by
      rcases hst with ⟨_, h1⟩ | ⟨_, _, h1⟩
      · exact h1
      · exact h1.both
    have hge : i0 ≤ ii := by rcases hst with ⟨h1, _⟩ | ⟨h1, _, _⟩ <;> omega
    obtain ⟨D, hD⟩ : ∃ D, D = 2 * ii := ⟨_, rfl⟩
    obtain ⟨J1, hJ1⟩ : ∃ J1, J1 = 2 * ii + 1 := ⟨_, rfl⟩
    obtain ⟨J2, hJ2⟩ : ∃ J2, J2 = 2 * ii + 2 := ⟨_, rfl⟩
    have f1 : IntKind.i64.wrap (2 * (ii : Int)) = (D : Int) := by rw [show 2 * (ii : Int) = (D : Int) by omega]; exact IntWalk.i64_in _ ⟨by omega, by omega⟩
    have f2 : IntKind.i64.wrap ((D : Int) + 1) = (J1 : Int) := by rw [show (D : Int) + 1 = (J1 : Int) by omega]; exact IntWalk.i64_in _ ⟨by omega, by omega⟩
    have f3 : IntKind.i64.wrap ((J1 : Int) + 1) = (J2 : Int) := by rw [show (J1 : Int) + 1 = (J2 : Int) by omega]; exact IntWalk.i64_in _ ⟨by omega, by omega⟩
    have HF := Lib.hid (And.intro f1 (And.intro f2 f3))
    have HE : Hid ((∀ c x, 0 < c → c < m → (c - 1) / 2 = ii → ys[c]? = some x → a.le x) → (decide (i0 < ii) = true ∧ HeapN ys m ∨ decide (i0 < ii) = false ∧ UpTo ys m i0)) := Lib.hid fun hs => by
      rcases hst with ⟨h1, h2⟩ | ⟨h1, _, h2⟩
      · exact .inr ⟨by simp; omega, by rw [← h1]; exact both_end h2 ha hs⟩
      · exact .inl ⟨by simpa using h1, down_end h2 ha hs⟩
    have HI := Lib.hid (And.intro hH (And.intro hP (And.intro hq (And.intro hF hlen))))
    have HB := Lib.hid (And.intro hB (And.intro ha hcell))
    have HD := Lib.hid (And.intro hD (And.intro hJ1 (And.intro hJ2 (And.intro hin hge))))
    clear hinv hH hP hst hq hF hB hbig hD hcell ha
    by_cases hj1 : m ≤ J1
    · have HX : Hid (∀ c x, 0 < c → c < m → (c - 1) / 2 = ii → ys[c]? = some x → a.le x) := Lib.hid fun c x h0 h1 h2 => by omega
      clear hlen hJ1 hJ2 hin hge f3
      clear HF
      go_wp2_with fail
      go_ret
      obtain ⟨hH, hP, hq, hF, hlen⟩ := HI.out
      refine ⟨decide (i0 < ii), ?_, ys, hH, hP, HE.out HX.out, hq, hF⟩
      first | rfl | (refine congrArg Ending.returned (congrArg Value.bool ?_); simp)
    obtain ⟨x1, hx1⟩ : ∃ x, ys[J1]? = some x := ⟨_, List.getElem?_eq_getElem (by omega)⟩
    have hch : ∃ (J : Nat) (b : El), Hid (J < m ∧ ys[J]? = some b ∧ (J - 1) / 2 = ii ∧ 0 < J ∧ ∀ c x, 0 < c → c < m → (c - 1) / 2 = ii → ys[c]? = some x → b.le x) ∧ (J2 < m ∧ J = J2 ∧ (∃ x2, ys[J2]? = some x2 ∧ decide (x2.lt x1) = true) ∨ J2 < m ∧ J = J1 ∧ (∃ x2, ys[J2]? = some x2 ∧ decide (x2.lt x1) = false) ∨ ¬ J2 < m ∧ J = J1) := by
      by_cases hj2 : J2 < m
      · obtain ⟨x2, hx2⟩ : ∃ x, ys[J2]? = some x := ⟨_, List.getElem?_eq_getElem (by omega)⟩
        have hcs : ∀ c x, 0 < c → c < m → (c - 1) / 2 = ii → ys[c]? = some x → x = x1 ∨ x = x2 := fun c x h0 h1 h2 h3 => by
          have : c = J1 ∨ c = J2 := by omega
          rcases this with e | e
          · rw [e, hx1] at h3; injection h3 with h3; exact .inl h3.symm
          · rw [e, hx2] at h3; injection h3 with h3; exact .inr h3.symm
        by_cases hl : x2.lt x1
        · refine ⟨J2, x2, Lib.hid ⟨hj2, hx2, by omega, by omega, fun c x h0 h1 h2 h3 => ?_⟩, .inl ⟨hj2, rfl, x2, hx2, decide_eq_true hl⟩⟩
          rcases hcs c x h0 h1 h2 h3 with e | e <;> rw [e]
          · exact El.lt_le hl
          · exact El.le_refl _
        · refine ⟨J1, x1, Lib.hid ⟨by omega, hx1, by omega, by omega, fun c x h0 h1 h2 h3 => ?_⟩, .inr (.inl ⟨hj2, rfl, x2, hx2, decide_eq_false hl⟩)⟩
          rcases hcs c x h0 h1 h2 h3 with e | e <;> rw [e]
          · exact El.le_refl _
          · exact El.not_lt hl
      · refine ⟨J1, x1, Lib.hid ⟨by omega, hx1, by omega, by omega, fun c x h0 h1 h2 h3 => ?_⟩, .inr (.inr ⟨hj2, rfl⟩)⟩
        have : c = J1 := by omega
        rw [this, hx1] at h3
        injection h3 with h3
        rw [← h3]
        exact El.le_refl _
    obtain ⟨J, b, HJ, hch⟩ := hch
    have d1 : decide (m ≤ J1) = false := decide_eq_false hj1
    have d0 : decide ((J1 : Int) < 0) = false := decide_eq_false (by omega)
    have HX1 := Lib.hid hx1
    have HL := Lib.hid hlen
    have HGL := Lib.hid hgl
    have HW : Hid (∀ w1, Below wo.heap.size wo w1 → HLI w1 ga c ys ∧ w1.cell? ⟨g, 2, none⟩ = some (.slice (some ⟨ga, 0, none⟩) n c) ∧ Fr (blks ga xs) w w1 ∧ g < w1.heap.size) := Lib.hid fun w1 b1 => by
      obtain ⟨hH, hP, hq, hF, hlen⟩ := HI.out
      have h1 : g < wo.heap.size := Nat.lt_of_lt_of_le HGL.out hF.size
      exact ⟨hH.kept b1, (b1.cell (p := ⟨g, 2, none⟩) h1).trans HB.out.2.2, hF.trans (Fr.be b1), Nat.lt_of_lt_of_le h1 b1.size⟩
    have HM := Lib.hid hmn
    clear hJ1 hJ2 hin hge hj1 hx1 hlen HF hgl hmn
    rcases hch with ⟨hj2, rfl, x2, hx2, hl⟩ | ⟨hj2, rfl, x2, hx2, hl⟩ | ⟨hj2, rfl⟩
    · have HL1 := Lib.hid (less_anyI wo ga c n ys HI.out.1 HL.out J J1 x2 x1 hx2 HX1.out)
      have hm := fun q => meth_lessI q HB.out.2.2
      clear hx2
      go_wp2_with fail
      refine HL1.out.mono ?_
      rintro e w1 ⟨rfl, b1⟩
      simp only [hl]
      have HT := Lib.hid (HW.out w1 b1)
      clear hm hl b1 HL1 HW
      have hm := fun q => meth_lessI q HT.out.2.1
      go_wp2_with fail
      have HL2 := Lib.hid (less_anyI w1 ga c n ys HT.out.1 HL.out J ii b a HJ.out.2.1 HB.out.2.1)
      refine HL2.out.mono ?_
      rintro e w2 ⟨rfl, b2⟩
      obtain ⟨hH, hcell, hF, hgl⟩ := HT.out
      have hF2 := hF.trans (Fr.be b2)
      have hH2 := hH.kept b2
      have hcell2 := (b2.cell (p := ⟨g, 2, none⟩) hgl).trans hcell
      generalize hd : decide (b.lt a) = d
      cases d with
      | false =>
        have HX : Hid (∀ c x, 0 < c → c < m → (c - 1) / 2 = ii → ys[c]? = some x → a.le x) := Lib.hid fun c x h0 h1 h2 h3 => El.le_trans (El.not_lt (of_decide_eq_false hd)) (HJ.out.2.2.2.2 c x h0 h1 h2 h3)
        have HR := Lib.hid (And.intro hH2 hF2)
        clear hd hm hH hcell hF hgl hF2 hH2 hcell2 b2 HL2 HT d1 d0
        go_wp2_with fail
        go_ret
        obtain ⟨_, hP, hq, _, hlen⟩ := HI.out
        refine ⟨decide (i0 < ii), ?_, ys, HR.out.1, hP, HE.out HX.out, hq, HR.out.2⟩
        first | rfl | (refine congrArg Ending.returned (congrArg Value.bool ?_); simp)
      | true =>
        have HS := Lib.hid (swap_anyI w2 ga c n ys hH2 HL.out ii J a b HB.out.2.1 HJ.out.2.1)
        have HDn : Hid (DownTo (sw ys ii J) m J) := Lib.hid (down_step HB.out.1 HJ.out.2.2.2.1 HJ.out.1 HJ.out.2.2.1 HB.out.2.1 HJ.out.2.1 (of_decide_eq_true hd) HJ.out.2.2.2.2)
        have hm2 := fun q => meth_swapI q hcell2
        have HR := Lib.hid hF2
        clear hd hm hH hcell hF hgl hF2 hH2 hcell2 b2 HL2 HT d1 d0 f1 f2 f3
        go_wp2_with fail
        refine HS.out.mono ?_
        rintro e w3 ⟨rfl, hH3, hF3⟩
        have hij : ii < J := by have := HJ.out.2.2.1; have := HJ.out.2.2.2.1; omega
        have hjm := HJ.out.1
        have HG := Lib.hid (And.intro hH3 hF3)
        have HIJ := Lib.hid (And.intro hij hjm)
        clear hm2 hH3 hF3 hij hjm HS
        go_wp2_with fail
        go_roundw
        case rel =>
          obtain ⟨_, hP, hq, _, hlen⟩ := HI.out
          obtain ⟨hij, hjm⟩ := HIJ.out
          have hge := HD.out.2.2.2.2
          have hmn := HM.out
          exact ⟨J, sw ys ii J, rfl, by omega, Lib.hid ⟨HG.out.1, (sw_perm ys ii J).trans hP, .inr ⟨by omega, hjm, HDn.out⟩, fun q hqm => by rw [sw_o HB.out.2.1 HJ.out.2.1 (by omega) (by omega)]; exact hq q hqm, HR.out.trans (HG.out.2.more (blks_permI hP))⟩⟩
        case measure =>
          obtain ⟨hij, hjm⟩ := HIJ.out
          have hmn := HM.out
          simp [intOf]; omega
    · have HL1 := Lib.hid (less_anyI wo ga c n ys HI.out.1 HL.out J2 J x2 x1 hx2 HX1.out)
      have hm := fun q => meth_lessI q HB.out.2.2
      clear hx2
      go_wp2_with fail
      refine HL1.out.mono ?_
      rintro e w1 ⟨rfl, b1⟩
      simp only [hl]
      have HT := Lib.hid (HW.out w1 b1)
      clear hm hl b1 HL1 HW
      have hm := fun q => meth_lessI q HT.out.2.1
      go_wp2_with fail
      have HL2 := Lib.hid (less_anyI w1 ga c n ys HT.out.1 HL.out J ii b a HJ.out.2.1 HB.out.2.1)
      refine HL2.out.mono ?_
      rintro e w2 ⟨rfl, b2⟩
      obtain ⟨hH, hcell, hF, hgl⟩ := HT.out
      have hF2 := hF.trans (Fr.be b2)
      have hH2 := hH.kept b2
      have hcell2 := (b2.cell (p := ⟨g, 2, none⟩) hgl).trans hcell
      generalize hd : decide (b.lt a) = d
      cases d with
      | false =>
        have HX : Hid (∀ c x, 0 < c → c < m → (c - 1) / 2 = ii → ys[c]? = some x → a.le x) := Lib.hid fun c x h0 h1 h2 h3 => El.le_trans (El.not_lt (of_decide_eq_false hd)) (HJ.out.2.2.2.2 c x h0 h1 h2 h3)
        have HR := Lib.hid (And.intro hH2 hF2)
        clear hd hm hH hcell hF hgl hF2 hH2 hcell2 b2 HL2 HT d1 d0
        go_wp2_with fail
        go_ret
        obtain ⟨_, hP, hq, _, hlen⟩ := HI.out
        refine ⟨decide (i0 < ii), ?_, ys, HR.out.1, hP, HE.out HX.out, hq, HR.out.2⟩
        first | rfl | (refine congrArg Ending.returned (congrArg Value.bool ?_); simp)
      | true =>
        have HS := Lib.hid (swap_anyI w2 ga c n ys hH2 HL.out ii J a b HB.out.2.1 HJ.out.2.1)
        have HDn : Hid (DownTo (sw ys ii J) m J) := Lib.hid (down_step HB.out.1 HJ.out.2.2.2.1 HJ.out.1 HJ.out.2.2.1 HB.out.2.1 HJ.out.2.1 (of_decide_eq_true hd) HJ.out.2.2.2.2)
        have hm2 := fun q => meth_swapI q hcell2
        have HR := Lib.hid hF2
        clear hd hm hH hcell hF hgl hF2 hH2 hcell2 b2 HL2 HT d1 d0 f1 f2 f3
        go_wp2_with fail
        refine HS.out.mono ?_
        rintro e w3 ⟨rfl, hH3, hF3⟩
        have hij : ii < J := by have := HJ.out.2.2.1; have := HJ.out.2.2.2.1; omega
        have hjm := HJ.out.1
        have HG := Lib.hid (And.intro hH3 hF3)
        have HIJ := Lib.hid (And.intro hij hjm)
        clear hm2 hH3 hF3 hij hjm HS
        go_wp2_with fail
        go_roundw
        case rel =>
          obtain ⟨_, hP, hq, _, hlen⟩ := HI.out
          obtain ⟨hij, hjm⟩ := HIJ.out
          have hge := HD.out.2.2.2.2
          have hmn := HM.out
          exact ⟨J, sw ys ii J, rfl, by omega, Lib.hid ⟨HG.out.1, (sw_perm ys ii J).trans hP, .inr ⟨by omega, hjm, HDn.out⟩, fun q hqm => by rw [sw_o HB.out.2.1 HJ.out.2.1 (by omega) (by omega)]; exact hq q hqm, HR.out.trans (HG.out.2.more (blks_permI hP))⟩⟩
        case measure =>
          obtain ⟨hij, hjm⟩ := HIJ.out
          have hmn := HM.out
          simp [intOf]; omega
    · have d2 : decide (J2 < m) = false := decide_eq_false hj2
      have HT := Lib.hid (HW.out wo (Below.refl _ _))
      obtain ⟨w1, rfl⟩ : ∃ w1 : World, w1 = wo := ⟨_, rfl⟩
      clear hj2 HW
      have hm := fun q => meth_lessI q HT.out.2.1
      go_wp2_with fail
      have HL2 := Lib.hid (less_anyI w1 ga c n ys HT.out.1 HL.out J ii b a HJ.out.2.1 HB.out.2.1)
      refine HL2.out.mono ?_
      rintro e w2 ⟨rfl, b2⟩
      obtain ⟨hH, hcell, hF, hgl⟩ := HT.out
      have hF2 := hF.trans (Fr.be b2)
      have hH2 := hH.kept b2
      have hcell2 := (b2.cell (p := ⟨g, 2, none⟩) hgl).trans hcell
      generalize hd : decide (b.lt a) = d
      cases d with
      | false =>
        have HX : Hid (∀ c x, 0 < c → c < m → (c - 1) / 2 = ii → ys[c]? = some x → a.le x) := Lib.hid fun c x h0 h1 h2 h3 => El.le_trans (El.not_lt (of_decide_eq_false hd)) (HJ.out.2.2.2.2 c x h0 h1 h2 h3)
        have HR := Lib.hid (And.intro hH2 hF2)
        clear hd hm hH hcell hF hgl hF2 hH2 hcell2 b2 HL2 HT d1 d0
        go_wp2_with fail
        go_ret
        obtain ⟨_, hP, hq, _, hlen⟩ := HI.out
        refine ⟨decide (i0 < ii), ?_, ys, HR.out.1, hP, HE.out HX.out, hq, HR.out.2⟩
        first | rfl | (refine congrArg Ending.returned (congrArg Value.bool ?_); simp)
      | true =>
        have HS := Lib.hid (swap_anyI w2 ga c n ys hH2 HL.out ii J a b HB.out.2.1 HJ.out.2.1)
        have HDn : Hid (DownTo (sw ys ii J) m J) := Lib.hid (down_step HB.out.1 HJ.out.2.2.2.1 HJ.out.1 HJ.out.2.2.1 HB.out.2.1 HJ.out.2.1 (of_decide_eq_true hd) HJ.out.2.2.2.2)
        have hm2 := fun q => meth_swapI q hcell2
        have HR := Lib.hid hF2
        clear hd hm hH hcell hF hgl hF2 hH2 hcell2 b2 HL2 HT d1 d0 f1 f2 f3
        go_wp2_with fail
        refine HS.out.mono ?_
        rintro e w3 ⟨rfl, hH3, hF3⟩
        have hij : ii < J := by have := HJ.out.2.2.1; have := HJ.out.2.2.2.1; omega
        have hjm := HJ.out.1
        have HG := Lib.hid (And.intro hH3 hF3)
        have HIJ := Lib.hid (And.intro hij hjm)
        clear hm2 hH3 hF3 hij hjm HS
        go_wp2_with fail
        go_roundw
        case rel =>
          obtain ⟨_, hP, hq, _, hlen⟩ := HI.out
          obtain ⟨hij, hjm⟩ := HIJ.out
          have hge := HD.out.2.2.2.2
          have hmn := HM.out
          exact ⟨J, sw ys ii J, rfl, by omega, Lib.hid ⟨HG.out.1, (sw_perm ys ii J).trans hP, .inr ⟨by omega, hjm, HDn.out⟩, fun q hqm => by rw [sw_o HB.out.2.1 HJ.out.2.1 (by omega) (by omega)]; exact hq q hqm, HR.out.trans (HG.out.2.more (blks_permI hP))⟩⟩
        case measure =>
          obtain ⟨hij, hjm⟩ := HIJ.out
          have hmn := HM.out
          simp [intOf]; omega
end Go.Proofs.Ytkocedbpnpclcaa
