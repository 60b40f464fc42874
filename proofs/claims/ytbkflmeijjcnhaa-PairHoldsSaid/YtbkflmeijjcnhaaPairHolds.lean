/-
  PairHolds: for any steps the law returns true: once a time is told the pair never is without one; the arguments read as they did. No condition.
-/
import Derived.Test.YtbkflmeijjcnhaaStepA
namespace Go.Proofs.Ytbkflmeijjcnhaa
set_option linter.unusedSimpArgs false
set_option linter.unusedVariables false
open Go.RowKit Go.WideShapes Go.ChangeShapes
attribute [local go_sem ↓] Go.wp_at_zero Go.wp_at_succ

set_option maxRecDepth 100000 in
set_option maxHeartbeats 8000000 in
theorem pairHolds_calls (A : Option Addr) (n c : Nat) (xs : List Value) (w : World) (hn : n ≤ maxLen) (hr : Reads w w.heap.size 22 A n xs) (hst : ∀ i, i < n → ∃ (M : Array Value) (a : Int), M.toList = (xs.drop (i * 22)).take 22 ∧ StepCells M a) :
    Calls Try.prog 6 #[.slice A n c] w fun e w' => e = .returned (.bool true) ∧ Below w.heap.size w w' := by
  obtain ⟨p1, hp1⟩ : ∃ p1 : Pr, p1 = { prNew 1048576 with c0 := toldC (ckNew 0) 0 0 } := ⟨_, rfl⟩
  have hw1 : p1.Wf := by rw [hp1]; exact ⟨told_wf i64_zero i64_zero, ckNew_wf 1⟩
  have hr1 : p1.root1 = false := by rw [hp1]; rfl
  have hl1 : p1.last = -1 := by rw [hp1]; rfl
  have hf0 : ∀ T : Int, 0 ≤ T → T < 1099511627776 → freshV p1.c0 T p1.most = decide (T ≤ 1048576) := fun T h1 h2 => by
    rw [hp1]
    have := fresh_told (c := ckNew 0) (at_ := 0) (t := 0) (now := T) (most := 1048576) rfl (by rw [Int.sub_zero]; exact i64_of h1 (by omega))
    rw [Int.sub_zero] at this
    exact this
  have hf1 : ∀ T : Int, freshV p1.c1 T p1.most = false := fun T => by rw [hp1]; rfl
  have ha1 : ∀ T : Int, 0 ≤ T → T < 1099511627776 → atV p1.c0 T = (T, true) := fun T h1 h2 => by
    rw [hp1]
    have := at_told (c := ckNew 0) (at_ := 0) (t := 0) (now := T) rfl (by rw [Int.sub_zero]; exact i64_of h1 (by omega)) (by rw [Int.sub_zero, Int.zero_add]; exact i64_of h1 (by omega))
    rw [Int.sub_zero, Int.zero_add] at this
    exact this
  have HP := Lib.hid hp1
  have HF := Lib.hid (And.intro hf0 hf1)
  have HA := Lib.hid ha1
  have HW := Lib.hid (And.intro hw1 hr1)
  have HST := Lib.hid hst
  have HL := Lib.hid hl1
  unfold maxLen at hn
  clear hp1 hf0 hf1 ha1 hw1 hr1 hst hl1
  go_enter Try.func6, Try.ntmps6
  go_wp2_with fail
  refine (head21 w).mono ?_
  rintro e w0 ⟨rfl, L0⟩
  go_wp2_with fail
  refine (pnew_any 1048576 (by omega) w0).mono ?_
  rintro e w1 ⟨gp, g0, g1, rfl, P1, hgp, hg0, hg1, L1⟩
  have hz0 := L0.size
  have L01 := L0.trans (L1.mono hz0)
  clear L0 L1
  go_wp2_with fail
  refine (ptold0 _ gp g0 g1 0 0 w1 P1 rfl rfl i64_zero).mono ?_
  rintro e w2 ⟨rfl, P2, F2⟩
  replace P2 : PrIn w2 gp g0 g1 (lasts p1 (-1)) := by
    have : lasts p1 (-1) = p1 := by rw [← HL.out]; rfl
    rw [this, HP.out]
    exact P2
  have L2 := L01.trans (F2.below L01.size (by omega) (by omega) (by omega))
  clear P1 F2 L01
  go_wp2_with fail
  go_loopw [5] (fun i wr => ∃ k : Nat, k ≤ n ∧ k ≤ 40 ∧ i = .int .i64 k ∧ PrIn wr gp g0 g1 (lasts p1 (if k = 0 then -1 else 0)) ∧ Below w.heap.size w wr) (fun i _ => 40 - (intOf i).toNat)
  case atStart => exact ⟨0, Nat.zero_le _, by omega, rfl, P2, L2⟩
  case round =>
    clear P2 L2
    obtain ⟨k, hk, hk40, rfl, P, L⟩ := hrel
    by_cases hkn : k < n
    · by_cases hk4 : k < 40
      · obtain ⟨M, a, hM, hS⟩ := HST.out k hkn
        have e1 : bits .and .i64 a 1099511627775 = a % 1099511627776 := andI a 40 (by omega) _ rfl
        have a1 : 0 ≤ a % 1099511627776 ∧ a % 1099511627776 < 1099511627776 := by omega
        generalize a % 1099511627776 = T at *
        obtain ⟨ad, rfl, _, hc⟩ := (hr.below L).2 (by omega)
        have hcell : ∀ j v, M.toList[j]? = some v → wr.cell? ((ad.add (k * 22)).add j) = some v := fun j v hv => by
          rw [hM] at hv
          rw [add_of_add]
          refine hc _ _ ?_
          rw [List.getElem?_take] at hv
          split at hv
          · rwa [List.getElem?_drop] at hv
          · cases hv
        have hinfo : (Try.prog.info? 57).map (·.size) = some M.size := by rw [hS.size]; kernel_rfl
        have np := P.box.lt
        have n0 := P.k0.lt
        have n1 := P.k1.lt
        have hzw : w.heap.size ≤ wr.heap.size := L.size
        have P5 := P.kept ((Below.refl wr.heap.size wr).alloc (Nat.le_refl _) (.cells M 57))
        have L5 := L.alloc hzw (.cells M 57)
        have B5 := Blk.new wr 57 M
        have HC := Lib.hid (And.intro hcell (And.intro hinfo (And.intro hS.one hS.size)))
        have c17 := B5.cellOf 17 hS.at_
        have fz := B5.frozen
        clear hc hM hcell hinfo hS P L
        have LOADARM : True := trivial
        go_wp2_with (first | (refine wpList_load_any rfl 57 (.tmp 35) rfl (ad.add (k * 22)) rfl M _ HC.out.1 Try.underlying57 rfl HC.out.2.1 ?_) | (refine wpList_store_new rfl 57 (.tmp 6) (.tmp 36) rfl rfl rfl rfl HC.out.2.2.2.symm HC.out.2.1 HC.out.2.2.1 ?_; generalize wr.alloc (.cells M 57) = w5 at *))
        have B6 := B5.set_ 17 (.int .i64 T)
        have P6 : PrIn (w5.setCell ⟨wr.heap.size, 17, none⟩ (.int .i64 T)) gp g0 g1 (lasts p1 (if k = 0 then -1 else 0)) := ⟨P5.box.far (p := ⟨wr.heap.size, 17, none⟩) (by show gp ≠ wr.heap.size; omega) _, P5.k0.far (p := ⟨wr.heap.size, 17, none⟩) (by show g0 ≠ wr.heap.size; omega) _, P5.k1.far (p := ⟨wr.heap.size, 17, none⟩) (by show g1 ≠ wr.heap.size; omega) _, P5.n01, P5.np0, P5.np1⟩
        have L6 := L5.setCell (p := ⟨wr.heap.size, 17, none⟩) hzw (.int .i64 T)
        have hT := a1
        clear c17 fz B5 P5 L5 e1 a1
        generalize w5.setCell ⟨wr.heap.size, 17, none⟩ (.int .i64 T) = w6 at *
        generalize hMM : M.setIfInBounds 17 (.int .i64 T) = M6 at *
        have hM17 : M6[17]? = some (.int .i64 T) := by rw [← hMM]; simp [HC.out.2.2.2]
        clear hMM
        have HT := Lib.hid hT
        have iT : I64 T := i64_of hT.1 (by omega)
        have HIT := Lib.hid iT
        obtain ⟨gs, hgs⟩ : ∃ gs, gs = wr.heap.size := ⟨_, rfl⟩
        rw [← hgs] at B6
        simp only [← hgs]
        have hz6 : w.heap.size ≤ w6.heap.size := L6.size
        have ns0 : gs ≠ gp := by omega
        have ns1 : gs ≠ g0 := by omega
        have ns2 : gs ≠ g1 := by omega
        have gs0 : w.heap.size ≤ gs := by omega
        clear hgs np n0 n1 hzw iT hT HC
        have k2 : pickV (lasts p1 0) T = 0 := by
          by_cases hb : T ≤ 1048576
          · exact pick_first (by show freshV p1.c0 T p1.most = true; rw [HF.out.1 T HT.out.1 HT.out.2, decide_eq_true hb])
          · exact pick_none (by show freshV p1.c0 T p1.most = false; rw [HF.out.1 T HT.out.1 HT.out.2, decide_eq_false hb]) (HF.out.2 T)
        have HK2 := Lib.hid k2
        have l2 : lendV (lasts (lasts p1 0) 0) T = lasts p1 0 := lend_none HW.out.2
        have HL2 := Lib.hid l2
        clear k2 l2
        by_cases hodd : k = 0 ∧ 1048576 < T
        · obtain ⟨rfl, hbig⟩ := hodd
          have HK1 : Hid (pickV (lasts p1 (-1)) T = -1) := Lib.hid (pick_none (by show freshV p1.c0 T p1.most = false; rw [HF.out.1 T HT.out.1 HT.out.2, decide_eq_false (by omega)]) (HF.out.2 T))
          have HK3 : Hid (pickV (lasts p1 (-1)) 0 = 0) := Lib.hid (pick_first (by show freshV p1.c0 0 p1.most = true; rw [HF.out.1 0 (by omega) (by omega)]; rfl))
          rw [if_pos rfl] at P6
          refine (pick_run HK1.out ⟨HW.out.1.w0, HW.out.1.w1⟩ HIT.out P6).mono ?_
          rintro e w7 ⟨rfl, P7, F7⟩
          have B7 := F7.keep B6 ns0 ns1 ns2
          have L7 := L6.trans (F7.below hz6 (by omega) (by omega) (by omega))
          have c17 := B7.cellOf 17 hM17
          have d1 : decide (1048576 < T) = true := by simpa using hbig
          clear P6 F7 L6 B6 hbig
          go_wp2_with fail
          refine (pick_run (p := lasts (lasts p1 (-1)) (-1)) HK3.out ⟨HW.out.1.w0, HW.out.1.w1⟩ i64_zero P7).mono ?_
          rintro e w8 ⟨rfl, P8, F8⟩
          have B8 := F8.keep B7 ns0 ns1 ns2
          have L8 := L7.trans (F8.below L7.size (by omega) (by omega) (by omega))
          have c17' := B8.cellOf 17 hM17
          clear P7 F8 L7 B7 c17
          go_wp2_with fail
          refine (pat0 (lasts p1 0) gp g0 g1 T T true w8 P8 ⟨HW.out.1.w0, HW.out.1.w1⟩ (by rw [HL2.out]; exact ⟨HW.out.1.w0, HW.out.1.w1⟩) HIT.out HK2.out (by rw [HL2.out]; exact HA.out T HT.out.1 HT.out.2)).mono ?_
          rintro e w9 ⟨rfl, P9, F9⟩
          rw [HL2.out] at P9
          have L9 := L8.trans (F9.below L8.size (by omega) (by omega) (by omega))
          clear P8 F9 L8 B8 c17'
          go_wp2_with fail
          go_roundw
          case rel => exact ⟨1, by omega, by omega, by first | rfl | go_num, by rw [if_neg (by omega)]; exact P9, L9⟩
          case measure => simp [intOf]
        · have hk1 : pickV (lasts p1 (if k = 0 then -1 else 0)) T = 0 := by
            by_cases hb : T ≤ 1048576
            · exact pick_first (by show freshV p1.c0 T p1.most = true; rw [HF.out.1 T HT.out.1 HT.out.2, decide_eq_true hb])
            · rw [if_neg (by omega)]
              exact HK2.out
          have HK1 := Lib.hid hk1
          have hguard : (k = 0 ∧ decide (1048576 < T) = false) ∨ k ≠ 0 := by
            by_cases h0 : k = 0
            · left; exact ⟨h0, decide_eq_false (fun h => hodd ⟨h0, h⟩)⟩
            · right; exact h0
          clear hk1 hodd
          refine (pick_run HK1.out ⟨HW.out.1.w0, HW.out.1.w1⟩ HIT.out P6).mono ?_
          rintro e w7 ⟨rfl, P7, F7⟩
          replace P7 : PrIn w7 gp g0 g1 (lasts p1 0) := P7
          have B7 := F7.keep B6 ns0 ns1 ns2
          have L7 := L6.trans (F7.below hz6 (by omega) (by omega) (by omega))
          have c17 := B7.cellOf 17 hM17
          clear P6 F7 L6 B6
          rcases hguard with ⟨rfl, d1⟩ | h0
          · go_wp2_with fail
            refine (pat0 (lasts p1 0) gp g0 g1 T T true w7 P7 ⟨HW.out.1.w0, HW.out.1.w1⟩ (by rw [HL2.out]; exact ⟨HW.out.1.w0, HW.out.1.w1⟩) HIT.out HK2.out (by rw [HL2.out]; exact HA.out T HT.out.1 HT.out.2)).mono ?_
            rintro e w9 ⟨rfl, P9, F9⟩
            rw [HL2.out] at P9
            have L9 := L7.trans (F9.below L7.size (by omega) (by omega) (by omega))
            clear P7 F9 L7 B7 c17
            go_wp2_with fail
            go_roundw
            case rel => exact ⟨1, by omega, by omega, by first | rfl | go_num, by rw [if_neg (by omega)]; exact P9, L9⟩
            case measure => simp [intOf]
          · have b0 : ((k : Int) == 0) = false := beq_eq_false_iff_ne.2 (by omega)
            go_wp2_with fail
            refine (pat0 (lasts p1 0) gp g0 g1 T T true w7 P7 ⟨HW.out.1.w0, HW.out.1.w1⟩ (by rw [HL2.out]; exact ⟨HW.out.1.w0, HW.out.1.w1⟩) HIT.out HK2.out (by rw [HL2.out]; exact HA.out T HT.out.1 HT.out.2)).mono ?_
            rintro e w9 ⟨rfl, P9, F9⟩
            rw [HL2.out] at P9
            have L9 := L7.trans (F9.below L7.size (by omega) (by omega) (by omega))
            clear P7 F9 L7 B7 c17
            go_wp2_with fail
            go_roundw
            case rel => exact ⟨k + 1, by omega, by omega, by go_num, by rw [if_neg (by omega)]; exact P9, L9⟩
            case measure => simp [intOf]; omega
      · obtain rfl : k = 40 := by omega
        clear P
        go_wp2_with fail
        go_ret
        exact ⟨rfl, L⟩
    · obtain rfl : n = k := by omega
      clear P
      go_wp2_with fail
      go_ret
      exact ⟨rfl, L⟩

/-! ### The row's step -/
set_option maxRecDepth 100000 in
theorem pairHolds_lifted (os : Os) (started : os.Started) (H : Type) (enc : TypeId × Value → H) :
    ReturnsInHanded {} Try.checked os 6 .any (Rows.pairHoldsSpec.pre6 enc Try.prog Try.f6 Rows.pairHoldsRow.domain false) (Rows.pairHoldsSpec.post enc Try.prog Try.f6 false true false false) := by
  refine returnsInHanded_of_change (C := Try.checked) own started (by kernel_rfl) Try.func6
    (ChangeSpec.witness6 (enc := enc) (C := Try.checked) false ⟨#[], #[.slice none 0 0], []⟩ 8 (by kernel_rfl) (by kernel_rfl) (by kernel_rfl) (by kernel_rfl)) ?_
  intro W base args ds gs before hval0 hW _ _
  have hval : ∀ (j : Nat) t v, Try.f6.params[j]? = some t → args[j]? = some v → Value.okWide Try.prog W .any base t v := hval0
  have hW' := hW
  obtain ⟨p, q, hA0, hV, rfl, hfz, hnd⟩ := hW
  have hA : DataW.TrodAll enc Try.prog W 0 (fun _ => true) true Try.f6.params.toList args.toList ds p := hA0
  rw [Try.params6] at hA hval
  obtain ⟨v0, d0, rfl, rfl, h0⟩ := trodAll_one hA
  obtain ⟨A, n, c, xs, rfl, hn, hr, hst⟩ := open_steps (hval 0 51 v0 rfl rfl) h0 (fun x hx => hW'.lt x (by simp [hx]))
  exact law_post laidOut (by kernel_rfl) rfl (by kernel_rfl) Try.underlying4 rfl hW' (pairHolds_calls A n c xs W hn hr hst)

theorem pairHolds_holds : Rows.PairHoldsSaid :=
  OpenClaim.holds_of_wide 6 Try.f6 rfl rfl rfl rfl rfl rfl rfl ⟨rfl, rfl, rfl, rfl, rfl⟩ rfl rfl rfl rfl rfl (by kernel_rfl) Try.func6 (by kernel_rfl)
    (of_decide_eq_true (by kernel_rfl)) (by unfold Func.isWrapper; first | (rw [if_pos (by decide +kernel)]; kernel_rfl) | (rw [if_neg (by decide +kernel)]; exact ⟨rfl, rfl⟩))
    (fun os started H enc _ => pairHolds_lifted os started H enc)

#print axioms pairHolds_holds
end Go.Proofs.Ytbkflmeijjcnhaa
