/-
  The agenda's list: Len, Swap, and the methods through the interface.
-/
import Derived.Test.YtkocedbpnpclcaaAgAI
namespace Go.Proofs.Ytkocedbpnpclcaa
set_option linter.unusedSimpArgs false
set_option linter.unusedVariables false
open Go.RowKit Go.WideShapes Go.ChangeShapes
attribute [local go_sem ↓] Go.wp_at_zero Go.wp_at_succ

theorem meth_raw_swapI (n : Nat) (p : Addr) (w : World) : (method (n + 1) 58 (.pointer (some p)) "Swap").run Try.prog w = (do let v ← loadVar 51 p; pure ((46 : FuncId), v) : Sem (FuncId × Value)).run Try.prog w := by kernel_rfl
theorem meth_swapI (n : Nat) {p : Addr} {v : Value} {w : World} (h : w.cell? p = some v) : (method (n + 1) 58 (.pointer (some p)) "Swap").run Try.prog w = .ok (46, v) w := by
  rw [meth_raw_swapI, Sem.run_bind, load_listI h]
  rfl
theorem meth_raw_lenI (n : Nat) (p : Addr) (w : World) : (method (n + 1) 58 (.pointer (some p)) "Len").run Try.prog w = (do let v ← loadVar 51 p; pure ((44 : FuncId), v) : Sem (FuncId × Value)).run Try.prog w := by kernel_rfl
theorem meth_lenI (n : Nat) {p : Addr} {v : Value} {w : World} (h : w.cell? p = some v) : (method (n + 1) 58 (.pointer (some p)) "Len").run Try.prog w = .ok (44, v) w := by
  rw [meth_raw_lenI, Sem.run_bind, load_listI h]
  rfl
theorem meth_pushI (n : Nat) (p : Addr) (w : World) : (method (n + 1) 58 (.pointer (some p)) "Push").run Try.prog w = .ok (48, .pointer (some p)) w := by kernel_rfl
theorem meth_popI (n : Nat) (p : Addr) (w : World) : (method (n + 1) 58 (.pointer (some p)) "Pop").run Try.prog w = .ok (47, .pointer (some p)) w := by kernel_rfl
theorem len_anyI (A : Option Addr) (n c : Nat) (w : World) : Calls Try.prog 44 #[.slice A n c] w fun e w' => e = .returned (.int .i64 (n : Int)) ∧ w = w' := by
  go_enter Try.func44, Try.ntmps44
  go_wp2_with fail
  go_ret
  exact ⟨rfl, rfl⟩
set_option maxRecDepth 100000 in
set_option maxHeartbeats 4000000 in
theorem swap_anyI (w : World) (ga c n : Nat) (xs : List El) (h : HLI w ga c xs) (hn : xs.length = n) (i k : Nat) (a b : El) (ha : xs[i]? = some a) (hb : xs[k]? = some b) :
    Calls Try.prog 46 #[.slice (some ⟨ga, 0, none⟩) n c, .int .i64 (i : Int), .int .i64 (k : Int)] w fun e w' => e = .returned (.tuple #[]) ∧ HLI w' ga c (sw xs i k) ∧ Fr (blks ga xs) w w' := by
  have hi : i < n := hn ▸ at_lt ha
  have hk : k < n := hn ▸ at_lt hb
  have hH := h
  obtain ⟨cur, B, hcs, hp⟩ := h.arr
  have HH := Lib.hid (And.intro hH (And.intro ha (And.intro hb (And.intro hcs hp))))
  have hle := h.le
  have hic : i < cur.size := by omega
  have hkc : k < cur.size := by omega
  have pa := hp i a ha
  have pb := hp k b hb
  have hA := h.itm i a ha
  have hB := h.itm k b hb
  have HAB := Lib.hid (And.intro hA hB)
  have HNA := Lib.hid (And.intro (h.ne ha) (h.ne hb))
  have HNE : Hid (i ≠ k → a.blk ≠ b.blk) := Lib.hid fun e => h.ne2 ha hb e
  clear h hH ha hb hcs hp hn hle hA hB
  go_enter Try.func46, Try.ntmps46
  go_wp2_with fail
  have HB0 := Lib.hid B
  refine wp_region_tree [13, 15] (.free 0 (.free 1 (.free 2 (.free 3 (.free 4 (.free 5 (.free 6 (.take 7 (.free 8 (.free 9 (.free 10 (.take 11 (.free 12 (.wr 13 (.free 14 (.wr 15 .nil)))))))))))))))) (fun w' => Blk w' ga 54 cur) (by kernel_rfl) (by kernel_rfl) (fun _ _ _ _ _ h => h) B ?_
  have X : Blk w.drew ga 54 cur := B
  have F : Fr [ga, a.blk, b.blk] w w.drew := ⟨rfl, rfl, rfl, Nat.le_refl _, fun _ _ _ => rfl⟩
  have XA : Blk w.drew a.blk 56 (icells .i64 a.it i) ∧ Blk w.drew b.blk 56 (icells .i64 b.it k) := HAB.out
  have HF := Lib.hid F
  have HXA := Lib.hid XA
  clear B F XA
  generalize w.drew = w2 at *
  have q0 := X.cellOf i pa
  have q1 := X.cellOf k pb
  have fz := X.frozen
  have lz := X.lt
  unfold pv at q0 q1
  repeat (with_reducible (refine tr_free (v := ?_) rfl ?_ ?_ ?_); rotate_left; (first | exact wanted_none rfl | exact wanted_on rfl rfl rfl); (intro w'; go_simp; with_reducible rfl); simp only [Act.put, List.setIfInBounds_toArray, List.set_cons_zero, List.set_cons_succ])
  (with_reducible (refine tr_take (v := ?_) rfl ?_ ?_ ?_); rotate_left; (first | exact wanted_none rfl | exact wanted_on rfl rfl rfl); (rintro w' u1; (have u2 := u1.cellOf k pb; unfold pv at u2); go_simp; with_reducible rfl); simp only [Act.put, List.setIfInBounds_toArray, List.set_cons_zero, List.set_cons_succ])
  repeat (with_reducible (refine tr_free (v := ?_) rfl ?_ ?_ ?_); rotate_left; (first | exact wanted_none rfl | exact wanted_on rfl rfl rfl); (intro w'; go_simp; with_reducible rfl); simp only [Act.put, List.setIfInBounds_toArray, List.set_cons_zero, List.set_cons_succ])
  (with_reducible (refine tr_take (v := ?_) rfl ?_ ?_ ?_); rotate_left; (first | exact wanted_none rfl | exact wanted_on rfl rfl rfl); (rintro w' u1; (have u2 := u1.cellOf i pa; unfold pv at u2); go_simp; with_reducible rfl); simp only [Act.put, List.setIfInBounds_toArray, List.set_cons_zero, List.set_cons_succ])
  repeat (with_reducible (refine tr_free (v := ?_) rfl ?_ ?_ ?_); rotate_left; (first | exact wanted_none rfl | exact wanted_on rfl rfl rfl); (intro w'; go_simp; with_reducible rfl); simp only [Act.put, List.setIfInBounds_toArray, List.set_cons_zero, List.set_cons_succ])
  (with_reducible (refine tr_wr (w' := ?_) rfl ?_ ?_ ?_); rotate_left; (first | exact wanted_none rfl | exact wanted_on rfl rfl rfl); (go_simp; with_reducible rfl); simp only [Act.put, List.setIfInBounds_toArray, List.set_cons_zero, List.set_cons_succ])
  have X1 := X.set_ i (pv b.blk)
  have F1 := HF.out.trans (Fr.gr (g := ga) (S := [ga, a.blk, b.blk]) (gr_set (grownBy_refl w2 _) i (pv b.blk)) (by simp))
  have Y1 : Blk (w2.setCell ⟨ga, i, none⟩ (pv b.blk)) a.blk 56 (icells .i64 a.it i) ∧ Blk (w2.setCell ⟨ga, i, none⟩ (pv b.blk)) b.blk 56 (icells .i64 b.it k) :=
    ⟨HXA.out.1.grown (gr_set (grownBy_refl w2 _) i (pv b.blk)) (by simp; exact HNA.out.1), HXA.out.2.grown (gr_set (grownBy_refl w2 _) i (pv b.blk)) (by simp; exact HNA.out.2)⟩
  have HF1 := Lib.hid (And.intro F1 Y1)
  clear q0 q1 fz lz X HF HXA F1 Y1
  unfold pv at X1 HF1
  generalize w2.setCell ⟨ga, i, none⟩ (.pointer (some ⟨b.blk, 0, none⟩)) = w3 at *
  have hu : ∃ u, (cur.setIfInBounds i (.pointer (some ⟨b.blk, 0, none⟩)))[k]? = some u := ⟨_, Array.getElem?_eq_getElem (by simp; omega)⟩
  obtain ⟨u, hu⟩ := hu
  have q1 := X1.cellOf k hu
  have fz := X1.frozen
  have lz := X1.lt
  repeat (with_reducible (refine tr_free (v := ?_) rfl ?_ ?_ ?_); rotate_left; (first | exact wanted_none rfl | exact wanted_on rfl rfl rfl); (intro w'; go_simp; with_reducible rfl); simp only [Act.put, List.setIfInBounds_toArray, List.set_cons_zero, List.set_cons_succ])
  (with_reducible (refine tr_wr (w' := ?_) rfl ?_ ?_ ?_); rotate_left; (first | exact wanted_none rfl | exact wanted_on rfl rfl rfl); (go_simp; with_reducible rfl); simp only [Act.put, List.setIfInBounds_toArray, List.set_cons_zero, List.set_cons_succ])
  refine tr_nil ?_
  have X2 := X1.set_ k (.pointer (some ⟨a.blk, 0, none⟩))
  have F2 := HF1.out.1.trans (Fr.gr (g := ga) (S := [ga, a.blk, b.blk]) (gr_set (grownBy_refl w3 _) k (.pointer (some ⟨a.blk, 0, none⟩))) (by simp))
  have Y2 : Blk (w3.setCell ⟨ga, k, none⟩ (.pointer (some ⟨a.blk, 0, none⟩))) a.blk 56 (icells .i64 a.it i) ∧ Blk (w3.setCell ⟨ga, k, none⟩ (.pointer (some ⟨a.blk, 0, none⟩))) b.blk 56 (icells .i64 b.it k) :=
    ⟨HF1.out.2.1.grown (gr_set (grownBy_refl w3 _) k _) (by simp; exact HNA.out.1), HF1.out.2.2.grown (gr_set (grownBy_refl w3 _) k _) (by simp; exact HNA.out.2)⟩
  have HF2 := Lib.hid (And.intro F2 (And.intro Y2 X2))
  clear q1 fz lz X1 HF1 F2 Y2 hu u
  generalize w3.setCell ⟨ga, k, none⟩ (.pointer (some ⟨a.blk, 0, none⟩)) = w4 at *
  generalize hcur : (cur.setIfInBounds i (.pointer (some ⟨b.blk, 0, none⟩))).setIfInBounds k (.pointer (some ⟨a.blk, 0, none⟩)) = cur2 at *
  have hbi : ∃ x, (x = b ∧ i ≠ k ∨ x = a ∧ i = k) ∧ cur2[i]? = some (.pointer (some ⟨x.blk, 0, none⟩)) ∧ cur2[k]? = some (.pointer (some ⟨a.blk, 0, none⟩)) := by
    rw [← hcur]
    have e2 : ((cur.setIfInBounds i (Value.pointer (some ⟨b.blk, 0, none⟩))).setIfInBounds k (Value.pointer (some ⟨a.blk, 0, none⟩)))[k]? = some (.pointer (some ⟨a.blk, 0, none⟩)) := by
      rw [Array.getElem?_setIfInBounds, if_pos rfl, if_pos (by simp; omega)]
    by_cases hik : i = k
    · exact ⟨a, .inr ⟨rfl, hik⟩, by rw [hik]; rw [hik] at e2; exact e2, e2⟩
    · refine ⟨b, .inl ⟨rfl, hik⟩, ?_, e2⟩
      rw [Array.getElem?_setIfInBounds, if_neg (Ne.symm hik), Array.getElem?_setIfInBounds, if_pos rfl, if_pos (by omega)]
  obtain ⟨x, hx, e1, e2⟩ := hbi
  have HX := Lib.hid hx
  have HCUR := Lib.hid hcur
  clear hx hcur pa pb
  go_wp2_with fail
  refine wp_region_tree [12, 15] (.free 0 (.free 1 (.free 2 (.take 3 (.free 4 (.free 5 (.free 6 (.take 7 (.free 8 (.free 9 (.free 10 (.free 11 (.wr 12 (.free 13 (.free 14 (.wr 15 .nil)))))))))))))))) (fun w' => Blk w' ga 54 cur2) (by kernel_rfl) (by kernel_rfl) (fun _ _ _ _ _ h => h) HF2.out.2.2 ?_
  have Z : Hid (Fr [ga, a.blk, b.blk] w w4.drew ∧ (Blk w4.drew a.blk 56 (icells .i64 a.it i) ∧ Blk w4.drew b.blk 56 (icells .i64 b.it k)) ∧ Blk w4.drew ga 54 cur2) :=
    Lib.hid ⟨⟨HF2.out.1.os, HF2.out.1.tape, HF2.out.1.output, HF2.out.1.size, HF2.out.1.block⟩, HF2.out.2.1, HF2.out.2.2⟩
  clear HF2
  generalize w4.drew = w5 at *
  have hX : ∃ p, Blk w5 x.blk 56 (icells .i64 x.it p) := by
    rcases HX.out with ⟨e, _⟩ | ⟨e, _⟩
    · rw [e]; exact ⟨_, Z.out.2.1.2⟩
    · rw [e]; exact ⟨_, Z.out.2.1.1⟩
  obtain ⟨p, hX⟩ := hX
  have q3 := hX.cellOf (v := .int .i64 p) 3 rfl
  have fz := hX.frozen
  have lz := hX.lt
  repeat (with_reducible (refine tr_free (v := ?_) rfl ?_ ?_ ?_); rotate_left; (first | exact wanted_none rfl | exact wanted_on rfl rfl rfl); (intro w'; go_simp; with_reducible rfl); simp only [Act.put, List.setIfInBounds_toArray, List.set_cons_zero, List.set_cons_succ])
  (with_reducible (refine tr_take (v := ?_) rfl ?_ ?_ ?_); rotate_left; (first | exact wanted_none rfl | exact wanted_on rfl rfl rfl); (rintro w' u1; (have u2 := u1.cellOf i e1); go_simp; with_reducible rfl); simp only [Act.put, List.setIfInBounds_toArray, List.set_cons_zero, List.set_cons_succ])
  repeat (with_reducible (refine tr_free (v := ?_) rfl ?_ ?_ ?_); rotate_left; (first | exact wanted_none rfl | exact wanted_on rfl rfl rfl); (intro w'; go_simp; with_reducible rfl); simp only [Act.put, List.setIfInBounds_toArray, List.set_cons_zero, List.set_cons_succ])
  (with_reducible (refine tr_take (v := ?_) rfl ?_ ?_ ?_); rotate_left; (first | exact wanted_none rfl | exact wanted_on rfl rfl rfl); (rintro w' u1; (have u2 := u1.cellOf k e2); go_simp; with_reducible rfl); simp only [Act.put, List.setIfInBounds_toArray, List.set_cons_zero, List.set_cons_succ])
  repeat (with_reducible (refine tr_free (v := ?_) rfl ?_ ?_ ?_); rotate_left; (first | exact wanted_none rfl | exact wanted_on rfl rfl rfl); (intro w'; go_simp; with_reducible rfl); simp only [Act.put, List.setIfInBounds_toArray, List.set_cons_zero, List.set_cons_succ])
  (with_reducible (refine tr_wr (w' := ?_) rfl ?_ ?_ ?_); rotate_left; (first | exact wanted_none rfl | exact wanted_on rfl rfl rfl); (go_simp; with_reducible rfl); simp only [Act.put, List.setIfInBounds_toArray, List.set_cons_zero, List.set_cons_succ])
  have gx : w5.grownBy (w5.setCell ⟨x.blk, 3, none⟩ (.int .i64 (i : Int))) (some x.blk) := gr_set (grownBy_refl w5 _) 3 _
  have V1 : Blk (w5.setCell ⟨x.blk, 3, none⟩ (.int .i64 (i : Int))) x.blk 56 (icells .i64 x.it i) := hX.set_ 3 _
  have V2 : ∃ p', Blk (w5.setCell ⟨x.blk, 3, none⟩ (.int .i64 (i : Int))) a.blk 56 (icells .i64 a.it p') := by
    rcases HX.out with ⟨e, hik⟩ | ⟨e, _⟩
    · exact ⟨_, Z.out.2.1.1.grown gx (by simp; rw [e]; exact HNE.out hik)⟩
    · exact ⟨i, by rw [← e]; exact V1⟩
  have V3 : Fr [ga, a.blk, b.blk] w (w5.setCell ⟨x.blk, 3, none⟩ (.int .i64 (i : Int))) := Z.out.1.trans (Fr.gr (g := x.blk) gx (by rcases HX.out with ⟨e, _⟩ | ⟨e, _⟩ <;> rw [e] <;> simp))
  have V4 : Blk (w5.setCell ⟨x.blk, 3, none⟩ (.int .i64 (i : Int))) ga 54 cur2 := Z.out.2.2.grown gx (by
    rcases HX.out with ⟨e, _⟩ | ⟨e, _⟩
    · rw [e]; simp; exact Ne.symm HNA.out.2
    · rw [e]; simp; exact Ne.symm HNA.out.1)
  have HV := Lib.hid (And.intro V1 (And.intro V3 V4))
  clear gx V1 V3 V4 q3 fz lz hX Z
  generalize w5.setCell ⟨x.blk, 3, none⟩ (.int .i64 (i : Int)) = w6 at *
  obtain ⟨p', V2⟩ := V2
  have q3 := V2.cellOf (v := .int .i64 p') 3 rfl
  have fz := V2.frozen
  have lz := V2.lt
  repeat (with_reducible (refine tr_free (v := ?_) rfl ?_ ?_ ?_); rotate_left; (first | exact wanted_none rfl | exact wanted_on rfl rfl rfl); (intro w'; go_simp; with_reducible rfl); simp only [Act.put, List.setIfInBounds_toArray, List.set_cons_zero, List.set_cons_succ])
  (with_reducible (refine tr_wr (w' := ?_) rfl ?_ ?_ ?_); rotate_left; (first | exact wanted_none rfl | exact wanted_on rfl rfl rfl); (go_simp; with_reducible rfl); simp only [Act.put, List.setIfInBounds_toArray, List.set_cons_zero, List.set_cons_succ])
  refine tr_nil ?_
  clear q3 fz lz
  go_wp2_with fail
  go_end0
  have gx : w6.grownBy (w6.setCell ⟨a.blk, 3, none⟩ (.int .i64 (k : Int))) (some a.blk) := gr_set (grownBy_refl w6 _) 3 _
  obtain ⟨hH, ha, hb, hcs, hp⟩ := HH.out
  have F7 := HV.out.2.1.trans (Fr.gr (g := a.blk) (S := [ga, a.blk, b.blk]) gx (by simp))
  refine ⟨rfl, hl_sw hH ha hb HB0.out hcs hp F7 ?_ ?_ ?_, F7.more (sub_sw ha hb)⟩
  · unfold pv
    rw [HCUR.out]
    exact HV.out.2.2.grown gx (by simp; exact Ne.symm HNA.out.1)
  · exact V2.set_ 3 _
  · intro hik
    rcases HX.out with ⟨e, _⟩ | ⟨_, e⟩
    · rw [← e]
      exact HV.out.1.grown gx (by simp; rw [e]; exact Ne.symm (HNE.out hik))
    · exact absurd e hik
end Go.Proofs.Ytkocedbpnpclcaa
