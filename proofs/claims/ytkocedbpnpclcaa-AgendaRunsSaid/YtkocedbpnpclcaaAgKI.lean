/-
  The agenda: Drop, Wait, Now, Len.
-/
import Derived.Test.YtkocedbpnpclcaaAgJI
namespace Go.Proofs.Ytkocedbpnpclcaa
set_option linter.unusedSimpArgs false
set_option linter.unusedVariables false
open Go.RowKit Go.WideShapes Go.ChangeShapes Go.Maps
attribute [local go_sem ↓] Go.wp_at_zero Go.wp_at_succ

theorem tr_wcall {P : Program} {lo : List Oper} {S : World → Prop} {Q : Exit → Act → World → Prop} {i : Nat} {l : Tr} {a : Act} {w : World} {o : Oper} (f : FuncId) (args : Array Value) (ho : lo[i]? = some o) (hw : Region.wanted o (yielded lo.toArray a.tmps) = true)
    (h : (execOp a.eval o).run P w = .ok (.enter f args) w) (hc : Calls P f args w fun e w' => ∃ v, e = .returned v ∧ wpTr P lo.toArray S Q l (a.put o.dst v) w') : wpTr P lo.toArray S Q (.wr i l) a w := by
  show wpOp P lo.toArray Q i _ a w
  unfold wpOp
  rw [show lo.toArray[i]? = some o from by simpa using ho]
  simp only [hw, if_true]
  refine .inl ?_
  unfold Oper.wp
  rw [h]
  show Calls P f args w _
  refine hc.mono fun e w' hh => ?_
  obtain ⟨v, rfl, hk⟩ := hh
  exact hk
theorem now_anyI (w : World) (g : Nat) (S : List Nat) (a : Ag) (h : AAtI w g S a) : Calls Try.prog 14 #[.pointer (some ⟨g, 0, none⟩)] w fun e w' => e = .returned (.int .i64 a.now) ∧ w = w' := by
  obtain ⟨A, c, gm, n0, D, xs, hL⟩ := h
  have q0 := hL.box.cellOf (v := .int .i64 a.now) 0 rfl
  clear hL
  go_enter Try.func14, Try.ntmps14
  go_wp2_with fail
  go_ret
  exact ⟨rfl, rfl⟩
theorem alen_anyI (w : World) (g : Nat) (S : List Nat) (a : Ag) (h : AAtI w g S a) : Calls Try.prog 12 #[.pointer (some ⟨g, 0, none⟩)] w fun e w' => e = .returned (.int .i64 (a.its.length : Nat)) ∧ w = w' := by
  obtain ⟨A, c, gm, n0, D, xs, hL⟩ := h
  obtain ⟨n, hn⟩ : ∃ n, xs.length = n := ⟨_, rfl⟩
  have hlen := hL.len
  have hb := hL.box
  rw [hn] at hb hlen
  have q0 := hb.cellOf (v := .slice A n c) 2 rfl
  rw [← hlen]
  clear hL hb hlen hn
  go_enter Try.func12, Try.ntmps12
  go_wp2_with fail
  go_ret
  exact ⟨rfl, rfl⟩
theorem now_nilI (w : World) : Calls Try.prog 14 #[.pointer none] w fun e w' => e = .returned (.int .i64 0) ∧ w = w' := by
  go_enter Try.func14, Try.ntmps14
  go_wp2_with fail
  go_ret
  exact ⟨rfl, rfl⟩
theorem alen_nilI (w : World) : Calls Try.prog 12 #[.pointer none] w fun e w' => e = .returned (.int .i64 0) ∧ w = w' := by
  go_enter Try.func12, Try.ntmps12
  go_wp2_with fail
  go_ret
  exact ⟨rfl, rfl⟩
theorem wait_nilI (at_ : Int) (w : World) : Calls Try.prog 13 #[.pointer none, .int .i64 at_] w fun e w' => e = .returned (.int .i64 0) ∧ w = w' := by
  go_enter Try.func13, Try.ntmps13
  go_wp2_with fail
  go_ret
  exact ⟨rfl, rfl⟩
theorem drop_nilI (t : Int) (w : World) : Calls Try.prog 15 #[.pointer none, .int .i64 t] w fun e w' => e = .returned (.bool false) ∧ w = w' := by
  go_enter Try.func15, Try.ntmps15
  go_wp2_with fail
  go_ret
  exact ⟨rfl, rfl⟩
theorem put_nilI (at_ what : Int) (w : World) : Calls Try.prog 10 #[.pointer none, .int .i64 at_, .int .i64 what] w fun e w' => e = .returned (.tuple #[.int .i64 0, .int .i64 1]) ∧ w = w' := by
  go_enter Try.func10, Try.ntmps10
  go_wp2_with fail
  ((try simp only [Exit.inBlock, Exit.then]); refine bodyPost_ret (v := .tuple #[.int .i64 0, .int .i64 1]) (by simp [results, Try.results10, go_sem]) rfl ?_)
  exact ⟨rfl, rfl⟩
theorem next_nilI (limit : Int) (w : World) : Calls Try.prog 11 #[.pointer none, .int .i64 limit] w fun e w' => e = .returned (.tuple #[.int .i64 0, .int .i64 0, .int .i64 0, .bool false]) ∧ w = w' := by
  go_enter Try.func11, Try.ntmps11
  go_wp2_with fail
  ((try simp only [Exit.inBlock, Exit.then]); refine bodyPost_ret (v := .tuple #[.int .i64 0, .int .i64 0, .int .i64 0, .bool false]) (by simp [results, Try.results11, go_sem]) rfl ?_)
  exact ⟨rfl, rfl⟩
theorem lay_nowI {w w' : World} {g c gm n0 : Nat} {S : List Nat} {a : Ag} {A : Option Addr} {D : DataW Unit} {xs : List El} (h : LayI w g S a A c gm n0 D xs) {v : Int} (hB : Blk w' g 53 (acsI v a.turn (.slice A xs.length c) gm)) (hf : Fr [g] w w') : LayI w' g S (a.at_ v) A c gm n0 D xs := by
  obtain ⟨h1, h2, h3⟩ := acs_nodup h.nd
  exact ⟨hB, h.lst.fr hf (by intro k hk; simp at hk; rw [hk]; exact h2), ownsMap_fr h.map hf (by simp; exact Ne.symm h1), h.n0, h.has, h.only, h.perm, h.heap, h.turns, h.tnd, h.S, h.nd, h.few, h.turn0⟩
/-- What waiting comes to. -/
def waitV (now at_ : Int) : Int := max now (min at_ 1099511627776)
set_option maxRecDepth 100000 in
set_option maxHeartbeats 4000000 in
theorem wait_anyI (w : World) (g : Nat) (S : List Nat) (a : Ag) (h : AAtI w g S a) (at_ : Int) :
    Calls Try.prog 13 #[.pointer (some ⟨g, 0, none⟩), .int .i64 at_] w fun e w' => ∃ t, (a.its = [] ∧ t = at_ ∨ ∃ m ∈ a.its, (∀ y ∈ a.its, m.le y) ∧ t = min at_ m.at_) ∧ e = .returned (.int .i64 (waitV a.now t)) ∧ AAtI w' g S (a.at_ (waitV a.now t)) ∧ Fr S w w' := by
  obtain ⟨A, c, gm, n0, D, xs, hL⟩ := h
  obtain ⟨n, hn⟩ : ∃ n, xs.length = n := ⟨_, rfl⟩
  have hbox := hL.box
  rw [hn] at hbox
  have q0 := hbox.cellOf (v := .int .i64 a.now) 0 rfl
  have q2 := hbox.cellOf (v := .slice A n c) 2 rfl
  have fz := hbox.frozen
  have lz := hbox.lt
  have hlen := hL.len
  have hend : ∀ v : Int, AAtI (w.setCell ⟨g, 0, none⟩ (.int .i64 v)) g S (a.at_ v) ∧ Fr S w (w.setCell ⟨g, 0, none⟩ (.int .i64 v)) := fun v => by
    have gg : w.grownBy (w.setCell ⟨g, 0, none⟩ (.int .i64 v)) (some g) := gr_set (grownBy_refl w _) 0 _
    have ff : Fr [g] w (w.setCell ⟨g, 0, none⟩ (.int .i64 v)) := Fr.gr (g := g) gg (by simp)
    refine ⟨⟨A, c, gm, n0, D, xs, lay_nowI hL (hL.box.set_ 0 _) ff⟩, ff.more (by intro k hk; simp at hk; rw [hk, hL.S]; simp)⟩
  have HE : Hid (∀ v v' : Int, v' = v → AAtI (w.setCell ⟨g, 0, none⟩ (.int .i64 v)) g S (a.at_ v') ∧ Fr S w (w.setCell ⟨g, 0, none⟩ (.int .i64 v))) := Lib.hid fun v v' e => by rw [e]; exact hend v
  by_cases hz : n = 0
  · have d0 : decide (0 < n) = false := decide_eq_false (by omega)
    have HN : Hid (a.its = []) := Lib.hid (List.eq_nil_of_length_eq_zero (by omega))
    clear hL hn hbox hlen hz hend
    go_enter Try.func13, Try.ntmps13
    go_wp2_with fail
    all_goals
      go_ret
      exact ⟨at_, .inl ⟨HN.out, rfl⟩, ret_int (by unfold waitV; omega), HE.out _ _ (by unfold waitV; omega)⟩
  have hn0 : 0 < n := by omega
  rcases hL.lst with ⟨e, _, _⟩ | ⟨ga, rfl, hH⟩
  · exact absurd (by rw [← hn, e]; rfl) hz
  obtain ⟨x0, hx0⟩ : ∃ x, xs[0]? = some x := ⟨_, List.getElem?_eq_getElem (by omega)⟩
  have hmin : ∀ y ∈ a.its, x0.it.le y := by
    intro y hy
    obtain ⟨x, hx, rfl⟩ := List.mem_map.1 (hL.perm.mem_iff.2 hy)
    exact heap_min_mem hL.heap hx0 x hx
  have hm0 : x0.it ∈ a.its := hL.perm.mem_iff.1 (List.mem_map.2 ⟨x0, List.mem_of_getElem? hx0, rfl⟩)
  have p0 := hH.ptr_at hx0
  have X0 := hH.itm 0 x0 hx0
  have a0 := X0.cellOf (v := .int .i64 x0.it.at_) 0 rfl
  have HN := Lib.hid (And.intro hmin hm0)
  clear hL hn hbox hlen hz hend hmin hm0 X0 hH hx0
  go_enter Try.func13, Try.ntmps13
  go_wp2_with fail
  all_goals
    go_ret
    exact ⟨min at_ x0.it.at_, .inr ⟨x0.it, HN.out.2, HN.out.1, rfl⟩, ret_int (by unfold waitV; omega), HE.out _ _ (by unfold waitV; omega)⟩
set_option maxRecDepth 100000 in
set_option maxHeartbeats 4000000 in
theorem drop_anyI (w : World) (g : Nat) (S : List Nat) (a : Ag) (h : AAtI w g S a) (t : Int) (hT : -9223372036854775808 ≤ t ∧ t ≤ 9223372036854775807) :
    Calls Try.prog 15 #[.pointer (some ⟨g, 0, none⟩), .int .i64 t] w fun e w' => ((∀ y ∈ a.its, y.turn ≠ t) ∧ e = .returned (.bool false) ∧ AAtI w' g S a ∧ Below w.heap.size w w') ∨ (∃ m ∈ a.its, m.turn = t ∧ e = .returned (.bool true) ∧ ∃ S', AAtI w' g S' (a.gone m a.now) ∧ Sub w S S' ∧ Fr S w w') := by
  have HE := Lib.hid h
  obtain ⟨A, c, gm, n0, D, xs, hL⟩ := h
  obtain ⟨n, hn⟩ : ∃ n, xs.length = n := ⟨_, rfl⟩
  have hbox := hL.box
  rw [hn] at hbox
  have q3 := hbox.cellOf (v := .map (some gm)) 3 rfl
  obtain ⟨v, ps, hrun, hv⟩ := hL.map.look_ok lawI Try.underlying49 (zeroPI w) (zd := .lit (.int .i64 (-1))) (zp := []) rfl (keyI hT)
  cases hhas : Maps.has D (.int .i64 t) with
  | false =>
    rw [hhas] at hrun
    have HN : Hid (∀ y ∈ a.its, y.turn ≠ t) := Lib.hid fun y hy e => by
      obtain ⟨x, hx, rfl⟩ := List.mem_map.1 (hL.perm.mem_iff.2 hy)
      have := (hL.has x hx).1
      rw [e, hhas] at this
      cases this
    clear hL hn hbox hv hhas hT
    go_enter Try.func15, Try.ntmps15
    go_wp2_with fail
    go_ret
    exact .inl ⟨HN.out, rfl, HE.out, Below.refl _ _⟩
  | true =>
    obtain ⟨x, hx, hxt⟩ := hL.only t hhas
    rw [hhas] at hrun
    rw [← hxt, (hL.has x hx).2] at hv
    obtain rfl := rdP_inv hv
    obtain ⟨i, hix⟩ := List.getElem?_of_mem hx
    have hi := at_lt hix
    obtain ⟨m, hm⟩ : ∃ m, n = m + 1 := ⟨n - 1, by omega⟩
    rcases hL.lst with ⟨e, _, _⟩ | ⟨ga, rfl, hH⟩
    · rw [e] at hi; simp at hi
    obtain ⟨hggm, hgA, hgmA⟩ := acs_nodup hL.nd
    have hfew := hL.few
    have hlen := hL.len
    have hhp := hL.heap
    rw [hn, hm] at hhp
    have fd : Fr [] w w.drew := ⟨rfl, rfl, rfl, Nat.le_refl _, fun _ _ _ => rfl⟩
    have hHd := hH.fr fd (by simp)
    have hboxd : Blk w.drew g 53 (acsI a.now a.turn (.slice (some ⟨ga, 0, none⟩) (m + 1) c) gm) := by rw [← hm]; exact hbox
    have HP := Lib.hid (hrem_anyI w.drew g ga c m xs a.now a.turn gm hHd (by omega) (by omega) hboxd hgA hhp i x hix)
    have x3 := (hH.itm i x hix).cellOf (v := .int .i64 (i : Int)) 3 rfl
    have HL := Lib.hid (And.intro hL (And.intro hn (And.intro hm (And.intro hxt (And.intro hix (And.intro hT (And.intro hfew fd)))))))
    clear hL hn hbox hv hhas hT hxt hx hi hix hm hH hggm hgA hgmA hfew hlen hhp hHd hboxd fd
    go_enter Try.func15, Try.ntmps15
    go_wp2_with fail
    clear hrun q3
    refine wp_region_tree [8] (.free 0 (.free 1 (.free 2 (.free 3 (.free 4 (.free 5 (.free 6 (.take 7 (.wr 8 .nil))))))))) (fun w' => w'.cell? ⟨x.blk, 3, none⟩ = some (.int .i64 (i : Int))) (by kernel_rfl) (by kernel_rfl) (fun _ _ _ _ _ h => h) x3 ?_
    repeat (with_reducible (refine tr_free (v := ?_) rfl ?_ ?_ ?_); rotate_left; (first | exact wanted_none rfl | exact wanted_on rfl rfl rfl); (intro w'; go_simp; with_reducible rfl); simp only [Act.put, List.setIfInBounds_toArray, List.set_cons_zero, List.set_cons_succ])
    (with_reducible (refine tr_take (v := ?_) rfl ?_ ?_ ?_); rotate_left; (first | exact wanted_none rfl | exact wanted_on rfl rfl rfl); (rintro w' u1;  go_simp; with_reducible rfl); simp only [Act.put, List.setIfInBounds_toArray, List.set_cons_zero, List.set_cons_succ])
    (with_reducible (refine tr_wcall 21 ?_ rfl ?_ ?_ ?_); rotate_left; (first | exact wanted_none rfl | exact wanted_on rfl rfl rfl); (go_simp; with_reducible rfl))
    refine HP.out.mono ?_
    rintro e w3 ⟨rfl, ys, hH3, hP3, hl3, hN3, hB3, hX3, hF3⟩
    refine ⟨_, rfl, ?_⟩
    simp only [Act.put, List.setIfInBounds_toArray, List.set_cons_zero, List.set_cons_succ]
    refine tr_nil ?_
    obtain ⟨hL, hn, hm, hxt, hix, hT, hfew, fd⟩ := HL.out
    obtain ⟨hggm, hgA, hgmA⟩ := acs_nodup hL.nd
    have hF := (fd.more (S' := g :: blks ga xs) (by simp)).trans hF3
    have hgmS : gm ∉ g :: blks ga xs := by
      intro hm
      rcases List.mem_cons.1 hm with e | hm
      · exact hggm e.symm
      · exact hgmA hm
    have hM3 := ownsMap_fr hL.map hF hgmS
    obtain ⟨w4, hrun, hM4, htn⟩ := World.ownsMap.drop (w := w3) hM3 lawI Try.underlying49 (keyI hT) 0
    have f4 : Fr [gm] w3 w4 := Fr.gr (g := gm) htn.grown (by simp)
    have hB4 := f4.blk hB3 (by simp; exact hggm)
    have hH4 := hH3.fr f4 (by
      intro k hk
      simp at hk
      rw [hk]
      intro hm
      rcases List.mem_cons.1 hm with e | hm
      · exact hgmA (e ▸ List.mem_cons_self ..)
      · have h1 := (hP3.map El.blk).mem_iff.1 (List.mem_cons_of_mem _ hm)
        exact hgmA (List.mem_append_right _ h1))
    have q3 := hB3.cellOf (v := .map (some gm)) 3 rfl
    rw [← hxt] at hM4
    obtain ⟨hA, hS⟩ := lay_goneI (w' := w4) hL (now' := a.now) hP3 (by rw [hl3]; exact hN3) hH4 (by rw [hl3]; exact hB4) hM4
    have hm0 : x.it ∈ a.its := hL.perm.mem_iff.1 (List.mem_map.2 ⟨x, List.mem_of_getElem? hix, rfl⟩)
    have hFF : Fr S w w4 := by
      rw [hL.S]
      refine (hF.more ?_).trans (f4.more ?_)
      · intro k hk
        rcases List.mem_cons.1 hk with e | hk
        · rw [e]; simp
        · exact List.mem_cons_of_mem _ (List.mem_cons_of_mem _ hk)
      · intro k hk; simp at hk; rw [hk]; simp
    have HR := Lib.hid (And.intro hm0 (And.intro hxt (And.intro hA (And.intro hS hFF))))
    clear hL hn hm hxt hix hT hfew fd hggm hgA hgmA hF hgmS hM3 hM4 htn f4 hB4 hH4 hA hS hm0 hFF hB3 hH3 hP3 hl3 hN3 hX3 hF3 HP x3
    go_wp2_with fail
    go_ret
    exact .inr ⟨x.it, HR.out.1, HR.out.2.1, rfl, _, HR.out.2.2.1, HR.out.2.2.2.1, HR.out.2.2.2.2⟩
end Go.Proofs.Ytkocedbpnpclcaa
