/-
  The agenda: New, Next.
-/
import Derived.Test.YtkocedbpnpclcaaAgHB
namespace Go.Proofs.Ytkocedbpnpclcaa
set_option linter.unusedSimpArgs false
set_option linter.unusedVariables false
open Go.RowKit Go.WideShapes Go.ChangeShapes Go.Maps
attribute [local go_sem ↓] Go.wp_at_zero Go.wp_at_succ

theorem new_anyB (w : World) : Calls Try.prog 16 #[] w fun e w' => ∃ g S, e = .returned (.pointer (some ⟨g, 0, none⟩)) ∧ AAtB w' g S ⟨0, 0, []⟩ ∧ (∀ k ∈ S, w.heap.size ≤ k) ∧ Below w.heap.size w w' := by
  have hmk := @run_makeMap Try.prog
  go_enter Try.func16, Try.ntmps16
  go_wp2_with fail
  go_ret
  have hM := (World.ownsMap_made w Try.prog 3 rdP).alloc (.cells (acsB 0 0 (.slice none 0 0) w.heap.size) 66)
  have hB := Blk.new (w.alloc (.map #[] 0)) 66 (acsB 0 0 (.slice none 0 0) w.heap.size)
  have e1 : (w.alloc (.map #[] 0)).heap.size = w.heap.size + 1 := by simp
  rw [e1] at hB
  refine ⟨w.heap.size + 1, [w.heap.size + 1, w.heap.size], by simp, ⟨none, 0, w.heap.size, 0, .map [], [], ?_⟩, by (intro k hk; simp at hk; omega), ?_⟩
  · refine ⟨hB, .inl ⟨rfl, rfl, rfl⟩, hM, by simp, by simp, ?_, by simp, fun k a b h0 h1 => absurd h1 (by simp), by simp, by simp, by simp [ablks], by simp [ablks], by simp, Int.le_refl _⟩
    intro t ht
    simp [Maps.has] at ht
  · exact ((Below.refl w.heap.size w).alloc (Nat.le_refl _) _).alloc (by simp) _
section
variable {w w' : World} {g ga c gm n0 : Nat} {S : List Nat} {a : Ag} {D : DataW Unit} {xs ys : List El}
theorem lay_goneB (h : LayB w g S a (some ⟨ga, 0, none⟩) c gm n0 D xs) {x0 : El} {now' : Int} (hP : (x0 :: ys).Perm xs) (hN : HeapN ys ys.length) (hH : HLB w' ga c ys)
    (hB : Blk w' g 66 (acsB now' a.turn (.slice (some ⟨ga, 0, none⟩) ys.length c) gm)) (hM : w'.ownsMap Try.prog 3 rdP gm n0 (D.del (.int .i64 x0.it.turn))) :
    AAtB w' g (g :: gm :: blks ga ys) (a.gone x0.it now') ∧ Sub w S (g :: gm :: blks ga ys) := by
  have hx0 : x0 ∈ xs := hP.mem_iff.1 (List.mem_cons_self ..)
  have hys : ∀ y ∈ ys, y ∈ xs := fun y hy => hP.mem_iff.1 (List.mem_cons_of_mem _ hy)
  have hnd : (xs.map fun x => x.it.turn).Nodup := by
    have := (h.perm.map It.turn).nodup_iff.2 h.tnd
    rw [List.map_map] at this
    exact this
  have hne : ∀ y ∈ ys, y.it.turn ≠ x0.it.turn := by
    have h1 := (hP.map fun x => x.it.turn).nodup_iff.2 hnd
    rw [List.map_cons] at h1
    exact fun y hy e => (List.nodup_cons.1 h1).1 (e ▸ List.mem_map.2 ⟨y, hy, rfl⟩)
  have hsub : ∀ k ∈ blks ga ys, k ∈ ablks (some ⟨ga, 0, none⟩) xs := by
    intro k hk
    rcases List.mem_cons.1 hk with e | hk
    · rw [e]; exact List.mem_cons_self ..
    · obtain ⟨y, hy, rfl⟩ := List.mem_map.1 hk
      exact List.mem_cons_of_mem _ (List.mem_map.2 ⟨y, hys y hy, rfl⟩)
  obtain ⟨h1, h2, h3⟩ := acs_nodup h.nd
  refine ⟨⟨some ⟨ga, 0, none⟩, c, gm, n0, _, ys, hB, .inr ⟨ga, rfl, hH⟩, hM, h.n0, ?_, ?_, ?_, hN, ?_, ?_, rfl, ?_, ?_, h.turn0⟩, ?_⟩
  · intro y hy
    have hne' : (Lit.int .i64 y.it.turn) ≠ .int .i64 x0.it.turn := fun e => by injection e with _ e; exact hne y hy e
    rw [has_del_other hne', atKey_del_other hne']
    exact h.has y (hys y hy)
  · intro t ht
    by_cases e : t = x0.it.turn
    · rw [e, has_del_same] at ht; cases ht
    · rw [has_del_other (fun e' => by injection e' with _ e'; exact e e')] at ht
      obtain ⟨x, hx, hxt⟩ := h.only t ht
      rcases List.mem_cons.1 (hP.mem_iff.2 hx) with e' | hx'
      · exact absurd (by rw [← hxt, e'] : t = x0.it.turn) e
      · exact ⟨x, hx', hxt⟩
  · exact perm_gone (((hP.map El.it)).trans h.perm) h.tnd
  · intro y hy
    exact h.turns y (List.mem_filter.1 hy).1
  · exact List.Sublist.nodup ((List.filter_sublist ..).map It.turn) h.tnd
  · refine List.nodup_cons.2 ⟨fun hm => ?_, List.nodup_cons.2 ⟨fun hm => h3 (hsub _ hm), hH.nd⟩⟩
    rcases List.mem_cons.1 hm with e | hm
    · exact h1 e
    · exact h2 (hsub _ hm)
  · exact Nat.le_trans (List.length_filter_le ..) h.few
  · intro k hk
    rw [h.S]
    rcases List.mem_cons.1 hk with e | hk
    · exact .inl (e ▸ List.mem_cons_self ..)
    · rcases List.mem_cons.1 hk with e | hk
      · exact .inl (by rw [e]; simp)
      · exact .inl (List.mem_cons_of_mem _ (List.mem_cons_of_mem _ (hsub k hk)))
end
set_option maxRecDepth 100000 in
set_option maxHeartbeats 4000000 in
theorem next_anyB (w : World) (g : Nat) (S : List Nat) (a : Ag) (h : AAtB w g S a) (limit : Int) (ht : a.turn ≤ 1000000000) :
    Calls Try.prog 18 #[.pointer (some ⟨g, 0, none⟩), .int .i64 limit] w fun e w' => ((∀ y ∈ a.its, limit < y.at_) ∧ e = .returned (.tuple #[.int .i64 0, .int .i64 0, .int .u8 0, .bool false]) ∧ AAtB w' g S a ∧ Below w.heap.size w w') ∨ (∃ m ∈ a.its, (∀ y ∈ a.its, m.le y) ∧ m.at_ ≤ limit ∧ e = .returned (.tuple #[.int .i64 m.at_, .int .i64 m.turn, .int .u8 m.what, .bool true]) ∧ ∃ S', AAtB w' g S' (a.gone m m.at_) ∧ Sub w S S' ∧ Fr S w w') := by
  have HE := Lib.hid h
  obtain ⟨A, c, gm, n0, D, xs, hL⟩ := h
  obtain ⟨n, hn⟩ : ∃ n, xs.length = n := ⟨_, rfl⟩
  have hbox := hL.box
  rw [hn] at hbox
  have q0 := hbox.cellOf (v := .int .i64 a.now) 0 rfl
  have q2 := hbox.cellOf (v := .slice A n c) 2 rfl
  have hlen := hL.len
  by_cases hz : n = 0
  · have d0 : ((n : Int) == 0) = true := by rw [hz]; rfl
    have hnil : ∀ y ∈ a.its, limit < y.at_ := by
      have : a.its = [] := List.eq_nil_of_length_eq_zero (by omega)
      rw [this]; simp
    have HN := Lib.hid hnil
    clear hL hn hbox hlen hz hnil
    go_enter Try.func18, Try.ntmps18
    go_wp2_with fail
    ((try simp only [Exit.inBlock, Exit.then]); refine bodyPost_ret (v := .tuple #[.int .i64 0, .int .i64 0, .int .u8 0, .bool false]) (by simp [results, Try.results18, go_sem]) rfl ?_)
    exact .inl ⟨HN.out, rfl, HE.out, Below.refl _ _⟩
  have d0 : ((n : Int) == 0) = false := beq_eq_false_iff_ne.2 (by omega)
  have hn0 : 0 < n := by omega
  rcases hL.lst with ⟨e, _, _⟩ | ⟨ga, rfl, hH⟩
  · exact absurd (by rw [← hn, e]; rfl) hz
  obtain ⟨x0, hx0⟩ : ∃ x, xs[0]? = some x := ⟨_, List.getElem?_eq_getElem (by omega)⟩
  have hmin : ∀ y ∈ a.its, x0.it.le y := by
    intro y hy
    obtain ⟨x, hx, rfl⟩ := List.mem_map.1 (hL.perm.mem_iff.2 hy)
    exact heap_min_mem hL.heap hx0 x hx
  have hm0 : x0.it ∈ a.its := hL.perm.mem_iff.1 (List.mem_map.2 ⟨x0, List.mem_of_getElem? hx0, rfl⟩)
  have p0 := hH.ptr_at hx0
  have X0 := hH.itm 0 x0 hx0
  have a0 := X0.cellOf (v := .int .i64 x0.it.at_) 0 rfl
  by_cases hlim : limit < x0.it.at_
  · have HN : Hid (∀ y ∈ a.its, limit < y.at_) := Lib.hid fun y hy => by have := hmin y hy; unfold It.le at this; omega
    clear hL hn hbox hlen hz hmin hm0 X0 hH hx0
    go_enter Try.func18, Try.ntmps18
    go_wp2_with fail
    ((try simp only [Exit.inBlock, Exit.then]); refine bodyPost_ret (v := .tuple #[.int .i64 0, .int .i64 0, .int .u8 0, .bool false]) (by simp [results, Try.results18, go_sem]) rfl ?_)
    exact .inl ⟨HN.out, rfl, HE.out, Below.refl _ _⟩
  have d1 : decide (limit < x0.it.at_) = false := decide_eq_false hlim
  obtain ⟨m, hm⟩ : ∃ m, n = m + 1 := ⟨n - 1, by omega⟩
  obtain ⟨hggm, hgA, hgmA⟩ := acs_nodup hL.nd
  have hfew := hL.few
  have hhp := hL.heap
  rw [hn, hm] at hhp
  rw [hm] at hbox
  have HP := Lib.hid (hpop_anyB w g ga c m xs a.now a.turn gm hH (by omega) (by omega) hbox hgA hhp x0 hx0)
  have HL := Lib.hid (And.intro hL (And.intro hn (And.intro hm (And.intro hmin (And.intro hm0 (And.intro (show x0.it.at_ ≤ limit by omega) (And.intro hx0 ht)))))))
  have hta := fun v w => taB v w
  clear hL hn hbox hlen hz hmin hm0 X0 hH hx0 hm hlim hhp hfew hggm hgA hgmA ht
  go_enter Try.func18, Try.ntmps18
  go_wp2_with fail
  refine HP.out.mono ?_
  rintro e w3 ⟨rfl, ys, hH3, hP3, hl3, hN3, hB3, hX3, hF3⟩
  obtain ⟨hL, hn, hm, hmin, hm0, hat, hx0, ht⟩ := HL.out
  obtain ⟨hggm, hgA, hgmA⟩ := acs_nodup hL.nd
  have hgmS : gm ∉ g :: blks ga xs := by
    intro hm
    rcases List.mem_cons.1 hm with e | hm
    · exact hggm e.symm
    · exact hgmA hm
  have hM3 := ownsMap_fr hL.map hF3 hgmS
  have htr := hL.turns x0.it hm0
  have hTr : -9223372036854775808 ≤ x0.it.turn ∧ x0.it.turn ≤ 9223372036854775807 := ⟨by omega, by omega⟩
  obtain ⟨w4, hrun, hM4, htn⟩ := World.ownsMap.drop (w := w3.drew) hM3.drew lawB Try.underlying62 (keyB hTr) 0
  have f4 : Fr [gm] w3 w4 := (show Fr [gm] w3 w3.drew from ⟨rfl, rfl, rfl, Nat.le_refl _, fun _ _ _ => rfl⟩).trans (Fr.gr (g := gm) htn.grown (by simp))
  have hxA : x0.blk ∈ ablks (some ⟨ga, 0, none⟩) xs := List.mem_append_right _ (blk_mem hx0)
  have hB4 := f4.blk hB3 (by simp; exact hggm)
  have hX4 := f4.blk hX3 (by simp; exact fun e => hgmA (e ▸ hxA))
  have hxg : x0.blk ≠ g := fun e => hgA (e ▸ hxA)
  have hH4 := hH3.fr f4 (by
    intro k hk
    simp at hk
    rw [hk]
    intro hm
    rcases List.mem_cons.1 hm with e | hm
    · exact hgmA (e ▸ List.mem_cons_self ..)
    · have h1 := (hP3.map El.blk).mem_iff.1 (List.mem_cons_of_mem _ hm)
      exact hgmA (List.mem_append_right _ h1))
  have hcl : Blk w3 g 66 (acsB a.now a.turn (.slice (some ⟨ga, 0, none⟩) m c) gm) ∧ Blk w3 x0.blk 69 (icells .u8 x0.it (-1)) := ⟨hB3, hX3⟩
  have HB := Lib.hid (And.intro hB4 hX4)
  have HR := Lib.hid (And.intro hH4 (And.intro hP3 (And.intro hl3 (And.intro hN3 (And.intro hM4 (And.intro hF3 (And.intro f4 hxg)))))))
  clear hL hn hm hmin hm0 hat hx0 ht hggm hgA hgmA hgmS hM3 htr hTr hM4 htn f4 hxA hB4 hX4 hxg hH4 hB3 hX3 hH3 hP3 hl3 hN3 hF3 HP q0 q2 p0 a0 d0 d1 hn0
  go_wp2_with fail
  refine wp_region_tree [8] (.free 0 (.free 1 (.free 2 (.take 3 (.free 4 (.free 5 (.free 6 (.take 7 (.one 8 .nil))))))))) (fun w' => Blk w' g 66 (acsB a.now a.turn (.slice (some ⟨ga, 0, none⟩) m c) gm) ∧ Blk w' x0.blk 69 (icells .u8 x0.it (-1))) (by kernel_rfl) (by kernel_rfl) (fun _ _ _ _ _ h => h) hcl ?_
  repeat (with_reducible (refine tr_free (v := ?_) rfl ?_ ?_ ?_); rotate_left; (first | exact wanted_none rfl | exact wanted_on rfl rfl rfl); (intro w'; go_simp; with_reducible rfl); simp only [Act.put, List.setIfInBounds_toArray, List.set_cons_zero, List.set_cons_succ])
  (with_reducible (refine tr_take (v := ?_) rfl ?_ ?_ ?_); rotate_left; (first | exact wanted_none rfl | exact wanted_on rfl rfl rfl); (rintro w' ⟨u1, _⟩; (have u2 := u1.cellOf (v := .map (some gm)) 3 rfl); go_simp; with_reducible rfl); simp only [Act.put, List.setIfInBounds_toArray, List.set_cons_zero, List.set_cons_succ])
  repeat (with_reducible (refine tr_free (v := ?_) rfl ?_ ?_ ?_); rotate_left; (first | exact wanted_none rfl | exact wanted_on rfl rfl rfl); (intro w'; go_simp; with_reducible rfl); simp only [Act.put, List.setIfInBounds_toArray, List.set_cons_zero, List.set_cons_succ])
  (with_reducible (refine tr_take (v := ?_) rfl ?_ ?_ ?_); rotate_left; (first | exact wanted_none rfl | exact wanted_on rfl rfl rfl); (rintro w' ⟨_, u1⟩; (have u2 := u1.cellOf (v := .int .i64 x0.it.turn) 1 rfl); go_simp; with_reducible rfl); simp only [Act.put, List.setIfInBounds_toArray, List.set_cons_zero, List.set_cons_succ])
  (with_reducible (refine tr_run (v := ?_) (w' := ?_) rfl ?_ ?_ ?_ ?_); rotate_left 2; (first | exact wanted_none rfl | exact wanted_on rfl rfl rfl); (go_simp; refine ⟨?_, ?_⟩ <;> with_reducible rfl); (exact HB.out); simp only [Act.put, List.setIfInBounds_toArray, List.set_cons_zero, List.set_cons_succ])
  refine tr_nil ?_
  clear hrun hcl
  have X4 := HB.out.2
  have a0 := X4.cellOf (v := .int .i64 x0.it.at_) 0 rfl
  have q0 := HB.out.1.cellOf (v := .int .i64 a.now) 0 rfl
  have fz := HB.out.1.frozen
  have lz := HB.out.1.lt
  have gg : w4.grownBy (w4.setCell ⟨g, 0, none⟩ (.int .i64 x0.it.at_)) (some g) := gr_set (grownBy_refl w4 _) 0 _
  have B5 : Blk (w4.setCell ⟨g, 0, none⟩ (.int .i64 x0.it.at_)) g 66 (acsB x0.it.at_ a.turn (.slice (some ⟨ga, 0, none⟩) m c) gm) := HB.out.1.set_ 0 _
  have X5 := X4.grown gg (by simpa using HR.out.2.2.2.2.2.2.2)
  have f5 : Fr [g] w4 (w4.setCell ⟨g, 0, none⟩ (.int .i64 x0.it.at_)) := Fr.gr (g := g) gg (by simp)
  have H5 := Lib.hid (And.intro B5 (And.intro X5 f5))
  clear X4 gg B5 X5 f5
  go_wp2_with fail
  clear a0 q0 fz lz HB
  generalize w4.setCell ⟨g, 0, none⟩ (.int .i64 x0.it.at_) = w5 at *
  have X5 := H5.out.2.1
  have a0 := X5.cellOf (v := .int .i64 x0.it.at_) 0 rfl
  have a1 := X5.cellOf (v := .int .i64 x0.it.turn) 1 rfl
  have a2 := X5.cellOf (v := .int .u8 x0.it.what) 2 rfl
  have lz := X5.lt
  clear X5
  refine wp_region_class (fun w' => Below w5.heap.size w5 w') (by kernel_rfl) (by kernel_rfl) (Below.refl _ _).drew ?_
  repeat (first | (with_reducible (refine wpQuiet_skip ?_ ?_); (first | exact wanted_off rfl rfl rfl rfl | exact wanted_off2 rfl rfl rfl); simp only [Act.put, List.setIfInBounds_toArray, List.set_cons_zero, List.set_cons_succ]) | (with_reducible (refine wpQuiet_val (v := ?_) ?_ ?_ ?_); rotate_left; (first | exact wanted_none rfl | exact wanted_on rfl rfl rfl); (intro w' hw'; obtain ⟨hc, hf⟩ := bcell hw'; go_simp; with_reducible rfl); simp only [Act.put, List.setIfInBounds_toArray, List.set_cons_zero, List.set_cons_succ]))
  refine wpQuiet_nil ?_
  intro w6 hw6
  go_wp2_with fail
  ((try simp only [Exit.inBlock, Exit.then]); refine bodyPost_ret (v := .tuple #[.int .i64 x0.it.at_, .int .i64 x0.it.turn, .int .u8 x0.it.what, .bool true]) (by simp [results, Try.results18, go_sem]) rfl ?_)
  obtain ⟨hL, hn, hm, hmin, hm0, hat, hx0, ht⟩ := HL.out
  obtain ⟨hH4, hP3, hl3, hN3, hM4, hF3, f4, hxg⟩ := HR.out
  obtain ⟨B5, _, f5⟩ := H5.out
  obtain ⟨hggm, hgA, hgmA⟩ := acs_nodup hL.nd
  have hgy : g ∉ blks ga ys := by
    intro hm
    rcases List.mem_cons.1 hm with e | hm
    · exact hgA (e ▸ List.mem_cons_self ..)
    · have h1 := (hP3.map El.blk).mem_iff.1 (List.mem_cons_of_mem _ hm)
      exact hgA (List.mem_append_right _ h1)
  have hH5 := hH4.fr f5 (by intro k hk; simp at hk; rw [hk]; exact hgy)
  have hM5 := ownsMap_fr hM4 f5 (by simp; exact Ne.symm hggm)
  obtain ⟨hA, hS⟩ := lay_goneB (w' := w5) hL (now' := x0.it.at_) hP3 (by rw [hl3]; exact hN3) hH5 (by rw [hl3]; exact B5) hM5
  refine .inr ⟨x0.it, hm0, hmin, hat, rfl, _, hA.kept hw6, hS, ?_⟩
  rw [hL.S]
  refine (((hF3.more ?_).trans (f4.more ?_)).trans (f5.more ?_)).trans (Fr.be hw6)
  · intro k hk
    rcases List.mem_cons.1 hk with e | hk
    · rw [e]; simp
    · exact List.mem_cons_of_mem _ (List.mem_cons_of_mem _ hk)
  · intro k hk; simp at hk; rw [hk]; simp
  · intro k hk; simp at hk; rw [hk]; simp
end Go.Proofs.Ytkocedbpnpclcaa
