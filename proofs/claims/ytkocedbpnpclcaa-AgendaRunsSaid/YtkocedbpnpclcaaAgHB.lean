/-
  The agenda in memory; Put.
-/
import Derived.Test.YtkocedbpnpclcaaAgGB
import Derived.Test.YtkocedbpnpclcaaAgP
namespace Go.Proofs.Ytkocedbpnpclcaa
set_option linter.unusedSimpArgs false
set_option linter.unusedVariables false
open Go.RowKit Go.WideShapes Go.ChangeShapes Go.Maps
attribute [local go_sem ↓] Go.wp_at_zero Go.wp_at_succ

theorem lawB : Keyed Try.prog 3 := int_keyed Try.underlying3
theorem zeroPB (w : World) : (zeroValue 67).run Try.prog w = .ok (.pointer none) w := by kernel_rfl
theorem keyB {t : Int} (h : -9223372036854775808 ≤ t ∧ t ≤ 9223372036854775807) : keyOf Try.prog 3 (.int .i64 t) = some (.int .i64 t) := keyOf_int_mk Try.underlying3 (wf_i64 h)
structure LayB (w : World) (g : Nat) (S : List Nat) (a : Ag) (A : Option Addr) (c gm n0 : Nat) (D : DataW Unit) (xs : List El) : Prop where
  box : Blk w g 66 (acsB a.now a.turn (.slice A xs.length c) gm)
  lst : ALB w A c xs
  map : w.ownsMap Try.prog 3 rdP gm n0 D
  n0 : n0 ≤ a.turn.toNat
  has : ∀ x ∈ xs, Maps.has D (.int .i64 x.it.turn) = true ∧ D.atKey (.int .i64 x.it.turn) (.lit (.int .i64 (-1))) = .lit (.int .i64 (x.blk : Int))
  only : ∀ t : Int, Maps.has D (.int .i64 t) = true → ∃ x ∈ xs, x.it.turn = t
  perm : (xs.map El.it).Perm a.its
  heap : HeapN xs xs.length
  turns : ∀ x ∈ a.its, 1 ≤ x.turn ∧ x.turn ≤ a.turn
  tnd : (a.its.map It.turn).Nodup
  S : S = g :: gm :: ablks A xs
  nd : (g :: gm :: ablks A xs).Nodup
  few : a.its.length ≤ 8192
  turn0 : 0 ≤ a.turn
def AAtB (w : World) (g : Nat) (S : List Nat) (a : Ag) : Prop := ∃ (A : Option Addr) (c gm n0 : Nat) (D : DataW Unit) (xs : List El), LayB w g S a A c gm n0 D xs
section
variable {w w' : World} {g c gm n0 : Nat} {S : List Nat} {a : Ag} {A : Option Addr} {D : DataW Unit} {xs : List El}
theorem LayB.fr {T : List Nat} (h : LayB w g S a A c gm n0 D xs) (hf : Fr T w w') (hT : ∀ k ∈ T, k ∉ S) : LayB w' g S a A c gm n0 D xs := by
  have hn : ∀ k, k ∈ S → k ∉ T := fun k h1 h2 => hT k h2 h1
  rw [h.S] at hn hT
  exact { h with
    box := hf.blk h.box (hn _ (by simp))
    lst := h.lst.fr hf (fun k hk hm => hT k hk (List.mem_cons_of_mem _ (List.mem_cons_of_mem _ hm)))
    map := ownsMap_fr h.map hf (hn _ (by simp)) }
theorem AAtB.fr {T : List Nat} (h : AAtB w g S a) (hf : Fr T w w') (hT : ∀ k ∈ T, k ∉ S) : AAtB w' g S a := by
  obtain ⟨A, c, gm, n0, D, xs, h⟩ := h
  exact ⟨A, c, gm, n0, D, xs, h.fr hf hT⟩
theorem AAtB.kept (h : AAtB w g S a) (hb : Below w.heap.size w w') : AAtB w' g S a := h.fr (T := []) (Fr.be hb) (by simp)
theorem LayB.len (h : LayB w g S a A c gm n0 D xs) : xs.length = a.its.length := by rw [← h.perm.length_eq, List.length_map]
theorem LayB.lt (h : LayB w g S a A c gm n0 D xs) : ∀ k ∈ S, k < w.heap.size := by
  intro k hk
  rw [h.S] at hk
  rcases List.mem_cons.1 hk with rfl | hk
  · exact h.box.lt
  · rcases List.mem_cons.1 hk with rfl | hk
    · exact h.map.lt
    · rcases h.lst with ⟨rfl, rfl, _⟩ | ⟨ga, rfl, h1⟩
      · simp [ablks] at hk
      · exact h1.mem_lt k hk
theorem AAtB.lt (h : AAtB w g S a) : ∀ k ∈ S, k < w.heap.size := by
  obtain ⟨A, c, gm, n0, D, xs, h⟩ := h
  exact h.lt
theorem AAtB.mem (h : AAtB w g S a) : g ∈ S := by
  obtain ⟨A, c, gm, n0, D, xs, h⟩ := h
  rw [h.S]; exact List.mem_cons_self ..
end
set_option maxRecDepth 100000 in
set_option maxHeartbeats 4000000 in
theorem put_anyB (w : World) (g : Nat) (S : List Nat) (a : Ag) (h : AAtB w g S a) (at_ what : Int) (ht : a.turn ≤ 1000000000) :
    Calls Try.prog 17 #[.pointer (some ⟨g, 0, none⟩), .int .i64 at_, .int .u8 what] w fun e w' => (a.putE at_ ≠ 0 ∧ e = .returned (.tuple #[.int .i64 0, .int .i64 (a.putE at_)]) ∧ AAtB w' g S a ∧ Below w.heap.size w w') ∨ (a.putE at_ = 0 ∧ e = .returned (.tuple #[.int .i64 (a.turn + 1), .int .i64 0]) ∧ ∃ S', AAtB w' g S' (a.put at_ what) ∧ Sub w S S' ∧ Fr S w w') := by
  have h0 := h
  obtain ⟨A, c, gm, n0, D, xs, hL⟩ := h
  obtain ⟨n, hn⟩ : ∃ n, xs.length = n := ⟨_, rfl⟩
  have hbox := hL.box
  rw [hn] at hbox
  have q0 := hbox.cellOf (v := .int .i64 a.now) 0 rfl
  have q1 := hbox.cellOf (v := .int .i64 a.turn) 1 rfl
  have q2 := hbox.cellOf (v := .slice A n c) 2 rfl
  have fz := hbox.frozen
  have lz := hbox.lt
  have hlen := hL.len
  have HE : Hid (AAtB w g S a) := Lib.hid h0
  by_cases h1 : 1099511627776 < at_
  · have e : a.putE at_ = 1 := if_pos h1
    rw [e]
    clear e h0 hL hn hbox hlen
    go_enter Try.func17, Try.ntmps17
    go_wp2_with fail
    ((try simp only [Exit.inBlock, Exit.then]); refine bodyPost_ret (v := .tuple #[.int .i64 0, .int .i64 1]) (by simp [results, Try.results17, go_sem]) rfl ?_)
    exact .inl ⟨by decide, rfl, HE.out, Below.refl _ _⟩
  have d1 : decide (1099511627776 < at_) = false := decide_eq_false h1
  by_cases h2 : at_ < a.now
  · have e : a.putE at_ = 31 := by unfold Ag.putE; rw [if_neg h1, if_pos h2]
    rw [e]
    clear e h0 hL hn hbox hlen h1
    go_enter Try.func17, Try.ntmps17
    go_wp2_with fail
    ((try simp only [Exit.inBlock, Exit.then]); refine bodyPost_ret (v := .tuple #[.int .i64 0, .int .i64 31]) (by simp [results, Try.results17, go_sem]) rfl ?_)
    exact .inl ⟨by decide, rfl, HE.out, Below.refl _ _⟩
  have d2 : decide (at_ < a.now) = false := decide_eq_false h2
  by_cases h3 : 8192 ≤ n
  · have e : a.putE at_ = 30 := by unfold Ag.putE; rw [if_neg h1, if_neg h2, if_pos (by omega)]
    rw [e]
    have d3 : (8192 : Int) ≤ (n : Int) := by omega
    clear e h0 hL hn hbox hlen h1 h2 h3
    go_enter Try.func17, Try.ntmps17
    go_wp2_with fail
    ((try simp only [Exit.inBlock, Exit.then]); refine bodyPost_ret (v := .tuple #[.int .i64 0, .int .i64 30]) (by simp [results, Try.results17, go_sem]) rfl ?_)
    exact .inl ⟨by decide, rfl, HE.out, Below.refl _ _⟩
  have d3 : decide ((8192 : Int) ≤ (n : Int)) = false := decide_eq_false (by omega)
  have e : a.putE at_ = 0 := by unfold Ag.putE; rw [if_neg h1, if_neg h2, if_neg (by omega)]
  rw [e]
  obtain ⟨T, hT⟩ : ∃ T, T = a.turn + 1 := ⟨_, rfl⟩
  have ht0 := hL.turn0
  have f1 : IntKind.i64.wrap (a.turn + 1) = T := by rw [← hT]; exact IntWalk.i64_in _ ⟨by omega, by omega⟩
  have HL := Lib.hid (And.intro hL (And.intro hn (And.intro hT (And.intro hlen (And.intro ht (show n < 8192 by omega))))))
  have gg : w.grownBy (w.setCell ⟨g, 1, none⟩ (.int .i64 T)) (some g) := gr_set (grownBy_refl w _) 1 _
  have B1 : Blk (w.setCell ⟨g, 1, none⟩ (.int .i64 T)) g 66 (acsB a.now T (.slice A n c) gm) := hbox.set_ 1 _
  have s1 : (w.setCell ⟨g, 1, none⟩ (.int .i64 T)).heap.size = w.heap.size := by simp
  have b2 := (Below.refl w.heap.size (w.setCell ⟨g, 1, none⟩ (.int .i64 T))).alloc (by rw [s1]; exact Nat.le_refl _) (.cells (icells .u8 ⟨at_, T, what⟩ 0) 69)
  have X2 := Blk.new (w.setCell ⟨g, 1, none⟩ (.int .i64 T)) 69 (icells .u8 ⟨at_, T, what⟩ 0)
  rw [s1] at X2
  have B2 := B1.alloc (.cells (icells .u8 ⟨at_, T, what⟩ 0) 69)
  have F2 : Fr [g] w ((w.setCell ⟨g, 1, none⟩ (.int .i64 T)).alloc (.cells (icells .u8 ⟨at_, T, what⟩ 0) 69)) := (Fr.gr (g := g) gg (by simp)).trans (Fr.be ((Below.refl _ _).alloc (Nat.le_refl _) _))
  have HW := Lib.hid (And.intro X2 (And.intro B2 F2))
  clear gg B1 s1 b2 X2 B2 F2 e h0 hL hn hbox hlen h1 h2 h3 ht0 ht hT
  go_enter Try.func17, Try.ntmps17
  unfold icells at HW
  go_wp2_with fail
  obtain ⟨hL, hn, hT, hlen, ht, hn8⟩ := HL.out
  obtain ⟨X2, B2, F2⟩ := HW.out
  have hgS := hL.nd
  obtain ⟨hggm, hgA, hgmA⟩ := acs_nodup hgS
  have hlt := hL.lt
  rw [hL.S] at hlt
  have hAL : ALB ((w.setCell ⟨g, 1, none⟩ (.int .i64 T)).alloc (.cells #[.int .i64 at_, .int .i64 T, .int .u8 what, .int .i64 0] 69)) A c xs := hL.lst.fr F2 (by intro k hk; simp at hk; rw [hk]; exact hgA)
  have hx1 : w.heap.size ∉ ablks A xs := fun hm => Nat.lt_irrefl _ (hlt _ (List.mem_cons_of_mem _ (List.mem_cons_of_mem _ hm)))
  have hx2 : w.heap.size ≠ g := fun e => Nat.lt_irrefl _ (e ▸ hlt g (List.mem_cons_self ..))
  have hnd2 : (ablks A xs).Nodup := (List.nodup_cons.1 (List.nodup_cons.1 hgS).2).2
  have HP := Lib.hid (hpush_anyB _ g A c n xs a.now T gm ⟨w.heap.size, ⟨at_, T, what⟩⟩ 0 hAL hn (by omega) B2 X2 hgA hx1 hx2 hnd2 (by rw [← hn]; exact hL.heap))
  have hM2 := ownsMap_fr hL.map F2 (by simp; exact Ne.symm hggm)
  have HM := Lib.hid (And.intro hM2 (And.intro F2 hlt))
  clear hL hn hT hlen ht hn8 X2 B2 F2 hgS hggm hgA hgmA hlt hAL hx1 hx2 hnd2 hM2 HW q0 q1 q2 fz lz d1 d2 d3
  refine HP.out.mono ?_
  clear HP
  generalize (w.setCell ⟨g, 1, none⟩ (.int .i64 T)).alloc (.cells #[.int .i64 at_, .int .i64 T, .int .u8 what, .int .i64 0] 69) = w2 at *
  rintro e w3 ⟨rfl, ga, c', xs', hH3, hP3, hN3, hB3, hga3, hF3⟩
  obtain ⟨hM2, F2, hlt⟩ := HM.out
  obtain ⟨hL, hn, hT, hlen, ht, hn8⟩ := HL.out
  obtain ⟨hggm, hgA, hgmA⟩ := acs_nodup hL.nd
  have hgmx : gm ≠ w.heap.size := fun e => Nat.lt_irrefl _ (e ▸ hlt gm (by simp))
  have hgmS : gm ∉ g :: w.heap.size :: ablks A xs := by
    intro hm
    rcases List.mem_cons.1 hm with e | hm
    · exact hggm e.symm
    · rcases List.mem_cons.1 hm with e | hm
      · exact hgmx e
      · exact hgmA hm
  have hM3 := ownsMap_fr hM2 hF3 hgmS
  have ht1 := hL.turn0
  have hTr : -9223372036854775808 ≤ T ∧ T ≤ 9223372036854775807 := ⟨by omega, by omega⟩
  obtain ⟨w4, hrun, hM4, htn⟩ := World.ownsMap.store (w := w3.drew) hM3.drew lawB Try.underlying62 (by have := hL.n0; unfold maxLen; omega) (keyB hTr) (show rdP (.pointer (some ⟨w.heap.size, 0, none⟩)) = some (.lit (.int .i64 (w.heap.size : Int)), []) from rfl)
  have f4 : Fr [gm] w3 w4 := (show Fr [gm] w3 w3.drew from ⟨rfl, rfl, rfl, Nat.le_refl _, fun _ _ _ => rfl⟩).trans (Fr.gr (g := gm) htn.grown (by simp))
  have hgag : ga ≠ gm := by
    rcases hga3 with h | h
    · exact fun e => hgmA (e ▸ h)
    · intro e
      have h1 := hM2.lt
      rw [e] at h; omega
  have hgaS : ga ≠ g := fun e => hH3 |>.nd |> fun hn => by
    rcases hga3 with h | h
    · exact hgA (e ▸ h)
    · have h1 := hlt g (by simp)
      have h2 := F2.size
      rw [e] at h; omega
  have hB4 := f4.blk hB3 (by simp; exact hggm)
  have HB := Lib.hid hB4
  have HR := Lib.hid (And.intro hH3 (And.intro hP3 (And.intro hN3 (And.intro hB3 (And.intro hga3 (And.intro hF3 (And.intro hM4 (And.intro f4 (And.intro hgag (And.intro hgaS hTr))))))))))
  have hcl : Blk w3 g 66 (acsB a.now T (.slice (some ⟨ga, 0, none⟩) (n + 1) c') gm) := hB3
  have hT1 := hT
  clear hM2 F2 hlt hL hn hT hlen ht hn8 hggm hgA hgmA hgmx hgmS hM3 ht1 hTr hM4 htn f4 hgag hgaS hB4 hH3 hP3 hN3 hB3 hga3 hF3 hT1 f1
  go_wp2_with fail
  refine wp_region_tree [9] (.free 0 (.free 1 (.free 2 (.take 3 (.free 4 (.free 5 (.free 6 (.take 7 (.free 8 (.wr 9 .nil)))))))))) (fun w' => Blk w' g 66 (acsB a.now T (.slice (some ⟨ga, 0, none⟩) (n + 1) c') gm)) (by kernel_rfl) (by kernel_rfl) (fun _ _ _ _ _ h => h) hcl ?_
  repeat (with_reducible (refine tr_free (v := ?_) rfl ?_ ?_ ?_); rotate_left; (first | exact wanted_none rfl | exact wanted_on rfl rfl rfl); (intro w'; go_simp; with_reducible rfl); simp only [Act.put, List.setIfInBounds_toArray, List.set_cons_zero, List.set_cons_succ])
  (with_reducible (refine tr_take (v := ?_) rfl ?_ ?_ ?_); rotate_left; (first | exact wanted_none rfl | exact wanted_on rfl rfl rfl); (rintro w' u1; (have u2 := u1.cellOf (v := .map (some gm)) 3 rfl); go_simp; with_reducible rfl); simp only [Act.put, List.setIfInBounds_toArray, List.set_cons_zero, List.set_cons_succ])
  repeat (with_reducible (refine tr_free (v := ?_) rfl ?_ ?_ ?_); rotate_left; (first | exact wanted_none rfl | exact wanted_on rfl rfl rfl); (intro w'; go_simp; with_reducible rfl); simp only [Act.put, List.setIfInBounds_toArray, List.set_cons_zero, List.set_cons_succ])
  (with_reducible (refine tr_take (v := ?_) rfl ?_ ?_ ?_); rotate_left; (first | exact wanted_none rfl | exact wanted_on rfl rfl rfl); (rintro w' u1; (have u2 := u1.cellOf (v := .int .i64 T) 1 rfl); go_simp; with_reducible rfl); simp only [Act.put, List.setIfInBounds_toArray, List.set_cons_zero, List.set_cons_succ])
  repeat (with_reducible (refine tr_free (v := ?_) rfl ?_ ?_ ?_); rotate_left; (first | exact wanted_none rfl | exact wanted_on rfl rfl rfl); (intro w'; go_simp; with_reducible rfl); simp only [Act.put, List.setIfInBounds_toArray, List.set_cons_zero, List.set_cons_succ])
  (with_reducible (refine tr_wr (w' := ?_) rfl ?_ ?_ ?_); rotate_left; (first | exact wanted_none rfl | exact wanted_on rfl rfl rfl); (go_simp; with_reducible rfl); simp only [Act.put, List.setIfInBounds_toArray, List.set_cons_zero, List.set_cons_succ])
  refine tr_nil ?_
  clear hrun hcl
  have q1 := HB.out.cellOf (v := .int .i64 T) 1 rfl
  go_wp2_with fail
  ((try simp only [Exit.inBlock, Exit.then]); refine bodyPost_ret (v := .tuple #[.int .i64 T, .int .i64 0]) (by simp [results, Try.results17, go_sem]) rfl ?_)
  obtain ⟨hH3, hP3, hN3, hB3, hga3, hF3, hM4, f4, hgag, hgaS, hTr⟩ := HR.out
  obtain ⟨hM2, F2, hlt⟩ := HM.out
  obtain ⟨hL, hn, hT, hlen, ht, hn8⟩ := HL.out
  obtain ⟨hggm, hgA, hgmA⟩ := acs_nodup hL.nd
  have hnS : ∀ k, k ∈ blks ga xs' → k ≠ gm ∧ k ≠ g := by
    intro k hk
    rcases List.mem_cons.1 hk with rfl | hk
    · exact ⟨hgag, hgaS⟩
    · have h1 := ((hP3.map El.blk).mem_iff).1 hk
      rw [List.map_append] at h1
      rcases List.mem_append.1 h1 with h1 | h1
      · have h2 : k ∈ ablks A xs := List.mem_append_right _ h1
        exact ⟨fun e => hgmA (e ▸ h2), fun e => hgA (e ▸ h2)⟩
      · simp at h1
        subst h1
        exact ⟨fun e => Nat.lt_irrefl _ (e.symm ▸ hlt gm (by simp) : w.heap.size < w.heap.size), fun e => Nat.lt_irrefl _ (e.symm ▸ hlt g (by simp) : w.heap.size < w.heap.size)⟩
  have hH4 := hH3.fr f4 (by intro k hk; simp at hk; rw [hk]; exact fun hm => (hnS gm hm).1 rfl)
  have hln : xs'.length = n + 1 := by rw [hP3.length_eq]; simp [hn]
  have hto : ∀ x ∈ xs, x.it.turn ≤ a.turn := fun x hx => (hL.turns x.it (hL.perm.mem_iff.1 (List.mem_map.2 ⟨x, hx, rfl⟩))).2
  refine .inr ⟨by trivial, by rw [hT], g :: gm :: blks ga xs', ⟨some ⟨ga, 0, none⟩, c', gm, n0 + 1, D.put (.int .i64 T) (.lit (.int .i64 (w.heap.size : Int))), xs', ?_⟩, ?_, ?_⟩
  · refine ⟨?_, .inr ⟨ga, rfl, hH4⟩, hM4, ?_, ?_, ?_, ?_, by rw [hln]; exact hN3, ?_, ?_, rfl, ?_, ?_, ?_⟩
    · rw [hln]
      have e : (a.put at_ what).turn = T := by rw [hT]; rfl
      rw [e]
      exact HB.out
    · have := hL.n0
      show n0 + 1 ≤ (a.turn + 1).toNat
      have := hL.turn0
      omega
    · intro x hx
      rcases List.mem_append.1 (hP3.mem_iff.1 hx) with h1 | h1
      · have h2 := hto x h1
        have hne : (Lit.int .i64 x.it.turn) ≠ .int .i64 T := by intro e; injection e with _ e; omega
        rw [has_put_other hne, atKey_put_other hne]
        exact hL.has x h1
      · simp at h1
        subst h1
        exact ⟨has_put_same hM2.isMap (lawB.key (keyB hTr)) _, atKey_put_same hM2.isMap (lawB.key (keyB hTr)) _ _⟩
    · intro t ht'
      by_cases htT : t = T
      · exact ⟨⟨w.heap.size, ⟨at_, T, what⟩⟩, hP3.mem_iff.2 (by simp), htT.symm⟩
      · have hne : (Lit.int .i64 t) ≠ .int .i64 T := by intro e; injection e with _ e; exact htT e
        rw [has_put_other hne] at ht'
        obtain ⟨x, hx, e⟩ := hL.only t ht'
        exact ⟨x, hP3.mem_iff.2 (by simp [hx]), e⟩
    · show (xs'.map El.it).Perm (a.its ++ [(⟨at_, a.turn + 1, what⟩ : It)])
      have h1 := hP3.map El.it
      rw [List.map_append] at h1
      rw [hT] at h1
      exact h1.trans (hL.perm.append_right _)
    · intro y hy
      show 1 ≤ y.turn ∧ y.turn ≤ a.turn + 1
      have := hL.turn0
      rcases List.mem_append.1 hy with h1 | h1
      · have := hL.turns y h1; omega
      · simp at h1; subst h1; show 1 ≤ a.turn + 1 ∧ a.turn + 1 ≤ a.turn + 1; omega
    · show ((a.its ++ [(⟨at_, a.turn + 1, what⟩ : It)]).map It.turn).Nodup
      rw [List.map_append]
      refine List.nodup_append.2 ⟨hL.tnd, by simp, ?_⟩
      intro u hu v hv
      simp at hv
      obtain ⟨y, hy, rfl⟩ := List.mem_map.1 hu
      have := hL.turns y hy
      omega
    · refine List.nodup_cons.2 ⟨fun hm => ?_, List.nodup_cons.2 ⟨fun hm => (hnS gm hm).1 rfl, hH4.nd⟩⟩
      rcases List.mem_cons.1 hm with e | hm
      · exact hggm e
      · exact (hnS g hm).2 rfl
    · show (a.its ++ [(⟨at_, a.turn + 1, what⟩ : It)]).length ≤ 8192
      simp; omega
    · show 0 ≤ a.turn + 1
      have := hL.turn0; omega
  · intro k hk
    rw [hL.S]
    rcases List.mem_cons.1 hk with rfl | hk
    · exact .inl (by simp)
    · rcases List.mem_cons.1 hk with rfl | hk
      · exact .inl (by simp)
      · rcases List.mem_cons.1 hk with rfl | hk
        · rcases hga3 with h | h
          · exact .inl (List.mem_cons_of_mem _ (List.mem_cons_of_mem _ h))
          · exact .inr (Nat.le_trans F2.size h)
        · have h1 := ((hP3.map El.blk).mem_iff).1 hk
          rw [List.map_append] at h1
          rcases List.mem_append.1 h1 with h1 | h1
          · exact .inl (List.mem_cons_of_mem _ (List.mem_cons_of_mem _ (List.mem_append_right _ h1)))
          · simp at h1; exact .inr (by omega)
  · have hall := ((F2.more (S' := g :: gm :: w.heap.size :: ablks A xs) (by simp)).trans (hF3.more (by intro k hk; simp only [List.mem_cons] at hk ⊢; rcases hk with h | h | h; exact .inl h; exact .inr (.inr (.inl h)); exact .inr (.inr (.inr h))))).trans (f4.more (by simp))
    refine fr_oldB hall ?_
    intro k hk hlt'
    rw [hL.S]
    simp only [List.mem_cons] at hk ⊢
    rcases hk with h | h | h | h
    · exact .inl h
    · exact .inr (.inl h)
    · omega
    · exact .inr (.inr h)
end Go.Proofs.Ytkocedbpnpclcaa
