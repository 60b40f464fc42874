/-
  heap.Push, heap.Pop and heap.Remove over the agenda's list.
-/
import Derived.Test.YtkocedbpnpclcaaAgEI
namespace Go.Proofs.Ytkocedbpnpclcaa
set_option linter.unusedSimpArgs false
set_option linter.unusedVariables false
open Go.RowKit Go.WideShapes Go.ChangeShapes
attribute [local go_sem ↓] Go.wp_at_zero Go.wp_at_succ

theorem fr_oldI {S S' : List Nat} {w w' : World} (h : Fr S' w w') (hs : ∀ k ∈ S', k < w.heap.size → k ∈ S) : Fr S w w' := ⟨h.os, h.tape, h.output, h.size, fun k hk a => h.block k hk fun b => a (hs k b hk)⟩
set_option maxRecDepth 100000 in
set_option maxHeartbeats 4000000 in
theorem lpop_anyI (w : World) (g ga c n L : Nat) (ys : List El) (x : El) (now turn : Int) (gm : Nat) (h : HLI w ga c (ys ++ [x])) (hn : ys.length = n) (hL : L = n + 1) (hmx : n ≤ 1099511627776)
    (hB : Blk w g 53 (acsI now turn (.slice (some ⟨ga, 0, none⟩) L c) gm)) (hg : g ∉ blks ga (ys ++ [x])) :
    Calls Try.prog 47 #[.pointer (some ⟨g, 2, none⟩)] w fun e w' => e = .returned (.iface 54 (.pointer (some ⟨x.blk, 0, none⟩))) ∧ HLI w' ga c ys ∧ Blk w' g 53 (acsI now turn (.slice (some ⟨ga, 0, none⟩) n c) gm) ∧ Blk w' x.blk 56 (icells .i64 x.it (-1)) ∧ Fr [g, x.blk] w w' := by
  have hx : (ys ++ [x])[n]? = some x := by rw [List.getElem?_append_right (by omega)]; simp [hn]
  have q2 := hB.cellOf (v := .slice (some ⟨ga, 0, none⟩) L c) 2 rfl
  have fg := hB.frozen
  have lg := hB.lt
  have pn := h.ptr_at hx
  have hX := h.itm n x hx
  have x3 := hX.cellOf (v := .int .i64 (n : Int)) 3 rfl
  have fx := hX.frozen
  have lx := hX.lt
  have f1 : IntKind.i64.wrap ((L : Int) - 1) = (n : Int) := by rw [show (L : Int) - 1 = (n : Int) by omega]; exact IntWalk.i64_in _ ⟨by omega, by omega⟩
  have hnL : n < L := by omega
  have hnL' : n ≤ L := by omega
  have hle : n + 1 ≤ c := by have := h.le; simp at this; omega
  have hnc : n ≤ c := by omega
  have hgx : ¬ g = x.blk := fun e => hg (e ▸ List.mem_cons_of_mem _ (by simp))
  have hxg : ¬ x.blk = g := Ne.symm hgx
  have hga : ¬ g = ga := fun e => hg (e ▸ List.mem_cons_self ..)
  have hxa : x.blk ≠ ga := h.ne hx
  have hLi : ((L : Nat) : Int) = (n : Int) + 1 := by omega
  have HH := Lib.hid (And.intro h (And.intro hB (And.intro hX (And.intro hxa hga))))
  have HGN := Lib.hid hg
  clear h hn hL hmx hB hg hx hX hga hxa hle hLi
  go_enter Try.func47, Try.ntmps47
  go_wp2_with fail
  go_ret
  obtain ⟨h, hB, hX, hxa, hga⟩ := HH.out
  have gx : w.grownBy (w.setCell ⟨x.blk, 3, none⟩ (.int .i64 (-1))) (some x.blk) := gr_set (grownBy_refl w _) 3 _
  have X1 := hX.set_ 3 (.int .i64 (-1))
  have B1 := hB.grown gx (by simpa using hgx)
  obtain ⟨cur, C, hcs, hp⟩ := h.arr
  have C1 := C.grown gx (by simpa using Ne.symm hxa)
  generalize hw1 : w.setCell ⟨x.blk, 3, none⟩ (.int .i64 (-1)) = w1 at *
  have gg : w1.grownBy (w1.setCell ⟨g, 2, none⟩ (.slice (some ⟨ga, 0, none⟩) n c)) (some g) := gr_set (grownBy_refl w1 _) 2 _
  have F2 : Fr [g, x.blk] w (w1.setCell ⟨g, 2, none⟩ (.slice (some ⟨ga, 0, none⟩) n c)) := (Fr.gr (g := x.blk) gx (by simp)).trans (Fr.gr (g := g) gg (by simp))
  refine ⟨rfl, ⟨⟨cur, C1.grown gg (by simpa using Ne.symm hga), hcs, fun i y hy => hp i y (by rw [List.getElem?_append_left (at_lt hy)]; exact hy)⟩, by have := h.le; simp at this; omega, fun i y hy => ?_, ?_, h.cm⟩, B1.set_ 2 _, X1.grown gg (by simpa using hxg), F2⟩
  · have hy' : (ys ++ [x])[i]? = some y := by rw [List.getElem?_append_left (at_lt hy)]; exact hy
    have hx' : (ys ++ [x])[ys.length]? = some x := by rw [List.getElem?_append_right (Nat.le_refl _)]; simp
    have h1 : y.blk ≠ x.blk := h.ne2 hy' hx' (Nat.ne_of_lt (at_lt hy))
    have h2 : y.blk ≠ g := fun e => by
      have h4 : g ∈ blks ga (ys ++ [x]) := e ▸ List.mem_cons_of_mem _ (blk_mem hy')
      exact HGN.out h4
    exact F2.blk (h.itm i y hy') (by simp; exact ⟨h2, h1⟩)
  · have := h.nd
    rw [List.map_append, ← List.cons_append] at this
    exact (List.nodup_append.1 this).1
set_option maxRecDepth 100000 in
set_option maxHeartbeats 4000000 in
theorem hpush_anyI (w : World) (g : Nat) (A : Option Addr) (c n : Nat) (xs : List El) (now turn : Int) (gm : Nat) (x : El) (p0 : Int) (h : ALI w A c xs) (hn : xs.length = n) (hmx : n ≤ 1000000000)
    (hB : Blk w g 53 (acsI now turn (.slice A n c) gm)) (hx : Blk w x.blk 56 (icells .i64 x.it p0)) (hg : g ∉ ablks A xs) (hxs : x.blk ∉ ablks A xs) (hxg : x.blk ≠ g) (hnd : (ablks A xs).Nodup) (hh : HeapN xs n) :
    Calls Try.prog 19 #[.iface 58 (.pointer (some ⟨g, 2, none⟩)), .iface 54 (.pointer (some ⟨x.blk, 0, none⟩))] w fun e w' => e = .returned (.tuple #[]) ∧ ∃ ga c' xs', HLI w' ga c' xs' ∧ xs'.Perm (xs ++ [x]) ∧ HeapN xs' (n + 1) ∧ Blk w' g 53 (acsI now turn (.slice (some ⟨ga, 0, none⟩) (n + 1) c') gm) ∧ (ga ∈ ablks A xs ∨ w.heap.size ≤ ga) ∧ Fr (g :: x.blk :: ablks A xs) w w' := by
  have HP := Lib.hid (lpush_anyI w g A c n xs now turn gm x p0 h hn (by omega) hB hx hg hxs hxg hnd)
  obtain ⟨L, hL⟩ : ∃ L, L = n + 1 := ⟨_, rfl⟩
  rw [← hL] at HP ⊢
  have f1 : IntKind.i64.wrap ((L : Int) - 1) = (n : Int) := by rw [show (L : Int) - 1 = (n : Int) by omega]; exact IntWalk.i64_in _ ⟨by omega, by omega⟩
  have hU := heap_snoc x (by rw [hn]; exact hh : HeapN xs xs.length)
  rw [hn, ← hL] at hU
  have HU := Lib.hid (And.intro hU (And.intro hn (And.intro hL (And.intro hmx (And.intro hg (And.intro hxg (And.intro hB.lt hx.lt)))))))
  have hm := fun q w => meth_pushI q ⟨g, 2, none⟩ w
  clear h hn hmx hB hx hg hxs hxg hnd hh hL hU
  go_enter Try.func19, Try.ntmps19
  go_wp2_with fail
  refine HP.out.mono ?_
  rintro e w1 ⟨rfl, ga, c', hH, hB1, hga, hF⟩
  have hcell := hB1.cellOf (v := .slice (some ⟨ga, 0, none⟩) L c') 2 rfl
  have hm1 := fun q => meth_lenI q hcell
  have hlen : (xs ++ [x]).length = L := by have := HU.out.2.1; have := HU.out.2.2.1; simp; omega
  have hgn : g ∉ blks ga (xs ++ [x]) := by
    obtain ⟨_, _, _, _, hg, hxg, hl, hl2⟩ := HU.out
    intro hm
    rcases List.mem_cons.1 hm with e | hm
    · rcases hga with h | h
      · exact hg (e ▸ h)
      · omega
    · rw [List.map_append] at hm
      rcases List.mem_append.1 hm with h | h
      · exact hg (List.mem_append_right _ h)
      · simp at h; exact hxg h.symm
  have HUP := Lib.hid (up_anyI w1 g ga c' L L (xs ++ [x]) hH hlen (by have := HU.out.2.2.1; have := HU.out.2.2.2.1; omega) hcell hB1.lt hgn (Nat.le_refl _) n (by have := HU.out.2.2.1; omega) HU.out.1)
  have HR := Lib.hid (And.intro hB1 (And.intro hga (And.intro hF hgn)))
  clear hH hB1 hga hF hlen hgn hm HP
  go_wp2_with fail
  refine (len_anyI (some ⟨ga, 0, none⟩) L c' w1).mono ?_
  rintro e w2 ⟨rfl, rfl⟩
  go_wp2_with fail
  refine HUP.out.mono ?_
  rintro e w3 ⟨rfl, xs', hH', hP', hN', _, hF'⟩
  clear hcell hm1 f1
  go_wp2_with fail
  go_end0
  obtain ⟨hB1, hga, hF, hgn⟩ := HR.out
  refine ⟨rfl, ga, c', xs', hH', hP', hN', hF'.blk hB1 hgn, hga, fr_oldI (S' := g :: x.blk :: (blks ga (xs ++ [x]) ++ ablks A xs)) ((hF.more (by intro k hk; simp only [List.mem_cons, List.mem_append] at hk ⊢; rcases hk with h | h | h; exact .inl h; exact .inr (.inl h); exact .inr (.inr (.inr h)))).trans (hF'.more (by intro k hk; simp only [List.mem_cons, List.mem_append]; exact .inr (.inr (.inl hk))))) ?_⟩
  intro k hk hlt
  simp only [List.mem_cons, List.mem_append] at hk ⊢
  rcases hk with h | h | h | h
  · exact .inl h
  · exact .inr (.inl h)
  · rcases List.mem_cons.1 h with e | h
    · rcases hga with h' | h'
      · exact .inr (.inr (e ▸ h'))
      · omega
    · rw [List.map_append] at h
      rcases List.mem_append.1 h with h | h
      · exact .inr (.inr (List.mem_append_right _ h))
      · simp at h; exact .inr (.inl h)
  · exact .inr (.inr h)
end Go.Proofs.Ytkocedbpnpclcaa
