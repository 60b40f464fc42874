/-
  The agenda's list: Push and Pop.
-/
import Derived.Test.YtkocedbpnpclcaaAgDB
namespace Go.Proofs.Ytkocedbpnpclcaa
set_option linter.unusedSimpArgs false
set_option linter.unusedVariables false
open Go.RowKit Go.WideShapes Go.ChangeShapes
attribute [local go_sem ↓] Go.wp_at_zero Go.wp_at_succ

abbrev ALB := AL 69 67 .u8
def acsB (now turn : Int) (v : Value) (gm : Nat) : Array Value := #[.int .i64 now, .int .i64 turn, v, .map (some gm)]
theorem styLB : SliceTy Try.prog 64 67 1 8 := sliceTy_mk (z := .pointer none) Try.underlying64 (by kernel_rfl) rfl
theorem own_inB {A : Option Addr} {n c k : Nat} {xs : List El} (h : some k = (Value.slice A n c).ownBlock) : k ∈ ablks A xs := by
  unfold ablks
  cases A with
  | none => simp [Value.ownBlock] at h
  | some a => simp [Value.ownBlock] at h; simp [h]
theorem taB (v : Value) (w : World) : (Instr.typeAssert (.iface 67 v) 20 67 false).run Try.prog w = .ok v w := by kernel_rfl
set_option maxRecDepth 100000 in
set_option maxHeartbeats 4000000 in
theorem lpush_anyB (w : World) (g : Nat) (A : Option Addr) (c n : Nat) (xs : List El) (now turn : Int) (gm : Nat) (x : El) (p0 : Int) (h : ALB w A c xs) (hn : xs.length = n) (hmx : n ≤ 1099511627776)
    (hB : Blk w g 66 (acsB now turn (.slice A n c) gm)) (hx : Blk w x.blk 69 (icells .u8 x.it p0)) (hg : g ∉ ablks A xs) (hxs : x.blk ∉ ablks A xs) (hxg : x.blk ≠ g) (hnd : (ablks A xs).Nodup) :
    Calls Try.prog 53 #[.pointer (some ⟨g, 2, none⟩), .iface 67 (.pointer (some ⟨x.blk, 0, none⟩))] w fun e w' => e = .returned (.tuple #[]) ∧ ∃ ga c', HLB w' ga c' (xs ++ [x]) ∧ Blk w' g 66 (acsB now turn (.slice (some ⟨ga, 0, none⟩) (n + 1) c') gm) ∧ (ga ∈ ablks A xs ∨ w.heap.size ≤ ga) ∧ Fr (g :: x.blk :: ablks A xs) w w' := by
  have q2 := hB.cellOf (v := .slice A n c) 2 rfl
  have x3 := hx.cellOf (v := .int .i64 p0) 3 rfl
  have fx := hx.frozen
  have lx := hx.lt
  have lg := hB.lt
  have hgx : ¬ g = x.blk := Ne.symm hxg
  have HH := Lib.hid (And.intro h (And.intro hn (And.intro hB (And.intro hx (And.intro hg (And.intro hxs (And.intro hnd hmx)))))))
  clear h hn hmx hB hx hg hxs hnd
  have hta := fun v w => taB v w
  go_enter Try.func53, Try.ntmps53
  have gx : w.grownBy (w.setCell ⟨x.blk, 3, none⟩ (.int .i64 (n : Int))) (some x.blk) := gr_set (grownBy_refl w _) 3 _
  have f1 : Fr [x.blk] w (w.setCell ⟨x.blk, 3, none⟩ (.int .i64 (n : Int))) := Fr.gr gx (by simp)
  have x1 : Blk (w.setCell ⟨x.blk, 3, none⟩ (.int .i64 (n : Int))) x.blk 69 (icells .u8 x.it n) := HH.out.2.2.2.1.set_ 3 _
  have g1 := HH.out.2.2.1.grown gx (by simpa using hgx)
  have a1 : ALB (w.setCell ⟨x.blk, 3, none⟩ (.int .i64 (n : Int))) A c xs := HH.out.1.fr f1 (by intro k hk; simp at hk; rw [hk]; exact HH.out.2.2.2.2.2.1)
  have o1 := a1.own HH.out.2.1
  have H1 := Lib.hid (And.intro f1 (And.intro x1 (And.intro g1 (And.intro a1 o1))))
  clear gx f1 x1 g1 a1 o1
  go_wp2_with (first | (at_builtin; refine wpList_pushG 1 rfl (.tmp 17) (.tmp 19) 64 rfl styLB (wr := w.setCell ⟨x.blk, 3, none⟩ (.int .i64 (n : Int))) (cs := #[.pointer (some ⟨x.blk, 0, none⟩)]) rfl (by first | (simp [Value.oneCell']; done) | (intro u hu; simp at hu; subst hu; rfl)) (base := 0) (v := .slice A n c) rfl H1.out.2.2.2.2 rfl (by first | rfl | simp) (by have := HH.out.2.2.2.2.2.2.2; omega) (Nat.zero_le _) ?_; intro v' w2 own2 gr2 mv2; have own2' : w2.ownsRow 0 67 1 v' (n + 1) ((xs ++ [x]).map fun x => pv x.blk) := (by rw [List.map_append]; exact own2); obtain ⟨ga, c', cur, rfl, B2, hcs, hle, hcm, hp⟩ := hl_of_own own2' (Nat.succ_pos _); have G2 := H1.out.2.2.1.grown gr2 (fun e => HH.out.2.2.2.2.1 (own_inB e)); have q2' := G2.cellOf (v := .slice A n c) 2 rfl; have fg := G2.frozen; have sg := G2.lt) | fail)
  go_end0
  have gz : w2.grownBy (w2.setCell ⟨g, 2, none⟩ (.slice (some ⟨ga, 0, none⟩) (n + 1) c')) (some g) := gr_set (grownBy_refl w2 _) 2 _
  have hga : ga ∈ ablks A xs ∨ w.heap.size ≤ ga := by
    rcases mv2 with e | ⟨q, e, hq⟩
    · exact .inl (own_inB (k := ga) e)
    · simp [Value.ownBlock] at e
      right
      rw [e]
      simpa using hq
  obtain ⟨hA, hn, hB, hx, hg, hxs, hnd, hmx⟩ := HH.out
  obtain ⟨f1, x1, g1, a1, o1⟩ := H1.out
  have F2 : Fr (g :: x.blk :: ablks A xs) w (w2.setCell ⟨g, 2, none⟩ (.slice (some ⟨ga, 0, none⟩) (n + 1) c')) := by
    refine ((f1.more (by simp)).trans ⟨gr2.os, gr2.tape, gr2.output, gr2.size, fun k hk hn => gr2.block k hk (fun e => hn ?_)⟩).trans (Fr.gr (g := g) gz (by simp))
    exact List.mem_cons_of_mem _ (List.mem_cons_of_mem _ (own_inB e))
  have ngx : ga ≠ x.blk := by
    rcases hga with h | h
    · exact fun e => hxs (e ▸ h)
    · intro e; rw [e] at h; omega
  have ngg : ga ≠ g := by
    rcases hga with h | h
    · exact fun e => hg (e ▸ h)
    · intro e; rw [e] at h; omega
  refine ⟨rfl, ga, c', ⟨⟨cur, B2.grown gz (by simpa using ngg), hcs, hp⟩, by simp; omega, ?_, ?_, hcm⟩, G2.set_ 2 _, hga, F2⟩
  · intro i y hy
    rw [List.getElem?_append] at hy
    split at hy
    · rename_i hi
      rcases a1 with ⟨e, _, _⟩ | ⟨gb, rfl, a1⟩
      · rw [e] at hi; simp at hi
      · have n0 : y.blk ≠ gb := a1.ne hy
        have n1 : y.blk ≠ g := fun e => hg (e ▸ List.mem_append_right _ (blk_mem hy))
        exact ((a1.itm i y hy).grown gr2 (by simpa [Value.ownBlock] using n0)).grown gz (by simpa using n1)
    · rename_i hi
      have hi2 := at_lt hy
      simp at hi2
      obtain rfl : i = n := by omega
      rw [hn, Nat.sub_self] at hy
      simp at hy
      subst hy
      exact (x1.grown gr2 (fun e => hxs (own_inB e))).grown gz (by simpa using hxg)
  · rw [List.map_append, ← List.cons_append]
    refine List.nodup_append.2 ⟨?_, by simp, ?_⟩
    · refine List.nodup_cons.2 ⟨fun hm => ?_, ?_⟩
      · rcases mv2 with e | ⟨q, e, hq⟩
        · rcases a1 with ⟨e1, _, _⟩ | ⟨gb, rfl, a1⟩
          · rw [e1] at hm; simp at hm
          · simp [Value.ownBlock] at e
            rw [e] at hm
            exact (List.nodup_cons.1 a1.nd).1 hm
        · simp [Value.ownBlock] at e
          rcases a1 with ⟨e1, _, _⟩ | ⟨gb, rfl, a1⟩
          · rw [e1] at hm; simp at hm
          · have := a1.mem_lt ga (List.mem_cons_of_mem _ hm)
            rw [e] at this
            omega
      · unfold ablks at hnd
        exact (List.nodup_append.1 hnd).2.1
    · intro u hu v hv
      simp at hv
      subst hv
      intro e
      subst e
      rcases List.mem_cons.1 hu with h | h
      · exact ngx h.symm
      · exact hxs (List.mem_append_right _ h)
end Go.Proofs.Ytkocedbpnpclcaa
