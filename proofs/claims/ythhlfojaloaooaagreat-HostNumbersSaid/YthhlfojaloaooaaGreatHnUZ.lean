/-
  bridge: one that is being made.
-/
import Derived.Test.YthhlfojaloaooaaGreatRows
import Derived.Test.YthhlfojaloaooaaGreatHnTZ
import Derived.WalkKit
import Derived.ProofKit
import Derived.OpenShut
import Derived.LoopTactic
import Derived.WalkLawsBesides
import Derived.WalkSpells
import Derived.Outline
import Derived.Lib.Hide
import Derived.Deep.DrawnRows
import Derived.Laws.CopyOwn
import Derived.MapKept
namespace Go.Proofs.YthhlfojaloaooaaGreat
set_option linter.unusedSimpArgs false
set_option linter.unusedVariables false
open Go.RowKit Go.WideShapes Go.ChangeShapes
attribute [local go_sem ↓] Go.wp_at_zero Go.wp_at_succ

/-- A node's cells. -/
def brc (id P : Int) (tb sv vi pe t0 t1 pa up mk : Value) : Array Value := #[.int .i64 id, .int .i64 P, .bool false, .int .i64 0, .int .i64 0, .int .i64 0, .int .i64 id, .int .i64 0, .int .i64 0, .int .i64 0, .int .i64 id, .int .i64 1000000, .slice none 0 0, tb, sv, vi, pe, t0, t1, pa, up, mk, .int .i64 0, .int .i64 0, .int .i64 0, .int .i64 0, .int .i64 0, .int .i64 0, .int .i64 0, .int .i64 0, .int .i64 0, .int .i64 0]
/-- A node that is being made: its setup's box, its own. -/
structure BrS (w wk : World) (q g : Nat) (id P : Int) (pe : Value) (j : Nat) : Prop where
  low : Below w.heap.size w wk
  bq : Blk wk q 42 (cfc id P)
  bb : ∃ tb sv vi t0 t1 pa up mk, Blk wk g 111 (brc id P tb sv vi pe t0 t1 pa up mk)
  own : ∃ xs, wk.ownsRow w.heap.size 123 1 pe j xs
  ge : w.heap.size ≤ q ∧ w.heap.size ≤ g
section
variable {w wk w1 w' : World} {q g : Nat} {id P : Int} {pe pe' : Value} {j : Nat}
theorem BrS.kept (h : BrS w wk q g id P pe j) (hb : Below wk.heap.size wk w') : BrS w w' q g id P pe j := by
  obtain ⟨tb, sv, vi, t0, t1, pa, up, mk, B⟩ := h.bb
  obtain ⟨xs, own⟩ := h.own
  exact ⟨h.low.trans (hb.mono h.low.size), h.bq.kept hb, ⟨tb, sv, vi, t0, t1, pa, up, mk, B.kept hb⟩, ⟨xs, own_kept own (gr_below hb none) (fun k _ => by simp)⟩, h.ge⟩
theorem BrS.fr {m : Nat} (h : BrS w wk q g id P (.slice none 0 0) 0) (hf : Fr [m] wk w') (hm : w.heap.size ≤ m) (hq : q ≠ m) (hg : g ≠ m) : BrS w w' q g id P (.slice none 0 0) 0 := by
  obtain ⟨tb, sv, vi, t0, t1, pa, up, mk, B⟩ := h.bb
  exact ⟨h.low.trans (hf.below h.low.size (fun k hk => by rw [List.mem_singleton.1 hk]; exact hm)), hf.blk h.bq (by simpa using hq), ⟨tb, sv, vi, t0, t1, pa, up, mk, hf.blk B (by simpa using hg)⟩, ⟨_, ownsRow_nil _ _ _ _⟩, h.ge⟩
theorem BrS.set_ (h : BrS w wk q g id P pe j) (i : Nat) (u : Value) (hi : i = 13 ∨ i = 14 ∨ i = 17 ∨ i = 18 ∨ i = 19) : BrS w (wk.setCell ⟨g, i, none⟩ u) q g id P pe j := by
  obtain ⟨tb, sv, vi, t0, t1, pa, up, mk, B⟩ := h.bb
  obtain ⟨xs, own⟩ := h.own
  have gs := gr_set (grownBy_refl wk (some g)) i u
  refine ⟨h.low.grown gs h.low.size (fun k hk => by cases hk; exact h.ge.2), h.bq.grown gs (by intro e; injection e with e; exact Blk.ne_ h.bq B (by decide) e), ?_, ⟨xs, own_kept own gs (fun k hk e => by injection e with e; subst e; exact own_blk_ne own B (by decide) hk)⟩, h.ge⟩
  have B2 := B.set_ i u
  rcases hi with rfl | rfl | rfl | rfl | rfl
  · exact ⟨u, sv, vi, t0, t1, pa, up, mk, B2⟩
  · exact ⟨tb, u, vi, t0, t1, pa, up, mk, B2⟩
  · exact ⟨tb, sv, vi, u, t1, pa, up, mk, B2⟩
  · exact ⟨tb, sv, vi, t0, u, pa, up, mk, B2⟩
  · exact ⟨tb, sv, vi, t0, t1, u, up, mk, B2⟩
theorem BrS.push {u : Value} {xs : List Value} (h : BrS w w1 q g id P pe j) (own : w1.ownsRow w.heap.size 123 1 pe j xs) (own' : w'.ownsRow w.heap.size 123 1 pe' (j + 1) (xs ++ [u]))
    (gr : (w1.alloc (.cells #[u] 123)).grownBy w' pe.ownBlock) : (∃ tb sv vi t0 t1 pa up mk, Blk w' g 111 (brc id P tb sv vi pe t0 t1 pa up mk)) ∧ BrS w (w'.setCell ⟨g, 16, none⟩ pe') q g id P pe' (j + 1) := by
  have ha : Below w1.heap.size w1 (w1.alloc (.cells #[u] 123)) := (Below.refl _ _).alloc (Nat.le_refl _) _
  have hA := h.kept ha
  have ownA := own_kept own (gr_below ha none) (fun k _ => by simp)
  generalize w1.alloc (.cells #[u] 123) = wa at *
  obtain ⟨tb, sv, vi, t0, t1, pa, up, mk, B⟩ := hA.bb
  have B' := B.grown gr (own_blk_ne ownA B (by decide)).symm
  have bq := hA.bq.grown gr (own_blk_ne ownA hA.bq (by decide)).symm
  have low : Below w.heap.size w w' := hA.low.grown gr hA.low.size (fun k hk => (ownsRow_lt ownA k hk).1)
  have gs_ := gr_set (grownBy_refl w' (some g)) 16 pe'
  refine ⟨⟨tb, sv, vi, t0, t1, pa, up, mk, B'⟩, low.grown gs_ low.size (fun k hk => by cases hk; exact h.ge.2), bq.grown gs_ (by intro e; injection e with e; exact Blk.ne_ bq B' (by decide) e), ⟨tb, sv, vi, t0, t1, pa, up, mk, B'.set_ 16 pe'⟩, ⟨_, own_kept own' gs_ (fun k hk e => by injection e with e; subst e; exact own_blk_ne own' B' (by decide) hk)⟩, h.ge⟩
end
theorem styPE : SliceTy Tryz.prog 105 123 1 8 := sliceTy_mk (z := .pointer none) Tryz.underlying105 (by kernel_rfl) rfl
theorem FdAt.gr {w w' : World} {g m : Nat} {n : Int} {r : Option Nat} (h : FdAt w g m n) (gr : w.grownBy w' r) (hg : some g ≠ r) (hm : some m ≠ r) : FdAt w' g m n := by
  obtain ⟨v, m2, B, M⟩ := h
  exact ⟨v, m2, B.grown gr hg, (gr.block m (Array.getElem?_eq_some_iff.1 M).1 hm).trans M⟩
theorem blk_new3 {wd : World} {o1 o2 o3 : Obj} {T : TypeId} {cs : Array Value} : Blk ((((wd.alloc o1).alloc o2).alloc o3).alloc (.cells cs T)) (wd.heap.size + 1 + 1 + 1) T cs := by
  have h := Blk.new (((wd.alloc o1).alloc o2).alloc o3) T cs
  have e1 : (wd.alloc o1).heap.size = wd.heap.size + 1 := Array.size_push _
  have e2 : ((wd.alloc o1).alloc o2).heap.size = (wd.alloc o1).heap.size + 1 := Array.size_push _
  have e3 : (((wd.alloc o1).alloc o2).alloc o3).heap.size = ((wd.alloc o1).alloc o2).heap.size + 1 := Array.size_push _
  rwa [e3, e2, e1] at h
/-- A node's setup, spelt out. -/
theorem cfc_lit (id P : Int) : cfc id P = #[.int .i64 id, .int .i64 P, .bool false, .int .i64 0, .int .i64 0, .int .i64 0, .int .i64 id, .int .i64 0, .int .i64 0, .int .i64 0, .int .i64 id, .int .i64 1000000, .slice none 0 0] := rfl
theorem mask_of (n : Nat) (hn : 1 ≤ n ∧ n ≤ 8) : ∃ p : Int, Mask (n : Int) p ∧ RowKit.wrap64 (RowKit.wrap64 (2 ^ min n 64) - 1) = p := by
  obtain rfl | rfl | rfl | rfl | rfl | rfl | rfl | rfl : n = 1 ∨ n = 2 ∨ n = 3 ∨ n = 4 ∨ n = 5 ∨ n = 6 ∨ n = 7 ∨ n = 8 := by omega
  · exact ⟨1, by unfold Mask; omega, by kernel_rfl⟩
  · exact ⟨3, by unfold Mask; omega, by kernel_rfl⟩
  · exact ⟨7, by unfold Mask; omega, by kernel_rfl⟩
  · exact ⟨15, by unfold Mask; omega, by kernel_rfl⟩
  · exact ⟨31, by unfold Mask; omega, by kernel_rfl⟩
  · exact ⟨63, by unfold Mask; omega, by kernel_rfl⟩
  · exact ⟨127, by unfold Mask; omega, by kernel_rfl⟩
  · exact ⟨255, by unfold Mask; omega, by kernel_rfl⟩
theorem run_next_empty (w : World) (bm since c0 clock : Nat) (ty : TypeId) (hb : w.heap[bm]? = some (.map #[] clock)) (hsc : since ≤ c0) : (Instr.next (.pointer (some ⟨w.heap.size, 0, none⟩)) false ty).run Tryz.prog (w.alloc (.mapIter (some bm) since #[] c0)) = .ok (.tuple #[.bool false]) (w.alloc (.mapIter (some bm) since #[] c0)) := by
  rcases run_next_map (P := Tryz.prog) w ty bm since c0 #[] #[] clock hb (by simp) hsc with ⟨_, h⟩ | ⟨e, he, _⟩
  · exact h
  · simp [leftOf] at he

end Go.Proofs.YthhlfojaloaooaaGreat
