/-
  Layer 17: a link that is measured: In, where the answer is whole; talk.
-/
import Derived.Test.YtbkflmeijjcnhaaPeerI
import Derived.Test.YtbkflmeijjcnhaaPeerK
namespace Go.Proofs.Ytbkflmeijjcnhaa
set_option linter.unusedSimpArgs false
set_option linter.unusedVariables false
open Go.RowKit Go.WideShapes Go.ChangeShapes
attribute [local go_sem ↓] Go.wp_at_zero Go.wp_at_succ

/-- What an answer that is right leaves. -/
def doneP (p : Pe) (A : Option Addr) (n c : Nat) (r d : Int) : Pe := { p with asked := false, sent := false, half := false, bad := 0, good := min (p.good + 1) 100, mA := A, mn := n, mc := c, rate := r, delay := d }
/-- That the reckoning takes an answer. -/
def Reckons (p : Pe) (g : Nat) (t3 : Int) (L : List (Int × Int)) (n : Nat) (r d : Int) (N : List (Int × Int)) : Prop :=
  ∀ W : World, PeIn W g p → Mk W g p.mA p.mn p.mc L → Calls Try.prog 68 #[.pointer (some ⟨g, 0, none⟩), .int .i64 t3] W fun e w' => e = .returned (.int .i64 0) ∧ ∃ A c, PeIn w' g { p with mA := A, mn := n, mc := c, rate := r, delay := d } ∧ Mk w' g A n c N ∧ W.grownBy w' (some g)
theorem Reckons.first {p : Pe} {g : Nat} {t3 : Int} (hn : p.mn = 0) (hw : 1 ≤ p.cf.window ∧ p.cf.window ≤ 32) : Reckons p g t3 [] 1 p.rate p.delay [(t3, p.t4)] := fun W B M =>
  reckon_first p g t3 W B (M.nil hn).1 hn (M.nil hn).2 hw
theorem Reckons.more {p : Pe} {g : Nat} {t3 a0 b0 r tw : Int} {T : List (Int × Int)} (hw : p.mn ≤ p.cf.window ∧ p.cf.window ≤ 32) (R : Rk p t3 a0 b0 r tw) : Reckons p g t3 ((a0, b0) :: T) (p.mn + 1) r (max (tw.tdiv 2) 0) ((a0, b0) :: T ++ [(t3, p.t4)]) := fun W B M =>
  reckon_more p g t3 a0 b0 r tw T W B M hw R
set_option maxRecDepth 100000 in
set_option maxHeartbeats 4000000 in
theorem in_last (p : Pe) (g : Nat) (m : Mg) (at_ : Int) (L N : List (Int × Int)) (n : Nat) (r d : Int) (w : World) (B : PeIn w g p) (M : Mk w g p.mA p.mn p.mc L) (h : Mine p m) (hk : m.kind = 10) (hh : p.half = true) (hg : 0 ≤ p.good ∧ p.good ≤ 100) (hr : Reckons p g m.time L n r d N) :
    Calls Try.prog 46 #[.pointer (some ⟨g, 0, none⟩), .agg (mcells m none 0 0), .int .i64 at_] w fun e w' => e = .returned (.int .i64 0) ∧ ∃ A c, PeIn w' g (doneP p A n c r d) ∧ Mk w' g A n c N ∧ w.grownBy w' (some g) := by
  have B0 : PeIn (w.alloc (.cells (mcells m none 0 0) 33)) g p := B.alloc _
  have M0 := Blk.new w 33 (mcells m none 0 0)
  have L0 := (Below.refl w.heap.size w).alloc (Nat.le_refl _) (.cells (mcells m none 0 0) 33)
  have z0 : w.heap.size < (w.alloc (.cells (mcells m none 0 0) 33)).heap.size := by simp
  have HB := Lib.hid B
  have HK := Lib.hid M
  have HM := Lib.hid h
  have HR := Lib.hid hr
  have HX := Lib.hid (And.intro hk hh)
  have f1 : IntKind.i64.wrap (p.good + 1) = p.good + 1 := wrap_of (by omega) (by omega)
  obtain ⟨g1, hg1⟩ : ∃ g1, g1 = min (p.good + 1) 100 := ⟨_, rfl⟩
  have HG := Lib.hid hg1
  have hmn : min (p.good + 1) 100 = g1 := hg1.symm
  clear B M h hk hh hr hg hg1
  go_enter Try.func46, Try.ntmps46
  go_wp2_with (refine wpList_load_row_g (by first | rfl | (go_simp; done)) 33 (.tmp 4) rfl w.heap.size rfl 33 (mcells m none 0 0) (0, 0) _ M0 Try.underlying33 rfl (by kernel_rfl) ?_)
  refine (HM.out.yes g _ B0).mono ?_
  rintro e w1 ⟨rfl, L1⟩
  have M1 := M0.below L1 z0
  have L := L0.trans (L1.mono (by simp))
  have B1 := HB.out.kept L
  have K1 := HK.out.kept L
  have x0 := M1.cellOf (v := .int .i64 10) 0 (by rw [← HX.out.1]; rfl)
  have x6 := M1.cellOf (v := .int .i64 m.time) 6 rfl
  have y10 := B1.cellOf (v := .bool true) 10 (by rw [← HX.out.2]; rfl)
  have HH := Lib.hid (And.intro B1 K1)
  clear M0 L0 L1 B0 z0 HB HK HM HX M1 B1 K1
  go_wp2_with fail
  refine (HR.out _ HH.out.1 HH.out.2).mono ?_
  rintro e w2 ⟨rfl, A, c, B2, K2, G2⟩
  have G := gr_trans (gr_below L (some g)) G2
  clear x0 x6 y10 HH HR L G2
  have y7 := B2.cellOf (v := .bool p.asked) 7 rfl
  have y8 := B2.cellOf (v := .bool p.sent) 8 rfl
  have y10 := B2.cellOf (v := .bool p.half) 10 rfl
  have y16 := B2.cellOf (v := .int .i64 p.good) 16 rfl
  have y17 := B2.cellOf (v := .int .i64 p.bad) 17 rfl
  have fz := B2.frozen
  have B5 : PeIn (((((w2.setCell ⟨g, 7, none⟩ (.bool false)).setCell ⟨g, 8, none⟩ (.bool false)).setCell ⟨g, 10, none⟩ (.bool false)).setCell ⟨g, 17, none⟩ (.int .i64 0)).setCell ⟨g, 16, none⟩ (.int .i64 g1)) g (doneP p A n c r d) := by
    have := ((((B2.set_ 7 (.bool false)).set_ 8 (.bool false)).set_ 10 (.bool false)).set_ 17 (.int .i64 0)).set_ 16 (.int .i64 g1)
    unfold doneP
    rw [← HG.out]
    exact this
  have gg := gr_set (gr_set (gr_set (gr_set (gr_set (grownBy_refl w2 (some g)) 7 (.bool false)) 8 (.bool false)) 10 (.bool false)) 17 (.int .i64 0)) 16 (.int .i64 g1)
  have HB5 := Lib.hid (And.intro B5 (And.intro (K2.keep gg) (gr_trans G gg)))
  clear B5 gg K2 B2 G
  go_wp2_with fail
  go_ret
  exact ⟨rfl, _, _, HB5.out⟩
end Go.Proofs.Ytbkflmeijjcnhaa
