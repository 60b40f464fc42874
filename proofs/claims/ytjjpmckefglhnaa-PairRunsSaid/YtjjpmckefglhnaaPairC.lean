/-
  Layer 21: two domains' clocks: Root and Tell of the second one.
-/
import Derived.Test.YtjjpmckefglhnaaPairH
namespace Go.Proofs.Ytjjpmckefglhnaa
set_option linter.unusedSimpArgs false
set_option linter.unusedVariables false
open Go.RowKit Go.WideShapes Go.ChangeShapes
attribute [local go_sem ↓] Go.wp_at_zero Go.wp_at_succ

set_option maxRecDepth 100000 in
set_option maxHeartbeats 2000000 in
theorem proot1 (p : Pr) (gp g0 g1 : Nat) (on : Bool) (now : Int) (w : World) (P : PrIn w gp g0 g1 p) (hw : p.c1.Wf) (hn : I64 now) :
    Calls Try.prog 12 #[.pointer (some ⟨gp, 0, none⟩), .int .i64 1, .bool on, .int .i64 now] w fun e w' => e = .returned (.tuple #[]) ∧ PrIn w' gp g0 g1 { p with root1 := on, c1 := ownV p.c1 on now } ∧ Fr3 w w' gp g0 g1 := by
  have HO := Lib.hid (fun W B => own_any p.c1 g1 on now W B hw hn)
  have y4 := P.box.cellOf (v := .bool p.root1) 4 rfl
  have y2 := P.box.cellOf (v := .pointer (some ⟨g1, 0, none⟩)) 2 rfl
  have fz := P.box.frozen
  have P2 : PrIn (w.setCell ⟨gp, 4, none⟩ (.bool on)) gp g0 g1 { p with root1 := on } := ⟨P.box.set_ 4 _, P.k0.far (p := ⟨gp, 4, none⟩) P.np0.symm _, P.k1.far (p := ⟨gp, 4, none⟩) P.np1.symm _, P.n01, P.np0, P.np1⟩
  have F2 := (Fr3.refl w gp g0 g1).gr (gr_set (grownBy_refl w (some gp)) 4 (.bool on)) (.inl rfl)
  clear hw hn P
  go_enter Try.func12, Try.ntmps12
  go_wp2_with fail
  refine (pright_in _ _ (by omega) _).mono ?_
  rintro e w1 ⟨rfl, rfl⟩
  go_wp2_with fail
  refine (HO.out _ P2.k1).mono ?_
  rintro e w3 ⟨rfl, K3, G3⟩
  have P3 := P2.set1 K3 G3
  have F3 := F2.gr G3 (.inr (.inr rfl))
  clear y4 y2 fz P2 F2
  go_wp2_with fail
  exact bodyPost_end (results_none rfl _ _ _) rfl ⟨rfl, P3, F3⟩
set_option maxHeartbeats 1000000 in
theorem ptell_end {a : Act} {w' : World} {g : Nat} {m : Mg} {b : Bool} {Q : Ending → World → Prop} (hd : a.defers = []) (h2 : a.eval (.tmp 12) = .pointer (some ⟨g, 0, none⟩)) (h3 : a.eval (.tmp 13) = .bool b)
    (R : Blk w' g 35 (mcells m none 0 0)) (h : Q (.returned (.tuple #[.agg (mcells m none 0 0), .bool b])) w') : bodyPost Try.prog Try.f13 Q Exit.ret a w' := by
  obtain ⟨y0, y1, y2, y3, y4, y5, y6, y7, y8, y9, y10, y11, y12, y13, y14, y15⟩ := mcells_at R
  refine bodyPost_ret (v := .tuple #[.agg (mcells m none 0 0), .bool b]) ?_ hd h
  simp only [Act.eval, Array.getD_eq_getD_getElem?] at h2 h3
  simp [results, Try.results13, go_sem, mcells, h2, h3, y0, y1, y2, y3, y4, y5, y6, y7, y8, y9, y10, y11, y12, y13, y14, y15]
set_option maxRecDepth 100000 in
set_option maxHeartbeats 4000000 in
theorem ptell1 (p q : Pr) (gp g0 g1 : Nat) (seq src port now : Int) (m : Mg) (b : Bool) (w : World) (P : PrIn w gp g0 g1 p) (hw : p.Wf) (hq : q.c1.Wf) (hn : I64 now) (hl : lendV p now = q) (ht : tellV q.c1 seq src port now = (m, b)) :
    Calls Try.prog 13 #[.pointer (some ⟨gp, 0, none⟩), .int .i64 1, .int .i64 seq, .int .i64 src, .int .i64 port, .int .i64 now] w fun e w' => e = .returned (.tuple #[.agg (mcells m none 0 0), .bool b]) ∧ PrIn w' gp g0 g1 q ∧ Fr3 w w' gp g0 g1 := by
  have HL : Hid (∀ W, PrIn W gp g0 g1 p → Calls Try.prog 27 #[.pointer (some ⟨gp, 0, none⟩), .int .i64 now] W fun e w' => e = .returned (.tuple #[]) ∧ PrIn w' gp g0 g1 q ∧ Fr3 W w' gp g0 g1) := Lib.hid fun W P => by
    have := lend_any p gp g0 g1 now W P hw hn
    rw [hl] at this
    exact this
  have HT := Lib.hid (fun W (B : CkIn W g1 q.c1) => tell_run ht hq hn B)
  have P0 : PrIn (w.alloc (.cells (mcells zeroM none 0 0) 35)) gp g0 g1 p := P.kept ((Below.refl _ _).alloc (Nat.le_refl _) _)
  have Z0 : Blk (w.alloc (.cells (mcells zeroM none 0 0) 35)) w.heap.size 35 (mcells zeroM none 0 0) := Blk.new _ _ _
  have F0 : Fr3 w (w.alloc (.cells (mcells zeroM none 0 0) 35)) gp g0 g1 := (Fr3.refl w gp g0 g1).be ((Below.refl _ _).alloc (Nat.le_refl _) _)
  have np := P.box.lt
  have n0 := P.k0.lt
  have n1 := P.k1.lt
  clear hw hq hn hl ht P
  go_enter Try.func13, Try.ntmps13
  go_wp2_with fail
  refine (pright_in _ _ (by omega) _).mono ?_
  rintro e w1 ⟨rfl, hw1⟩
  go_wp2_with fail
  rw [← hw1]
  refine (HL.out _ P0).mono ?_
  rintro e w2 ⟨rfl, P2, F2⟩
  have Z2 := F2.keep Z0 (by omega) (by omega) (by omega)
  have F02 := F0.trans F2
  have y2 := P2.box.cellOf (v := .pointer (some ⟨g1, 0, none⟩)) 2 rfl
  clear P0 Z0 F0 F2 hw1
  go_wp2_with fail
  refine (HT.out _ P2.k1).mono ?_
  rintro e w3 ⟨rfl, K3, L3⟩
  have P3 := P2.kept L3
  have Z3 := Z2.kept L3
  have F3 := F02.be L3
  clear K3 P2 Z2 F02 L3 y2
  go_wp2_with (refine wpList_store_part rfl 35 (.tmp 12) (.tmp 33) rfl (off := 0) rfl Z3 rfl (show 0 + 16 ≤ 16 by omega) (by kernel_rfl) (by rw [← Array.all_toList]; rfl) ?_; intro w4 R4 z4 g4)
  rw [putAll_whole (show (mcells zeroM none 0 0).size = (mcells m none 0 0).size from rfl)] at R4
  have P4 : PrIn w4 gp g0 g1 q := ⟨P3.box.keep g4 (by omega), P3.k0.keep g4 (by omega), P3.k1.keep g4 (by omega), P3.n01, P3.np0, P3.np1⟩
  have F4 : Fr3 w w4 gp g0 g1 := ⟨g4.os.trans F3.os, g4.tape.trans F3.tape, g4.output.trans F3.output, Nat.le_trans F3.size g4.size, fun k hk a b c => (g4.block k (by have := F3.size; omega) (by simp; omega)).trans (F3.block k hk a b c)⟩
  exact ptell_end rfl rfl rfl R4 ⟨rfl, P4, F4⟩
end Go.Proofs.Ytjjpmckefglhnaa
