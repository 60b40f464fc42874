/-
  Layer 17: a link that is measured: New, Ask, Sent, Down, Able, Delay, Rate.
-/
import Derived.Test.YtbkflmeijjcnhaaSyncD
namespace Go.Proofs.Ytbkflmeijjcnhaa
set_option linter.unusedSimpArgs false
set_option linter.unusedVariables false
open Go.RowKit Go.WideShapes Go.ChangeShapes
attribute [local go_sem ↓] Go.wp_at_zero Go.wp_at_succ

theorem wrap_of {y : Int} (h1 : -9223372036854775808 ≤ y) (h2 : y < 9223372036854775808) : IntKind.i64.wrap y = y := IntWalk.i64_in _ ⟨h1, by omega⟩
structure Cf where
  id : Int
  port : Int
  most : Int
  slack : Int
  window : Int
  lost : Int
def cfc (c : Cf) : Array Value := #[.int .i64 c.id, .int .i64 c.port, .int .i64 c.most, .int .i64 c.slack, .int .i64 c.window, .int .i64 c.lost]
structure Pe where
  cf : Cf
  seq : Int
  asked : Bool
  sent : Bool
  t1 : Int
  half : Bool
  t2 : Int
  t4 : Int
  mA : Option Addr
  mn : Nat
  mc : Nat
  rate : Int
  delay : Int
  good : Int
  bad : Int
def pec (p : Pe) : Array Value := #[.int .i64 p.cf.id, .int .i64 p.cf.port, .int .i64 p.cf.most, .int .i64 p.cf.slack, .int .i64 p.cf.window, .int .i64 p.cf.lost, .int .i64 p.seq, .bool p.asked, .bool p.sent, .int .i64 p.t1, .bool p.half, .int .i64 p.t2, .int .i64 p.t4, .slice p.mA p.mn p.mc, .int .i64 p.rate, .int .i64 p.delay, .int .i64 p.good, .int .i64 p.bad]
abbrev PeIn (w : World) (g : Nat) (p : Pe) : Prop := Blk w g 103 (pec p)
def conf0 : Cf := ⟨5, 1, 1099511627776, 1048576, 4, 3⟩
set_option maxHeartbeats 1000000 in
theorem conf_any (w : World) : Calls Try.prog 43 #[] w fun e w' => e = .returned (.agg (cfc conf0)) ∧ Below w.heap.size w w' := by
  go_enter Try.func43, Try.ntmps43
  go_wp2_with fail
  refine bodyPost_ret (v := .agg (cfc conf0)) (by simp [results, Try.results43, go_sem, cfc, conf0]) rfl ⟨rfl, ?_⟩
  exact (Below.refl _ _).alloc (Nat.le_refl _) _
/-- A setup that is right. -/
structure Cf.Right (c : Cf) : Prop where
  id : 0 ≤ c.id ∧ c.id < 281474976710656
  port : 0 ≤ c.port ∧ c.port ≤ 65535
  most : 0 ≤ c.most ∧ c.most ≤ 1099511627776
  slack : 0 ≤ c.slack ∧ c.slack ≤ 1099511627776
  window : 1 ≤ c.window ∧ c.window ≤ 32
  lost : 1 ≤ c.lost ∧ c.lost ≤ 100
set_option maxRecDepth 100000 in
set_option maxHeartbeats 2000000 in
theorem cfcheck_ok (c : Cf) (h : c.Right) (w : World) : Calls Try.prog 54 #[.agg (cfc c)] w fun e w' => e = .returned (.int .i64 0) ∧ Below w.heap.size w w' := by
  obtain ⟨⟨a1, a2⟩, ⟨b1, b2⟩, ⟨c1, c2⟩, ⟨d1, d2⟩, ⟨e1, e2⟩, ⟨f1, f2⟩⟩ := h
  have h1 : decide (c.id < 0) = false := by simp; omega
  have h2 : decide (281474976710656 ≤ c.id) = false := by simp; omega
  have h3 : decide (c.port < 0) = false := by simp; omega
  have h4 : decide (65535 < c.port) = false := by simp; omega
  have h5 : decide (c.most < 0) = false := by simp; omega
  have h6 : decide (1099511627776 < c.most) = false := by simp; omega
  have h7 : decide (c.slack < 0) = false := by simp; omega
  have h8 : decide (1099511627776 < c.slack) = false := by simp; omega
  have h9 : decide (c.window < 1) = false := by simp; omega
  have h10 : decide (32 < c.window) = false := by simp; omega
  have h11 : decide (c.lost < 1) = false := by simp; omega
  have h12 : decide (100 < c.lost) = false := by simp; omega
  have L := (Below.refl w.heap.size w).alloc (Nat.le_refl _) (.cells (cfc c) 75)
  clear a1 a2 b1 b2 c1 c2 d1 d2 e1 e2 f1 f2
  unfold cfc at *
  go_enter Try.func54, Try.ntmps54
  go_wp2_with fail
  go_ret
  exact ⟨rfl, L⟩
def peNew (c : Cf) : Pe := ⟨c, 0, false, false, 0, false, 0, 0, none, 0, 0, 2199023255552, 0, 0, 0⟩
set_option maxRecDepth 100000 in
set_option maxHeartbeats 2000000 in
theorem penew_ok (c : Cf) (h : c.Right) (w : World) : Calls Try.prog 42 #[.agg (cfc c)] w fun e w' => ∃ g, e = .returned (.tuple #[.pointer (some ⟨g, 0, none⟩), .int .i64 0]) ∧ PeIn w' g (peNew c) ∧ w.heap.size ≤ g ∧ Below w.heap.size w w' := by
  have L := (Below.refl w.heap.size w).alloc (Nat.le_refl _) (.cells (cfc c) 75)
  have B := Blk.new w 75 (cfc c)
  have z : w.heap.size < (w.alloc (.cells (cfc c) 75)).heap.size := by simp
  have HC := Lib.hid (fun W => cfcheck_ok c h W)
  have HU : Hid (cfc c = #[.int .i64 c.id, .int .i64 c.port, .int .i64 c.most, .int .i64 c.slack, .int .i64 c.window, .int .i64 c.lost]) := Lib.hid rfl
  clear h
  rw [show (#[Value.agg (cfc c)] : Array Value) = #[.agg #[.int .i64 c.id, .int .i64 c.port, .int .i64 c.most, .int .i64 c.slack, .int .i64 c.window, .int .i64 c.lost]] from rfl]
  go_enter Try.func42, Try.ntmps42
  go_wp2_with fail
  refine (HC.out _).mono ?_
  rintro e w2 ⟨rfl, L2⟩
  have B2 := B.below L2 z
  have LL := L.trans (L2.mono (by simp))
  have z2 := LL.size
  have y0 := B2.cellOf (v := .int .i64 c.id) 0 rfl
  have y1 := B2.cellOf (v := .int .i64 c.port) 1 rfl
  have y2 := B2.cellOf (v := .int .i64 c.most) 2 rfl
  have y3 := B2.cellOf (v := .int .i64 c.slack) 3 rfl
  have y4 := B2.cellOf (v := .int .i64 c.window) 4 rfl
  have y5 := B2.cellOf (v := .int .i64 c.lost) 5 rfl
  clear B L L2 B2
  go_wp2_with fail
  go_ret2
  exact ⟨_, rfl, Blk.new _ _ _, z2, LL.alloc z2 _⟩
/-- An answer that failed. -/
def failP (p : Pe) : Pe :=
  if p.cf.lost ≤ p.bad + 1 then { p with asked := false, sent := false, half := false, good := 0, bad := p.cf.lost, mA := none, mn := 0, mc := 0, rate := 2199023255552, delay := 0 }
  else { p with asked := false, sent := false, half := false, good := 0, bad := p.bad + 1 }
/-- Its first steps. -/
def fail0 (p : Pe) : Pe := { p with asked := false, sent := false, half := false, good := 0, bad := p.bad + 1 }
def fail1 (p : Pe) : Pe := { p with bad := p.cf.lost, mA := none, mn := 0, mc := 0, rate := 2199023255552, delay := 0 }
theorem failP_is (p : Pe) : failP p = if p.cf.lost ≤ p.bad + 1 then fail1 (fail0 p) else fail0 p := rfl
set_option maxRecDepth 100000 in
set_option maxHeartbeats 4000000 in
theorem fail_any (p : Pe) (g : Nat) (w : World) (B : PeIn w g p) (hb : 0 ≤ p.bad ∧ p.bad ≤ 100) : Calls Try.prog 66 #[.pointer (some ⟨g, 0, none⟩)] w fun e w' => e = .returned (.tuple #[]) ∧ PeIn w' g (failP p) ∧ w.grownBy w' (some g) := by
  have y5 := B.cellOf (v := .int .i64 p.cf.lost) 5 rfl
  have y7 := B.cellOf (v := .bool p.asked) 7 rfl
  have y8 := B.cellOf (v := .bool p.sent) 8 rfl
  have y10 := B.cellOf (v := .bool p.half) 10 rfl
  have y16 := B.cellOf (v := .int .i64 p.good) 16 rfl
  have y17 := B.cellOf (v := .int .i64 p.bad) 17 rfl
  have fz := B.frozen
  obtain ⟨b1, hb1⟩ : ∃ b1, b1 = p.bad + 1 := ⟨_, rfl⟩
  have hw : IntKind.i64.wrap (p.bad + 1) = b1 := by rw [hb1]; exact wrap_of (by omega) (by omega)
  have B5 : PeIn (((((w.setCell ⟨g, 7, none⟩ (.bool false)).setCell ⟨g, 8, none⟩ (.bool false)).setCell ⟨g, 10, none⟩ (.bool false)).setCell ⟨g, 16, none⟩ (.int .i64 0)).setCell ⟨g, 17, none⟩ (.int .i64 b1)) g (fail0 p) := by
    rw [hb1]
    exact ((((B.set_ 7 (.bool false)).set_ 8 (.bool false)).set_ 10 (.bool false)).set_ 16 (.int .i64 0)).set_ 17 (.int .i64 (p.bad + 1))
  have G5 : w.grownBy (((((w.setCell ⟨g, 7, none⟩ (.bool false)).setCell ⟨g, 8, none⟩ (.bool false)).setCell ⟨g, 10, none⟩ (.bool false)).setCell ⟨g, 16, none⟩ (.int .i64 0)).setCell ⟨g, 17, none⟩ (.int .i64 b1)) (some g) := gr_set (gr_set (gr_set (gr_set (gr_set (grownBy_refl w (some g)) 7 (.bool false)) 8 (.bool false)) 10 (.bool false)) 16 (.int .i64 0)) 17 (.int .i64 b1)
  have HB := Lib.hid (And.intro B5 G5)
  have HF := Lib.hid (failP_is p)
  have HB1 := Lib.hid hb1
  clear B5 G5 B hb1 hb
  go_enter Try.func66, Try.ntmps66
  go_wp2_with fail
  clear y5 y7 y8 y10 y16 y17 fz hw
  have hB := HB.out
  clear HB
  generalize ((((w.setCell ⟨g, 7, none⟩ (.bool false)).setCell ⟨g, 8, none⟩ (.bool false)).setCell ⟨g, 10, none⟩ (.bool false)).setCell ⟨g, 16, none⟩ (.int .i64 0)).setCell ⟨g, 17, none⟩ (.int .i64 b1) = w5 at *
  obtain ⟨B5, G5⟩ := hB
  have y5 := B5.cellOf (v := .int .i64 p.cf.lost) 5 rfl
  have y17 := B5.cellOf (v := .int .i64 b1) 17 (by rw [HB1.out]; rfl)
  have s5 := B5.lt
  have HB5 := Lib.hid (And.intro B5 G5)
  clear B5 G5
  refine wp_region_class (fun w' => Below w5.heap.size w5 w') (by kernel_rfl) (by kernel_rfl) (Below.refl _ _).drew ?_
  repeat (first | (refine wpQuiet_skip ?_ ?_; rfl; simp only [Act.put, List.setIfInBounds_toArray, List.set_cons_zero, List.set_cons_succ]) | (refine wpQuiet_val (v := ?_) ?_ ?_ ?_; rotate_left; rfl; (intro w' hw'; obtain ⟨hc, hf⟩ := bcell hw'; go_simp; with_reducible rfl); simp only [Act.put, List.setIfInBounds_toArray, List.set_cons_zero, List.set_cons_succ]))
  refine wpQuiet_nil ?_
  intro w6 hw6
  have B6 : PeIn w6 g (fail0 p) := HB5.out.1.kept hw6
  have G6 := gr_trans HB5.out.2 (gr_below hw6 (some g))
  clear HB5 y5 y17 s5 hw6
  by_cases hl : p.cf.lost ≤ b1
  · have dl : decide (p.cf.lost ≤ b1) = true := by simpa using hl
    have HF2 := Lib.hid (show failP p = fail1 (fail0 p) by rw [HF.out, if_pos (by rw [← HB1.out]; exact hl)])
    have z5 := B6.cellOf (v := .int .i64 p.cf.lost) 5 rfl
    have z13 := B6.cellOf (v := .slice p.mA p.mn p.mc) 13 rfl
    have z14 := B6.cellOf (v := .int .i64 p.rate) 14 rfl
    have z15 := B6.cellOf (v := .int .i64 p.delay) 15 rfl
    have z17 := B6.cellOf (v := .int .i64 b1) 17 (by rw [HB1.out]; rfl)
    have fz := B6.frozen
    have B9 : PeIn _ g (fail1 (fail0 p)) := (((B6.set_ 17 (.int .i64 p.cf.lost)).set_ 13 (.slice none 0 0)).set_ 14 (.int .i64 2199023255552)).set_ 15 (.int .i64 0)
    have G9 := gr_set (gr_set (gr_set (gr_set G6 17 (.int .i64 p.cf.lost)) 13 (.slice none 0 0)) 14 (.int .i64 2199023255552)) 15 (.int .i64 0)
    have HB9 := Lib.hid (And.intro B9 G9)
    clear B9 G9 B6 G6 HF dl
    go_wp2_with fail
    exact bodyPost_end (results_none rfl _ _ _) rfl ⟨rfl, by rw [HF2.out]; exact HB9.out.1, HB9.out.2⟩
  · have dl : decide (p.cf.lost ≤ b1) = false := by simpa using hl
    have HF2 := Lib.hid (show failP p = fail0 p by rw [HF.out, if_neg (by rw [← HB1.out]; exact hl)])
    have hl2 : b1 < p.cf.lost := by omega
    clear hl HF
    go_wp2_with fail
    exact bodyPost_end (results_none rfl _ _ _) rfl ⟨rfl, by rw [HF2.out]; exact B6, G6⟩
end Go.Proofs.Ytbkflmeijjcnhaa
