/-
  Layer 17: a link that is measured: Ask, Sent, Able, Delay, Rate, Down.
-/
import Derived.Test.YtbkflmeijjcnhaaPeerA
namespace Go.Proofs.Ytbkflmeijjcnhaa
set_option linter.unusedSimpArgs false
set_option linter.unusedVariables false
open Go.RowKit Go.WideShapes Go.ChangeShapes
attribute [local go_sem ↓] Go.wp_at_zero Go.wp_at_succ

def askP (p : Pe) : Pe := { (if p.asked = true then failP p else p) with seq := (p.seq + 1) % 65536, asked := true }
def askM (p : Pe) : Mg := ⟨2, 0, (p.seq + 1) % 65536, p.cf.id, p.cf.port, 0, 0, 0, 0, 0, 0, 0, 0, 0, 0, []⟩
theorem failP_seq (p : Pe) : (failP p).seq = p.seq := by unfold failP; split <;> rfl
theorem failP_cf (p : Pe) : (failP p).cf = p.cf := by unfold failP; split <;> rfl
set_option maxHeartbeats 1000000 in
theorem ask_end {a : Act} {w' : World} {g : Nat} {m : Mg} {b : Bool} {Q : Ending → World → Prop} (hd : a.defers = []) (h2 : a.eval (.tmp 2) = .pointer (some ⟨g, 0, none⟩)) (h3 : a.eval (.tmp 3) = .bool b)
    (R : Blk w' g 33 (mcells m none 0 0)) (h : Q (.returned (.tuple #[.agg (mcells m none 0 0), .bool b])) w') : bodyPost Try.prog Try.f44 Q Exit.ret a w' := by
  obtain ⟨y0, y1, y2, y3, y4, y5, y6, y7, y8, y9, y10, y11, y12, y13, y14, y15⟩ := mcells_at R
  refine bodyPost_ret (v := .tuple #[.agg (mcells m none 0 0), .bool b]) ?_ hd h
  simp only [Act.eval, Array.getD_eq_getD_getElem?] at h2 h3
  simp [results, Try.results44, go_sem, mcells, h2, h3, y0, y1, y2, y3, y4, y5, y6, y7, y8, y9, y10, y11, y12, y13, y14, y15]
set_option maxRecDepth 100000 in
set_option maxHeartbeats 4000000 in
theorem ask_any (p : Pe) (g : Nat) (w : World) (B : PeIn w g p) (hb : 0 ≤ p.bad ∧ p.bad ≤ 100) (hs : 0 ≤ p.seq ∧ p.seq < 65536) : Calls Try.prog 44 #[.pointer (some ⟨g, 0, none⟩)] w fun e w' => e = .returned (.tuple #[.agg (mcells (askM p) none 0 0), .bool true]) ∧ PeIn w' g (askP p) ∧ w.grownBy w' (some g) := by
  have B0 : PeIn (w.alloc (.cells (mcells zeroM none 0 0) 33)) g p := B.alloc _
  have Z0 : Blk (w.alloc (.cells (mcells zeroM none 0 0) 33)) w.heap.size 33 (mcells zeroM none 0 0) := Blk.new _ _ _
  have G0 := gr_new (grownBy_refl w (some g)) (.cells (mcells zeroM none 0 0) 33)
  have hne : g < w.heap.size := B.lt
  have HF := Lib.hid (fun W B => fail_any p g W B hb)
  have e1 : bits .and .i64 (p.seq + 1) 65535 = (p.seq + 1) % 65536 := andI (p.seq + 1) 16 (by omega) _ rfl
  obtain ⟨s1, hs1⟩ : ∃ s1, s1 = (p.seq + 1) % 65536 := ⟨_, rfl⟩
  have f1 : IntKind.i64.wrap (p.seq + 1) = p.seq + 1 := wrap_of (by omega) (by omega)
  rw [← hs1] at e1
  have HM : Hid (askM p = ⟨2, 0, s1, p.cf.id, p.cf.port, 0, 0, 0, 0, 0, 0, 0, 0, 0, 0, []⟩) := Lib.hid (by rw [hs1]; rfl)
  have HP : Hid (askP p = { (if p.asked = true then failP p else p) with seq := s1, asked := true }) := Lib.hid (by rw [hs1]; rfl)
  have y7 := B0.cellOf (v := .bool p.asked) 7 rfl
  clear B hb hs hs1
  cases ha : p.asked with
  | false =>
    rw [ha] at y7
    obtain ⟨q, hq⟩ : ∃ q, q = p := ⟨_, rfl⟩
    have hqs : q.seq = p.seq := by rw [hq]
    have hqc : q.cf = p.cf := by rw [hq]
    have hqp : (if p.asked = true then failP p else p) = q := by rw [ha, hq]; rfl
    have Bq : PeIn (w.alloc (.cells (mcells zeroM none 0 0) 33)) g q := by rw [hq]; exact B0
    have Gq := G0
    have Zq := Z0
    clear hq HF B0 G0 Z0
    go_enter Try.func44, Try.ntmps44
    obtain ⟨w1, hw1⟩ : ∃ w1, w1 = w.alloc (.cells (mcells zeroM none 0 0) 33) := ⟨_, rfl⟩
    have hw1' : w.alloc (.cells #[.int .i64 0, .int .i64 0, .int .i64 0, .int .i64 0, .int .i64 0, .int .i64 0, .int .i64 0, .int .i64 0, .int .i64 0, .int .i64 0, .int .i64 0, .int .i64 0, .int .i64 0, .int .i64 0, .int .i64 0, .slice none 0 0] 33) = w1 := hw1.symm
    rw [← hw1] at Bq Gq Zq y7
    clear hw1

    have c0 := Bq.cellOf (v := .int .i64 q.cf.id) 0 rfl
    have c1 := Bq.cellOf (v := .int .i64 q.cf.port) 1 rfl
    have c6 := Bq.cellOf (v := .int .i64 q.seq) 6 rfl
    have c7 := Bq.cellOf (v := .bool q.asked) 7 rfl
    have fz := Bq.frozen
    rw [hqs] at c6
    rw [hqc] at c0 c1
    have B5 : PeIn ((w1.setCell ⟨g, 6, none⟩ (.int .i64 s1)).setCell ⟨g, 7, none⟩ (.bool true)) g { q with seq := s1, asked := true } := (Bq.set_ 6 (.int .i64 s1)).set_ 7 (.bool true)
    have G5 := gr_set (gr_set Gq 6 (.int .i64 s1)) 7 (.bool true)
    have Z5 := (Zq.far (p := ⟨g, 6, none⟩) (by show w.heap.size ≠ g; omega) (.int .i64 s1)).far (p := ⟨g, 7, none⟩) (by show w.heap.size ≠ g; omega) (.bool true)
    have HB5 := Lib.hid (And.intro B5 (And.intro G5 Z5))
    clear B5 G5 Z5 Bq Gq Zq
    go_wp2_with fail
    clear c0 c1 c6 c7 fz e1 f1
    have hB5 := HB5.out
    clear HB5
    generalize (w1.setCell ⟨g, 6, none⟩ (.int .i64 s1)).setCell ⟨g, 7, none⟩ (.bool true) = w5 at *
    obtain ⟨B5, G5, Z5⟩ := hB5
    have d0 := B5.cellOf (v := .int .i64 q.cf.id) 0 rfl
    have d1 := B5.cellOf (v := .int .i64 q.cf.port) 1 rfl
    have d6 := B5.cellOf (v := .int .i64 s1) 6 rfl
    rw [hqc] at d0 d1
    have s5 := B5.lt
    have HB5 := Lib.hid (And.intro B5 (And.intro G5 Z5))
    clear B5 G5 Z5
    refine wp_region_class_tail 15 (fun w' => Below w5.heap.size w5 w') (by kernel_rfl) (by kernel_rfl) (Below.refl _ _).drew ?_; simp only [List.take_succ_cons, List.take_zero, List.drop_succ_cons, List.drop_zero]
    repeat (first | (refine wpQuiet_skip ?_ ?_; rfl; simp only [Act.put, List.setIfInBounds_toArray, List.set_cons_zero, List.set_cons_succ]) | (refine wpQuiet_val (v := ?_) ?_ ?_ ?_; rotate_left; rfl; (intro w' hw'; obtain ⟨hc, hf⟩ := bcell hw'; go_simp; with_reducible rfl); simp only [Act.put, List.setIfInBounds_toArray, List.set_cons_zero, List.set_cons_succ]))
    refine wpQuiet_nil ?_
    intro w6 hw6
    have B6 := HB5.out.1.kept hw6
    have G6 := gr_trans HB5.out.2.1 (gr_below hw6 (some g))
    have Z6 := HB5.out.2.2.kept hw6
    clear HB5 d0 d1 d6 s5 hw6
    go_wp2_with (refine wpList_store_part rfl 33 (.tmp 2) (.tmp 39) rfl (off := 0) (cs := mcells ⟨2, 0, s1, p.cf.id, p.cf.port, 0, 0, 0, 0, 0, 0, 0, 0, 0, 0, []⟩ none 0 0) rfl Z6 rfl (show 0 + 16 ≤ 16 by omega) (by kernel_rfl) (by rw [← Array.all_toList]; rfl) ?_; intro w7 R7 z7 g7)
    rw [putAll_whole (show (mcells zeroM none 0 0).size = (mcells ⟨2, 0, s1, p.cf.id, p.cf.port, 0, 0, 0, 0, 0, 0, 0, 0, 0, 0, []⟩ none 0 0).size from rfl)] at R7
    have B7 := B6.keep g7 (by omega)
    have G7 : w.grownBy w7 (some g) := ⟨g7.os.trans G6.os, g7.tape.trans G6.tape, g7.output.trans G6.output, Nat.le_trans G6.size g7.size, fun k hk hne2 => (g7.block k (by have := G6.size; omega) (by simp; omega)).trans (G6.block k hk hne2)⟩
    exact ask_end rfl rfl rfl R7 ⟨by rw [HM.out], by rw [HP.out, hqp]; exact B7, G7⟩
  | true =>
    rw [ha] at y7
    obtain ⟨q, hq⟩ : ∃ q, q = failP p := ⟨_, rfl⟩
    have hqs : q.seq = p.seq := by rw [hq]; exact failP_seq p
    have hqc : q.cf = p.cf := by rw [hq]; exact failP_cf p
    have hqp : (if p.asked = true then failP p else p) = q := by rw [ha, hq]; rfl
    go_enter Try.func44, Try.ntmps44
    obtain ⟨w0, hw0⟩ : ∃ w0, w0 = w.alloc (.cells (mcells zeroM none 0 0) 33) := ⟨_, rfl⟩
    have hw0' : w.alloc (.cells #[.int .i64 0, .int .i64 0, .int .i64 0, .int .i64 0, .int .i64 0, .int .i64 0, .int .i64 0, .int .i64 0, .int .i64 0, .int .i64 0, .int .i64 0, .int .i64 0, .int .i64 0, .int .i64 0, .int .i64 0, .slice none 0 0] 33) = w0 := hw0.symm
    rw [← hw0] at B0 G0 Z0 y7
    clear hw0
    go_wp2_with fail
    refine (HF.out _ B0).mono ?_
    rintro e w1 ⟨rfl, Bq, G1⟩
    rw [← hq] at Bq
    have Gq := gr_trans G0 G1
    have Zq := Z0.keep G1 (by omega)
    clear hq HF B0 Z0 G0 G1 y7 hw0'

    have c0 := Bq.cellOf (v := .int .i64 q.cf.id) 0 rfl
    have c1 := Bq.cellOf (v := .int .i64 q.cf.port) 1 rfl
    have c6 := Bq.cellOf (v := .int .i64 q.seq) 6 rfl
    have c7 := Bq.cellOf (v := .bool q.asked) 7 rfl
    have fz := Bq.frozen
    rw [hqs] at c6
    rw [hqc] at c0 c1
    have B5 : PeIn ((w1.setCell ⟨g, 6, none⟩ (.int .i64 s1)).setCell ⟨g, 7, none⟩ (.bool true)) g { q with seq := s1, asked := true } := (Bq.set_ 6 (.int .i64 s1)).set_ 7 (.bool true)
    have G5 := gr_set (gr_set Gq 6 (.int .i64 s1)) 7 (.bool true)
    have Z5 := (Zq.far (p := ⟨g, 6, none⟩) (by show w.heap.size ≠ g; omega) (.int .i64 s1)).far (p := ⟨g, 7, none⟩) (by show w.heap.size ≠ g; omega) (.bool true)
    have HB5 := Lib.hid (And.intro B5 (And.intro G5 Z5))
    clear B5 G5 Z5 Bq Gq Zq
    go_wp2_with fail
    clear c0 c1 c6 c7 fz e1 f1
    have hB5 := HB5.out
    clear HB5
    generalize (w1.setCell ⟨g, 6, none⟩ (.int .i64 s1)).setCell ⟨g, 7, none⟩ (.bool true) = w5 at *
    obtain ⟨B5, G5, Z5⟩ := hB5
    have d0 := B5.cellOf (v := .int .i64 q.cf.id) 0 rfl
    have d1 := B5.cellOf (v := .int .i64 q.cf.port) 1 rfl
    have d6 := B5.cellOf (v := .int .i64 s1) 6 rfl
    rw [hqc] at d0 d1
    have s5 := B5.lt
    have HB5 := Lib.hid (And.intro B5 (And.intro G5 Z5))
    clear B5 G5 Z5
    refine wp_region_class_tail 15 (fun w' => Below w5.heap.size w5 w') (by kernel_rfl) (by kernel_rfl) (Below.refl _ _).drew ?_; simp only [List.take_succ_cons, List.take_zero, List.drop_succ_cons, List.drop_zero]
    repeat (first | (refine wpQuiet_skip ?_ ?_; rfl; simp only [Act.put, List.setIfInBounds_toArray, List.set_cons_zero, List.set_cons_succ]) | (refine wpQuiet_val (v := ?_) ?_ ?_ ?_; rotate_left; rfl; (intro w' hw'; obtain ⟨hc, hf⟩ := bcell hw'; go_simp; with_reducible rfl); simp only [Act.put, List.setIfInBounds_toArray, List.set_cons_zero, List.set_cons_succ]))
    refine wpQuiet_nil ?_
    intro w6 hw6
    have B6 := HB5.out.1.kept hw6
    have G6 := gr_trans HB5.out.2.1 (gr_below hw6 (some g))
    have Z6 := HB5.out.2.2.kept hw6
    clear HB5 d0 d1 d6 s5 hw6
    go_wp2_with (refine wpList_store_part rfl 33 (.tmp 2) (.tmp 39) rfl (off := 0) (cs := mcells ⟨2, 0, s1, p.cf.id, p.cf.port, 0, 0, 0, 0, 0, 0, 0, 0, 0, 0, []⟩ none 0 0) rfl Z6 rfl (show 0 + 16 ≤ 16 by omega) (by kernel_rfl) (by rw [← Array.all_toList]; rfl) ?_; intro w7 R7 z7 g7)
    rw [putAll_whole (show (mcells zeroM none 0 0).size = (mcells ⟨2, 0, s1, p.cf.id, p.cf.port, 0, 0, 0, 0, 0, 0, 0, 0, 0, 0, []⟩ none 0 0).size from rfl)] at R7
    have B7 := B6.keep g7 (by omega)
    have G7 : w.grownBy w7 (some g) := ⟨g7.os.trans G6.os, g7.tape.trans G6.tape, g7.output.trans G6.output, Nat.le_trans G6.size g7.size, fun k hk hne2 => (g7.block k (by have := G6.size; omega) (by simp; omega)).trans (G6.block k hk hne2)⟩
    exact ask_end rfl rfl rfl R7 ⟨by rw [HM.out], by rw [HP.out, hqp]; exact B7, G7⟩

theorem delay_run (p : Pe) (g : Nat) (w : World) (B : PeIn w g p) : Calls Try.prog 47 #[.pointer (some ⟨g, 0, none⟩)] w fun e w' => e = .returned (.int .i64 p.delay) ∧ w = w' := by
  have y := B.cellOf (v := .int .i64 p.delay) 15 rfl
  clear B
  go_enter Try.func47, Try.ntmps47
  go_wp2_with fail
  go_ret
  exact ⟨rfl, rfl⟩
theorem perate_run (p : Pe) (g : Nat) (w : World) (B : PeIn w g p) : Calls Try.prog 50 #[.pointer (some ⟨g, 0, none⟩)] w fun e w' => e = .returned (.int .i64 p.rate) ∧ w = w' := by
  have y := B.cellOf (v := .int .i64 p.rate) 14 rfl
  clear B
  go_enter Try.func50, Try.ntmps50
  go_wp2_with fail
  go_ret
  exact ⟨rfl, rfl⟩
end Go.Proofs.Ytbkflmeijjcnhaa
