/-
  Layer 17: a link that is measured: Sent, Down, mine.
-/
import Derived.Test.YtbkflmeijjcnhaaPeerB
namespace Go.Proofs.Ytbkflmeijjcnhaa
set_option linter.unusedSimpArgs false
set_option linter.unusedVariables false
open Go.RowKit Go.WideShapes Go.ChangeShapes
attribute [local go_sem ↓] Go.wp_at_zero Go.wp_at_succ

theorem sent_yes (p : Pe) (g : Nat) (at_ : Int) (w : World) (B : PeIn w g p) (ha : p.asked = true) : Calls Try.prog 45 #[.pointer (some ⟨g, 0, none⟩), .int .i64 p.seq, .int .i64 at_] w fun e w' => e = .returned (.tuple #[]) ∧ PeIn w' g { p with sent := true, t1 := at_ } ∧ w.grownBy w' (some g) := by
  have y6 := B.cellOf (v := .int .i64 p.seq) 6 rfl
  have y7 := B.cellOf (v := .bool true) 7 (by rw [← ha]; rfl)
  have y8 := B.cellOf (v := .bool p.sent) 8 rfl
  have y9 := B.cellOf (v := .int .i64 p.t1) 9 rfl
  have fz := B.frozen
  have B2 : PeIn _ g { p with sent := true, t1 := at_ } := (B.set_ 8 (.bool true)).set_ 9 (.int .i64 at_)
  have G2 := gr_set (gr_set (grownBy_refl w (some g)) 8 (.bool true)) 9 (.int .i64 at_)
  have HB := Lib.hid (And.intro B2 G2)
  clear B2 G2 B ha
  go_enter Try.func45, Try.ntmps45
  go_wp2_with fail
  exact bodyPost_end (results_none rfl _ _ _) rfl ⟨rfl, HB.out.1, HB.out.2⟩
theorem sent_no (p : Pe) (g : Nat) (seq at_ : Int) (w : World) (B : PeIn w g p) (hs : seq ≠ p.seq) : Calls Try.prog 45 #[.pointer (some ⟨g, 0, none⟩), .int .i64 seq, .int .i64 at_] w fun e w' => e = .returned (.tuple #[]) ∧ w = w' := by
  have y6 := B.cellOf (v := .int .i64 p.seq) 6 rfl
  have y7 := B.cellOf (v := .bool p.asked) 7 rfl
  have b1 : (seq == p.seq) = false := beq_eq_false_iff_ne.2 hs
  clear hs B
  cases ha : p.asked with
  | true =>
    rw [ha] at y7
    clear ha
    go_enter Try.func45, Try.ntmps45
    go_wp2_with fail
    exact bodyPost_end (results_none rfl _ _ _) rfl ⟨rfl, rfl⟩
  | false =>
    rw [ha] at y7
    clear ha
    go_enter Try.func45, Try.ntmps45
    go_wp2_with fail
    exact bodyPost_end (results_none rfl _ _ _) rfl ⟨rfl, rfl⟩
def downP (p : Pe) : Pe := { peNew p.cf with seq := p.seq }
set_option maxRecDepth 100000 in
set_option maxHeartbeats 2000000 in
theorem down_any (p : Pe) (g : Nat) (w : World) (B : PeIn w g p) : Calls Try.prog 53 #[.pointer (some ⟨g, 0, none⟩)] w fun e w' => e = .returned (.tuple #[]) ∧ PeIn w' g (downP p) ∧ w.grownBy w' (some g) := by
  have y0 := B.cellOf (v := .int .i64 p.cf.id) 0 rfl
  have y1 := B.cellOf (v := .int .i64 p.cf.port) 1 rfl
  have y2 := B.cellOf (v := .int .i64 p.cf.most) 2 rfl
  have y3 := B.cellOf (v := .int .i64 p.cf.slack) 3 rfl
  have y4 := B.cellOf (v := .int .i64 p.cf.window) 4 rfl
  have y5 := B.cellOf (v := .int .i64 p.cf.lost) 5 rfl
  have y6 := B.cellOf (v := .int .i64 p.seq) 6 rfl
  have sg := B.lt
  have HB := Lib.hid B
  clear B
  go_enter Try.func53, Try.ntmps53
  go_wp2_with fail
  refine wp_region_class_tail 10 (fun w' => Below w.heap.size w w') (by kernel_rfl) (by kernel_rfl) (Below.refl _ _).drew ?_; simp only [List.take_succ_cons, List.take_zero, List.drop_succ_cons, List.drop_zero]
  repeat (first | (refine wpQuiet_skip ?_ ?_; rfl; simp only [Act.put, List.setIfInBounds_toArray, List.set_cons_zero, List.set_cons_succ]) | (refine wpQuiet_val (v := ?_) ?_ ?_ ?_; rotate_left; rfl; (intro w' hw'; obtain ⟨hc, hf⟩ := bcell hw'; go_simp; with_reducible rfl); simp only [Act.put, List.setIfInBounds_toArray, List.set_cons_zero, List.set_cons_succ]))
  refine wpQuiet_nil ?_
  intro w4 hw4
  have B4 := HB.out.kept hw4
  have G4 := gr_below hw4 (some g)
  clear y0 y1 y2 y3 y4 y5 y6 sg hw4 HB
  go_wp2_with (refine wpList_store_part rfl 103 (.tmp 14) (.tmp 13) rfl (off := 0) (cs := pec (downP p)) rfl B4 rfl (show 0 + 18 ≤ 18 by omega) (by kernel_rfl) (by rw [← Array.all_toList]; rfl) ?_; intro w7 R7 z7 g7)
  rw [putAll_whole (show (pec p).size = (pec (downP p)).size from rfl)] at R7
  exact bodyPost_end (results_none rfl _ _ _) rfl ⟨rfl, R7, gr_trans G4 g7⟩
set_option maxRecDepth 100000 in
set_option maxHeartbeats 4000000 in
theorem mine_yes (p : Pe) (g : Nat) (m : Mg) (A : Option Addr) (n cc : Nat) (w : World) (B : PeIn w g p) (hm : MsgIn w w.heap.size m A n) (ha : p.asked = true) (hs : p.sent = true) (hc : checkV m = 0) (h1 : m.seq = p.seq) (h2 : m.to = p.cf.id) (h3 : m.toPort = p.cf.port) :
    Calls Try.prog 67 #[.pointer (some ⟨g, 0, none⟩), .agg (mcells m A n cc)] w fun e w' => e = .returned (.bool true) ∧ Below w.heap.size w w' := by
  have B0 : PeIn (w.alloc (.cells (mcells m A n cc) 33)) g p := B.alloc _
  have M0 := Blk.new w 33 (mcells m A n cc)
  have L0 := (Below.refl w.heap.size w).alloc (Nat.le_refl _) (.cells (mcells m A n cc) 33)
  have hm0 : MsgIn (w.alloc (.cells (mcells m A n cc) 33)) (w.alloc (.cells (mcells m A n cc) 33)).heap.size m A n := ⟨(hm.reads.alloc (Nat.le_refl _) _).more (by simp), hm.len, hm.most⟩
  have s0 : w.heap.size < (w.alloc (.cells (mcells m A n cc) 33)).heap.size := by simp
  have sg := B0.lt
  have x2 := M0.cellOf (v := .int .i64 p.seq) 2 (by rw [← h1]; rfl)
  have x7 := M0.cellOf (v := .int .i64 p.cf.id) 7 (by rw [← h2]; rfl)
  have x8 := M0.cellOf (v := .int .i64 p.cf.port) 8 (by rw [← h3]; rfl)
  have y0 := B0.cellOf (v := .int .i64 p.cf.id) 0 rfl
  have y1 := B0.cellOf (v := .int .i64 p.cf.port) 1 rfl
  have y6 := B0.cellOf (v := .int .i64 p.seq) 6 rfl
  have y7 := B0.cellOf (v := .bool true) 7 (by rw [← ha]; rfl)
  have y8 := B0.cellOf (v := .bool true) 8 (by rw [← hs]; rfl)
  have HC : Hid (∀ W, MsgIn W W.heap.size m A n → Calls Try.prog 56 #[.agg (mcells m A n cc)] W fun e w' => e = .returned (.int .i64 0) ∧ Below W.heap.size W w') := Lib.hid fun W h => by
    have := check_m m A n cc W h.reads h.len h.most
    rw [hc] at this
    exact this
  clear B hm ha hs hc h1 h2 h3 B0
  go_enter Try.func67, Try.ntmps67
  go_wp2_with fail
  generalize w.alloc (.cells (mcells m A n cc) 33) = w0 at *
  refine wp_region_class (fun w' => Below w0.heap.size w0 w') (by kernel_rfl) (by kernel_rfl) (Below.refl _ _).drew ?_
  repeat (first | (refine wpQuiet_skip ?_ ?_; rfl; simp only [Act.put, List.setIfInBounds_toArray, List.set_cons_zero, List.set_cons_succ]) | (refine wpQuiet_val (v := .agg (mcells m A n cc)) ?_ (fun w' hw' => run_load_whole 33 (.tmp 3) rfl rfl (M0.below hw' s0) Try.underlying33 rfl (by kernel_rfl)) ?_; (first | rfl | (go_simp; done)); simp only [Act.put, List.setIfInBounds_toArray, List.set_cons_zero, List.set_cons_succ]) | (refine wpQuiet_val (v := ?_) ?_ ?_ ?_; rotate_left; rfl; (intro w' hw'; obtain ⟨hc, hf⟩ := bcell hw'; go_simp; with_reducible rfl); simp only [Act.put, List.setIfInBounds_toArray, List.set_cons_zero, List.set_cons_succ]) | (refine wpQuiet_call (v := ?_) 56 ?_ ?_ ?_ ?_ ?_; rotate_left 2; (first | rfl | (go_simp; done)); (intro w' hw'; obtain ⟨hc, hf⟩ := bcell hw'; go_simp; with_reducible rfl); (intro w' hw'; (with_reducible refine (HC.out _ ((hm0.below hw').more hw'.size)).mono ?_); rintro e w2 ⟨rfl, hb⟩; refine ⟨?_, hw'.trans (hb.mono (by have h0 := hw'.size; first | omega | (simp at h0; omega)))⟩; with_reducible rfl); simp only [Act.put, List.setIfInBounds_toArray, List.set_cons_zero, List.set_cons_succ]))
  refine wpQuiet_nil ?_
  intro w4 hw4
  have L4 := L0.trans (hw4.mono (by omega))
  clear x2 x7 x8 y0 y1 y6 y7 y8 s0 sg hw4 M0 L0 hm0 HC
  go_wp2_with fail
  go_ret
  exact ⟨rfl, L4⟩
end Go.Proofs.Ytbkflmeijjcnhaa
