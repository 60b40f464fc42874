/-
  Layer 18: the document's example; the clock's functions as a law meets them.
-/
import Derived.Test.YtjjpmckefglhnaaSyncL
namespace Go.Proofs.Ytjjpmckefglhnaa
open Go.RowKit Go.WideShapes Go.ChangeShapes
attribute [local go_sem ↓] Go.wp_at_zero Go.wp_at_succ

section
variable {H : Type} {enc : TypeId × Value → H} {P : Program} {w : World} {base : Nat} {spare : Nat → Bool} {held : Bool}
theorem trodAll_five {t0 t1 t2 t3 t4 : TypeId} {args : Array Value} {ds : List (DataW H)} {ps : List MemPlace} (h : DataW.TrodAll enc P w base spare held [t0, t1, t2, t3, t4] args.toList ds ps) :
    ∃ v0 v1 v2 v3 v4 d0 d1 d2 d3 d4 p0 p1 p2 p3 p4, args = #[v0, v1, v2, v3, v4] ∧ ds = [d0, d1, d2, d3, d4] ∧ ps = p0 ++ p1 ++ p2 ++ p3 ++ p4 ∧ DataW.Trod enc P w base spare held t0 v0 d0 p0 ∧ DataW.Trod enc P w base spare held t1 v1 d1 p1 ∧ DataW.Trod enc P w base spare held t2 v2 d2 p2 ∧ DataW.Trod enc P w base spare held t3 v3 d3 p3 ∧ DataW.Trod enc P w base spare held t4 v4 d4 p4 := by
  obtain ⟨v0, vs0, d0, ds0, p0, q0, hargs, rfl, rfl, hd0, hr0⟩ := trodAll_cons h
  obtain ⟨v1, vs1, d1, ds1, p1, q1, rfl, rfl, rfl, hd1, hr1⟩ := trodAll_cons hr0
  obtain ⟨v2, vs2, d2, ds2, p2, q2, rfl, rfl, rfl, hd2, hr2⟩ := trodAll_cons hr1
  obtain ⟨v3, vs3, d3, ds3, p3, q3, rfl, rfl, rfl, hd3, hr3⟩ := trodAll_cons hr2
  obtain ⟨v4, vs4, d4, ds4, p4, q4, rfl, rfl, rfl, hd4, hr4⟩ := trodAll_cons hr3
  obtain ⟨rfl, rfl, rfl⟩ := trodAll_nil hr4
  exact ⟨v0, v1, v2, v3, v4, d0, d1, d2, d3, d4, p0, p1, p2, p3, p4, by cases args; simp_all, rfl, by simp, hd0, hd1, hd2, hd3, hd4⟩
theorem trodAll_six {t0 t1 t2 t3 t4 t5 : TypeId} {args : Array Value} {ds : List (DataW H)} {ps : List MemPlace} (h : DataW.TrodAll enc P w base spare held [t0, t1, t2, t3, t4, t5] args.toList ds ps) :
    ∃ v0 v1 v2 v3 v4 v5 d0 d1 d2 d3 d4 d5 p0 p1 p2 p3 p4 p5, args = #[v0, v1, v2, v3, v4, v5] ∧ ds = [d0, d1, d2, d3, d4, d5] ∧ ps = p0 ++ p1 ++ p2 ++ p3 ++ p4 ++ p5 ∧ DataW.Trod enc P w base spare held t0 v0 d0 p0 ∧ DataW.Trod enc P w base spare held t1 v1 d1 p1 ∧ DataW.Trod enc P w base spare held t2 v2 d2 p2 ∧ DataW.Trod enc P w base spare held t3 v3 d3 p3 ∧ DataW.Trod enc P w base spare held t4 v4 d4 p4 ∧ DataW.Trod enc P w base spare held t5 v5 d5 p5 := by
  obtain ⟨v0, vs0, d0, ds0, p0, q0, hargs, rfl, rfl, hd0, hr0⟩ := trodAll_cons h
  obtain ⟨v1, vs1, d1, ds1, p1, q1, rfl, rfl, rfl, hd1, hr1⟩ := trodAll_cons hr0
  obtain ⟨v2, vs2, d2, ds2, p2, q2, rfl, rfl, rfl, hd2, hr2⟩ := trodAll_cons hr1
  obtain ⟨v3, vs3, d3, ds3, p3, q3, rfl, rfl, rfl, hd3, hr3⟩ := trodAll_cons hr2
  obtain ⟨v4, vs4, d4, ds4, p4, q4, rfl, rfl, rfl, hd4, hr4⟩ := trodAll_cons hr3
  obtain ⟨v5, vs5, d5, ds5, p5, q5, rfl, rfl, rfl, hd5, hr5⟩ := trodAll_cons hr4
  obtain ⟨rfl, rfl, rfl⟩ := trodAll_nil hr5
  exact ⟨v0, v1, v2, v3, v4, v5, d0, d1, d2, d3, d4, d5, p0, p1, p2, p3, p4, p5, by cases args; simp_all, rfl, by simp, hd0, hd1, hd2, hd3, hd4, hd5⟩
end
section
variable {c c' : Ck} {g : Nat} {m : Mg} {at_ x : Int} {w : World}
theorem sync_run (h : syncV c m at_ = (x, c')) (hp : m.path = []) (B : CkIn w g c) : Calls Try.prog 23 #[.pointer (some ⟨g, 0, none⟩), .agg (mcells m none 0 0), .int .i64 at_] w fun e w' => e = .returned (.int .i64 x) ∧ CkIn w' g c' ∧ w.grownBy w' (some g) := by
  have := sync_any c g m none 0 0 at_ w B (MsgIn.bare hp)
  rw [h] at this
  exact this
theorem foll_run {delay ratio : Int} (h : follV c m delay ratio = (x, c')) (hp : m.path = []) (hw : m.Wf) (hd : I64 delay) (hr : I64 ratio) (B : CkIn w g c) : Calls Try.prog 24 #[.pointer (some ⟨g, 0, none⟩), .agg (mcells m none 0 0), .int .i64 delay, .int .i64 ratio] w fun e w' => e = .returned (.int .i64 x) ∧ CkIn w' g c' ∧ w.grownBy w' (some g) := by
  have := follow_any c g m none 0 0 delay ratio w B (MsgIn.bare hp) hw hd hr
  rw [h] at this
  exact this
theorem at_run {b : Bool} (h : atV c at_ = (x, b)) (hw : c.Wf) (hn : I64 at_) (B : CkIn w g c) : Calls Try.prog 20 #[.pointer (some ⟨g, 0, none⟩), .int .i64 at_] w fun e w' => e = .returned (.tuple #[.int .i64 x, .bool b]) ∧ CkIn w' g c ∧ Below w.heap.size w w' := by
  have := at_any c g at_ w B hw hn
  rw [h] at this
  exact this.mono fun e w' hh => ⟨hh.1, B.kept hh.2, hh.2⟩
theorem own_run {on : Bool} (h : ownV c on at_ = c') (hw : c.Wf) (hn : I64 at_) (B : CkIn w g c) : Calls Try.prog 25 #[.pointer (some ⟨g, 0, none⟩), .bool on, .int .i64 at_] w fun e w' => e = .returned (.tuple #[]) ∧ CkIn w' g c' ∧ w.grownBy w' (some g) := by
  have := own_any c g on at_ w B hw hn
  rw [h] at this
  exact this
theorem tell_run {seq src port : Int} {b : Bool} (h : tellV c seq src port at_ = (m, b)) (hw : c.Wf) (hn : I64 at_) (B : CkIn w g c) : Calls Try.prog 26 #[.pointer (some ⟨g, 0, none⟩), .int .i64 seq, .int .i64 src, .int .i64 port, .int .i64 at_] w fun e w' => e = .returned (.tuple #[.agg (mcells m none 0 0), .bool b]) ∧ CkIn w' g c ∧ Below w.heap.size w w' := by
  have := tell_any c g seq src port at_ w B hw hn
  rw [h] at this
  exact this.mono fun e w' hh => ⟨hh.1, B.kept hh.2, hh.2⟩
theorem fresh_run {most : Int} {b : Bool} (h : freshV c at_ most = b) (hw : c.Wf) (hn : I64 at_) (B : CkIn w g c) : Calls Try.prog 19 #[.pointer (some ⟨g, 0, none⟩), .int .i64 at_, .int .i64 most] w fun e w' => e = .returned (.bool b) ∧ w = w' := by
  have := fresh_any c g at_ most w B hw hn
  rw [h] at this
  exact this
theorem new_run (d : Int) (w : World) : Calls Try.prog 17 #[.int .i64 d] w fun e w' => e = .returned (.pointer (some ⟨w.heap.size, 0, none⟩)) ∧ CkIn w' w.heap.size (ckNew d) ∧ w.heap.size < w'.heap.size ∧ Below w.heap.size w w' :=
  (new_any d w).mono fun e w' hh => ⟨hh.1, by rw [← hh.2]; exact Blk.new _ _ _, by rw [← hh.2]; simp, by rw [← hh.2]; exact (Below.refl _ _).alloc (Nat.le_refl _) _⟩
end
theorem i64_of {y : Int} (h1 : 0 ≤ y) (h2 : y < 9223372036854775808) : I64 y := by unfold I64; omega
theorem wrap_of {y : Int} (h1 : -9223372036854775808 ≤ y) (h2 : y < 9223372036854775808) : IntKind.i64.wrap y = y := IntWalk.i64_in _ ⟨h1, by omega⟩

theorem own : ownKnob Try.prog.godebug = none := by kernel_rfl
theorem laidOut : laidOutB Try.prog = true := by kernel_rfl
end Go.Proofs.Ytjjpmckefglhnaa
