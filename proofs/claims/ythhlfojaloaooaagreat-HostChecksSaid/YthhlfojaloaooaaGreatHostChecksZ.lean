/-
  HostChecks: which stations there are. There are no conditions.
-/
import Derived.Test.YthhlfojaloaooaaGreatRows
import Derived.Test.YthhlfojaloaooaaGreatHnLcZ
import Derived.WalkKit
import Derived.ProofKit
import Derived.OpenShut
import Derived.LoopTactic
import Derived.WalkLawsBesides
import Derived.WalkSpells
import Derived.Outline
import Derived.Lib.Hide
import Derived.Deep.DrawnRows
import Derived.Laws.CopyOwn
import Derived.MapKept
namespace Go.Proofs.YthhlfojaloaooaaGreat
set_option linter.unusedSimpArgs false
set_option linter.unusedVariables false
open Go.RowKit Go.WideShapes Go.ChangeShapes
attribute [local go_sem ↓] Go.wp_at_zero Go.wp_at_succ

theorem own : ownKnob Tryz.prog.godebug = none := by kernel_rfl
theorem laidOut : laidOutB Tryz.prog = true := by kernel_rfl
theorem chunks_of {α : Type} {f : α → List Value} {s : Nat} (hs : ∀ x, (f x).length = s) : ∀ (n : Nat) (xs : List Value), xs.length = n * s → (∀ i, i < n → ∃ x, (xs.drop (i * s)).take s = f x) → ∃ es : List α, es.length = n ∧ xs = es.flatMap f
  | 0, xs, h, _ => ⟨[], rfl, List.eq_nil_of_length_eq_zero (by rw [h, Nat.zero_mul])⟩
  | n + 1, xs, h, hx => by
    obtain ⟨x, h0⟩ := hx 0 (by omega)
    rw [Nat.zero_mul, List.drop_zero] at h0
    obtain ⟨es, h1, h2⟩ := chunks_of hs n (xs.drop s) (by rw [List.length_drop, h, Nat.succ_mul]; omega) (fun i hi => by
      obtain ⟨y, hy⟩ := hx (i + 1) (by omega)
      refine ⟨y, ?_⟩
      rw [List.drop_drop, ← hy, Nat.succ_mul, Nat.add_comm s])
    exact ⟨x :: es, by rw [List.length_cons, h1], by rw [List.flatMap_cons, ← h2, ← h0, List.take_append_drop]⟩
set_option maxRecDepth 100000 in
theorem open_ends {H : Type} {enc : TypeId × Value → H} {W : World} {v : Value} {d : DataW H} {p : List MemPlace} {b0 : Nat} (hv : Value.okWide Tryz.prog W .any b0 25 v)
    (h : DataW.Trod enc Tryz.prog W 0 (fun _ => true) true 25 v d p) (hlt : ∀ x ∈ p, x.block < W.heap.size) :
    ∃ (A : Option Addr) (n c : Nat) (es : List Ed), v = .slice A n c ∧ es.length = n ∧ Reads W W.heap.size 13 A n (es.flatMap Ed.cells) := by
  obtain ⟨A, n, c, xs, rfl, h1, h2, _, hr, hall⟩ := open_slice_arg (n := 6) (ls := [3, 5, 5, 5, 5, 5, 5, 3, 3, 3, 3, 3, 4]) Tryz.underlying25 (by kernel_rfl) (by kernel_rfl) rfl hv h hlt
  obtain ⟨es, h3, h4⟩ := chunks_of Ed.len n xs hr.1 (fun i hi => by
    have ha := hall i hi
    simp only [List.length_cons, List.length_nil, Nat.reduceAdd] at ha
    generalize (xs.drop (i * 13)).take 13 = cs at *
    match cs, ha with
    | [c0, c1, c2, c3, c4, c5, c6, c7, c8, c9, c10, c11, c12], ⟨l0, l1, l2, l3, l4, l5, l6, l7, l8, l9, l10, l11, l12, _⟩ =>
      obtain ⟨n0, rfl, _⟩ := l0.i64 Tryz.underlying3
      obtain ⟨n1, rfl, _⟩ := l1.int Tryz.underlying5
      obtain ⟨n2, rfl, _⟩ := l2.int Tryz.underlying5
      obtain ⟨n3, rfl, _⟩ := l3.int Tryz.underlying5
      obtain ⟨n4, rfl, _⟩ := l4.int Tryz.underlying5
      obtain ⟨n5, rfl, _⟩ := l5.int Tryz.underlying5
      obtain ⟨n6, rfl, _⟩ := l6.int Tryz.underlying5
      obtain ⟨n7, rfl, _⟩ := l7.i64 Tryz.underlying3
      obtain ⟨n8, rfl, _⟩ := l8.i64 Tryz.underlying3
      obtain ⟨n9, rfl, _⟩ := l9.i64 Tryz.underlying3
      obtain ⟨n10, rfl, _⟩ := l10.i64 Tryz.underlying3
      obtain ⟨n11, rfl, _⟩ := l11.i64 Tryz.underlying3
      obtain ⟨b12, rfl⟩ := l12.bool Tryz.underlying4
      exact ⟨⟨n0, n1, n2, n3, n4, n5, n6, n7, n8, n9, n10, n11, b12⟩, rfl⟩)
  exact ⟨A, n, c, es, rfl, h3, by rw [← h4]; exact hr⟩
set_option maxRecDepth 100000 in
theorem open_bool {W : World} {v : Value} {b0 : Nat} (hv : Value.okWide Tryz.prog W .any b0 4 v) : ∃ b, v = .bool b := okWide_bool Tryz.underlying4 hv
theorem trodAll_five {H : Type} {enc : TypeId × Value → H} {P : Program} {w : World} {base : Nat} {spare : Nat → Bool} {held : Bool} {t0 t1 t2 t3 t4 : TypeId} {args : Array Value} {ds : List (DataW H)} {ps : List MemPlace} (h : DataW.TrodAll enc P w base spare held [t0, t1, t2, t3, t4] args.toList ds ps) :
    ∃ v0 v1 v2 v3 v4 d0 d1 d2 d3 d4 p0 p1 p2 p3 p4, args = #[v0, v1, v2, v3, v4] ∧ ds = [d0, d1, d2, d3, d4] ∧ ps = p0 ++ p1 ++ p2 ++ p3 ++ p4 ∧ DataW.Trod enc P w base spare held t0 v0 d0 p0 ∧ DataW.Trod enc P w base spare held t1 v1 d1 p1 ∧ DataW.Trod enc P w base spare held t2 v2 d2 p2 ∧ DataW.Trod enc P w base spare held t3 v3 d3 p3 ∧ DataW.Trod enc P w base spare held t4 v4 d4 p4 := by
  obtain ⟨v0, vs0, d0, ds0, p0, q0, hargs, rfl, rfl, hd0, hr0⟩ := trodAll_cons h
  obtain ⟨v1, vs1, d1, ds1, p1, q1, rfl, rfl, rfl, hd1, hr1⟩ := trodAll_cons hr0
  obtain ⟨v2, vs2, d2, ds2, p2, q2, rfl, rfl, rfl, hd2, hr2⟩ := trodAll_cons hr1
  obtain ⟨v3, vs3, d3, ds3, p3, q3, rfl, rfl, rfl, hd3, hr3⟩ := trodAll_cons hr2
  obtain ⟨v4, vs4, d4, ds4, p4, q4, rfl, rfl, rfl, hd4, hr4⟩ := trodAll_cons hr3
  obtain ⟨rfl, rfl, rfl⟩ := trodAll_nil hr4
  exact ⟨v0, v1, v2, v3, v4, d0, d1, d2, d3, d4, p0, p1, p2, p3, p4, by cases args; simp_all, rfl, by simp, hd0, hd1, hd2, hd3, hd4⟩


/-! ### The row's step -/
set_option maxRecDepth 100000 in
theorem hostChecks_lifted (os : Os) (started : os.Started) (H : Type) (enc : TypeId × Value → H) :
    ReturnsInHanded {} Tryz.checked os 5 .any (Rows.hostChecksSpec.pre6 enc Tryz.prog Tryz.f5 Rows.hostChecksRow.domain false) (Rows.hostChecksSpec.post enc Tryz.prog Tryz.f5 false true false false) := by
  refine returnsInHanded_of_change (C := Tryz.checked) own started (by kernel_rfl) Tryz.func5
    (ChangeSpec.witness6 (enc := enc) (C := Tryz.checked) false ⟨#[], #[.int .i64 0, .int .i64 0, .bool false, .slice none 0 0, .int .i64 0], []⟩ 8 (by kernel_rfl) (by kernel_rfl) (by kernel_rfl) (by kernel_rfl)) ?_
  intro W base args ds gs before hval0 hW _ _
  have hval : ∀ (j : Nat) t v, Tryz.f5.params[j]? = some t → args[j]? = some v → Value.okWide Tryz.prog W .any base t v := hval0
  have hW' := hW
  obtain ⟨p, q, hA0, hV, rfl, hfz, hnd⟩ := hW
  have hA : DataW.TrodAll enc Tryz.prog W 0 (fun _ => true) true Tryz.f5.params.toList args.toList ds p := hA0
  rw [Tryz.params5] at hA hval
  obtain ⟨v0, v1, v2, v3, v4, d0, d1, d2, d3, d4, p0, p1, p2, p3, p4, rfl, rfl, rfl, h0, h1, h2, h3, h4⟩ := trodAll_five hA
  obtain ⟨x0, rfl⟩ := okWide_int Tryz.underlying3 (hval 0 3 v0 rfl rfl)
  obtain ⟨x1, rfl⟩ := okWide_int Tryz.underlying3 (hval 1 3 v1 rfl rfl)
  obtain ⟨rl, rfl⟩ := open_bool (hval 2 4 v2 rfl rfl)
  obtain ⟨A, n, c, es, rfl, hl, hr⟩ := open_ends (hval 3 25 v3 rfl rfl) h3 (fun x hx => hW'.lt x (by simp [hx]))
  obtain ⟨x4, rfl⟩ := okWide_int Tryz.underlying3 (hval 4 3 v4 rfl rfl)
  exact law_post laidOut (by kernel_rfl) rfl (by kernel_rfl) Tryz.underlying4 rfl hW' (hostChecks_calls x0 x1 x4 rl es A n c W hl hr)

theorem hostChecks_holds : Rows.HostChecksSaid :=
  OpenClaim.holds_of_wide 5 Tryz.f5 rfl rfl rfl rfl rfl rfl rfl ⟨rfl, rfl, rfl, rfl, rfl⟩ rfl rfl rfl rfl rfl (by kernel_rfl) Tryz.func5 (by kernel_rfl)
    (of_decide_eq_true (by kernel_rfl)) (by unfold Func.isWrapper; first | (rw [if_pos (by decide +kernel)]; kernel_rfl) | (rw [if_neg (by decide +kernel)]; exact ⟨rfl, rfl⟩))
    (fun os started H enc _ => hostChecks_lifted os started H enc)

#print axioms hostChecks_holds

end Go.Proofs.YthhlfojaloaooaaGreat
