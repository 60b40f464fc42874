/-
  HostNumbers: what is sent has numbers that rise by one. There are no conditions.
-/
import Derived.Test.YthhlfojaloaooaaGreatRows
import Derived.Test.YthhlfojaloaooaaGreatHnLdZ
import Derived.WalkKit
import Derived.ProofKit
import Derived.OpenShut
import Derived.LoopTactic
import Derived.WalkLawsBesides
import Derived.WalkSpells
import Derived.Outline
import Derived.Lib.Hide
import Derived.Deep.DrawnRows
import Derived.Laws.CopyOwn
import Derived.MapKept
namespace Go.Proofs.YthhlfojaloaooaaGreat
set_option linter.unusedSimpArgs false
set_option linter.unusedVariables false
open Go.RowKit Go.WideShapes Go.ChangeShapes
attribute [local go_sem ↓] Go.wp_at_zero Go.wp_at_succ

theorem own : ownKnob Tryz.prog.godebug = none := by kernel_rfl
theorem laidOut : laidOutB Tryz.prog = true := by kernel_rfl
theorem chunks_of {α : Type} {f : α → List Value} {s : Nat} (hs : ∀ x, (f x).length = s) : ∀ (n : Nat) (xs : List Value), xs.length = n * s → (∀ i, i < n → ∃ x, (xs.drop (i * s)).take s = f x) → ∃ es : List α, es.length = n ∧ xs = es.flatMap f
  | 0, xs, h, _ => ⟨[], rfl, List.eq_nil_of_length_eq_zero (by rw [h, Nat.zero_mul])⟩
  | n + 1, xs, h, hx => by
    obtain ⟨x, h0⟩ := hx 0 (by omega)
    rw [Nat.zero_mul, List.drop_zero] at h0
    obtain ⟨es, h1, h2⟩ := chunks_of hs n (xs.drop s) (by rw [List.length_drop, h, Nat.succ_mul]; omega) (fun i hi => by
      obtain ⟨y, hy⟩ := hx (i + 1) (by omega)
      refine ⟨y, ?_⟩
      rw [List.drop_drop, ← hy, Nat.succ_mul, Nat.add_comm s])
    exact ⟨x :: es, by rw [List.length_cons, h1], by rw [List.flatMap_cons, ← h2, ← h0, List.take_append_drop]⟩
theorem flat_map1 {α : Type} (f : α → Value) (l : List α) : l.flatMap (fun x => [f x]) = l.map f := by
  induction l with
  | nil => rfl
  | cons x l ih => rw [List.flatMap_cons, ih]; rfl
set_option maxRecDepth 100000 in
theorem open_zs {H : Type} {enc : TypeId × Value → H} {W : World} {v : Value} {d : DataW H} {p : List MemPlace} {b0 : Nat} (hv : Value.okWide Tryz.prog W .any b0 22 v)
    (h : DataW.Trod enc Tryz.prog W 0 (fun _ => true) true 22 v d p) (hlt : ∀ x ∈ p, x.block < W.heap.size) :
    ∃ (A : Option Addr) (n c : Nat) (zs : List Int), v = .slice A n c ∧ zs.length = n ∧ Reads W W.heap.size 1 A n (zs.map (Value.int .i64)) := by
  obtain ⟨A, n, c, xs, rfl, h1, h2, _, hr, hall⟩ := open_slice_arg (n := 5) (ls := [3]) Tryz.underlying22 (by kernel_rfl) (by kernel_rfl) rfl hv h hlt
  obtain ⟨zs, h3, h4⟩ := chunks_of (f := fun x : Int => [Value.int .i64 x]) (s := 1) (fun _ => rfl) n xs hr.1 (fun i hi => by
    have ha := hall i hi
    simp only [List.length_cons, List.length_nil, Nat.reduceAdd] at ha
    generalize (xs.drop (i * 1)).take 1 = cs at *
    match cs, ha with
    | [c0], ⟨l0, _⟩ =>
      obtain ⟨n0, rfl, _⟩ := l0.i64 Tryz.underlying3
      exact ⟨n0, rfl⟩)
  rw [flat_map1] at h4
  exact ⟨A, n, c, zs, rfl, h3, by rw [← h4]; exact hr⟩
set_option maxRecDepth 100000 in
theorem open_bs {H : Type} {enc : TypeId × Value → H} {W : World} {v : Value} {d : DataW H} {p : List MemPlace} {b0 : Nat} (hv : Value.okWide Tryz.prog W .any b0 23 v)
    (h : DataW.Trod enc Tryz.prog W 0 (fun _ => true) true 23 v d p) (hlt : ∀ x ∈ p, x.block < W.heap.size) :
    ∃ (A : Option Addr) (n c : Nat) (bs : List Int), v = .slice A n c ∧ bs.length = n ∧ Reads W W.heap.size 1 A n (us bs) ∧ ∀ b ∈ bs, 0 ≤ b ∧ b ≤ 255 := by
  obtain ⟨A, n, c, xs, rfl, h1, h2, _, hr, hall⟩ := open_slice_arg (n := 5) (ls := [5]) Tryz.underlying23 (by kernel_rfl) (by kernel_rfl) rfl hv h hlt
  obtain ⟨zs, h3, h4⟩ := chunks_of (f := fun x : { x : Int // 0 ≤ x ∧ x ≤ 255 } => [Value.int .u8 x.1]) (s := 1) (fun _ => rfl) n xs hr.1 (fun i hi => by
    have ha := hall i hi
    simp only [List.length_cons, List.length_nil, Nat.reduceAdd] at ha
    generalize (xs.drop (i * 1)).take 1 = cs at *
    match cs, ha with
    | [c0], ⟨l0, _⟩ =>
      obtain ⟨n0, rfl, hb⟩ := l0.u8 Tryz.underlying5
      exact ⟨⟨n0, hb⟩, rfl⟩)
  rw [flat_map1] at h4
  refine ⟨A, n, c, zs.map (·.1), rfl, by rw [List.length_map]; exact h3, ?_, fun b hb => ?_⟩
  · unfold us
    rw [List.map_map]
    have e : ((fun x => Value.int .u8 x) ∘ fun x : { x : Int // 0 ≤ x ∧ x ≤ 255 } => x.1) = fun x => Value.int .u8 x.1 := rfl
    rw [e, ← h4]
    exact hr
  · obtain ⟨x, _, rfl⟩ := List.mem_map.1 hb
    exact x.2
theorem trodAll_two {H : Type} {enc : TypeId × Value → H} {P : Program} {w : World} {base : Nat} {spare : Nat → Bool} {held : Bool} {t0 t1 : TypeId} {args : Array Value} {ds : List (DataW H)} {ps : List MemPlace} (h : DataW.TrodAll enc P w base spare held [t0, t1] args.toList ds ps) :
    ∃ v0 v1 d0 d1 p0 p1, args = #[v0, v1] ∧ ds = [d0, d1] ∧ ps = p0 ++ p1 ∧ DataW.Trod enc P w base spare held t0 v0 d0 p0 ∧ DataW.Trod enc P w base spare held t1 v1 d1 p1 := by
  obtain ⟨v0, vs0, d0, ds0, p0, q0, hargs, rfl, rfl, hd0, hr0⟩ := trodAll_cons h
  obtain ⟨v1, vs1, d1, ds1, p1, q1, rfl, rfl, rfl, hd1, hr1⟩ := trodAll_cons hr0
  obtain ⟨rfl, rfl, rfl⟩ := trodAll_nil hr1
  exact ⟨v0, v1, d0, d1, p0, p1, by cases args; simp_all, rfl, by simp, hd0, hd1⟩


/-! ### The row's step -/
set_option maxRecDepth 100000 in
theorem hostNumbers_lifted (os : Os) (started : os.Started) (H : Type) (enc : TypeId × Value → H) :
    ReturnsInHanded {} Tryz.checked os 3 .any (Rows.hostNumbersSpec.pre6 enc Tryz.prog Tryz.f3 Rows.hostNumbersRow.domain false) (Rows.hostNumbersSpec.post enc Tryz.prog Tryz.f3 false true false false) := by
  refine returnsInHanded_of_change (C := Tryz.checked) own started (by kernel_rfl) Tryz.func3
    (ChangeSpec.witness6 (enc := enc) (C := Tryz.checked) false ⟨#[], #[.slice none 0 0, .slice none 0 0], []⟩ 8 (by kernel_rfl) (by kernel_rfl) (by kernel_rfl) (by kernel_rfl)) ?_
  intro W base args ds gs before hval0 hW _ _
  have hval : ∀ (j : Nat) t v, Tryz.f3.params[j]? = some t → args[j]? = some v → Value.okWide Tryz.prog W .any base t v := hval0
  have hW' := hW
  obtain ⟨p, q, hA0, hV, rfl, hfz, hnd⟩ := hW
  have hA : DataW.TrodAll enc Tryz.prog W 0 (fun _ => true) true Tryz.f3.params.toList args.toList ds p := hA0
  rw [Tryz.params3] at hA hval
  obtain ⟨v0, v1, d0, d1, p0, p1, rfl, rfl, rfl, h0, h1⟩ := trodAll_two hA
  obtain ⟨A, n, c, zs, rfl, hl, hr⟩ := open_zs (hval 0 22 v0 rfl rfl) h0 (fun x hx => hW'.lt x (by simp [hx]))
  obtain ⟨A2, n2, c2, data, rfl, hl2, hr2, hb2⟩ := open_bs (hval 1 23 v1 rfl rfl) h1 (fun x hx => hW'.lt x (by simp [hx]))
  exact law_post laidOut (by kernel_rfl) rfl (by kernel_rfl) Tryz.underlying4 rfl hW' (hostNumbers_calls zs A n c data A2 n2 c2 W hl hr hl2 hr2 hb2)

theorem hostNumbers_holds : Rows.HostNumbersSaid :=
  OpenClaim.holds_of_wide 3 Tryz.f3 rfl rfl rfl rfl rfl rfl rfl ⟨rfl, rfl, rfl, rfl, rfl⟩ rfl rfl rfl rfl rfl (by kernel_rfl) Tryz.func3 (by kernel_rfl)
    (of_decide_eq_true (by kernel_rfl)) (by unfold Func.isWrapper; first | (rw [if_pos (by decide +kernel)]; kernel_rfl) | (rw [if_neg (by decide +kernel)]; exact ⟨rfl, rfl⟩))
    (fun os started H enc _ => hostNumbers_lifted os started H enc)

#print axioms hostNumbers_holds

end Go.Proofs.YthhlfojaloaooaaGreat
