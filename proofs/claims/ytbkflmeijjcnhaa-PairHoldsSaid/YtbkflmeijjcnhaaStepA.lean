/-
  A struct loaded from wherever it lies; a slice of steps as the call gets it.
-/
import Derived.Test.YtbkflmeijjcnhaaPairH
namespace Go.Proofs.Ytbkflmeijjcnhaa
set_option linter.unusedSimpArgs false
set_option linter.unusedVariables false
open Go.RowKit Go.WideShapes Go.ChangeShapes
attribute [local go_sem ↓] Go.wp_at_zero Go.wp_at_succ

section
variable {P : Program}
theorem run_load_any (w : World) (ad : Addr) (ty : TypeId) (cs : List Value) (d : TypeDesc) (hc : ∀ j v, cs[j]? = some v → w.cell? (ad.add j) = some v)
    (hu : P.underlying ty = some d) (hd : d.isRow = true) (hi : (P.info? ty).map (·.size) = some cs.length) : (loadVar ty ad).run P w = .ok (.agg cs.toArray) w := by
  have hl : (loadCells ad cs.length).run P w = .ok cs.toArray w := run_loadCells_list (P := P) w ad cs hc
  cases hq : P.info? ty with
  | none => simp [hq] at hi
  | some i =>
    have hs : i.size = cs.length := by simpa [hq] using hi
    have hagg : (isAgg ty).run P w = .ok true w := by
      unfold isAgg
      rw [Sem.run_bind, run_underlying hu w]
      cases d <;> simp_all
    simp [loadVar, Sem.run_bind, hagg, sizeOf, typeInfo, hq, hs, hl]
theorem wpList_load_any {ops : Array Oper} {rest : List Oper} {op : Oper} {a : Act} {w : World} {Q : Exit → Act → World → Prop} (hgd : op.guard = none) (ty : TypeId) (x : Operand) (ho : op.op = .load ty x)
    (ad : Addr) (hx : a.eval x = .pointer (some ad)) (M : Array Value) (d : TypeDesc) (hc : ∀ j v, M.toList[j]? = some v → w.cell? (ad.add j) = some v)
    (hu : P.underlying ty = some d) (hd : d.isRow = true) (hi : (P.info? ty).map (·.size) = some M.size)
    (h : wpList P ops Q rest (a.put op.dst (.agg M)) w) : wpList P ops Q (op :: rest) a w := by
  refine wpList_plain hgd fun K hK => ?_
  unfold Oper.wp execOp
  simp only [ho, hx, Instr.loadAt, Instr.sureAddr, Sem.run_bind, Sem.run_pure, Result.andThen_ok, run_load_any w ad ty M.toList d hc hu hd (by simpa using hi)]
  exact hK _ _ h
theorem open_slice_leaf {H : Type} {enc : TypeId × Value → H} {w : World} {t e : TypeId} {v : Value} (ht : P.underlying t = some (.slice e)) (hfl : flat P 5 e = some [e]) (hce : P.cellsOf e = 1)
    (h : LeafOk enc P w (fun p => p.block < w.heap.size) t v) : ∃ (A : Option Addr) (n c : Nat), v = .slice A n c := by
  obtain ⟨fuel, x, hx, hQ⟩ := h
  obtain ⟨A, n, c, xs, rfl, _⟩ := open_slice_flat (n := 5) (ls := [e]) ht hfl (by simpa using hce) (by simp) hx hQ
  exact ⟨A, n, c, rfl⟩
end
/-- A step's cells: what the walk needs of them. -/
structure StepCells (M : Array Value) (a : Int) : Prop where
  size : M.size = 22
  one : M.all (·.oneCell') = true
  at_ : M[17]? = some (.int .i64 a)
set_option maxHeartbeats 2000000 in
set_option maxRecDepth 100000 in
theorem open_steps {H : Type} {enc : TypeId × Value → H} {W : World} {v : Value} {d : DataW H} {p : List MemPlace} {b0 : Nat} (hv : Value.okWide Try.prog W .any b0 51 v)
    (h : DataW.Trod enc Try.prog W 0 (fun _ => true) true 51 v d p) (hlt : ∀ x ∈ p, x.block < W.heap.size) :
    ∃ (A : Option Addr) (n c : Nat) (xs : List Value), v = .slice A n c ∧ n ≤ maxLen ∧ Reads W W.heap.size 22 A n xs ∧ ∀ i, i < n → ∃ (M : Array Value) (a : Int), M.toList = (xs.drop (i * 22)).take 22 ∧ StepCells M a := by
  obtain ⟨A, n, c, xs, rfl, h1, h2, _, hr, hall⟩ := open_slice_arg (n := 5) (ls := [3, 3, 3, 3, 3, 3, 28, 28, 3, 3, 25, 3, 3, 3, 3, 3, 31, 28, 25, 3, 4, 3]) Try.underlying51 (by kernel_rfl) (by kernel_rfl) rfl hv h hlt
  refine ⟨A, n, c, xs, rfl, by omega, hr, fun i hi => ?_⟩
  have ha := hall i hi
  simp only [List.length_cons, List.length_nil, Nat.reduceAdd] at ha
  generalize (xs.drop (i * 22)).take 22 = cs at *
  match cs, ha with
  | [c0, c1, c2, c3, c4, c5, c6, c7, c8, c9, c10, c11, c12, c13, c14, c15, c16, c17, c18, c19, c20, c21], ⟨l0, l1, l2, l3, l4, l5, l6, l7, l8, l9, l10, l11, l12, l13, l14, l15, l16, l17, l18, l19, l20, l21, _⟩ =>
    obtain ⟨n0, rfl, _⟩ := l0.i64 Try.underlying3
    obtain ⟨n1, rfl, _⟩ := l1.i64 Try.underlying3
    obtain ⟨n2, rfl, _⟩ := l2.i64 Try.underlying3
    obtain ⟨n3, rfl, _⟩ := l3.i64 Try.underlying3
    obtain ⟨n4, rfl, _⟩ := l4.i64 Try.underlying3
    obtain ⟨n5, rfl, _⟩ := l5.i64 Try.underlying3
    obtain ⟨n6, rfl, _⟩ := l6.i64 Try.underlying28
    obtain ⟨n7, rfl, _⟩ := l7.i64 Try.underlying28
    obtain ⟨n8, rfl, _⟩ := l8.i64 Try.underlying3
    obtain ⟨n9, rfl, _⟩ := l9.i64 Try.underlying3
    obtain ⟨n10, rfl, _⟩ := l10.i64 Try.underlying25
    obtain ⟨n11, rfl, _⟩ := l11.i64 Try.underlying3
    obtain ⟨n12, rfl, _⟩ := l12.i64 Try.underlying3
    obtain ⟨n13, rfl, _⟩ := l13.i64 Try.underlying3
    obtain ⟨n14, rfl, _⟩ := l14.i64 Try.underlying3
    obtain ⟨n15, rfl, _⟩ := l15.i64 Try.underlying3
    obtain ⟨A16, n16, k16, rfl⟩ := open_slice_leaf Try.underlying31 (by kernel_rfl) (by kernel_rfl) l16
    obtain ⟨n17, rfl, _⟩ := l17.i64 Try.underlying28
    obtain ⟨n18, rfl, _⟩ := l18.i64 Try.underlying25
    obtain ⟨n19, rfl, _⟩ := l19.i64 Try.underlying3
    obtain ⟨n20, rfl⟩ := l20.bool Try.underlying4
    obtain ⟨n21, rfl, _⟩ := l21.i64 Try.underlying3
    exact ⟨_, n17, rfl, rfl, by rw [← Array.all_toList]; rfl, rfl⟩
end Go.Proofs.Ytbkflmeijjcnhaa
