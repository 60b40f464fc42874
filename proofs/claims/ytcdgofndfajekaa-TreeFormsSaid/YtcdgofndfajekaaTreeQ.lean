/-
  Layer 20: masks, arguments.
-/
import Derived.Test.YtcdgofndfajekaaTreeH
import Derived.Test.YtcdgofndfajekaaMask
namespace Go.Proofs.Ytcdgofndfajekaa
set_option linter.unusedSimpArgs false
set_option linter.unusedVariables false
open Go.RowKit Go.WideShapes Go.ChangeShapes

theorem open_ints_leaf {H : Type} {enc : TypeId × Value → H} {P : Program} {w : World} {t e : TypeId} {v : Value} {k : IntKind} (ht : P.underlying t = some (.slice e)) (he : P.underlying e = some (.int k)) (hfl : flat P 5 e = some [e]) (hce : P.cellsOf e = 1)
    (h : LeafOk enc P w (fun p => p.block < w.heap.size) t v) :
    ∃ (A : Option Addr) (n c : Nat) (zs : List Int), v = .slice A n c ∧ n ≤ maxLen ∧ zs.length = n ∧ Reads w w.heap.size 1 A n (zs.map (Value.int k)) ∧ ∀ z ∈ zs, (Lit.int k z).wf = true := by
  obtain ⟨fuel, x, hx, hQ⟩ := h
  obtain ⟨A, n, c, xs, rfl, h1, h2, _, hr, hall⟩ := open_slice_flat (n := 5) (ls := [e]) ht hfl (by simpa using hce) (by simp) hx hQ
  simp only [List.length_cons, List.length_nil, Nat.zero_add, Nat.mul_one] at hall hr
  have key : ∀ l, l ≤ n → ∃ zs : List Int, zs.length = l ∧ xs.take l = zs.map (Value.int k) ∧ ∀ z ∈ zs, (Lit.int k z).wf = true := by
    intro l
    induction l with
    | zero => exact fun _ => ⟨[], rfl, by simp, by simp⟩
    | succ l ih =>
      intro hl
      obtain ⟨zs, e1, e2, e4⟩ := ih (by omega)
      have ha := hall l (by omega)
      generalize hc : (xs.drop l).take 1 = cs at *
      match cs, ha with
      | [c0], ⟨h0, _⟩ =>
        obtain ⟨n0, rfl, hwf⟩ := h0.int he
        refine ⟨zs ++ [n0], by simp [e1], ?_, ?_⟩
        · rw [List.take_add, e2, hc]; simp
        · intro z hz
          rcases List.mem_append.1 hz with hz | hz
          · exact e4 z hz
          · simp at hz; subst hz; exact hwf
  obtain ⟨zs, e1, e2, e4⟩ := key n (Nat.le_refl _)
  have e3 : xs.length = n := by simpa using hr.1
  rw [List.take_of_length_le (by omega)] at e2
  exact ⟨A, n, c, zs, rfl, by omega, e1, by rw [← e2]; exact hr, e4⟩

set_option maxHeartbeats 2000000 in
set_option maxRecDepth 100000 in
theorem open_msg {H : Type} {enc : TypeId × Value → H} {W : World} {v : Value} {d : DataW H} {p : List MemPlace} {b0 : Nat} (hv : Value.okWide Try.prog W .any b0 38 v)
    (h : DataW.Trod enc Try.prog W 0 (fun _ => true) true 38 v d p) (hlt : ∀ x ∈ p, x.block < W.heap.size) :
    ∃ (m : Mg) (A : Option Addr) (n c : Nat), v = .agg (mcells m A n c) ∧ n ≤ maxLen ∧ m.path.length = n ∧ Reads W W.heap.size 1 A n (vs m.path) := by
  obtain ⟨cs, rfl, hsz⟩ := okWide_struct Try.underlying38 hv
  obtain ⟨fuel, hf⟩ := h
  have ha := trod_flat (Q := fun p => p.block < W.heap.size) 5 38 [3, 3, 3, 3, 3, 35, 35, 3, 3, 36, 3, 3, 3, 3, 3, 32] (by kernel_rfl) fuel _ _ (by simpa [Value.cells] using hf) hlt
  obtain ⟨l⟩ := cs
  match l, ha with
  | [c0, c1, c2, c3, c4, c5, c6, c7, c8, c9, c10, c11, c12, c13, c14, c15], ⟨h0, h1, h2, h3, h4, h5, h6, h7, h8, h9, h10, h11, h12, h13, h14, h15, _⟩ =>
    obtain ⟨n0, rfl, w0⟩ := h0.i64 Try.underlying3
    obtain ⟨n1, rfl, w1⟩ := h1.i64 Try.underlying3
    obtain ⟨n2, rfl, w2⟩ := h2.i64 Try.underlying3
    obtain ⟨n3, rfl, w3⟩ := h3.i64 Try.underlying3
    obtain ⟨n4, rfl, w4⟩ := h4.i64 Try.underlying3
    obtain ⟨n5, rfl, w5⟩ := h5.i64 Try.underlying35
    obtain ⟨n6, rfl, w6⟩ := h6.i64 Try.underlying35
    obtain ⟨n7, rfl, w7⟩ := h7.i64 Try.underlying3
    obtain ⟨n8, rfl, w8⟩ := h8.i64 Try.underlying3
    obtain ⟨n9, rfl, w9⟩ := h9.i64 Try.underlying36
    obtain ⟨n10, rfl, w10⟩ := h10.i64 Try.underlying3
    obtain ⟨n11, rfl, w11⟩ := h11.i64 Try.underlying3
    obtain ⟨n12, rfl, w12⟩ := h12.i64 Try.underlying3
    obtain ⟨n13, rfl, w13⟩ := h13.i64 Try.underlying3
    obtain ⟨n14, rfl, w14⟩ := h14.i64 Try.underlying3
    obtain ⟨A, n, c, zs, rfl, hn, hl, hr, _⟩ := open_ints_leaf Try.underlying32 Try.underlying3 (by kernel_rfl) (by kernel_rfl) h15
    exact ⟨⟨n0, n1, n2, n3, n4, n5, n6, n7, n8, n9, n10, n11, n12, n13, n14, zs⟩, A, n, c, rfl, hn, hl, hr⟩

theorem open_prior {H : Type} {enc : TypeId × Value → H} {W : World} {v : Value} {d : DataW H} {p : List MemPlace} {b0 : Nat} (hv : Value.okWide Try.prog W .any b0 23 v)
    (h : DataW.Trod enc Try.prog W 0 (fun _ => true) true 23 v d p) : ∃ a : Pr, v = a.val := by
  obtain ⟨cs, rfl, hsz⟩ := okWide_struct Try.underlying23 hv
  obtain ⟨fuel, hf⟩ := h
  have ha := trod_flat (Q := fun _ => True) 5 23 [3, 3, 3, 3] (by kernel_rfl) fuel _ _ (by simpa [Value.cells] using hf) (fun _ _ => trivial)
  obtain ⟨l⟩ := cs
  match l, ha with
  | [c0, c1, c2, c3], ⟨h0, h1, h2, h3, _⟩ =>
    obtain ⟨n0, rfl, _⟩ := h0.int Try.underlying3
    obtain ⟨n1, rfl, _⟩ := h1.int Try.underlying3
    obtain ⟨n2, rfl, _⟩ := h2.int Try.underlying3
    obtain ⟨n3, rfl, _⟩ := h3.int Try.underlying3
    exact ⟨⟨n0, n1, n2, n3⟩, rfl⟩
end Go.Proofs.Ytcdgofndfajekaa
