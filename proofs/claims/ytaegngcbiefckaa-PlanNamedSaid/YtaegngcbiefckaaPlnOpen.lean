/-
  Layer 22's argument: a network that came in, as its lists.
-/
import Derived.Test.YtaegngcbiefckaaPlnHead
namespace Go.Proofs.Ytaegngcbiefckaa
set_option linter.unusedSimpArgs false
set_option linter.unusedVariables false
open Go.RowKit Go.WideShapes Go.ChangeShapes

theorem open_ints_leaf {H : Type} {enc : TypeId × Value → H} {P : Program} {w : World} {t e : TypeId} {v : Value} {k : IntKind} (ht : P.underlying t = some (.slice e)) (he : P.underlying e = some (.int k)) (hfl : flat P 5 e = some [e]) (hce : P.cellsOf e = 1)
    (h : LeafOk enc P w (fun p => p.block < w.heap.size) t v) :
    ∃ (A : Option Addr) (n c : Nat) (zs : List Int), v = .slice A n c ∧ n ≤ maxLen ∧ zs.length = n ∧ Reads w w.heap.size 1 A n (zs.map (Value.int k)) ∧ ∀ z ∈ zs, (Lit.int k z).wf = true := by
  obtain ⟨fuel, x, hx, hQ⟩ := h
  obtain ⟨A, n, c, xs, rfl, h1, h2, _, hr, hall⟩ := open_slice_flat (n := 5) (ls := [e]) ht hfl (by simpa using hce) (by simp) hx hQ
  simp only [List.length_cons, List.length_nil, Nat.zero_add, Nat.mul_one] at hall hr
  have key : ∀ l, l ≤ n → ∃ zs : List Int, zs.length = l ∧ xs.take l = zs.map (Value.int k) ∧ ∀ z ∈ zs, (Lit.int k z).wf = true := by
    intro l
    induction l with
    | zero => exact fun _ => ⟨[], rfl, by simp, by simp⟩
    | succ l ih =>
      intro hl
      obtain ⟨zs, e1, e2, e4⟩ := ih (by omega)
      have ha := hall l (by omega)
      generalize hc : (xs.drop l).take 1 = cs at *
      match cs, ha with
      | [c0], ⟨h0, _⟩ =>
        obtain ⟨n0, rfl, hwf⟩ := h0.int he
        refine ⟨zs ++ [n0], by simp [e1], ?_, ?_⟩
        · rw [List.take_add, e2, hc]; simp
        · intro z hz
          rcases List.mem_append.1 hz with hz | hz
          · exact e4 z hz
          · simp at hz; subst hz; exact hwf
  obtain ⟨zs, e1, e2, e4⟩ := key n (Nat.le_refl _)
  have e3 : xs.length = n := by simpa using hr.1
  rw [List.take_of_length_le (by omega)] at e2
  exact ⟨A, n, c, zs, rfl, by omega, e1, by rw [← e2]; exact hr, e4⟩


theorem chunks {α : Type} {f : α → List Value} {size : Nat} (hf : ∀ a, (f a).length = size) {P : α → Prop} : ∀ (n : Nat) (xs : List Value), xs.length = n * size → (∀ i, i < n → ∃ a, f a = (xs.drop (i * size)).take size ∧ P a) →
    ∃ l : List α, l.length = n ∧ l.flatMap f = xs ∧ ∀ a ∈ l, P a
  | 0, xs, hl, _ => ⟨[], rfl, by have h0 : xs = [] := List.eq_nil_of_length_eq_zero (by omega); subst h0; rfl, fun a h => by cases h⟩
  | n + 1, xs, hl, h => by
    obtain ⟨a, ha, hP⟩ := h 0 (by omega)
    obtain ⟨l, h1, h2, h3⟩ := chunks hf (P := P) n (xs.drop size) (by rw [List.length_drop, hl, Nat.succ_mul]; omega) (fun i hi => by
      obtain ⟨b, hb, hPb⟩ := h (i + 1) (by omega)
      refine ⟨b, ?_, hPb⟩
      rw [hb, List.drop_drop]
      congr 2
      rw [Nat.succ_mul]; omega)
    refine ⟨a :: l, by simp [h1], ?_, fun b hb => ?_⟩
    · rw [List.flatMap_cons, h2, ha, Nat.zero_mul, List.drop_zero, List.take_append_drop]
    · rcases List.mem_cons.1 hb with rfl | hb
      · exact hP
      · exact h3 b hb
section
variable {H : Type} {enc : TypeId × Value → H} {w : World} {v : Value}
theorem open_nodes (h : LeafOk enc Try.prog w (fun p => p.block < w.heap.size) 22 v) : ∃ (A : Option Addr) (c : Nat) (l : List Nd), v = .slice A l.length c ∧ l.length ≤ maxLen ∧ Reads w w.heap.size 2 A l.length (l.flatMap ndc) := by
  obtain ⟨fuel, x, hx, hQ⟩ := h
  obtain ⟨A, n, c, xs, rfl, h1, h2, _, hr, hall⟩ := open_slice_flat (n := 5) (ls := [3, 4]) Try.underlying22 (by kernel_rfl) (by kernel_rfl) (by simp) hx hQ
  obtain ⟨l, rfl, rfl, _⟩ := chunks (f := ndc) (P := fun _ => True) ndc_len n xs hr.1 (fun i hi => by
    have ha := hall i hi
    simp only [List.length_cons, List.length_nil, Nat.reduceAdd] at ha
    generalize (xs.drop (i * 2)).take 2 = cs at *
    match cs, ha with
    | [c0, c1], ⟨l0, l1, _⟩ =>
      obtain ⟨n0, rfl, _⟩ := l0.i64 Try.underlying3
      obtain ⟨b1, rfl⟩ := l1.bool Try.underlying4
      exact ⟨⟨n0, b1⟩, rfl, trivial⟩)
  exact ⟨A, c, l, rfl, by omega, hr⟩
theorem open_links (h : LeafOk enc Try.prog w (fun p => p.block < w.heap.size) 23 v) : ∃ (A : Option Addr) (c : Nat) (l : List Lk), v = .slice A l.length c ∧ l.length ≤ maxLen ∧ Reads w w.heap.size 6 A l.length (l.flatMap lkc) := by
  obtain ⟨fuel, x, hx, hQ⟩ := h
  obtain ⟨A, n, c, xs, rfl, h1, h2, _, hr, hall⟩ := open_slice_flat (n := 6) (ls := [3, 3, 3, 3, 3, 3]) Try.underlying23 (by kernel_rfl) (by kernel_rfl) (by simp) hx hQ
  obtain ⟨l, rfl, rfl, _⟩ := chunks (f := lkc) (P := fun _ => True) lkc_len n xs hr.1 (fun i hi => by
    have ha := hall i hi
    simp only [List.length_cons, List.length_nil, Nat.reduceAdd] at ha
    generalize (xs.drop (i * 6)).take 6 = cs at *
    match cs, ha with
    | [c0, c1, c2, c3, c4, c5], ⟨l0, l1, l2, l3, l4, l5, _⟩ =>
      obtain ⟨n0, rfl, _⟩ := l0.i64 Try.underlying3
      obtain ⟨n1, rfl, _⟩ := l1.i64 Try.underlying3
      obtain ⟨n2, rfl, _⟩ := l2.i64 Try.underlying3
      obtain ⟨n3, rfl, _⟩ := l3.i64 Try.underlying3
      obtain ⟨n4, rfl, _⟩ := l4.i64 Try.underlying3
      obtain ⟨n5, rfl, _⟩ := l5.i64 Try.underlying3
      exact ⟨⟨n0, n1, n2, n3, n4, n5⟩, rfl, trivial⟩)
  exact ⟨A, c, l, rfl, by omega, hr⟩
def WayIn (w : World) (x : Fw × (Sl × Sl)) : Prop := (Reads w w.heap.size 1 x.2.1.A x.1.w0.length (x.1.w0.map (Value.int .i64)) ∧ Reads w w.heap.size 1 x.2.2.A x.1.w1.length (x.1.w1.map (Value.int .i64))) ∧ x.1.w0.length ≤ maxLen ∧ x.1.w1.length ≤ maxLen
theorem open_flows (h : LeafOk enc Try.prog w (fun p => p.block < w.heap.size) 24 v) : ∃ (A : Option Addr) (c : Nat) (l : List (Fw × (Sl × Sl))), v = .slice A l.length c ∧ (l.length ≤ c ∧ c ≤ maxLen) ∧ Reads w w.heap.size 8 A l.length (l.flatMap fun x => fwc x.1 x.2) ∧ ∀ x ∈ l, WayIn w x := by
  obtain ⟨fuel, x, hx, hQ⟩ := h
  obtain ⟨A, n, c, xs, rfl, h1, h2, _, hr, hall⟩ := open_slice_flat (n := 6) (ls := [3, 3, 36, 36, 3, 3, 3, 3]) Try.underlying24 (by kernel_rfl) (by kernel_rfl) (by simp) hx hQ
  obtain ⟨l, rfl, rfl, hP⟩ := chunks (f := fun x : Fw × (Sl × Sl) => fwc x.1 x.2) (P := WayIn w) fwc_len n xs hr.1 (fun i hi => by
    have ha := hall i hi
    simp only [List.length_cons, List.length_nil, Nat.reduceAdd] at ha
    generalize (xs.drop (i * 8)).take 8 = cs at *
    match cs, ha with
    | [c0, c1, c2, c3, c4, c5, c6, c7], ⟨l0, l1, l2, l3, l4, l5, l6, l7, _⟩ =>
      obtain ⟨n0, rfl, _⟩ := l0.i64 Try.underlying3
      obtain ⟨n1, rfl, _⟩ := l1.i64 Try.underlying3
      obtain ⟨A2, n2, k2, z2, rfl, hn2, rfl, hr2, _⟩ := open_ints_leaf Try.underlying36 Try.underlying3 (by kernel_rfl) (by kernel_rfl) l2
      obtain ⟨A3, n3, k3, z3, rfl, hn3, rfl, hr3, _⟩ := open_ints_leaf Try.underlying36 Try.underlying3 (by kernel_rfl) (by kernel_rfl) l3
      obtain ⟨n4, rfl, _⟩ := l4.i64 Try.underlying3
      obtain ⟨n5, rfl, _⟩ := l5.i64 Try.underlying3
      obtain ⟨n6, rfl, _⟩ := l6.i64 Try.underlying3
      obtain ⟨n7, rfl, _⟩ := l7.i64 Try.underlying3
      exact ⟨(⟨n0, n1, z2, z3, n4, n5, n6, n7⟩, (⟨A2, k2⟩, ⟨A3, k3⟩)), rfl, ⟨hr2, hr3⟩, hn2, hn3⟩)
  exact ⟨A, c, l, rfl, ⟨h1, h2⟩, hr, hP⟩
end
theorem zip_back {α β : Type} : ∀ (l : List (α × β)), (l.map (·.1)).zip (l.map (·.2)) = l
  | [] => rfl
  | (a, b) :: l => by simp [zip_back l]
structure Fits (C : Cf) (Y : Lay) : Prop where
  fc : C.flows.length ≤ Y.F.c ∧ Y.F.c ≤ maxLen
  n : C.nodes.length ≤ maxLen
  l : C.links.length ≤ maxLen
  f : C.flows.length ≤ maxLen
  w : ∀ f ∈ C.flows, f.w0.length ≤ maxLen ∧ f.w1.length ≤ maxLen
set_option maxHeartbeats 2000000 in
set_option maxRecDepth 100000 in
theorem open_conf {H : Type} {enc : TypeId × Value → H} {W : World} {v : Value} {d : DataW H} {p : List MemPlace} {b0 : Nat} (hv : Value.okWide Try.prog W .any b0 26 v)
    (h : DataW.Trod enc Try.prog W 0 (fun _ => true) true 26 v d p) (hlt : ∀ x ∈ p, x.block < W.heap.size) :
    ∃ (C : Cf) (Y : Lay), v = .agg (cfc C Y) ∧ CfAt W W.heap.size C Y ∧ Fits C Y := by
  obtain ⟨cs, rfl, hsz⟩ := okWide_struct Try.underlying26 hv
  obtain ⟨fuel, hf⟩ := h
  have ha := trod_flat (Q := fun p => p.block < W.heap.size) 6 26 [22, 23, 24, 3, 3, 3, 3, 3] (by kernel_rfl) fuel _ _ (by simpa [Value.cells] using hf) hlt
  obtain ⟨l⟩ := cs
  match l, ha with
  | [c0, c1, c2, c3, c4, c5, c6, c7], ⟨h0, h1, h2, h3, h4, h5, h6, h7, _⟩ =>
    obtain ⟨A0, k0, ns, rfl, b0, r0⟩ := open_nodes h0
    obtain ⟨A1, k1, ls, rfl, b1, r1⟩ := open_links h1
    obtain ⟨A2, k2, fs, rfl, b2, r2, hw⟩ := open_flows h2
    obtain ⟨n3, rfl, _⟩ := h3.i64 Try.underlying3
    obtain ⟨n4, rfl, _⟩ := h4.i64 Try.underlying3
    obtain ⟨n5, rfl, _⟩ := h5.i64 Try.underlying3
    obtain ⟨n6, rfl, _⟩ := h6.i64 Try.underlying3
    obtain ⟨n7, rfl, _⟩ := h7.i64 Try.underlying3
    refine ⟨⟨ns, ls, fs.map (·.1), n3, n4, n5, n6, n7⟩, ⟨⟨A0, k0⟩, ⟨A1, k1⟩, ⟨A2, k2⟩, fs.map (·.2)⟩, by simp [cfc], ⟨r0, r1, by simp, ?_, fun i f s hf hs => ?_⟩, ⟨by simpa using b2, b0, b1, by have := b2; simp; omega, fun f hf => ?_⟩⟩
    · show Reads W W.heap.size 8 A2 (fs.map (·.1)).length (((fs.map (·.1)).zip (fs.map (·.2))).flatMap fun x => fwc x.1 x.2)
      rw [zip_back, List.length_map]
      exact r2
    · have hf' : (fs.map (·.1))[i]? = some f := hf
      have hs' : (fs.map (·.2))[i]? = some s := hs
      rw [List.getElem?_map] at hf' hs'
      cases hx : fs[i]? with
      | none => rw [hx] at hf'; cases hf'
      | some x =>
        rw [hx] at hf' hs'
        cases hf'
        cases hs'
        exact (hw x (List.mem_of_getElem? hx)).1
    · obtain ⟨x, hx, rfl⟩ := List.mem_map.1 hf
      exact (hw x hx).2
end Go.Proofs.Ytaegngcbiefckaa
