/-
  Named networks, plain: what is laid in which order; how their nodes and ports grow.
-/
import Derived.Test.YtaegngcbiefckaaPlnNl
namespace Go.Proofs.Ytaegngcbiefckaa
set_option linter.unusedSimpArgs false
set_option linter.unusedVariables false
open Go.RowKit Go.WideShapes Go.ChangeShapes

/-! ### make([]Node, m) -/
theorem mk_nodes (m : Nat) (x : Int) (hx : x = (m : Int)) (hm : m ≤ 1000) (W : World) :
    (Instr.makeSlice 22 (.int .i64 x) (.int .i64 x)).run Try.prog W = .ok (.slice (some ⟨W.heap.size, 0, none⟩) m m) (W.alloc (.cells ((List.replicate m (⟨0, false⟩ : Nd)).flatMap ndc).toArray 55)) := by
  subst hx
  have hi : (Try.prog.info? 55).map (fun i => (i.zero, i.size, i.bytes)) = some (some (.agg #[.int .i64 0, .bool false]), 2, 16) := by kernel_rfl
  obtain ⟨i, h1, h2, h3, h4⟩ := info_parts hi
  rw [run_make_rowN 22 55 i _ Try.underlying22 h1 h2 .i64 .i64 m m (Nat.le_refl _) (by rw [h4]; omega) (by omega) W, h3]
  suffices h : madeCells (Value.agg #[.int .i64 0, .bool false]).cells (m * 2) = ((List.replicate m (⟨0, false⟩ : Nd)).flatMap ndc).toArray by rw [h]
  show madeCells #[.int .i64 0, .bool false] (m * 2) = _
  apply Array.ext
  · simp only [size_madeCells, List.size_toArray, flatMap_length ndc_len, List.length_replicate]
  · intro j h5 h6
    rw [size_madeCells] at h5
    have hr : (List.replicate m (⟨0, false⟩ : Nd))[j / 2]? = some ⟨0, false⟩ := by rw [List.getElem?_replicate, if_pos (by omega)]
    have hg := flatMap_get ndc_len hr (j % 2) (by omega)
    rw [Nat.div_add_mod' j 2] at hg
    have e : ((List.replicate m (⟨0, false⟩ : Nd)).flatMap ndc).toArray[j]? = (ndc ⟨0, false⟩)[j % 2]? := by rw [List.getElem?_toArray]; exact hg
    rw [Array.getElem?_eq_getElem h6] at e
    have hj : j % 2 = 0 ∨ j % 2 = 1 := by omega
    have hsz : (#[Value.int .i64 0, Value.bool false] : Array Value).size = 2 := rfl
    simp only [madeCells, Array.getElem_map, Array.getElem_range, hsz]
    rcases hj with hj | hj
    · have e0 : (ndc ⟨0, false⟩)[0]? = some (.int .i64 0) := rfl
      rw [hj, e0] at e
      rw [Option.some.inj e, hj]
      rfl
    · have e0 : (ndc ⟨0, false⟩)[1]? = some (.bool false) := rfl
      rw [hj, e0] at e
      rw [Option.some.inj e, hj]
      rfl

/-! ### How it grows -/
def cf0 (m : Nat) : Cf := ⟨List.replicate m ⟨0, false⟩, [], [], 4000000, 1000000, 50, 8, 1000⟩
/-- No port's number is above the number of links. -/
def PB (C : Cf) : Prop := ∀ nd ∈ C.nodes, 0 ≤ nd.ports ∧ nd.ports ≤ (C.links.length : Int)
theorem PB.cf0 (m : Nat) : PB (cf0 m) := fun nd h => by
  have := (List.mem_replicate.1 h).2
  subst this
  exact ⟨Int.le_refl _, Int.le_refl _⟩
theorem addLink_nodes (C : Cf) (a b : Nat) : (addLink C a b).nodes.length = C.nodes.length := by
  show (incP (incP C.nodes a) b).length = _
  rw [incP_len, incP_len]
theorem addLink_links (C : Cf) (a b : Nat) : (addLink C a b).links.length = C.links.length + 1 := by
  show (C.links ++ [_]).length = _
  simp
theorem addLink_flows (C : Cf) (a b : Nat) : (addLink C a b).flows = C.flows := rfl
theorem setBr_nodes (C : Cf) (a : Nat) : (setBr C a).nodes.length = C.nodes.length := brP_len _ _
theorem incP_mem {ns : List Nd} {a : Nat} {k : Nat} {nd : Nd} (h : (incP ns a)[k]? = some nd) : ∃ n0, ns[k]? = some n0 ∧ nd.ports = n0.ports + (if k = a then 1 else 0) := by
  unfold incP at h
  cases ha : ns[a]? with
  | none =>
    rw [ha] at h
    refine ⟨nd, h, ?_⟩
    rw [if_neg (fun e => by subst e; rw [ha] at h; cases h)]; omega
  | some n =>
    rw [ha] at h
    simp only at h
    by_cases hk : k = a
    · subst hk
      rw [List.getElem?_set_self (List.getElem?_eq_some_iff.1 ha).1] at h
      cases h
      exact ⟨n, ha, by simp⟩
    · rw [List.getElem?_set_ne (fun e => hk e.symm)] at h
      exact ⟨nd, h, by simp [hk]⟩
theorem PB.link {C : Cf} {a b : Nat} (h : PB C) (hab : a ≠ b) : PB (addLink C a b) := by
  intro nd hnd
  obtain ⟨k, hk⟩ := List.mem_iff_getElem?.1 hnd
  obtain ⟨n1, h1, e1⟩ := incP_mem (show (incP (incP C.nodes a) b)[k]? = some nd from hk)
  obtain ⟨n0, h0, e0⟩ := incP_mem h1
  have := h n0 (List.mem_of_getElem? h0)
  rw [addLink_links]
  by_cases hka : k = a <;> by_cases hkb : k = b
  · omega
  all_goals simp only [hka, hkb, if_true, if_false] at e0 e1
  all_goals first | omega | (split at e0 <;> split at e1 <;> omega)
theorem PB.br {C : Cf} {a : Nat} (h : PB C) : PB (setBr C a) := by
  intro nd hnd
  have hnd' : nd ∈ brP C.nodes a := hnd
  unfold brP at hnd'
  split at hnd'
  · rename_i n hn
    rcases List.mem_or_eq_of_mem_set hnd' with hm | he
    · exact h nd hm
    · rw [he]; exact h n (List.mem_of_getElem? hn)
  · exact h nd hnd'
theorem Nm.at_ {w : World} {g6 gN : Nat} {C : Cf} {Y : Lay} (h : Nm w g6 gN C Y) : CfAt w w.heap.size C Y := by
  have rd : ∀ {t : TypeId} {base size n c : Nat} {A : Option Addr} {xs : List Value}, w.ownsRow base t size (.slice A n c) n xs → Reads w w.heap.size size A n xs := fun o => Reads.of_own o
  refine ⟨?_, rd h.links, h.wslen, rd h.flows, fun i f s hf hs => ⟨rd (h.ways i f s hf hs).1, rd (h.ways i f s hf hs).2⟩⟩
  rw [h.yN]
  refine ⟨by rw [flatMap_length ndc_len], fun hp => ⟨⟨gN, 0, none⟩, rfl, h.BN.lt, fun j u hu => ?_⟩⟩
  exact blk_cells h.BN j u (by simpa using hu)
/-- What of the box is stored: the nodes' slice. -/
theorem Nm.made {w : World} {g6 m : Nat} (B6 : Blk w g6 26 (cfc (cf0 0) ⟨⟨none, 0⟩, ⟨none, 0⟩, ⟨none, 0⟩, []⟩)) :
    Nm ((w.alloc (.cells ((List.replicate m (⟨0, false⟩ : Nd)).flatMap ndc).toArray 55)).setCell ⟨g6, 0, none⟩ (.slice (some ⟨w.heap.size, 0, none⟩) m m)) g6 w.heap.size (cf0 m) ⟨⟨some ⟨w.heap.size, 0, none⟩, m⟩, ⟨none, 0⟩, ⟨none, 0⟩, []⟩ ∧
    FrN g6 w ((w.alloc (.cells ((List.replicate m (⟨0, false⟩ : Nd)).flatMap ndc).toArray 55)).setCell ⟨g6, 0, none⟩ (.slice (some ⟨w.heap.size, 0, none⟩) m m)) := by
  have hl := B6.lt
  have B6a := B6.alloc (.cells ((List.replicate m (⟨0, false⟩ : Nd)).flatMap ndc).toArray 55)
  have BN := Blk.new w 55 ((List.replicate m (⟨0, false⟩ : Nd)).flatMap ndc).toArray
  refine ⟨⟨?_, by simp [cf0], BN.far (by show w.heap.size ≠ g6; omega) _, ownsRow_nil _ _ _ _, ownsRow_nil _ _ _ _, rfl, fun i f s hf => (by cases hf), hl⟩, ?_⟩
  · have e : cfc (cf0 m) ⟨⟨some ⟨w.heap.size, 0, none⟩, m⟩, ⟨none, 0⟩, ⟨none, 0⟩, []⟩ = (cfc (cf0 0) ⟨⟨none, 0⟩, ⟨none, 0⟩, ⟨none, 0⟩, []⟩).setIfInBounds 0 (.slice (some ⟨w.heap.size, 0, none⟩) m m) := by simp [cfc, cf0]
    rw [e]
    exact B6a.set_ 0 _
  · exact (FrN.be ((Below.refl _ _).alloc (Nat.le_refl _) _)).trans (FrN.one (gr_set (grownBy_refl _ _) 0 _) (Nat.le_refl _) (.inl rfl))
/-- A node becomes a bridge. -/
theorem Nm.br {w : World} {g6 gN a : Nat} {C : Cf} {Y : Lay} {n : Nd} (h : Nm w g6 gN C Y) (ha : C.nodes[a]? = some n) : Nm (w.setCell ⟨gN, a * 2 + 1, none⟩ (.bool true)) g6 gN (setBr C a) Y ∧ FrN g6 w (w.setCell ⟨gN, a * 2 + 1, none⟩ (.bool true)) := by
  have hset := nodes_set ha (n' := ⟨n.ports, true⟩) 1 (by omega) (.bool true) rfl
  have BN := h.BN.set_ (a * 2 + 1) (.bool true)
  rw [hset, ← brP_some ha] at BN
  have gr : w.grownBy (w.setCell ⟨gN, a * 2 + 1, none⟩ (.bool true)) (some gN) := gr_set (grownBy_refl w _) _ _
  exact ⟨h.node gr BN (brP_len _ _), FrN.one gr (Nat.le_of_lt h.lt) (.inr ⟨_, _, h.BN, by decide⟩)⟩

inductive NmAt (w : World) (g6 gN : Nat) (C : Cf) : Prop
  | mk (Y : Lay) (h : Nm w g6 gN C Y) : NmAt w g6 gN C
theorem Nm.of_heap {w w' : World} {g6 gN : Nat} {C : Cf} {Y : Lay} (h : Nm w g6 gN C Y) (e : w'.heap = w.heap) : Nm w' g6 gN C Y := by
  have ow : ∀ {t : TypeId} {base size n : Nat} {v : Value} {xs : List Value}, w.ownsRow base t size v n xs → w'.ownsRow base t size v n xs := fun o => own_type o fun k _ _ _ _ => by rw [e]
  exact ⟨Blk.of_heap (by rw [e]) h.B6, h.yN, Blk.of_heap (by rw [e]) h.BN, ow h.links, ow h.flows, h.wslen, fun i f s hf hs => ⟨ow (h.ways i f s hf hs).1, ow (h.ways i f s hf hs).2⟩, h.lt⟩
theorem FrN.of_heap {g6 : Nat} {w w' w'' : World} (h : FrN g6 w w') (ho : w''.os = w'.os) (ht : w''.tape = w'.tape) (hu : w''.output = w'.output) (e : w''.heap = w'.heap) : FrN g6 w w'' :=
  ⟨ho.trans h.os, ht.trans h.tape, hu.trans h.output, by rw [e]; exact h.size, fun k hk hc => by rw [e]; exact h.block k hk hc⟩
theorem Nm.set4 {w w' : World} {g4 g6 gN : Nat} {C : Cf} {Y : Lay} (h : Nm w g6 gN C Y) (hl : g4 < g6) (hb : w.grownBy w' (some g4)) : CfAt w' w'.heap.size C Y := by
  have ow : ∀ {t : TypeId} {size n : Nat} {v : Value} {xs : List Value}, w.ownsRow (g6 + 1) t size v n xs → w'.ownsRow (g6 + 1) t size v n xs := fun o => own_kept o hb fun k hk e => by
    have := (ownsRow_lt o k hk).1
    injection e with e
    omega
  have hlt := h.lt
  exact Nm.at_ ⟨h.B6.grown hb (fun e => by injection e with e; omega), h.yN, h.BN.grown hb (fun e => by injection e with e; omega), ow h.links, ow h.flows, h.wslen, fun i f s hf hs => ⟨ow (h.ways i f s hf hs).1, ow (h.ways i f s hf hs).2⟩, h.lt⟩

/-! ### Two bridges with n stations at both -/
def lk2 (n : Nat) : Nat → Cf
  | 0 => setBr (setBr (cf0 (n + 2)) 0) 1
  | i + 1 => addLink (addLink (lk2 n i) (2 + i) 0) (2 + i) 1
theorem lk2_facts (n : Nat) : ∀ i, (lk2 n i).nodes.length = n + 2 ∧ (lk2 n i).links.length = 2 * i ∧ (lk2 n i).flows = [] ∧ PB (lk2 n i)
  | 0 => ⟨by rw [lk2, setBr_nodes, setBr_nodes]; simp [cf0], rfl, rfl, ((PB.cf0 _).br).br⟩
  | i + 1 => by
    obtain ⟨h1, h2, h3, h4⟩ := lk2_facts n i
    refine ⟨by rw [lk2, addLink_nodes, addLink_nodes, h1], by rw [lk2, addLink_links, addLink_links, h2]; omega, by rw [lk2, addLink_flows, addLink_flows, h3], (h4.link (by omega)).link (by omega)⟩
def fl2 (n : Nat) : Nat → Cf
  | 0 => lk2 n n
  | i + 1 => addFlow (fl2 n i) i (2 + ((i % n : Nat) : Int)) (2 + (((i + 1) % n : Nat) : Int)) [2 * ((i % n : Nat) : Int), 2 * (((i + 1) % n : Nat) : Int)] [2 * ((i % n : Nat) : Int) + 1, 2 * (((i + 1) % n : Nat) : Int) + 1]
theorem fl2_flows (n : Nat) : ∀ i, (fl2 n i).flows.length = i
  | 0 => by rw [fl2, (lk2_facts n n).2.2.1]; rfl
  | i + 1 => by
    show ((fl2 n i).flows ++ [_]).length = _
    rw [List.length_append, fl2_flows n i]; rfl
end Go.Proofs.Ytaegngcbiefckaa
