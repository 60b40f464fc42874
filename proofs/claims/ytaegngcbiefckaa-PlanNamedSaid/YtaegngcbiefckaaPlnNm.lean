/-
  A network that is being made: its lists in memory.
-/
import Derived.Test.YtaegngcbiefckaaPlnGt
namespace Go.Proofs.Ytaegngcbiefckaa
set_option linter.unusedSimpArgs false
set_option linter.unusedVariables false
open Go.RowKit Go.WideShapes Go.ChangeShapes

theorem sty_link : SliceTy Try.prog 23 80 6 48 := sliceTy_mk (z := .agg #[.int .i64 0, .int .i64 0, .int .i64 0, .int .i64 0, .int .i64 0, .int .i64 0]) Try.underlying23 (by kernel_rfl) rfl
theorem sty_flow : SliceTy Try.prog 24 74 8 96 := sliceTy_mk (z := .agg #[.int .i64 0, .int .i64 0, .slice none 0 0, .slice none 0 0, .int .i64 0, .int .i64 0, .int .i64 0, .int .i64 0]) Try.underlying24 (by kernel_rfl) rfl

/-! ### Plain -/
def portOf (ns : List Nd) (a : Nat) : Int := match ns[a]? with | some n => n.ports | none => 0
def incP (ns : List Nd) (a : Nat) : List Nd := match ns[a]? with | some n => ns.set a ⟨n.ports + 1, n.br⟩ | none => ns
def brP (ns : List Nd) (a : Nat) : List Nd := match ns[a]? with | some n => ns.set a ⟨n.ports, true⟩ | none => ns
def addLink (C : Cf) (a b : Nat) : Cf := { C with links := C.links ++ [⟨(a : Int), portOf C.nodes a, (b : Int), portOf C.nodes b, 90, 100⟩], nodes := incP (incP C.nodes a) b }
def addFlow (C : Cf) (i : Nat) (s d : Int) (w0 w1 : List Int) : Cf := { C with flows := C.flows ++ [⟨s, d, w0, w1, 200000 + 400000 * (i : Int), 0, 200, 100000⟩] }
def setBr (C : Cf) (a : Nat) : Cf := { C with nodes := brP C.nodes a }
theorem incP_len (ns : List Nd) (a : Nat) : (incP ns a).length = ns.length := by
  unfold incP
  split <;> simp
theorem brP_len (ns : List Nd) (a : Nat) : (brP ns a).length = ns.length := by
  unfold brP
  split <;> simp
theorem incP_some {ns : List Nd} {a : Nat} {n : Nd} (h : ns[a]? = some n) : incP ns a = ns.set a ⟨n.ports + 1, n.br⟩ := by rw [incP, h]
theorem brP_some {ns : List Nd} {a : Nat} {n : Nd} (h : ns[a]? = some n) : brP ns a = ns.set a ⟨n.ports, true⟩ := by rw [brP, h]
theorem portOf_some {ns : List Nd} {a : Nat} {n : Nd} (h : ns[a]? = some n) : portOf ns a = n.ports := by rw [portOf, h]

/-! ### A frame: what lies below the network's box, and what is not of its lists' types, stays -/
def NT3 (t : TypeId) : Prop := t = 55 ∨ t = 80 ∨ t = 74
instance (t : TypeId) : Decidable (NT3 t) := by unfold NT3; infer_instance
structure FrN (g6 : Nat) (w w' : World) : Prop where
  os : w'.os = w.os
  tape : w'.tape = w.tape
  output : w'.output = w.output
  size : w.heap.size ≤ w'.heap.size
  block : ∀ k, k < w.heap.size → k < g6 ∨ (k ≠ g6 ∧ ∀ cs t z, w.heap[k]? = some (.cells cs t z) → ¬ NT3 t) → w'.heap[k]? = w.heap[k]?
section
variable {g6 g : Nat} {w w' w'' : World} {t : TypeId} {cs : Array Value}
theorem FrN.refl : FrN g6 w w := ⟨rfl, rfl, rfl, Nat.le_refl _, fun _ _ _ => rfl⟩
theorem FrN.trans (h : FrN g6 w w') (h' : FrN g6 w' w'') : FrN g6 w w'' :=
  ⟨h'.os.trans h.os, h'.tape.trans h.tape, h'.output.trans h.output, Nat.le_trans h.size h'.size, fun k hk hc => by
    have e := h.block k hk hc
    refine (h'.block k (Nat.lt_of_lt_of_le hk h.size) ?_).trans e
    rcases hc with hc | ⟨h1, h3⟩
    · exact .inl hc
    · exact .inr ⟨h1, by rw [e]; exact h3⟩⟩
theorem FrN.be (h : Below w.heap.size w w') : FrN g6 w w' := ⟨h.os, h.tape, h.output, h.size, fun k hk _ => h.block k hk⟩
theorem FrN.below (h : FrN g6 w w') (hg : g6 ≤ w.heap.size) : Below g6 w w' := ⟨h.os, h.tape, h.output, h.size, fun k hk => h.block k (by omega) (.inl hk)⟩
theorem FrN.blk (h : FrN g6 w w') (B : Blk w g t cs) (ht : ¬ NT3 t) (hg : g ≠ g6) : Blk w' g t cs := by
  refine (h.block g B.lt (.inr ⟨hg, fun cs t' z e => ?_⟩)).trans B
  have B' := B
  unfold Blk at B'
  rw [B'] at e
  injection e with e
  injection e with _ e _
  rw [← e]; exact ht
theorem FrN.own (h : FrN g6 w w') {base size n : Nat} {v : Value} {xs : List Value} (o : w.ownsRow base t size v n xs) (ht : ¬ NT3 t) (hb : g6 < base) : w'.ownsRow base t size v n xs := by
  have hlt := ownsRow_lt o
  obtain ⟨h1, h2⟩ := o
  refine ⟨h1, h2.imp id fun ⟨q, cap, cur, hv, hg, hh, r⟩ => ⟨q, cap, cur, hv, hg, ?_, r⟩⟩
  have hq : v.ownBlock = some q := by rw [hv]; rfl
  refine (h.block q (hlt q hq).2 (.inr ⟨by omega, fun cs t' z e => ?_⟩)).trans hh
  rw [hh] at e
  injection e with e
  injection e with _ e _
  rw [← e]; exact ht
/-- One block turns: the box, or one of the lists. -/
theorem FrN.one (h : w.grownBy w' (some g)) (hl : g6 ≤ g) (hg : g = g6 ∨ ∃ cs t, Blk w g t cs ∧ NT3 t) : FrN g6 w w' :=
  ⟨h.os, h.tape, h.output, h.size, fun k hk hc => h.block k hk (fun e => by
    injection e with e
    subst e
    rcases hc with hc | ⟨h1, h2⟩
    · omega
    · rcases hg with hg | ⟨cs, t, B, ht⟩
      · exact h1 hg
      · exact h2 _ _ _ B ht)⟩
theorem FrN.row {base size n : Nat} {v : Value} {xs : List Value} (h : w.grownBy w' v.ownBlock) (o : w.ownsRow base t size v n xs) (ht : NT3 t) (hb : g6 ≤ base) : FrN g6 w w' :=
  ⟨h.os, h.tape, h.output, h.size, fun k hk hc => h.block k hk (fun e => by
    rcases o.2 with ⟨h1, _⟩ | ⟨q, cap, cur, h1, h2, h3, _⟩
    · rw [h1] at e; cases e
    · rw [h1] at e
      injection e with e
      have e : k = q := e
      subst e
      rcases hc with hc | ⟨_, hc⟩
      · omega
      · exact hc _ _ _ h3 ht)⟩
end
theorem own_same {w w' : World} {base : Nat} {e : TypeId} {size n : Nat} {v : Value} {xs : List Value} (h : w.ownsRow base e size v n xs) (hk : ∀ k cs z, k < w.heap.size → w.heap[k]? = some (.cells cs e z) → w'.heap[k]? = w.heap[k]?) : w'.ownsRow base e size v n xs := own_type h hk

/-! ### The network -/
structure Nm (w : World) (g6 gN : Nat) (C : Cf) (Y : Lay) : Prop where
  B6 : Blk w g6 26 (cfc C Y)
  yN : Y.N = ⟨some ⟨gN, 0, none⟩, C.nodes.length⟩
  BN : Blk w gN 55 (C.nodes.flatMap ndc).toArray
  links : w.ownsRow (g6 + 1) 80 6 (.slice Y.L.A C.links.length Y.L.c) C.links.length (C.links.flatMap lkc)
  flows : w.ownsRow (g6 + 1) 74 8 (.slice Y.F.A C.flows.length Y.F.c) C.flows.length ((C.flows.zip Y.ws).flatMap fun x => fwc x.1 x.2)
  wslen : Y.ws.length = C.flows.length
  ways : ∀ (i : Nat) (f : Fw) (s : Sl × Sl), C.flows[i]? = some f → Y.ws[i]? = some s → w.ownsRow (g6 + 1) 3 1 (.slice s.1.A f.w0.length s.1.c) f.w0.length (f.w0.map (Value.int .i64)) ∧ w.ownsRow (g6 + 1) 3 1 (.slice s.2.A f.w1.length s.2.c) f.w1.length (f.w1.map (Value.int .i64))
  lt : g6 < gN
section
variable {w w' : World} {g6 gN : Nat} {C : Cf} {Y : Lay}
theorem Nm.keep (h : Nm w g6 gN C Y) (hb : Below w.heap.size w w') : Nm w' g6 gN C Y :=
  ⟨h.B6.kept hb, h.yN, h.BN.kept hb, ownsRow_keep h.links hb, ownsRow_keep h.flows hb, h.wslen, fun i f s hf hs => ⟨ownsRow_keep (h.ways i f s hf hs).1 hb, ownsRow_keep (h.ways i f s hf hs).2 hb⟩, h.lt⟩
/-- One cell of the nodes turns. -/
theorem Nm.node (h : Nm w g6 gN C Y) {w' : World} {ns : List Nd} (hb : w.grownBy w' (some gN)) (hB : Blk w' gN 55 (ns.flatMap ndc).toArray) (hn : ns.length = C.nodes.length) : Nm w' g6 gN { C with nodes := ns } Y := by
  have far : ∀ {t : TypeId} {base size n : Nat} {v : Value} {xs : List Value}, t ≠ 55 → w.ownsRow base t size v n xs → w'.ownsRow base t size v n xs := fun ht o => own_kept o hb fun k hk e => by
    injection e with e
    subst e
    exact own_blk_ne o h.BN ht hk
  refine ⟨?_, by rw [h.yN, hn], hB, far (by decide) h.links, far (by decide) h.flows, h.wslen, fun i f s hf hs => ⟨far (by decide) (h.ways i f s hf hs).1, far (by decide) (h.ways i f s hf hs).2⟩, h.lt⟩
  have e : cfc { C with nodes := ns } Y = cfc C Y := by simp [cfc, hn]
  rw [e]
  exact h.B6.grown hb (fun e => by have := h.lt; injection e with e; omega)
theorem nodes_at {ns : List Nd} {a : Nat} {n : Nd} (h : ns[a]? = some n) (j : Nat) (hj : j < 2) : (ns.flatMap ndc).toArray[a * 2 + j]? = (ndc n)[j]? := by
  rw [List.getElem?_toArray]
  exact flatMap_get ndc_len h j hj
theorem nodes_set {ns : List Nd} {a : Nat} {n n' : Nd} (h : ns[a]? = some n) (j : Nat) (hj : j < 2) (u : Value) (hu : ndc n' = (ndc n).set j u) : (ns.flatMap ndc).toArray.setIfInBounds (a * 2 + j) u = ((ns.set a n').flatMap ndc).toArray := by
  have key : ∀ (ns : List Nd) (a : Nat), ns[a]? = some n → (ns.flatMap ndc).set (a * 2 + j) u = (ns.set a n').flatMap ndc := by
    intro ns
    induction ns with
    | nil => intro a h; simp at h
    | cons x ns ih =>
      intro a h
      have h2 : (ndc x).length = 2 := ndc_len x
      cases a with
      | zero =>
        simp only [List.getElem?_cons_zero, Option.some.injEq] at h
        subst h
        rw [List.set_cons_zero, List.flatMap_cons, List.flatMap_cons, hu, List.set_append, if_pos (by omega)]
        congr 2
        omega
      | succ a =>
        simp only [List.getElem?_cons_succ] at h
        rw [List.set_cons_succ, List.flatMap_cons, List.flatMap_cons, ← ih a h, List.set_append, if_neg (by omega)]
        congr 2
        omega
  rw [List.setIfInBounds_toArray, key ns a h]
theorem Nm.link {w2 : World} {l : Lk} {Av : Option Addr} {cv : Nat} (h : Nm w g6 gN C Y) (own2 : w2.ownsRow (g6 + 1) 80 6 (.slice Av (C.links.length + 1) cv) (C.links.length + 1) (C.links.flatMap lkc ++ lkc l)) (gr : w.grownBy w2 (.slice Y.L.A C.links.length Y.L.c : Value).ownBlock) :
    Blk w2 g6 26 (cfc C Y) ∧ Nm (w2.setCell ⟨g6, 1, none⟩ (.slice Av (C.links.length + 1) cv)) g6 gN { C with links := C.links ++ [l] } { Y with L := ⟨Av, cv⟩ } ∧ FrN g6 w (w2.setCell ⟨g6, 1, none⟩ (.slice Av (C.links.length + 1) cv)) := by
  have hrow : ∀ k, (Value.slice Y.L.A C.links.length Y.L.c).ownBlock = some k → g6 + 1 ≤ k := fun k hk => (ownsRow_lt h.links k hk).1
  have B2 : Blk w2 g6 26 (cfc C Y) := h.B6.grown gr (fun e => by have := hrow g6 e.symm; omega)
  have gs : w2.grownBy (w2.setCell ⟨g6, 1, none⟩ (.slice Av (C.links.length + 1) cv)) (some g6) := gr_set (grownBy_refl w2 _) 1 _
  have far1 : ∀ {t : TypeId} {base size n : Nat} {v : Value} {xs : List Value}, t ≠ 80 → w.ownsRow base t size v n xs → w2.ownsRow base t size v n xs := fun ht o => own_type o (row_type h.links gr ht)
  have far2 : ∀ {t : TypeId} {size n : Nat} {v : Value} {xs : List Value}, w2.ownsRow (g6 + 1) t size v n xs → (w2.setCell ⟨g6, 1, none⟩ (.slice Av (C.links.length + 1) cv)).ownsRow (g6 + 1) t size v n xs := fun o => own_kept o gs fun k hk e => by
    have := (ownsRow_lt o k hk).1
    injection e with e
    omega
  refine ⟨B2, ⟨?_, h.yN, ?_, ?_, far2 (far1 (by decide) h.flows), h.wslen, fun i f s hf hs => ⟨far2 (far1 (by decide) (h.ways i f s hf hs).1), far2 (far1 (by decide) (h.ways i f s hf hs).2)⟩, h.lt⟩, ?_⟩
  · have e : cfc { C with links := C.links ++ [l] } { Y with L := ⟨Av, cv⟩ } = (cfc C Y).setIfInBounds 1 (.slice Av (C.links.length + 1) cv) := by simp [cfc]
    rw [e]
    exact B2.set_ 1 _
  · have hne : ∀ k, (Value.slice Y.L.A C.links.length Y.L.c).ownBlock = some k → k ≠ gN := fun k hk e => by
      subst e
      exact own_blk_ne h.links h.BN (by decide) hk
    exact (h.BN.grown gr (fun e => hne gN e.symm rfl)).grown gs (fun e => by have := h.lt; injection e with e; omega)
  · have e : ({ C with links := C.links ++ [l] } : Cf).links.flatMap lkc = C.links.flatMap lkc ++ lkc l := by simp
    rw [e]
    have e2 : ({ C with links := C.links ++ [l] } : Cf).links.length = C.links.length + 1 := by simp
    rw [e2]
    exact far2 own2
  · exact (FrN.row gr h.links (by decide) (Nat.le_succ _)).trans (FrN.one gs (Nat.le_refl _) (.inl rfl))
theorem Nm.flow {w2 : World} {f : Fw} {sl : Sl × Sl} {Av : Option Addr} {cv : Nat} (h : Nm w g6 gN C Y) (own2 : w2.ownsRow (g6 + 1) 74 8 (.slice Av (C.flows.length + 1) cv) (C.flows.length + 1) (((C.flows.zip Y.ws).flatMap fun x => fwc x.1 x.2) ++ fwc f sl)) (gr : w.grownBy w2 (.slice Y.F.A C.flows.length Y.F.c : Value).ownBlock)
    (h0 : w.ownsRow (g6 + 1) 3 1 (.slice sl.1.A f.w0.length sl.1.c) f.w0.length (f.w0.map (Value.int .i64))) (h1 : w.ownsRow (g6 + 1) 3 1 (.slice sl.2.A f.w1.length sl.2.c) f.w1.length (f.w1.map (Value.int .i64))) :
    Blk w2 g6 26 (cfc C Y) ∧ Nm (w2.setCell ⟨g6, 2, none⟩ (.slice Av (C.flows.length + 1) cv)) g6 gN { C with flows := C.flows ++ [f] } { Y with F := ⟨Av, cv⟩, ws := Y.ws ++ [sl] } ∧ FrN g6 w (w2.setCell ⟨g6, 2, none⟩ (.slice Av (C.flows.length + 1) cv)) := by
  have hrow : ∀ k, (Value.slice Y.F.A C.flows.length Y.F.c).ownBlock = some k → g6 + 1 ≤ k := fun k hk => (ownsRow_lt h.flows k hk).1
  have B2 : Blk w2 g6 26 (cfc C Y) := h.B6.grown gr (fun e => by have := hrow g6 e.symm; omega)
  have gs : w2.grownBy (w2.setCell ⟨g6, 2, none⟩ (.slice Av (C.flows.length + 1) cv)) (some g6) := gr_set (grownBy_refl w2 _) 2 _
  have far1 : ∀ {t : TypeId} {base size n : Nat} {v : Value} {xs : List Value}, t ≠ 74 → w.ownsRow base t size v n xs → w2.ownsRow base t size v n xs := fun ht o => own_type o (row_type h.flows gr ht)
  have far2 : ∀ {t : TypeId} {size n : Nat} {v : Value} {xs : List Value}, w2.ownsRow (g6 + 1) t size v n xs → (w2.setCell ⟨g6, 2, none⟩ (.slice Av (C.flows.length + 1) cv)).ownsRow (g6 + 1) t size v n xs := fun o => own_kept o gs fun k hk e => by
    have := (ownsRow_lt o k hk).1
    injection e with e
    omega
  have hwl := h.wslen
  refine ⟨B2, ⟨?_, h.yN, ?_, far2 (far1 (by decide) h.links), ?_, by simp [hwl], fun i f' s' hf hs => ?_, h.lt⟩, ?_⟩
  · have e : cfc { C with flows := C.flows ++ [f] } { Y with F := ⟨Av, cv⟩, ws := Y.ws ++ [sl] } = (cfc C Y).setIfInBounds 2 (.slice Av (C.flows.length + 1) cv) := by simp [cfc]
    rw [e]
    exact B2.set_ 2 _
  · have hne : ∀ k, (Value.slice Y.F.A C.flows.length Y.F.c).ownBlock = some k → k ≠ gN := fun k hk e => by
      subst e
      exact own_blk_ne h.flows h.BN (by decide) hk
    exact (h.BN.grown gr (fun e => hne gN e.symm rfl)).grown gs (fun e => by have := h.lt; injection e with e; omega)
  · have e : (({ C with flows := C.flows ++ [f] } : Cf).flows.zip ({ Y with F := ⟨Av, cv⟩, ws := Y.ws ++ [sl] } : Lay).ws).flatMap (fun x => fwc x.1 x.2) = ((C.flows.zip Y.ws).flatMap fun x => fwc x.1 x.2) ++ fwc f sl := by
      show ((C.flows ++ [f]).zip (Y.ws ++ [sl])).flatMap (fun x => fwc x.1 x.2) = _
      rw [List.zip_append hwl.symm]
      simp
    rw [e]
    have e2 : ({ C with flows := C.flows ++ [f] } : Cf).flows.length = C.flows.length + 1 := by simp
    rw [e2]
    exact far2 own2
  · have hf' : (C.flows ++ [f])[i]? = some f' := hf
    have hs' : (Y.ws ++ [sl])[i]? = some s' := hs
    by_cases hi : i < C.flows.length
    · rw [List.getElem?_append_left hi] at hf'
      rw [List.getElem?_append_left (by omega)] at hs'
      exact ⟨far2 (far1 (by decide) (h.ways i f' s' hf' hs').1), far2 (far1 (by decide) (h.ways i f' s' hf' hs').2)⟩
    · rw [List.getElem?_append_right (by omega)] at hf' hs'
      have hi0 : i - C.flows.length = 0 := by
        by_cases hz : i - C.flows.length = 0
        · exact hz
        · rw [List.getElem?_eq_none (by simp; omega)] at hf'; cases hf'
      have hi1 : i - Y.ws.length = 0 := by rw [hwl]; exact hi0
      rw [hi0] at hf'
      rw [hi1] at hs'
      cases hf'
      cases hs'
      exact ⟨far2 (far1 (by decide) h0), far2 (far1 (by decide) h1)⟩
  · exact (FrN.row gr h.flows (by decide) (Nat.le_succ _)).trans (FrN.one gs (Nat.le_refl _) (.inl rfl))
end
end Go.Proofs.Ytaegngcbiefckaa
