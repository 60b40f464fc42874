/-
  The reference of layer 22: its network in memory; a struct whose fields are rows of its own; what lies between.
-/
import Derived.Test.YtaegngcbiefckaaPlnNm
import Derived.Test.YtaegngcbiefckaaPlnX
namespace Go.Proofs.Ytaegngcbiefckaa
set_option linter.unusedSimpArgs false
set_option linter.unusedVariables false
open Go.RowKit Go.WideShapes Go.ChangeShapes

theorem rsI : SliceTy Try.prog 36 3 1 8 := sliceTy_mk (z := .int .i64 0) Try.underlying36 (by kernel_rfl) rfl
theorem rsB : SliceTy Try.prog 37 4 1 1 := sliceTy_mk (z := .bool false) Try.underlying37 (by kernel_rfl) rfl
theorem rsL : SliceTy Try.prog 38 96 6 48 := sliceTy_mk (z := .agg #[.int .i64 0, .int .i64 0, .int .i64 0, .int .i64 0, .int .i64 0, .int .i64 0]) Try.underlying38 (by kernel_rfl) rfl
theorem rsW : SliceTy Try.prog 39 72 2 48 := sliceTy_mk (z := .agg #[.slice none 0 0, .slice none 0 0]) Try.underlying39 (by kernel_rfl) rfl
theorem rsO : SliceTy Try.prog 44 53 2 16 := sliceTy_mk (z := .agg #[.int .i64 0, .int .i64 0]) Try.underlying44 (by kernel_rfl) rfl
theorem rsS : SliceTy Try.prog 45 103 4 32 := sliceTy_mk (z := .agg #[.int .i64 0, .int .i64 0, .int .i64 0, .int .i64 0]) Try.underlying45 (by kernel_rfl) rfl
theorem rsG : SliceTy Try.prog 62 68 2 16 := sliceTy_mk (z := .agg #[.int .i64 0, .int .i64 0]) Try.underlying62 (by kernel_rfl) rfl

/-! ### A struct in a box whose fields are rows: each of its own block above the box -/
structure Rw where
  p : Nat
  v : Value
  e : TypeId
  size : Nat
  n : Nat
  xs : List Value
structure RBx (w : World) (g : Nat) (t : TypeId) (cs : Array Value) (rs : List Rw) : Prop where
  B : Blk w g t cs
  row : ∀ r ∈ rs, w.ownsRow (g + 1) r.e r.size r.v r.n r.xs
  ap : rs.Pairwise fun r s => r.p ≠ s.p ∧ ∀ k, r.v.ownBlock = some k → s.v.ownBlock ≠ some k
section
variable {w w' w2 : World} {g : Nat} {t : TypeId} {cs cs' : Array Value} {rs pre post : List Rw} {r : Rw}
theorem RBx.keep (h : RBx w g t cs rs) (hb : Below w.heap.size w w') : RBx w' g t cs rs :=
  ⟨h.B.kept hb, fun r hr => ownsRow_keep (h.row r hr) hb, h.ap⟩
/-- What turns one block that is neither the box nor a row's keeps it. -/
theorem RBx.far (h : RBx w g t cs rs) {q : Option Nat} (hb : w.grownBy w' q) (hg : q ≠ some g) (hq : ∀ r ∈ rs, ∀ k, r.v.ownBlock = some k → q ≠ some k) : RBx w' g t cs rs :=
  ⟨h.B.grown hb (fun e => hg e.symm), fun r hr => own_kept (h.row r hr) hb (fun k hk e => hq r hr k hk e.symm), h.ap⟩
theorem RBx.push (h : RBx w g t cs (pre ++ r :: post)) {v2 : Value} {n2 : Nat} {ys : List Value} (own2 : w2.ownsRow (g + 1) r.e r.size v2 n2 ys) (gr : w.grownBy w2 r.v.ownBlock) (mv : Moved w r.v v2) (hcs : cs.setIfInBounds r.p v2 = cs') :
    Blk w2 g t cs ∧ RBx (w2.setCell ⟨g, r.p, none⟩ v2) g t cs' (pre ++ ⟨r.p, v2, r.e, r.size, n2, ys⟩ :: post) ∧ Below g w (w2.setCell ⟨g, r.p, none⟩ v2) := by
  have hrow := h.row r (List.mem_append_right _ (List.mem_cons_self ..))
  have hge : ∀ (s : Rw), s ∈ pre ++ r :: post → ∀ k, s.v.ownBlock = some k → g + 1 ≤ k := fun s hs k hk => (ownsRow_lt (h.row s hs) k hk).1
  have hlt : ∀ (s : Rw), s ∈ pre ++ r :: post → ∀ k, s.v.ownBlock = some k → k < w.heap.size := fun s hs k hk => (ownsRow_lt (h.row s hs) k hk).2
  have B2 : Blk w2 g t cs := h.B.grown gr (fun e => by have := (ownsRow_lt hrow g e.symm).1; omega)
  have gs : w2.grownBy (w2.setCell ⟨g, r.p, none⟩ v2) (some g) := gr_set (grownBy_refl w2 _) _ _
  have hset : ∀ {e : TypeId} {size n : Nat} {v : Value} {xs : List Value}, w2.ownsRow (g + 1) e size v n xs → (w2.setCell ⟨g, r.p, none⟩ v2).ownsRow (g + 1) e size v n xs := fun o => own_kept o gs fun k hk e => by
    have := (ownsRow_lt o k hk).1
    injection e with e
    omega
  obtain ⟨hp1, hp2, hp3⟩ := List.pairwise_append.1 h.ap
  obtain ⟨hp4, hp5⟩ := List.pairwise_cons.1 hp2
  have hmv : ∀ (s : Rw), s ∈ pre ++ r :: post → (∀ k, r.v.ownBlock = some k → s.v.ownBlock ≠ some k) → ∀ k, v2.ownBlock = some k → s.v.ownBlock ≠ some k := fun s hs hne k hk e => by
    rcases mv with mv | ⟨q, mv, hq⟩
    · exact hne k (by rw [← mv, hk]) e
    · rw [mv] at hk
      injection hk with hk
      have := hlt s hs k e
      omega
  refine ⟨B2, ⟨?_, ?_, ?_⟩, ?_⟩
  · rw [← hcs]; exact B2.set_ r.p v2
  · intro s hs
    rcases List.mem_append.1 hs with hs | hs
    · have hs' := List.mem_append_left (r :: post) hs
      exact hset (own_kept (h.row s hs') gr fun k hk e => (hp3 s hs r (List.mem_cons_self ..)).2 k hk e.symm)
    · rcases List.mem_cons.1 hs with rfl | hs
      · exact hset own2
      · have hs' : s ∈ pre ++ r :: post := List.mem_append_right _ (List.mem_cons_of_mem _ hs)
        exact hset (own_kept (h.row s hs') gr fun k hk e => (hp4 s hs).2 k e.symm hk)
  · refine List.pairwise_append.2 ⟨hp1, List.pairwise_cons.2 ⟨fun s hs => ⟨(hp4 s hs).1, ?_⟩, hp5⟩, fun a ha b hb => ?_⟩
    · exact hmv s (List.mem_append_right _ (List.mem_cons_of_mem _ hs)) (hp4 s hs).2
    · rcases List.mem_cons.1 hb with rfl | hb
      · refine ⟨(hp3 a ha r (List.mem_cons_self ..)).1, fun k hk e => ?_⟩
        exact hmv a (List.mem_append_left _ ha) (fun k hk e => (hp3 a ha r (List.mem_cons_self ..)).2 k e hk) k e hk
      · exact hp3 a ha b (List.mem_cons_of_mem _ hb)
  · have hb : Below g w w2 := ⟨gr.os, gr.tape, gr.output, gr.size, fun k hk => gr.block k (Nat.lt_trans hk h.B.lt) fun e => by have := (ownsRow_lt hrow k e.symm).1; omega⟩
    exact hb.setCell (Nat.le_refl _) _
end

/-! ### The network as the reference has it -/
structure RL where
  P : Sl
  B : Sl
  L : Sl
  F : Sl
  W : Sl
  ws : List (Sl × Sl)
def rfl6 (f : Fw) : List Value := [.int .i64 f.src, .int .i64 f.dst, .int .i64 f.start, .int .i64 f.len, .int .i64 f.size, .int .i64 f.late]
def rwy (x : Fw × (Sl × Sl)) : List Value := [.slice x.2.1.A x.1.w0.length x.2.1.c, .slice x.2.2.A x.1.w1.length x.2.2.c]
def rpt (n : Nd) : Value := .int .i64 n.ports
def rbr (n : Nd) : Value := .bool n.br
def rfc (C : Cf) (R : RL) : Array Value := #[.slice R.P.A C.nodes.length R.P.c, .slice R.B.A C.nodes.length R.B.c, .slice R.L.A C.links.length R.L.c, .slice R.F.A C.flows.length R.F.c, .slice R.W.A C.flows.length R.W.c, .int .i64 C.cycle, .int .i64 C.every, .int .i64 C.ppm, .int .i64 C.grain, .int .i64 C.proc]
structure RfAt (w : World) (B : Nat) (C : Cf) (R : RL) : Prop where
  ports : Reads w B 1 R.P.A C.nodes.length (C.nodes.map rpt)
  brs : Reads w B 1 R.B.A C.nodes.length (C.nodes.map rbr)
  links : Reads w B 6 R.L.A C.links.length (C.links.flatMap lkc)
  flows : Reads w B 6 R.F.A C.flows.length (C.flows.flatMap rfl6)
  wslen : R.ws.length = C.flows.length
  wys : Reads w B 2 R.W.A C.flows.length ((C.flows.zip R.ws).flatMap rwy)
  ways : ∀ (i : Nat) (f : Fw) (s : Sl × Sl), C.flows[i]? = some f → R.ws[i]? = some s → Reads w B 1 s.1.A f.w0.length (f.w0.map (Value.int .i64)) ∧ Reads w B 1 s.2.A f.w1.length (f.w1.map (Value.int .i64))
section
variable {w w' : World} {B B' : Nat} {C : Cf} {R : RL}
theorem RfAt.below (h : RfAt w B C R) (hb : Below B w w') : RfAt w' B C R :=
  ⟨h.ports.below hb, h.brs.below hb, h.links.below hb, h.flows.below hb, h.wslen, h.wys.below hb, fun i f s hf hs => ⟨(h.ways i f s hf hs).1.below hb, (h.ways i f s hf hs).2.below hb⟩⟩
theorem RfAt.more (h : RfAt w B C R) (hB : B ≤ B') : RfAt w B' C R :=
  ⟨h.ports.more hB, h.brs.more hB, h.links.more hB, h.flows.more hB, h.wslen, h.wys.more hB, fun i f s hf hs => ⟨(h.ways i f s hf hs).1.more hB, (h.ways i f s hf hs).2.more hB⟩⟩
end
theorem rfl6_len (f : Fw) : (rfl6 f).length = 6 := rfl
theorem rwy_len (x : Fw × (Sl × Sl)) : (rwy x).length = 2 := rfl
theorem sm_ret_cell1 {P : Program} {fn : Func} {R : Ending → World → Prop} {a : Act} {w : World} {b : Tmp} {ty t : TypeId} {g : Nat} {cs : Array Value} {d : TypeDesc} (hr : fn.results = #[.cell b ty]) (hd : a.defers = [])
    (e1 : a.tmps[b]? = some (.pointer (some ⟨g, 0, none⟩))) (B : Blk w g t cs) (hu : P.underlying ty = some d) (hd' : (match d with | .struct _ | .array _ _ => true | _ => false) = true) (hi : (P.info? ty).map (·.size) = some cs.size)
    (hR : R (.returned (.agg cs)) w) : bodyPost P fn R .ret a w :=
  bodyPost_ret (v := .agg cs) (by simp [results, hr, e1, asAddr, run_loadVar_row w g t ty cs (0, 0) d B hu hd' hi, Result.andThen]) hd hR
/-! ### How `plain` grows it -/
def rwP (C : Cf) (v : Value) (j : Nat) : Rw := ⟨0, v, 3, 1, j, (C.nodes.take j).map rpt⟩
def rwB (C : Cf) (v : Value) (j : Nat) : Rw := ⟨1, v, 4, 1, j, (C.nodes.take j).map rbr⟩
def rwL (C : Cf) (v : Value) (j : Nat) : Rw := ⟨2, v, 96, 6, j, (C.links.take j).flatMap lkc⟩
def rwF (C : Cf) (v : Value) (j : Nat) : Rw := ⟨3, v, 96, 6, j, (C.flows.take j).flatMap rfl6⟩
def rwW (C : Cf) (Y : Lay) (v : Value) (j : Nat) : Rw := ⟨4, v, 72, 2, j, ((C.flows.zip Y.ws).take j).flatMap rwy⟩
theorem take_more {α : Type} {l : List α} {j : Nat} {x : α} (h : l[j]? = some x) : l.take (j + 1) = l.take j ++ [x] := by
  rw [List.take_add_one, h]; rfl
section
variable {w w2 : World} {g : Nat} {t : TypeId} {C : Cf} {Y : Lay} {i j k l m : Nat} {vP vB vL vF vW v2 : Value} {T : List Value}
def rcs (vP vB vL vF vW : Value) (C : Cf) : Array Value := #[vP, vB, vL, vF, vW, .int .i64 C.cycle, .int .i64 C.every, .int .i64 C.ppm, .int .i64 C.grain, .int .i64 C.proc]
def RAll (w : World) (g : Nat) (C : Cf) (Y : Lay) (vP vB vL vF vW : Value) (i j k l m : Nat) : Prop := RBx w g 42 (rcs vP vB vL vF vW C) [rwP C vP i, rwB C vB j, rwL C vL k, rwF C vF l, rwW C Y vW m]
theorem RAll.pushP (h : RAll w g C Y vP vB vL vF vW i j k l m) {x : Nd} (hx : C.nodes[i]? = some x) (own2 : w2.ownsRow (g + 1) 3 1 v2 (i + 1) ((C.nodes.take i).map rpt ++ [rpt x])) (gr : w.grownBy w2 vP.ownBlock) (mv : Moved w vP v2) :
    Blk w2 g 42 (rcs vP vB vL vF vW C) ∧ RAll (w2.setCell ⟨g, 0, none⟩ v2) g C Y v2 vB vL vF vW (i + 1) j k l m ∧ Below g w (w2.setCell ⟨g, 0, none⟩ v2) := by
  have := RBx.push (cs' := rcs v2 vB vL vF vW C) (pre := []) (r := rwP C vP i) h own2 gr mv (by simp [rcs, rwP])
  have e : rwP C v2 (i + 1) = ⟨0, v2, 3, 1, i + 1, (C.nodes.take i).map rpt ++ [rpt x]⟩ := by rw [rwP, take_more hx, List.map_append]; rfl
  rw [RAll, e]
  exact this
theorem RAll.pushB (h : RAll w g C Y vP vB vL vF vW i j k l m) {x : Nd} (hx : C.nodes[j]? = some x) (own2 : w2.ownsRow (g + 1) 4 1 v2 (j + 1) ((C.nodes.take j).map rbr ++ [rbr x])) (gr : w.grownBy w2 vB.ownBlock) (mv : Moved w vB v2) :
    Blk w2 g 42 (rcs vP vB vL vF vW C) ∧ RAll (w2.setCell ⟨g, 1, none⟩ v2) g C Y vP v2 vL vF vW i (j + 1) k l m ∧ Below g w (w2.setCell ⟨g, 1, none⟩ v2) := by
  have := RBx.push (cs' := rcs vP v2 vL vF vW C) (pre := [rwP C vP i]) (r := rwB C vB j) h own2 gr mv (by simp [rcs, rwB])
  have e : rwB C v2 (j + 1) = ⟨1, v2, 4, 1, j + 1, (C.nodes.take j).map rbr ++ [rbr x]⟩ := by rw [rwB, take_more hx, List.map_append]; rfl
  rw [RAll, e]
  exact this
theorem RAll.pushL (h : RAll w g C Y vP vB vL vF vW i j k l m) {x : Lk} (hx : C.links[k]? = some x) (own2 : w2.ownsRow (g + 1) 96 6 v2 (k + 1) ((C.links.take k).flatMap lkc ++ lkc x)) (gr : w.grownBy w2 vL.ownBlock) (mv : Moved w vL v2) :
    Blk w2 g 42 (rcs vP vB vL vF vW C) ∧ RAll (w2.setCell ⟨g, 2, none⟩ v2) g C Y vP vB v2 vF vW i j (k + 1) l m ∧ Below g w (w2.setCell ⟨g, 2, none⟩ v2) := by
  have := RBx.push (cs' := rcs vP vB v2 vF vW C) (pre := [rwP C vP i, rwB C vB j]) (r := rwL C vL k) h own2 gr mv (by simp [rcs, rwL])
  have e : rwL C v2 (k + 1) = ⟨2, v2, 96, 6, k + 1, (C.links.take k).flatMap lkc ++ lkc x⟩ := by rw [rwL, take_more hx, List.flatMap_append]; simp
  rw [RAll, e]
  exact this
theorem RAll.pushF (h : RAll w g C Y vP vB vL vF vW i j k l m) {x : Fw} (hx : C.flows[l]? = some x) (own2 : w2.ownsRow (g + 1) 96 6 v2 (l + 1) ((C.flows.take l).flatMap rfl6 ++ rfl6 x)) (gr : w.grownBy w2 vF.ownBlock) (mv : Moved w vF v2) :
    Blk w2 g 42 (rcs vP vB vL vF vW C) ∧ RAll (w2.setCell ⟨g, 3, none⟩ v2) g C Y vP vB vL v2 vW i j k (l + 1) m ∧ Below g w (w2.setCell ⟨g, 3, none⟩ v2) := by
  have := RBx.push (cs' := rcs vP vB vL v2 vW C) (pre := [rwP C vP i, rwB C vB j, rwL C vL k]) (r := rwF C vF l) h own2 gr mv (by simp [rcs, rwF])
  have e : rwF C v2 (l + 1) = ⟨3, v2, 96, 6, l + 1, (C.flows.take l).flatMap rfl6 ++ rfl6 x⟩ := by rw [rwF, take_more hx, List.flatMap_append]; simp
  rw [RAll, e]
  exact this
theorem RAll.pushW (h : RAll w g C Y vP vB vL vF vW i j k l m) {x : Fw × (Sl × Sl)} (hx : (C.flows.zip Y.ws)[m]? = some x) (own2 : w2.ownsRow (g + 1) 72 2 v2 (m + 1) (((C.flows.zip Y.ws).take m).flatMap rwy ++ rwy x)) (gr : w.grownBy w2 vW.ownBlock) (mv : Moved w vW v2) :
    Blk w2 g 42 (rcs vP vB vL vF vW C) ∧ RAll (w2.setCell ⟨g, 4, none⟩ v2) g C Y vP vB vL vF v2 i j k l (m + 1) ∧ Below g w (w2.setCell ⟨g, 4, none⟩ v2) := by
  have := RBx.push (cs' := rcs vP vB vL vF v2 C) (pre := [rwP C vP i, rwB C vB j, rwL C vL k, rwF C vF l]) (r := rwW C Y vW m) h own2 gr mv (by simp [rcs, rwW])
  have e : rwW C Y v2 (m + 1) = ⟨4, v2, 72, 2, m + 1, ((C.flows.zip Y.ws).take m).flatMap rwy ++ rwy x⟩ := by rw [rwW, take_more hx, List.flatMap_append]; simp
  rw [RAll, e]
  exact this
theorem RAll.start (w : World) (C : Cf) (Y : Lay) : RAll (w.alloc (.cells (rcs (.slice none 0 0) (.slice none 0 0) (.slice none 0 0) (.slice none 0 0) (.slice none 0 0) C) 42)) w.heap.size C Y (.slice none 0 0) (.slice none 0 0) (.slice none 0 0) (.slice none 0 0) (.slice none 0 0) 0 0 0 0 0 := by
  refine ⟨Blk.new w _ _, fun r hr => ?_, ?_⟩
  · simp only [List.mem_cons, List.not_mem_nil, or_false] at hr
    rcases hr with rfl | rfl | rfl | rfl | rfl <;> exact ownsRow_nil _ _ _ _
  · simp [rwP, rwB, rwL, rwF, rwW, Value.ownBlock]
theorem RAll.rows (h : RAll w g C Y vP vB vL vF vW i j k l m) : w.ownsRow (g + 1) 3 1 vP i ((C.nodes.take i).map rpt) ∧ w.ownsRow (g + 1) 4 1 vB j ((C.nodes.take j).map rbr) ∧ w.ownsRow (g + 1) 96 6 vL k ((C.links.take k).flatMap lkc) ∧
    w.ownsRow (g + 1) 96 6 vF l ((C.flows.take l).flatMap rfl6) ∧ w.ownsRow (g + 1) 72 2 vW m (((C.flows.zip Y.ws).take m).flatMap rwy) :=
  ⟨RBx.row h (rwP C vP i) (by simp), RBx.row h (rwB C vB j) (by simp), RBx.row h (rwL C vL k) (by simp), RBx.row h (rwF C vF l) (by simp), RBx.row h (rwW C Y vW m) (by simp)⟩
theorem RAll.B (h : RAll w g C Y vP vB vL vF vW i j k l m) : Blk w g 42 (rcs vP vB vL vF vW C) := RBx.B h
theorem RAll.keep {w' : World} (h : RAll w g C Y vP vB vL vF vW i j k l m) (hb : Below w.heap.size w w') : RAll w' g C Y vP vB vL vF vW i j k l m := RBx.keep h hb
/-- The network is made: its value, and where it lies. -/
theorem RAll.done (h : RAll w g C Y vP vB vL vF vW C.nodes.length C.nodes.length C.links.length C.flows.length C.flows.length) {w0 : World} (hC : CfAt w0 w0.heap.size C Y) (hb : Below w0.heap.size w0 w) (hs : w0.heap.size ≤ w.heap.size) :
    ∃ R, rcs vP vB vL vF vW C = rfc C R ∧ RfAt w w.heap.size C R := by
  obtain ⟨h1, h2, h3, h4, h5⟩ := h.rows
  obtain ⟨a1, c1, e1, _, r1⟩ := ownsRow_reads h1
  obtain ⟨a2, c2, e2, _, r2⟩ := ownsRow_reads h2
  obtain ⟨a3, c3, e3, _, r3⟩ := ownsRow_reads h3
  obtain ⟨a4, c4, e4, _, r4⟩ := ownsRow_reads h4
  obtain ⟨a5, c5, e5, _, r5⟩ := ownsRow_reads h5
  subst e1 e2 e3 e4 e5
  rw [List.take_length] at r1 r2 r3 r4
  rw [show C.flows.length = (C.flows.zip Y.ws).length by rw [List.length_zip, hC.wslen, Nat.min_self], List.take_length, ← show C.flows.length = (C.flows.zip Y.ws).length by rw [List.length_zip, hC.wslen, Nat.min_self]] at r5
  exact ⟨⟨⟨a1, c1⟩, ⟨a2, c2⟩, ⟨a3, c3⟩, ⟨a4, c4⟩, ⟨a5, c5⟩, Y.ws⟩, rfl, r1, r2, r3, r4, hC.wslen, r5, fun i f s hf hs' => ⟨((hC.below hb).ways i f s hf hs').1.more hs, ((hC.below hb).ways i f s hf hs').2.more hs⟩⟩
end
end Go.Proofs.Ytaegngcbiefckaa

namespace Go.Proofs.Ytaegngcbiefckaa
set_option linter.unusedSimpArgs false
set_option linter.unusedVariables false
open Go.RowKit Go.WideShapes Go.ChangeShapes
attribute [local go_sem ↓] Go.wp_at_zero Go.wp_at_succ

set_option maxRecDepth 100000 in
set_option maxHeartbeats 4000000 in
theorem between_any (x lo hi : Int) (w : World) : Calls Try.prog 25 #[.int .i64 x, .int .i64 lo, .int .i64 hi] w fun e w' => e = .returned (.bool (decide (lo ≤ x) && decide (x ≤ hi))) ∧ w' = w := by
  refine calls_sm (N := 15) Try.func25 rfl (by kernel_rfl) ?_
  intro a hs hd ha
  have e0 : a.tmps[0]? = some (.int .i64 x) := ha 0 _ rfl
  have e1 : a.tmps[1]? = some (.int .i64 lo) := ha 1 _ rfl
  have e2 : a.tmps[2]? = some (.int .i64 hi) := ha 2 _ rfl
  clear ha
  conv => arg 2; whnf
  refine wp_seq_k fun Kq1 hKq1 => ?_
  refine sm_list [] 6 1 hs hd (by kernel_rfl) agN rfl ?_
  simp only [seval]
  go_wp2_with fail
  intro a H; replace hs := H.s hs; replace hd := H.d rfl; replace e0 := H.k e0 rfl; replace e1 := H.k e1 rfl; replace e2 := H.k e2 rfl; have e6 := H.g 6 rfl rfl; clear H; refine hKq1 _ _ ?_; clear hKq1 Kq1; refine wp_seq_k fun Kq2 hKq2 => ?_
  have hcases : decide (lo ≤ x) = true ∨ decide (lo ≤ x) = false := by cases decide (lo ≤ x) <;> simp
  rcases hcases with hc | hc
  ·
    refine sm_list [0, 1, 2] 6 9 hs hd (by kernel_rfl) (agC e0 (agC e1 (agC e2 agN))) rfl ?_
    simp only [seval]
    go_wp2_with fail
    intro a H; replace hs := H.s hs; replace hd := H.d rfl; replace e0 := H.g 0 rfl rfl; replace e1 := H.g 1 rfl rfl; replace e2 := H.g 2 rfl rfl; replace e6 := H.g 6 rfl rfl; clear H; refine hKq2 _ _ ?_; clear hKq2 Kq2; refine wp_ret ?_
    exact sm_ret rfl hd e6 ⟨by simp [hc], rfl⟩
  ·
    refine sm_list [0, 1, 2] 6 9 hs hd (by kernel_rfl) (agC e0 (agC e1 (agC e2 agN))) rfl ?_
    simp only [seval]
    go_wp2_with fail
    intro a H; replace hs := H.s hs; replace hd := H.d rfl; replace e0 := H.g 0 rfl rfl; replace e1 := H.g 1 rfl rfl; replace e2 := H.g 2 rfl rfl; replace e6 := H.g 6 rfl rfl; clear H; refine hKq2 _ _ ?_; clear hKq2 Kq2; refine wp_ret ?_
    exact sm_ret rfl hd e6 ⟨by simp [hc], rfl⟩
theorem between_yes (x lo hi : Int) (w : World) (h : lo ≤ x ∧ x ≤ hi) : Calls Try.prog 25 #[.int .i64 x, .int .i64 lo, .int .i64 hi] w fun e w' => e = .returned (.bool true) ∧ w' = w :=
  (between_any x lo hi w).mono fun e w' hh => ⟨by rw [hh.1, decide_eq_true h.1, decide_eq_true h.2]; rfl, hh.2⟩
theorem between_no (x lo hi : Int) (w : World) (h : ¬ (lo ≤ x ∧ x ≤ hi)) : Calls Try.prog 25 #[.int .i64 x, .int .i64 lo, .int .i64 hi] w fun e w' => e = .returned (.bool false) ∧ w' = w :=
  (between_any x lo hi w).mono fun e w' hh => ⟨by rw [hh.1, ← Bool.decide_and, decide_eq_false h], hh.2⟩
end Go.Proofs.Ytaegngcbiefckaa

namespace Go.Proofs.Ytaegngcbiefckaa
set_option linter.unusedSimpArgs false
set_option linter.unusedVariables false
open Go.RowKit Go.WideShapes Go.ChangeShapes

def rGo (C : Cf) : Int → List Int → List (Int × Int) → List Int → Option (Int × List Int × List (Int × Int))
  | at_, seen, out, [] => some (at_, seen, out)
  | at_, seen, out, k :: ks =>
    if k < 0 ∨ (C.links.length : Int) ≤ k then none
    else match C.links[k.toNat]? with
      | none => none
      | some l =>
        if l.n0 = at_ then (if seen.contains l.n1 then none else rGo C l.n1 (seen ++ [l.n1]) (out ++ [(l.n0, l.p0)]) ks)
        else if l.n1 = at_ then (if seen.contains l.n0 then none else rGo C l.n0 (seen ++ [l.n0]) (out ++ [(l.n1, l.p1)]) ks)
        else none
def brd (C : Cf) (x : Int) : Bool := match C.nodes[x.toNat]? with | some nd => nd.br | none => false
/-- One hop: over link l from the node at on. -/
structure RHop (C : Cf) (at_ : Int) (k : Int) (l : Lk) (e : Int × Int) (nxt : Int) : Prop where
  k0 : 0 ≤ k
  hl : C.links[k.toNat]? = some l
  hop : (l.n0 = at_ ∧ e = (l.n0, l.p0) ∧ nxt = l.n1) ∨ (l.n0 ≠ at_ ∧ l.n1 = at_ ∧ e = (l.n1, l.p1) ∧ nxt = l.n0)
theorem RHop.at_eq {C : Cf} {at_ k nxt : Int} {l : Lk} {e : Int × Int} (h : RHop C at_ k l e nxt) : e.1 = at_ := by
  rcases h.hop with ⟨h1, rfl, _⟩ | ⟨_, h1, rfl, _⟩ <;> exact h1
theorem rGo_cons {C : Cf} {at_ : Int} {seen : List Int} {out : List (Int × Int)} {k : Int} {ks : List Int} {r : Int × List Int × List (Int × Int)} (h : rGo C at_ seen out (k :: ks) = some r) :
    ∃ l e nxt, RHop C at_ k l e nxt ∧ nxt ∉ seen ∧ rGo C nxt (seen ++ [nxt]) (out ++ [e]) ks = some r := by
  rw [rGo] at h
  split at h
  · cases h
  · rename_i hk
    split at h
    · cases h
    · rename_i l hl
      split at h
      · rename_i h0
        split at h
        · cases h
        · rename_i hs
          exact ⟨l, _, _, ⟨by omega, hl, .inl ⟨h0, rfl, rfl⟩⟩, by simpa using hs, h⟩
      · rename_i h0
        split at h
        · rename_i h1
          split at h
          · cases h
          · rename_i hs
            exact ⟨l, _, _, ⟨by omega, hl, .inr ⟨h0, h1, rfl, rfl⟩⟩, by simpa using hs, h⟩
        · cases h
theorem rGo_step {C : Cf} {at_ : Int} {seen : List Int} {out : List (Int × Int)} {k : Int} {ks : List Int} {l : Lk} {e : Int × Int} {nxt : Int} (h : RHop C at_ k l e nxt) :
    rGo C at_ seen out (k :: ks) = if seen.contains nxt then none else rGo C nxt (seen ++ [nxt]) (out ++ [e]) ks := by
  have hk : ¬ (k < 0 ∨ (C.links.length : Int) ≤ k) := by
    have h1 := h.k0
    have h2 := (List.getElem?_eq_some_iff.1 h.hl).1
    omega
  rw [rGo, if_neg hk, h.hl]
  rcases h.hop with ⟨h0, rfl, rfl⟩ | ⟨h0, h1, rfl, rfl⟩
  · simp only [if_pos h0]
  · simp only [if_neg h0, if_pos h1]
theorem wayGo_step {C : Cf} {n i : Nat} {at_ : Int} {seen : List Int} {out : List (Int × Int)} {k : Int} {ks : List Int} {l : Lk} {e : Int × Int} {nxt : Int} (h : RHop C at_ k l e nxt) :
    wayGo C n i at_ seen out (k :: ks) = if hopBad C n i seen nxt then none else wayGo C n (i + 1) nxt (seen ++ [nxt]) (out ++ [e]) ks := by
  have hk : ¬ (k < 0 ∨ (C.links.length : Int) ≤ k) := by
    have h1 := h.k0
    have h2 := (List.getElem?_eq_some_iff.1 h.hl).1
    omega
  rw [wayGo, if_neg hk, h.hl]
  rcases h.hop with ⟨h0, rfl, rfl⟩ | ⟨h0, h1, rfl, rfl⟩
  · simp only [if_pos h0]
  · simp only [if_neg h0, if_pos h1]
theorem hop_dec {C : Cf} (at_ k : Int) : (∃ l e nxt, RHop C at_ k l e nxt) ∨ ((∀ seen out ks, rGo C at_ seen out (k :: ks) = none) ∧ ∀ n i seen out ks, wayGo C n i at_ seen out (k :: ks) = none) := by
  by_cases hk : k < 0 ∨ (C.links.length : Int) ≤ k
  · exact .inr ⟨fun seen out ks => by rw [rGo, if_pos hk], fun n i seen out ks => by rw [wayGo, if_pos hk]⟩
  obtain ⟨l, hl⟩ : ∃ l, C.links[k.toNat]? = some l := ⟨_, List.getElem?_eq_getElem (by omega)⟩
  by_cases h0 : l.n0 = at_
  · exact .inl ⟨l, _, _, by omega, hl, .inl ⟨h0, rfl, rfl⟩⟩
  by_cases h1 : l.n1 = at_
  · exact .inl ⟨l, _, _, by omega, hl, .inr ⟨h0, h1, rfl, rfl⟩⟩
  · refine .inr ⟨fun seen out ks => ?_, fun n i seen out ks => ?_⟩
    · rw [rGo, if_neg hk, hl]; simp only [if_neg h0, if_neg h1]
    · rw [wayGo, if_neg hk, hl]; simp only [if_neg h0, if_neg h1]
theorem rGo_ext {C : Cf} : ∀ (ks : List Int) {at_ : Int} {seen : List Int} {out : List (Int × Int)} {a : Int} {s : List Int} {o : List (Int × Int)}, rGo C at_ seen out ks = some (a, s, o) → ∃ t u, s = seen ++ t ∧ t.length = ks.length ∧ o = out ++ u ∧ u.length = ks.length
  | [], _, _, _, _, _, _, h => by
    rw [rGo] at h
    cases h
    exact ⟨[], [], by simp, rfl, by simp, rfl⟩
  | k :: ks, _, _, _, _, _, _, h => by
    obtain ⟨l, e, nxt, _, _, h2⟩ := rGo_cons h
    obtain ⟨t, u, h3, h4, h5, h6⟩ := rGo_ext ks h2
    exact ⟨nxt :: t, e :: u, by rw [h3]; simp, by simp [h4], by rw [h5]; simp, by simp [h6]⟩
theorem rGo_nodes {C : Cf} : ∀ (ks : List Int) {at_ : Int} {seen : List Int} {out : List (Int × Int)} {a : Int} {s : List Int} {o : List (Int × Int)}, rGo C at_ seen out ks = some (a, s, o) → seen = out.map Prod.fst ++ [at_] → s = o.map Prod.fst ++ [a]
  | [], _, _, _, _, _, _, h, hs => by
    rw [rGo] at h
    cases h
    exact hs
  | k :: ks, _, _, _, _, _, _, h, hs => by
    obtain ⟨l, e, nxt, h1, _, h2⟩ := rGo_cons h
    exact rGo_nodes ks h2 (by rw [hs, List.map_append, ← h1.at_eq]; rfl)
theorem rGo_nodup {C : Cf} : ∀ (ks : List Int) {at_ : Int} {seen : List Int} {out : List (Int × Int)} {a : Int} {s : List Int} {o : List (Int × Int)}, rGo C at_ seen out ks = some (a, s, o) → seen.Nodup → s.Nodup
  | [], _, _, _, _, _, _, h, hs => by
    rw [rGo] at h
    cases h
    exact hs
  | k :: ks, _, _, _, _, _, _, h, hs => by
    obtain ⟨l, e, nxt, h1, hn, h2⟩ := rGo_cons h
    refine rGo_nodup ks h2 (List.nodup_append.2 ⟨hs, by simp, fun x hx y hy => ?_⟩)
    simp at hy
    subst hy
    exact fun e => hn (e ▸ hx)
theorem hopBad_eq (C : Cf) (n i : Nat) (seen : List Int) (x : Int) : hopBad C n i seen x = (seen.contains x || (decide (i + 1 < n) && !brd C x)) := by
  unfold hopBad brd
  cases C.nodes[x.toNat]? <;> rfl
theorem go_rGo {C : Cf} {n : Nat} : ∀ (ks : List Int) (i : Nat) (at_ : Int) (seen : List Int) (out : List (Int × Int)), seen.length = i + 1 → i + ks.length = n →
    wayGo C n i at_ seen out ks = match rGo C at_ seen out ks with | none => none | some (a, s, o) => if ((s.drop (i + 1)).dropLast).all (brd C) then some (a, o) else none
  | [], i, at_, seen, out, hl, hn => by
    rw [wayGo, rGo]
    simp only
    rw [List.drop_eq_nil_of_le (by omega)]
    rfl
  | k :: ks, i, at_, seen, out, hl, hn => by
    rcases hop_dec (C := C) at_ k with ⟨l, e, nxt, h⟩ | ⟨h1, h2⟩
    · rw [wayGo_step h, rGo_step h, hopBad_eq]
      by_cases hc : seen.contains nxt = true
      · rw [if_pos hc, hc, Bool.true_or, if_pos rfl]
      · rw [if_neg hc]
        have hc' : seen.contains nxt = false := by simpa using hc
        rw [hc', Bool.false_or]
        have ih := go_rGo (C := C) (n := n) ks (i + 1) nxt (seen ++ [nxt]) (out ++ [e]) (by simp [hl]) (by simp at hn; omega)
        cases hr : rGo C nxt (seen ++ [nxt]) (out ++ [e]) ks with
        | none =>
          rw [hr] at ih
          rw [ih]
          split <;> rfl
        | some r =>
          obtain ⟨a, s, o⟩ := r
          rw [hr] at ih
          simp only at ih ⊢
          rw [ih]
          obtain ⟨t, u, h3, h4, _, _⟩ := rGo_ext ks hr
          have e1 : s.drop (i + 1) = nxt :: t := by rw [h3, List.append_assoc, ← hl, List.drop_left]; rfl
          have e2 : s.drop (i + 1 + 1) = t := by rw [h3, show i + 1 + 1 = (seen ++ [nxt]).length by simp [hl], List.drop_left]
          rw [e1, e2]
          cases ks with
          | nil =>
            have ht : t = [] := List.eq_nil_of_length_eq_zero (by simpa using h4)
            subst ht
            have : ¬ (i + 1 < n) := by simp at hn; omega
            simp [this]
          | cons k2 ks2 =>
            cases t with
            | nil => simp at h4
            | cons y t =>
              have : i + 1 < n := by simp at hn; omega
              rw [List.dropLast_cons_cons, List.all_cons]
              simp only [this, decide_true, Bool.true_and]
              cases brd C nxt <;> simp
    · rw [h1, h2]
def rhV (C : Cf) (src dst : Int) (ks : List Int) : Option (List (Int × Int)) :=
  match rGo C src [src] [] ks with
  | none => none
  | some (a, s, o) => if ks ≠ [] ∧ a = dst ∧ ((s.drop 1).dropLast).all (brd C) = true then some o else none
theorem rhV_way (C : Cf) (src dst : Int) (ks : List Int) : wayV C src dst ks = rhV C src dst ks := by
  unfold wayV rhV
  rw [go_rGo ks 0 src [src] [] rfl (by simp)]
  cases hr : rGo C src [src] [] ks with
  | none => rfl
  | some r =>
    obtain ⟨a, s, o⟩ := r
    simp only
    obtain ⟨t, u, _, _, h5, h6⟩ := rGo_ext ks hr
    have hlen : (0 < o.length) ↔ ks ≠ [] := by
      rw [h5, List.nil_append, h6, List.length_pos_iff]
    by_cases hb : ((s.drop 1).dropLast).all (brd C) = true
    · rw [if_pos hb]
      by_cases hk : ks ≠ [] ∧ a = dst
      · rw [if_pos ⟨hk.1, hk.2, hb⟩]; simp only; rw [if_pos ⟨hlen.2 hk.1, hk.2⟩]
      · rw [if_neg (fun h => hk ⟨h.1, h.2.1⟩)]; simp only; rw [if_neg (fun h => hk ⟨hlen.1 h.1, h.2⟩)]
    · rw [if_neg hb, if_neg (fun h => hb h.2.2)]
/-- What a way's nodes are. -/
theorem way_nodes {C : Cf} {src dst : Int} {ks : List Int} {xs : List (Int × Int)} (h : wayV C src dst ks = some xs) : ∃ s, rGo C src [src] [] ks = some (dst, s, xs) ∧ s = xs.map Prod.fst ++ [dst] ∧ s.Nodup ∧ xs.length = ks.length ∧ ks ≠ [] ∧ ((s.drop 1).dropLast).all (brd C) = true ∧ (xs.map Prod.fst).head? = some src := by
  rw [rhV_way] at h
  unfold rhV at h
  cases hr : rGo C src [src] [] ks with
  | none => rw [hr] at h; cases h
  | some r =>
    obtain ⟨a, s, o⟩ := r
    rw [hr] at h
    simp only at h
    split at h
    · rename_i hc
      obtain ⟨h1, rfl, h3⟩ := hc
      cases h
      obtain ⟨t, u, h4, h5, h6, h7⟩ := rGo_ext ks hr
      have hn := rGo_nodes ks hr rfl
      refine ⟨s, rfl, hn, rGo_nodup ks hr (by simp), by rw [h6, List.nil_append, h7], h1, h3, ?_⟩
      have e : s = src :: t := h4
      rw [hn] at e
      cases hx : xs.map Prod.fst with
      | nil =>
        have : xs = [] := by simpa using hx
        rw [h6, List.nil_append] at this
        subst this
        exact absurd (List.eq_nil_of_length_eq_zero h7.symm) h1
      | cons z zs =>
        rw [hx] at e
        injection e with e1 _
        rw [e1]; rfl
    · cases h
/-- Two ways are apart: as the reference says it. -/
theorem apart_ref {C : Cf} {src d0 d1 : Int} {w0 w1 : List Int} {xs ys : List (Int × Int)} (hx : wayV C src d0 w0 = some xs) (hy : wayV C src d1 w1 = some ys) :
    apartV w0 w1 xs ys = true ↔ (∀ z ∈ w0, z ∉ w1) ∧ ∀ z ∈ (xs.map Prod.fst).drop 1, z ∉ (ys.map Prod.fst).drop 1 := by
  obtain ⟨s0, _, e0, n0, _, _, _, hd0⟩ := way_nodes hx
  obtain ⟨s1, _, e1, n1, _, _, _, hd1⟩ := way_nodes hy
  have m0 : (xs.map Prod.fst).Nodup := by rw [e0] at n0; exact (List.nodup_append.1 n0).1
  have m1 : (ys.map Prod.fst).Nodup := by rw [e1] at n1; exact (List.nodup_append.1 n1).1
  have first : ∀ (zs : List (Int × Int)), (zs.map Prod.fst).head? = some src → (zs.map Prod.fst).Nodup → ∀ (k : Nat) (y : Int × Int), zs[k]? = some y → (y.1 = src ↔ k = 0) := by
    intro zs hh hn k y hk
    cases zs with
    | nil => simp at hk
    | cons z zs =>
      simp at hh
      cases k with
      | zero => simp at hk; subst hk; simp [hh]
      | succ k =>
        simp only [List.map_cons, List.nodup_cons] at hn
        simp only [List.getElem?_cons_succ] at hk
        refine ⟨fun e => absurd ?_ hn.1, fun e => by omega⟩
        rw [hh, ← e]
        exact List.mem_map.2 ⟨y, List.mem_of_getElem? hk, rfl⟩
  have mem : ∀ (zs : List (Int × Int)) (z : Int), z ∈ (zs.map Prod.fst).drop 1 ↔ ∃ (k : Nat) (y : Int × Int), 0 < k ∧ zs[k]? = some y ∧ y.1 = z := by
    intro zs z
    rw [List.mem_iff_getElem?]
    constructor
    · rintro ⟨k, hk⟩
      rw [List.getElem?_drop, List.getElem?_map] at hk
      cases hy : zs[1 + k]? with
      | none => rw [hy] at hk; cases hk
      | some y => rw [hy] at hk; exact ⟨1 + k, y, by omega, hy, Option.some.inj hk⟩
    · rintro ⟨k, y, h0, hk, rfl⟩
      refine ⟨k - 1, ?_⟩
      rw [List.getElem?_drop, List.getElem?_map, show 1 + (k - 1) = k by omega, hk]; rfl
  constructor
  · intro h
    refine ⟨fun z h0 h1 => ?_, fun z h0 h1 => ?_⟩
    · rw [apartV_link h0 h1] at h; cases h
    · obtain ⟨i, x, hi, hxi, rfl⟩ := (mem xs z).1 h0
      obtain ⟨k, y, hk, hyk, he⟩ := (mem ys x.1).1 h1
      rw [apartV_node hxi hyk ⟨he.symm, by omega⟩] at h
      cases h
  · rintro ⟨h0, h1⟩
    refine apartV_true h0 fun i k x y hxi hyk ⟨he, hik⟩ => ?_
    by_cases hi : i = 0
    · have := (first xs hd0 m0 i x hxi).2 hi
      have := (first ys hd1 m1 k y hyk).1 (by rw [← he]; exact this)
      omega
    · by_cases hk : k = 0
      · have := (first ys hd1 m1 k y hyk).2 hk
        have := (first xs hd0 m0 i x hxi).1 (by rw [he]; exact this)
        omega
      · exact h1 x.1 ((mem xs x.1).2 ⟨i, x, by omega, hxi, rfl⟩) ((mem ys x.1).2 ⟨k, y, by omega, hyk, he.symm⟩)
end Go.Proofs.Ytaegngcbiefckaa
