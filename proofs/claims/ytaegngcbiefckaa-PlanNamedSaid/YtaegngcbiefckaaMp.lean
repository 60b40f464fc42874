/-
  A map of the call's own, keyed by two ints (a struct of two cells), as a function of its keys: what the operations do.
-/
import Derived.Test.YtaegngcbiefckaaSm
import Derived.Maps.OwnSet
import Derived.WideKeyEntry
import Derived.DeepKeys4
import Derived.Scope
namespace Go.Proofs.Ytaegngcbiefckaa
set_option linter.unusedSimpArgs false
set_option linter.unusedVariables false
open Go.RowKit Go.WideShapes Go.ChangeShapes
open Go.ChangeMaps (setBlock heap_setBlock_same heap_setBlock_other)
open Go.Maps (Keyed Tidy)

def heldR (v : Value) : Option (DataW Value × List MemPlace) := some (.held v, [])
def EndV (p : Int × Int) : Value := .agg #[.int .i64 p.1, .int .i64 p.2]
def okE (p : Int × Int) : Prop := 0 ≤ p.1 ∧ p.1 < 64 ∧ 0 ≤ p.2 ∧ p.2 < 64
theorem EndV_inj {p q : Int × Int} (h : EndV p = EndV q) : p = q := by
  obtain ⟨a, b⟩ := p
  obtain ⟨c, d⟩ := q
  simp [EndV] at h
  simp [h]
structure KeyE (P : Program) (k : TypeId) : Prop where
  law : WideMaps.KeyLaw P k
  key : ∀ p, okE p → ∃ kl, keyOf P k (EndV p) = some kl
def upd (f : Int × Int → Option Value) (p : Int × Int) (v : Value) : Int × Int → Option Value := fun q => if q = p then some v else f q
theorem upd_same {f : Int × Int → Option Value} {p : Int × Int} {v : Value} : upd f p v p = some v := if_pos rfl
theorem upd_other {f : Int × Int → Option Value} {p q : Int × Int} {v : Value} (h : q ≠ p) : upd f p v q = f q := if_neg h

/-- Block b is a map of m entries, that at key p holds f p. -/
def EM (P : Program) (k : TypeId) (w : World) (b m : Nat) (f : Int × Int → Option Value) : Prop :=
  ∃ D : DataW Value, w.ownsMap P k heldR b m D ∧ Maps.size D = m ∧ ∀ p kl, keyOf P k (EndV p) = some kl → (∀ z, D.atKey kl (.held z) = .held ((f p).getD z)) ∧ Maps.has D kl = (f p).isSome

section
variable {P : Program} {k t e : TypeId} {w w' : World} {b m n : Nat} {f : Int × Int → Option Value}

theorem owns_size {R : Value → Option (DataW Value × List MemPlace)} {D : DataW Value} (h : w.ownsMap P k R b n D) : w.ownsMap P k R b (Maps.size D) D := by
  obtain ⟨es, clock, hb, F, hs, rfl⟩ := h
  exact ⟨es, clock, hb, F, by simp [Maps.size, length_sorted], rfl⟩
theorem EM.made (w : World) : EM P k (w.alloc (.map #[] 0)) w.heap.size 0 (fun _ => none) :=
  ⟨.map [], World.ownsMap_made w P k heldR, rfl, fun p kl _ => ⟨fun z => rfl, rfl⟩⟩
theorem EM.lt (h : EM P k w b m f) : b < w.heap.size := by
  obtain ⟨D, h, _⟩ := h
  exact h.lt
theorem EM.of_block (h : EM P k w b m f) (hb : w'.heap[b]? = w.heap[b]?) : EM P k w' b m f := by
  obtain ⟨D, ⟨es, clock, h1, r⟩, h2⟩ := h
  exact ⟨D, ⟨es, clock, hb.trans h1, r⟩, h2⟩
theorem EM.kept {row : Option Nat} (h : EM P k w b m f) (hg : w.grownBy w' row) (hne : some b ≠ row) : EM P k w' b m f := h.of_block (hg.block b h.lt hne)
theorem EM.below {B : Nat} (h : EM P k w b m f) (hb : Below B w w') (hB : b < B) : EM P k w' b m f := h.of_block (hb.block b hB)
theorem EM.alloc (h : EM P k w b m f) (o : Obj) : EM P k (w.alloc o) b m f := h.of_block ((MapKept.heap_alloc w o).2 b h.lt)
theorem EM.drew (h : EM P k w b m f) : EM P k w.drew b m f := h
theorem EM.drewN (h : EM P k w b m f) (j : Nat) : EM P k (w.drewN j) b m f := h

theorem EM.look (h : EM P k w b m f) (K : KeyE P k) (ht : P.underlying t = some (.map k e)) {z : Value} (hz : (zeroValue e).run P w = .ok z w) {p : Int × Int} (hp : okE p) :
    (Instr.lookup t (.map (some b)) (EndV p) false).run P w = .ok ((f p).getD z) w := by
  obtain ⟨D, h1, _, h3⟩ := h
  obtain ⟨kl, hkl⟩ := K.key p hp
  obtain ⟨v, ps, hrun, hv⟩ := h1.lookup (Keyed.of_law K.law) ht hz (zd := .held z) (zp := []) rfl hkl
  rw [(h3 p kl hkl).1 z] at hv
  simp [heldR] at hv
  rw [hrun, hv.1]
theorem EM.lookOk (h : EM P k w b m f) (K : KeyE P k) (ht : P.underlying t = some (.map k e)) {z : Value} (hz : (zeroValue e).run P w = .ok z w) {p : Int × Int} (hp : okE p) :
    (Instr.lookup t (.map (some b)) (EndV p) true).run P w = .ok (.tuple #[(f p).getD z, .bool (f p).isSome]) w := by
  obtain ⟨D, h1, _, h3⟩ := h
  obtain ⟨kl, hkl⟩ := K.key p hp
  obtain ⟨v, ps, hrun, hv⟩ := h1.look_ok (Keyed.of_law K.law) ht hz (zd := .held z) (zp := []) rfl hkl
  rw [(h3 p kl hkl).1 z] at hv
  simp [heldR] at hv
  rw [hrun, hv.1, (h3 p kl hkl).2]
theorem EM.len (h : EM P k w b m f) (ht : P.underlying t = some (.map k e)) (ty : TypeId) : (Builtin.len_ #[t] ty #[.map (some b)]).run P w = .ok (.int .i64 (m : Int)) w := by
  obtain ⟨D, h1, h2, _⟩ := h
  rw [← h2]
  exact h1.len ht ty
theorem EM.store (h : EM P k w b m f) (K : KeyE P k) (ht : P.underlying t = some (.map k e)) (hm : m < maxLen) {p : Int × Int} (hp : okE p) (v : Value) :
    ∃ w', (Instr.mapUpdate t (.map (some b)) (EndV p) v).run P w = .ok () w' ∧ EM P k w' b (if (f p).isSome then m else m + 1) (upd f p v) ∧ w.grownBy w' (some b) := by
  obtain ⟨D, h1, h2, h3⟩ := h
  obtain ⟨kl, hkl⟩ := K.key p hp
  have K' := Keyed.of_law K.law
  obtain ⟨w', hrun, h4, h5⟩ := h1.store K' ht hm (d := .held v) (ps := []) hkl rfl
  have hs : Maps.size (D.put kl (.held v)) = if (f p).isSome then m else m + 1 := by
    rw [Maps.size_put (h1.tidy K'), h2, (h3 p kl hkl).2]
  refine ⟨w', hrun, ⟨D.put kl (.held v), ?_, hs, fun q kq hkq => ?_⟩, h5.grown⟩
  · rw [← hs]
    exact owns_size h4
  · by_cases hqp : q = p
    · subst hqp
      obtain rfl : kl = kq := by rw [hkl] at hkq; exact Option.some.inj hkq
      rw [upd_same]
      exact ⟨fun z => Maps.atKey_put_same h1.isMap (K'.key hkl) _ _, Maps.has_put_same h1.isMap (K'.key hkl) _⟩
    · have hne : kq ≠ kl := fun e => hqp (EndV_inj (K.law.inj hkq (e ▸ hkl)))
      rw [upd_other hqp]
      exact ⟨fun z => (Maps.atKey_put_other hne _ _).trans ((h3 q kq hkq).1 z), (Maps.has_put_other hne _).trans (h3 q kq hkq).2⟩
theorem pw_uniq : ∀ {l : List MapEntry}, l.Pairwise (fun x y => x.key ≠ y.key) → ∀ {x y : MapEntry}, x ∈ l → y ∈ l → x.key = y.key → x = y
  | [], _, _, _, hx, _, _ => by cases hx
  | a :: r, h, x, y, hx, hy, he => by
    obtain ⟨h1, h2⟩ := List.pairwise_cons.1 h
    rcases List.mem_cons.1 hx with ex | hx' <;> rcases List.mem_cons.1 hy with ey | hy'
    · rw [ex, ey]
    · subst ex; exact absurd he (h1 y hy')
    · subst ey; exact absurd he.symm (h1 x hx')
    · exact pw_uniq h2 hx' hy' he
/-- The entry that an append's element stands in: what it holds; what a store at it does, whatever other blocks have turned. -/
def Mid (P : Program) (k t : TypeId) (w1 : World) (b m : Nat) (f : Int × Int → Option Value) (p : Int × Int) (st : Nat) : Prop :=
  ∀ (w2 : World) (v : Value), w2.heap[b]? = w1.heap[b]? → ∃ w3, (Instr.entryStore t (.map (some b)) (goInt st) v).run P w2 = .ok () w3 ∧ EM P k w3 b (if (f p).isSome then m else m + 1) (upd f p v) ∧ w2.grownBy w3 (some b)
theorem EM.entry (h : EM P k w b m f) (K : KeyE P k) (ht : P.underlying t = some (.map k e)) {z : Value} (hz : ∀ u, (zeroValue e).run P u = .ok z u) (hm : m < maxLen) {p : Int × Int} (hp : okE p) :
    ∃ (st : Nat) (w1 : World), (Instr.mapEntry t (.map (some b)) (EndV p)).run P w = .ok (.tuple #[(f p).getD z, goInt st]) w1 ∧ w.grownBy w1 (some b) ∧ Mid P k t w1 b m f p st := by
  obtain ⟨kl, hkl⟩ := K.key p hp
  have hlook := h.look K ht (hz w) hp
  have hst := fun v => h.store K ht hm hp v
  obtain ⟨D, ⟨es, clock, hb, F, hs, hD⟩, h2, h3⟩ := h
  obtain ⟨v0, st, es1, clock1, hrun, hv0, hstore⟩ := WideElems.entry_then_store K.law ht hz hb F hkl
  have hv : v0 = (f p).getD z := by
    rcases Maps.fit_look false (Keyed.of_law K.law) ht (hz w) hb F hkl with ⟨hr, hno, _⟩ | ⟨e0, y, hm0, hk0, hr, _⟩
    · rw [hlook] at hr
      simp only [Result.ok.injEq, and_true] at hr
      rcases hv0 with ⟨x, hx, hxk, _⟩ | ⟨_, hv0⟩
      · exact absurd hxk (hno x hx)
      · rw [hv0]; simpa using hr.symm
    · rw [hlook] at hr
      simp only [Result.ok.injEq, and_true] at hr
      rcases hv0 with ⟨x, hx, hxk, hxv⟩ | ⟨hno, _⟩
      · have : x = e0 := pw_uniq ((MapKept.stamped_iff es clock).1 F.stamped).2.2 hx hm0 (hxk.trans hk0.symm)
        rw [hxv, this]; simpa using hr.symm
      · exact absurd hk0 (hno e0 hm0)
  subst hv
  refine ⟨st, _, hrun, ⟨rfl, rfl, rfl, by simp [setBlock], fun i _ hi => heap_setBlock_other hb _ (fun e => hi (by rw [e]))⟩, fun w2 v hw2 => ?_⟩
  rw [heap_setBlock_same hb] at hw2
  obtain ⟨es', clock', hr1, hr2⟩ := hstore w2 v hw2
  obtain ⟨w', hr3, hE, _⟩ := hst v
  rw [hr2] at hr3
  simp only [Result.ok.injEq, true_and] at hr3
  refine ⟨_, hr1, hE.of_block ?_, ⟨rfl, rfl, rfl, by simp [setBlock], fun i _ hi => heap_setBlock_other hw2 _ (fun e => hi (by rw [e]))⟩⟩
  rw [← hr3, heap_setBlock_same hb, heap_setBlock_same hw2]
end

/-! ### At the operations -/
section
variable {P : Program} {k t e : TypeId} {w : World} {b m : Nat} {f : Int × Int → Option Value} {ops : Array Oper} {rest : List Oper} {o : Oper} {a : Act} {Q : Exit → Act → World → Prop}
theorem run_lookup_E (x y : Operand) (hop : o.op = Op.lookup t x y false) (hx : a.eval x = .map (some b)) (h : EM P k w b m f) (K : KeyE P k) (ht : P.underlying t = some (.map k e)) {z : Value} (hz : (zeroValue e).run P w = .ok z w)
    (p : Int × Int) (hy : a.eval y = EndV p) (hp : okE p) : (execOp a.eval o).run P w = .ok (.value ((f p).getD z)) w := by
  simp [execOp, hop, hx, hy, h.look K ht hz hp, Result.andThen]
theorem wpList_lookup_E (hg : o.guard = none) (x y : Operand) (t : TypeId) (hop : o.op = Op.lookup t x y false) (hx : a.eval x = .map (some b)) (h : EM P k w b m f) (K : KeyE P k) (ht : P.underlying t = some (.map k e)) {z : Value} (hz : (zeroValue e).run P w = .ok z w)
    (p : Int × Int) (hy : a.eval y = EndV p) (hp : okE p) (hK : wpList P ops Q rest (a.put o.dst ((f p).getD z)) w) : wpList P ops Q (o :: rest) a w := by
  refine wpList_plain hg fun K' hK' => ?_
  unfold Oper.wp
  rw [run_lookup_E x y hop hx h K ht hz p hy hp]
  exact hK' _ _ hK
theorem wpList_lookupOk_E (hg : o.guard = none) (x y : Operand) (t : TypeId) (hop : o.op = Op.lookup t x y true) (hx : a.eval x = .map (some b)) (h : EM P k w b m f) (K : KeyE P k) (ht : P.underlying t = some (.map k e)) {z : Value} (hz : (zeroValue e).run P w = .ok z w)
    (p : Int × Int) (hy : a.eval y = EndV p) (hp : okE p) (hK : wpList P ops Q rest (a.put o.dst (.tuple #[(f p).getD z, .bool (f p).isSome])) w) : wpList P ops Q (o :: rest) a w := by
  refine wpList_plain hg fun K' hK' => ?_
  unfold Oper.wp
  simp [execOp, hop, hx, hy, h.lookOk K ht hz hp, Result.andThen]
  exact hK' _ _ hK
theorem wpList_mapUpdate_E (hg : o.guard = none) (x y v : Operand) (t : TypeId) (hop : o.op = Op.mapUpdate t x y v) (hx : a.eval x = .map (some b)) (h : EM P k w b m f) (K : KeyE P k) (ht : P.underlying t = some (.map k e)) (hm : m < maxLen)
    (p : Int × Int) (hy : a.eval y = EndV p) (hp : okE p) (u : Value) (hv : a.eval v = u)
    (hK : ∀ w', EM P k w' b (if (f p).isSome then m else m + 1) (upd f p u) → w.grownBy w' (some b) → wpList P ops Q rest (a.put o.dst undef) w') : wpList P ops Q (o :: rest) a w := by
  refine wpList_plain hg fun K' hK' => ?_
  obtain ⟨w', hrun, r1, r2⟩ := h.store K ht hm hp u
  unfold Oper.wp
  simp [execOp, hop, hx, hy, hv, hrun, Result.andThen]
  exact hK' _ _ (hK w' r1 r2)
theorem wpList_mapEntry_E (hg : o.guard = none) (x y : Operand) (t : TypeId) (hop : o.op = Op.mapEntry t x y) (hx : a.eval x = .map (some b)) (h : EM P k w b m f) (K : KeyE P k) (ht : P.underlying t = some (.map k e)) {z : Value} (hz : ∀ u, (zeroValue e).run P u = .ok z u) (hm : m < maxLen)
    (p : Int × Int) (hy : a.eval y = EndV p) (hp : okE p)
    (hK : ∀ (st : Nat) (w' : World), w.grownBy w' (some b) → Mid P k t w' b m f p st → wpList P ops Q rest (a.put o.dst (.tuple #[(f p).getD z, goInt st])) w') : wpList P ops Q (o :: rest) a w := by
  refine wpList_plain hg fun K' hK' => ?_
  obtain ⟨st, w', hrun, r1, r2⟩ := h.entry K ht hz hm hp
  unfold Oper.wp
  simp [execOp, hop, hx, hy, hrun, Result.andThen]
  exact hK' _ _ (hK st w' r1 r2)
theorem wpList_entryStore_E (hg : o.guard = none) (x y v : Operand) (t : TypeId) (hop : o.op = Op.entryStore t x y v) (hx : a.eval x = .map (some b)) {w1 : World} {p : Int × Int} {st : Nat} (h : Mid P k t w1 b m f p st) (hb : w.heap[b]? = w1.heap[b]?)
    (hy : a.eval y = goInt st) (u : Value) (hv : a.eval v = u)
    (hK : ∀ w', EM P k w' b (if (f p).isSome then m else m + 1) (upd f p u) → w.grownBy w' (some b) → wpList P ops Q rest (a.put o.dst undef) w') : wpList P ops Q (o :: rest) a w := by
  refine wpList_plain hg fun K' hK' => ?_
  obtain ⟨w', hrun, r1, r2⟩ := h w u hb
  unfold Oper.wp
  simp [execOp, hop, hx, hy, hv, hrun, Result.andThen]
  exact hK' _ _ (hK w' r1 r2)
end

/-! ### The key type -/
theorem key_two {P : Program} {k e : TypeId} {fs : Array Field} {A B : Field} (hl : laidOutB P = true) (hrow : k < P.types.size) (hk2 : P.keyTypeAt 2 k = true) (hkt : P.keyType k = true) (hu : P.underlying k = some (.struct #[A, B]))
    (hA : A.type = e) (hB : B.type = e) (hAo : A.offset = 0) (hBo : B.offset = 1) (hAn : (A.name != "_") = true) (hBn : (B.name != "_") = true) (he : P.underlying e = some (.int .i64)) (hce : P.cellsOf e = 1) (hck : P.cellsOf k = 2) (hsz : ∃ m, P.types.size = m + 1) : KeyE P k where
  law := deep_law_laid hl (m := 2) (by omega) hrow hk2 (by rw [hu])
  key p hp := by
    obtain ⟨m, hm⟩ := hsz
    obtain ⟨a, b⟩ := p
    obtain ⟨h1, h2, h3, h4⟩ := hp
    simp only at h1 h2 h3 h4
    have wa : (Lit.int .i64 a).wf = true := by simp [Lit.wf, IntKind.min, IntKind.max, IntKind.signed, IntKind.bits]; omega
    have wb : (Lit.int .i64 b).wf = true := by simp [Lit.wf, IntKind.min, IntKind.max, IntKind.signed, IntKind.bits]; omega
    refine ⟨.string (keyBytes [.int .i64 a, .int .i64 b]), ?_⟩
    unfold keyOf
    rw [hu]
    simp only [hkt, EndV, Value.formed, hu, hck, Value.cells, hm, Program.keyLits]
    simp [hA, hB, hAo, hBo, hAn, hBn, hce, hck, he, wa, wb, Program.keyLits]
/-! ### Scopes; returns of two -/
def subS : List Bool → Code → Code
  | [], c => c
  | _ :: r, .scope c => subS r c
  | false :: r, .seq c _ => subS r c
  | true :: r, .seq _ c => subS r c
  | false :: r, .cond _ c _ => subS r c
  | true :: r, .cond _ _ c => subS r c
  | _ :: r, .block _ c => subS r c
  | _ :: r, .loop c => subS r c
  | _, c => c
section
variable {P : Program}
theorem scope_ok {Q : Exit → Act → World → Prop} {e : Exit} {a : Act} {w : World} (he : match e with | .goto _ => False | _ => True) (h : Q e a w) : Exit.noGoto Q e a w := by
  cases e <;> first | exact h | exact False.elim he
theorem slotD {a : Act} {t : Nat} {v : Value} (h : a.tmps[t]? = some v) : a.tmps.getD t undef = v := slot h
theorem sm_ret2 {fn : Func} {R : Ending → World → Prop} {a : Act} {w : World} {t u : Tmp} {x y : Value} (hr : fn.results = #[.tmp t, .tmp u]) (hd : a.defers = []) (e1 : a.tmps[t]? = some x) (e2 : a.tmps[u]? = some y)
    (hR : R (.returned (.tuple #[x, y])) w) : bodyPost P fn R .ret a w :=
  bodyPost_ret (v := .tuple #[x, y]) (by simp [results, hr, e1, e2]) hd hR
theorem sm_ret_cell {fn : Func} {R : Ending → World → Prop} {a : Act} {w : World} {b u : Tmp} {ty t : TypeId} {g : Nat} {cs : Array Value} {d : TypeDesc} {y : Value} (hr : fn.results = #[.cell b ty, .tmp u]) (hd : a.defers = [])
    (e1 : a.tmps[b]? = some (.pointer (some ⟨g, 0, none⟩))) (B : Blk w g t cs) (hu : P.underlying ty = some d) (hd' : (match d with | .struct _ | .array _ _ => true | _ => false) = true) (hi : (P.info? ty).map (·.size) = some cs.size)
    (e2 : a.tmps[u]? = some y) (hR : R (.returned (.tuple #[.agg cs, y])) w) : bodyPost P fn R .ret a w :=
  bodyPost_ret (v := .tuple #[.agg cs, y]) (by simp [results, hr, e1, e2, asAddr, run_loadVar_row w g t ty cs (0, 0) d B hu hd' hi, Result.andThen]) hd hR
end
theorem wrap64 {x : Int} (h1 : -9223372036854775808 ≤ x) (h2 : x ≤ 9223372036854775807) : IntKind.i64.wrap x = x := by
  simp [IntKind.wrap, IntKind.bits, IntKind.signed]; omega
end Go.Proofs.Ytaegngcbiefckaa
