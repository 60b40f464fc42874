/-
  The gates of a plan, plain and in memory.
-/
import Derived.Test.YtaegngcbiefckaaPlnFl
import Derived.Test.YtaegngcbiefckaaPlnLst
namespace Go.Proofs.Ytaegngcbiefckaa
set_option linter.unusedSimpArgs false
set_option linter.unusedVariables false
open Go.RowKit Go.WideShapes Go.ChangeShapes

def GoodSp (C : Cf) (x : Sp) : Prop := 0 ≤ x.2.1 ∧ x.2.1 < x.2.2 ∧ x.2.2 ≤ C.cycle
theorem hopsGo_span {C : Cf} {off : Int} {f : Fw} {n : Nat} (hW : Well C) (hoff : 0 ≤ off) (hlen : 0 ≤ f.len) (hsz : 64 ≤ f.size) : ∀ (es : List (Int × Int)) (is : List Int) (k : Nat) (S : List Sp) (low high : Int) (r : List Sp × Int × Int), low ≤ high →
    (∀ x ∈ S, GoodSp C x) → hopsGo C off f n k S es is low high = .ok r → ∀ x ∈ r.1, GoodSp C x
  | [], _, k, S, low, high, r, _, hS, h => by
    simp [hopsGo] at h
    rw [← h]; exact hS
  | e :: es, [], k, S, low, high, r, _, hS, h => by
    simp [hopsGo] at h
    rw [← h]; exact hS
  | e :: es, i :: is, k, S, low, high, r, hl, hS, h => by
    rw [hopsGo] at h
    split at h
    · cases h
    · rename_i hb
      cases hi : C.links[i.toNat]? with
      | none => rw [hi] at h; cases h
      | some l =>
        rw [hi] at h
        have hll := (hW.links l (List.mem_of_getElem? hi)).hi
        refine hopsGo_span hW hoff hlen hsz es is (k + 1) _ _ _ r ?_ ?_ h
        · split <;> omega
        · intro x hx
          rcases List.mem_append.1 hx with hx | hx
          · exact hS x hx
          · simp at hx
            subst hx
            refine ⟨?_, ?_, ?_⟩ <;> simp only <;> omega
theorem flowGo_span {C : Cf} {off : Int} {S : List Sp} {f : Fw} {r : List Sp × (Int × Int)} (hW : Well C) (hoff : 0 ≤ off) (hS : ∀ x ∈ S, GoodSp C x) (h : flowGo C off S f = .ok r) : ∀ x ∈ r.1, GoodSp C x := by
  unfold flowGo at h
  split at h
  · cases h
  rename_i hb
  unfold badFlow at hb
  split at h
  · cases h
  split at h
  · rename_i xs ys _ _
    split at h
    · cases h0 : hopsGo C off f xs.length 0 S xs f.w0 0 0 with
      | error e => rw [h0] at h; cases h
      | ok r0 =>
        obtain ⟨S1, lo0, hi0⟩ := r0
        rw [h0] at h
        simp only at h
        have h1 := hopsGo_span hW hoff (by omega) (by omega) _ _ _ _ _ _ _ (Int.le_refl _) hS h0
        cases h2 : hopsGo C off f ys.length 0 S1 ys f.w1 0 0 with
        | error e => rw [h2] at h; cases h
        | ok r1 =>
          obtain ⟨S2, lo1, hi1⟩ := r1
          rw [h2] at h
          simp only at h
          have h3 := hopsGo_span hW hoff (by omega) (by omega) _ _ _ _ _ _ _ (Int.le_refl _) h1 h2
          split at h
          · cases h
          · cases h; exact h3
    · cases h
  · cases h

/-! ### The ends that have had their turn -/
def endsOf (C : Cf) (i : Nat) : List (Int × Int) := match C.nodes[i]? with
  | some n => (List.range n.ports.toNat).map fun p : Nat => ((i : Int), (p : Int))
  | none => []
def endsTo (C : Cf) (i : Nat) : List (Int × Int) := (List.range i).flatMap (endsOf C)
theorem endsTo_succ (C : Cf) (i : Nat) : endsTo C (i + 1) = endsTo C i ++ endsOf C i := by
  simp [endsTo, List.range_succ, List.flatMap_append]
theorem endsOf_some {C : Cf} {i : Nat} {n : Nd} (h : C.nodes[i]? = some n) : endsOf C i = (List.range n.ports.toNat).map fun p : Nat => ((i : Int), (p : Int)) := by rw [endsOf, h]
theorem mem_endsOf {C : Cf} {i : Nat} {e : Int × Int} (h : e ∈ endsOf C i) : e.1 = (i : Int) := by
  unfold endsOf at h
  split at h
  · obtain ⟨p, _, rfl⟩ := List.mem_map.1 h; rfl
  · cases h
theorem mem_endsTo {C : Cf} {i : Nat} {e : Int × Int} (h : e ∈ endsTo C i) : e.1 < (i : Int) := by
  obtain ⟨k, hk, he⟩ := List.mem_flatMap.1 h
  have h1 := mem_endsOf he
  have h2 := List.mem_range.1 hk
  omega
theorem not_mem_done {C : Cf} {i p : Nat} : ((i : Int), (p : Int)) ∉ endsTo C i ++ (List.range p).map fun q : Nat => ((i : Int), (q : Int)) := by
  intro h
  rcases List.mem_append.1 h with h | h
  · have := mem_endsTo h; simp only at this; omega
  · obtain ⟨q, hq, he⟩ := List.mem_map.1 h
    have h1 := List.mem_range.1 hq
    injection he with _ he
    omega
theorem portsOk_iff {C : Cf} {S : List Sp} : portsOk C S = true ↔ ∀ e ∈ endsTo C C.nodes.length, Disj (atEnd S e) := by
  unfold portsOk endsTo
  simp only [List.all_eq_true, List.mem_range, List.mem_flatMap]
  constructor
  · rintro h e ⟨i, hi, he⟩
    have := h i hi
    obtain ⟨n, hn⟩ : ∃ n, C.nodes[i]? = some n := ⟨_, List.getElem?_eq_getElem hi⟩
    rw [hn] at this
    rw [endsOf_some hn] at he
    obtain ⟨p, hp, rfl⟩ := List.mem_map.1 he
    simp only [List.all_eq_true] at this
    exact of_decide_eq_true (this p hp)
  · intro h i hi
    obtain ⟨n, hn⟩ : ∃ n, C.nodes[i]? = some n := ⟨_, List.getElem?_eq_getElem hi⟩
    rw [hn]
    simp only [List.all_eq_true]
    exact fun p hp => decide_eq_true (h _ ⟨i, hi, by rw [endsOf_some hn]; exact List.mem_map.2 ⟨p, hp, rfl⟩⟩)
theorem atEnd_good {C : Cf} {S : List Sp} (hS : ∀ x ∈ S, GoodSp C x) {e : Int × Int} : ∀ x ∈ atEnd S e, 0 ≤ x.1 ∧ x.1 < x.2 ∧ x.2 ≤ C.cycle := by
  intro x hx
  obtain ⟨y, hy, he⟩ := List.mem_filterMap.1 hx
  split at he
  · cases he; exact hS y hy
  · cases he
theorem go_disj {C : Cf} {S : List Sp} (hS : ∀ x ∈ S, GoodSp C x) {e : Int × Int} {ss : List (Int × Int)} (hp : ss.Perm (atEnd S e)) (hs : ss.Pairwise fun x y => x.1 ≤ y.1) : (goV C.cycle 0 ss).isSome = true ↔ Disj (atEnd S e) := by
  have hg : ∀ x ∈ ss, 0 ≤ x.1 ∧ x.1 < x.2 ∧ x.2 ≤ C.cycle := fun x hx => atEnd_good hS x (hp.subset hx)
  rw [goV_some C.cycle ss 0 hs (fun x hx => (hg x hx).2.1), Disj.perm hp]
  exact ⟨fun h => h.2, fun h => ⟨fun x hx => (hg x hx).1, h⟩⟩

/-! ### In memory -/
structure GtM (w : World) (B1 gG mg : Nat) (fg : Int × Int → Option Value) (V : List (Int × Int)) (cyc : Int) (S : List Sp) : Prop where
  E : EM Try.prog 61 w gG mg fg
  has : ∀ p, (fg p).isSome = true ↔ p ∈ V
  row : ∀ p v, fg p = some v → ∃ (sv : Value) (ss t : List (Int × Int)), v = .agg #[.int .i64 0, .int .i64 cyc, sv] ∧ ss.Perm (atEnd S p) ∧ ss.Pairwise (fun x y => x.1 ≤ y.1) ∧ goV cyc 0 ss = some t ∧ w.ownsRow B1 67 2 sv t.length (t.flatMap spc)
  cnt : mg = V.length
  lt : gG < B1
theorem Blk.of_heap {w w' : World} {g : Nat} {t : TypeId} {cs : Array Value} (h : w'.heap[g]? = w.heap[g]?) (B : Blk w g t cs) : Blk w' g t cs := h.trans B
theorem own_type {w w' : World} {base : Nat} {e : TypeId} {size n : Nat} {v : Value} {xs : List Value} (h : w.ownsRow base e size v n xs) (hk : ∀ k cs z, k < w.heap.size → w.heap[k]? = some (.cells cs e z) → w'.heap[k]? = w.heap[k]?) : w'.ownsRow base e size v n xs := by
  have hlt := ownsRow_lt h
  obtain ⟨h1, h2⟩ := h
  refine ⟨h1, h2.imp id fun ⟨q, cap, cur, hv, hg, hh, rr⟩ => ⟨q, cap, cur, hv, hg, ?_, rr⟩⟩
  rw [hk q _ _ (hlt q (by rw [hv]; rfl)).2 hh]
  exact hh
/-- A row of another type is not where an owned row lies. -/
theorem row_type {w w' : World} {base : Nat} {e e2 : TypeId} {size n : Nat} {v : Value} {xs : List Value} (h : w.ownsRow base e size v n xs) (gr : w.grownBy w' v.ownBlock) (hne : e2 ≠ e) : ∀ k cs z, k < w.heap.size → w.heap[k]? = some (.cells cs e2 z) → w'.heap[k]? = w.heap[k]? :=
  fun k cs z hk hh => gr.block k hk fun he => by
    rcases h.2 with ⟨h1, _⟩ | ⟨g, cap, cur, h1, h2, h3, _⟩
    · rw [h1] at he; cases he
    · rw [h1] at he
      injection he with he
      have he : k = g := he
      subst he
      rw [h3] at hh
      injection hh with hh
      injection hh with _ hh _
      exact hne hh.symm
section
variable {w w' : World} {B1 gG mg : Nat} {fg : Int × Int → Option Value} {V : List (Int × Int)} {cyc : Int} {S : List Sp} {p : Int × Int}
theorem GtM.fr (h : GtM w B1 gG mg fg V cyc S) (hE : w'.heap[gG]? = w.heap[gG]?) (hk : ∀ k cs z, k < w.heap.size → w.heap[k]? = some (.cells cs 67 z) → w'.heap[k]? = w.heap[k]?) : GtM w' B1 gG mg fg V cyc S :=
  ⟨h.E.of_block hE, h.has, fun p v hv => by
    obtain ⟨sv, ss, t, h1, h2, h3, h4, h5⟩ := h.row p v hv
    exact ⟨sv, ss, t, h1, h2, h3, h4, own_type h5 hk⟩, h.cnt, h.lt⟩
theorem GtM.keep (h : GtM w B1 gG mg fg V cyc S) (hb : Below w.heap.size w w') : GtM w' B1 gG mg fg V cyc S := h.fr (hb.block gG h.E.lt) fun k _ _ hk _ => hb.block k hk
theorem GtM.put {sv : Value} {ss t : List (Int × Int)} (h : GtM w B1 gG mg fg V cyc S) (hp : p ∉ V) (hpm : ss.Perm (atEnd S p)) (hs : ss.Pairwise fun x y => x.1 ≤ y.1) (hg : goV cyc 0 ss = some t)
    (own : w.ownsRow B1 67 2 sv t.length (t.flatMap spc)) (hE : EM Try.prog 61 w' gG (if (fg p).isSome then mg else mg + 1) (upd fg p (.agg #[.int .i64 0, .int .i64 cyc, sv]))) (gr : w.grownBy w' (some gG)) :
    GtM w' B1 gG (mg + 1) (upd fg p (.agg #[.int .i64 0, .int .i64 cyc, sv])) (V ++ [p]) cyc S := by
  have hno : (fg p).isSome = false := by
    cases h' : (fg p).isSome
    · rfl
    · exact absurd ((h.has p).1 h') hp
  rw [hno] at hE
  have keep : ∀ {v : Value} {n : Nat} {xs : List Value}, w.ownsRow B1 67 2 v n xs → w'.ownsRow B1 67 2 v n xs := fun o => own_kept o gr fun k hk e => by
    have := (ownsRow_lt o k hk).1
    have := h.lt
    injection e with e
    omega
  refine ⟨hE, fun q => ?_, fun q v hv => ?_, by rw [h.cnt]; simp, h.lt⟩
  · by_cases hq : q = p
    · subst hq; rw [upd_same]; simp
    · rw [upd_other hq, h.has q]; simp [hq]
  · by_cases hq : q = p
    · subst hq
      rw [upd_same] at hv
      cases hv
      exact ⟨sv, ss, t, rfl, hpm, hs, hg, keep own⟩
    · rw [upd_other hq] at hv
      obtain ⟨sv', ss', t', h1, h2, h3, h4, h5⟩ := h.row q v hv
      exact ⟨sv', ss', t', h1, h2, h3, h4, keep h5⟩
end
theorem GtM.start {w : World} {B1 gG : Nat} {cyc : Int} {S : List Sp} (hE : EM Try.prog 61 w gG 0 (fun _ => none)) (hlt : gG < B1) : GtM w B1 gG 0 (fun _ => none) [] cyc S :=
  ⟨hE, fun p => ⟨fun h => (by cases h), fun h => (by cases h)⟩, fun p v h => (by cases h), rfl, hlt⟩
/-- One of the rows is sorted. -/
theorem SpM.sorted {w w' : World} {B0 gm m : Nat} {f : Int × Int → Option Value} {S : List Sp} {p : Int × Int} {ss : List (Int × Int)} (h : SpM w B0 gm m f S) (hp : ss.Perm (atEnd S p)) (own : w'.ownsRow B0 93 2 ((f p).getD (.slice none 0 0)) ss.length (ss.flatMap spc))
    (gr : w.grownBy w' ((f p).getD (.slice none 0 0)).ownBlock) : SpM w' B0 gm m f S := by
  have hz := gr.size
  obtain ⟨s0, _, o0⟩ := h.row p
  refine ⟨h.E.of_block (gr.block gm (Nat.lt_of_lt_of_le h.lt h.hz) (fun e => by have := (ownsRow_lt o0 gm e.symm).1; have := h.lt; omega)), fun q v hv => ?_, h.non, h.ap, h.lt, Nat.le_trans h.hz hz, h.ml⟩
  by_cases hq : q = p
  · subst hq
    rw [hv] at own
    exact ⟨ss, hp, own⟩
  · obtain ⟨tt, h1, h2⟩ := h.own q v hv
    refine ⟨tt, h1, own_kept h2 gr fun k hk e => ?_⟩
    rcases hf : f p with _ | v0
    · rw [hf] at e; cases e
    · rw [hf] at e
      exact hq (h.ap q p v v0 k hv hf hk e.symm)
/-- Another map, below the rows, turns. -/
theorem SpM.low {w w' : World} {B0 gm m g : Nat} {f : Int × Int → Option Value} {S : List Sp} (h : SpM w B0 gm m f S) (hg : g ≠ gm) (hB : g < B0) (gr : w.grownBy w' (some g)) : SpM w' B0 gm m f S :=
  ⟨h.E.of_block (gr.block gm (Nat.lt_of_lt_of_le h.lt h.hz) (fun e => hg (by injection e with e; exact e.symm))), fun q v hv => by
    obtain ⟨tt, h1, h2⟩ := h.own q v hv
    exact ⟨tt, h1, own_kept h2 gr fun k hk e => by have := (ownsRow_lt h2 k hk).1; injection e with e; omega⟩, h.non, h.ap, h.lt, Nat.le_trans h.hz gr.size, h.ml⟩
section
variable {P : Program} {lo : List Oper} {S : World → Prop} {Q : Exit → Act → World → Prop}
theorem tr_store_new {i : Nat} {l : Tr} {a : Act} {o : Oper} (ho0 : lo[i]? = some o) (hgd : o.guard = none) (ty : TypeId) (x y : Operand) (ho : o.op = .store ty x y)
    {wr : World} {te : TypeId} {old cs : Array Value} {g : Nat} (hx : a.eval x = .pointer (some ⟨g, 0, none⟩)) (hg : g = wr.heap.size) (hy : a.eval y = .agg cs) (hsz : old.size = cs.size) (hi : (P.info? ty).map (·.size) = some cs.size) (h1 : cs.all (·.oneCell') = true)
    (h : S (wr.alloc (.cells cs te)) ∧ wpTr P lo.toArray S Q l (a.put o.dst undef) (wr.alloc (.cells cs te))) : wpTr P lo.toArray S Q (.one i l) a (wr.alloc (.cells old te)) := by
  subst hg
  have B := Blk.new wr te old
  refine tr_wp ho0 (by simp [Region.wanted, hgd]) (wp_store_mid ty x y ho wr.heap.size 0 cs hx hy (fun j hj => ?_) hi h1 ?_)
  · rw [Nat.zero_add, B.cell, B.frozen]
    exact ⟨by rw [Array.getElem?_eq_getElem (by omega)]; rfl, rfl⟩
  · have := setCells_alloc wr te cs.toList [] old.toList (by simpa using hsz)
    simp only [List.nil_append, List.length_nil, Array.toArray_toList] at this
    rw [this]
    exact h
theorem tr_store_blk {i : Nat} {l : Tr} {a : Act} {o : Oper} (ho0 : lo[i]? = some o) (hgd : o.guard = none) (ty : TypeId) (x y : Operand) (ho : o.op = .store ty x y)
    {w : World} {te : TypeId} {old cs : Array Value} {g off : Nat} (hx : a.eval x = .pointer (some ⟨g, off, none⟩)) (B : Blk w g te old) (hy : a.eval y = .agg cs) (hsz : off + cs.size ≤ old.size) (hi : (P.info? ty).map (·.size) = some cs.size) (h1 : cs.all (·.oneCell') = true)
    (h : ∀ w', Blk w' g te (putAll old off cs.toList) → w'.heap.size = w.heap.size → w.grownBy w' (some g) → S w' ∧ wpTr P lo.toArray S Q l (a.put o.dst undef) w') : wpTr P lo.toArray S Q (.one i l) a w := by
  refine tr_wp ho0 (by simp [Region.wanted, hgd]) (wp_store_mid ty x y ho g off cs hx hy (B.there hsz) hi h1 ?_)
  obtain ⟨h2, h3, h4⟩ := putAll_blk cs.toList off w old B
  exact h _ h2 h3 h4
end
end Go.Proofs.Ytaegngcbiefckaa
