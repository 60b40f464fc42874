/-
  The spans of a plan in memory: a map of slices whose rows lie apart; a frame for what turns there.
-/
import Derived.Test.YtaegngcbiefckaaPlnV
import Derived.Test.YtaegngcbiefckaaPlnF
import Derived.Test.YtaegngcbiefckaaPlnSpan
namespace Go.Proofs.Ytaegngcbiefckaa
set_option linter.unusedSimpArgs false
set_option linter.unusedVariables false
open Go.RowKit Go.WideShapes Go.ChangeShapes

/-! ### A frame: what lies below a block, and what is neither that block, nor one of a list, nor a row of spans, stays -/
structure FrH (gm : Nat) (X : List Nat) (w w' : World) : Prop where
  os : w'.os = w.os
  tape : w'.tape = w.tape
  output : w'.output = w.output
  size : w.heap.size ≤ w'.heap.size
  block : ∀ k, k < w.heap.size → k < gm ∨ (k ≠ gm ∧ k ∉ X ∧ ∀ cs z, w.heap[k]? ≠ some (.cells cs 93 z)) → w'.heap[k]? = w.heap[k]?
section
variable {gm g : Nat} {X X' : List Nat} {w w' w'' : World} {t : TypeId} {cs : Array Value}
theorem FrH.refl : FrH gm X w w := ⟨rfl, rfl, rfl, Nat.le_refl _, fun _ _ _ => rfl⟩
theorem FrH.trans (h : FrH gm X w w') (h' : FrH gm X w' w'') : FrH gm X w w'' :=
  ⟨h'.os.trans h.os, h'.tape.trans h.tape, h'.output.trans h.output, Nat.le_trans h.size h'.size, fun k hk hc => by
    have e := h.block k hk hc
    refine (h'.block k (Nat.lt_of_lt_of_le hk h.size) ?_).trans e
    rcases hc with hc | ⟨h1, h2, h3⟩
    · exact .inl hc
    · exact .inr ⟨h1, h2, by rw [e]; exact h3⟩⟩
theorem FrH.more (h : FrH gm X w w') (hX : ∀ k, k ∈ X → k ∈ X') : FrH gm X' w w' :=
  ⟨h.os, h.tape, h.output, h.size, fun k hk hc => h.block k hk (hc.imp id fun ⟨h1, h2, h3⟩ => ⟨h1, fun e => h2 (hX k e), h3⟩)⟩
theorem FrH.be (h : Below w.heap.size w w') : FrH gm X w w' := ⟨h.os, h.tape, h.output, h.size, fun k hk _ => h.block k hk⟩
theorem FrH.below (h : FrH gm X w w') (hg : gm ≤ w.heap.size) : Below gm w w' := ⟨h.os, h.tape, h.output, h.size, fun k hk => h.block k (by omega) (.inl hk)⟩
theorem FrH.blk (h : FrH gm X w w') (B : Blk w g t cs) (ht : t ≠ 93) (hg : g ≠ gm) (hX : g ∉ X) : Blk w' g t cs := by
  refine (h.block g B.lt (.inr ⟨hg, hX, fun cs z e => ?_⟩)).trans B
  have B' := B
  unfold Blk at B'
  rw [B'] at e
  injection e with e
  injection e with _ e _
  exact ht e
theorem FrH.low (h : FrH gm X w w') (B : Blk w g t cs) (hg : g < gm) : Blk w' g t cs := (h.block g B.lt (.inl hg)).trans B
theorem FrH.own (h : FrH gm X w w') {base size n : Nat} {v : Value} {xs : List Value} (o : w.ownsRow base t size v n xs) (ht : t ≠ 93) (hk : ∀ k, v.ownBlock = some k → k ≠ gm ∧ k ∉ X) : w'.ownsRow base t size v n xs := by
  have hlt := ownsRow_lt o
  obtain ⟨h1, h2⟩ := o
  refine ⟨h1, h2.imp id fun ⟨q, cap, cur, hv, hg, hh, r⟩ => ⟨q, cap, cur, hv, hg, ?_, r⟩⟩
  have hq : v.ownBlock = some q := by rw [hv]; rfl
  refine (h.block q (hlt q hq).2 (.inr ⟨(hk q hq).1, (hk q hq).2, fun cs z e => ?_⟩)).trans hh
  rw [hh] at e
  injection e with e
  injection e with _ e _
  exact ht e
theorem FrH.of_gr (h : w.grownBy w' (some g)) (hg : g ∈ X) (hm : gm ≤ g) : FrH gm X w w' :=
  ⟨h.os, h.tape, h.output, h.size, fun k hk hc => h.block k hk (fun e => by
    injection e with e
    subst e
    rcases hc with hc | ⟨_, hc, _⟩
    · omega
    · exact hc hg)⟩
theorem FrH.set (hg : g ∈ X) (hm : gm ≤ g) (o : Nat) (u : Value) : FrH gm X w (w.setCell ⟨g, o, none⟩ u) :=
  ⟨rfl, rfl, rfl, by simp [World.setCell], fun k hk hc => Below.heap_setCell w _ u k (by
    show k ≠ g
    rcases hc with hc | ⟨_, h2, _⟩
    · omega
    · intro e; subst e; exact h2 hg)⟩
end
theorem own_kept {w w' : World} {base : Nat} {e : TypeId} {size n : Nat} {v : Value} {xs : List Value} {r : Option Nat} (h : w.ownsRow base e size v n xs) (hb : w.grownBy w' r) (hne : ∀ k, v.ownBlock = some k → some k ≠ r) : w'.ownsRow base e size v n xs := by
  have hlt := ownsRow_lt h
  obtain ⟨h1, h2⟩ := h
  refine ⟨h1, h2.imp id fun ⟨q, cap, cur, hv, hg, hh, rr⟩ => ⟨q, cap, cur, hv, hg, ?_, rr⟩⟩
  have hq : v.ownBlock = some q := by rw [hv]; rfl
  rw [hb.block q (hlt q hq).2 (hne q hq)]
  exact hh

/-! ### The spans -/
theorem atEnd_push (S : List Sp) (p q : Int × Int) (e : Int × Int) : atEnd (S ++ [(p, e)]) q = if p = q then atEnd S q ++ [e] else atEnd S q := by
  unfold atEnd
  rw [List.filterMap_append]
  by_cases h : p = q <;> simp [h]
theorem atEnd_len (S : List Sp) (e : Int × Int) : (atEnd S e).length ≤ S.length := by
  unfold atEnd
  exact List.length_filterMap_le _ _
structure SpM (w : World) (B0 gm m : Nat) (f : Int × Int → Option Value) (S : List Sp) : Prop where
  E : EM Try.prog 61 w gm m f
  own : ∀ p v, f p = some v → ∃ ss : List (Int × Int), ss.Perm (atEnd S p) ∧ w.ownsRow B0 93 2 v ss.length (ss.flatMap spc)
  non : ∀ p, f p = none → atEnd S p = []
  ap : ∀ p q v u k, f p = some v → f q = some u → v.ownBlock = some k → u.ownBlock = some k → p = q
  lt : gm < B0
  hz : B0 ≤ w.heap.size
  ml : m ≤ S.length
section
variable {w w' wa wb wc wd : World} {B0 gm m m' : Nat} {f : Int × Int → Option Value} {S : List Sp} {p e : Int × Int}
theorem SpM.row (h : SpM w B0 gm m f S) (p : Int × Int) : ∃ ss : List (Int × Int), ss.Perm (atEnd S p) ∧ w.ownsRow B0 93 2 ((f p).getD (.slice none 0 0)) ss.length (ss.flatMap spc) := by
  rcases hf : f p with _ | v
  · exact ⟨[], by rw [h.non p hf], ownsRow_nil _ _ _ _⟩
  · exact h.own p v hf
theorem SpM.fr (h : SpM w B0 gm m f S) (hE : w'.heap[gm]? = w.heap[gm]?) (hs : w.heap.size ≤ w'.heap.size) (hk : ∀ k cs z, k < w.heap.size → w.heap[k]? = some (.cells cs 93 z) → w'.heap[k]? = w.heap[k]?) : SpM w' B0 gm m f S :=
  ⟨h.E.of_block hE, fun p v hv => by
    obtain ⟨ss, h1, h2⟩ := h.own p v hv
    have hlt := ownsRow_lt h2
    refine ⟨ss, h1, h2.1, h2.2.imp id fun ⟨q, cap, cur, hv, hg, hh, rr⟩ => ⟨q, cap, cur, hv, hg, ?_, rr⟩⟩
    rw [hk q _ _ (hlt q (by rw [hv]; rfl)).2 hh]
    exact hh, h.non, h.ap, h.lt, Nat.le_trans h.hz hs, h.ml⟩
theorem SpM.keep (h : SpM w B0 gm m f S) (hb : Below w.heap.size w w') : SpM w' B0 gm m f S := h.fr (hb.block gm (Nat.lt_of_lt_of_le h.lt h.hz)) hb.size fun k _ _ hk _ => hb.block k hk
/-- A store into a box that is neither the map nor of spans. -/
theorem SpM.set (h : SpM w B0 gm m f S) {g : Nat} {t : TypeId} {cs : Array Value} (B : Blk w g t cs) (hg : g ≠ gm) (ht : t ≠ 93) (hb : w.grownBy w' (some g)) : SpM w' B0 gm m f S :=
  h.fr (hb.block gm (Nat.lt_of_lt_of_le h.lt h.hz) (by simp; exact fun e => hg e.symm)) hb.size fun k cs z hk hh => hb.block k hk (by
    intro e
    injection e with e
    subst e
    have B' := B
    unfold Blk at B'
    rw [B'] at hh
    injection hh with hh
    injection hh with _ hh _
    exact ht hh)
theorem SpM.entry (h : SpM wa B0 gm m f S) (gr : wa.grownBy wb (some gm)) (p : Int × Int) : ∃ ss : List (Int × Int), ss.Perm (atEnd S p) ∧ wb.ownsRow B0 93 2 ((f p).getD (.slice none 0 0)) ss.length (ss.flatMap spc) := by
  obtain ⟨ss, h1, h2⟩ := h.row p
  exact ⟨ss, h1, own_kept h2 gr fun k hk e => by have := (ownsRow_lt h2 k hk).1; have := h.lt; injection e with e; omega⟩
theorem SpM.push {v2 : Value} {ss : List (Int × Int)} (h : SpM wa B0 gm m f S) (gr1 : wa.grownBy wb (some gm)) (hp : ss.Perm (atEnd S p)) (own1 : wb.ownsRow B0 93 2 ((f p).getD (.slice none 0 0)) ss.length (ss.flatMap spc))
    (own2 : wc.ownsRow B0 93 2 v2 (ss.length + 1) (ss.flatMap spc ++ [.int .i64 e.1, .int .i64 e.2])) (gr2 : wb.grownBy wc ((f p).getD (.slice none 0 0)).ownBlock)
    (mv : v2.ownBlock = ((f p).getD (.slice none 0 0)).ownBlock ∨ v2.ownBlock = some wb.heap.size) (hE : EM Try.prog 61 wd gm m' (upd f p v2)) (hm' : m' ≤ m + 1) (gr3 : wc.grownBy wd (some gm)) :
    SpM wd B0 gm m' (upd f p v2) (S ++ [(p, e)]) ∧ FrH gm [] wa wd := by
  have hlt := h.lt
  have hzz := h.hz
  have far : ∀ {w : World} {v : Value} {n : Nat} {xs : List Value}, w.ownsRow B0 93 2 v n xs → ∀ k, v.ownBlock = some k → some k ≠ some gm := fun o k hk e => by
    have := (ownsRow_lt o k hk).1
    injection e with e
    omega
  refine ⟨⟨hE, fun q v hv => ?_, fun q hq => ?_, fun q r v u k hv hu hk hk' => ?_, hlt, by have := gr1.size; have := gr2.size; have := gr3.size; omega, by rw [List.length_append]; have := h.ml; simp only [List.length_cons, List.length_nil]; omega⟩,
    gr3.os.trans (gr2.os.trans gr1.os), gr3.tape.trans (gr2.tape.trans gr1.tape), gr3.output.trans (gr2.output.trans gr1.output), by have := gr1.size; have := gr2.size; have := gr3.size; omega, fun k hk hc => ?_⟩
  · by_cases hqp : q = p
    · subst hqp
      rw [upd_same] at hv
      cases hv
      refine ⟨ss ++ [e], by rw [atEnd_push, if_pos rfl]; exact hp.append_right _, ?_⟩
      have e2 : (ss ++ [e]).flatMap spc = ss.flatMap spc ++ [.int .i64 e.1, .int .i64 e.2] := by simp [spc]
      rw [e2, List.length_append]
      exact own_kept own2 gr3 (far own2)
    · rw [upd_other hqp] at hv
      obtain ⟨tt, h1, h2⟩ := h.own q v hv
      refine ⟨tt, by rw [atEnd_push, if_neg (fun e => hqp e.symm)]; exact h1, ?_⟩
      have o1 := own_kept h2 gr1 (far h2)
      have o2 := own_kept o1 gr2 (fun k hk hr => by
        rcases hf : f p with _ | v0
        · rw [hf] at hr; cases hr
        · rw [hf] at hr
          exact hqp (h.ap q p v v0 k hv hf hk hr.symm))
      exact own_kept o2 gr3 (far o2)
  · have hqp : q ≠ p := fun e => by rw [e, upd_same] at hq; cases hq
    rw [upd_other hqp] at hq
    rw [atEnd_push, if_neg (fun e => hqp e.symm)]
    exact h.non q hq
  · have key : ∀ (q : Int × Int) (v : Value), q ≠ p → f q = some v → v.ownBlock = some k → v2.ownBlock = some k → False := fun q v hq hv hk hk2 => by
      rcases mv with mv | mv
      · rcases hf : f p with _ | v0
        · rw [hf] at mv; rw [mv] at hk2; cases hk2
        · rw [hf] at mv
          rw [mv] at hk2
          exact hq (h.ap q p v v0 k hv hf hk hk2)
      · rw [mv] at hk2
        injection hk2 with e
        obtain ⟨tt, _, h2⟩ := h.own q v hv
        have := (ownsRow_lt h2 k hk).2
        have := gr1.size
        omega
    by_cases hq : q = p <;> by_cases hr : r = p
    · rw [hq, hr]
    · subst hq
      rw [upd_same] at hv
      cases hv
      rw [upd_other hr] at hu
      exact (key r u hr hu hk' hk).elim
    · subst hr
      rw [upd_same] at hu
      cases hu
      rw [upd_other hq] at hv
      exact (key q v hq hv hk hk').elim
    · rw [upd_other hq] at hv
      rw [upd_other hr] at hu
      exact h.ap q r v u k hv hu hk hk'
  · have hkg : k ≠ gm := by rcases hc with hc | hc <;> omega
    have e1 := gr1.block k hk (fun e => hkg (by injection e))
    have e2 : wc.heap[k]? = wb.heap[k]? := gr2.block k (Nat.lt_of_lt_of_le hk gr1.size) (fun er => by
      rcases own1.2 with ⟨h1, _⟩ | ⟨g, cap, cur, h1, h2, h3, _⟩
      · rw [h1] at er; cases er
      · rw [h1] at er
        injection er with er
        have er : k = g := er
        subst er
        rcases hc with hc | ⟨_, _, hc⟩
        · omega
        · exact hc _ _ (e1.symm.trans h3))
    exact (gr3.block k (Nat.lt_of_lt_of_le hk (Nat.le_trans gr1.size gr2.size)) (fun e => hkg (by injection e))).trans (e2.trans e1)
end
theorem SpM.start {w : World} {B0 gm : Nat} (hE : EM Try.prog 61 w gm 0 (fun _ => none)) (hlt : gm < B0) (hz : B0 ≤ w.heap.size) : SpM w B0 gm 0 (fun _ => none) [] :=
  ⟨hE, fun p v h => (by cases h), fun p _ => rfl, fun p q v u k h => (by cases h), hlt, hz, Nat.zero_le _⟩
end Go.Proofs.Ytaegngcbiefckaa
