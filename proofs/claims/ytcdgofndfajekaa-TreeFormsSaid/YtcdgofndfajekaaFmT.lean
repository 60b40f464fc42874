/-
  TreeForms: what the law keeps of the roles; its questions to the clocks.
-/
import Derived.Test.YtcdgofndfajekaaFmQ
import Derived.Test.YtcdgofndfajekaaFmE
namespace Go.Proofs.Ytcdgofndfajekaa
set_option linter.unusedSimpArgs false
set_option linter.unusedVariables false
open Go.RowKit Go.WideShapes Go.ChangeShapes

theorem cmp_lit (p q : Pr) (w : World) : Calls Try.prog 18 #[.agg #[.int .i64 p.one, .int .i64 p.cls, .int .i64 p.two, .int .i64 p.id], .agg #[.int .i64 q.one, .int .i64 q.cls, .int .i64 q.two, .int .i64 q.id]] w fun e w' => e = .returned (.int .i64 (cmpP p q)) ∧ Below w.heap.size w w' := cmpP_any p q w
def rolesF (L : List Tre) (now : Int) (i j : Nat) : Int := match L[i]? with | some t => roleAt t.own (t.top now) (t.hs now) j | none => 0
theorem rolesF_at {L : List Tre} {now : Int} {i j : Nat} {t : Tre} (h : L[i]? = some t) : rolesF L now i j = roleAt t.own (t.top now) (t.hs now) j := by unfold rolesF; rw [h]
/-- A row of rows of roles: n rows of eight, in blocks that no clock turns. -/
structure Rl (w : World) (S : List Nat) (A : Addr) (n : Nat) (f : Nat → Nat → Int) : Prop where
  lt : A.block < w.heap.size
  no : A.block ∉ S
  row : ∀ i, i < n → ∃ (g c : Nat), w.cell? (A.add i) = some (.slice (some ⟨g, 0, none⟩) 8 c) ∧ g < w.heap.size ∧ g ∉ S ∧ ∀ j, j < 8 → w.cell? ⟨g, j, none⟩ = some (.int .i64 (f i j))
theorem Rl.fr {w w' : World} {S : List Nat} {A : Addr} {n : Nat} {f : Nat → Nat → Int} (h : Rl w S A n f) (hf : Fr S w w') : Rl w' S A n f :=
  ⟨Nat.lt_of_lt_of_le h.lt hf.size, h.no, fun i hi => by
    obtain ⟨g, c, h1, h2, h3, h4⟩ := h.row i hi
    exact ⟨g, c, by rw [hf.cell (by rw [block_of_add]; exact h.lt) (by rw [block_of_add]; exact h.no)]; exact h1, Nat.lt_of_lt_of_le h2 hf.size, h3, fun j hj => by rw [hf.cell (p := ⟨g, j, none⟩) h2 h3]; exact h4 j hj⟩⟩
theorem Rl.kept {w w' : World} {S : List Nat} {A : Addr} {n : Nat} {f : Nat → Nat → Int} (h : Rl w S A n f) (hb : Below w.heap.size w w') : Rl w' S A n f := h.fr (.be hb)
theorem Rl.same {w : World} {S : List Nat} {A : Addr} {n : Nat} {f f' : Nat → Nat → Int} (h : Rl w S A n f) (hf : ∀ i j, i < n → j < 8 → f i j = f' i j) : Rl w S A n f' :=
  ⟨h.lt, h.no, fun i hi => by
    obtain ⟨g, c, h1, h2, h3, h4⟩ := h.row i hi
    exact ⟨g, c, h1, h2, h3, fun j hj => by rw [← hf i j hi hj]; exact h4 j hj⟩⟩
/-- The rows so far, each in a block of its own. -/
def Rws (w : World) (B : Nat) (vs : List Value) (f : Nat → Nat → Int) : Prop := ∀ (i : Nat) (v : Value), vs[i]? = some v → ∃ (g c : Nat) (cur : Array Value), v = .slice (some ⟨g, 0, none⟩) 8 c ∧ B ≤ g ∧ Blk w g 3 cur ∧ ∀ j, j < 8 → cur[j]? = some (.int .i64 (f i j))
theorem Rws.nil (w : World) (B : Nat) (f : Nat → Nat → Int) : Rws w B [] f := fun i v h => by simp at h
theorem Rws.keep {w w' : World} {B : Nat} {vs : List Value} {f : Nat → Nat → Int} (h : Rws w B vs f) {q : Option Nat} (gr : w.grownBy w' q) (hq : ∀ g t cs, q = some g → Blk w g t cs → t ≠ 3) : Rws w' B vs f := fun i v hv => by
  obtain ⟨g, c, cur, h1, h2, h3, h4⟩ := h i v hv
  exact ⟨g, c, cur, h1, h2, h3.grown gr (fun e => hq g _ _ e.symm h3 rfl), h4⟩
theorem Rws.kept {w w' : World} {B : Nat} {vs : List Value} {f : Nat → Nat → Int} (h : Rws w B vs f) (hb : Below w.heap.size w w') : Rws w' B vs f := fun i v hv => by
  obtain ⟨g, c, cur, h1, h2, h3, h4⟩ := h i v hv
  exact ⟨g, c, cur, h1, h2, h3.kept hb, h4⟩
theorem Rws.push {w : World} {B : Nat} {vs : List Value} {f : Nat → Nat → Int} (h : Rws w B vs f) {g c : Nat} {cur : Array Value} (hg : B ≤ g) (hb : Blk w g 3 cur) (hc : ∀ j, j < 8 → cur[j]? = some (.int .i64 (f vs.length j))) : Rws w B (vs ++ [.slice (some ⟨g, 0, none⟩) 8 c]) f := fun i v hv => by
  rcases Nat.lt_or_ge i vs.length with h1 | h1
  · rw [List.getElem?_append_left h1] at hv
    exact h i v hv
  · rw [List.getElem?_append_right h1] at hv
    have h2 := (List.getElem?_eq_some_iff.1 hv).1
    simp at h2
    have h3 : i - vs.length = 0 := by omega
    rw [h3] at hv
    simp at hv
    have h4 : i = vs.length := by omega
    subst hv h4
    exact ⟨g, c, cur, rfl, hg, hb, hc⟩
theorem Rws.rl {w : World} {B n : Nat} {S : List Nat} {vs : List Value} {f : Nat → Nat → Int} {v : Value} (h : Rws w B vs f) (hl : vs.length = n) (hn : 0 < n) (hS : ∀ k ∈ S, k < B) (own : w.ownsRow B 32 1 v n vs) : ∃ A c, v = .slice (some A) n c ∧ Rl w S A n f := by
  rcases own.2 with ⟨_, h2⟩ | ⟨g, cap, cur, hv, hg, hh, hle, _, hsz, ht⟩
  · omega
  · have hb : Blk w g 32 cur := hh
    refine ⟨⟨g, 0, none⟩, cap, hv, hb.lt, fun hm => by have := hS g hm; omega, fun i hi => ?_⟩
    obtain ⟨u, hu⟩ : ∃ u, vs[i]? = some u := ⟨_, List.getElem?_eq_getElem (by omega)⟩
    obtain ⟨g', c, cu, rfl, h2, h3, h4⟩ := h i u hu
    refine ⟨g', c, ?_, h3.lt, fun hm => by have := hS _ hm; omega, fun j hj => h3.cellOf _ (h4 j hj)⟩
    have e1 : (⟨g, 0, none⟩ : Addr).add i = ⟨g, i, none⟩ := by unfold Addr.add; split <;> simp_all
    rw [e1]
    refine hb.cellOf _ ?_
    rw [← ht, List.getElem?_take] at hu
    split at hu
    · simpa using hu
    · cases hu
/-- A row of eight roles that Best gave. -/
theorem row_eight {w : World} {B : Nat} {v : Value} {f : Nat → Int} (own : w.ownsRow B 3 1 v 8 ((List.range 8).map fun j => .int .i64 (f j))) : ∃ (g c : Nat) (cur : Array Value), v = .slice (some ⟨g, 0, none⟩) 8 c ∧ B ≤ g ∧ Blk w g 3 cur ∧ ∀ j, j < 8 → cur[j]? = some (.int .i64 (f j)) := by
  rcases own.2 with ⟨_, h2⟩ | ⟨g, cap, cur, hv, hg, hh, hle, _, hsz, ht⟩
  · omega
  · refine ⟨g, cap, cur, hv, hg, hh, fun j hj => ?_⟩
    have h1 : ((List.range 8).map fun j => Value.int .i64 (f j))[j]? = some (.int .i64 (f j)) := by rw [List.getElem?_map, List.getElem?_range hj]; rfl
    rw [← ht, List.getElem?_take, if_pos (by omega)] at h1
    simpa using h1
end Go.Proofs.Ytcdgofndfajekaa
