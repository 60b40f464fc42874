/-
  A struct stored into a new box, or into a part of a known block, in a tree walk.
-/
import Derived.Test.YthhlfojaloaooaaGreatKitE
namespace Go.Proofs.YthhlfojaloaooaaGreat
set_option linter.unusedSimpArgs false
set_option linter.unusedVariables false
open Go.RowKit

theorem own_kept {w w' : World} {base : Nat} {e : TypeId} {size n : Nat} {v : Value} {xs : List Value} {r : Option Nat} (h : w.ownsRow base e size v n xs) (hb : w.grownBy w' r) (hne : ∀ k, v.ownBlock = some k → some k ≠ r) : w'.ownsRow base e size v n xs := by
  have hlt := ownsRow_lt h
  obtain ⟨h1, h2⟩ := h
  refine ⟨h1, h2.imp id fun ⟨q, cap, cur, hv, hg, hh, rr⟩ => ⟨q, cap, cur, hv, hg, ?_, rr⟩⟩
  have hq : v.ownBlock = some q := by rw [hv]; rfl
  rw [hb.block q (hlt q hq).2 (hne q hq)]
  exact hh

theorem own_type {w w' : World} {base : Nat} {e : TypeId} {size n : Nat} {v : Value} {xs : List Value} (h : w.ownsRow base e size v n xs) (hk : ∀ k cs z, k < w.heap.size → w.heap[k]? = some (.cells cs e z) → w'.heap[k]? = w.heap[k]?) : w'.ownsRow base e size v n xs := by
  have hlt := ownsRow_lt h
  obtain ⟨h1, h2⟩ := h
  refine ⟨h1, h2.imp id fun ⟨q, cap, cur, hv, hg, hh, rr⟩ => ⟨q, cap, cur, hv, hg, ?_, rr⟩⟩
  rw [hk q _ _ (hlt q (by rw [hv]; rfl)).2 hh]
  exact hh
theorem row_type {w w' : World} {base : Nat} {e e2 : TypeId} {size n : Nat} {v : Value} {xs : List Value} (h : w.ownsRow base e size v n xs) (gr : w.grownBy w' v.ownBlock) (hne : e2 ≠ e) : ∀ k cs z, k < w.heap.size → w.heap[k]? = some (.cells cs e2 z) → w'.heap[k]? = w.heap[k]? :=
  fun k cs z hk hh => gr.block k hk fun he => by
    rcases h.2 with ⟨h1, _⟩ | ⟨g, cap, cur, h1, h2, h3, _⟩
    · rw [h1] at he; cases he
    · rw [h1] at he
      injection he with he
      have he : k = g := he
      subst he
      rw [h3] at hh
      injection hh with hh
      injection hh with _ hh _
      exact hne hh.symm
section
variable {P : Program} {lo : List Oper} {S : World → Prop} {Q : Exit → Act → World → Prop}
theorem tr_store_new {i : Nat} {l : Tr} {a : Act} {o : Oper} (ho0 : lo[i]? = some o) (hgd : o.guard = none) (ty : TypeId) (x y : Operand) (ho : o.op = .store ty x y)
    {wr : World} {te : TypeId} {old cs : Array Value} {g : Nat} (hx : a.eval x = .pointer (some ⟨g, 0, none⟩)) (hg : g = wr.heap.size) (hy : a.eval y = .agg cs) (hsz : old.size = cs.size) (hi : (P.info? ty).map (·.size) = some cs.size) (h1 : cs.all (·.oneCell') = true)
    (h : S (wr.alloc (.cells cs te)) ∧ wpTr P lo.toArray S Q l (a.put o.dst undef) (wr.alloc (.cells cs te))) : wpTr P lo.toArray S Q (.one i l) a (wr.alloc (.cells old te)) := by
  subst hg
  have B := Blk.new wr te old
  refine tr_wp ho0 (by simp [Region.wanted, hgd]) (wp_store_mid ty x y ho wr.heap.size 0 cs hx hy (fun j hj => ?_) hi h1 ?_)
  · rw [Nat.zero_add, B.cell, B.frozen]
    exact ⟨by rw [Array.getElem?_eq_getElem (by omega)]; rfl, rfl⟩
  · have := setCells_alloc wr te cs.toList [] old.toList (by simpa using hsz)
    simp only [List.nil_append, List.length_nil, Array.toArray_toList] at this
    rw [this]
    exact h
theorem tr_store_blk {i : Nat} {l : Tr} {a : Act} {o : Oper} (ho0 : lo[i]? = some o) (hgd : o.guard = none) (ty : TypeId) (x y : Operand) (ho : o.op = .store ty x y)
    {w : World} {te : TypeId} {old cs : Array Value} {g off : Nat} (hx : a.eval x = .pointer (some ⟨g, off, none⟩)) (B : Blk w g te old) (hy : a.eval y = .agg cs) (hsz : off + cs.size ≤ old.size) (hi : (P.info? ty).map (·.size) = some cs.size) (h1 : cs.all (·.oneCell') = true)
    (h : ∀ w', Blk w' g te (putAll old off cs.toList) → w'.heap.size = w.heap.size → w.grownBy w' (some g) → S w' ∧ wpTr P lo.toArray S Q l (a.put o.dst undef) w') : wpTr P lo.toArray S Q (.one i l) a w := by
  refine tr_wp ho0 (by simp [Region.wanted, hgd]) (wp_store_mid ty x y ho g off cs hx hy (B.there hsz) hi h1 ?_)
  obtain ⟨h2, h3, h4⟩ := putAll_blk cs.toList off w old B
  exact h _ h2 h3 h4
end
section
variable {P : Program}
theorem run_load_at {o : Oper} {a : Act} (ty : TypeId) (x : Operand) (ad : Addr) (ho : o.op = .load ty x) (hx : a.eval x = .pointer (some ad)) {w : World} (M : Array Value) {d : TypeDesc} (hc : ∀ j v, M.toList[j]? = some v → w.cell? (ad.add j) = some v)
    (hu : P.underlying ty = some d) (hd : d.isRow = true) (hi : (P.info? ty).map (·.size) = some M.size) : (execOp a.eval o).run P w = .ok (.value (.agg M)) w := by
  have h := run_load_any_d (P := P) w ad ty M.toList d hc hu hd (by simpa using hi)
  unfold execOp
  simp only [ho, hx, Instr.loadAt, Instr.sureAddr, Sem.run_bind, Sem.run_pure, Result.andThen_ok, h]
end
end Go.Proofs.YthhlfojaloaooaaGreat
