/-
  An append of a whole slice that lies anywhere; a block's cells.
-/
import Derived.Test.YthhlfojaloaooaaGreatKitD
namespace Go.Proofs.YthhlfojaloaooaaGreat
open Go.RowKit Go.WideShapes Go.ChangeShapes

section
variable {P : Program}
theorem run_append_none (w : World) (t ty e : TypeId) (i : TypeInfo) (ht : P.underlying t = some (.slice e)) (hi : P.info? e = some i) (base : Option Addr) (sLen sCap : Nat) (hle : sLen ≤ sCap) (p : Option Addr) (c : Nat) :
    (Builtin.append_ #[t, t] ty #[.slice base sLen sCap, .slice p 0 c]).run P w = .ok (.slice base sLen sCap) w := by
  cases base <;> cases p <;> simp [Builtin.append_, run_underlying ht, sizeOf, typeInfo, hi, Builtin.lenOf, Builtin.firstCells, loadCells, loadCellsFrom, storeCells, hle]
/-- An append of all elements of a slice, wherever they lie. -/
theorem wpList_pushR {ops : Array Oper} {rest : List Oper} {o : Oper} {a : Act} {Q : Exit → Act → World → Prop} (hgd : o.guard = none) (s x : Operand) (t : TypeId)
    (ho : o.op = .call { callee := .builtin .append, args := #[s, x], argTypes := #[t, t] })
    {e : TypeId} {size bytes : Nat} (hty : SliceTy P t e size bytes) {w : World} {A : Option Addr} {q c B : Nat} {news : List Value} (hx : a.eval x = .slice A q c) (hr : Reads w B size A q news) (h1 : ∀ u ∈ news, u.oneCell' = true)
    {base : Nat} {v : Value} {n : Nat} {xs : List Value} (hs : a.eval s = v) (hown : w.ownsRow base e size v n xs)
    (hbytes : (n + q) * bytes ≤ 140737488355328) (hbase : base ≤ w.heap.size)
    (h : ∀ v' w', w'.ownsRow base e size v' (n + q) (xs ++ news) → w.grownBy w' v.ownBlock → wpList P ops Q rest (a.put o.dst v') w') : wpList P ops Q (o :: rest) a w := by
  obtain ⟨ht, j, z, hi, hz, hsz, hby, hzs, hp, hq⟩ := hty
  have hbn : n + q ≤ 140737488355328 := Nat.le_trans (Nat.le_mul_of_pos_right _ hq) hbytes
  rcases Nat.eq_zero_or_pos q with h0 | h0
  · subst h0
    have hn : news = [] := List.eq_nil_of_length_eq_zero (by rw [hr.1, Nat.zero_mul])
    subst hn
    have hrun : ∀ ty, (Builtin.append_ #[t, t] ty #[v, .slice A 0 c]).run P w = .ok v w := fun ty => by
      rcases hown.2 with ⟨rfl, rfl⟩ | ⟨g, cap, cur, rfl, _, _, hle, _⟩
      · exact run_append_none w t ty e j ht hi none 0 0 (Nat.le_refl _) A c
      · exact run_append_none w t ty e j ht hi _ n cap hle A c
    refine wpList_plain hgd fun K hK => ?_
    unfold Oper.wp execOp
    simp only [ho, resolve, invoke, builtin, Sem.run_bind, Sem.run_pure, Result.andThen_ok, List.map_toArray, List.map_cons, List.map_nil, hs, hx, hrun]
    exact hK _ _ (h v w (by simpa using hown) (grownBy_refl w _))
  · obtain ⟨ad, rfl, _, hc⟩ := hr.2 h0
    obtain ⟨v', w', hrun, h2, h3, _, _⟩ := run_append_own_at (P := P) w base t o.type e j z size bytes ht hi hz hsz hby hzs hp v n xs hown ad q c news hr.1 hc h1 (by simp only [maxLen]; omega) hbytes hbase
    refine wpList_plain hgd fun K hK => ?_
    unfold Oper.wp execOp
    simp only [ho, resolve, invoke, builtin, Sem.run_bind, Sem.run_pure, Result.andThen_ok, List.map_toArray, List.map_cons, List.map_nil, hs, hx, hrun]
    exact hK _ _ (h v' w' h2 h3)
end
theorem blk_cells {w : World} {g : Nat} {t : TypeId} {cs : Array Value} (h : Blk w g t cs) (j : Nat) (v : Value) (hv : cs.toList[j]? = some v) : w.cell? ((⟨g, 0, none⟩ : Addr).add j) = some v := by
  rw [show (⟨g, 0, none⟩ : Addr).add j = ⟨g, j, none⟩ from by by_cases hj : j = 0 <;> simp [Addr.add, hj], h.cell]
  simpa using hv
end Go.Proofs.YthhlfojaloaooaaGreat
