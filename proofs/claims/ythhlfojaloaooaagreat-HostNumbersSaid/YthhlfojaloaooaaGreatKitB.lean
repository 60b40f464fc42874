/-
  A region that draws its order, walked by a script.
-/
import Derived.Test.YthhlfojaloaooaaGreatKit
import Derived.OrdersHeld
import Derived.ChangeKeysEq
import Derived.Laws.StructEq
import Derived.Deep.MidRow
import Derived.Laws.IdiomCopy
import Derived.Laws.NewBlocks
namespace Go.Proofs.YthhlfojaloaooaaGreat
open Go.RowKit

/-! ### A region that draws its order, walked by a script: (i, true): operation i is taken first (it yields one value in every world of S, and is free); (i, false): operation i comes up alone. -/
section
variable {P : Program} {ops : Array Oper} {md : Region.Mode} {S : World → Prop} {Q : Exit → Act → World → Prop}
def scriptB (md : Region.Mode) (ops : Array Oper) (EB : Array Bool → Bool) : List (Nat × Bool) → Array Bool → Bool
  | [], listed => EB listed
  | (i, true) :: l, listed => (Region.ready md ops listed).contains i && Region.free md ops listed i && scriptB md ops EB l (listed.setIfInBounds i true)
  | (i, false) :: l, listed => decide (Region.ready md ops listed = [i]) && scriptB md ops EB l (listed.setIfInBounds i true)
def wpScript (P : Program) (ops : Array Oper) (S : World → Prop) (Q : Exit → Act → World → Prop) (E : Act → World → Prop) : List (Nat × Bool) → Act → World → Prop
  | [], a, w => E a w
  | (i, true) :: l, a, w => ∃ o v, ops[i]? = some o ∧ YieldsIf P ops S o v a ∧ wpScript P ops S Q E l (a.put o.dst v) w
  | (i, false) :: l, a, w => wpOp P ops Q i (fun a' w' => S w' ∧ wpScript P ops S Q E l a' w') a w

theorem wpAnyH_script {E : Act → World → Prop} {EB : Array Bool → Bool} {g : Nat} (hsel : Region.noSelect ops = true) (hQ : ∀ c a (d : Tmp) v w, Q (.panic c) (a.put (some d) v) w → Q (.panic c) a w)
    (hE : ∀ listed a w, EB listed = true → S w → E a w → wpAnyH P md ops Q S g listed a w) :
    ∀ (l : List (Nat × Bool)) (listed : Array Bool) (a : Act) (w : World), scriptB md ops EB l listed = true → S w → wpScript P ops S Q E l a w → wpAnyH P md ops Q S (l.length + g) listed a w
  | [], listed, a, w, hB, hS, h => by
    rw [List.length_nil, Nat.zero_add]
    exact hE listed a w hB hS h
  | (i, true) :: l, listed, a, w, hB, hS, h => by
    simp only [scriptB, Bool.and_eq_true] at hB
    obtain ⟨o, v, ho, hy, hr⟩ := h
    rw [List.length_cons, show l.length + 1 + g = (l.length + g) + 1 by omega]
    exact wpAnyH_take ho hsel hB.1.2 hB.1.1 (fun c a w => by
      cases o.dst with
      | none => exact id
      | some d => exact hQ c a d v w) hy hS (wpAnyH_script hsel hQ hE l _ _ _ hB.2 hS hr)
  | (i, false) :: l, listed, a, w, hB, hS, h => by
    simp only [scriptB, Bool.and_eq_true, decide_eq_true_eq] at hB
    rw [List.length_cons, show l.length + 1 + g = (l.length + g) + 1 by omega]
    refine wpAnyH_all hB.1 (by simp) (fun j hj => ?_)
    have hij : j = i := by simpa using hj
    subst hij
    exact wpOp_mono (fun a' w' h' => ⟨h'.1, wpAnyH_script hsel hQ hE l _ a' w' hB.2 h'.1 h'.2⟩) h

theorem wp_region_script {id : Nat} {a : Act} {w : World} {ol : List Oper} (l : List (Nat × Bool)) (S : World → Prop) (hm : P.follows .mixedOrders = true)
    (hB : (Region.noSelect ol.toArray && decide (l.length = ol.length) && scriptB .any ol.toArray (fun listed => (Region.ready .any ol.toArray listed).isEmpty) l (Array.replicate ol.length false)) = true)
    (hQ : ∀ c a (d : Tmp) v w, Q (.panic c) (a.put (some d) v) w → Q (.panic c) a w) (hS : S w.drew) (h : wpScript P ol.toArray S Q (Q .normal) l a w.drew) : (Code.region id ol.toArray true).wp P Q a w := by
  simp only [Bool.and_eq_true, decide_eq_true_eq] at hB
  refine wp_region_held (S := S) hm ?_
  have := wpAnyH_script (md := .any) (g := 0) hB.1.1 hQ (fun listed a w hB _ h => wpAnyH_done (by simpa using hB) h _) l (Array.replicate ol.length false) a w.drew hB.2 hS h
  rw [Nat.add_zero, hB.1.2] at this
  simpa using this

/-- At one point two operations may come up, each ahead of the other: both ways. -/
theorem wp_region_script2 {id : Nat} {a : Act} {w : World} {ol : List Oper} (l : List (Nat × Bool)) (i j : Nat) (la lb : List (Nat × Bool)) (S : World → Prop) (hm : P.follows .mixedOrders = true)
    (hB : (Region.noSelect ol.toArray && decide (l.length + (la.length + 1) = ol.length) && decide (la.length = lb.length) && scriptB .any ol.toArray (fun listed => decide (Region.ready .any ol.toArray listed = [i, j]) &&
      scriptB .any ol.toArray (fun listed => (Region.ready .any ol.toArray listed).isEmpty) la (listed.setIfInBounds i true) && scriptB .any ol.toArray (fun listed => (Region.ready .any ol.toArray listed).isEmpty) lb (listed.setIfInBounds j true)) l (Array.replicate ol.length false)) = true)
    (hQ : ∀ c a (d : Tmp) v w, Q (.panic c) (a.put (some d) v) w → Q (.panic c) a w) (hS : S w.drew)
    (h : wpScript P ol.toArray S Q (fun a w => wpScript P ol.toArray S Q (Q .normal) ((i, false) :: la) a w ∧ wpScript P ol.toArray S Q (Q .normal) ((j, false) :: lb) a w) l a w.drew) : (Code.region id ol.toArray true).wp P Q a w := by
  simp only [Bool.and_eq_true, decide_eq_true_eq] at hB
  obtain ⟨⟨⟨hB1, hB2⟩, hB3⟩, hB4⟩ := hB
  refine wp_region_held (S := S) hm ?_
  have := wpAnyH_script (md := .any) (g := la.length + 1) hB1 hQ (fun listed a w hB hS h => by
    simp only [Bool.and_eq_true, decide_eq_true_eq] at hB
    obtain ⟨⟨hr, hA⟩, hC⟩ := hB
    have done : ∀ listed a w, (Region.ready .any ol.toArray listed).isEmpty = true → S w → Q .normal a w → wpAnyH P .any ol.toArray Q S 0 listed a w := fun listed a w hB _ h => wpAnyH_done (by simpa using hB) h _
    refine wpAnyH_all hr (by simp) (fun k hk => ?_)
    have hk' : k = i ∨ k = j := by simpa using hk
    rcases hk' with rfl | rfl
    · exact wpOp_mono (fun a' w' h' => ⟨h'.1, wpAnyH_script (g := 0) hB1 hQ done la _ a' w' hA h'.1 h'.2⟩) h.1
    · rw [hB3]
      exact wpOp_mono (fun a' w' h' => ⟨h'.1, wpAnyH_script (g := 0) hB1 hQ done lb _ a' w' hC h'.1 h'.2⟩) h.2) l (Array.replicate ol.length false) a w.drew hB4 hS h
  rw [hB2] at this
  simpa using this

end
section
variable {P : Program} {lo : List Oper} {md : Region.Mode} {S : World → Prop} {Q : Exit → Act → World → Prop} {E : Act → World → Prop}
theorem script_nil {a : Act} {w : World} (h : E a w) : wpScript P lo.toArray S Q E [] a w := h
theorem script_take {i : Nat} {l : List (Nat × Bool)} {a : Act} {w : World} {o : Oper} {v : Value} (ho : lo[i]? = some o) (hw : Region.wanted o (yielded lo.toArray a.tmps) = true)
    (h : ∀ w, S w → (execOp a.eval o).run P w = .ok (.value v) w) (hk : wpScript P lo.toArray S Q E l (a.put o.dst v) w) : wpScript P lo.toArray S Q E ((i, true) :: l) a w :=
  ⟨o, v, by simpa using ho, .inl ⟨hw, fun w' hS => by rw [h w' hS]⟩, hk⟩
theorem script_skip {i : Nat} {l : List (Nat × Bool)} {a : Act} {w : World} {o : Oper} (ho : lo[i]? = some o) (hw : Region.wanted o (yielded lo.toArray a.tmps) = false)
    (hk : wpScript P lo.toArray S Q E l (a.put o.dst undef) w) : wpScript P lo.toArray S Q E ((i, true) :: l) a w := ⟨o, undef, by simpa using ho, .inr ⟨hw, rfl⟩, hk⟩
theorem script_skip' {i : Nat} {l : List (Nat × Bool)} {a : Act} {w : World} {o : Oper} (ho : lo[i]? = some o) (hw : Region.wanted o (yielded lo.toArray a.tmps) = false)
    (hS : S w) (hk : wpScript P lo.toArray S Q E l (a.put o.dst undef) w) : wpScript P lo.toArray S Q E ((i, false) :: l) a w := by
  show wpOp P lo.toArray Q i _ a w
  unfold wpOp
  rw [show lo.toArray[i]? = some o from by simpa using ho]
  simp only [hw, Bool.false_eq_true, if_false]
  exact ⟨hS, hk⟩
/-- Any operation that comes up alone, by its own wp. -/
theorem script_wp {i : Nat} {l : List (Nat × Bool)} {a : Act} {w : World} {o : Oper} (ho : lo[i]? = some o) (hw : Region.wanted o (yielded lo.toArray a.tmps) = true)
    (h : o.wp P a w (fun a' w' => S w' ∧ wpScript P lo.toArray S Q E l a' w') Q) : wpScript P lo.toArray S Q E ((i, false) :: l) a w := by
  show wpOp P lo.toArray Q i _ a w
  unfold wpOp
  rw [show lo.toArray[i]? = some o from by simpa using ho]
  simp only [hw, if_true]
  exact .inl h
/-- One that makes memory, or writes: its run written out. -/
theorem script_run {i : Nat} {l : List (Nat × Bool)} {a : Act} {w w' : World} {o : Oper} {v : Value} (ho : lo[i]? = some o) (hw : Region.wanted o (yielded lo.toArray a.tmps) = true)
    (h : (execOp a.eval o).run P w = .ok (.value v) w') (hS : S w') (hk : wpScript P lo.toArray S Q E l (a.put o.dst v) w') : wpScript P lo.toArray S Q E ((i, false) :: l) a w := by
  refine script_wp ho hw ?_
  unfold Oper.wp
  rw [h]
  exact ⟨hS, hk⟩
theorem script_run0 {i : Nat} {l : List (Nat × Bool)} {a : Act} {w w' : World} {o : Oper} (ho : lo[i]? = some o) (hw : Region.wanted o (yielded lo.toArray a.tmps) = true)
    (h : (execOp a.eval o).run P w = .ok .skip w') (hS : S w') (hk : wpScript P lo.toArray S Q E l (a.put o.dst undef) w') : wpScript P lo.toArray S Q E ((i, false) :: l) a w := by
  refine script_wp ho hw ?_
  unfold Oper.wp
  rw [h]
  exact ⟨hS, hk⟩
/-- A call. -/
theorem script_call {i : Nat} {l : List (Nat × Bool)} {a : Act} {w : World} {o : Oper} (f : FuncId) (args : Array Value) (ho : lo[i]? = some o) (hw : Region.wanted o (yielded lo.toArray a.tmps) = true)
    (h : (execOp a.eval o).run P w = .ok (.enter f args) w) (hc : Calls P f args w fun e w' => ∃ v, e = .returned v ∧ S w' ∧ wpScript P lo.toArray S Q E l (a.put o.dst v) w') : wpScript P lo.toArray S Q E ((i, false) :: l) a w := by
  refine script_wp ho hw ?_
  unfold Oper.wp
  rw [h]
  show Calls P f args w _
  refine hc.mono fun e w' hh => ?_
  obtain ⟨v, rfl, hS, hk⟩ := hh
  exact ⟨hS, hk⟩
/-- append of one element that lies in the block made just before. -/
theorem script_push {i : Nat} {l : List (Nat × Bool)} {a : Act} {o : Oper} (ho0 : lo[i]? = some o) (hgd : o.guard = none) (s x : Operand) (t : TypeId)
    (ho : o.op = .call { callee := .builtin .append, args := #[s, x], argTypes := #[t, t] })
    {e : TypeId} {size bytes : Nat} (hty : SliceTy P t e size bytes) {wr : World} {cs : Array Value} (hcs : cs.size = size) (h1 : ∀ u ∈ cs.toList, u.oneCell' = true)
    {base : Nat} {v : Value} {n : Nat} {xs : List Value} (hs : a.eval s = v) (hown : wr.ownsRow base e size v n xs) {g : Nat} (hx : a.eval x = .slice (some ⟨g, 0, none⟩) 1 1) (hg : g = wr.heap.size)
    (hbytes : (n + 1) * bytes ≤ 140737488355328) (hbase : base ≤ wr.heap.size)
    (h : ∀ v' w', w'.ownsRow base e size v' (n + 1) (xs ++ cs.toList) → Below base wr w' → (wr.alloc (.cells cs e)).grownBy w' v.ownBlock → S w' ∧ wpScript P lo.toArray S Q E l (a.put o.dst v') w') : wpScript P lo.toArray S Q E ((i, false) :: l) a (wr.alloc (.cells cs e)) := by
  subst hg
  obtain ⟨ht, j, z, hi, hz, hsz, hby, hzs, hp, hq⟩ := hty
  have hbn : n + 1 ≤ 140737488355328 := Nat.le_trans (Nat.le_mul_of_pos_right _ hq) hbytes
  refine script_wp ho0 (by simp [Region.wanted, hgd]) ?_
  refine wp_append_own _ s x t ho base e j z size bytes ht hi hz hsz hby hzs hp v n xs hs (hown.alloc _) ⟨wr.heap.size, 0, none⟩ 1 1 cs.toList hx (by simpa using hcs) (fun j u hu => ?_) h1
    (by simp only [maxLen]; omega) hbytes (by simp; omega) (fun v' w' ho' hg _ => h v' w' ho' ?_ hg)
  · rw [cell?_new]
    simpa using hu
  · refine ((Below.refl _ _).alloc hbase _).grown hg (by simp; omega) (fun k hk => ?_)
    exact (ownsRow_lt hown k hk).1
end

/-! ### '==' and '!=' on arrays of integers -/
section
variable {P : Program}
theorem all_range_eq {as bs : List Int} {n : Nat} (h1 : as.length = n) (h2 : bs.length = n) : ((List.range n).all fun i => as[i]? == bs[i]?) = (as == bs) := by
  rw [Bool.eq_iff_iff]
  simp only [List.all_eq_true, List.mem_range, beq_iff_eq]
  constructor
  · intro h
    apply List.ext_getElem?
    intro i
    by_cases hi : i < n
    · exact h i hi
    · rw [List.getElem?_eq_none (by omega), List.getElem?_eq_none (by omega)]
  · rintro rfl i _; rfl
theorem run_eqItems_ints (w : World) (d : Nat) {e : TypeId} {k : IntKind} (he : P.underlying e = some (.int k)) {as bs : List Int} : ∀ (is : List Nat), (∀ i ∈ is, i < as.length ∧ i < bs.length) →
    (Op.eqItems (d + 1) e 1 (as.map (Value.int k)).toArray (bs.map (Value.int k)).toArray is).run P w = .ok (is.all fun i => as[i]? == bs[i]?) w
  | [], _ => by simp [Op.eqItems]
  | i :: is, h => by
    obtain ⟨ha, hb⟩ := h i (by simp)
    have hp : P.plainKey e = true := by unfold Program.plainKey; rw [he]
    have ea : as[i]? = some as[i] := List.getElem?_eq_getElem ha
    have eb : bs[i]? = some bs[i] := List.getElem?_eq_getElem hb
    have p1 := run_part_plain (P := P) w hp (xs := (as.map (Value.int k)).toArray) (off := i) (v := .int k as[i]) (by simp [ea])
    have p2 := run_part_plain (P := P) w hp (xs := (bs.map (Value.int k)).toArray) (off := i) (v := .int k bs[i]) (by simp [eb])
    have p3 := run_equalIn_int (P := P) w d e k k as[i] bs[i] he
    have ih := run_eqItems_ints w d he is (fun j hj => h j (by simp [hj]))
    simp only [Op.eqItems, Nat.mul_one, Sem.run_bind, p1, p2, p3, Result.andThen_ok]
    rw [List.all_cons, ea, eb]
    by_cases hx : as[i] = bs[i]
    · simp [hx, ih]
    · simp [hx]
theorem run_neq_arr {t e : TypeId} {n : Nat} {k : IntKind} (hu : P.underlying t = some (.array n e)) (he : P.underlying e = some (.int k)) (hc : P.cellsOf e = 1) (as bs : List Int) (h1 : as.length = n) (h2 : bs.length = n) (w : World) :
    (binOp .neq t (.agg (as.map (Value.int k)).toArray) (.agg (bs.map (Value.int k)).toArray)).run P w = .ok (.bool (!(as == bs))) w := by
  obtain ⟨i, hi⟩ := info_of_underlying he
  rw [run_neq_struct, run_equalIn_array w 9999 _ _ hu hi, hc, run_eqItems_ints w 9998 he _ (fun i hi => by rw [h1, h2]; simpa using hi), all_range_eq h1 h2]
  rfl
theorem run_eql_arr {t e : TypeId} {n : Nat} {k : IntKind} (hu : P.underlying t = some (.array n e)) (he : P.underlying e = some (.int k)) (hc : P.cellsOf e = 1) (as bs : List Int) (h1 : as.length = n) (h2 : bs.length = n) (w : World) :
    (binOp .eql t (.agg (as.map (Value.int k)).toArray) (.agg (bs.map (Value.int k)).toArray)).run P w = .ok (.bool (as == bs)) w := by
  obtain ⟨i, hi⟩ := info_of_underlying he
  rw [run_eql_struct, run_equalIn_array w 9999 _ _ hu hi, hc, run_eqItems_ints w 9998 he _ (fun i hi => by rw [h1, h2]; simpa using hi), all_range_eq h1 h2]
  rfl
end

/-! ### append of several elements that lie in the block made just before -/
section
variable {P : Program}
theorem wpList_pushes {ops : Array Oper} {rest : List Oper} {o : Oper} {a : Act} {Q : Exit → Act → World → Prop} (q : Nat) (hgd : o.guard = none) (s x : Operand) (t : TypeId)
    (ho : o.op = .call { callee := .builtin .append, args := #[s, x], argTypes := #[t, t] })
    {e : TypeId} {size bytes : Nat} (hty : SliceTy P t e size bytes) {wr : World} {cs : Array Value} (hcs : cs.size = q * size) (h1 : ∀ u ∈ cs.toList, u.oneCell' = true)
    {base : Nat} {v : Value} {n : Nat} {xs : List Value} (hs : a.eval s = v) (hown : wr.ownsRow base e size v n xs) {g : Nat} (hx : a.eval x = .slice (some ⟨g, 0, none⟩) q q) (hg : g = wr.heap.size)
    (hbytes : (n + q) * bytes ≤ 140737488355328) (hbase : base ≤ wr.heap.size)
    (h : ∀ v' w', w'.ownsRow base e size v' (n + q) (xs ++ cs.toList) → Below base wr w' → wpList P ops Q rest (a.put o.dst v') w') : wpList P ops Q (o :: rest) a (wr.alloc (.cells cs e)) := by
  subst hg
  obtain ⟨ht, i, z, hi, hz, hsz, hby, hzs, hp, hq⟩ := hty
  have hbn : n + q ≤ 140737488355328 := Nat.le_trans (Nat.le_mul_of_pos_right _ hq) hbytes
  refine wpList_append_own _ hgd s x t ho base e i z size bytes ht hi hz hsz hby hzs hp v n xs hs (hown.alloc _) ⟨wr.heap.size, 0, none⟩ q q cs.toList hx (by simpa using hcs) (fun j u hu => ?_) h1
    (by simp only [maxLen]; omega) hbytes (by simp; omega) (fun v' w' ho' hg _ => h v' w' ho' ?_)
  · rw [cell?_new]
    simpa using hu
  · refine ((Below.refl _ _).alloc hbase _).grown hg (by simp; omega) (fun k hk => ?_)
    exact (ownsRow_lt hown k hk).1
end
section
variable {P : Program} {lo : List Oper} {S : World → Prop} {Q : Exit → Act → World → Prop} {E : Act → World → Prop}
theorem script_pushes {i : Nat} {l : List (Nat × Bool)} {a : Act} {o : Oper} (q : Nat) (ho0 : lo[i]? = some o) (hgd : o.guard = none) (s x : Operand) (t : TypeId)
    (ho : o.op = .call { callee := .builtin .append, args := #[s, x], argTypes := #[t, t] })
    {e : TypeId} {size bytes : Nat} (hty : SliceTy P t e size bytes) {wr : World} {cs : Array Value} (hcs : cs.size = q * size) (h1 : ∀ u ∈ cs.toList, u.oneCell' = true)
    {base : Nat} {v : Value} {n : Nat} {xs : List Value} (hs : a.eval s = v) (hown : wr.ownsRow base e size v n xs) {g : Nat} (hx : a.eval x = .slice (some ⟨g, 0, none⟩) q q) (hg : g = wr.heap.size)
    (hbytes : (n + q) * bytes ≤ 140737488355328) (hbase : base ≤ wr.heap.size)
    (h : ∀ v' w', w'.ownsRow base e size v' (n + q) (xs ++ cs.toList) → Below base wr w' → (wr.alloc (.cells cs e)).grownBy w' v.ownBlock → S w' ∧ wpScript P lo.toArray S Q E l (a.put o.dst v') w') : wpScript P lo.toArray S Q E ((i, false) :: l) a (wr.alloc (.cells cs e)) := by
  subst hg
  obtain ⟨ht, j, z, hi, hz, hsz, hby, hzs, hp, hq⟩ := hty
  have hbn : n + q ≤ 140737488355328 := Nat.le_trans (Nat.le_mul_of_pos_right _ hq) hbytes
  refine script_wp ho0 (by simp [Region.wanted, hgd]) ?_
  refine wp_append_own _ s x t ho base e j z size bytes ht hi hz hsz hby hzs hp v n xs hs (hown.alloc _) ⟨wr.heap.size, 0, none⟩ q q cs.toList hx (by simpa using hcs) (fun j u hu => ?_) h1
    (by simp only [maxLen]; omega) hbytes (by simp; omega) (fun v' w' ho' hg _ => h v' w' ho' ?_ hg)
  · rw [cell?_new]
    simpa using hu
  · refine ((Below.refl _ _).alloc hbase _).grown hg (by simp; omega) (fun k hk => ?_)
    exact (ownsRow_lt hown k hk).1
end

theorem ownsRow_base {w : World} {B B' : Nat} {e : TypeId} {size n : Nat} {v : Value} {xs : List Value} (h : w.ownsRow B e size v n xs) (hB : B' ≤ B) : w.ownsRow B' e size v n xs :=
  ⟨h.1, h.2.imp id (fun ⟨g, cap, cur, h1, h2, h3⟩ => ⟨g, cap, cur, h1, Nat.le_trans hB h2, h3⟩)⟩

section
variable {P : Program} {lo : List Oper} {S : World → Prop} {Q : Exit → Act → World → Prop} {E : Act → World → Prop}
/-- append of several elements that lie in a block that is known whole, made whenever. -/
theorem script_pushes_at {i : Nat} {l : List (Nat × Bool)} {a : Act} {o : Oper} (q : Nat) (ho0 : lo[i]? = some o) (hgd : o.guard = none) (s x : Operand) (t : TypeId)
    (ho : o.op = .call { callee := .builtin .append, args := #[s, x], argTypes := #[t, t] })
    {e : TypeId} {size bytes : Nat} (hty : SliceTy P t e size bytes) {wr : World} {cs : Array Value} (hcs : cs.size = q * size) (h1 : ∀ u ∈ cs.toList, u.oneCell' = true)
    {base : Nat} {v : Value} {n : Nat} {xs : List Value} (hs : a.eval s = v) (hown : wr.ownsRow base e size v n xs) {g : Nat} (hx : a.eval x = .slice (some ⟨g, 0, none⟩) q q) {te : TypeId} (hblk : Blk wr g te cs)
    (hbytes : (n + q) * bytes ≤ 140737488355328) (hbase : base ≤ wr.heap.size)
    (h : ∀ v' w', w'.ownsRow base e size v' (n + q) (xs ++ cs.toList) → Below base wr w' → wr.grownBy w' v.ownBlock → S w' ∧ wpScript P lo.toArray S Q E l (a.put o.dst v') w') : wpScript P lo.toArray S Q E ((i, false) :: l) a wr := by
  obtain ⟨ht, j, z, hi, hz, hsz, hby, hzs, hp, hq⟩ := hty
  have hbn : n + q ≤ 140737488355328 := Nat.le_trans (Nat.le_mul_of_pos_right _ hq) hbytes
  refine script_wp ho0 (by simp [Region.wanted, hgd]) ?_
  refine wp_append_own _ s x t ho base e j z size bytes ht hi hz hsz hby hzs hp v n xs hs hown ⟨g, 0, none⟩ q q cs.toList hx (by simpa using hcs) (fun j u hu => ?_) h1
    (by simp only [maxLen]; omega) hbytes hbase (fun v' w' ho' hg _ => h v' w' ho' ?_ hg)
  · have ha : (⟨g, 0, none⟩ : Addr).add j = ⟨g, j, none⟩ := by
      by_cases hj : j = 0 <;> simp [Addr.add, hj]
    rw [ha, hblk.cell]
    simpa using hu
  · refine (Below.refl _ _).grown hg hbase (fun k hk => ?_)
    exact (ownsRow_lt hown k hk).1
end

/-! ### append, with all that it leaves as it was -/
def Moved (w : World) (v v' : Value) : Prop := v'.ownBlock = v.ownBlock ∨ ∃ g, v'.ownBlock = some g ∧ w.heap.size ≤ g
theorem Moved.refl (w : World) (v : Value) : Moved w v v := .inl rfl
theorem Moved.trans {w w' : World} {v v' v'' : Value} (h : Moved w v v') (h' : Moved w' v' v'') (hz : w.heap.size ≤ w'.heap.size) : Moved w v v'' := by
  rcases h' with h' | ⟨g, h1, h2⟩
  · rcases h with h | ⟨g, h1, h2⟩
    · exact .inl (h'.trans h)
    · exact .inr ⟨g, h'.trans h1, h2⟩
  · exact .inr ⟨g, h1, by omega⟩
theorem grownBy_refl (w : World) (r : Option Nat) : w.grownBy w r := ⟨rfl, rfl, rfl, Nat.le_refl _, fun _ _ _ => rfl⟩
theorem grownBy_trans {w w' w'' : World} {v v' : Value} (h : w.grownBy w' v.ownBlock) (h' : w'.grownBy w'' v'.ownBlock) (hm : Moved w v v') : w.grownBy w'' v.ownBlock :=
  ⟨h'.os.trans h.os, h'.tape.trans h.tape, h'.output.trans h.output, Nat.le_trans h.size h'.size, fun k hk hne => by
    refine (h'.block k (by have := h.size; omega) ?_).trans (h.block k hk hne)
    rcases hm with hm | ⟨g, h1, h2⟩
    · rw [hm]; exact hne
    · rw [h1]; intro he; simp at he; omega⟩
theorem grownBy_of_alloc {w w' : World} {o : Obj} {r : Option Nat} (h : (w.alloc o).grownBy w' r) : w.grownBy w' r :=
  ⟨h.os, h.tape, h.output, by have := h.size; simp at this; omega, fun k hk hne => (h.block k (by simp; omega) hne).trans (Below.heap_alloc w o k hk)⟩
section
variable {P : Program}
theorem wpList_pushG {ops : Array Oper} {rest : List Oper} {o : Oper} {a : Act} {Q : Exit → Act → World → Prop} (q : Nat) (hgd : o.guard = none) (s x : Operand) (t : TypeId)
    (ho : o.op = .call { callee := .builtin .append, args := #[s, x], argTypes := #[t, t] })
    {e : TypeId} {size bytes : Nat} (hty : SliceTy P t e size bytes) {wr : World} {cs : Array Value} (hcs : cs.size = q * size) (h1 : ∀ u ∈ cs.toList, u.oneCell' = true)
    {base : Nat} {v : Value} {n : Nat} {xs : List Value} (hs : a.eval s = v) (hown : wr.ownsRow base e size v n xs) {g : Nat} (hx : a.eval x = .slice (some ⟨g, 0, none⟩) q q) (hg : g = wr.heap.size)
    (hbytes : (n + q) * bytes ≤ 140737488355328) (hbase : base ≤ wr.heap.size)
    (h : ∀ v' w', w'.ownsRow base e size v' (n + q) (xs ++ cs.toList) → wr.grownBy w' v.ownBlock → Moved wr v v' → wpList P ops Q rest (a.put o.dst v') w') : wpList P ops Q (o :: rest) a (wr.alloc (.cells cs e)) := by
  subst hg
  obtain ⟨ht, i, z, hi, hz, hsz, hby, hzs, hp, hq⟩ := hty
  have hbn : n + q ≤ 140737488355328 := Nat.le_trans (Nat.le_mul_of_pos_right _ hq) hbytes
  refine wpList_append_own_at _ hgd s x t ho base e i z size bytes ht hi hz hsz hby hzs hp v n xs hs (hown.alloc _) ⟨wr.heap.size, 0, none⟩ q q cs.toList hx (by simpa using hcs) (fun j u hu => ?_) h1
    (by simp only [maxLen]; omega) hbytes (by simp; omega) (fun v' w' ho' hg _ hm => h v' w' ho' (grownBy_of_alloc hg) ?_)
  · rw [cell?_new]
    simpa using hu
  · rcases hm with hm | hm
    · exact .inl hm
    · exact .inr ⟨_, hm, by simp⟩
theorem below_of_grown {w w' : World} {base : Nat} {e : TypeId} {size n : Nat} {v : Value} {xs : List Value} (h : w.grownBy w' v.ownBlock) (hown : w.ownsRow base e size v n xs) (hB : base ≤ w.heap.size) : Below base w w' :=
  (Below.refl _ _).grown h hB (fun k hk => (ownsRow_lt hown k hk).1)
end

/-! ### A whole struct copied into a new box, and loaded from a box that is known whole -/
theorem setCells_alloc (w : World) (t : TypeId) : ∀ (vs pre old : List Value), old.length = vs.length → (w.alloc (.cells (pre ++ old).toArray t)).setCells w.heap.size pre.length vs = w.alloc (.cells (pre ++ vs).toArray t)
  | [], pre, old, h => by
    have : old = [] := List.eq_nil_of_length_eq_zero h
    subst this
    rfl
  | v :: vs, pre, [], h => by simp at h
  | v :: vs, pre, u :: old, h => by
    rw [World.setCells, World.setCell_alloc_at _ _ _ _ _ rfl]
    have e : (pre ++ u :: old).toArray.setIfInBounds pre.length v = ((pre ++ [v]) ++ old).toArray := by simp
    rw [e]
    have h2 := setCells_alloc w t vs (pre ++ [v]) old (by simpa using h)
    simpa using h2
section
variable {P : Program}
theorem wpList_store_new {ops : Array Oper} {rest : List Oper} {o : Oper} {a : Act} {Q : Exit → Act → World → Prop} (hgd : o.guard = none) (ty : TypeId) (x y : Operand) (ho : o.op = .store ty x y)
    {wr : World} {te : TypeId} {old cs : Array Value} {g : Nat} (hx : a.eval x = .pointer (some ⟨g, 0, none⟩)) (hg : g = wr.heap.size) (hy : a.eval y = .agg cs) (hsz : old.size = cs.size) (hi : (P.info? ty).map (·.size) = some cs.size) (h1 : cs.all (·.oneCell') = true)
    (h : wpList P ops Q rest (a.put o.dst undef) (wr.alloc (.cells cs te))) : wpList P ops Q (o :: rest) a (wr.alloc (.cells old te)) := by
  subst hg
  have B := Blk.new wr te old
  refine wpList_store_mid hgd ty x y ho wr.heap.size 0 cs hx hy (fun j hj => ?_) hi h1 ?_
  · rw [Nat.zero_add, B.cell, B.frozen]
    exact ⟨by rw [Array.getElem?_eq_getElem (by omega)]; rfl, rfl⟩
  · have := setCells_alloc wr te cs.toList [] old.toList (by simpa using hsz)
    simp only [List.nil_append, List.length_nil, Array.toArray_toList] at this
    rw [this]
    exact h
end
section
variable {P : Program}
/-- A whole struct loaded where its operation is wanted (guarded or not). -/
theorem wpList_load_row_g {ops : Array Oper} {rest : List Oper} {o : Oper} {a : Act} {w : World} {Q : Exit → Act → World → Prop} (hw : Region.wanted o (yielded ops a.tmps) = true) (ty : TypeId) (x : Operand) (ho : o.op = .load ty x)
    (g : Nat) (hx : a.eval x = .pointer (some ⟨g, 0, none⟩)) (t : TypeId) (cs : Array Value) (fr : Nat × Nat) (d : TypeDesc) (hg : w.heap[g]? = some (.cells cs t fr))
    (hu : P.underlying ty = some d) (hd : (match d with | .struct _ | .array _ _ => true | _ => false) = true) (hi : (P.info? ty).map (·.size) = some cs.size)
    (h : wpList P ops Q rest (a.put o.dst (.agg cs)) w) : wpList P ops Q (o :: rest) a w := by
  unfold wpList
  rw [if_pos hw]
  exact .inl (wp_load_row ty x ho g hx t cs fr d hg hu hd hi h)
theorem Blk.cellOf {w : World} {g : Nat} {t : TypeId} {cs : Array Value} (h : Blk w g t cs) (i : Nat) {v : Value} (hv : cs[i]? = some v) : w.cell? ⟨g, i, none⟩ = some v := by rw [h.cell, hv]
end

end Go.Proofs.YthhlfojaloaooaaGreat
