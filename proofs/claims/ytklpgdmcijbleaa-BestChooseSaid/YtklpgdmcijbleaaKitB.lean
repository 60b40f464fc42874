/-
  A region that draws its order, walked by a script.
-/
import Derived.Test.YtklpgdmcijbleaaKit
import Derived.OrdersHeld
import Derived.ChangeKeysEq
import Derived.Laws.StructEq
namespace Go.Proofs.Ytklpgdmcijbleaa
open Go.RowKit

/-! ### A region that draws its order, walked by a script: (i, true): operation i is taken first (it yields one value in every world of S, and is free); (i, false): operation i comes up alone. -/
section
variable {P : Program} {ops : Array Oper} {md : Region.Mode} {S : World → Prop} {Q : Exit → Act → World → Prop}
def scriptB (md : Region.Mode) (ops : Array Oper) : List (Nat × Bool) → Array Bool → Bool
  | [], listed => (Region.ready md ops listed).isEmpty
  | (i, true) :: l, listed => (Region.ready md ops listed).contains i && Region.free md ops listed i && scriptB md ops l (listed.setIfInBounds i true)
  | (i, false) :: l, listed => decide (Region.ready md ops listed = [i]) && scriptB md ops l (listed.setIfInBounds i true)
def wpScript (P : Program) (ops : Array Oper) (S : World → Prop) (Q : Exit → Act → World → Prop) : List (Nat × Bool) → Act → World → Prop
  | [], a, w => Q .normal a w
  | (i, true) :: l, a, w => ∃ o v, ops[i]? = some o ∧ YieldsIf P ops S o v a ∧ wpScript P ops S Q l (a.put o.dst v) w
  | (i, false) :: l, a, w => wpOp P ops Q i (fun a' w' => S w' ∧ wpScript P ops S Q l a' w') a w

theorem wpAnyH_script (hsel : Region.noSelect ops = true) (hQ : ∀ c a (d : Tmp) v w, Q (.panic c) (a.put (some d) v) w → Q (.panic c) a w) :
    ∀ (l : List (Nat × Bool)) (listed : Array Bool) (a : Act) (w : World), scriptB md ops l listed = true → S w → wpScript P ops S Q l a w → wpAnyH P md ops Q S l.length listed a w
  | [], listed, a, w, hB, _, h => wpAnyH_done (by simpa [scriptB] using hB) h _
  | (i, true) :: l, listed, a, w, hB, hS, h => by
    simp only [scriptB, Bool.and_eq_true] at hB
    obtain ⟨o, v, ho, hy, hr⟩ := h
    exact wpAnyH_take ho hsel hB.1.2 hB.1.1 (fun c a w => by
      cases o.dst with
      | none => exact id
      | some d => exact hQ c a d v w) hy hS (wpAnyH_script hsel hQ l _ _ _ hB.2 hS hr)
  | (i, false) :: l, listed, a, w, hB, hS, h => by
    simp only [scriptB, Bool.and_eq_true, decide_eq_true_eq] at hB
    refine wpAnyH_all hB.1 (by simp) (fun j hj => ?_)
    have hij : j = i := by simpa using hj
    subst hij
    exact wpOp_mono (fun a' w' h' => ⟨h'.1, wpAnyH_script hsel hQ l _ a' w' hB.2 h'.1 h'.2⟩) h

theorem wp_region_script {id : Nat} {a : Act} {w : World} {ol : List Oper} (l : List (Nat × Bool)) (S : World → Prop) (hm : P.follows .mixedOrders = true)
    (hB : (Region.noSelect ol.toArray && decide (l.length = ol.length) && scriptB .any ol.toArray l (Array.replicate ol.length false)) = true)
    (hQ : ∀ c a (d : Tmp) v w, Q (.panic c) (a.put (some d) v) w → Q (.panic c) a w) (hS : S w.drew) (h : wpScript P ol.toArray S Q l a w.drew) : (Code.region id ol.toArray true).wp P Q a w := by
  simp only [Bool.and_eq_true, decide_eq_true_eq] at hB
  refine wp_region_held (S := S) hm ?_
  have := wpAnyH_script (md := .any) hB.1.1 hQ l (Array.replicate ol.length false) a w.drew hB.2 hS h
  rw [hB.1.2] at this
  simpa using this

end
section
variable {P : Program} {lo : List Oper} {md : Region.Mode} {S : World → Prop} {Q : Exit → Act → World → Prop}
theorem script_nil {a : Act} {w : World} (h : Q .normal a w) : wpScript P lo.toArray S Q [] a w := h
theorem script_take {i : Nat} {l : List (Nat × Bool)} {a : Act} {w : World} {o : Oper} {v : Value} (ho : lo[i]? = some o) (hw : Region.wanted o (yielded lo.toArray a.tmps) = true)
    (h : ∀ w, S w → (execOp a.eval o).run P w = .ok (.value v) w) (hk : wpScript P lo.toArray S Q l (a.put o.dst v) w) : wpScript P lo.toArray S Q ((i, true) :: l) a w :=
  ⟨o, v, by simpa using ho, .inl ⟨hw, fun w' hS => by rw [h w' hS]⟩, hk⟩
theorem script_skip {i : Nat} {l : List (Nat × Bool)} {a : Act} {w : World} {o : Oper} (ho : lo[i]? = some o) (hw : Region.wanted o (yielded lo.toArray a.tmps) = false)
    (hk : wpScript P lo.toArray S Q l (a.put o.dst undef) w) : wpScript P lo.toArray S Q ((i, true) :: l) a w := ⟨o, undef, by simpa using ho, .inr ⟨hw, rfl⟩, hk⟩
theorem script_skip' {i : Nat} {l : List (Nat × Bool)} {a : Act} {w : World} {o : Oper} (ho : lo[i]? = some o) (hw : Region.wanted o (yielded lo.toArray a.tmps) = false)
    (hS : S w) (hk : wpScript P lo.toArray S Q l (a.put o.dst undef) w) : wpScript P lo.toArray S Q ((i, false) :: l) a w := by
  show wpOp P lo.toArray Q i _ a w
  unfold wpOp
  rw [show lo.toArray[i]? = some o from by simpa using ho]
  simp only [hw, Bool.false_eq_true, if_false]
  exact ⟨hS, hk⟩
/-- Any operation that comes up alone, by its own wp. -/
theorem script_wp {i : Nat} {l : List (Nat × Bool)} {a : Act} {w : World} {o : Oper} (ho : lo[i]? = some o) (hw : Region.wanted o (yielded lo.toArray a.tmps) = true)
    (h : o.wp P a w (fun a' w' => S w' ∧ wpScript P lo.toArray S Q l a' w') Q) : wpScript P lo.toArray S Q ((i, false) :: l) a w := by
  show wpOp P lo.toArray Q i _ a w
  unfold wpOp
  rw [show lo.toArray[i]? = some o from by simpa using ho]
  simp only [hw, if_true]
  exact .inl h
/-- One that makes memory, or writes: its run written out. -/
theorem script_run {i : Nat} {l : List (Nat × Bool)} {a : Act} {w w' : World} {o : Oper} {v : Value} (ho : lo[i]? = some o) (hw : Region.wanted o (yielded lo.toArray a.tmps) = true)
    (h : (execOp a.eval o).run P w = .ok (.value v) w') (hS : S w') (hk : wpScript P lo.toArray S Q l (a.put o.dst v) w') : wpScript P lo.toArray S Q ((i, false) :: l) a w := by
  refine script_wp ho hw ?_
  unfold Oper.wp
  rw [h]
  exact ⟨hS, hk⟩
theorem script_run0 {i : Nat} {l : List (Nat × Bool)} {a : Act} {w w' : World} {o : Oper} (ho : lo[i]? = some o) (hw : Region.wanted o (yielded lo.toArray a.tmps) = true)
    (h : (execOp a.eval o).run P w = .ok .skip w') (hS : S w') (hk : wpScript P lo.toArray S Q l (a.put o.dst undef) w') : wpScript P lo.toArray S Q ((i, false) :: l) a w := by
  refine script_wp ho hw ?_
  unfold Oper.wp
  rw [h]
  exact ⟨hS, hk⟩
/-- A call. -/
theorem script_call {i : Nat} {l : List (Nat × Bool)} {a : Act} {w : World} {o : Oper} (f : FuncId) (args : Array Value) (ho : lo[i]? = some o) (hw : Region.wanted o (yielded lo.toArray a.tmps) = true)
    (h : (execOp a.eval o).run P w = .ok (.enter f args) w) (hc : Calls P f args w fun e w' => ∃ v, e = .returned v ∧ S w' ∧ wpScript P lo.toArray S Q l (a.put o.dst v) w') : wpScript P lo.toArray S Q ((i, false) :: l) a w := by
  refine script_wp ho hw ?_
  unfold Oper.wp
  rw [h]
  show Calls P f args w _
  refine hc.mono fun e w' hh => ?_
  obtain ⟨v, rfl, hS, hk⟩ := hh
  exact ⟨hS, hk⟩
/-- append of one element that lies in the block made just before. -/
theorem script_push {i : Nat} {l : List (Nat × Bool)} {a : Act} {o : Oper} (ho0 : lo[i]? = some o) (hgd : o.guard = none) (s x : Operand) (t : TypeId)
    (ho : o.op = .call { callee := .builtin .append, args := #[s, x], argTypes := #[t, t] })
    {e : TypeId} {size bytes : Nat} (hty : SliceTy P t e size bytes) {wr : World} {cs : Array Value} (hcs : cs.size = size) (h1 : ∀ u ∈ cs.toList, u.oneCell' = true)
    {base : Nat} {v : Value} {n : Nat} {xs : List Value} (hs : a.eval s = v) (hown : wr.ownsRow base e size v n xs) {g : Nat} (hx : a.eval x = .slice (some ⟨g, 0, none⟩) 1 1) (hg : g = wr.heap.size)
    (hbytes : (n + 1) * bytes ≤ 140737488355328) (hbase : base ≤ wr.heap.size)
    (h : ∀ v' w', w'.ownsRow base e size v' (n + 1) (xs ++ cs.toList) → Below base wr w' → (wr.alloc (.cells cs e)).grownBy w' v.ownBlock → S w' ∧ wpScript P lo.toArray S Q l (a.put o.dst v') w') : wpScript P lo.toArray S Q ((i, false) :: l) a (wr.alloc (.cells cs e)) := by
  subst hg
  obtain ⟨ht, j, z, hi, hz, hsz, hby, hzs, hp, hq⟩ := hty
  have hbn : n + 1 ≤ 140737488355328 := Nat.le_trans (Nat.le_mul_of_pos_right _ hq) hbytes
  refine script_wp ho0 (by simp [Region.wanted, hgd]) ?_
  refine wp_append_own _ s x t ho base e j z size bytes ht hi hz hsz hby hzs hp v n xs hs (hown.alloc _) ⟨wr.heap.size, 0, none⟩ 1 1 cs.toList hx (by simpa using hcs) (fun j u hu => ?_) h1
    (by simp only [maxLen]; omega) hbytes (by simp; omega) (fun v' w' ho' hg _ => h v' w' ho' ?_ hg)
  · rw [cell?_new]
    simpa using hu
  · refine ((Below.refl _ _).alloc hbase _).grown hg (by simp; omega) (fun k hk => ?_)
    exact (ownsRow_lt hown k hk).1
end

/-! ### '==' and '!=' on arrays of integers -/
section
variable {P : Program}
theorem all_range_eq {as bs : List Int} {n : Nat} (h1 : as.length = n) (h2 : bs.length = n) : ((List.range n).all fun i => as[i]? == bs[i]?) = (as == bs) := by
  rw [Bool.eq_iff_iff]
  simp only [List.all_eq_true, List.mem_range, beq_iff_eq]
  constructor
  · intro h
    apply List.ext_getElem?
    intro i
    by_cases hi : i < n
    · exact h i hi
    · rw [List.getElem?_eq_none (by omega), List.getElem?_eq_none (by omega)]
  · rintro rfl i _; rfl
theorem run_eqItems_ints (w : World) (d : Nat) {e : TypeId} {k : IntKind} (he : P.underlying e = some (.int k)) {as bs : List Int} : ∀ (is : List Nat), (∀ i ∈ is, i < as.length ∧ i < bs.length) →
    (Op.eqItems (d + 1) e 1 (as.map (Value.int k)).toArray (bs.map (Value.int k)).toArray is).run P w = .ok (is.all fun i => as[i]? == bs[i]?) w
  | [], _ => by simp [Op.eqItems]
  | i :: is, h => by
    obtain ⟨ha, hb⟩ := h i (by simp)
    have hp : P.plainKey e = true := by unfold Program.plainKey; rw [he]
    have ea : as[i]? = some as[i] := List.getElem?_eq_getElem ha
    have eb : bs[i]? = some bs[i] := List.getElem?_eq_getElem hb
    have p1 := run_part_plain (P := P) w hp (xs := (as.map (Value.int k)).toArray) (off := i) (v := .int k as[i]) (by simp [ea])
    have p2 := run_part_plain (P := P) w hp (xs := (bs.map (Value.int k)).toArray) (off := i) (v := .int k bs[i]) (by simp [eb])
    have p3 := run_equalIn_int (P := P) w d e k k as[i] bs[i] he
    have ih := run_eqItems_ints w d he is (fun j hj => h j (by simp [hj]))
    simp only [Op.eqItems, Nat.mul_one, Sem.run_bind, p1, p2, p3, Result.andThen_ok]
    rw [List.all_cons, ea, eb]
    by_cases hx : as[i] = bs[i]
    · simp [hx, ih]
    · simp [hx]
theorem run_neq_arr {t e : TypeId} {n : Nat} {k : IntKind} (hu : P.underlying t = some (.array n e)) (he : P.underlying e = some (.int k)) (hc : P.cellsOf e = 1) (as bs : List Int) (h1 : as.length = n) (h2 : bs.length = n) (w : World) :
    (binOp .neq t (.agg (as.map (Value.int k)).toArray) (.agg (bs.map (Value.int k)).toArray)).run P w = .ok (.bool (!(as == bs))) w := by
  obtain ⟨i, hi⟩ := info_of_underlying he
  rw [run_neq_struct, run_equalIn_array w 9999 _ _ hu hi, hc, run_eqItems_ints w 9998 he _ (fun i hi => by rw [h1, h2]; simpa using hi), all_range_eq h1 h2]
  rfl
theorem run_eql_arr {t e : TypeId} {n : Nat} {k : IntKind} (hu : P.underlying t = some (.array n e)) (he : P.underlying e = some (.int k)) (hc : P.cellsOf e = 1) (as bs : List Int) (h1 : as.length = n) (h2 : bs.length = n) (w : World) :
    (binOp .eql t (.agg (as.map (Value.int k)).toArray) (.agg (bs.map (Value.int k)).toArray)).run P w = .ok (.bool (as == bs)) w := by
  obtain ⟨i, hi⟩ := info_of_underlying he
  rw [run_eql_struct, run_equalIn_array w 9999 _ _ hu hi, hc, run_eqItems_ints w 9998 he _ (fun i hi => by rw [h1, h2]; simpa using hi), all_range_eq h1 h2]
  rfl
end

end Go.Proofs.Ytklpgdmcijbleaa
