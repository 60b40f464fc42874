/-
  A region that draws its order, whose last operation writes what the others read: walked by a script; and words for a world of which one block has turned.
-/
import Derived.Test.YthhlfojaloaooaaGreatKitB
namespace Go.Proofs.YthhlfojaloaooaaGreat
open Go.RowKit

section
variable {P : Program} {ops : Array Oper} {Q : Exit → Act → World → Prop} {md : Region.Mode} {S : World → Prop} {k : Nat}
/-- As wpAnyH, but that behind operation k nothing need hold. -/
def wpAnyK (P : Program) (md : Region.Mode) (ops : Array Oper) (Q : Exit → Act → World → Prop) (S : World → Prop) (k : Nat) : Nat → Array Bool → Act → World → Prop
  | 0, listed, a, w => Region.ready md ops listed = [] ∧ Q .normal a w
  | fuel + 1, listed, a, w =>
    (Region.ready md ops listed = [] → Q .normal a w) ∧
    ∀ i ∈ Region.ready md ops listed, wpOp P ops Q i (fun a' w' => (i ≠ k → S w') ∧ wpAnyK P md ops Q S k fuel (listed.setIfInBounds i true) a' w') a w
theorem wpAny_of_K : ∀ (fuel : Nat) (listed : Array Bool) (a : Act) (w : World), wpAnyK P md ops Q S k fuel listed a w → wpAny P md ops Q fuel listed a w
  | 0, _, _, _, h => h
  | fuel + 1, _, _, _, h => ⟨h.1, fun i hi => wpOp_mono (fun _ _ h' => wpAny_of_K fuel _ _ _ h'.2) (h.2 i hi)⟩
def waitsB (md : Region.Mode) (ops : Array Oper) (k i : Nat) : Bool := match ops[k]? with
  | some o => o.after.any fun e => Region.binds md e && e.on == i
  | none => false
theorem waits_spec {i : Nat} (h : waitsB md ops k i = true) {listed : Array Bool} (hun : listed.getD i true = false) : k ∉ Region.ready md ops listed := by
  intro hk
  obtain ⟨_, o, ho, hall⟩ := mem_ready.1 hk
  unfold waitsB at h
  rw [ho] at h
  simp only [Array.any_eq_true, Bool.and_eq_true, beq_iff_eq] at h
  obtain ⟨j, hj, hb, he⟩ := h
  have := hall _ (Array.getElem_mem hj) hb
  rw [he] at this
  rcases Nat.lt_or_ge i listed.size with h' | h'
  · simp [h'] at hun this; rw [hun] at this; cases this
  · simp [Array.getElem?_eq_none h'] at this

theorem wpAnyK_first {i : Nat} {oi : Oper} {v : Value} (hi : ops[i]? = some oi) (hsel : ∀ (j : Nat) (o : Oper) cs b, ops[j]? = some o → o.op ≠ .select cs b)
    (hQ : ∀ c a w, Q (.panic c) (a.put oi.dst v) w → Q (.panic c) a w) (hwt : waitsB md ops k i = true) :
    ∀ (fuel : Nat) (listed : Array Bool) (a : Act) (w : World),
      (∀ j oj, ops[j]? = some oj → j ≠ i → listed.getD j true = false → (∀ e ∈ oj.after, Region.binds md e = true → e.on ≠ i) → oi.apart ops oj = true) →
      i ∈ Region.ready md ops listed → YieldsIf P ops S oi v a → S w →
      wpAnyK P md ops Q S k fuel (listed.setIfInBounds i true) (a.put oi.dst v) w → wpAnyK P md ops Q S k (fuel + 1) listed a w := by
  intro fuel
  induction fuel with
  | zero =>
    intro listed a w _ hr hy hS H
    refine ⟨fun h => (by rw [h] at hr; cases hr), fun j hj => ?_⟩
    by_cases hji : j = i
    · subst hji; exact hy.wpOp hi hS ⟨fun _ => hS, H⟩
    · have := ready_mono hj hji
      rw [H.1] at this
      cases this
  | succ fuel ih =>
    intro listed a w hfree hr hy hS H
    refine ⟨fun h => (by rw [h] at hr; cases hr), fun j hj => ?_⟩
    by_cases hji : j = i
    · subst hji; exact hy.wpOp hi hS ⟨fun _ => hS, H⟩
    · have h1 := H.2 j (ready_mono hj hji)
      have hjk : j ≠ k := fun e => waits_spec hwt (mem_ready.1 hr).1 (e ▸ hj)
      obtain ⟨hjun, oj, hoj, hall⟩ := mem_ready.1 hj
      have hnot : ∀ e ∈ oj.after, Region.binds md e = true → e.on ≠ i := fun e he hb heq => by
        have h1 := hall e he hb
        have h0 := (mem_ready.1 hr).1
        rw [heq] at h1
        rcases Nat.lt_or_ge i listed.size with h' | h'
        · simp [h'] at h0 h1; rw [h0] at h1; cases h1
        · simp [Array.getElem?_eq_none h'] at h1
      have h2 := wpOp_putIf hoj (hfree j oj hoj hji hjun hnot) (fun cs b => hsel i oi cs b hi) (fun cs b => hsel j oj cs b hoj) hQ hy h1
      have hfree' : ∀ k ok, ops[k]? = some ok → k ≠ i → (listed.setIfInBounds j true).getD k true = false →
          (∀ e ∈ ok.after, Region.binds md e = true → e.on ≠ i) → oi.apart ops ok = true := fun k ok hk hki hun hno => by
        refine hfree k ok hk hki ?_ hno
        by_cases hjk : j = k
        · subst hjk; exact hjun
        · rw [getD_set_ne true hjk] at hun; exact hun
      refine wpOp_mono (fun a' w' h3 => ⟨h3.2.1, ih (listed.setIfInBounds j true) a' w' hfree' (ready_mono hr (Ne.symm hji)) h3.1 (h3.2.1 hjk) ?_⟩) h2
      rw [Array.setIfInBounds_comm _ _ hji]
      exact h3.2.2

def scriptKB (md : Region.Mode) (ops : Array Oper) (k : Nat) : List (Nat × Bool) → Array Bool → Bool
  | [], listed => (Region.ready md ops listed).isEmpty
  | (i, true) :: l, listed => (Region.ready md ops listed).contains i && Region.free md ops listed i && waitsB md ops k i && scriptKB md ops k l (listed.setIfInBounds i true)
  | (i, false) :: l, listed => decide (Region.ready md ops listed = [i]) && scriptKB md ops k l (listed.setIfInBounds i true)
def wpScriptK (P : Program) (ops : Array Oper) (S : World → Prop) (Q : Exit → Act → World → Prop) (k : Nat) : List (Nat × Bool) → Act → World → Prop
  | [], a, w => Q .normal a w
  | (i, true) :: l, a, w => ∃ o v, ops[i]? = some o ∧ YieldsIf P ops S o v a ∧ wpScriptK P ops S Q k l (a.put o.dst v) w
  | (i, false) :: l, a, w => wpOp P ops Q i (fun a' w' => (i ≠ k → S w') ∧ wpScriptK P ops S Q k l a' w') a w
theorem wpAnyK_script (hsel : Region.noSelect ops = true) (hQ : ∀ c a (d : Tmp) v w, Q (.panic c) (a.put (some d) v) w → Q (.panic c) a w) :
    ∀ (l : List (Nat × Bool)) (listed : Array Bool) (a : Act) (w : World), scriptKB md ops k l listed = true → ((∃ i, (i, true) ∈ l) → S w) → (∀ i, (i, true) ∈ l → i ≠ k) → (∀ l1 l2, l = l1 ++ (k, false) :: l2 → ∀ i, (i, true) ∉ l2) → wpScriptK P ops S Q k l a w → wpAnyK P md ops Q S k l.length listed a w
  | [], listed, a, w, hB, _, _, _, h => by
    have hr : Region.ready md ops listed = [] := by simpa [scriptKB] using hB
    exact ⟨hr, h⟩
  | (i, true) :: l, listed, a, w, hB, hS, hk, hl, h => by
    simp only [scriptKB, Bool.and_eq_true] at hB
    obtain ⟨⟨⟨h1, h2⟩, h3⟩, h4⟩ := hB
    obtain ⟨o, v, ho, hy, hr⟩ := h
    have hS' := hS ⟨i, by simp⟩
    refine wpAnyK_first ho (Region.noSelect_spec hsel) (fun c a w => ?_) h3 l.length listed a w (Region.free_spec ho h2) (by simpa using h1) hy hS' ?_
    · cases o.dst with
      | none => exact id
      | some d => exact hQ c a d v w
    · exact wpAnyK_script hsel hQ l _ _ _ h4 (fun _ => hS') (fun j hj => hk j (by simp [hj])) (fun l1 l2 e => hl ((i, true) :: l1) l2 (by rw [e]; rfl)) hr
  | (i, false) :: l, listed, a, w, hB, hS, hk, hl, h => by
    simp only [scriptKB, Bool.and_eq_true, decide_eq_true_eq] at hB
    obtain ⟨h1, h2⟩ := hB
    refine ⟨fun h0 => (by rw [h1] at h0; cases h0), fun j hj => ?_⟩
    have hij : j = i := by rw [h1] at hj; simpa using hj
    subst hij
    refine wpOp_mono (fun a' w' h' => ⟨h'.1, wpAnyK_script hsel hQ l _ a' w' h2 (fun ⟨i2, hi2⟩ => ?_) (fun i2 hi2 => hk i2 (by simp [hi2])) (fun l1 l2 e => hl ((j, false) :: l1) l2 (by rw [e]; rfl)) h'.2⟩) h
    by_cases hjk : j = k
    · subst hjk
      exact absurd hi2 (hl [] l rfl i2)
    · exact h'.1 hjk
/-- A region that draws its order, by a script; k: the last operation: it may write what the others read. -/
theorem wp_region_scriptK {id : Nat} {a : Act} {w : World} {ol : List Oper} (k : Nat) (l L : List (Nat × Bool)) (hL : l ++ [(k, false)] = L) (S : World → Prop) (hm : P.follows .mixedOrders = true)
    (hB : (Region.noSelect ol.toArray && decide ((l ++ [(k, false)]).length = ol.length) && scriptKB .any ol.toArray k (l ++ [(k, false)]) (Array.replicate ol.length false) && l.all (fun x => x.1 != k)) = true)
    (hQ : ∀ c a (d : Tmp) v w, Q (.panic c) (a.put (some d) v) w → Q (.panic c) a w) (hS : S w.drew) (h : wpScriptK P ol.toArray S Q k L a w.drew) : (Code.region id ol.toArray true).wp P Q a w := by
  subst hL
  simp only [Bool.and_eq_true, decide_eq_true_eq] at hB
  obtain ⟨⟨⟨h1, h2⟩, h3⟩, h4⟩ := hB
  have h4' : ∀ x ∈ l, x.1 ≠ k := fun x hx => by have := List.all_eq_true.1 h4 x hx; simpa using this
  refine wp_region_any hm (wpAny_of_K (k := k) (S := S) _ _ _ _ ?_)
  have := wpAnyK_script (md := .any) (S := S) h1 hQ (l ++ [(k, false)]) (Array.replicate ol.length false) a w.drew h3 (fun _ => hS) (fun i hi => by
    rcases List.mem_append.1 hi with hi | hi
    · exact h4' _ hi
    · simp at hi) (fun l1 l2 e i hi => by
    have hlen : l2 = [] := by
      rcases List.eq_nil_or_concat l2 with h0 | ⟨l3, x, h0⟩
      · exact h0
      · exfalso
        subst h0
        rw [List.concat_eq_append, ← List.cons_append, ← List.append_assoc] at e
        obtain ⟨e1, e2⟩ := List.append_inj' e rfl
        have : (k, false) ∈ l := by rw [e1]; simp
        exact h4' _ this rfl
    subst hlen
    cases hi) h
  rw [h2] at this
  simpa using this
end
section
variable {P : Program} {lo : List Oper} {S : World → Prop} {Q : Exit → Act → World → Prop} {k : Nat}
theorem scriptK_nil {a : Act} {w : World} (h : Q .normal a w) : wpScriptK P lo.toArray S Q k [] a w := h
theorem scriptK_take {i : Nat} {l : List (Nat × Bool)} {a : Act} {w : World} {o : Oper} {v : Value} (ho : lo[i]? = some o) (hw : Region.wanted o (yielded lo.toArray a.tmps) = true)
    (h : ∀ w, S w → (execOp a.eval o).run P w = .ok (.value v) w) (hk : wpScriptK P lo.toArray S Q k l (a.put o.dst v) w) : wpScriptK P lo.toArray S Q k ((i, true) :: l) a w :=
  ⟨o, v, by simpa using ho, .inl ⟨hw, fun w' hS => by rw [h w' hS]⟩, hk⟩
theorem scriptK_skip {i : Nat} {l : List (Nat × Bool)} {a : Act} {w : World} {o : Oper} (ho : lo[i]? = some o) (hw : Region.wanted o (yielded lo.toArray a.tmps) = false)
    (hk : wpScriptK P lo.toArray S Q k l (a.put o.dst undef) w) : wpScriptK P lo.toArray S Q k ((i, true) :: l) a w := ⟨o, undef, by simpa using ho, .inr ⟨hw, rfl⟩, hk⟩
theorem scriptK_wp {i : Nat} {l : List (Nat × Bool)} {a : Act} {w : World} {o : Oper} (ho : lo[i]? = some o) (hw : Region.wanted o (yielded lo.toArray a.tmps) = true)
    (h : o.wp P a w (fun a' w' => (i ≠ k → S w') ∧ wpScriptK P lo.toArray S Q k l a' w') Q) : wpScriptK P lo.toArray S Q k ((i, false) :: l) a w := by
  show wpOp P lo.toArray Q i _ a w
  unfold wpOp
  rw [show lo.toArray[i]? = some o from by simpa using ho]
  simp only [hw, if_true]
  exact .inl h
theorem scriptK_run {i : Nat} {l : List (Nat × Bool)} {a : Act} {w w' : World} {o : Oper} {v : Value} (ho : lo[i]? = some o) (hw : Region.wanted o (yielded lo.toArray a.tmps) = true)
    (h : (execOp a.eval o).run P w = .ok (.value v) w') (hS : i ≠ k → S w') (hk : wpScriptK P lo.toArray S Q k l (a.put o.dst v) w') : wpScriptK P lo.toArray S Q k ((i, false) :: l) a w := by
  refine scriptK_wp ho hw ?_
  unfold Oper.wp
  rw [h]
  exact ⟨hS, hk⟩
theorem scriptK_run0 {i : Nat} {l : List (Nat × Bool)} {a : Act} {w w' : World} {o : Oper} (ho : lo[i]? = some o) (hw : Region.wanted o (yielded lo.toArray a.tmps) = true)
    (h : (execOp a.eval o).run P w = .ok .skip w') (hS : i ≠ k → S w') (hk : wpScriptK P lo.toArray S Q k l (a.put o.dst undef) w') : wpScriptK P lo.toArray S Q k ((i, false) :: l) a w := by
  refine scriptK_wp ho hw ?_
  unfold Oper.wp
  rw [h]
  exact ⟨hS, hk⟩
theorem scriptK_call {i : Nat} {l : List (Nat × Bool)} {a : Act} {w : World} {o : Oper} (f : FuncId) (args : Array Value) (ho : lo[i]? = some o) (hw : Region.wanted o (yielded lo.toArray a.tmps) = true)
    (h : (execOp a.eval o).run P w = .ok (.enter f args) w) (hc : Calls P f args w fun e w' => ∃ v, e = .returned v ∧ (i ≠ k → S w') ∧ wpScriptK P lo.toArray S Q k l (a.put o.dst v) w') : wpScriptK P lo.toArray S Q k ((i, false) :: l) a w := by
  refine scriptK_wp ho hw ?_
  unfold Oper.wp
  rw [h]
  show Calls P f args w _
  refine hc.mono fun e w' hh => ?_
  obtain ⟨v, rfl, hS, hk⟩ := hh
  exact ⟨hS, hk⟩
/-- append of several elements that lie in the block made just before. -/
theorem scriptK_pushes {i : Nat} {l : List (Nat × Bool)} {a : Act} {o : Oper} (q : Nat) (ho0 : lo[i]? = some o) (hgd : o.guard = none) (s x : Operand) (t : TypeId)
    (ho : o.op = .call { callee := .builtin .append, args := #[s, x], argTypes := #[t, t] })
    {e : TypeId} {size bytes : Nat} (hty : SliceTy P t e size bytes) {wr : World} {cs : Array Value} (hcs : cs.size = q * size) (h1 : ∀ u ∈ cs.toList, u.oneCell' = true)
    {base : Nat} {v : Value} {n : Nat} {xs : List Value} (hs : a.eval s = v) (hown : wr.ownsRow base e size v n xs) {g : Nat} (hx : a.eval x = .slice (some ⟨g, 0, none⟩) q q) (hg : g = wr.heap.size)
    (hbytes : (n + q) * bytes ≤ 140737488355328) (hbase : base ≤ wr.heap.size)
    (h : ∀ v' w', w'.ownsRow base e size v' (n + q) (xs ++ cs.toList) → wr.grownBy w' v.ownBlock → Moved wr v v' → (i ≠ k → S w') ∧ wpScriptK P lo.toArray S Q k l (a.put o.dst v') w') : wpScriptK P lo.toArray S Q k ((i, false) :: l) a (wr.alloc (.cells cs e)) := by
  subst hg
  obtain ⟨ht, j, z, hi, hz, hsz, hby, hzs, hp, hq⟩ := hty
  have hbn : n + q ≤ 140737488355328 := Nat.le_trans (Nat.le_mul_of_pos_right _ hq) hbytes
  refine scriptK_wp ho0 (by simp [Region.wanted, hgd]) ?_
  obtain ⟨v', w', hrun, h2, h3, _, h5⟩ := run_append_own_at (P := P) (wr.alloc (.cells cs e)) base t o.type e j z size bytes ht hi hz hsz hby hzs hp v n xs (hown.alloc _) ⟨wr.heap.size, 0, none⟩ q q cs.toList (by simpa using hcs) (fun j u hu => by rw [cell?_new]; simpa using hu) h1
    (by simp only [maxLen]; omega) hbytes (by simp; omega)
  have hg := h v' w' h2 (grownBy_of_alloc h3) (by
    rcases h5 with hm | hm
    · exact .inl hm
    · exact .inr ⟨_, hm, by simp⟩)
  unfold Oper.wp execOp
  simp only [ho, resolve, invoke, builtin, Sem.run_bind, Sem.run_pure, Result.andThen_ok, List.map_toArray, List.map_cons, List.map_nil, hs, hx, hrun]
  exact hg
end

/-! ### w' is w but for one block, and new ones -/
theorem gr_trans {w w' w'' : World} {r : Option Nat} (h : w.grownBy w' r) (h' : w'.grownBy w'' r) : w.grownBy w'' r :=
  ⟨h'.os.trans h.os, h'.tape.trans h.tape, h'.output.trans h.output, Nat.le_trans h.size h'.size, fun k hk hne => (h'.block k (by have := h.size; omega) hne).trans (h.block k hk hne)⟩
theorem gr_below {w w' : World} (h : Below w.heap.size w w') (r : Option Nat) : w.grownBy w' r := ⟨h.os, h.tape, h.output, h.size, fun k hk _ => h.block k hk⟩
theorem gr_more {w w' : World} {r : Option Nat} (h : w.grownBy w' none) : w.grownBy w' r := ⟨h.os, h.tape, h.output, h.size, fun k hk _ => h.block k hk (by simp)⟩
theorem gr_set {w w' : World} {g : Nat} (h : w.grownBy w' (some g)) (i : Nat) (u : Value) : w.grownBy (w'.setCell ⟨g, i, none⟩ u) (some g) :=
  ⟨h.os, h.tape, h.output, by simpa [World.setCell] using h.size, fun k hk hne => (Below.heap_setCell _ _ _ _ (fun e => hne (by rw [e]))).trans (h.block k hk hne)⟩
theorem gr_new {w w' : World} {r : Option Nat} (h : w.grownBy w' r) (o : Obj) : w.grownBy (w'.alloc o) r :=
  ⟨h.os, h.tape, h.output, by have := h.size; simp; omega, fun k hk hne => (Below.heap_alloc _ _ _ (by have := h.size; omega)).trans (h.block k hk hne)⟩
theorem gr_drew {w w' : World} {r : Option Nat} (h : w.grownBy w' r) : w.grownBy w'.drew r := ⟨h.os, h.tape, h.output, h.size, h.block⟩
theorem gr_drewN {w w' : World} {r : Option Nat} (h : w.grownBy w' r) (n : Nat) : w.grownBy (w'.drewN n) r := ⟨h.os, h.tape, h.output, h.size, h.block⟩
theorem gr_step {w w' w'' : World} {r : Option Nat} (h : w.grownBy w' r) (h' : Below w'.heap.size w' w'') : w.grownBy w'' r := gr_trans h (gr_below h' r)
theorem below_one {w w' : World} {B g : Nat} (h : w.grownBy w' (some g)) (hB : B ≤ w.heap.size) (hg : B ≤ g) : Below B w w' := (Below.refl _ _).grown h hB (fun k hk => by injection hk with hk; omega)
theorem Blk.keep {w w' : World} {g g' : Nat} {t : TypeId} {cs : Array Value} (h : Blk w g t cs) (hb : w.grownBy w' (some g')) (hg : g ≠ g') : Blk w' g t cs := h.grown hb (by simpa using hg)
theorem Blk.kept {w w' : World} {g : Nat} {t : TypeId} {cs : Array Value} (h : Blk w g t cs) (hb : Below w.heap.size w w') : Blk w' g t cs := h.below hb h.lt

/-! ### A struct stored into a part of a box that is known whole -/
def putAll (old : Array Value) : Nat → List Value → Array Value
  | _, [] => old
  | o, v :: vs => putAll (old.setIfInBounds o v) (o + 1) vs
theorem Blk.there {w : World} {g : Nat} {t : TypeId} {cs : Array Value} (h : Blk w g t cs) {o n : Nat} (hn : o + n ≤ cs.size) : w.there g o n := fun j hj => by
  rw [h.cell, h.frozen]
  exact ⟨by rw [Array.getElem?_eq_getElem (by omega)]; rfl, rfl⟩
theorem putAll_blk {g : Nat} {t : TypeId} : ∀ (vs : List Value) (o : Nat) (w : World) (old : Array Value), Blk w g t old → Blk (w.setCells g o vs) g t (putAll old o vs) ∧ (w.setCells g o vs).heap.size = w.heap.size ∧ w.grownBy (w.setCells g o vs) (some g)
  | [], _, w, _, h => ⟨h, rfl, grownBy_refl w _⟩
  | v :: vs, o, w, old, h => by
    have h1 := h.set_ o v
    obtain ⟨h2, h3, h4⟩ := putAll_blk vs (o + 1) _ _ h1
    rw [World.setCells, putAll]
    exact ⟨h2, by rw [h3]; simp [World.setCell], gr_trans (gr_set (grownBy_refl w _) o v) h4⟩
section
variable {P : Program}
theorem wpList_store_part {ops : Array Oper} {rest : List Oper} {o : Oper} {a : Act} {Q : Exit → Act → World → Prop} (hgd : o.guard = none) (ty : TypeId) (x y : Operand) (ho : o.op = .store ty x y)
    {w : World} {te : TypeId} {old cs : Array Value} {g off : Nat} (hx : a.eval x = .pointer (some ⟨g, off, none⟩)) (B : Blk w g te old) (hy : a.eval y = .agg cs) (hsz : off + cs.size ≤ old.size) (hi : (P.info? ty).map (·.size) = some cs.size) (h1 : cs.all (·.oneCell') = true)
    (h : ∀ w', Blk w' g te (putAll old off cs.toList) → w'.heap.size = w.heap.size → w.grownBy w' (some g) → wpList P ops Q rest (a.put o.dst undef) w') : wpList P ops Q (o :: rest) a w := by
  refine wpList_store_mid hgd ty x y ho g off cs hx hy (B.there hsz) hi h1 ?_
  obtain ⟨h2, h3, h4⟩ := putAll_blk cs.toList off w old B
  exact h _ h2 h3 h4
end
end Go.Proofs.YthhlfojaloaooaaGreat
