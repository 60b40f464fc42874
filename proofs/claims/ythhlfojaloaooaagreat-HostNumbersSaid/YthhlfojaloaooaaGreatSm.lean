/-
  A region walked in a small frame: its operations name few slots; the region with these slots renumbered, over a frame of these slots alone, stands for it.
-/
import Derived.Test.YthhlfojaloaooaaGreatKitD
namespace Go.Proofs.YthhlfojaloaooaaGreat
set_option linter.unusedSimpArgs false
set_option linter.unusedVariables false
open Go.RowKit

/-! ### Parts of a function -/
def sub : List Bool → Code → Code
  | [], c => c
  | false :: p, .seq a _ => sub p a
  | true :: p, .seq _ b => sub p b
  | false :: p, .cond _ a _ => sub p a
  | true :: p, .cond _ _ b => sub p b
  | _ :: p, .block _ c => sub p c
  | _ :: p, .loop c => sub p c
  | _ :: _, c => c
noncomputable def bodyOf (f : Func) : Code := f.body.getD .skip
/-! ### Renumbering -/
def ix : List Nat → Nat → Nat
  | [], _ => 0
  | x :: xs, t => bif Nat.beq x t then 0 else ix xs t + 1
/-- Slots from base on lie behind the few of L. -/
def fS (L : List Nat) (base : Nat) (t : Nat) : Nat := bif Nat.ble base t then L.length + (t - base) else ix L t
def reO (f : Nat → Nat) : Operand → Operand
  | .tmp t => .tmp (f t)
  | .const v => .const v
  | .global g => .global g
  | .func g => .func g
def reK (f : Nat → Nat) : Callee → Callee
  | .value x => .value (reO f x)
  | .invoke r m => .invoke (reO f r) m
  | .builtin b => .builtin b
def reC (f : Nat → Nat) (c : Call) : Call := { callee := reK f c.callee, args := c.args.map (reO f), argTypes := c.argTypes }
def reOp (f : Nat → Nat) : Op → Op
  | .move x => .move (reO f x)
  | .assign x => .assign (reO f x)
  | .pick c a b => .pick (reO f c) (reO f a) (reO f b)
  | .alloc t => .alloc t
  | .box t x => .box t (reO f x)
  | .build t ps => .build t (ps.map fun p => (p.1, reO f p.2))
  | .buildSlice t n ps => .buildSlice t n (ps.map fun p => (p.1, reO f p.2))
  | .insert t m k v => .insert t (reO f m) (reO f k) (reO f v)
  | .load t x => .load t (reO f x)
  | .store t x v => .store t (reO f x) (reO f v)
  | .ready g => .ready g
  | .waits g => .waits g
  | .nilCheck x => .nilCheck (reO f x)
  | .binOp o t x y u => .binOp o t (reO f x) (reO f y) u
  | .unOp o t x => .unOp o t (reO f x)
  | .convert s d x => .convert s d (reO f x)
  | .sliceToArrayPointer d x => .sliceToArrayPointer d (reO f x)
  | .makeInterface t x => .makeInterface t (reO f x)
  | .makeFunc fn a b => .makeFunc fn (a.map (reO f)) (b.map (reO f))
  | .makeMap t r => .makeMap t (r.map (reO f))
  | .makeChan t x => .makeChan t (reO f x)
  | .makeSlice t l c => .makeSlice t (reO f l) (reO f c)
  | .slice t x l h m => .slice t (reO f x) (l.map (reO f)) (h.map (reO f)) (m.map (reO f))
  | .fieldAddr t x i => .fieldAddr t (reO f x) i
  | .field t x i => .field t (reO f x) i
  | .indexAddr t x i => .indexAddr t (reO f x) (reO f i)
  | .index t x i => .index t (reO f x) (reO f i)
  | .lookup t x i c => .lookup t (reO f x) (reO f i) c
  | .mapUpdate t m k v => .mapUpdate t (reO f m) (reO f k) (reO f v)
  | .mapEntry t m k => .mapEntry t (reO f m) (reO f k)
  | .entryStore t m s v => .entryStore t (reO f m) (reO f s) (reO f v)
  | .range t x => .range t (reO f x)
  | .next x s => .next (reO f x) s
  | .entry x => .entry (reO f x)
  | .typeAssert x t a c => .typeAssert (reO f x) t a c
  | .extract x i => .extract (reO f x) i
  | .call c => .call (reC f c)
  | .go c => .go (reC f c)
  | .defer c => .defer (reC f c)
  | .panic x => .panic (reO f x)
  | .send c x => .send (reO f c) (reO f x)
  | .recv t c k => .recv t (reO f c) k
  | .select cs b => .select cs b
def reOper (f : Nat → Nat) (o : Oper) : Oper := { dst := o.dst.map f, op := reOp f o.op, type := o.type, pos := o.pos, after := o.after, guard := o.guard }
def isSel : Op → Bool
  | .select .. => true
  | _ => false
def inS (L : List Nat) (base m : Nat) (t : Nat) : Bool := bif Nat.ble base t then Nat.blt t (base + m) else L.contains t
def okOpd (ops : Array Oper) (L : List Nat) (base m : Nat) (o : Oper) : Operand → Bool
  | .tmp t => bif Nat.ble base t then Nat.blt t (base + m) && o.after.any (fun e => Region.binds .any e && (ops[e.on]?).bind (·.dst) == some t) else L.contains t
  | _ => true
def okOper (ops : Array Oper) (L : List Nat) (base m : Nat) (o : Oper) : Bool :=
  !isSel o.op && o.op.operands.all (okOpd ops L base m o) && (match o.dst with | some d => inS L base m d | none => true) &&
    (match o.guard with | none => true | some (j, _) => o.after.any (fun e => Region.binds .any e && e.on == j))
theorem reC_resolve {ρ ρ' : Operand → Value} {f : Nat → Nat} {c : Call} {ty : TypeId} (h : ∀ x ∈ c.operands, ρ' (reO f x) = ρ x) : resolve ρ' (reC f c) ty = resolve ρ c ty := by
  obtain ⟨k, args, tys⟩ := c
  have ha : (args.map (reO f)).map ρ' = args.map ρ := by
    rw [Array.map_map]
    refine Array.map_congr_left fun x hx => h x ?_
    unfold Call.operands
    cases k <;> simp [hx]
  have hc : (args.map (reO f)).map (fun | .const _ => true | _ => false) = args.map (fun | .const _ => true | _ => false) := by
    rw [Array.map_map]
    refine Array.map_congr_left fun x hx => ?_
    cases x <;> rfl
  cases k with
  | value x =>
    have hx : ρ' (reO f x) = ρ x := h x (by simp [Call.operands])
    simp only [reC, reK, resolve, ha, hx]
  | invoke r m =>
    have hx : ρ' (reO f r) = ρ r := h r (by simp [Call.operands])
    simp only [reC, reK, resolve, ha, hx]
  | builtin b =>
    show (pure _ : Sem Deferred) = pure _
    exact congrArg pure (by congr 1; congr 1)
theorem pairs_map {ρ ρ' : Operand → Value} {f : Nat → Nat} {ps : Array (Nat × Operand)} (h : ∀ x ∈ (ps.toList.map (·.2)).toArray, ρ' (reO f x) = ρ x) :
    (ps.map fun p => (p.1, reO f p.2)).map (fun p => (p.1, ρ' p.2)) = ps.map (fun p => (p.1, ρ p.2)) := by
  rw [Array.map_map]
  refine Array.map_congr_left fun p hp => ?_
  show (p.1, ρ' (reO f p.2)) = (p.1, ρ p.2)
  rw [h p.2 (by simp; exact ⟨p.1, by simpa using hp⟩)]
theorem opt_map {ρ ρ' : Operand → Value} {f : Nat → Nat} {o : Option Operand} (h : ∀ x ∈ o, ρ' (reO f x) = ρ x) : (o.map (reO f)).map ρ' = o.map ρ := by
  cases o with
  | none => rfl
  | some x => simp [h x rfl]
theorem arr_map {ρ ρ' : Operand → Value} {f : Nat → Nat} {a : Array Operand} (h : ∀ x ∈ a, ρ' (reO f x) = ρ x) : (a.map (reO f)).map ρ' = a.map ρ := by
  rw [Array.map_map]
  exact Array.map_congr_left fun x hx => h x hx
theorem eq_re {f : Nat → Nat} (o : BinOp) (t : TypeId) (x y : Operand) (a b : Value) : eqGuard o t (reO f x) (reO f y) a b = eqGuard o t x y a b := by
  cases x <;> cases y <;> rfl
set_option maxHeartbeats 4000000 in
theorem exec_re {ρ ρ' : Operand → Value} {f : Nat → Nat} {o : Oper} (hs : isSel o.op = false) (h : ∀ x ∈ o.op.operands, ρ' (reO f x) = ρ x) : execOp ρ' (reOper f o) = execOp ρ o := by
  obtain ⟨dst, op, type, pos, after, guard⟩ := o
  cases op with
  | select cs b => cases hs
  | build t ps => simp only [reOper, reOp, execOp, pairs_map (ρ := ρ) (ρ' := ρ') (f := f) (ps := ps) h]
  | buildSlice t n ps => simp only [reOper, reOp, execOp, pairs_map (ρ := ρ) (ρ' := ρ') (f := f) (ps := ps) h]
  | makeFunc fn a b =>
    have ha := arr_map (ρ := ρ) (ρ' := ρ') (f := f) (a := a) (fun x hx => h x (by simp [Op.operands, hx]))
    have hb := arr_map (ρ := ρ) (ρ' := ρ') (f := f) (a := b) (fun x hx => h x (by simp [Op.operands, hx]))
    simp only [reOper, reOp, execOp, ha, hb]
  | makeMap t r =>
    have hr := opt_map (ρ := ρ) (ρ' := ρ') (f := f) (o := r) (fun x hx => h x (by cases r <;> simp_all [Op.operands]))
    simp only [reOper, reOp, execOp, hr]
  | slice t x l hh m =>
    have h1 := opt_map (ρ := ρ) (ρ' := ρ') (f := f) (o := l) (fun x hx => h x (by cases l <;> simp_all [Op.operands]))
    have h2 := opt_map (ρ := ρ) (ρ' := ρ') (f := f) (o := hh) (fun x hx => h x (by cases hh <;> simp_all [Op.operands]))
    have h3 := opt_map (ρ := ρ) (ρ' := ρ') (f := f) (o := m) (fun x hx => h x (by cases m <;> simp_all [Op.operands]))
    have h0 := h x (by simp [Op.operands])
    simp only [reOper, reOp, execOp, h0, h1, h2, h3]
  | call c => simp only [reOper, reOp, execOp, reC_resolve (ρ := ρ) (ρ' := ρ') (f := f) (c := c) h]
  | go c => simp only [reOper, reOp, execOp, reC_resolve (ρ := ρ) (ρ' := ρ') (f := f) (c := c) h]
  | defer c => simp only [reOper, reOp, execOp, reC_resolve (ρ := ρ) (ρ' := ρ') (f := f) (c := c) h]
  | _ => (simp only [Op.operands, List.mem_toArray, List.mem_cons, List.not_mem_nil, or_false, forall_eq_or_imp, forall_eq] at h; simp only [reOper, reOp, execOp, h, eq_re])
/-! ### The two frames -/
def Dn (ops : Array Oper) (T : Nat → Prop) (t : Nat) : Prop := ∃ j o, T j ∧ ops[j]? = some o ∧ o.dst = some t
/-- a: the function's frame (a0 ahead of the region); b: the small one; the operations of T have run. -/
structure Rel (ops : Array Oper) (L : List Nat) (base m : Nat) (a0 : Act) (T : Nat → Prop) (a b : Act) : Prop where
  size : a.tmps.size = a0.tmps.size
  bsize : b.tmps.size = L.length + m
  defers : a.defers = b.defers
  inn : ∀ t, inS L base m t = true → (t < base ∨ Dn ops T t) → a.tmps[t]? = b.tmps[fS L base t]?
  out : ∀ t, inS L base m t = false → a.tmps[t]? = a0.tmps[t]?
/-- Behind the region. -/
structure Sm (L : List Nat) (base m : Nat) (a0 a b : Act) : Prop where
  size : a.tmps.size = a0.tmps.size
  defers : a.defers = b.defers
  inn : ∀ t, inS L base m t = true → a.tmps[t]? = b.tmps[fS L base t]?
  out : ∀ t, inS L base m t = false → a.tmps[t]? = a0.tmps[t]?
/-- What is asked of the slots. -/
structure SlotsOk (N : Nat) (L : List Nat) (base m : Nat) : Prop where
  low : ∀ t, inS L base m t = true → t < N
  lt : ∀ t, inS L base m t = true → fS L base t < L.length + m
  inj : ∀ t u, inS L base m t = true → inS L base m u = true → fS L base t = fS L base u → t = u
  few : ∀ t, L.contains t = true → t < N
def nodupB : List Nat → Bool
  | [] => true
  | x :: xs => !xs.contains x && nodupB xs
def slotsB (N : Nat) (L : List Nat) (base m : Nat) : Bool := nodupB L && L.all (fun t => Nat.blt t N && Nat.blt t base) && Nat.ble (base + m) N
theorem ix_lt {L : List Nat} {t : Nat} (h : L.contains t = true) : ix L t < L.length := by
  induction L with
  | nil => simp at h
  | cons x xs ih =>
    unfold ix
    by_cases hx : x = t
    · subst hx; simp
    · have hb : Nat.beq x t = false := by
        cases hq : Nat.beq x t
        · rfl
        · exact absurd (Nat.eq_of_beq_eq_true hq) hx
      rw [hb]
      simp only [cond_false, List.length_cons]
      have := ih (by simp at h ⊢; rcases h with h | h; · exact absurd h.symm hx
                     · exact h)
      omega
theorem ix_get {L : List Nat} {t : Nat} (h : L.contains t = true) : L[ix L t]? = some t := by
  induction L with
  | nil => simp at h
  | cons x xs ih =>
    unfold ix
    by_cases hx : x = t
    · subst hx; simp
    · have hb : Nat.beq x t = false := by
        cases hq : Nat.beq x t
        · rfl
        · exact absurd (Nat.eq_of_beq_eq_true hq) hx
      rw [hb]
      simp only [cond_false, List.getElem?_cons_succ]
      exact ih (by simp at h ⊢; rcases h with h | h; · exact absurd h.symm hx
                   · exact h)
theorem slots_ok {N : Nat} {L : List Nat} {base m : Nat} (h : slotsB N L base m = true) : SlotsOk N L base m := by
  unfold slotsB at h
  simp only [Bool.and_eq_true] at h
  obtain ⟨⟨_, h2⟩, h3⟩ := h
  have h3 : base + m ≤ N := Nat.le_of_ble_eq_true h3
  have hL : ∀ t, L.contains t = true → t < N ∧ t < base := fun t ht => by
    have := List.all_eq_true.1 h2 t (by simpa using ht)
    simp only [Bool.and_eq_true, Nat.blt_eq] at this
    exact this
  refine ⟨fun t ht => ?_, fun t ht => ?_, fun t u ht hu he => ?_, fun t ht => (hL t ht).1⟩
  · unfold inS at ht
    cases hb : Nat.ble base t <;> rw [hb] at ht
    · exact (hL t ht).1
    · simp only [cond_true, Nat.blt_eq] at ht; omega
  · unfold inS at ht
    unfold fS
    cases hb : Nat.ble base t <;> rw [hb] at ht
    · have := ix_lt ht; simp only [cond_false]; omega
    · simp only [cond_true, Nat.blt_eq] at ht ⊢
      have := Nat.le_of_ble_eq_true hb
      omega
  · unfold inS at ht hu
    unfold fS at he
    cases hb : Nat.ble base t <;> cases hc : Nat.ble base u <;> rw [hb] at ht he <;> rw [hc] at hu he
    · simp only [cond_false] at he ht hu
      have h1 := ix_get ht
      have h2 := ix_get hu
      rw [he, h2] at h1
      exact (Option.some.inj h1).symm
    · simp only [cond_false, cond_true] at he ht hu
      have := ix_lt ht
      omega
    · simp only [cond_false, cond_true] at he ht hu
      have := ix_lt hu
      omega
    · simp only [cond_true] at he
      have := Nat.le_of_ble_eq_true hb
      have := Nat.le_of_ble_eq_true hc
      omega
section
variable {P : Program} {ops : Array Oper} {L : List Nat} {base m : Nat} {a0 : Act} {Q : Exit → Act → World → Prop} {T : Nat → Prop}
/-- All that an operation waits for has run. -/
def Past (T : Nat → Prop) (o : Oper) : Prop := ∀ e ∈ o.after, Region.binds .any e = true → T e.on
structure Oks (ops : Array Oper) (L : List Nat) (base m : Nat) : Prop where
  ok : ∀ (j : Nat) (o : Oper), ops[j]? = some o → okOper ops L base m o = true
  lower : ∀ (j : Nat) (o : Oper), ops[j]? = some o → ∀ e ∈ o.after, Region.binds .any e = true → e.on < j
  all : ∀ t, base ≤ t → t < base + m → ∃ (j : Nat) (o : Oper), ops[j]? = some o ∧ o.dst = some t
theorem okOper_parts {o : Oper} (h : okOper ops L base m o = true) : isSel o.op = false ∧ (∀ x ∈ o.op.operands, okOpd ops L base m o x = true) ∧ (∀ d, o.dst = some d → inS L base m d = true) ∧
    (∀ j b, o.guard = some (j, b) → ∃ e ∈ o.after, Region.binds .any e = true ∧ e.on = j) := by
  unfold okOper at h
  simp only [Bool.and_eq_true, Bool.not_eq_true'] at h
  obtain ⟨⟨⟨h1, h2⟩, h3⟩, h4⟩ := h
  refine ⟨h1, fun x hx => Array.all_eq_true'.1 h2 x hx, fun d hd => by rw [hd] at h3; exact h3, fun j b hg => ?_⟩
  rw [hg] at h4
  obtain ⟨e, he, hb⟩ := Array.any_eq_true'.1 h4
  simp only [Bool.and_eq_true, beq_iff_eq] at hb
  exact ⟨e, he, hb.1, hb.2⟩
theorem Rel.eval {a b : Act} {o : Oper} (h : Rel ops L base m a0 T a b) (hp : Past T o) {x : Operand} (hx : okOpd ops L base m o x = true) : b.eval (reO (fS L base) x) = a.eval x := by
  cases x with
  | tmp t =>
    unfold okOpd at hx
    have key : inS L base m t = true ∧ (t < base ∨ Dn ops T t) := by
      unfold inS
      cases hb : Nat.ble base t <;> simp only [hb, cond_true, cond_false] at hx ⊢
      · refine ⟨hx, .inl ?_⟩
        rcases Nat.lt_or_ge t base with h | h
        · exact h
        · rw [Nat.ble_eq_true_of_le h] at hb; cases hb
      · simp only [Bool.and_eq_true] at hx
        refine ⟨hx.1, .inr ?_⟩
        obtain ⟨e, he, hb⟩ := Array.any_eq_true'.1 hx.2
        simp only [Bool.and_eq_true, beq_iff_eq] at hb
        cases ho : ops[e.on]? with
        | none => rw [ho] at hb; cases hb.2
        | some oj => rw [ho] at hb; exact ⟨e.on, oj, hp e he hb.1, ho, hb.2⟩
    have := h.inn t key.1 key.2
    simp only [reO, Act.eval, Array.getD_eq_getD_getElem?, this]
  | _ => rfl
theorem Rel.put {a b : Act} {T' : Nat → Prop} {i : Nat} {o : Oper} (hN : SlotsOk a0.tmps.size L base m) (ho : ops[i]? = some o) (h : Rel ops L base m a0 T a b) (hd : ∀ d, o.dst = some d → inS L base m d = true) (hT : ∀ j, T' j → T j ∨ j = i) (v : Value) :
    Rel ops L base m a0 T' (a.put o.dst v) (b.put (o.dst.map (fS L base)) v) := by
  have hD : ∀ t, Dn ops T' t → Dn ops T t ∨ o.dst = some t := fun t ⟨j, oj, h1, h2, h3⟩ => by
    rcases hT j h1 with hj | rfl
    · exact .inl ⟨j, oj, hj, h2, h3⟩
    · rw [ho] at h2; injection h2 with h2; subst h2; exact .inr h3
  cases hdst : o.dst with
  | none =>
    refine ⟨h.size, h.bsize, h.defers, fun t ht hd => h.inn t ht ?_, h.out⟩
    rcases hd with hd | hd
    · exact .inl hd
    · rcases hD t hd with hd | hd
      · exact .inr hd
      · rw [hdst] at hd; cases hd
  | some d =>
    have hd := hd d hdst
    refine ⟨?_, ?_, h.defers, fun t ht hdt => ?_, fun t ht => ?_⟩
    · show (a.tmps.setIfInBounds d v).size = _
      rw [Array.size_setIfInBounds]; exact h.size
    · show (b.tmps.setIfInBounds _ v).size = _
      rw [Array.size_setIfInBounds]; exact h.bsize
    · show (a.tmps.setIfInBounds d v)[t]? = (b.tmps.setIfInBounds (fS L base d) v)[fS L base t]?
      by_cases e : t = d
      · subst e
        have l1 : t < a.tmps.size := by rw [h.size]; exact hN.low t ht
        have l2 : fS L base t < b.tmps.size := by rw [h.bsize]; exact hN.lt t ht
        simp [l1, l2]
      · have e2 : fS L base d ≠ fS L base t := fun c => e (hN.inj t d ht hd c.symm)
        rw [Array.getElem?_setIfInBounds_ne (Ne.symm e), Array.getElem?_setIfInBounds_ne e2]
        refine h.inn t ht ?_
        rcases hdt with hdt | hdt
        · exact .inl hdt
        · rcases hD t hdt with hdt | hdt
          · exact .inr hdt
          · rw [hdst] at hdt; injection hdt with hdt; exact absurd hdt.symm e
    · show (a.tmps.setIfInBounds d v)[t]? = _
      have e : d ≠ t := fun c => by subst c; rw [hd] at ht; cases ht
      rw [Array.getElem?_setIfInBounds_ne e]
      exact h.out t ht
theorem Rel.defer {a b : Act} (h : Rel ops L base m a0 T a b) (d : Deferred) : Rel ops L base m a0 T { a with defers := d :: a.defers } { b with defers := d :: b.defers } :=
  ⟨h.size, h.bsize, by show d :: a.defers = d :: b.defers; rw [h.defers], h.inn, h.out⟩
theorem Rel.wanted {a b : Act} {o : Oper} (hok : Oks ops L base m) (h : Rel ops L base m a0 T a b) (hk : okOper ops L base m o = true) (hp : Past T o) :
    Region.wanted (reOper (fS L base) o) (Go.yielded (ops.map (reOper (fS L base))) b.tmps) = Region.wanted o (Go.yielded ops a.tmps) := by
  unfold Region.wanted
  show (match o.guard with | none => true | some (j, want) => _) = _
  cases hg : o.guard with
  | none => rfl
  | some p =>
    obtain ⟨j, want⟩ := p
    obtain ⟨e, he, hb, rfl⟩ := (okOper_parts hk).2.2.2 j want hg
    have hj := hp e he hb
    have : Go.yielded (ops.map (reOper (fS L base))) b.tmps e.on = Go.yielded ops a.tmps e.on := by
      unfold Go.yielded
      rw [Array.getElem?_map]
      cases ho : ops[e.on]? with
      | none => rfl
      | some oj =>
        cases hd : oj.dst with
        | none => simp [reOper, hd]
        | some d =>
          have := h.inn d ((okOper_parts (hok.ok _ oj ho)).2.2.1 d hd) (.inr ⟨e.on, oj, hj, ho, hd⟩)
          simp only [Option.map_some, Option.bind_some, reOper, hd, this]
    simp only [this]
/-- What holds of the small frame's exits. -/
def back (L : List Nat) (base m : Nat) (a0 : Act) (Q : Exit → Act → World → Prop) : Exit → Act → World → Prop
  | .outgrown, _, w => ∃ a, Q .outgrown a w
  | .panic c, _, w => ∀ a, Q (.panic c) a w
  | e, b, w => ∀ a, Sm L base m a0 a b → Q e a w
theorem back_out (h : LetsOut (back L base m a0 Q)) : LetsOut Q := by
  obtain ⟨_, w, a, h⟩ := h
  exact ⟨a, w, h⟩
theorem lets_back (h : LetsOut Q) : LetsOut (back L base m a0 Q) := by
  obtain ⟨a, w, h⟩ := h
  exact ⟨a, w, a, h⟩
theorem wp_small {o : Oper} {a b : Act} {w : World} {K K' : Act → World → Prop} {T' : Nat → Prop} {i : Nat} (hN : SlotsOk a0.tmps.size L base m) (hok : Oks ops L base m) (ho : ops[i]? = some o) (hp : Past T o) (hT : ∀ j, T' j → T j ∨ j = i) (hr : Rel ops L base m a0 T a b)
    (hK : ∀ a b w, Rel ops L base m a0 T' a b → K' b w → K a w) (h : (reOper (fS L base) o).wp P b w K' (back L base m a0 Q)) : o.wp P a w K Q := by
  obtain ⟨h1, h2, h3, _⟩ := okOper_parts (hok.ok i o ho)
  have he : execOp b.eval (reOper (fS L base) o) = execOp a.eval o := exec_re h1 fun x hx => hr.eval hp (h2 x hx)
  unfold Oper.wp at h ⊢
  rw [he] at h
  have hq : ∀ (a b : Act) (w : World) (v : Value), Rel ops L base m a0 T a b → K' (b.put (reOper (fS L base) o).dst v) w → K (a.put o.dst v) w := fun a b w v hr hh => hK _ _ _ (hr.put hN ho h3 hT v) hh
  cases hx : (execOp a.eval o).run P w with
  | ok n w' =>
    rw [hx] at h
    cases n with
    | value v => exact hq a b w' v hr h
    | skip => exact hq a b w' undef hr h
    | defer d => exact hq _ _ w' undef (hr.defer d) h
    | enter f args =>
      refine Calls.mono h fun e w'' hh => ?_
      cases e with
      | returned v => exact hq a b w'' v hr hh
      | panicked c => exact hh a
      | outgrown => exact back_out hh
    | row r args => exact Rows.mono h fun v w'' hh => hq a b w'' v hr hh
    | _ => exact h.elim
  | halt x w' =>
    rw [hx] at h
    cases x with
    | panic v => exact h a
    | _ => exact h.elim
theorem op_small {i : Nat} {o : Oper} {a b : Act} {w : World} {K K' : Act → World → Prop} {T' : Nat → Prop} (hN : SlotsOk a0.tmps.size L base m) (hok : Oks ops L base m) (ho : ops[i]? = some o) (hp : Past T o) (hT : ∀ j, T' j → T j ∨ j = i)
    (hr : Rel ops L base m a0 T a b) (hK : ∀ a b w, Rel ops L base m a0 T' a b → K' b w → K a w)
    (h : if Region.wanted (reOper (fS L base) o) (Go.yielded (ops.map (reOper (fS L base))) b.tmps) then (reOper (fS L base) o).wp P b w K' (back L base m a0 Q) ∨ ((reOper (fS L base) o).asks P b w ∧ LetsOut (back L base m a0 Q)) else K' (b.put (reOper (fS L base) o).dst undef) w) :
    if Region.wanted o (Go.yielded ops a.tmps) then o.wp P a w K Q ∨ (o.asks P a w ∧ LetsOut Q) else K (a.put o.dst undef) w := by
  obtain ⟨h1, h2, h3, _⟩ := okOper_parts (hok.ok i o ho)
  rw [hr.wanted hok (hok.ok i o ho) hp] at h
  split at h
  · rename_i hc
    rw [if_pos hc]
    rcases h with h | ⟨h, h'⟩
    · exact .inl (wp_small hN hok ho hp hT hr hK h)
    · refine .inr ⟨?_, back_out h'⟩
      have he : execOp b.eval (reOper (fS L base) o) = execOp a.eval o := exec_re h1 fun x hx => hr.eval hp (h2 x hx)
      unfold Oper.asks at h ⊢
      rwa [he] at h
  · rename_i hc
    rw [if_neg hc]
    exact hK _ _ _ (hr.put hN ho h3 hT undef) h
theorem Rel.done {a b : Act} (hok : Oks ops L base m) (hT : ∀ j, j < ops.size → T j) (h : Rel ops L base m a0 T a b) : Sm L base m a0 a b := by
  refine ⟨h.size, h.defers, fun t ht => h.inn t ht ?_, h.out⟩
  rcases Nat.lt_or_ge t base with hb | hb
  · exact .inl hb
  · refine .inr ?_
    unfold inS at ht
    rw [Nat.ble_eq_true_of_le hb] at ht
    obtain ⟨j, o, hj, ho⟩ := hok.all t hb (by simpa using ht)
    exact ⟨j, o, hT j (by have := Array.getElem?_eq_some_iff.1 hj; exact this.1), hj, ho⟩
theorem list_small (hN : SlotsOk a0.tmps.size L base m) (hok : Oks ops L base m) :
    ∀ (l : List Oper) (n : Nat), (∀ j, l[j]? = ops[n + j]?) → ∀ (a b : Act) (w : World), Rel ops L base m a0 (· < n) a b →
      wpList P (ops.map (reOper (fS L base))) (back L base m a0 Q) (l.map (reOper (fS L base))) b w → wpList P ops Q l a w
  | [], n, hl, a, b, w, hr, h => by
    have hs : ops.size ≤ n := by
      have := hl 0
      rcases Nat.lt_or_ge n ops.size with h | h
      · rw [Nat.add_zero, Array.getElem?_eq_getElem h] at this; cases this
      · exact h
    exact h a (hr.done hok fun j hj => Nat.lt_of_lt_of_le hj hs)
  | o :: l, n, hl, a, b, w, hr, h => by
    have ho : ops[n]? = some o := by simpa using (hl 0).symm
    have ih := list_small hN hok l (n + 1) (fun j => by have := hl (j + 1); simpa [Nat.add_assoc, Nat.add_comm 1 j] using this)
    simp only [List.map_cons, wpList] at h ⊢
    exact op_small hN hok ho (fun e he hb => hok.lower n o ho e he hb) (fun j hj => by omega) hr ih h
theorem ready_re (md : Region.Mode) (ops : Array Oper) (f : Nat → Nat) (listed : Array Bool) : Region.ready md (ops.map (reOper f)) listed = Region.ready md ops listed := by
  unfold Region.ready
  rw [Array.size_map]
  refine List.filter_congr fun i _ => ?_
  rw [Array.getElem?_map, Option.map_map]
  rfl
theorem all_listed (hok : Oks ops L base m) {listed : Array Bool} (hs : listed.size = ops.size) (h : Region.ready .any ops listed = []) : ∀ i, i < ops.size → listed.getD i false = true := by
  intro i
  induction i using Nat.strongRecOn with
  | _ i ih =>
    intro hi
    cases hc : listed.getD i false with
    | true => rfl
    | false =>
      have hmem : i ∈ Region.ready .any ops listed := by
        rw [mem_ready]
        refine ⟨?_, ops[i], Array.getElem?_eq_getElem hi, fun e he hb => ?_⟩
        · rw [Array.getD_eq_getD_getElem?, Array.getElem?_eq_getElem (by omega)] at hc ⊢
          exact hc
        · have hl := hok.lower i ops[i] (Array.getElem?_eq_getElem hi) e he hb
          exact ih e.on hl (by omega)
      rw [h] at hmem
      cases hmem
theorem any_small (hN : SlotsOk a0.tmps.size L base m) (hok : Oks ops L base m) :
    ∀ (fuel : Nat) (listed : Array Bool), listed.size = ops.size → ∀ (a b : Act) (w : World), Rel ops L base m a0 (fun j => listed.getD j false = true) a b → wpAny P .any (ops.map (reOper (fS L base))) (back L base m a0 Q) fuel listed b w → wpAny P .any ops Q fuel listed a w
  | 0, listed, hs, a, b, w, hr, h => by
    have h0 : Region.ready .any ops listed = [] := by rw [← ready_re .any ops (fS L base)]; exact h.1
    exact ⟨h0, h.2 a (hr.done hok (all_listed hok hs h0))⟩
  | fuel + 1, listed, hs, a, b, w, hr, h => by
    refine ⟨fun h0 => h.1 (by rw [ready_re]; exact h0) a (hr.done hok (all_listed hok hs h0)), fun i hi => ?_⟩
    have h' := h.2 i (by rw [ready_re]; exact hi)
    obtain ⟨_, o, ho, hall⟩ := mem_ready.1 hi
    unfold wpOp at h' ⊢
    rw [Array.getElem?_map, ho] at h'
    rw [ho]
    exact op_small hN hok ho (fun e he hb => hall e he hb) (fun j hj => by
      rw [Array.getD_eq_getD_getElem?] at hj
      by_cases e : i = j
      · exact .inr e.symm
      · rw [Array.getElem?_setIfInBounds_ne e] at hj
        exact .inl (by rw [Array.getD_eq_getD_getElem?]; exact hj)) hr (any_small hN hok fuel _ (by simpa using hs)) h'
/-! ### The rule -/
def smB (N : Nat) (L : List Nat) (base m : Nat) (ol : List Oper) : Bool :=
  slotsB N L base m && (ol.zipIdx.all fun p => okOper ol.toArray L base m p.1 && p.1.after.all (fun e => !Region.binds .any e || Nat.blt e.on p.2)) && (List.range' base m).all (fun t => ol.any (fun o => o.dst == some t))
theorem sm_oks {N : Nat} {ol : List Oper} (h : smB N L base m ol = true) : SlotsOk N L base m ∧ Oks ol.toArray L base m := by
  unfold smB at h
  simp only [Bool.and_eq_true] at h
  obtain ⟨⟨h1, h2⟩, h3⟩ := h
  have key : ∀ (j : Nat) (o : Oper), ol.toArray[j]? = some o → okOper ol.toArray L base m o = true ∧ ∀ e ∈ o.after, Region.binds .any e = true → e.on < j := fun j o ho => by
    have hm : (o, j) ∈ ol.zipIdx := by
      rw [List.mem_zipIdx_iff_getElem?]
      simpa using ho
    have := List.all_eq_true.1 h2 _ hm
    simp only [Bool.and_eq_true] at this
    refine ⟨this.1, fun e he hb => ?_⟩
    have h4 := Array.all_eq_true'.1 this.2 e he
    rw [hb] at h4
    simpa using h4
  refine ⟨slots_ok h1, fun j o ho => (key j o ho).1, fun j o ho => (key j o ho).2, fun t ht ht' => ?_⟩
  have := List.all_eq_true.1 h3 t (by rw [List.mem_range'_1]; omega)
  obtain ⟨o, ho, hd⟩ := List.any_eq_true.1 this
  obtain ⟨j, hj⟩ := List.getElem?_of_mem ho
  exact ⟨j, o, by simpa using hj, by simpa using hd⟩
def Agree (a : Act) : List Nat → List Value → Prop
  | [], [] => True
  | t :: L, v :: l => a.tmps.getD t undef = v ∧ Agree a L l
  | _, _ => False
theorem agN {a : Act} : Agree a [] [] := trivial
theorem agC {a : Act} {t : Nat} {v : Value} {L : List Nat} {l : List Value} (h : a.tmps[t]? = some v) (hl : Agree a L l) : Agree a (t :: L) (v :: l) := ⟨by rw [Array.getD_eq_getD_getElem?, h]; rfl, hl⟩
theorem agU {a : Act} {t : Nat} {L : List Nat} {l : List Value} (hl : Agree a L l) : Agree a (t :: L) (a.tmps.getD t undef :: l) := ⟨rfl, hl⟩
theorem Agree.len {a : Act} : ∀ {L : List Nat} {l : List Value}, Agree a L l → L.length = l.length
  | [], [], _ => rfl
  | [], _ :: _, h => h.elim
  | _ :: _, [], h => h.elim
  | _ :: _, _ :: _, h => by simp [Agree.len h.2]
theorem Agree.at_ {a : Act} : ∀ {L : List Nat} {l : List Value}, Agree a L l → (∀ t ∈ L, t < a.tmps.size) → ∀ t, L.contains t = true → a.tmps[t]? = l[ix L t]?
  | [], _, _, _, t, ht => by simp at ht
  | _ :: _, [], h, _, _, _ => h.elim
  | x :: L, v :: l, h, hs, t, ht => by
    unfold ix
    by_cases hx : x = t
    · subst hx
      have := hs x (by simp)
      have h1 := h.1
      rw [Array.getD_eq_getD_getElem?, Array.getElem?_eq_getElem this] at h1
      have hb : Nat.beq x x = true := Nat.beq_refl x
      rw [hb, Array.getElem?_eq_getElem this]
      simpa using h1
    · have hb : Nat.beq x t = false := by
        cases hq : Nat.beq x t
        · rfl
        · exact absurd (Nat.eq_of_beq_eq_true hq) hx
      rw [hb]
      simp only [cond_false, List.getElem?_cons_succ]
      refine Agree.at_ h.2 (fun t ht => hs t (by simp [ht])) t ?_
      simp at ht ⊢
      rcases ht with h | h
      · exact absurd h.symm hx
      · exact h
theorem rel_start {a : Act} {l : List Value} (hN : SlotsOk a.tmps.size L base m) (hd : a.defers = []) (hl : Agree a L l) (T : Nat → Prop) (hT : ∀ j, ¬ T j) : Rel ops L base m a T a ⟨(l ++ List.replicate m undef).toArray, []⟩ := by
  refine ⟨rfl, by simp [hl.len], hd, fun t ht htt => ?_, fun _ _ => rfl⟩
  rcases htt with hb | ⟨j, _, hj, _⟩
  · have hbl : Nat.ble base t = false := by
      cases hc : Nat.ble base t
      · rfl
      · have := Nat.le_of_ble_eq_true hc; omega
    unfold inS at ht
    unfold fS
    rw [hbl] at ht
    simp only [hbl, cond_false] at ht ⊢
    have hix := ix_lt ht
    rw [hl.at_ (fun u hu => hN.few u (by simpa using hu)) t ht]
    rw [List.getElem?_toArray, List.getElem?_append_left (by rw [← hl.len]; exact hix)]
  · exact absurd hj (hT j)
/-- A region that runs as it stands. -/
theorem sm_list {id N : Nat} {ol ol' : List Oper} {l : List Value} {a : Act} {w : World} (L : List Nat) (base m : Nat) (hs : a.tmps.size = N) (hd : a.defers = []) (hc : smB N L base m ol = true) (hl : Agree a L l) (he : ol.map (reOper (fS L base)) = ol')
    (h : wpList P ol'.toArray (back L base m a Q) ol' ⟨(l ++ List.replicate m undef).toArray, []⟩ w) : (Code.region id ol.toArray false).wp P Q a w := by
  subst hs
  obtain ⟨hN, hok⟩ := sm_oks hc
  refine wp_region_lit ?_
  refine list_small (base := base) (m := m) (L := L) hN hok ol 0 (fun j => by simp) a _ w (rel_start hN hd hl _ (fun j hj => by omega)) ?_
  rw [List.map_toArray, he]
  exact h
/-- A region that draws its order. -/
theorem sm_any {id N : Nat} {ol ol' : List Oper} {l : List Value} {a : Act} {w : World} (L : List Nat) (base m : Nat) (hm : P.follows .mixedOrders = true) (hs : a.tmps.size = N) (hd : a.defers = []) (hc : smB N L base m ol = true) (hl : Agree a L l) (he : ol.map (reOper (fS L base)) = ol')
    (h : wpAny P .any ol'.toArray (back L base m a Q) ol'.length (Array.replicate ol'.length false) ⟨(l ++ List.replicate m undef).toArray, []⟩ w.drew) : (Code.region id ol.toArray true).wp P Q a w := by
  subst hs
  obtain ⟨hN, hok⟩ := sm_oks hc
  refine wp_region_any hm ?_
  refine any_small (base := base) (m := m) (L := L) hN hok _ _ (by simp) a _ _ (rel_start hN hd hl _ (fun j hj => by
    rw [Array.getD_eq_getD_getElem?] at hj
    rcases Nat.lt_or_ge j ol.toArray.size with h1 | h1
    · rw [Array.getElem?_eq_getElem (by simpa using h1)] at hj; simp at hj
    · rw [Array.getElem?_eq_none (by simpa using h1)] at hj; simp at hj)) ?_
  rw [List.map_toArray, he]
  have e1 : ol'.length = ol.toArray.size := by rw [← he]; simp
  rw [← e1]
  exact h
theorem Sm.got {a a1 : Act} {l : List Value} {d : List Deferred} (H : Sm L base m a a1 ⟨l.toArray, d⟩) {t : Nat} {v : Value} (ht : inS L base m t = true) (hv : l[fS L base t]? = some v) : a1.tmps[t]? = some v := by
  rw [H.inn t ht]
  show l.toArray[_]? = _
  rw [List.getElem?_toArray]
  exact hv
theorem Sm.keep {a a1 b : Act} (H : Sm L base m a a1 b) {t : Nat} {v : Value} (h : a.tmps[t]? = some v) (ht : inS L base m t = false) : a1.tmps[t]? = some v := by rw [H.out t ht]; exact h
theorem Sm.k {a a1 b : Act} (H : Sm L base m a a1 b) {t : Nat} {v : Value} (h : a.tmps[t]? = some v) (ht : inS L base m t = false) : a1.tmps[t]? = some v := H.keep h ht
theorem Sm.g {a a1 : Act} {l : List Value} {d : List Deferred} (H : Sm L base m a a1 ⟨l.toArray, d⟩) (t : Nat) {v : Value} (ht : inS L base m t = true) (hv : l[fS L base t]? = some v) : a1.tmps[t]? = some v := H.got ht hv
theorem Sm.s {a a1 b : Act} (H : Sm L base m a a1 b) {N : Nat} (h : a.tmps.size = N) : a1.tmps.size = N := H.size.trans h
theorem Sm.d {a a1 b : Act} (H : Sm L base m a a1 b) (h : b.defers = []) : a1.defers = [] := H.defers.trans h
theorem slot {a : Act} {t : Nat} {v : Value} (h : a.tmps[t]? = some v) : a.tmps.getD t undef = v := by rw [Array.getD_eq_getD_getElem?, h]; rfl
theorem slotE {a : Act} {t : Nat} {v : Value} (h : a.tmps[t]? = some v) : a.eval (.tmp t) = v := slot h
theorem calls_sm {f : FuncId} {fn : Func} {N : Nat} {args : Array Value} {w : World} {R : Ending → World → Prop} (hf : P.funcs[f]? = some fn) (hb : fn.body.isSome = true) (hN : args.size + (fn.ntmps - args.size) = N)
    (h : ∀ a : Act, a.tmps.size = N → a.defers = [] → (∀ (i : Nat) (v : Value), args[i]? = some v → a.tmps[i]? = some v) → Code.wp P (bodyOf fn) (bodyPost P fn R) a w) : Calls P f args w R := by
  cases hc : fn.body with
  | none => rw [hc] at hb; cases hb
  | some c =>
    refine calls_of_wp hf hc ?_
    have := h { tmps := args ++ Array.replicate (fn.ntmps - args.size) undef, defers := [] } (by simp [← hN]) rfl (fun i v hv => by
      have hi := (Array.getElem?_eq_some_iff.1 hv).1
      show (args ++ _)[i]? = _
      rw [Array.getElem?_append_left hi]; exact hv)
    unfold bodyOf at this
    rw [hc] at this
    exact this
theorem sm_ret {fn : Func} {R : Ending → World → Prop} {a : Act} {w : World} {t : Tmp} {v : Value} (hr : fn.results = #[.tmp t]) (hd : a.defers = []) (e : a.tmps[t]? = some v) (hR : R (.returned v) w) : bodyPost P fn R .ret a w :=
  bodyPost_ret (results_tmp hr _ _ _) hd (by rw [Array.getD_eq_getD_getElem?, e]; exact hR)
theorem ret_block {id : Nat} {Q : Exit → Act → World → Prop} {a : Act} {w : World} (h : Q .ret a w) : Exit.inBlock id Q .ret a w := h
theorem exit_hit {id : Nat} {Q : Exit → Act → World → Prop} {a : Act} {w : World} (h : Q .normal a w) : Exit.inBlock id Q (.exit id) a w := by simp only [Exit.inBlock, if_true]; exact h
theorem exit_miss {i j : Nat} {Q : Exit → Act → World → Prop} {a : Act} {w : World} (hij : i ≠ j) (h : Q (.exit i) a w) : Exit.inBlock j Q (.exit i) a w := by simp only [Exit.inBlock, if_neg hij]; exact h
theorem exit_then {e : Exit} {K : Act → World → Prop} {Q : Exit → Act → World → Prop} {a : Act} {w : World} (he : (match e with | .normal => false | _ => true) = true) (h : Q e a w) : Exit.then K Q e a w := by
  cases e <;> first | exact h | cases he
theorem fS_ite (L : List Nat) (base t : Nat) : fS L base t = if base ≤ t then L.length + (t - base) else ix L t := by
  unfold fS
  by_cases h : base ≤ t
  · rw [Nat.ble_eq_true_of_le h, if_pos h]; rfl
  · have : Nat.ble base t = false := by
      cases hc : Nat.ble base t
      · rfl
      · exact absurd (Nat.le_of_ble_eq_true hc) h
    rw [this, if_neg h]; rfl
theorem ix_ite (x : Nat) (xs : List Nat) (t : Nat) : ix (x :: xs) t = if x = t then 0 else ix xs t + 1 := by
  by_cases h : x = t
  · subst h; rw [if_pos rfl]; unfold ix; rw [show Nat.beq x x = true from Nat.beq_refl x]; rfl
  · rw [if_neg h]
    conv => lhs; unfold ix
    have hb : Nat.beq x t = false := by
      cases hq : Nat.beq x t
      · rfl
      · exact absurd (Nat.eq_of_beq_eq_true hq) h
    rw [hb]; rfl
theorem any_class {ol : List Oper} {a : Act} {w : World} (C : World → Prop) (hB : Region.lexB .any ol.toArray = true) (hC : C w.drew)
    (h : wpQuiet P ol.toArray C (fun a' => ∀ w', C w' → Q .normal a' w') ol a) : wpAny P .any ol.toArray Q ol.length (Array.replicate ol.length false) a w.drew := by
  simp only [Region.lexB, Bool.and_eq_true] at hB
  refine wpAny_of_quiet (Q := fun a' => ∀ w', C w' → Q .normal a' w') (fun _ w' hw' h => h w' hw') _ _ _ _ hC ?_
  have := wpAnyQ_lex (C := C) (md := .any) hB.1 ol 0 (Array.replicate ol.toArray.size false) a (by simp) (by simpa using hB.2) h
  simpa using this
theorem any_tail {ol : List Oper} {a : Act} {w : World} (n : Nat) (C : World → Prop) (hB : Region.lexTailB .any ol.toArray n = true) (hC : C w.drew)
    (h : wpQuiet P ol.toArray C (fun a' => ∀ w', C w' → wpList P ol.toArray Q (ol.drop n) a' w') (ol.take n) a) : wpAny P .any ol.toArray Q ol.length (Array.replicate ol.length false) a w.drew := by
  simp only [Region.lexTailB, Bool.and_eq_true, decide_eq_true_eq] at hB
  obtain ⟨⟨⟨⟨hsel, hn⟩, hs⟩, hc⟩, hlex⟩ := hB
  have hn' : n < ol.length := by simpa using hn
  have htl : (ol.take n).length = n := by simp; omega
  have hdl : (ol.drop n).length = ol.toArray.size - n := by simp
  have inv0 : HeadInv .any ol.toArray n (Array.replicate ol.toArray.size false) :=
    ⟨by simp, fun j oj _ hl => (by rw [getD_replicate_false] at hl; cases hl), fun t _ ht => getD_in (by simpa using ht) (getD_replicate_false _ _)⟩
  have H := headAny_lex (md := .any) (g := ol.toArray.size - n) hsel hs hc hn (ol.take n) 0 _ a (fun j hj => by
    have hj' : j < n := by rw [htl] at hj; exact hj
    simp [hj']) (by simpa using htl) inv0 (by rw [htl]; exact hlex) h
  have := wpAny_of_headAny (Q' := Q) (g := ol.toArray.size - n) (fun listed a' w' hw' hL => by
    have := wpAny_of_seq (md := .any) (Q' := Q) (ol.drop n) n listed a' w' (fun j => by simp [List.getElem?_drop]) (by rw [hdl]; exact hL.1) (hL.2 w' hw')
    rwa [hdl] at this) _ _ _ w.drew hC H
  rw [htl, show n + (ol.toArray.size - n) = ol.length by simp; omega] at this
  simpa using this
theorem any_tree {ol : List Oper} {a : Act} {w : World} (ks : List Nat) (t : Tr) (S : World → Prop)
    (hB : (Region.noSelect ol.toArray && decide (t.len = ol.length) && trB .any ol.toArray ks t (Array.replicate ol.length false)) = true)
    (hQ : ∀ c a (d : Tmp) v w, Q (.panic c) (a.put (some d) v) w → Q (.panic c) a w) (hS : S w.drew) (h : wpTr P ol.toArray S Q t a w.drew) : wpAny P .any ol.toArray Q ol.length (Array.replicate ol.length false) a w.drew := by
  simp only [Bool.and_eq_true, decide_eq_true_eq] at hB
  obtain ⟨⟨h1, h2⟩, h3⟩ := hB
  refine wpAny_of_T (S := S) (ks := ks) _ _ _ _ ?_
  have := wpAnyT_tree (md := .any) (S := S) (ks := ks) h1 hQ t (Array.replicate ol.length false) a w.drew h3 (fun _ => hS) h
  rw [h2] at this
  exact this
theorem any_script {ol : List Oper} {a : Act} {w : World} (l : List (Nat × Bool)) (S : World → Prop)
    (hB : (Region.noSelect ol.toArray && decide (l.length = ol.length) && scriptB .any ol.toArray (fun listed => (Region.ready .any ol.toArray listed).isEmpty) l (Array.replicate ol.length false)) = true)
    (hQ : ∀ c a (d : Tmp) v w, Q (.panic c) (a.put (some d) v) w → Q (.panic c) a w) (hS : S w.drew) (h : wpScript P ol.toArray S Q (Q .normal) l a w.drew) : wpAny P .any ol.toArray Q ol.length (Array.replicate ol.length false) a w.drew := by
  simp only [Bool.and_eq_true, decide_eq_true_eq] at hB
  refine wpAny_of_held (S := S) _ _ _ _ ?_
  have := wpAnyH_script (md := .any) (g := 0) hB.1.1 hQ (fun listed a w hB _ h => wpAnyH_done (by simpa using hB) h _) l (Array.replicate ol.length false) a w.drew hB.2 hS h
  rw [Nat.add_zero, hB.1.2] at this
  simpa using this
end
/-- What a region in its small frame is made plain by. -/
theorem rq : (∀ {α : Type} (as bs : List α), List.append as bs = as ++ bs) ∧ (∀ {α : Type} (a : α) (as bs : List α), (a :: as) ++ bs = a :: (as ++ bs)) ∧ (∀ {α : Type} (as : List α), [] ++ as = as) ∧
    (∀ {α β : Type} (f : α → β) (a : α) (as : List α), (a :: as).map f = f a :: as.map f) ∧ (∀ {α β : Type} (f : α → β), ([] : List α).map f = []) ∧ (∀ {α β : Type} (f : α → β) (a : α), (some a).map f = some (f a)) ∧ (∀ {α β : Type} (f : α → β), (none : Option α).map f = none) ∧
    (∀ (L : List Nat) (base t : Nat), fS L base t = if base ≤ t then L.length + (t - base) else ix L t) ∧ (∀ (x : Nat) (xs : List Nat) (t : Nat), ix (x :: xs) t = if x = t then 0 else ix xs t + 1) ∧
    (∀ {α : Type} {h : Decidable True} (a b : α), @ite α True h a b = a) ∧ (∀ {α : Type} {h : Decidable False} (a b : α), @ite α False h a b = b) ∧
    (∀ {α : Type} (a : α) (as : List α), (a :: as).length = as.length + 1) ∧ (∀ {α : Type}, ([] : List α).length = 0) ∧ (∀ {α β : Type} (f : α → β) (as : List α), as.toArray.map f = (as.map f).toArray) ∧
    (∀ {α : Type} (a : α) (n : Nat), List.replicate (n + 1) a = a :: List.replicate n a) ∧ (∀ {α : Type} (a : α), List.replicate 0 a = []) ∧
    (∀ {α : Type} (a : α) (as : List α) (n : Nat), (a :: as).drop (n + 1) = as.drop n) ∧ (∀ {α : Type} (as : List α), as.drop 0 = as) ∧ (∀ {α : Type} (a : α) (as : List α) (n : Nat), (a :: as).take (n + 1) = a :: as.take n) ∧ (∀ {α : Type} (as : List α), as.take 0 = []) :=
  ⟨fun _ _ => rfl, fun _ _ _ => rfl, fun _ => rfl, fun _ _ _ => rfl, fun _ => rfl, fun _ _ => rfl, fun _ => rfl, fS_ite, ix_ite, fun _ _ => if_pos trivial, fun _ _ => if_neg id, fun _ _ => rfl, rfl, fun f as => by simp, fun _ _ => rfl, fun _ => rfl, fun _ _ _ => rfl, fun _ => rfl, fun _ _ _ => rfl, fun _ => rfl⟩
attribute [seval] rq reOper reOp reO reC reK
end Go.Proofs.YthhlfojaloaooaaGreat
