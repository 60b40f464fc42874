/-
  Words for memory and the law's last step, over any program: no program of this seat's is named here.
-/
import Derived.Below
import Derived.Calls
import Derived.Laws.OwnMore
import Derived.Deep.AppendLies
import Derived.Deep.Draws
import Derived.Deep.QuietTactic
import Derived.Deep.OwnRows
import Derived.Deep.Slices
import Derived.Deep.Fields
import Derived.Laws.Rows
import Derived.Laws.AppendOwn
import Derived.Laws.MakeOwn
import Derived.Laws.Entries
import Derived.Laws.BitsAllLaws
import Derived.Laws.BitsLemmas
import Derived.Maps.AppendAt
import Derived.RegionTactic
import Derived.OwnWalk
import Derived.LaidEqlPtr
import Derived.ChangeSame
import Derived.Carry
import Derived.ProofKit
import Derived.SizedLaws
import Derived.Deep.Quiet
import Derived.StillTail
import Derived.OrdersHeld
import Derived.OpenShut
namespace Go.Proofs.YthhlfojaloaooaaGreat
open Go.RowKit Go.WideShapes Go.ChangeShapes

theorem block_of_add (a : Addr) (n : Nat) : (a.add n).block = a.block := by unfold Addr.add; split <;> rfl
theorem add_of_add (a : Addr) (i j : Nat) : (a.add i).add j = a.add (i + j) := by
  unfold Addr.add
  by_cases hi : i = 0 <;> by_cases hj : j = 0 <;> simp [hi, hj, Nat.add_assoc]

def Reads (w : World) (B size : Nat) (A : Option Addr) (n : Nat) (xs : List Value) : Prop :=
  xs.length = n * size ∧ (0 < n → ∃ ad, A = some ad ∧ ad.block < B ∧ ∀ j u, xs[j]? = some u → w.cell? (ad.add j) = some u)

section
variable {w w' : World} {B B' size n : Nat} {A : Option Addr} {xs : List Value}
theorem Reads.none_ : Reads w B size A 0 [] := ⟨by simp, fun h => absurd h (by omega)⟩
theorem Reads.at_ {k : Nat} (h : Reads w B 1 A n xs) (hk : k < n) : ∃ ad u, A = some ad ∧ ad.block < B ∧ xs[k]? = some u ∧ w.cell? (ad.add k) = some u := by
  obtain ⟨ad, e, hb, hc⟩ := h.2 (by omega)
  have hl : k < xs.length := by have := h.1; omega
  exact ⟨ad, xs[k], e, hb, List.getElem?_eq_getElem hl, hc k _ (List.getElem?_eq_getElem hl)⟩
theorem Reads.keep (h : Reads w B size A n xs) (hk : ∀ p : Addr, p.block < B → w'.cell? p = w.cell? p) : Reads w' B size A n xs :=
  ⟨h.1, fun hn => by
    obtain ⟨ad, e, hb, hc⟩ := h.2 hn
    exact ⟨ad, e, hb, fun j u hu => (hk _ (by rw [block_of_add]; exact hb)).trans (hc j u hu)⟩⟩
theorem Reads.more (h : Reads w B size A n xs) (hB : B ≤ B') : Reads w B' size A n xs :=
  ⟨h.1, fun hn => by
    obtain ⟨ad, e, hb, hc⟩ := h.2 hn
    exact ⟨ad, e, by omega, hc⟩⟩
theorem Reads.below (h : Reads w B size A n xs) (hb : Below B w w') : Reads w' B size A n xs := h.keep fun _ hp => hb.cell hp
theorem Reads.drew (h : Reads w B size A n xs) : Reads w.drew B size A n xs := h
theorem Reads.drewN (h : Reads w B size A n xs) (k : Nat) : Reads (w.drewN k) B size A n xs := h
theorem Reads.alloc (h : Reads w B size A n xs) (hB : B ≤ w.heap.size) (o : Obj) : Reads (w.alloc o) B size A n xs := h.keep fun p hp => World.cell?_alloc_lt w o p (by omega)
theorem Reads.setCell (h : Reads w B size A n xs) {p : Addr} (hB : B ≤ p.block) (u : Value) : Reads (w.setCell p u) B size A n xs :=
  h.keep fun q hq => World.cell?_setCell_other w p q u (fun e => by subst e; omega)
theorem Reads.grown (h : Reads w B size A n xs) {row : Option Nat} (hg : w.grownBy w' row) (hB : B ≤ w.heap.size) (hr : ∀ g, row = some g → B ≤ g) : Reads w' B size A n xs :=
  h.keep fun p hp => World.cell?_of_block (hg.block p.block (by omega) (fun e => by have := hr _ e.symm; omega))
theorem Reads.cut (h : Reads w B size A n xs) {k cap : Nat} (hk : k ≤ n) (hc : n ≤ cap) :
    Reads w B size (if cap = k then A else A.map (·.add (k * size))) (n - k) (xs.drop (k * size)) := by
  refine ⟨by rw [List.length_drop, h.1, Nat.sub_mul], fun hn => ?_⟩
  obtain ⟨ad, rfl, hb, hcell⟩ := h.2 (by omega)
  rw [if_neg (by omega)]
  refine ⟨ad.add (k * size), rfl, by rw [block_of_add]; exact hb, fun j u hu => ?_⟩
  rw [add_of_add]
  exact hcell _ u (by rw [← hu, List.getElem?_drop])
theorem Reads.of_own {base : Nat} {e : TypeId} {c : Nat} (h : w.ownsRow base e size (.slice A n c) n xs) : Reads w w.heap.size size A n xs := by
  refine ⟨h.1, fun hn => ?_⟩
  obtain ⟨g, cap, hv, _, hlt⟩ := h.form hn
  have hA : A = some ⟨g, 0, none⟩ := by injection hv
  subst hA
  exact ⟨_, rfl, hlt, h.cells (g := g) rfl⟩
end

def Blk (w : World) (g : Nat) (t : TypeId) (cs : Array Value) : Prop := w.heap[g]? = some (.cells cs t (0, 0))

section
variable {w w' : World} {g : Nat} {t : TypeId} {cs : Array Value}
theorem Blk.lt (h : Blk w g t cs) : g < w.heap.size := by
  rcases Nat.lt_or_ge g w.heap.size with hlt | hge
  · exact hlt
  · unfold Blk at h; rw [Array.getElem?_eq_none hge] at h; cases h
theorem Blk.cell (h : Blk w g t cs) (i : Nat) : w.cell? ⟨g, i, none⟩ = cs[i]? := cell_of_row w g i cs t (0, 0) h
theorem Blk.frozen (h : Blk w g t cs) (i : Nat) : w.frozen? ⟨g, i, none⟩ = false := by
  unfold Blk at h
  simp [World.frozen?, h]
theorem Blk.new (w : World) (t : TypeId) (cs : Array Value) : Blk (w.alloc (.cells cs t)) w.heap.size t cs := heap_alloc_new w _
theorem Blk.drew (h : Blk w g t cs) : Blk w.drew g t cs := h
theorem Blk.drewN (h : Blk w g t cs) (n : Nat) : Blk (w.drewN n) g t cs := h
theorem Blk.alloc (h : Blk w g t cs) (o : Obj) : Blk (w.alloc o) g t cs := (Below.heap_alloc w o g h.lt).trans h
theorem Blk.set_ (h : Blk w g t cs) (i : Nat) (u : Value) : Blk (w.setCell ⟨g, i, none⟩ u) g t (cs.setIfInBounds i u) := by
  unfold Blk at h ⊢
  simp [World.setCell, Array.getElem?_modify, h]
theorem Blk.far (h : Blk w g t cs) {p : Addr} (hp : g ≠ p.block) (u : Value) : Blk (w.setCell p u) g t cs := (Below.heap_setCell w p u g hp).trans h
theorem Blk.below {B : Nat} (h : Blk w g t cs) (hb : Below B w w') (hg : g < B) : Blk w' g t cs := (hb.block g hg).trans h
theorem Blk.grown {row : Option Nat} (h : Blk w g t cs) (hb : w.grownBy w' row) (hg : some g ≠ row) : Blk w' g t cs := (hb.block g h.lt hg).trans h
theorem Blk.ne_ {g' : Nat} {t' : TypeId} {cs' : Array Value} (h : Blk w g t cs) (h' : Blk w g' t' cs') (hne : t ≠ t') : g ≠ g' := by
  rintro rfl
  unfold Blk at h h'
  rw [h] at h'
  injection h' with h'
  injection h' with _ ht
  exact hne ht
theorem own_blk_ne {base : Nat} {e : TypeId} {size n : Nat} {v : Value} {xs : List Value} (h : w.ownsRow base e size v n xs) (hg : Blk w g t cs) (hne : e ≠ t) : v.ownBlock ≠ some g := by
  rcases h.2 with ⟨rfl, _⟩ | ⟨g', cap, cur, rfl, _, hh, _⟩
  · simp [Value.ownBlock]
  · intro he
    have : g' = g := by simpa [Value.ownBlock] using he
    subst this
    exact Blk.ne_ (t := e) hh hg hne rfl
end

section
variable {P : Program} (w : World)

theorem run_append_of_nil (base : Nat) (t ty e : TypeId) (i : TypeInfo) (size : Nat) (ht : P.underlying t = some (.slice e)) (hi : P.info? e = some i)
    (v : Value) (n : Nat) (xs : List Value) (hown : w.ownsRow base e size v n xs) (c : Nat) : (Builtin.append_ #[t, t] ty #[v, .slice none 0 c]).run P w = .ok v w := by
  rcases hown.2 with ⟨rfl, rfl⟩ | ⟨g, cap, cur, rfl, _, _, hnc, _⟩
  · simp [Builtin.append_, run_underlying ht, sizeOf, typeInfo, hi, Builtin.lenOf, Builtin.firstCells]
  · simp [Builtin.append_, run_underlying ht, sizeOf, typeInfo, hi, Builtin.lenOf, Builtin.firstCells, hnc, storeCells]

theorem run_append_any (base : Nat) (t ty e : TypeId) (i : TypeInfo) (z : Value) (size bytes : Nat) (ht : P.underlying t = some (.slice e)) (hi : P.info? e = some i) (hz : i.zero = some z)
    (hsize : i.size = size) (hby : i.bytes = bytes) (hzs : z.cells.size = size) (hsz : 0 < size)
    (v : Value) (n : Nat) (xs : List Value) (hown : w.ownsRow base e size v n xs)
    (B : Nat) (A : Option Addr) (m c : Nat) (news : List Value) (hr : Reads w B size A m news) (h1 : ∀ u ∈ news, u.oneCell' = true)
    (h63 : n + m ≤ maxLen) (hbytes : (n + m) * bytes ≤ 140737488355328) (hbase : base ≤ w.heap.size) :
    ∃ v' w', (Builtin.append_ #[t, t] ty #[v, .slice A m c]).run P w = .ok v' w' ∧ w'.ownsRow base e size v' (n + m) (xs ++ news) ∧ w.grownBy w' v.ownBlock ∧
      (v'.ownBlock = v.ownBlock ∨ v'.ownBlock = some w.heap.size) := by
  rcases A with _ | ad
  · have hm : m = 0 := by
      rcases Nat.eq_zero_or_pos m with h0 | h0
      · exact h0
      · obtain ⟨ad, h, _⟩ := hr.2 h0
        cases h
    subst hm
    have hn : news = [] := List.eq_nil_of_length_eq_zero (by simpa using hr.1)
    subst hn
    exact ⟨v, w, run_append_of_nil w base t ty e i size ht hi v n xs hown c, by simpa using hown, World.grownBy.refl w _, .inl rfl⟩
  · have hcells : ∀ j u, news[j]? = some u → w.cell? (ad.add j) = some u := by
      intro j u hu
      rcases Nat.eq_zero_or_pos m with h0 | h0
      · subst h0
        have hn : news = [] := List.eq_nil_of_length_eq_zero (by simpa using hr.1)
        subst hn
        simp at hu
      · obtain ⟨ad', h, _, hc⟩ := hr.2 h0
        injection h with h
        subst h
        exact hc j u hu
    obtain ⟨v', w', hrun, h2, h3, _, h5⟩ := run_append_own_at (P := P) w base t ty e i z size bytes ht hi hz hsize hby hzs hsz v n xs hown ad m c news hr.1 hcells h1 h63 hbytes hbase
    exact ⟨v', w', hrun, h2, h3, h5⟩

theorem wp_append_any {o : Oper} {a : Act} {K : Act → World → Prop} {Q : Exit → Act → World → Prop} (s x : Operand) (t : TypeId)
    (ho : o.op = .call { callee := .builtin .append, args := #[s, x], argTypes := #[t, t] })
    (base : Nat) (e : TypeId) (i : TypeInfo) (z : Value) (size bytes : Nat) (ht : P.underlying t = some (.slice e)) (hi : P.info? e = some i) (hz : i.zero = some z)
    (hsize : i.size = size) (hby : i.bytes = bytes) (hzs : z.cells.size = size) (hsz : 0 < size)
    (v : Value) (n : Nat) (xs : List Value) (hs : a.eval s = v) (hown : w.ownsRow base e size v n xs)
    (B : Nat) (A : Option Addr) (m c : Nat) (news : List Value) (hx : a.eval x = .slice A m c) (hr : Reads w B size A m news) (h1 : ∀ u ∈ news, u.oneCell' = true)
    (h63 : n + m ≤ maxLen) (hbytes : (n + m) * bytes ≤ 140737488355328) (hbase : base ≤ w.heap.size)
    (h : ∀ v' w', w'.ownsRow base e size v' (n + m) (xs ++ news) → w.grownBy w' v.ownBlock → (v'.ownBlock = v.ownBlock ∨ v'.ownBlock = some w.heap.size) → K (a.put o.dst v') w') : o.wp P a w K Q := by
  obtain ⟨v', w', hrun, h2, h3, h4⟩ := run_append_any (P := P) w base t o.type e i z size bytes ht hi hz hsize hby hzs hsz v n xs hown B A m c news hr h1 h63 hbytes hbase
  unfold Oper.wp execOp
  simp only [ho, resolve, invoke, builtin, Sem.run_bind, Sem.run_pure, Result.andThen_ok, List.map_toArray, List.map_cons, List.map_nil, hs, hx, hrun]
  exact h v' w' h2 h3 h4

theorem wpList_append_any {ops : Array Oper} {rest : List Oper} {o : Oper} {a : Act} {Q : Exit → Act → World → Prop} (hgd : o.guard = none) (s x : Operand) (t : TypeId)
    (ho : o.op = .call { callee := .builtin .append, args := #[s, x], argTypes := #[t, t] })
    (base : Nat) (e : TypeId) (i : TypeInfo) (z : Value) (size bytes : Nat) (ht : P.underlying t = some (.slice e)) (hi : P.info? e = some i) (hz : i.zero = some z)
    (hsize : i.size = size) (hby : i.bytes = bytes) (hzs : z.cells.size = size) (hsz : 0 < size)
    (v : Value) (n : Nat) (xs : List Value) (hs : a.eval s = v) (hown : w.ownsRow base e size v n xs)
    (B : Nat) (A : Option Addr) (m c : Nat) (news : List Value) (hx : a.eval x = .slice A m c) (hr : Reads w B size A m news) (h1 : ∀ u ∈ news, u.oneCell' = true)
    (h63 : n + m ≤ maxLen) (hbytes : (n + m) * bytes ≤ 140737488355328) (hbase : base ≤ w.heap.size)
    (h : ∀ v' w', w'.ownsRow base e size v' (n + m) (xs ++ news) → w.grownBy w' v.ownBlock → (v'.ownBlock = v.ownBlock ∨ v'.ownBlock = some w.heap.size) → wpList P ops Q rest (a.put o.dst v') w') : wpList P ops Q (o :: rest) a w :=
  wpList_plain hgd fun _ hK => wp_append_any w s x t ho base e i z size bytes ht hi hz hsize hby hzs hsz v n xs hs hown B A m c news hx hr h1 h63 hbytes hbase fun v' w' h2 h3 h4 => hK _ _ (h v' w' h2 h3 h4)

theorem step_append_any {ops : Array Oper} {o : Oper} {a : Act} {K : Act → World → Prop} {Q : Exit → Act → World → Prop} {E : Prop} (hgd : o.guard = none) (s x : Operand) (t : TypeId)
    (ho : o.op = .call { callee := .builtin .append, args := #[s, x], argTypes := #[t, t] })
    (base : Nat) (e : TypeId) (i : TypeInfo) (z : Value) (size bytes : Nat) (ht : P.underlying t = some (.slice e)) (hi : P.info? e = some i) (hz : i.zero = some z)
    (hsize : i.size = size) (hby : i.bytes = bytes) (hzs : z.cells.size = size) (hsz : 0 < size)
    (v : Value) (n : Nat) (xs : List Value) (hs : a.eval s = v) (hown : w.ownsRow base e size v n xs)
    (B : Nat) (A : Option Addr) (m c : Nat) (news : List Value) (hx : a.eval x = .slice A m c) (hr : Reads w B size A m news) (h1 : ∀ u ∈ news, u.oneCell' = true)
    (h63 : n + m ≤ maxLen) (hbytes : (n + m) * bytes ≤ 140737488355328) (hbase : base ≤ w.heap.size)
    (h : ∀ v' w', w'.ownsRow base e size v' (n + m) (xs ++ news) → w.grownBy w' v.ownBlock → (v'.ownBlock = v.ownBlock ∨ v'.ownBlock = some w.heap.size) → K (a.put o.dst v') w') :
    if Region.wanted o (yielded ops a.tmps) = true then Oper.wp P o a w K Q else E := by
  have hw : Region.wanted o (yielded ops a.tmps) = true := by simp [Region.wanted, hgd]
  rw [if_pos hw]
  exact wp_append_any w s x t ho base e i z size bytes ht hi hz hsize hby hzs hsz v n xs hs hown B A m c news hx hr h1 h63 hbytes hbase h
end

theorem hide {p : Prop} (h : p) : Hid p := h
theorem unhide {p : Prop} (h : Hid p) : p := h

theorem quiet_add {P : Program} {f : FuncId} {args : Array Value} {w : World} {a n : Nat} {v : Value}
    (h : Calls P f args (w.drewN (a + n)) fun e w' => e = .returned v ∧ ∃ m, w' = (w.drewN (a + n)).drewN m) :
    Calls P f args (w.drewN (a + n)) fun e w'' => e = .returned v ∧ ∃ m, w'' = w.drewN (a + m) :=
  h.mono fun _ _ ⟨he, m, hm⟩ => ⟨he, n + m, by rw [hm, World.drewN_drewN, Nat.add_assoc]⟩
theorem quiet_add_same {P : Program} {f : FuncId} {args : Array Value} {w : World} {a n : Nat} {v : Value}
    (h : Calls P f args (w.drewN (a + n)) fun e w' => e = .returned v ∧ w' = w.drewN (a + n)) :
    Calls P f args (w.drewN (a + n)) fun e w'' => e = .returned v ∧ ∃ m, w'' = w.drewN (a + m) :=
  h.mono fun _ _ ⟨he, hm⟩ => ⟨he, n, hm⟩
theorem quiet_add_left {P : Program} {f : FuncId} {args : Array Value} {w : World} {a n : Nat} {v : Value}
    (h : Calls P f args (w.drewN (a + n)) fun e w' => e = .returned v ∧ w.drewN (a + n) = w') :
    Calls P f args (w.drewN (a + n)) fun e w'' => e = .returned v ∧ ∃ m, w'' = w.drewN (a + m) :=
  h.mono fun _ _ ⟨he, hm⟩ => ⟨he, n, hm.symm⟩
theorem quiet_left {P : Program} {f : FuncId} {args : Array Value} {w : World} {n : Nat} {v : Value}
    (h : Calls P f args (w.drewN n) fun e w' => e = .returned v ∧ w.drewN n = w') : Calls P f args (w.drewN n) fun e w'' => e = .returned v ∧ ∃ m, w'' = w.drewN m :=
  h.mono fun _ _ ⟨he, hm⟩ => ⟨he, n, hm.symm⟩

theorem results_tmp4 {fn : Func} {t u v x : Tmp} (h : fn.results = #[.tmp t, .tmp u, .tmp v, .tmp x]) (tmps : Array Value) (P : Program) (w : World) :
    (results fn tmps).run P w = .ok (.tuple #[tmps.getD t undef, tmps.getD u undef, tmps.getD v undef, tmps.getD x undef]) w := by simp [results, h]
theorem results_tmp5 {fn : Func} {t u v x y : Tmp} (h : fn.results = #[.tmp t, .tmp u, .tmp v, .tmp x, .tmp y]) (tmps : Array Value) (P : Program) (w : World) :
    (results fn tmps).run P w = .ok (.tuple #[tmps.getD t undef, tmps.getD u undef, tmps.getD v undef, tmps.getD x undef, tmps.getD y undef]) w := by simp [results, h]

theorem below_drewN {B : Nat} {a w : World} (h : Below B a w) (n : Nat) : Below B a (w.drewN n) := ⟨h.os, h.tape, h.output, h.size, h.block⟩
theorem rowIs_drewN {w : World} {b : Nat} {t : TypeId} {n : Nat} {f : Nat → Value} (h : w.rowIs b t n f) (k : Nat) : (w.drewN k).rowIs b t n f := h
theorem grown_trans {a b c : World} (h : Grown a b) (k : Grown b c) : Grown a c :=
  ⟨World.keptBut_trans h.1 k.1, fun x => (k.2.1 x).trans (h.2.1 x), Nat.le_trans h.2.2 k.2.2⟩

theorem only_drewN {a w : World} {row : Option Nat} (h : a.grownBy w row) (n : Nat) : a.grownBy (w.drewN n) row := ⟨h.os, h.tape, h.output, h.size, h.block⟩
theorem only_drew {a w : World} {row : Option Nat} (h : a.grownBy w row) : a.grownBy w.drew row := ⟨h.os, h.tape, h.output, h.size, h.block⟩
theorem only_alloc {a w : World} {row : Option Nat} (h : a.grownBy w row) (o : Obj) : a.grownBy (w.alloc o) row :=
  ⟨h.os, h.tape, h.output, Nat.le_trans h.size (by simp), fun i hi hne => (Below.heap_alloc w o i (Nat.lt_of_lt_of_le hi h.size)).trans (h.block i hi hne)⟩
theorem only_setCell {a w : World} {g : Nat} (h : a.grownBy w (some g)) {p : Addr} (hp : p.block = g ∨ a.heap.size ≤ p.block) (u : Value) : a.grownBy (w.setCell p u) (some g) :=
  ⟨h.os, h.tape, h.output, by simpa [World.setCell] using h.size, fun i hi hne => (Below.heap_setCell w p u i (by
    rintro rfl
    rcases hp with hp | hp
    · exact hne (by rw [hp])
    · omega)).trans (h.block i hi hne)⟩
theorem only_of_below {a w : World} (h : Below a.heap.size a w) (row : Option Nat) : a.grownBy w row := ⟨h.os, h.tape, h.output, h.size, fun i hi _ => h.block i hi⟩

theorem run_store_float (P : Program) (w : World) (a : Addr) (m : Mode) (k : FloatKind) (b : Nat) : (store a (.float k b) m).run P w = stored P w a (.float k b) m := run_store P w a _ m rfl
theorem run_store_complex (P : Program) (w : World) (a : Addr) (m : Mode) (k : FloatKind) (x y : Nat) : (store a (.complex k x y) m).run P w = stored P w a (.complex k x y) m := run_store P w a _ m rfl

theorem run_make_rowN {P : Program} (t e : TypeId) (i : TypeInfo) (z : Value) (ht : P.underlying t = some (.slice e)) (hi : P.info? e = some i) (hz : i.zero = some z)
    (kl kc : IntKind) (n c : Nat) (hnc : n ≤ c) (hbytes : i.bytes * c ≤ 281474976710656) (h63 : c ≤ 9223372036854775807) (w : World) :
    (Instr.makeSlice t (.int kl (n : Int)) (.int kc (c : Int))).run P w = .ok (.slice (some ⟨w.heap.size, 0, none⟩) n c) (w.alloc (.cells (madeCells z.cells (c * i.size)) e)) := by
  have hb : (i.bytes : Int) * (c : Int) ≤ 281474976710656 := by
    have h : ((i.bytes * c : Nat) : Int) ≤ 281474976710656 := by omega
    rwa [Int.natCast_mul] at h
  have hr := run_make (P := P) w t e i z ht hi hz kl kc n c (by omega) (by omega) hb (by omega)
  simp only [Int.toNat_natCast] at hr
  exact hr
theorem run_makeMap_hint {P : Program} (t k e : TypeId) (kd : IntKind) (n : Int) (ht : P.underlying t = some (.map k e)) (w : World) :
    (Instr.makeMap t (some (.int kd n))).run P w = .ok (.map (some w.heap.size)) (w.alloc (.map #[] 0)) := by
  simp [Instr.makeMap, run_underlying ht]; rfl

theorem run_neq_ptr_other {P : Program} (w : World) {tp te : TypeId} {j : TypeInfo} {a b : Addr} {ca cb : Array Value} {ta tb : TypeId} (hp : P.underlying tp = some (.pointer te)) (hte : P.info? te = some j) (hsz : j.size ≠ 0)
    (hne : a ≠ b) (ha : w.heap[a.block]? = some (.cells ca ta (0, 0))) (hb : w.heap[b.block]? = some (.cells cb tb (0, 0))) :
    (binOp .neq tp (.pointer (some a)) (.pointer (some b))).run P w = .ok (.bool true) w := by
  have h : ∀ d : Nat, (Op.equalIn (d + 1) tp (.pointer (some a)) (.pointer (some b))).run P w = .ok false w := fun d => by
    simp [Op.equalIn, run_underlying hp, sizeOf, typeInfo, hte, hsz, run_sameAddr_other w hne ha hb]
  simp only [binOp]
  simp [Op.equal, Op.maxDepth, h 9999]

theorem ofInt_i64 (a : Nat) (ha : a < 9223372036854775808) : (BitVec.ofInt 64 (a : Int)).toNat = a := by
  rw [BitVec.ofInt_natCast, BitVec.toNat_ofNat]; exact Nat.mod_eq_of_lt (by omega)
theorem i64_and_nat (a b : Nat) (ha : a < 9223372036854775808) (hb : b < 9223372036854775808) : bits .and .i64 (a : Int) (b : Int) = ((a &&& b : Nat) : Int) := by
  have hx : a &&& b < 2 ^ 63 := Nat.and_lt_two_pow _ (by omega)
  show IntKind.i64.wrap ((BitVec.ofInt 64 (a : Int) &&& BitVec.ofInt 64 (b : Int)).toNat : Int) = _
  rw [BitVec.toNat_and, ofInt_i64 a ha, ofInt_i64 b hb, IntKind.wrap_i64]
  omega
theorem i64_or_nat (a b : Nat) (ha : a < 9223372036854775808) (hb : b < 9223372036854775808) : bits .or .i64 (a : Int) (b : Int) = ((a ||| b : Nat) : Int) := by
  have hx : a ||| b < 2 ^ 63 := Nat.or_lt_two_pow (by omega) (by omega)
  show IntKind.i64.wrap ((BitVec.ofInt 64 (a : Int) ||| BitVec.ofInt 64 (b : Int)).toNat : Int) = _
  rw [BitVec.toNat_or, ofInt_i64 a ha, ofInt_i64 b hb, IntKind.wrap_i64]
  omega
theorem i64_xor_nat (a b : Nat) (ha : a < 9223372036854775808) (hb : b < 9223372036854775808) : bits .xor .i64 (a : Int) (b : Int) = ((a ^^^ b : Nat) : Int) := by
  have hx : a ^^^ b < 2 ^ 63 := Nat.xor_lt_two_pow (by omega) (by omega)
  show IntKind.i64.wrap ((BitVec.ofInt 64 (a : Int) ^^^ BitVec.ofInt 64 (b : Int)).toNat : Int) = _
  rw [BitVec.toNat_xor, ofInt_i64 a ha, ofInt_i64 b hb, IntKind.wrap_i64]
  omega

section
variable {H : Type} {enc : TypeId × Value → H} {P : Program}
theorem post_of_below {f : Func} {s : ChangeSpec} {apart fresh handsOn again : Bool} {W W' : World} {args : Array Value} {v : Value} {ds gs : List (DataW H)} {before pa pv : List MemPlace}
    (hW : DataW.Whole enc P f.params.toList s.vars apart W args.toList ds gs before)
    (hres : ∀ (b : Nat) (sp : Nat → Bool) (hd : Bool), DataW.TrodAll enc P W' b sp hd f.resultTypes.toList (v.resultList f.resultTypes.size) (s.fn H (ds ++ gs)).results [])
    (hargs : ∀ sp : Nat → Bool, (∀ p ∈ before, sp p.block = true) → DataW.TrodAll enc P W' 0 sp true f.params.toList args.toList (s.fn H (ds ++ gs)).args pa)
    (hvars : ∀ sp : Nat → Bool, (∀ p ∈ before, sp p.block = true) → DataW.TrodVars enc P W' sp s.vars (s.fn H (ds ++ gs)).vars pv)
    (hps : before = pa ++ pv) (hb : Below W.heap.size W W')
    (hok : ∀ (j : Nat) (t : TypeId) (r : Value), f.resultTypes[j]? = some t → (v.resultList f.resultTypes.size)[j]? = some r → Value.okWide P W' .any 0 t r) :
    s.post enc P f apart fresh handsOn again W args v W' := by
  have hlt : ∀ p ∈ before, p.block < W.heap.size := fun p hp => hW.lt p hp
  have hold : ∀ p ∈ before, (fun b => decide (b < W.heap.size)) p.block = true := fun p hp => by simpa using hlt p hp
  refine ⟨ds, gs, before, [], pa, pv, hW, hres _ _ _, hargs _ hold, hvars _ hold, World.keptBut_mono (fun p hp => ⟨hp, ?_⟩) (hb.frame (· ∈ before)), fun _ => ?_⟩
  · rw [hps, List.mem_append] at hp
    exact Or.inr hp
  · obtain ⟨_, _, _, _, _, hz, hn⟩ := hW
    refine ⟨hok, _, _, ([] ++ pa) ++ pv, ⟨[] ++ pa, pv, trodAll_append (hargs _ (fun _ _ => rfl)) (hres _ _ _), hvars _ (fun _ _ => rfl), rfl, ?_, ?_⟩, ?_⟩
    · intro b off hp
      have hin : MemPlace.cell b off ∈ before := by rw [hps]; simpa using hp
      rw [hb.frozen (hlt _ hin)]
      exact hz b off hin
    · intro ha
      have := hn ha
      rw [hps] at this
      simpa using this
    · intro p hp _
      rw [hps]
      simpa using hp
end

/-! ### The law's last step, once for all laws: the call returns true and below the heap's old size nothing has turned -/
section
variable {H : Type} {enc : TypeId × Value → H} {P : Program}
theorem trodAll_below {W W' : World} (hl : laidOutB P = true) (hb : Below W.heap.size W W') (sp : Nat → Bool) :
    ∀ {ts : List TypeId} {vs : List Value} {ds : List (DataW H)} {p : List MemPlace}, (∀ t ∈ ts, P.readableRec t = true ∧ t < P.types.size) →
      DataW.TrodAll enc P W 0 (fun _ => true) true ts vs ds p → (∀ x ∈ p, x.block < W.heap.size) → (∀ x ∈ p, sp x.block = true) → DataW.TrodAll enc P W' 0 sp true ts vs ds p
  | [], _, _, _, _, h, _, _ => by
    obtain ⟨rfl, rfl, rfl⟩ := trodAll_nil h
    exact rfl
  | t :: ts, _, _, _, ht, h, hlt, hsp => by
    obtain ⟨v, vs, d, ds, p, q, rfl, rfl, rfl, h0, h1⟩ := trodAll_cons h
    obtain ⟨hr, hrow⟩ := ht t (by simp)
    exact ⟨p, q, WideElems.Trod_stays hl hr hrow h0 (fun x hx => hb.same (hlt x (by simp [hx]))) (fun x hx => hsp x (by simp [hx])),
      trodAll_below hl hb sp (fun t' h' => ht t' (by simp [h'])) h1 (fun x hx => hlt x (by simp [hx])) (fun x hx => hsp x (by simp [hx])), rfl⟩

theorem law_post {f : Func} {s : ChangeSpec} {apart fresh handsOn again : Bool} {W : World} {args : Array Value} {ds gs : List (DataW H)} {before : List MemPlace} {n : FuncId} {tb : TypeId}
    (hl : laidOutB P = true) (hts : f.params.toList.all (fun t => P.readableRec t && decide (t < P.types.size)) = true) (hv : s.vars = [])
    (hres : f.resultTypes = #[tb]) (htb : P.underlying tb = some .bool)
    (hs : s.fn H (ds ++ []) = { results := [.lit (.bool true)], args := ds })
    (hW : DataW.Whole enc P f.params.toList s.vars apart W args.toList ds gs before)
    (hw : Calls P n args W fun e W' => e = .returned (.bool true) ∧ Below W.heap.size W W') :
    Calls P n args W fun e W' => ∃ v, e = .returned v ∧ s.post enc P f apart fresh handsOn again W args v W' := by
  refine hw.mono fun e W' ⟨he, hb⟩ => ⟨.bool true, he, ?_⟩
  have hW' := hW
  obtain ⟨p, q, hA, hV, rfl, hfz, hnd⟩ := hW
  have hVV := hV
  rw [hv] at hV
  obtain ⟨rfl, rfl⟩ := trodVars_none hV
  have hts' : ∀ t ∈ f.params.toList, P.readableRec t = true ∧ t < P.types.size := by
    intro t ht
    simpa using List.all_eq_true.1 hts t ht
  refine post_of_below (pa := p) (pv := []) hW' (fun b sp hd => ?_) (fun sp hsp => ?_) (fun sp _ => ?_) rfl hb ?_
  · rw [hs, hres]
    exact trodAll_cons_mk (shut_bool htb _) trodAll_mk0
  · rw [hs]
    exact trodAll_below hl hb sp hts' hA (fun x hx => hW'.lt x (by simp [hx])) (fun x hx => hsp x (by simp [hx]))
  · rw [hv, hs]
    rfl
  · exact ok_one hres rfl (okWide_bool_mk htb _)
end

/-! ### What a reading tells of the cells of a flat type (structs and arrays, nested, of what takes one cell) -/
def All2 {α β : Type} (R : α → β → Prop) : List α → List β → Prop
  | [], [] => True
  | a :: as, b :: bs => R a b ∧ All2 R as bs
  | _, _ => False

theorem All2.append {α β : Type} {R : α → β → Prop} : ∀ {as : List α} {bs : List β} {as' : List α} {bs' : List β}, All2 R as bs → All2 R as' bs' → All2 R (as ++ as') (bs ++ bs')
  | [], [], _, _, _, h => h
  | [], _ :: _, _, _, h, _ => h.elim
  | _ :: _, [], _, _, h, _ => h.elim
  | _ :: _, _ :: _, _, _, h, h' => ⟨h.1, All2.append h.2 h'⟩

theorem All2.length {α β : Type} {R : α → β → Prop} : ∀ {as : List α} {bs : List β}, All2 R as bs → as.length = bs.length
  | [], [], _ => rfl
  | [], _ :: _, h => h.elim
  | _ :: _, [], h => h.elim
  | _ :: _, _ :: _, h => by simp [All2.length h.2]

/-- The types of a type's cells, one behind the other; none: not flat, or deeper than n. -/
def flat (P : Program) : Nat → TypeId → Option (List TypeId)
  | 0, _ => none
  | n + 1, t =>
    match P.underlying t with
    | some (.struct fs) =>
      (fs.toList.foldl (fun (acc : Option (List TypeId)) f => acc.bind fun ls => if f.offset = ls.length then (flat P n f.type).bind fun a => if P.cellsOf f.type = a.length then some (ls ++ a) else none else none) (some [])).bind
        fun ls => if P.cellsOf t = ls.length then some ls else none
    | some (.array k e) => (flat P n e).bind fun a => if P.cellsOf e = a.length ∧ P.cellsOf t = k * a.length then some (List.replicate k a).flatten else none
    | some _ => if P.cellsOf t = 1 then some [t] else none
    | none => none

section
variable {H : Type} (enc : TypeId × Value → H) (P : Program) (w : World) (Q : MemPlace → Prop)
def LeafOk (t : TypeId) (v : Value) : Prop := ∃ fuel x, DataW.trod enc P w 0 (fun _ => true) true fuel t [v] = some x ∧ ∀ p ∈ x.2, Q p
end

section
variable {H : Type} {enc : TypeId × Value → H} {P : Program} {w : World} {Q : MemPlace → Prop} {t : TypeId} {v : Value}
theorem trod_float' {k : FloatKind} {fuel : Nat} {cs : List Value} {x : DataW H × List MemPlace} {base : Nat} {sp : Nat → Bool} {held : Bool} (ht : P.underlying t = some (.float k))
    (h : DataW.trod enc P w base sp held fuel t cs = some x) : ∃ n, cs = [.float k n] ∧ (Lit.float k n).wf = true := by
  cases fuel with
  | zero => simp [DataW.trod] at h
  | succ n =>
    unfold DataW.trod at h
    rw [ht] at h
    split at h <;> simp_all
theorem LeafOk.bool (h : LeafOk enc P w Q t v) (ht : P.underlying t = some .bool) : ∃ b, v = .bool b := by
  obtain ⟨_, _, h, _⟩ := h
  obtain ⟨b, hb, _⟩ := DataW.trod_bool ht h
  simp only [List.cons.injEq, and_true] at hb
  exact ⟨b, hb⟩
theorem LeafOk.int {k : IntKind} (h : LeafOk enc P w Q t v) (ht : P.underlying t = some (.int k)) : ∃ n, v = .int k n ∧ (Lit.int k n).wf = true := by
  obtain ⟨_, _, h, _⟩ := h
  obtain ⟨b, hb, _, hw⟩ := DataW.trod_int ht h
  simp only [List.cons.injEq, and_true] at hb
  exact ⟨b, hb, hw⟩
theorem LeafOk.i64 (h : LeafOk enc P w Q t v) (ht : P.underlying t = some (.int .i64)) : ∃ n : Int, v = .int .i64 n ∧ -9223372036854775808 ≤ n ∧ n ≤ 9223372036854775807 := by
  obtain ⟨n, h1, h2⟩ := h.int ht
  refine ⟨n, h1, ?_⟩
  simpa [Lit.wf, IntKind.min, IntKind.max, IntKind.signed, IntKind.bits] using h2
theorem LeafOk.u8 (h : LeafOk enc P w Q t v) (ht : P.underlying t = some (.int .u8)) : ∃ n : Int, v = .int .u8 n ∧ 0 ≤ n ∧ n ≤ 255 := by
  obtain ⟨n, h1, h2⟩ := h.int ht
  refine ⟨n, h1, ?_⟩
  simpa [Lit.wf, IntKind.min, IntKind.max, IntKind.signed, IntKind.bits] using h2
theorem LeafOk.float {k : FloatKind} (h : LeafOk enc P w Q t v) (ht : P.underlying t = some (.float k)) : ∃ n, v = .float k n ∧ (Lit.float k n).wf = true := by
  obtain ⟨_, _, h, _⟩ := h
  obtain ⟨b, hb, hw⟩ := trod_float' ht h
  simp only [List.cons.injEq, and_true] at hb
  exact ⟨b, hb, hw⟩
theorem LeafOk.str (h : LeafOk enc P w Q t v) (ht : P.underlying t = some .string) : ∃ s, v = .string s ∧ s.size ≤ maxLen := by
  obtain ⟨_, _, h, _⟩ := h
  obtain ⟨b, hb, _, hw⟩ := DataW.trod_string ht h
  simp only [List.cons.injEq, and_true] at hb
  exact ⟨b, hb, hw⟩

theorem mem_flatMap_get {xs : List (DataW H × List MemPlace)} {i : Nat} {y : DataW H × List MemPlace} (h : xs[i]? = some y) {p : MemPlace} (hp : p ∈ y.2) : p ∈ xs.flatMap (·.2) :=
  List.mem_flatMap.2 ⟨y, List.mem_of_getElem? h, hp⟩

theorem trod_flat (n : Nat) : ∀ t ls, flat P n t = some ls → ∀ fuel cs x, DataW.trod enc P w 0 (fun _ => true) true fuel t cs = some x → (∀ p ∈ x.2, Q p) → All2 (LeafOk enc P w Q) ls cs := by
  induction n with
  | zero => intro t ls h; simp [flat] at h
  | succ n ih =>
    intro t ls h fuel cs x hx hQ
    rw [flat] at h
    split at h
    · rename_i fs hu
      obtain ⟨ls', h1, h2⟩ := Option.bind_eq_some_iff.1 h
      split at h2
      · rename_i hc
        cases h2
        obtain ⟨xs, m, _, hxe, hcl, hxl, hf⟩ := DataW.trod_struct hu hx
        have hQ' : ∀ (i : Nat) (y : DataW H × List MemPlace), xs[i]? = some y → ∀ p ∈ y.2, Q p := fun i y hy p hp => hQ p (by rw [hxe]; exact mem_flatMap_get hy hp)
        have key : ∀ (gs : List Field) (j : Nat) (acc : List TypeId) (ls : List TypeId),
            (∀ (i : Nat) (f : Field), gs[i]? = some f → fs[j + i]? = some f) → j + gs.length = fs.size →
            gs.foldl (fun (acc : Option (List TypeId)) f => acc.bind fun ls => if f.offset = ls.length then (flat P n f.type).bind fun a => if P.cellsOf f.type = a.length then some (ls ++ a) else none else none) (some acc) = some ls →
            cs.length = ls.length → ∃ r, ls = acc ++ r ∧ All2 (LeafOk enc P w Q) r (cs.drop acc.length) := by
          intro gs
          induction gs with
          | nil =>
            intro j acc ls _ _ hfo hl
            simp only [List.foldl_nil, Option.some.injEq] at hfo
            subst hfo
            refine ⟨[], by simp, ?_⟩
            rw [List.drop_eq_nil_of_le (by omega)]
            trivial
          | cons f gs ihg =>
            intro j acc ls hg hsz hfo hl
            rw [List.foldl_cons] at hfo
            have hnone : ∀ (l : List Field), l.foldl (fun (acc : Option (List TypeId)) f => acc.bind fun ls => if f.offset = ls.length then (flat P n f.type).bind fun a => if P.cellsOf f.type = a.length then some (ls ++ a) else none else none) none = none := by
              intro l; induction l with
              | nil => rfl
              | cons _ _ ihl => simpa using ihl
            rw [Option.bind_some] at hfo
            split at hfo
            · rename_i ho
              cases ha : flat P n f.type with
              | none => rw [ha, Option.bind_none, hnone] at hfo; cases hfo
              | some a =>
                rw [ha, Option.bind_some] at hfo
                split at hfo
                · rename_i hca
                  obtain ⟨r, rfl, hr⟩ := ihg (j + 1) (acc ++ a) ls (fun i f' hf' => by rw [show j + 1 + i = j + (i + 1) from by omega]; exact hg (i + 1) f' (by simpa using hf')) (by simp at hsz; omega) hfo hl
                  refine ⟨a ++ r, by simp, ?_⟩
                  have e0 := hf j f (by simpa using hg 0 f rfl)
                  have hjx : j < xs.length := by simp at hsz; omega
                  have hx0 : xs[j]? = some (xs[j]) := List.getElem?_eq_getElem hjx
                  rw [hx0, ho, hca] at e0
                  have g0 := ih _ _ ha _ _ _ e0 (hQ' j _ hx0)
                  have e2 : cs.drop acc.length = (cs.drop acc.length).take a.length ++ cs.drop (acc ++ a).length := by
                    rw [List.length_append, ← List.drop_drop, List.take_append_drop]
                  rw [e2]
                  exact g0.append hr
                · rw [hnone] at hfo; cases hfo
            · rw [hnone] at hfo; cases hfo
        obtain ⟨r, hr1, hr2⟩ := key fs.toList 0 [] ls (fun i f hf' => by simpa using hf') (by simp) h1 (by omega)
        simp only [List.nil_append] at hr1
        subst hr1
        simpa using hr2
      · cases h2
    · rename_i k e hu
      cases ha : flat P n e with
      | none => rw [ha] at h; cases h
      | some a =>
        rw [ha, Option.bind_some] at h
        split at h
        · rename_i hc
          cases h
          obtain ⟨hc1, hc2⟩ := hc
          obtain ⟨xs, m, _, hxe, hcl, hxl, hf⟩ := DataW.trod_array hu hx
          have hQ' : ∀ (i : Nat) (y : DataW H × List MemPlace), xs[i]? = some y → ∀ p ∈ y.2, Q p := fun i y hy p hp => hQ p (by rw [hxe]; exact mem_flatMap_get hy hp)
          have key : ∀ r j, j + r = k → All2 (LeafOk enc P w Q) (List.replicate r a).flatten (cs.drop (j * a.length)) := by
            intro r
            induction r with
            | zero =>
              intro j hj
              rw [List.drop_eq_nil_of_le (by rw [hcl, hc2, show j = k from by omega]; exact Nat.le_refl _)]
              trivial
            | succ r ihr =>
              intro j hj
              have e0 := hf j (by omega)
              have hx0 : xs[j]? = some (xs[j]'(by omega)) := List.getElem?_eq_getElem _
              rw [hx0, hc1] at e0
              have g0 := ih _ _ ha _ _ _ e0 (hQ' j _ hx0)
              have g1 := ihr (j + 1) (by omega)
              have e2 : cs.drop (j * a.length) = (cs.drop (j * a.length)).take a.length ++ cs.drop ((j + 1) * a.length) := by
                rw [Nat.succ_mul, ← List.drop_drop, List.take_append_drop]
              rw [e2, List.replicate_succ, List.flatten_cons]
              exact g0.append g1
          simpa using key k 0 (by omega)
        · cases h
    · rename_i d hd1 hd2 hu
      split at h
      · rename_i hc1
        cases h
        have hcs : ∃ v, cs = [v] := by
          cases fuel with
          | zero => simp [DataW.trod] at hx
          | succ m =>
            unfold DataW.trod at hx
            rw [hu] at hx
            cases d <;> first
              | exact absurd rfl (hd1 _)
              | exact absurd rfl (hd2 _ _)
              | (split at hx <;> first | (rename_i heq; exact ⟨_, rfl⟩) | simp_all | (cases hx; done))
        obtain ⟨v, rfl⟩ := hcs
        exact ⟨⟨fuel, x, hx, hQ⟩, trivial⟩
      · cases h
    · cases h

/-- A slice that came in, as cells: 'xs', so many an element; each element's cells are of the element's cells' types. -/
theorem open_slice_flat {e : TypeId} {n : Nat} {ls : List TypeId} {fuel : Nat} {x : DataW H × List MemPlace} (ht : P.underlying t = some (.slice e)) (hfl : flat P n e = some ls) (hce : P.cellsOf e = ls.length) (hls : 0 < ls.length)
    (h : DataW.trod enc P w 0 (fun _ => true) true fuel t [v] = some x) (hlt : ∀ p ∈ x.2, p.block < w.heap.size) :
    ∃ (A : Option Addr) (len cap : Nat) (xs : List Value), v = .slice A len cap ∧ len ≤ cap ∧ cap ≤ maxLen ∧ (A = none → cap = 0) ∧ Reads w w.heap.size ls.length A len xs ∧
      ∀ i, i < len → All2 (LeafOk enc P w (fun p => p.block < w.heap.size)) ls ((xs.drop (i * ls.length)).take ls.length) := by
  rcases Go.Deep.open_slice ht h with ⟨hv, _⟩ | ⟨a, len, cap, m, k, D, Pl, hv, hb, hl, hm, hmm, hx, hi⟩
  · simp only [List.cons.injEq, and_true] at hv
    subst hv
    exact ⟨none, 0, 0, [], rfl, Nat.le_refl _, by simp [maxLen], fun _ => rfl, Reads.none_, fun i hi => by omega⟩
  · simp only [List.cons.injEq, and_true] at hv
    subst hv
    simp only [if_true] at hmm
    obtain rfl : cap = m := hmm.symm
    rw [hce] at hi hx
    have hcs : ∀ i, i < len → ∃ cs', cs'.length = ls.length ∧ (∀ j, j < ls.length → w.cell? ((a.add (i * ls.length)).add j) = cs'[j]?) ∧ All2 (LeafOk enc P w (fun p => p.block < w.heap.size)) ls cs' := by
      intro i hi'
      obtain ⟨cs', hc, ht'⟩ := hi i (by omega)
      obtain ⟨_, hcl, hat⟩ := World.cells?_some hc
      refine ⟨cs', hcl, hat, trod_flat n _ _ hfl _ _ _ ht' fun p hp => hlt p ?_⟩
      rw [hx]
      exact List.mem_append.2 (.inr (List.mem_flatMap.2 ⟨i, List.mem_range.2 (by omega), hp⟩))
    have hex : ∀ l, l ≤ len → ∃ xs : List Value, xs.length = l * ls.length ∧ (∀ i, i < l → ∀ j, j < ls.length → w.cell? ((a.add (i * ls.length)).add j) = xs[i * ls.length + j]?) ∧
        ∀ i, i < l → All2 (LeafOk enc P w (fun p => p.block < w.heap.size)) ls ((xs.drop (i * ls.length)).take ls.length) := by
      intro l
      induction l with
      | zero => exact fun _ => ⟨[], by simp, fun i hi => by omega, fun i hi => by omega⟩
      | succ l ih =>
        intro hle
        obtain ⟨xs, h1, h2, h3⟩ := ih (by omega)
        obtain ⟨cs', c1, c2, c3⟩ := hcs l (by omega)
        refine ⟨xs ++ cs', by rw [List.length_append, h1, c1, Nat.succ_mul], fun i hi j hj => ?_, fun i hi => ?_⟩
        · rcases Nat.lt_succ_iff_lt_or_eq.1 hi with h | h
          · rw [h2 i h j hj, List.getElem?_append_left]
            rw [h1]
            have hle' : (i + 1) * ls.length ≤ l * ls.length := Nat.mul_le_mul_right _ h
            rw [Nat.succ_mul] at hle'
            omega
          · subst h
            rw [c2 j hj, List.getElem?_append_right (by omega), h1]
            congr 1
            omega
        · rcases Nat.lt_succ_iff_lt_or_eq.1 hi with h | h
          · have hle' : (i + 1) * ls.length ≤ l * ls.length := Nat.mul_le_mul_right _ h
            rw [Nat.succ_mul] at hle'
            rw [List.drop_append_of_le_length (by omega), List.take_append_of_le_length (by rw [List.length_drop]; omega)]
            exact h3 i h
          · subst h
            rw [← h1, List.drop_left, List.take_of_length_le (by omega)]
            exact c3
    obtain ⟨xs, x1, x2, x3⟩ := hex len (Nat.le_refl _)
    refine ⟨some a, len, cap, xs, rfl, hl, hm, (fun h => by cases h), ⟨x1, fun hpos => ⟨a, rfl, ?_, fun j u hu => ?_⟩⟩, x3⟩
    · have hin : MemPlace.cell a.block (a.off + 0) ∈ x.2 := by
        rw [hx]
        refine List.mem_append.2 (.inl ?_)
        unfold MemPlace.row
        refine List.mem_map.2 ⟨0, List.mem_range.2 (Nat.mul_pos (by omega) hls), rfl⟩
      exact hlt _ hin
    · have hj : j < xs.length := (List.getElem?_eq_some_iff.1 hu).1
      have hd := Nat.div_add_mod j ls.length
      have hm' := Nat.mod_lt j hls
      have hi' : j / ls.length < len := (Nat.div_lt_iff_lt_mul hls).2 (by omega)
      have h2 := x2 (j / ls.length) hi' (j % ls.length) hm'
      rw [add_of_add, Nat.mul_comm (j / ls.length), hd] at h2
      rw [h2, hu]
/-- The same for an argument. -/
theorem open_slice_arg {e : TypeId} {n : Nat} {ls : List TypeId} {d : DataW H} {ps : List MemPlace} {r : Reach} {b0 : Nat} (ht : P.underlying t = some (.slice e)) (hfl : flat P n e = some ls) (hce : P.cellsOf e = ls.length) (hls : (decide (0 < ls.length)) = true)
    (hv : Value.okWide P w r b0 t v) (h : DataW.Trod enc P w 0 (fun _ => true) true t v d ps) (hlt : ∀ p ∈ ps, p.block < w.heap.size) :
    ∃ (A : Option Addr) (len cap : Nat) (xs : List Value), v = .slice A len cap ∧ len ≤ cap ∧ cap ≤ maxLen ∧ (A = none → cap = 0) ∧ Reads w w.heap.size ls.length A len xs ∧
      ∀ i, i < len → All2 (LeafOk enc P w (fun p => p.block < w.heap.size)) ls ((xs.drop (i * ls.length)).take ls.length) := by
  obtain ⟨a0, l0, c0, rfl⟩ := okWide_slice ht hv
  obtain ⟨fuel, hf⟩ := h
  exact open_slice_flat ht hfl hce (of_decide_eq_true hls) (by simpa [Value.cells] using hf) hlt
end

/-! ### append of one element to a row of the call's own: the element lies in the block that was made just before -/
def SliceTy (P : Program) (t e : TypeId) (size bytes : Nat) : Prop :=
  P.underlying t = some (.slice e) ∧ ∃ i z, P.info? e = some i ∧ i.zero = some z ∧ i.size = size ∧ i.bytes = bytes ∧ z.cells.size = size ∧ 0 < size ∧ 0 < bytes

theorem sliceTy_mk {P : Program} {t e : TypeId} {z : Value} {size bytes : Nat} (ht : P.underlying t = some (.slice e)) (hi : (P.info? e).map (fun i => (i.zero, i.size, i.bytes)) = some (some z, size, bytes))
    (h : (z.cells.size == size && decide (0 < size) && decide (0 < bytes)) = true) : SliceTy P t e size bytes := by
  obtain ⟨i, h1, h2, h3, h4⟩ := info_parts hi
  simp only [Bool.and_eq_true, beq_iff_eq, decide_eq_true_eq] at h
  exact ⟨ht, i, z, h1, h2, h3, h4, h.1.1, h.1.2, h.2⟩

theorem ownsRow_nil (w : World) (base : Nat) (e : TypeId) (size : Nat) : w.ownsRow base e size (.slice none 0 0) 0 [] := ⟨by simp, .inl ⟨rfl, rfl⟩⟩
theorem ownsRow_new (w : World) {base : Nat} {e : TypeId} {size n : Nat} {cs : Array Value} (hb : base ≤ w.heap.size) (hs : cs.size = n * size) (hn : n ≤ maxLen) :
    (w.alloc (.cells cs e)).ownsRow base e size (.slice (some ⟨w.heap.size, 0, none⟩) n n) n cs.toList :=
  ⟨by simpa using hs, .inr ⟨w.heap.size, n, cs, rfl, hb, heap_alloc_new w _, Nat.le_refl _, hn, hs, by rw [List.take_of_length_le]; simpa using Nat.le_of_eq hs⟩⟩
theorem cell?_new (w : World) (cs : Array Value) (e : TypeId) (j : Nat) : (w.alloc (.cells cs e)).cell? ((⟨w.heap.size, 0, none⟩ : Addr).add j) = cs[j]? := by
  have h := (Blk.new w e cs).cell j
  have ha : (⟨w.heap.size, 0, none⟩ : Addr).add j = ⟨w.heap.size, j, none⟩ := by
    by_cases hj : j = 0 <;> simp [Addr.add, hj]
  rw [ha]; exact h
theorem ownsRow_below {w w' : World} {base : Nat} {e : TypeId} {size n : Nat} {v : Value} {xs : List Value} {B : Nat} (h : w.ownsRow base e size v n xs) (hb : Below B w w') (hB : ∀ k, v.ownBlock = some k → k < B) : w'.ownsRow base e size v n xs := by
  obtain ⟨h1, h2⟩ := h
  refine ⟨h1, ?_⟩
  rcases h2 with h2 | ⟨g, cap, cur, hv, hg, hh, r⟩
  · exact .inl h2
  · refine .inr ⟨g, cap, cur, hv, hg, ?_, r⟩
    rw [hb.block g (hB g (by rw [hv]; rfl))]
    exact hh
theorem ownsRow_lt {w : World} {base : Nat} {e : TypeId} {size n : Nat} {v : Value} {xs : List Value} (h : w.ownsRow base e size v n xs) : ∀ k, v.ownBlock = some k → base ≤ k ∧ k < w.heap.size := by
  intro k hk
  rcases h.2 with ⟨rfl, _⟩ | ⟨g, cap, cur, hv, hg, hh, _⟩
  · simp [Value.ownBlock] at hk
  · subst hv
    simp [Value.ownBlock] at hk
    subst hk
    refine ⟨hg, ?_⟩
    rcases Nat.lt_or_ge g w.heap.size with hlt | hge
    · exact hlt
    · rw [Array.getElem?_eq_none hge] at hh; cases hh
theorem ownsRow_keep {w w' : World} {base : Nat} {e : TypeId} {size n : Nat} {v : Value} {xs : List Value} (h : w.ownsRow base e size v n xs) (hb : Below w.heap.size w w') : w'.ownsRow base e size v n xs :=
  ownsRow_below h hb fun k hk => (ownsRow_lt h k hk).2
/-- An owned row as a slice that reads. -/
theorem ownsRow_reads {w : World} {base : Nat} {e : TypeId} {size n : Nat} {v : Value} {xs : List Value} (h : w.ownsRow base e size v n xs) : ∃ A c, v = .slice A n c ∧ n ≤ c ∧ Reads w w.heap.size size A n xs := by
  have h0 := h
  rcases h.2 with ⟨rfl, rfl⟩ | ⟨g, cap, cur, rfl, hg, hh, hn, _⟩
  · exact ⟨none, 0, rfl, Nat.le_refl _, Reads.of_own h0⟩
  · exact ⟨_, _, rfl, hn, Reads.of_own h0⟩

section
variable {P : Program}
theorem wpList_push {ops : Array Oper} {rest : List Oper} {o : Oper} {a : Act} {Q : Exit → Act → World → Prop} (hgd : o.guard = none) (s x : Operand) (t : TypeId)
    (ho : o.op = .call { callee := .builtin .append, args := #[s, x], argTypes := #[t, t] })
    {e : TypeId} {size bytes : Nat} (hty : SliceTy P t e size bytes) {wr : World} {cs : Array Value} (hcs : cs.size = size) (h1 : ∀ u ∈ cs.toList, u.oneCell' = true)
    {base : Nat} {v : Value} {n : Nat} {xs : List Value} (hs : a.eval s = v) (hown : wr.ownsRow base e size v n xs) (hx : a.eval x = .slice (some ⟨wr.heap.size, 0, none⟩) 1 1)
    (hbytes : (n + 1) * bytes ≤ 140737488355328) (hbase : base ≤ wr.heap.size)
    (h : ∀ v' w', w'.ownsRow base e size v' (n + 1) (xs ++ cs.toList) → Below base wr w' → wpList P ops Q rest (a.put o.dst v') w') : wpList P ops Q (o :: rest) a (wr.alloc (.cells cs e)) := by
  obtain ⟨ht, i, z, hi, hz, hsz, hby, hzs, hp, hq⟩ := hty
  have hbn : n + 1 ≤ 140737488355328 := Nat.le_trans (Nat.le_mul_of_pos_right _ hq) hbytes
  refine wpList_append_own _ hgd s x t ho base e i z size bytes ht hi hz hsz hby hzs hp v n xs hs (hown.alloc _) ⟨wr.heap.size, 0, none⟩ 1 1 cs.toList hx (by simpa using hcs) (fun j u hu => ?_) h1
    (by simp only [maxLen]; omega) hbytes (by simp; omega) (fun v' w' ho' hg _ => h v' w' ho' ?_)
  · rw [cell?_new]
    simpa using hu
  · refine ((Below.refl _ _).alloc hbase _).grown hg (by simp; omega) (fun k hk => ?_)
    exact (ownsRow_lt hown k hk).1
end

/-! ### A region that draws its order: first operations that are quiet in a class of worlds (calls may make memory; each value is one in all worlds of the class), then a tail in one forced order, walked from whatever world of the class. After Derived/StillTail.lean's proof, with a class in the place of the one world. -/
section
variable {P : Program} {ops : Array Oper} {md : Region.Mode} {C : World → Prop}
def headAny (P : Program) (md : Region.Mode) (ops : Array Oper) (C : World → Prop) (n : Nat) (L : Array Bool → Act → Prop) : Nat → Array Bool → Act → Prop
  | 0, listed, a => L listed a
  | f + 1, listed, a =>
    Region.ready md ops listed ≠ [] ∧ ∀ i ∈ Region.ready md ops listed, i < n ∧ qOp P ops C i (headAny P md ops C n L f (listed.setIfInBounds i true)) a

theorem wpAny_of_headAny {n g : Nat} {L : Array Bool → Act → Prop} {Q' : Exit → Act → World → Prop} (hL : ∀ listed a w, C w → L listed a → wpAny P md ops Q' g listed a w) :
    ∀ (f : Nat) (listed : Array Bool) (a : Act) (w : World), C w → headAny P md ops C n L f listed a → wpAny P md ops Q' (f + g) listed a w
  | 0, listed, a, w, hw, h => by rw [Nat.zero_add]; exact hL _ _ _ hw h
  | f + 1, listed, a, w, hw, h => by
    rw [show f + 1 + g = (f + g) + 1 by omega]
    exact ⟨fun h0 => absurd h0 h.1, fun i hi => wpOp_of_qOp hw (fun a' w' hw' h' => wpAny_of_headAny hL f _ a' w' hw' h') (h.2 i hi).2⟩

theorem headAny_first {n i : Nat} {oi : Oper} {v : Value} {L : Array Bool → Act → Prop} (hi : ops[i]? = some oi) (hsel : ∀ (j : Nat) (o : Oper) cs b, ops[j]? = some o → o.op ≠ .select cs b)
    (hs : Region.sinkB md ops n = true) (hc : Region.chainB md ops n = true) (hn : n < ops.size) (hin : i < n)
    (hdone : ∀ listed a, L listed a → ∀ j ∈ Region.ready md ops listed, n ≤ j) :
    ∀ (f : Nat) (listed : Array Bool) (a : Act), HeadInv md ops n listed →
      (∀ j oj, ops[j]? = some oj → j ≠ i → listed.getD j true = false → (∀ e ∈ oj.after, Region.binds md e = true → e.on ≠ i) → oi.apart ops oj = true) →
      i ∈ Region.ready md ops listed → YieldsIn P ops C oi v a →
      headAny P md ops C n L f (listed.setIfInBounds i true) (a.put oi.dst v) → headAny P md ops C n L (f + 1) listed a := by
  intro f
  induction f with
  | zero =>
    intro listed a inv _ hr hy H
    have hun := (mem_ready.1 hr).1
    refine ⟨fun h => (by rw [h] at hr; cases hr), fun j hj => ?_⟩
    have hjn : j < n := by
      rcases Nat.lt_or_ge j n with h | h
      · exact h
      · exact absurd hj (tail_waits hs hc hn inv _ i rfl hin hun j h)
    refine ⟨hjn, ?_⟩
    by_cases hji : j = i
    · subst hji; exact hy.qOp hi H
    · have := hdone _ _ H j (ready_mono hj hji)
      omega
  | succ f ih =>
    intro listed a inv hfree hr hy H
    have hun := (mem_ready.1 hr).1
    refine ⟨fun h => (by rw [h] at hr; cases hr), fun j hj => ?_⟩
    have hjn : j < n := by
      rcases Nat.lt_or_ge j n with h | h
      · exact h
      · exact absurd hj (tail_waits hs hc hn inv _ i rfl hin hun j h)
    refine ⟨hjn, ?_⟩
    by_cases hji : j = i
    · subst hji; exact hy.qOp hi H
    · have h1 := (H.2 j (ready_mono hj hji)).2
      obtain ⟨hjun, oj, hoj, hall⟩ := mem_ready.1 hj
      have hnot : ∀ e ∈ oj.after, Region.binds md e = true → e.on ≠ i := fun e he hb heq => by
        have h1 := hall e he hb
        rw [heq, getD_both hun] at h1
        cases h1
      have h2 := qOp_put hoj (hfree j oj hoj hji hjun hnot) (fun cs b => hsel i oi cs b hi) (fun cs b => hsel j oj cs b hoj) hy h1
      have hfree' : ∀ k ok, ops[k]? = some ok → k ≠ i → (listed.setIfInBounds j true).getD k true = false →
          (∀ e ∈ ok.after, Region.binds md e = true → e.on ≠ i) → oi.apart ops ok = true := fun k ok hk hki hun hno => by
        refine hfree k ok hk hki ?_ hno
        by_cases hjk : j = k
        · subst hjk; exact hjun
        · rw [getD_set_ne true hjk] at hun; exact hun
      refine qOp_mono (fun a' h3 => ih (listed.setIfInBounds j true) a' (inv.set hj hjn) hfree' (ready_mono hr (Ne.symm hji)) h3.1 ?_) h2
      rw [Array.setIfInBounds_comm _ _ hji]
      exact h3.2

theorem headAny_lex {n g : Nat} {Lq : Act → Prop} (hsel : Region.noSelect ops = true) (hs : Region.sinkB md ops n = true) (hc : Region.chainB md ops n = true) (hn : n < ops.size) :
    ∀ (l : List Oper) (k : Nat) (listed : Array Bool) (a : Act), (∀ j, j < l.length → l[j]? = ops[k + j]?) → k + l.length = n → HeadInv md ops n listed →
    Region.lexHead md ops g l.length k listed = true → wpQuiet P ops C Lq l a →
    headAny P md ops C n (fun listed' a' => Region.seqB md ops g n listed' = true ∧ Lq a') l.length listed a
  | [], k, listed, a, _, hk, _, hB, h => by
    have : k = n := by simpa using hk
    subst this
    exact ⟨by simpa [Region.lexHead] using hB, h⟩
  | o :: l, k, listed, a, hl, hk, inv, hB, h => by
    have h0 : ops[k]? = some o := by simpa using (hl 0 (by simp)).symm
    simp only [List.length_cons, Region.lexHead, Bool.and_eq_true] at hB
    obtain ⟨⟨hr, hf⟩, hB'⟩ := hB
    have hkn : k < n := by simp only [List.length_cons] at hk; omega
    have hr' : k ∈ Region.ready md ops listed := by simpa using hr
    have hst : qOp P ops C k (wpQuiet P ops C Lq l) a := by unfold qOp; simp only [h0]; exact h
    obtain ⟨v, hy, hK⟩ := yieldsIn_of_qOp h0 hst
    exact headAny_first h0 (Region.noSelect_spec hsel) hs hc hn hkn (fun listed' a' hL => seqB_ready hL.1) l.length listed a inv (Region.free_spec h0 hf) hr' hy
      (headAny_lex hsel hs hc hn l (k + 1) _ _ (fun j hj => by have := hl (j + 1) (by simp; omega); simpa [Nat.add_assoc, Nat.add_comm 1 j] using this) (by simp only [List.length_cons] at hk; omega) (inv.set hr' hkn) hB' hK)

theorem wp_region_class_tail {id : Nat} {Q : Exit → Act → World → Prop} {a : Act} {w : World} {l : List Oper} (n : Nat) (C : World → Prop) (hm : P.follows .mixedOrders = true) (hB : Region.lexTailB .any l.toArray n = true) (hC : C w.drew)
    (h : wpQuiet P l.toArray C (fun a' => ∀ w', C w' → wpList P l.toArray Q (l.drop n) a' w') (l.take n) a) : (Code.region id l.toArray true).wp P Q a w := by
  simp only [Region.lexTailB, Bool.and_eq_true, decide_eq_true_eq] at hB
  obtain ⟨⟨⟨⟨hsel, hn⟩, hs⟩, hc⟩, hlex⟩ := hB
  have hn' : n < l.length := by simpa using hn
  have htl : (l.take n).length = n := by simp; omega
  have hdl : (l.drop n).length = l.toArray.size - n := by simp
  have inv0 : HeadInv .any l.toArray n (Array.replicate l.toArray.size false) :=
    ⟨by simp, fun j oj _ hl => (by rw [getD_replicate_false] at hl; cases hl), fun t _ ht => getD_in (by simpa using ht) (getD_replicate_false _ _)⟩
  have H := headAny_lex (md := .any) (g := l.toArray.size - n) hsel hs hc hn (l.take n) 0 _ a (fun j hj => by
    have hj' : j < n := by rw [htl] at hj; exact hj
    simp [hj']) (by simpa using htl) inv0 (by rw [htl]; exact hlex) h
  refine wp_region_any hm ?_
  have := wpAny_of_headAny (Q' := Q) (g := l.toArray.size - n) (fun listed a' w' hw' hL => by
    have := wpAny_of_seq (md := .any) (Q' := Q) (l.drop n) n listed a' w' (fun j => by simp [List.getElem?_drop]) (by rw [hdl]; exact hL.1) (hL.2 w' hw')
    rwa [hdl] at this) _ _ _ w.drew hC H
  rw [htl, show n + (l.toArray.size - n) = l.toArray.size by omega] at this
  exact this

theorem wp_region_class {id : Nat} {Q : Exit → Act → World → Prop} {a : Act} {w : World} {l : List Oper} (C : World → Prop) (hm : P.follows .mixedOrders = true) (hB : Region.lexB .any l.toArray = true) (hC : C w.drew)
    (h : wpQuiet P l.toArray C (fun a' => ∀ w', C w' → Q .normal a' w') l a) : (Code.region id l.toArray true).wp P Q a w :=
  wp_region_quiet (C := C) hm hB hC (by simpa using h)

/-- One operation that yields a value, the same in every world of the class. -/
theorem wpQuiet_val {Q : Act → Prop} {a : Act} {o : Oper} {rest : List Oper} {v : Value} (hw : Region.wanted o (yielded ops a.tmps) = true)
    (h : ∀ w, C w → (execOp a.eval o).run P w = .ok (.value v) w) (hk : wpQuiet P ops C Q rest (a.put o.dst v)) : wpQuiet P ops C Q (o :: rest) a := by
  rw [wpQuiet, if_pos hw]
  refine ⟨v, fun w hC => ?_, hk⟩
  unfold Oper.quietAt
  rw [h w hC]
  exact ⟨rfl, rfl⟩
/-- One that its guard leaves out. -/
theorem wpQuiet_skip {Q : Act → Prop} {a : Act} {o : Oper} {rest : List Oper} (hw : Region.wanted o (yielded ops a.tmps) = false) (hk : wpQuiet P ops C Q rest (a.put o.dst undef)) : wpQuiet P ops C Q (o :: rest) a := by
  rw [wpQuiet, if_neg (by rw [hw]; simp)]
  exact hk
/-- A call: one value in every world of the class, and a world of the class behind it. -/
theorem wpQuiet_call {Q : Act → Prop} {a : Act} {o : Oper} {rest : List Oper} {v : Value} (f : FuncId) (args : Array Value) (hw : Region.wanted o (yielded ops a.tmps) = true)
    (h : ∀ w, C w → (execOp a.eval o).run P w = .ok (.enter f args) w) (hc : ∀ w, C w → Calls P f args w fun e w' => e = .returned v ∧ C w') (hk : wpQuiet P ops C Q rest (a.put o.dst v)) : wpQuiet P ops C Q (o :: rest) a := by
  rw [wpQuiet, if_pos hw]
  refine ⟨v, fun w hC => ?_, hk⟩
  unfold Oper.quietAt
  rw [h w hC]
  exact ⟨rfl, hc w hC⟩
end
theorem bcell {B : Nat} {w w' : World} (hb : Below B w w') : (∀ b o, b < B → w'.cell? ⟨b, o, none⟩ = w.cell? ⟨b, o, none⟩) ∧ (∀ b o, b < B → w'.frozen? ⟨b, o, none⟩ = w.frozen? ⟨b, o, none⟩) :=
  ⟨fun b o h => hb.cell (p := ⟨b, o, none⟩) h, fun b o h => hb.frozen (p := ⟨b, o, none⟩) h⟩

/-! ### A slice of structs that reads as a list -/
theorem flatMap_get {α β : Type} {f : α → List β} {size : Nat} (hf : ∀ x, (f x).length = size) : ∀ {hs : List α} {k : Nat} {x : α}, hs[k]? = some x → ∀ j, j < size → (hs.flatMap f)[k * size + j]? = (f x)[j]?
  | [], k, x, h, _, _ => by simp at h
  | y :: hs, 0, x, h, j, hj => by
    simp at h
    subst h
    rw [List.flatMap_cons, Nat.zero_mul, Nat.zero_add, List.getElem?_append_left (by rw [hf]; exact hj)]
  | y :: hs, k + 1, x, h, j, hj => by
    have h' : hs[k]? = some x := by simpa using h
    rw [List.flatMap_cons, List.getElem?_append_right (by rw [hf, Nat.succ_mul]; omega), hf]
    rw [← flatMap_get hf h' j hj]
    congr 1
    rw [Nat.succ_mul]
    omega
theorem flatMap_length {α β : Type} {f : α → List β} {size : Nat} (hf : ∀ x, (f x).length = size) : ∀ (hs : List α), (hs.flatMap f).length = hs.length * size
  | [] => by simp
  | y :: hs => by rw [List.flatMap_cons, List.length_append, hf, flatMap_length hf hs, List.length_cons, Nat.succ_mul, Nat.add_comm]
theorem Reads.elem {α : Type} {f : α → List Value} {hs : List α} {w : World} {B size n k : Nat} {A : Option Addr} {x : α} (hf : ∀ x, (f x).length = size) (h : Reads w B size A n (hs.flatMap f)) (hk : hs[k]? = some x) (hkn : k < n) :
    ∃ ad, A = some ad ∧ (ad.add (k * size)).block < B ∧ (∀ u, (f x)[0]? = some u → w.cell? (ad.add (k * size)) = some u) ∧
      ∀ j u, 0 < j → (f x)[j]? = some u → w.cell? ⟨(ad.add (k * size)).block, (ad.add (k * size)).off + j, none⟩ = some u := by
  obtain ⟨ad, e, hb, hc⟩ := h.2 (by omega)
  refine ⟨ad, e, by rw [block_of_add]; exact hb, fun u hu => ?_, fun j u hj hu => ?_⟩
  · have hj : 0 < size := by rw [← hf x]; exact (List.getElem?_eq_some_iff.1 hu).1
    have := hc (k * size + 0) u (by rw [flatMap_get hf hk 0 hj]; exact hu)
    simpa using this
  · have hjs : j < size := by rw [← hf x]; exact (List.getElem?_eq_some_iff.1 hu).1
    have := hc (k * size + j) u (by rw [flatMap_get hf hk j hjs]; exact hu)
    rw [← add_of_add] at this
    have e2 : (ad.add (k * size)).add j = ⟨(ad.add (k * size)).block, (ad.add (k * size)).off + j, none⟩ := by
      unfold Addr.add
      rw [if_neg (by omega)]
    rw [e2] at this
    exact this
theorem getElem?_some_of_lt {α : Type} {hs : List α} {k n : Nat} (hl : hs.length = n) (hk : k < n) : ∃ x, hs[k]? = some x := ⟨hs[k]'(by omega), List.getElem?_eq_getElem _⟩
theorem foldl_take_succ {α β : Type} {f : β → α → β} {s : β} {xs : List α} {k : Nat} {x : α} (h : xs[k]? = some x) : (xs.take (k + 1)).foldl f s = f ((xs.take k).foldl f s) x := by
  obtain ⟨hk, rfl⟩ := List.getElem?_eq_some_iff.1 h
  rw [List.take_succ_eq_append_getElem hk, List.foldl_append]
  rfl
theorem getElem?_map_some {α β : Type} {f : α → β} {xs : List α} {k : Nat} {v : β} (h : (xs.map f)[k]? = some v) : ∃ x, xs[k]? = some x ∧ v = f x := by
  rw [List.getElem?_map] at h
  obtain ⟨x, h1, h2⟩ := Option.map_eq_some_iff.1 h
  exact ⟨x, h1, h2.symm⟩
theorem drop_get {α : Type} {xs : List α} {k : Nat} {x : α} (h : xs[k]? = some x) : xs.drop k = x :: xs.drop (k + 1) := by
  obtain ⟨hk, rfl⟩ := List.getElem?_eq_some_iff.1 h
  exact List.drop_eq_getElem_cons hk
theorem take_get {α : Type} {xs : List α} {k : Nat} {x : α} (h : xs[k]? = some x) : xs.take (k + 1) = xs.take k ++ [x] := by
  obtain ⟨hk, rfl⟩ := List.getElem?_eq_some_iff.1 h
  exact List.take_succ_eq_append_getElem hk
theorem ret_int {k : IntKind} {a b : Int} (h : a = b) : Ending.returned (.int k a) = .returned (.int k b) := by rw [h]
theorem ret_bool {a b : Bool} (h : a = b) : Ending.returned (.bool a) = .returned (.bool b) := by rw [h]
theorem Blk.at_new (w : World) (t : TypeId) (cs : Array Value) {g : Nat} (hg : g = w.heap.size) : Blk (w.alloc (.cells cs t)) g t cs := by subst hg; exact Blk.new w t cs

/-! ### A whole struct stored into a block, cell by cell -/
def stores (w : World) (g : Nat) : Nat → List Value → World
  | _, [] => w
  | i, u :: us => stores (w.setCell ⟨g, i, none⟩ u) g (i + 1) us
theorem stores_blk {g : Nat} {t : TypeId} : ∀ (us pre : List Value) {w : World} {post : List Value}, post.length = us.length → Blk w g t (pre ++ post).toArray → Blk (stores w g pre.length us) g t (pre ++ us).toArray
  | [], pre, w, post, hl, h => by
    have : post = [] := List.eq_nil_of_length_eq_zero hl
    subst this
    exact h
  | u :: us, pre, w, p :: post, hl, h => by
    have h1 := h.set_ pre.length u
    have e : (pre ++ p :: post).toArray.setIfInBounds pre.length u = ((pre ++ [u]) ++ post).toArray := by simp
    rw [e] at h1
    have h2 := stores_blk us (pre ++ [u]) (by simpa using hl) h1
    simpa [stores] using h2
theorem stores_all {w : World} {g : Nat} {t : TypeId} {cs : Array Value} (h : Blk w g t cs) (us : List Value) (hs : cs.size = us.length) : Blk (stores w g 0 us) g t us.toArray := by
  have h' : Blk w g t ([] ++ cs.toList).toArray := by simpa using h
  have := stores_blk us [] (by simpa using hs) h'
  simpa using this
theorem stores_far {g g' : Nat} {t : TypeId} {cs : Array Value} (hne : g' ≠ g) : ∀ (us : List Value) (i : Nat) {w : World}, Blk w g' t cs → Blk (stores w g i us) g' t cs
  | [], _, _, h => h
  | u :: us, i, _, h => stores_far hne us (i + 1) (h.far (p := ⟨g, i, none⟩) hne u)
theorem stores_size {g : Nat} : ∀ (us : List Value) (i : Nat) (w : World), (stores w g i us).heap.size = w.heap.size
  | [], _, _ => rfl
  | u :: us, i, w => by rw [stores, stores_size us (i + 1)]; simp [World.setCell]
theorem stores_below {g B : Nat} {a : World} (hB : B ≤ g) : ∀ (us : List Value) (i : Nat) {w : World}, Below B a w → Below B a (stores w g i us)
  | [], _, _, h => h
  | u :: us, i, _, h => stores_below hB us (i + 1) (h.setCell (p := ⟨g, i, none⟩) hB u)
theorem stores_own {g B : Nat} {e : TypeId} {size n : Nat} {v : Value} {xs : List Value} (hne : v.ownBlock ≠ some g) : ∀ (us : List Value) (i : Nat) {w : World}, w.ownsRow B e size v n xs → (stores w g i us).ownsRow B e size v n xs
  | [], _, _, h => h
  | u :: us, i, w, h => by
    refine stores_own hne us (i + 1) (w := w.setCell ⟨g, i, none⟩ u) ?_
    obtain ⟨h1, h2⟩ := h
    refine ⟨h1, ?_⟩
    rcases h2 with h2 | ⟨g', cap, cur, hv, hg, hh, r⟩
    · exact .inl h2
    · refine .inr ⟨g', cap, cur, hv, hg, ?_, r⟩
      rw [Below.heap_setCell _ _ _ _ (by rintro rfl; exact hne (by rw [hv]; rfl))]
      exact hh

/-! ### A row of integers that the call makes whole: 'make([]int, n)' and its stores -/
def rowF (n : Nat) (f : Nat → Value) : Array Value := ((List.range n).map f).toArray
theorem rowF_size (n : Nat) (f : Nat → Value) : (rowF n f).size = n := by simp [rowF]
theorem rowF_get {n : Nat} {f : Nat → Value} {k : Nat} (h : k < n) : (rowF n f)[k]? = some (f k) := by simp [rowF, h]
theorem rowF_set {n : Nat} {f g : Nat → Value} {k : Nat} {u : Value} (hu : u = g k) (h : ∀ j, j ≠ k → f j = g j) : (rowF n f).setIfInBounds k u = rowF n g := by
  apply Array.ext
  · simp [rowF]
  · intro i h1 h2
    simp only [rowF, List.setIfInBounds_toArray, List.getElem_toArray, List.getElem_set, List.getElem_map, List.getElem_range]
    by_cases hk : k = i
    · subst hk; rw [if_pos rfl, hu]
    · rw [if_neg hk, h i (Ne.symm hk)]
theorem rowF_congr {n : Nat} {f g : Nat → Value} (h : ∀ j, j < n → f j = g j) : rowF n f = rowF n g := by
  unfold rowF
  congr 1
  exact List.map_congr_left (fun j hj => h j (List.mem_range.1 hj))
theorem make_row {P : Program} {t e : TypeId} {z : Value} {bytes : Nat} (ht : P.underlying t = some (.slice e)) (hi : (P.info? e).map (fun i => (i.zero, i.size, i.bytes)) = some (some z, 1, bytes)) (hz : z.cells = #[z])
    {n : Nat} (hb : bytes * n ≤ 281474976710656) (hn : n ≤ 9223372036854775807) (W : World) :
    (Instr.makeSlice t (.int .i64 (n : Int)) (.int .i64 (n : Int))).run P W = .ok (.slice (some ⟨W.heap.size, 0, none⟩) n n) (W.alloc (.cells (rowF n fun _ => z) e)) := by
  obtain ⟨i, h1, h2, h3, h4⟩ := info_parts hi
  rw [run_make_rowN t e i z ht h1 h2 .i64 .i64 n n (Nat.le_refl _) (by rw [h4]; exact hb) hn W, h3, hz, Nat.mul_one]
  congr 3
  apply Array.ext
  · simp [madeCells, rowF]
  · intro j h5 h6
    simp [madeCells, rowF, Nat.mod_one]
theorem row_step {w : World} {g n k : Nat} {t : TypeId} {r : Nat → Int} {x : Int} (h : Blk w g t (rowF n fun j => .int .i64 (if j < k then r j else 0))) (hx : r k = x) :
    Blk (w.setCell ⟨g, k, none⟩ (.int .i64 x)) g t (rowF n fun j => .int .i64 (if j < k + 1 then r j else 0)) := by
  have h1 := h.set_ k (.int .i64 x)
  rw [rowF_set (g := fun j => .int .i64 (if j < k + 1 then r j else 0)) (by simp [hx]) (fun j hj => by
    by_cases h2 : j < k
    · rw [if_pos h2, if_pos (by omega)]
    · rw [if_neg h2, if_neg (by omega)])] at h1
  exact h1
theorem row_skip {w : World} {g n k : Nat} {t : TypeId} {r : Nat → Int} (h : Blk w g t (rowF n fun j => .int .i64 (if j < k then r j else 0))) (hx : r k = 0) : Blk w g t (rowF n fun j => .int .i64 (if j < k + 1 then r j else 0)) := by
  rw [rowF_congr (g := fun j => .int .i64 (if j < k + 1 then r j else 0))] at h
  · exact h
  · intro j _
    by_cases h2 : j < k
    · rw [if_pos h2, if_pos (by omega)]
    · by_cases h3 : j = k
      · subst h3; rw [if_neg h2, if_pos (by omega), hx]
      · rw [if_neg h2, if_neg (by omega)]
/-- A whole row as a slice of the call's own. -/
theorem own_of_blk {w : World} {B g n : Nat} {e : TypeId} {f : Nat → Value} (h : Blk w g e (rowF n f)) (hB : B ≤ g) (hn : n ≤ maxLen) : w.ownsRow B e 1 (.slice (some ⟨g, 0, none⟩) n n) n ((List.range n).map f) :=
  ⟨by simp, .inr ⟨g, n, rowF n f, rfl, hB, h, Nat.le_refl _, hn, by simp [rowF_size], by simp only [rowF, Nat.mul_one]; exact List.take_of_length_le (by simp)⟩⟩
section
variable {P : Program}
theorem wpList_push_at {ops : Array Oper} {rest : List Oper} {o : Oper} {a : Act} {Q : Exit → Act → World → Prop} (hgd : o.guard = none) (s x : Operand) (t : TypeId)
    (ho : o.op = .call { callee := .builtin .append, args := #[s, x], argTypes := #[t, t] })
    {e : TypeId} {size bytes : Nat} (hty : SliceTy P t e size bytes) {wr : World} {cs : Array Value} (hcs : cs.size = size) (h1 : ∀ u ∈ cs.toList, u.oneCell' = true)
    {base : Nat} {v : Value} {n : Nat} {xs : List Value} (hs : a.eval s = v) (hown : wr.ownsRow base e size v n xs) {g : Nat} (hx : a.eval x = .slice (some ⟨g, 0, none⟩) 1 1) (hg : g = wr.heap.size)
    (hbytes : (n + 1) * bytes ≤ 140737488355328) (hbase : base ≤ wr.heap.size)
    (h : ∀ v' w', w'.ownsRow base e size v' (n + 1) (xs ++ cs.toList) → Below base wr w' → wpList P ops Q rest (a.put o.dst v') w') : wpList P ops Q (o :: rest) a (wr.alloc (.cells cs e)) := by
  subst hg
  exact wpList_push hgd s x t ho hty hcs h1 hs hown hx hbytes hbase h
end

end Go.Proofs.YthhlfojaloaooaaGreat
