/-
  AgendaRuns: whatever is put, taken off, waited for and comes the law returns true: every answer is that of one list. No condition.
-/
import Derived.Test.YtkocedbpnpclcaaAgL
import Derived.Test.YtkocedbpnpclcaaPushR
import Derived.Deep.DeepCutAuto
import Derived.Deep.CutBlock
namespace Go.Proofs.Ytkocedbpnpclcaa
set_option linter.unusedSimpArgs false
set_option linter.unusedVariables false
open Go.RowKit Go.WideShapes Go.ChangeShapes
attribute [local go_sem ↓] Go.wp_at_zero Go.wp_at_succ

structure Op4 where
  k : Int
  a : Int
  b : Int
  c : Int
def Op4.cells (o : Op4) : List Value := [.int .i64 o.k, .int .i64 o.a, .int .i64 o.b, .int .i64 o.c]
theorem Op4.len (o : Op4) : o.cells.length = 4 := rfl
theorem open_ops {H : Type} {enc : TypeId × Value → H} {W : World} {v : Value} {d : DataW H} {p : List MemPlace} {b0 : Nat} (hv : Value.okWide Try.prog W .any b0 37 v)
    (h : DataW.Trod enc Try.prog W 0 (fun _ => true) true 37 v d p) (hlt : ∀ x ∈ p, x.block < W.heap.size) :
    ∃ (A : Option Addr) (n c : Nat) (os : List Op4), v = .slice A n c ∧ n ≤ maxLen ∧ os.length = n ∧ Reads W W.heap.size 4 A n (os.flatMap Op4.cells) ∧ ∀ o ∈ os, -9223372036854775808 ≤ o.a ∧ o.a ≤ 9223372036854775807 := by
  obtain ⟨A, n, c, xs, rfl, h1, h2, _, hr, hall⟩ := open_slice_arg (n := 5) (ls := [3, 3, 3, 3]) Try.underlying37 (by kernel_rfl) (by kernel_rfl) rfl hv h hlt
  have key : ∀ l, l ≤ n → ∃ os : List Op4, os.length = l ∧ xs.take (l * 4) = os.flatMap Op4.cells ∧ ∀ o ∈ os, -9223372036854775808 ≤ o.a ∧ o.a ≤ 9223372036854775807 := by
    intro l
    induction l with
    | zero => exact fun _ => ⟨[], rfl, by simp, by simp⟩
    | succ l ih =>
      intro hl
      obtain ⟨os, e1, e2, e4⟩ := ih (by omega)
      have ha := hall l (by omega)
      simp only [List.length_cons, List.length_nil] at ha
      generalize hc : (xs.drop (l * 4)).take 4 = cs at *
      match cs, ha with
      | [c0, c1, c2, c3], ⟨h0, h1, h2, h3, _⟩ =>
        obtain ⟨n0, rfl, _⟩ := h0.i64 Try.underlying3
        obtain ⟨n1, rfl, r1⟩ := h1.i64 Try.underlying3
        obtain ⟨n2, rfl, _⟩ := h2.i64 Try.underlying3
        obtain ⟨n3, rfl, _⟩ := h3.i64 Try.underlying3
        refine ⟨os ++ [⟨n0, n1, n2, n3⟩], by simp [e1], ?_, ?_⟩
        · rw [Nat.succ_mul, List.take_add, e2, hc]
          simp [Op4.cells]
        · intro o ho
          rcases List.mem_append.1 ho with ho | ho
          · exact e4 o ho
          · simp at ho; subst ho; exact r1
  obtain ⟨os, e1, e2, e4⟩ := key n (Nat.le_refl _)
  refine ⟨A, n, c, os, rfl, by omega, e1, ?_, e4⟩
  have e3 : xs.length = n * 4 := hr.1
  rw [List.take_of_length_le (Nat.le_of_eq e3)] at e2
  rw [← e2]
  exact hr
theorem row_cap {w : World} {B : Nat} {t : TypeId} {sz : Nat} {A : Addr} {m c n : Nat} {xs : List Value} (h : w.ownsRow B t sz (.slice (some A) m c) n xs) : n ≤ c := by
  rcases h.2 with ⟨h, _⟩ | ⟨_, _, _, h, _, _, hle, _⟩
  · cases h
  · injection h with _ _ h3
    omega
theorem add0 (g j : Nat) : (⟨g, 0, none⟩ : Addr).add j = ⟨g, j, none⟩ := by unfold Addr.add; split <;> simp_all
/-! ### The law's own list -/
def icl (y : It) : List Value := [.int .i64 y.at_, .int .i64 y.turn, .int .i64 y.what]
def icls (its : List It) : List Value := its.flatMap icl
theorem icls_len (its : List It) : (icls its).length = its.length * 3 := flatMap_length (f := icl) (fun _ => rfl) its
theorem icls_at {its : List It} {k : Nat} {y : It} (h : its[k]? = some y) {j : Nat} (hj : j < 3) : (icls its)[k * 3 + j]? = (icl y)[j]? := flatMap_get (f := icl) (fun _ => rfl) h j hj
theorem styR : SliceTy Try.prog 38 42 3 24 := sliceTy_mk (z := .agg #[.int .i64 0, .int .i64 0, .int .i64 0]) Try.underlying38 (by kernel_rfl) rfl
structure Runs (w0 w : World) (g : Nat) (S : List Nat) (a : Ag) (v : Value) (m : Nat) : Prop where
  has : Has w0 w g S a
  row : w.ownsRow w0.heap.size 42 3 v m (icls a.its)
  len : a.its.length = m
  far : ∀ k, v.ownBlock = some k → k ∉ S
  inc : a.its.Pairwise (fun x y => x.turn < y.turn)
theorem own_cell {w : World} {B n g cap : Nat} {its : List It} (h : w.ownsRow B 42 3 (.slice (some ⟨g, 0, none⟩) n cap) n (icls its)) {k : Nat} {y : It} (hk : its[k]? = some y) :
    w.cell? ⟨g, k * 3, none⟩ = some (.int .i64 y.at_) ∧ w.cell? ⟨g, k * 3 + 1, none⟩ = some (.int .i64 y.turn) ∧ w.cell? ⟨g, k * 3 + 2, none⟩ = some (.int .i64 y.what) := by
  have hc := h.cells (g := g) rfl
  have ha : ∀ j : Nat, (⟨g, 0, none⟩ : Addr).add j = ⟨g, j, none⟩ := fun j => by unfold Addr.add; split <;> simp_all
  refine ⟨?_, ?_, ?_⟩
  · have := hc (k * 3 + 0) _ (icls_at hk (j := 0) (by omega))
    rw [ha] at this; exact this
  · have := hc (k * 3 + 1) _ (icls_at hk (j := 1) (by omega))
    rw [ha] at this; exact this
  · have := hc (k * 3 + 2) _ (icls_at hk (j := 2) (by omega))
    rw [ha] at this; exact this
theorem Runs.mv {w0 w w' : World} {g m : Nat} {S : List Nat} {a : Ag} {v : Value} (h : Runs w0 w g S a v m) (hb : Below w.heap.size w w') : Runs w0 w' g S a v m :=
  ⟨h.has.mv hb, ownsRow_keep h.row hb, h.len, h.far, h.inc⟩
theorem Runs.step {w0 w w' : World} {g m : Nat} {S S' : List Nat} {a a' : Ag} {v : Value} (h : Runs w0 w g S a v m) (h1 : AAtI w' g S' a') (h2 : Sub w S S') (h3 : Fr S w w') :
    Has w0 w' g S' a' ∧ w'.ownsRow w0.heap.size 42 3 v m (icls a.its) ∧ ∀ k, v.ownBlock = some k → k ∉ S' := by
  refine ⟨h.has.step h1 h2 h3, ?_, fun k hk hm => ?_⟩
  · exact ⟨h.row.1, by
      rcases h.row.2 with h4 | ⟨q, cap, cur, e, hq, hh, r⟩
      · exact .inl h4
      · have hl := (ownsRow_lt h.row q (by rw [e]; rfl)).2
        exact .inr ⟨q, cap, cur, e, hq, (h3.block q hl (h.far q (by rw [e]; rfl))).trans hh, r⟩⟩
  · rcases h2 k hm with h4 | h4
    · exact h.far k hk h4
    · have := (ownsRow_lt h.row k hk).2
      omega
/-- One taken out of the list. -/
theorem erase_filter {its : List It} (hi : its.Pairwise (fun x y => x.turn < y.turn)) {p : Nat} {y : It} (hp : its[p]? = some y) : its.take p ++ its.drop (p + 1) = its.filter fun z => decide (z.turn ≠ y.turn) := by
  have hl := (List.getElem?_eq_some_iff.1 hp).1
  have e : its = its.take p ++ y :: its.drop (p + 1) := by
    conv => lhs; rw [← List.take_append_drop p its]
    rw [List.drop_eq_getElem_cons hl, (List.getElem?_eq_some_iff.1 hp).2]
  rw [e, List.pairwise_append] at hi
  obtain ⟨_, h2, h3⟩ := hi
  have h4 := List.pairwise_cons.1 h2
  conv => rhs; rw [e]
  rw [List.filter_append, List.filter_cons_of_neg (by simp)]
  congr 1
  · symm
    rw [List.filter_eq_self]
    intro z hz
    have := h3 z hz y (List.mem_cons_self ..)
    have h5 : z.turn ≠ y.turn := by omega
    simpa using h5
  · symm
    rw [List.filter_eq_self]
    intro z hz
    have := h4.1 z hz
    have h5 : z.turn ≠ y.turn := by omega
    simpa using h5
def FindT (its : List It) (T : Int) (q : Nat) (x : Int) : Prop := (x = -1 ∧ ∀ (j : Nat) (y : It), j < q → its[j]? = some y → y.turn ≠ T) ∨ ∃ (p : Nat) (y : It), p < q ∧ x = (p : Int) ∧ its[p]? = some y ∧ y.turn = T
def FindB (its : List It) (q : Nat) (x : Int) : Prop := (x = -1 ∧ q = 0) ∨ ∃ (p : Nat) (y : It), p < q ∧ x = (p : Int) ∧ its[p]? = some y ∧ ∀ (j : Nat) (z : It), j < q → its[j]? = some z → y.at_ < z.at_ ∨ y.at_ = z.at_ ∧ p ≤ j
theorem inc_lt {its : List It} (hi : its.Pairwise (fun x y => x.turn < y.turn)) {i j : Nat} {x y : It} (hx : its[i]? = some x) (hy : its[j]? = some y) (h : i < j) : x.turn < y.turn := by
  obtain ⟨h1, e1⟩ := List.getElem?_eq_some_iff.1 hx
  obtain ⟨h2, e2⟩ := List.getElem?_eq_some_iff.1 hy
  rw [← e1, ← e2]
  exact List.pairwise_iff_getElem.1 hi i j h1 h2 h
theorem It.ext' {x y : It} (h1 : x.at_ = y.at_) (h2 : x.turn = y.turn) (h3 : x.what = y.what) : x = y := by cases x; cases y; simp at *; exact ⟨h1, h2, h3⟩
theorem same_turn {its : List It} (hi : its.Pairwise (fun x y => x.turn < y.turn)) {x y : It} (hx : x ∈ its) (hy : y ∈ its) (h : x.turn = y.turn) : x = y := by
  obtain ⟨i, hx⟩ := List.getElem?_of_mem hx
  obtain ⟨j, hy⟩ := List.getElem?_of_mem hy
  rcases Nat.lt_trichotomy i j with h1 | h1 | h1
  · have := inc_lt hi hx hy h1; omega
  · subst h1; rw [hx] at hy; injection hy
  · have := inc_lt hi hy hx h1; omega
theorem best_min {its : List It} (hi : its.Pairwise (fun x y => x.turn < y.turn)) {q p : Nat} {y : It} (hq : q = its.length) (hp : its[p]? = some y) (hb : ∀ (j : Nat) (z : It), j < q → its[j]? = some z → y.at_ < z.at_ ∨ y.at_ = z.at_ ∧ p ≤ j) {m : It} (hm : m ∈ its) (hmin : ∀ z ∈ its, m.le z) : m = y := by
  obtain ⟨j, hj⟩ := List.getElem?_of_mem hm
  have h1 := hb j m (by rw [hq]; exact (List.getElem?_eq_some_iff.1 hj).1) hj
  have h2 := hmin y (List.mem_of_getElem? hp)
  unfold It.le at h2
  refine same_turn hi hm (List.mem_of_getElem? hp) ?_
  rcases Nat.lt_trichotomy p j with h3 | h3 | h3
  · have := inc_lt hi hp hj h3; omega
  · subst h3; rw [hp] at hj; injection hj with hj; rw [hj]
  · omega
theorem inc_put {a : Ag} (hi : a.its.Pairwise (fun x y => x.turn < y.turn)) (ht : ∀ x ∈ a.its, 1 ≤ x.turn ∧ x.turn ≤ a.turn) (x y : Int) : (a.put x y).its.Pairwise (fun x y => x.turn < y.turn) := by
  show (a.its ++ [(⟨x, a.turn + 1, y⟩ : It)]).Pairwise _
  rw [List.pairwise_append]
  refine ⟨hi, by simp, fun u hu v hv => ?_⟩
  simp at hv
  subst hv
  have := ht u hu
  show u.turn < a.turn + 1
  omega
theorem icls_one (its : List It) : ∀ u ∈ icls its, u.oneCell' = true := by
  intro u hu
  obtain ⟨y, _, hy⟩ := List.mem_flatMap.1 hu
  simp [icl] at hy
  rcases hy with rfl | rfl | rfl <;> rfl
theorem icls_append (a b : List It) : icls (a ++ b) = icls a ++ icls b := by simp [icls]
theorem reads_head {w : World} {g m p B : Nat} {its : List It} (hc : ∀ (j : Nat) (u : Value), (icls its)[j]? = some u → w.cell? ⟨g, j, none⟩ = some u) (hg : g < w.heap.size) (hl : its.length = m) (hp : p ≤ m) (hB : g < B) (A : Option Addr) (hA : 0 < p → A = some ⟨g, 0, none⟩) : Reads w B 3 A p (icls (its.take p)) := by
  refine ⟨by rw [icls_len, List.length_take]; omega, fun h0 => ⟨_, hA h0, hB, fun j u hu => ?_⟩⟩
  have e : (⟨g, 0, none⟩ : Addr).add j = ⟨g, j, none⟩ := by unfold Addr.add; split <;> simp_all
  rw [e]
  refine hc j u ?_
  have h := (List.getElem?_eq_some_iff.1 hu).1
  rw [← List.take_append_drop p its, icls_append, List.getElem?_append_left h]
  exact hu
theorem reads_tail {w : World} {g m p B : Nat} {its : List It} (hc : ∀ (j : Nat) (u : Value), (icls its)[j]? = some u → w.cell? ⟨g, j, none⟩ = some u) (hg : g < w.heap.size) (hl : its.length = m) (hp : p ≤ m) (hB : g < B) (A : Option Addr) (hA : p < m → A = some ⟨g, p * 3, none⟩) : Reads w B 3 A (m - p) (icls (its.drop p)) := by
  refine ⟨by rw [icls_len, List.length_drop]; omega, fun h0 => ⟨_, hA (by omega), hB, fun j u hu => ?_⟩⟩
  have e : (⟨g, p * 3, none⟩ : Addr).add j = ⟨g, p * 3 + j, none⟩ := by unfold Addr.add; split <;> simp_all
  rw [e]
  refine hc _ u ?_
  rw [← List.take_append_drop p its, icls_append, List.getElem?_append_right (by rw [icls_len, List.length_take]; omega), icls_len, List.length_take, Nat.min_eq_left (by omega), Nat.add_sub_cancel_left]
  exact hu
theorem Has.far {w0 w w' : World} {g : Nat} {S T : List Nat} {a : Ag} (h : Has w0 w g S a) (hf : Fr T w w') (hT : ∀ k ∈ T, k ∉ S) (hg : ∀ k ∈ T, w0.heap.size ≤ k) : Has w0 w' g S a :=
  ⟨h.at_.fr hf hT, h.new, h.below.trans (hf.below h.below.size hg)⟩
theorem fr_of_gr {w w' : World} {r : Option Nat} (h : w.grownBy w' r) : Fr r.toList w w' := ⟨h.os, h.tape, h.output, h.size, fun k hk hn => h.block k hk (fun e => hn (by rw [← e]; simp))⟩
theorem len_turn : ∀ {its : List It} {t : Int}, its.Pairwise (fun x y => x.turn < y.turn) → (∀ x ∈ its, 1 ≤ x.turn ∧ x.turn ≤ t) → its.length ≤ t.toNat
  | [], _, _, _ => Nat.zero_le _
  | x :: its, t, hi, ht => by
    have h := List.pairwise_cons.1 hi
    have h1 : ∀ y ∈ its.map (fun y => (⟨y.at_, y.turn - x.turn, y.what⟩ : It)), 1 ≤ y.turn ∧ y.turn ≤ t - x.turn := by
      intro y hy
      obtain ⟨z, hz, rfl⟩ := List.mem_map.1 hy
      have h2 := h.1 z hz
      have h3 := ht z (List.mem_cons_of_mem _ hz)
      show 1 ≤ z.turn - x.turn ∧ z.turn - x.turn ≤ t - x.turn
      omega
    have h2 : (its.map (fun y => (⟨y.at_, y.turn - x.turn, y.what⟩ : It))).Pairwise (fun x y => x.turn < y.turn) := by
      rw [List.pairwise_map]
      exact h.2.imp fun {a b} hab => by show a.turn - x.turn < b.turn - x.turn; omega
    have h3 := len_turn h2 h1
    rw [List.length_map] at h3
    have h4 := ht x (List.mem_cons_self ..)
    rw [List.length_cons]
    omega
  termination_by its => its.length
set_option maxRecDepth 100000 in
set_option maxHeartbeats 16000000 in
theorem agendaRuns_calls (A : Option Addr) (n c : Nat) (os : List Op4) (w : World) (hr : Reads w w.heap.size 4 A n (os.flatMap Op4.cells)) (hl : os.length = n) (hR : ∀ o ∈ os, -9223372036854775808 ≤ o.a ∧ o.a ≤ 9223372036854775807) :
    Calls Try.prog 6 #[.slice A n c] w fun e w' => e = .returned (.bool true) ∧ Below w.heap.size w w' := by
  have HR := Lib.hid (And.intro hr (And.intro hl hR))
  clear hr hl hR
  go_enter Try.func6, Try.ntmps6
  go_wp2_with fail
  refine (head_any _).mono ?_
  rintro e w1 ⟨rfl, b1⟩
  have HB1 := Lib.hid b1
  clear b1
  go_wp2_with fail
  refine (new_anyI w1).mono ?_
  rintro e w2 ⟨g, S, rfl, hA, hS, hb⟩
  have hH : Has w w2 g S ⟨0, 0, []⟩ := ⟨hA, fun k hk => Nat.le_trans HB1.out.size (hS k hk), HB1.out.trans (hb.mono HB1.out.size)⟩
  have HA : Hid (Runs w (w2.alloc (.cells #[] 42)) g S ⟨0, 0, []⟩ (.slice (some ⟨w2.heap.size, 0, none⟩) 0 0) 0) := Lib.hid ⟨hH.mv ((Below.refl _ _).alloc (Nat.le_refl _) _), ownsRow_new w2 (base := w.heap.size) (n := 0) (size := 3) (cs := #[]) hH.below.size rfl (Nat.zero_le _), rfl, fun k hk hm => by
    simp [Value.ownBlock] at hk
    have := hH.at_.lt k hm
    omega, List.Pairwise.nil⟩
  clear hA hS hb HB1 hH
  go_wp2_with fail
  generalize w2.alloc (.cells #[] 42) = w3 at *
  go_loopw [4, 5, 6, 7] (fun v nv pv i wr => ∃ (k : Nat) (S' : List Nat) (a : Ag) (m : Nat), nv = .int .i64 a.now ∧ pv = .int .i64 a.turn ∧ i = .int .i64 (k : Nat) ∧ k ≤ n ∧ k ≤ 120 ∧ Hid (Runs w wr g S' a v m ∧ a.turn ≤ k)) (fun _ _ _ i _ => n - (intOf i).toNat)
  case atStart => exact ⟨0, S, ⟨0, 0, []⟩, 0, rfl, rfl, rfl, Nat.zero_le _, Nat.zero_le _, Lib.hid ⟨HA.out, Int.le_refl _⟩⟩
  case round =>
    clear HA
    obtain ⟨k, S', a, m, rfl, rfl, rfl, hk, hk120, hinv⟩ := hrel
    obtain ⟨wo, rfl⟩ : ∃ wo : World, wo = wr := ⟨_, rfl⟩
    obtain ⟨A4, c4, rfl, _, _⟩ := ownsRow_reads hinv.out.1.row
    by_cases hlt : k < n
    rotate_left
    · have HW := Lib.hid hinv.out.1.has.below
      clear hinv
      go_wp2_with fail
      go_ret
      exact ⟨rfl, HW.out⟩
    by_cases h120 : k < 120
    rotate_left
    · have HW := Lib.hid hinv.out.1.has.below
      have d1 : decide ((k : Int) < 120) = false := decide_eq_false (by omega)
      clear hinv
      go_wp2_with fail
      go_ret
      exact ⟨rfl, HW.out⟩
    obtain ⟨o, ho⟩ := getElem?_some_of_lt HR.out.2.1 hlt
    obtain ⟨ad, rfl, hblk, hc0, hcj⟩ := (HR.out.1.below hinv.out.1.has.below).elem Op4.len ho hlt
    have p0 := hc0 _ rfl
    have p1 := hcj 1 _ (by omega) rfl
    have p2 := hcj 2 _ (by omega) rfl
    have p3 := hcj 3 _ (by omega) rfl
    have HoA := Lib.hid (HR.out.2.2 o (List.mem_of_getElem? ho))
    have dl : (k : Int) < 120 := by omega
    obtain ⟨K, hK⟩ : ∃ K, K = k + 1 := ⟨_, rfl⟩
    have fk : IntKind.i64.wrap ((k : Int) + 1) = (K : Int) := by rw [hK]; exact IntWalk.i64_in _ ⟨by omega, by omega⟩
    have HK : Hid (K = k + 1 ∧ k < n ∧ k < 120) := Lib.hid ⟨hK, hlt, h120⟩
    have hbl := (Below.refl wo.heap.size wo).alloc (Nat.le_refl _) (.cells #[.int .i64 o.k, .int .i64 o.a, .int .i64 o.b, .int .i64 o.c] 40)
    have HO8 := Lib.hid (Blk.new wo 40 #[.int .i64 o.k, .int .i64 o.a, .int .i64 o.b, .int .i64 o.c])
    have HI : Hid (Runs w (wo.alloc (.cells #[.int .i64 o.k, .int .i64 o.a, .int .i64 o.b, .int .i64 o.c] 40)) g S' a (.slice A4 m c4) m ∧ a.turn ≤ k) := Lib.hid ⟨hinv.out.1.mv hbl, hinv.out.2⟩
    have HS8 : Hid (wo.heap.size ∉ S') := Lib.hid fun hm => Nat.lt_irrefl _ (hinv.out.1.has.at_.lt _ hm)
    clear hc0 hcj ho hK h120 hbl hinv hk hk120
    go_upto_block 2 with fail
    go_cut [4, 5, 6] (fun s4 s5 s6 wx => ∃ (S2 : List Nat) (a2 : Ag) (m2 : Nat), s5 = .int .i64 a2.now ∧ s6 = .int .i64 a2.turn ∧ Hid (Runs w wx g S2 a2 s4 m2 ∧ a2.turn ≤ K))
    case rest =>
      obtain ⟨S2, a2, m2, rfl, rfl, HI2⟩ := hcut
      obtain ⟨A5, c5, rfl, _, _⟩ := ownsRow_reads HI2.out.1.row
      have HO := Lib.hid (now_anyI wc g S2 a2 HI2.out.1.has.at_)
      have HLn := Lib.hid (alen_anyI wc g S2 a2 HI2.out.1.has.at_)
      rw [HI2.out.1.len] at HLn
      clear HI HO8 HS8 HoA p0 p1 p2 p3
      go_wp2_with fail
      refine HO.out.mono ?_
      rintro e wz ⟨rfl, rfl⟩
      go_wp2_with fail
      refine HLn.out.mono ?_
      rintro e wz ⟨rfl, rfl⟩
      go_wp2_with fail
      clear fk
      go_roundw
      case rel => exact ⟨K, S2, a2, m2, rfl, rfl, rfl, by have := HK.out; omega, by have := HK.out; omega, Lib.hid ⟨HI2.out.1, HI2.out.2⟩⟩
      case measure => have := HK.out; simp [intOf]; omega
    case first =>
      have hcase : (o.k == 0) = true ∨ ((o.k == 0) = false ∧ (o.k == 1) = true) ∨ ((o.k == 0) = false ∧ (o.k == 1) = false ∧ (o.k == 2) = true ∧ (o.k == 3) = false) ∨ ((o.k == 0) = false ∧ (o.k == 1) = false ∧ (o.k == 2) = false ∧ (o.k == 3) = true) ∨ ((o.k == 0) = false ∧ (o.k == 1) = false ∧ (o.k == 2) = false ∧ (o.k == 3) = false) := by
        by_cases h0 : o.k = 0
        · exact .inl (beq_iff_eq.2 h0)
        · by_cases h1 : o.k = 1
          · exact .inr (.inl ⟨beq_eq_false_iff_ne.2 h0, beq_iff_eq.2 h1⟩)
          · by_cases h2 : o.k = 2
            · exact .inr (.inr (.inl ⟨beq_eq_false_iff_ne.2 h0, beq_eq_false_iff_ne.2 h1, beq_iff_eq.2 h2, beq_eq_false_iff_ne.2 (by omega)⟩))
            · by_cases h3 : o.k = 3
              · exact .inr (.inr (.inr (.inl ⟨beq_eq_false_iff_ne.2 h0, beq_eq_false_iff_ne.2 h1, beq_eq_false_iff_ne.2 h2, beq_iff_eq.2 h3⟩)))
              · exact .inr (.inr (.inr (.inr ⟨beq_eq_false_iff_ne.2 h0, beq_eq_false_iff_ne.2 h1, beq_eq_false_iff_ne.2 h2, beq_eq_false_iff_ne.2 h3⟩)))
      rcases hcase with g0 | ⟨g0, g1⟩ | ⟨g0, g1, g2, g3⟩ | ⟨g0, g1, g2, g3⟩ | ⟨g0, g1, g2, g3⟩
      · as_aux_lemma =>
          go_wp2_with fail
          generalize wo.alloc (.cells #[.int .i64 o.k, .int .i64 o.a, .int .i64 o.b, .int .i64 o.c] 40) = w1 at *
          generalize wo.heap.size = o8 at *
          clear p0 p1 p2 p3 hblk dl
          have HC := Lib.hid (put_anyI w1 g S' a HI.out.1.has.at_ o.a o.b (by have := HI.out.2; have := HK.out; omega))
          by_cases hA1 : 1099511627776 < o.a
          · rw [show a.putE o.a = 1 from if_pos hA1] at HC
            refine HC.out.mono ?_
            rintro e w3 (⟨_, rfl, hA3, hb3⟩ | ⟨h, _⟩)
            rotate_left
            · exact absurd h (by decide)
            have q1 := (HO8.out.kept hb3).cellOf (v := .int .i64 o.a) 1 rfl
            have HI3 : Hid (Runs w w3 g S' a (.slice A4 m c4) m ∧ a.turn ≤ K) := Lib.hid ⟨HI.out.1.mv hb3, by have := HI.out.2; have := HK.out; omega⟩
            clear hA3 hb3 HC HI
            go_wp2_with fail
            go_meet
            exact ⟨S', a, m, rfl, rfl, HI3⟩
          have d1 : decide (1099511627776 < o.a) = false := decide_eq_false hA1
          by_cases hA2 : o.a < a.now
          · rw [show a.putE o.a = 31 from by unfold Ag.putE; rw [if_neg hA1, if_pos hA2]] at HC
            refine HC.out.mono ?_
            rintro e w3 (⟨_, rfl, hA3, hb3⟩ | ⟨h, _⟩)
            rotate_left
            · exact absurd h (by decide)
            have q1 := (HO8.out.kept hb3).cellOf (v := .int .i64 o.a) 1 rfl
            have HI3 : Hid (Runs w w3 g S' a (.slice A4 m c4) m ∧ a.turn ≤ K) := Lib.hid ⟨HI.out.1.mv hb3, by have := HI.out.2; have := HK.out; omega⟩
            clear hA3 hb3 HC HI hA1
            go_wp2_with fail
            go_meet
            exact ⟨S', a, m, rfl, rfl, HI3⟩
          have d2 : decide (o.a < a.now) = false := decide_eq_false hA2
          have hE : a.putE o.a = 0 := by
            have h1 := HI.out.1.has.at_.facts.2.1
            have h2 : a.its.length ≤ 120 := by
              have hsub : a.its.length ≤ a.turn.toNat := len_turn HI.out.1.inc h1
              have := HI.out.2; have := HK.out; omega
            unfold Ag.putE
            rw [if_neg hA1, if_neg hA2, if_neg (by omega)]
          rw [hE] at HC
          refine HC.out.mono ?_
          rintro e w3 (⟨h, _⟩ | ⟨_, he, S3, hA3, hS3, hF3⟩)
          · exact absurd rfl h
          obtain ⟨T, hT⟩ : ∃ T, T = a.turn + 1 := ⟨_, rfl⟩
          rw [← hT] at he
          subst he
          have hfa := HI.out.1.has.at_.facts
          have fT : IntKind.i64.wrap (a.turn + 1) = T := by have := HI.out.2; have := HK.out; have := hfa.2.2.1; rw [← hT]; exact IntWalk.i64_in _ ⟨by omega, by omega⟩
          have hO3 := hF3.blk HO8.out HS8.out
          have q1 := hO3.cellOf (v := .int .i64 o.a) 1 rfl
          have q2 := hO3.cellOf (v := .int .i64 o.b) 2 rfl
          obtain ⟨hs1, hs2, hs3⟩ := HI.out.1.step hA3 hS3 hF3
          have hinc := inc_put HI.out.1.inc hfa.2.1 o.a o.b
          have hm : m ≤ 1000 := by
            have h1 := len_turn HI.out.1.inc hfa.2.1
            have := HI.out.1.len; have := HI.out.2; have := HK.out; omega
          have HX := Lib.hid (And.intro hs1 (And.intro hs2 (And.intro hs3 (And.intro hinc (And.intro hT (And.intro hm (And.intro HI.out.1.len HI.out.2)))))))
          clear hA3 hS3 hF3 hO3 hs1 hs2 hs3 hinc hfa hT hm HC HI hE hA1 hA2
          go_wp2_with (first | (at_builtin; refine wpList_pushG 1 rfl (.tmp 71) (.tmp 78) 38 rfl styR (wr := w3) (cs := #[.int .i64 o.a, .int .i64 T, .int .i64 o.b]) rfl (by intro u hu; simp at hu; rcases hu with rfl | rfl | rfl <;> rfl) (base := w.heap.size) (v := .slice A4 m c4) rfl HX.out.2.1 rfl rfl (by have := HX.out.2.2.2.2.2.1; omega) HX.out.1.below.size ?_; intro v5 w5 own5 gr5 mv5) | fail)
          have HI5 : Hid (Runs w w5 g S3 (a.put o.a o.b) v5 (m + 1) ∧ (a.put o.a o.b).turn ≤ K) := Lib.hid (by
            obtain ⟨hs1, hs2, hs3, hinc, hT, hm, hln, htk⟩ := HX.out
            refine ⟨⟨hs1.far (fr_of_gr gr5) (fun k hk => by simp at hk; exact hs3 k hk) (fun k hk => by simp at hk; exact (ownsRow_lt hs2 k hk).1), ?_, by show (a.its ++ [_]).length = m + 1; simp [hln], ?_, hinc⟩, by show a.turn + 1 ≤ (K : Int); have := HK.out; omega⟩
            · have e : icls (a.put o.a o.b).its = icls a.its ++ [.int .i64 o.a, .int .i64 T, .int .i64 o.b] := by
                show icls (a.its ++ [(⟨o.a, a.turn + 1, o.b⟩ : It)]) = _
                rw [hT]
                simp [icls, icl]
              rw [e]
              exact own5
            · intro q hq
              rcases mv5 with h | ⟨q', h, hge⟩
              · exact hs3 q (by rw [← h]; exact hq)
              · rw [h] at hq
                injection hq with hq
                intro hm
                have := hs1.at_.lt q hm
                omega)
          have HT5 : Hid (T = a.turn + 1) := Lib.hid HX.out.2.2.2.2.1
          clear own5 gr5 mv5 HX q1 q2 fT
          go_meet
          exact ⟨S3, a.put o.a o.b, m + 1, rfl, by rw [HT5.out]; rfl, HI5⟩
      · as_aux_lemma =>
          go_wp2_with fail
          generalize wo.alloc (.cells #[.int .i64 o.k, .int .i64 o.a, .int .i64 o.b, .int .i64 o.c] 40) = w1 at *
          generalize wo.heap.size = o8 at *
          clear p0 p1 p2 p3 hblk dl
          have hm1000 : m ≤ 1000 := by
            have h1 := len_turn HI.out.1.inc HI.out.1.has.at_.facts.2.1
            have := HI.out.1.len; have := HI.out.2; have := HK.out; omega
          have HM := Lib.hid hm1000
          clear hm1000
          go_loopw [11, 90] (fun xv i wr => ∃ (q : Nat) (x : Int), xv = .int .i64 x ∧ i = .int .i64 (q : Nat) ∧ q ≤ m ∧ Hid (FindT a.its o.a q x ∧ Below w1.heap.size w1 wr)) (fun _ i _ => m - (intOf i).toNat)
          case atStart => exact ⟨0, -1, rfl, rfl, Nat.zero_le _, Lib.hid ⟨.inl ⟨rfl, fun j y h => absurd h (Nat.not_lt_zero _)⟩, Below.refl _ _⟩⟩
          case round =>
            obtain ⟨q, x, rfl, rfl, hq, hf⟩ := hrel
            obtain ⟨w3, rfl⟩ : ∃ w3 : World, w3 = wr := ⟨_, rfl⟩
            have HI3 := Lib.hid (HI.out.1.mv hf.out.2)
            have q1 := (HO8.out.kept hf.out.2).cellOf (v := .int .i64 o.a) 1 rfl
            have l1 := (HO8.out.kept hf.out.2).lt
            by_cases hlq : q < m
            · obtain ⟨y, hy⟩ := getElem?_some_of_lt HI3.out.len hlq
              obtain ⟨g4, cap, hv, _, hg4⟩ := HI3.out.row.form (by omega)
              injection hv with hv1 _ hv3
              subst hv1
              subst hv3
              have y1 := (own_cell HI3.out.row hy).2.1
              obtain ⟨Q, hQ⟩ : ∃ Q, Q = q + 1 := ⟨_, rfl⟩
              have fq : IntKind.i64.wrap ((q : Int) + 1) = (Q : Int) := by have := HM.out; rw [hQ]; exact IntWalk.i64_in _ ⟨by omega, by omega⟩
              have HQ := Lib.hid (And.intro hQ (And.intro hlq hy))
              clear hQ hy
              have hcs : (y.turn == o.a) = true ∨ (y.turn == o.a) = false := by cases (y.turn == o.a) <;> simp
              go_wp2_with fail
              refine wp_region_class (fun w' => Below w3.heap.size w3 w') (by kernel_rfl) (by kernel_rfl) (Below.refl _ _).drew ?_
              repeat (first | (with_reducible (refine wpQuiet_skip ?_ ?_); (first | exact wanted_off rfl rfl rfl rfl | exact wanted_off2 rfl rfl rfl); simp only [Act.put, List.setIfInBounds_toArray, List.set_cons_zero, List.set_cons_succ]) | (with_reducible (refine wpQuiet_val (v := ?_) ?_ ?_ ?_); rotate_left; (first | exact wanted_none rfl | exact wanted_on rfl rfl rfl); (intro w' hw'; obtain ⟨hc, hf⟩ := bcell hw'; go_simp; with_reducible rfl); simp only [Act.put, List.setIfInBounds_toArray, List.set_cons_zero, List.set_cons_succ]))
              refine wpQuiet_nil ?_
              intro w4 hw4
              have HB4 := Lib.hid (hf.out.2.trans (hw4.mono hf.out.2.size))
              have HF := Lib.hid hf.out.1
              clear hw4 hf q1 l1 y1 hg4 HI3
              rcases hcs with h | h
              · as_aux_lemma =>
                  have hyt := Lib.hid (beq_iff_eq.1 h)
                  go_wp2_with fail
                  clear fq
                  go_roundw
                  case rel => exact ⟨Q, q, rfl, rfl, by have := HQ.out; omega, Lib.hid ⟨.inr ⟨q, y, by have := HQ.out; omega, rfl, HQ.out.2.2, hyt.out⟩, HB4.out⟩⟩
                  case measure => have := HQ.out; simp [intOf]; omega
              · as_aux_lemma =>
                  have hyt := Lib.hid (beq_eq_false_iff_ne.1 h)
                  go_wp2_with fail
                  clear fq
                  go_roundw
                  case rel =>
                    refine ⟨Q, x, rfl, rfl, by have := HQ.out; omega, Lib.hid ⟨?_, HB4.out⟩⟩
                    rcases HF.out with ⟨hx, hn⟩ | ⟨p, z, hp, hx, hz, hzt⟩
                    · refine .inl ⟨hx, fun j z hj hz => ?_⟩
                      by_cases e : j = q
                      · subst e; rw [HQ.out.2.2] at hz; injection hz with hz; rw [← hz]; exact hyt.out
                      · exact hn j z (by have := HQ.out; omega) hz
                    · exact .inr ⟨p, z, by have := HQ.out; omega, hx, hz, hzt⟩
                  case measure => have := HQ.out; simp [intOf]; omega
            · obtain rfl : q = m := by omega
              have HD := Lib.hid (drop_anyI w3 g S' a HI3.out.has.at_ o.a HoA.out)
              have HF := Lib.hid hf.out.1
              clear hf hlq hq
              rcases HF.out with ⟨rfl, hn⟩ | ⟨p, y, hp, rfl, hy, hyt⟩
              · as_aux_lemma =>
                  have HNo := Lib.hid hn
                  clear hn HF
                  go_wp2_with fail
                  refine HD.out.mono ?_
                  rintro e w4 (⟨_, rfl, hA4, hb4⟩ | ⟨m0, hm0, hmt, _⟩)
                  rotate_left
                  · exfalso
                    obtain ⟨j, hj⟩ := List.getElem?_of_mem hm0
                    exact HNo.out j m0 (by rw [← HI3.out.len]; exact (List.getElem?_eq_some_iff.1 hj).1) hj hmt
                  have HI4 : Hid (Runs w w4 g S' a (.slice A4 q c4) q ∧ a.turn ≤ K) := Lib.hid ⟨HI3.out.mv hb4, by have := HI.out.2; have := HK.out; omega⟩
                  clear hA4 hb4 HD HI3 HI q1 l1
                  go_wp2_with fail
                  go_meet
                  exact ⟨S', a, q, rfl, rfl, HI4⟩
              · as_aux_lemma =>
                  have HY := Lib.hid (And.intro hy (And.intro hyt hp))
                  clear hy hyt HF
                  go_wp2_with fail
                  refine HD.out.mono ?_
                  rintro e w4 (⟨hno, _⟩ | ⟨m0, hm0, hmt, rfl, S4, hA4, hS4, hF4⟩)
                  · exact absurd HY.out.2.1 (hno y (List.mem_of_getElem? HY.out.1))
                  obtain ⟨m, rfl⟩ : ∃ m : Nat, m = q := ⟨_, rfl⟩
                  obtain ⟨g4, cap, hv, _, hg4⟩ := HI3.out.row.form (by omega)
                  injection hv with hv1 _ hv3
                  subst hv1
                  subst hv3
                  obtain ⟨hs1, hs2, hs3⟩ := HI3.out.step hA4 hS4 hF4
                  have hmy : m0 = y := same_turn HI3.out.inc hm0 (List.mem_of_getElem? HY.out.1) (by rw [hmt, HY.out.2.1])
                  have hcap : m ≤ c4 := row_cap hs2
                  have HE : Hid (Has w w4 g S4 (a.gone m0 a.now) ∧ w4.ownsRow w.heap.size 42 3 (.slice (some ⟨g4, 0, none⟩) m c4) m (icls a.its) ∧ (∀ k, (Value.slice (some ⟨g4, 0, none⟩) m c4).ownBlock = some k → k ∉ S4) ∧ a.its.length = m ∧ m ≤ 1000 ∧ m ≤ c4 ∧ (a.gone m0 a.now).its = a.its.take p ++ a.its.drop (p + 1) ∧ (a.gone m0 a.now).its.Pairwise (fun x y => x.turn < y.turn)) :=
                    Lib.hid ⟨hs1, hs2, hs3, HI3.out.len, HM.out, hcap, by rw [erase_filter HI3.out.inc HY.out.1, ← hmy]; rfl, HI3.out.inc.sublist (List.filter_sublist ..)⟩
                  have HEk : Hid ((a.gone m0 a.now).turn ≤ (K : Int)) := Lib.hid (by show a.turn ≤ (K : Int); have := HI.out.2; have := HK.out; omega)
                  clear hA4 hS4 hF4 hs1 hs2 hs3 hmy hm0 hmt hcap HD HI3 HI q1 l1 hg4
                  go_wp2_with fail
                  have hP1 : p + 1 ≤ m := by have := HY.out.2.2; omega
                  obtain ⟨P1, hP⟩ : ∃ P1, P1 = p + 1 := ⟨_, rfl⟩
                  have fP : IntKind.i64.wrap ((p : Int) + 1) = (P1 : Int) := by have := HE.out.2.2.2.2.1; rw [hP]; exact IntWalk.i64_in _ ⟨by omega, by omega⟩
                  have hc1 : (p : Int) ≤ (c4 : Int) := by have := HE.out.2.2.2.2.2.1; omega
                  have hc2 : (P1 : Int) ≤ (m : Int) := by omega
                  have hc3 : p ≤ c4 := by omega
                  have hc4 : P1 ≤ m := by omega
                  have HP1 := Lib.hid hP
                  clear hP hP1
                  refine wp_region_script [(1, true), (2, true), (3, true), (5, true), (6, true), (7, true), (8, true), (0, false), (4, false), (9, false), (10, true)] (fun w' => True) (by kernel_rfl) (by kernel_rfl) (fun _ _ _ _ _ h => h) trivial ?_
                  obtain ⟨hH, hrow, hfar, hlen, hm1000, hcapm, hits, hinc2⟩ := HE.out
                  have fd : Fr [] w4 w4.drew := ⟨rfl, rfl, rfl, Nat.le_refl _, fun _ _ _ => rfl⟩
                  have hHd := hH.mv (w' := w4.drew) ⟨rfl, rfl, rfl, Nat.le_refl _, fun _ _ => rfl⟩
                  have hrowd : w4.drew.ownsRow w.heap.size 42 3 (.slice (some ⟨g4, 0, none⟩) m c4) m (icls a.its) := hrow
                  clear hH hrow fd
                  generalize w4.drew = wd at *
                  (refine script_take (v := ?_) rfl ?_ ?_ ?_; rotate_left; (first | rfl | (go_simp; done)); (intro w' _; go_simp; with_reducible rfl); simp only [Act.put, List.setIfInBounds_toArray, List.set_cons_zero, List.set_cons_succ])
                  (refine script_take (v := ?_) rfl ?_ ?_ ?_; rotate_left; (first | rfl | (go_simp; done)); (intro w' _; go_simp; with_reducible rfl); simp only [Act.put, List.setIfInBounds_toArray, List.set_cons_zero, List.set_cons_succ])
                  (refine script_take (v := ?_) rfl ?_ ?_ ?_; rotate_left; (first | rfl | (go_simp; done)); (intro w' _; go_simp; with_reducible rfl); simp only [Act.put, List.setIfInBounds_toArray, List.set_cons_zero, List.set_cons_succ])
                  (refine script_take (v := ?_) rfl ?_ ?_ ?_; rotate_left; (first | rfl | (go_simp; done)); (intro w' _; go_simp; with_reducible rfl); simp only [Act.put, List.setIfInBounds_toArray, List.set_cons_zero, List.set_cons_succ])
                  (refine script_take (v := ?_) rfl ?_ ?_ ?_; rotate_left; (first | rfl | (go_simp; done)); (intro w' _; go_simp; with_reducible rfl); simp only [Act.put, List.setIfInBounds_toArray, List.set_cons_zero, List.set_cons_succ])
                  (refine script_take (v := ?_) rfl ?_ ?_ ?_; rotate_left; (first | rfl | (go_simp; done)); (intro w' _; go_simp; with_reducible rfl); simp only [Act.put, List.setIfInBounds_toArray, List.set_cons_zero, List.set_cons_succ])
                  (refine script_take (v := ?_) rfl ?_ ?_ ?_; rotate_left; (first | rfl | (go_simp; done)); (intro w' _; go_simp; with_reducible rfl); simp only [Act.put, List.setIfInBounds_toArray, List.set_cons_zero, List.set_cons_succ])
                  (refine script_run (v := ?_) (w' := ?_) rfl ?_ ?_ ?_ ?_; rotate_left 2; (first | rfl | (go_simp; done)); (go_simp; refine ⟨?_, ?_⟩ <;> with_reducible rfl); (exact trivial); simp only [Act.put, List.setIfInBounds_toArray, List.set_cons_zero, List.set_cons_succ])
                  have hgl := (ownsRow_lt hrowd g4 rfl).2
                  have hcl := hrowd.cells (g := g4) rfl
                  have hca : ∀ (j : Nat) (u : Value), (icls a.its)[j]? = some u → (wd.alloc (.cells #[] 42)).cell? ⟨g4, j, none⟩ = some u := fun j u hu => by
                    have h := hcl j u hu
                    rw [add0] at h
                    exact (((Below.refl wd.heap.size wd).alloc (Nat.le_refl _) _).cell (p := ⟨g4, j, none⟩) hgl).trans h
                  refine script_pushR rfl rfl (.tmp 112) (.tmp 115) 38 rfl styR rfl (reads_head hca (by simp; omega) hlen (by omega) (p := p) (B := wd.heap.size + 1) (by omega) _ (by intro h; first | rfl | (split <;> rfl) | simp)) (icls_one _) rfl (ownsRow_new wd (base := wd.heap.size) (n := 0) (size := 3) (cs := #[]) (Nat.le_refl _) rfl (Nat.zero_le _)) (by omega) (by simp) ?_
                  intro v5 w5 O5 G5
                  refine ⟨trivial, ?_⟩
                  simp only [Act.put, List.setIfInBounds_toArray, List.set_cons_zero, List.set_cons_succ]
                  have b5 : Below wd.heap.size wd w5 := ((Below.refl wd.heap.size wd).alloc (Nat.le_refl _) _).grown G5 (by simp) (fun q hq => by have hq' : some wd.heap.size = some q := hq; injection hq' with hq'; omega)
                  have hca5 : ∀ (j : Nat) (u : Value), (icls a.its)[j]? = some u → w5.cell? ⟨g4, j, none⟩ = some u := fun j u hu => by
                    have h := hcl j u hu
                    rw [add0] at h
                    exact (b5.cell (p := ⟨g4, j, none⟩) hgl).trans h
                  refine script_pushR rfl rfl (.tmp 116) (.tmp 120) 38 rfl styR rfl (reads_tail hca5 (by have := b5.size; omega) hlen hc4 (B := w5.heap.size) (by have := b5.size; omega) _ (by intro h; first | rfl | (rw [if_neg (by omega)]; done) | (rw [if_neg (by omega)]; rfl) | (split <;> first | rfl | omega))) (icls_one _) rfl O5 (by omega) b5.size ?_
                  intro v7 w7 O7 G7
                  refine ⟨trivial, ?_⟩
                  simp only [Act.put, List.setIfInBounds_toArray, List.set_cons_zero, List.set_cons_succ]
                  (refine script_take (v := ?_) rfl ?_ ?_ ?_; rotate_left; (first | rfl | (go_simp; done)); (intro w' _; go_simp; with_reducible rfl); simp only [Act.put, List.setIfInBounds_toArray, List.set_cons_zero, List.set_cons_succ])
                  refine script_nil ?_
                  have b7 : Below wd.heap.size wd w7 := b5.grown G7 b5.size (fun q hq => (ownsRow_lt O5 q hq).1)
                  have HI7 : Hid (Runs w w7 g S4 (a.gone m0 a.now) v7 (0 + p + (m - P1)) ∧ (a.gone m0 a.now).turn ≤ K) := Lib.hid (by
                    refine ⟨⟨hHd.mv b7, ?_, ?_, fun q hq hm => ?_, ?_⟩, ?_⟩
                    · rw [hits, HP1.out]
                      have e : icls (a.its.take p ++ a.its.drop (p + 1)) = [] ++ icls (a.its.take p) ++ icls (a.its.drop (p + 1)) := by simp [icls]
                      rw [e]
                      have := ownsRow_base O7 hHd.below.size
                      rw [HP1.out] at this
                      exact this
                    · rw [hits, List.length_append, List.length_take, List.length_drop, hlen]; have := HP1.out; omega
                    · have h1 := (ownsRow_lt O7 q hq).1
                      have h2 := hHd.at_.lt q hm
                      omega
                    · exact hinc2
                    · exact HEk.out)
                  clear hHd hrowd hfar hlen hm1000 hcapm hits hinc2 hgl hcl hca hca5 b5 b7 O5 G5 O7 G7 hc1 hc2 hc3 hc4 fP HE HEk HP1
                  go_wp2_with fail
                  all_goals
                    go_meet
                    exact ⟨S4, a.gone m0 a.now, _, rfl, rfl, HI7⟩
      · as_aux_lemma =>
          go_wp2_with fail
          generalize wo.alloc (.cells #[.int .i64 o.k, .int .i64 o.a, .int .i64 o.b, .int .i64 o.c] 40) = w1 at *
          generalize wo.heap.size = o8 at *
          clear p0 p1 p2 p3 hblk dl
          have hm1000 : m ≤ 1000 := by
            have h1 := len_turn HI.out.1.inc HI.out.1.has.at_.facts.2.1
            have := HI.out.1.len; have := HI.out.2; have := HK.out; omega
          have HM := Lib.hid hm1000
          clear hm1000
          go_loopw [13, 127] (fun xv i wr => ∃ (q : Nat) (x : Int), xv = .int .i64 x ∧ i = .int .i64 (q : Nat) ∧ q ≤ m ∧ Hid (FindB a.its q x ∧ Below w1.heap.size w1 wr)) (fun _ i _ => m - (intOf i).toNat)
          case atStart => exact ⟨0, -1, rfl, rfl, Nat.zero_le _, Lib.hid ⟨.inl ⟨rfl, rfl⟩, Below.refl _ _⟩⟩
          case round =>
            obtain ⟨q, x, rfl, rfl, hq, hf⟩ := hrel
            obtain ⟨w3, rfl⟩ : ∃ w3 : World, w3 = wr := ⟨_, rfl⟩
            have HI3 := Lib.hid (HI.out.1.mv hf.out.2)
            have q1 := (HO8.out.kept hf.out.2).cellOf (v := .int .i64 o.a) 1 rfl
            have q0 := (HO8.out.kept hf.out.2).cellOf (v := .int .i64 o.k) 0 rfl
            have l1 := (HO8.out.kept hf.out.2).lt
            by_cases hlq : q < m
            · obtain ⟨z, hz⟩ := getElem?_some_of_lt HI3.out.len hlq
              obtain ⟨g4, cap, hv, _, hg4⟩ := HI3.out.row.form (by omega)
              injection hv with hv1 _ hv3
              subst hv1
              subst hv3
              have z0 := (own_cell HI3.out.row hz).1
              obtain ⟨Q, hQ⟩ : ∃ Q, Q = q + 1 := ⟨_, rfl⟩
              have fq : IntKind.i64.wrap ((q : Int) + 1) = (Q : Int) := by have := HM.out; rw [hQ]; exact IntWalk.i64_in _ ⟨by omega, by omega⟩
              have HQ := Lib.hid (And.intro hQ (And.intro hlq hz))
              clear hQ hz
              have HF := Lib.hid hf.out.1
              have HB3 := Lib.hid hf.out.2
              clear hf
              rcases HF.out with ⟨rfl, hq0⟩ | ⟨p, y, hp, rfl, hy, hall⟩
              · as_aux_lemma =>
                  have HQ0 := Lib.hid hq0
                  clear hq0 HF
                  go_wp2_with fail
                  refine wp_region_class (fun w' => Below w3.heap.size w3 w') (by kernel_rfl) (by kernel_rfl) (Below.refl _ _).drew ?_
                  repeat (first | (with_reducible (refine wpQuiet_skip ?_ ?_); (first | exact wanted_off rfl rfl rfl rfl | exact wanted_off2 rfl rfl rfl); simp only [Act.put, List.setIfInBounds_toArray, List.set_cons_zero, List.set_cons_succ]) | (with_reducible (refine wpQuiet_val (v := ?_) ?_ ?_ ?_); rotate_left; (first | exact wanted_none rfl | exact wanted_on rfl rfl rfl); (intro w' hw'; obtain ⟨hc, hf⟩ := bcell hw'; go_simp; with_reducible rfl); simp only [Act.put, List.setIfInBounds_toArray, List.set_cons_zero, List.set_cons_succ]))
                  refine wpQuiet_nil ?_
                  intro w4 hw4
                  have HB4 := Lib.hid (HB3.out.trans (hw4.mono HB3.out.size))
                  clear hw4 q1 q0 l1 z0 hg4 HI3 HB3
                  go_wp2_with fail
                  clear fq
                  go_roundw
                  case rel =>
                    refine ⟨Q, q, rfl, rfl, by have := HQ.out; omega, Lib.hid ⟨.inr ⟨q, z, by have := HQ.out; omega, rfl, HQ.out.2.2, fun j u hj hu => ?_⟩, HB4.out⟩⟩
                    have : j = q := by have := HQ.out; have := HQ0.out; omega
                    subst this
                    rw [HQ.out.2.2] at hu; injection hu with hu; rw [← hu]; exact .inr ⟨rfl, Nat.le_refl _⟩
                  case measure => have := HQ.out; simp [intOf]; omega
              · as_aux_lemma =>
                  have y0 := (own_cell HI3.out.row hy).1
                  have hpq : p < m := by clear fk fq; omega
                  have d0 : decide ((p : Int) < 0) = false := decide_eq_false (by clear fk fq; omega)
                  have HA := Lib.hid (And.intro hall (And.intro hp hy))
                  clear hall hy HF
                  have hcs : z.at_ < y.at_ ∨ decide (z.at_ < y.at_) = false := by by_cases h : z.at_ < y.at_; exact .inl h; exact .inr (decide_eq_false h)
                  go_wp2_with fail
                  refine wp_region_class (fun w' => Below w3.heap.size w3 w') (by kernel_rfl) (by kernel_rfl) (Below.refl _ _).drew ?_
                  repeat (first | (with_reducible (refine wpQuiet_skip ?_ ?_); (first | exact wanted_off rfl rfl rfl rfl | exact wanted_off2 rfl rfl rfl); simp only [Act.put, List.setIfInBounds_toArray, List.set_cons_zero, List.set_cons_succ]) | (with_reducible (refine wpQuiet_val (v := ?_) ?_ ?_ ?_); rotate_left; (first | exact wanted_none rfl | exact wanted_on rfl rfl rfl); (intro w' hw'; obtain ⟨hc, hf⟩ := bcell hw'; go_simp; with_reducible rfl); simp only [Act.put, List.setIfInBounds_toArray, List.set_cons_zero, List.set_cons_succ]))
                  refine wpQuiet_nil ?_
                  intro w4 hw4
                  have HB4 := Lib.hid (HB3.out.trans (hw4.mono HB3.out.size))
                  clear hw4 q1 q0 l1 z0 y0 hg4 HI3 HB3 d0
                  rcases hcs with h | h
                  · as_aux_lemma =>
                      have hlt2 := Lib.hid h
                      go_wp2_with fail
                      clear fq
                      go_roundw
                      case rel =>
                        refine ⟨Q, q, rfl, rfl, by have := HQ.out; omega, Lib.hid ⟨.inr ⟨q, z, by have := HQ.out; omega, rfl, HQ.out.2.2, fun j u hj hu => ?_⟩, HB4.out⟩⟩
                        by_cases e : j = q
                        · subst e; rw [HQ.out.2.2] at hu; injection hu with hu; rw [← hu]; exact .inr ⟨rfl, Nat.le_refl _⟩
                        · have h2 := HA.out.1 j u (by have := HQ.out; omega) hu
                          have h3 := hlt2.out
                          left
                          omega
                      case measure => have := HQ.out; simp [intOf]; omega
                  · as_aux_lemma =>
                      have hlt2 := Lib.hid (of_decide_eq_false h)
                      go_wp2_with fail
                      clear fq
                      go_roundw
                      case rel =>
                        refine ⟨Q, p, rfl, rfl, by have := HQ.out; omega, Lib.hid ⟨.inr ⟨p, y, by have := HQ.out; have := HA.out.2.1; omega, rfl, HA.out.2.2, fun j u hj hu => ?_⟩, HB4.out⟩⟩
                        by_cases e : j = q
                        · subst e; rw [HQ.out.2.2] at hu; injection hu with hu; rw [← hu]; have h3 := hlt2.out; have h4 := HA.out.2.1; omega
                        · exact HA.out.1 j u (by have := HQ.out; omega) hu
                      case measure => have := HQ.out; simp [intOf]; omega
            · obtain rfl : q = m := by omega
              have HF := Lib.hid hf.out.1
              have HB3 := Lib.hid hf.out.2
              clear hf hlq hq
              have HN := Lib.hid (next_anyI w3 g S' a HI3.out.has.at_ o.a (by have := HI.out.2; have := HK.out; omega))
              rcases HF.out with ⟨rfl, hq0⟩ | ⟨p, y, hp, rfl, hy, hall⟩
              · as_aux_lemma =>
                  have HQ0 := Lib.hid hq0
                  clear hq0 HF
                  go_wp2_with fail
                  refine HN.out.mono ?_
                  rintro e w4 (⟨_, rfl, hA4, hb4⟩ | ⟨m0, hm0, _⟩)
                  rotate_left
                  · exfalso
                    have h1 := List.length_pos_of_mem hm0
                    have h2 := HI3.out.len
                    have h3 := HQ0.out
                    omega
                  have hB4 := HB3.out.trans (hb4.mono HB3.out.size)
                  have q1' := (HO8.out.kept hB4).cellOf (v := .int .i64 o.a) 1 rfl
                  have l1' := (HO8.out.kept hB4).lt
                  have HI4 : Hid (Runs w w4 g S' a (.slice A4 q c4) q) := Lib.hid (HI3.out.mv hb4)
                  clear hA4 hb4 hB4 HN HI3 q1 q0 l1
                  go_wp2_with fail
                  refine wp_region_class (fun w' => Below w4.heap.size w4 w') (by kernel_rfl) (by kernel_rfl) (Below.refl _ _).drew ?_
                  repeat (first | (with_reducible (refine wpQuiet_skip ?_ ?_); (first | exact wanted_off rfl rfl rfl rfl | exact wanted_off2 rfl rfl rfl); simp only [Act.put, List.setIfInBounds_toArray, List.set_cons_zero, List.set_cons_succ]) | (with_reducible (refine wpQuiet_val (v := ?_) ?_ ?_ ?_); rotate_left; (first | exact wanted_none rfl | exact wanted_on rfl rfl rfl); (intro w' hw'; obtain ⟨hc, hf⟩ := bcell hw'; go_simp; with_reducible rfl); simp only [Act.put, List.setIfInBounds_toArray, List.set_cons_zero, List.set_cons_succ]))
                  refine wpQuiet_nil ?_
                  intro w5 hw5
                  have HI5 : Hid (Runs w w5 g S' a (.slice A4 q c4) q ∧ a.turn ≤ K) := Lib.hid ⟨HI4.out.mv hw5, by have := HI.out.2; have := HK.out; omega⟩
                  clear hw5 HI4 HI q1' l1'
                  go_wp2_with fail
                  go_meet
                  exact ⟨S', a, q, rfl, rfl, HI5⟩
              · as_aux_lemma =>
                  have HY := Lib.hid (And.intro hy (And.intro hall hp))
                  have d0 : decide ((p : Int) < 0) = false := decide_eq_false (by clear fk; omega)
                  clear hy hall HF
                  go_wp2_with fail
                  refine HN.out.mono ?_
                  rintro e w4 (⟨hno, rfl, hA4, hb4⟩ | ⟨m0, hm0, hmin, hle, he, S4, hA4, hS4, hF4⟩)
                  · as_aux_lemma =>
                      have hB4 := HB3.out.trans (hb4.mono HB3.out.size)
                      have q1' := (HO8.out.kept hB4).cellOf (v := .int .i64 o.a) 1 rfl
                      have l1' := (HO8.out.kept hB4).lt
                      have HI4 : Hid (Runs w w4 g S' a (.slice A4 q c4) q) := Lib.hid (HI3.out.mv hb4)
                      obtain ⟨g4, cap, hv, _, hg4⟩ := HI4.out.row.form (by omega)
                      injection hv with hv1 _ hv3
                      subst hv1
                      subst hv3
                      have y0 := (own_cell HI4.out.row HY.out.1).1
                      have dl : o.a < y.at_ := hno y (List.mem_of_getElem? HY.out.1)
                      clear hA4 hb4 hB4 HN HI3 q1 q0 l1 hno
                      go_wp2_with fail
                      refine wp_region_class (fun w' => Below w4.heap.size w4 w') (by kernel_rfl) (by kernel_rfl) (Below.refl _ _).drew ?_
                      repeat (first | (with_reducible (refine wpQuiet_skip ?_ ?_); (first | exact wanted_off rfl rfl rfl rfl | exact wanted_off2 rfl rfl rfl); simp only [Act.put, List.setIfInBounds_toArray, List.set_cons_zero, List.set_cons_succ]) | (with_reducible (refine wpQuiet_val (v := ?_) ?_ ?_ ?_); rotate_left; (first | exact wanted_none rfl | exact wanted_on rfl rfl rfl); (intro w' hw'; obtain ⟨hc, hf⟩ := bcell hw'; go_simp; with_reducible rfl); simp only [Act.put, List.setIfInBounds_toArray, List.set_cons_zero, List.set_cons_succ]))
                      refine wpQuiet_nil ?_
                      intro w5 hw5
                      have HI5 : Hid (Runs w w5 g S' a (.slice (some ⟨g4, 0, none⟩) q c4) q ∧ a.turn ≤ K) := Lib.hid ⟨HI4.out.mv hw5, by have := HI.out.2; have := HK.out; omega⟩
                      clear hw5 HI4 HI q1' l1' y0 dl hg4
                      go_wp2_with fail
                      go_meet
                      exact ⟨S', a, q, rfl, rfl, HI5⟩
                  · as_aux_lemma =>
                      obtain ⟨m, rfl⟩ : ∃ m : Nat, m = q := ⟨_, rfl⟩
                      have hmy : m0 = y := best_min HI3.out.inc HI3.out.len.symm HY.out.1 HY.out.2.1 hm0 hmin
                      subst hmy
                      obtain ⟨g4, cap, hv, _, hg4⟩ := HI3.out.row.form (by omega)
                      injection hv with hv1 _ hv3
                      subst hv1
                      subst hv3
                      obtain ⟨hs1, hs2, hs3⟩ := HI3.out.step hA4 hS4 hF4
                      have hcap : m ≤ c4 := row_cap hs2
                      have hO4 := hF4.blk (HO8.out.kept HB3.out) HS8.out
                      have q1' := hO4.cellOf (v := .int .i64 o.a) 1 rfl
                      have l1' := hO4.lt
                      obtain ⟨y0, y1, y2⟩ := own_cell hs2 HY.out.1
                      have hg4' : g4 < w4.heap.size := Nat.lt_of_lt_of_le hg4 hF4.size
                      have dl : decide (o.a < m0.at_) = false := decide_eq_false (by clear fk; omega)
                      have HE0 := Lib.hid (And.intro hs1 (And.intro hs2 (And.intro hs3 (And.intro HI3.out.len (And.intro HI3.out.inc hcap)))))
                      subst he
                      clear hA4 hS4 hF4 hs1 hs2 hs3 hm0 hmin hcap hO4 HN HI3 q1 q0 l1 hg4 hle
                      go_wp2_with fail
                      refine wp_region_class (fun w' => Below w4.heap.size w4 w') (by kernel_rfl) (by kernel_rfl) (Below.refl _ _).drew ?_
                      repeat (first | (with_reducible (refine wpQuiet_skip ?_ ?_); (first | exact wanted_off rfl rfl rfl rfl | exact wanted_off2 rfl rfl rfl); simp only [Act.put, List.setIfInBounds_toArray, List.set_cons_zero, List.set_cons_succ]) | (with_reducible (refine wpQuiet_val (v := ?_) ?_ ?_ ?_); rotate_left; (first | exact wanted_none rfl | exact wanted_on rfl rfl rfl); (intro w' hw'; obtain ⟨hc, hf⟩ := bcell hw'; go_simp; with_reducible rfl); simp only [Act.put, List.setIfInBounds_toArray, List.set_cons_zero, List.set_cons_succ]))
                      refine wpQuiet_nil ?_
                      intro w5 hw5
                      have hH5 := HE0.out.1.mv hw5
                      have hr5 := ownsRow_keep HE0.out.2.1 hw5
                      have HE : Hid (Has w w5 g S4 (a.gone m0 m0.at_) ∧ w5.ownsRow w.heap.size 42 3 (.slice (some ⟨g4, 0, none⟩) m c4) m (icls a.its) ∧ (∀ k, (Value.slice (some ⟨g4, 0, none⟩) m c4).ownBlock = some k → k ∉ S4) ∧ a.its.length = m ∧ m ≤ 1000 ∧ m ≤ c4 ∧ (a.gone m0 m0.at_).its = a.its.take p ++ a.its.drop (p + 1) ∧ (a.gone m0 m0.at_).its.Pairwise (fun x y => x.turn < y.turn)) :=
                        Lib.hid ⟨hH5, hr5, HE0.out.2.2.1, HE0.out.2.2.2.1, HM.out, HE0.out.2.2.2.2.2, by rw [erase_filter HE0.out.2.2.2.2.1 HY.out.1]; rfl, HE0.out.2.2.2.2.1.sublist (List.filter_sublist ..)⟩
                      have HEk : Hid ((a.gone m0 m0.at_).turn ≤ (K : Int)) := Lib.hid (by show a.turn ≤ (K : Int); have := HI.out.2; have := HK.out; omega)
                      obtain ⟨y0, y1, y2⟩ := own_cell hr5 HY.out.1
                      have hg5 : g4 < w5.heap.size := Nat.lt_of_lt_of_le hg4' hw5.size
                      clear hH5 hr5 hw5 HI q1' l1' dl hg4' HE0
                      go_wp2_with fail
                      clear y0 y1 y2 hg5
                      have hP1 : p + 1 ≤ m := by have := HY.out.2.2; omega
                      obtain ⟨P1, hP⟩ : ∃ P1, P1 = p + 1 := ⟨_, rfl⟩
                      have fP : IntKind.i64.wrap ((p : Int) + 1) = (P1 : Int) := by have := HE.out.2.2.2.2.1; rw [hP]; exact IntWalk.i64_in _ ⟨by omega, by omega⟩
                      have hc1 : (p : Int) ≤ (c4 : Int) := by have := HE.out.2.2.2.2.2.1; omega
                      have hc2 : (P1 : Int) ≤ (m : Int) := by omega
                      have hc3 : p ≤ c4 := by omega
                      have hc4 : P1 ≤ m := by omega
                      have HP1 := Lib.hid hP
                      clear hP hP1
                      refine wp_region_script [(1, true), (2, true), (3, true), (5, true), (6, true), (7, true), (8, true), (0, false), (4, false), (9, false), (10, true)] (fun w' => True) (by kernel_rfl) (by kernel_rfl) (fun _ _ _ _ _ h => h) trivial ?_
                      obtain ⟨hH, hrow, hfar, hlen, hm1000, hcapm, hits, hinc2⟩ := HE.out
                      have fd : Fr [] w5 w5.drew := ⟨rfl, rfl, rfl, Nat.le_refl _, fun _ _ _ => rfl⟩
                      have hHd := hH.mv (w' := w5.drew) ⟨rfl, rfl, rfl, Nat.le_refl _, fun _ _ => rfl⟩
                      have hrowd : w5.drew.ownsRow w.heap.size 42 3 (.slice (some ⟨g4, 0, none⟩) m c4) m (icls a.its) := hrow
                      clear hH hrow fd
                      generalize w5.drew = wd at *
                      (refine script_take (v := ?_) rfl ?_ ?_ ?_; rotate_left; (first | rfl | (go_simp; done)); (intro w' _; go_simp; with_reducible rfl); simp only [Act.put, List.setIfInBounds_toArray, List.set_cons_zero, List.set_cons_succ])
                      (refine script_take (v := ?_) rfl ?_ ?_ ?_; rotate_left; (first | rfl | (go_simp; done)); (intro w' _; go_simp; with_reducible rfl); simp only [Act.put, List.setIfInBounds_toArray, List.set_cons_zero, List.set_cons_succ])
                      (refine script_take (v := ?_) rfl ?_ ?_ ?_; rotate_left; (first | rfl | (go_simp; done)); (intro w' _; go_simp; with_reducible rfl); simp only [Act.put, List.setIfInBounds_toArray, List.set_cons_zero, List.set_cons_succ])
                      (refine script_take (v := ?_) rfl ?_ ?_ ?_; rotate_left; (first | rfl | (go_simp; done)); (intro w' _; go_simp; with_reducible rfl); simp only [Act.put, List.setIfInBounds_toArray, List.set_cons_zero, List.set_cons_succ])
                      (refine script_take (v := ?_) rfl ?_ ?_ ?_; rotate_left; (first | rfl | (go_simp; done)); (intro w' _; go_simp; with_reducible rfl); simp only [Act.put, List.setIfInBounds_toArray, List.set_cons_zero, List.set_cons_succ])
                      (refine script_take (v := ?_) rfl ?_ ?_ ?_; rotate_left; (first | rfl | (go_simp; done)); (intro w' _; go_simp; with_reducible rfl); simp only [Act.put, List.setIfInBounds_toArray, List.set_cons_zero, List.set_cons_succ])
                      (refine script_take (v := ?_) rfl ?_ ?_ ?_; rotate_left; (first | rfl | (go_simp; done)); (intro w' _; go_simp; with_reducible rfl); simp only [Act.put, List.setIfInBounds_toArray, List.set_cons_zero, List.set_cons_succ])
                      (refine script_run (v := ?_) (w' := ?_) rfl ?_ ?_ ?_ ?_; rotate_left 2; (first | rfl | (go_simp; done)); (go_simp; refine ⟨?_, ?_⟩ <;> with_reducible rfl); (exact trivial); simp only [Act.put, List.setIfInBounds_toArray, List.set_cons_zero, List.set_cons_succ])
                      have hgl := (ownsRow_lt hrowd g4 rfl).2
                      have hcl := hrowd.cells (g := g4) rfl
                      have hca : ∀ (j : Nat) (u : Value), (icls a.its)[j]? = some u → (wd.alloc (.cells #[] 42)).cell? ⟨g4, j, none⟩ = some u := fun j u hu => by
                        have h := hcl j u hu
                        rw [add0] at h
                        exact (((Below.refl wd.heap.size wd).alloc (Nat.le_refl _) _).cell (p := ⟨g4, j, none⟩) hgl).trans h
                      refine script_pushR rfl rfl (.tmp 235) (.tmp 238) 38 rfl styR rfl (reads_head hca (by simp; omega) hlen (by omega) (p := p) (B := wd.heap.size + 1) (by omega) _ (by intro h; first | rfl | (split <;> rfl) | simp)) (icls_one _) rfl (ownsRow_new wd (base := wd.heap.size) (n := 0) (size := 3) (cs := #[]) (Nat.le_refl _) rfl (Nat.zero_le _)) (by omega) (by simp) ?_
                      intro v5 w5 O5 G5
                      refine ⟨trivial, ?_⟩
                      simp only [Act.put, List.setIfInBounds_toArray, List.set_cons_zero, List.set_cons_succ]
                      have b5 : Below wd.heap.size wd w5 := ((Below.refl wd.heap.size wd).alloc (Nat.le_refl _) _).grown G5 (by simp) (fun q hq => by have hq' : some wd.heap.size = some q := hq; injection hq' with hq'; omega)
                      have hca5 : ∀ (j : Nat) (u : Value), (icls a.its)[j]? = some u → w5.cell? ⟨g4, j, none⟩ = some u := fun j u hu => by
                        have h := hcl j u hu
                        rw [add0] at h
                        exact (b5.cell (p := ⟨g4, j, none⟩) hgl).trans h
                      refine script_pushR rfl rfl (.tmp 239) (.tmp 243) 38 rfl styR rfl (reads_tail hca5 (by have := b5.size; omega) hlen hc4 (B := w5.heap.size) (by have := b5.size; omega) _ (by intro h; first | rfl | (rw [if_neg (by omega)]; done) | (rw [if_neg (by omega)]; rfl) | (split <;> first | rfl | omega))) (icls_one _) rfl O5 (by omega) b5.size ?_
                      intro v7 w7 O7 G7
                      refine ⟨trivial, ?_⟩
                      simp only [Act.put, List.setIfInBounds_toArray, List.set_cons_zero, List.set_cons_succ]
                      (refine script_take (v := ?_) rfl ?_ ?_ ?_; rotate_left; (first | rfl | (go_simp; done)); (intro w' _; go_simp; with_reducible rfl); simp only [Act.put, List.setIfInBounds_toArray, List.set_cons_zero, List.set_cons_succ])
                      refine script_nil ?_
                      have b7 : Below wd.heap.size wd w7 := b5.grown G7 b5.size (fun q hq => (ownsRow_lt O5 q hq).1)
                      have HI7 : Hid (Runs w w7 g S4 (a.gone m0 m0.at_) v7 (0 + p + (m - P1)) ∧ (a.gone m0 m0.at_).turn ≤ K) := Lib.hid (by
                        refine ⟨⟨hHd.mv b7, ?_, ?_, fun q hq hm => ?_, ?_⟩, ?_⟩
                        · rw [hits, HP1.out]
                          have e : icls (a.its.take p ++ a.its.drop (p + 1)) = [] ++ icls (a.its.take p) ++ icls (a.its.drop (p + 1)) := by simp [icls]
                          rw [e]
                          have := ownsRow_base O7 hHd.below.size
                          rw [HP1.out] at this
                          exact this
                        · rw [hits, List.length_append, List.length_take, List.length_drop, hlen]; have := HP1.out; omega
                        · have h1 := (ownsRow_lt O7 q hq).1
                          have h2 := hHd.at_.lt q hm
                          omega
                        · exact hinc2
                        · exact HEk.out)
                      clear hHd hrowd hfar hlen hm1000 hcapm hits hinc2 hgl hcl hca hca5 b5 b7 O5 G5 O7 G7 hc1 hc2 hc3 hc4 fP HE HEk HP1
                      go_wp2_with fail
                      all_goals
                        go_meet
                        exact ⟨S4, a.gone m0 m0.at_, _, rfl, rfl, HI7⟩
      · as_aux_lemma =>
          go_wp2_with fail
          generalize wo.alloc (.cells #[.int .i64 o.k, .int .i64 o.a, .int .i64 o.b, .int .i64 o.c] 40) = w1 at *
          generalize wo.heap.size = o8 at *
          clear p0 p1 p2 p3 hblk dl
          have hm1000 : m ≤ 1000 := by
            have h1 := len_turn HI.out.1.inc HI.out.1.has.at_.facts.2.1
            have := HI.out.1.len; have := HI.out.2; have := HK.out; omega
          have HM := Lib.hid hm1000
          clear hm1000
          go_loopw [13, 127] (fun xv i wr => ∃ (q : Nat) (x : Int), xv = .int .i64 x ∧ i = .int .i64 (q : Nat) ∧ q ≤ m ∧ Hid (FindB a.its q x ∧ Below w1.heap.size w1 wr)) (fun _ i _ => m - (intOf i).toNat)
          case atStart => exact ⟨0, -1, rfl, rfl, Nat.zero_le _, Lib.hid ⟨.inl ⟨rfl, rfl⟩, Below.refl _ _⟩⟩
          case round =>
            obtain ⟨q, x, rfl, rfl, hq, hf⟩ := hrel
            obtain ⟨w3, rfl⟩ : ∃ w3 : World, w3 = wr := ⟨_, rfl⟩
            have HI3 := Lib.hid (HI.out.1.mv hf.out.2)
            have q1 := (HO8.out.kept hf.out.2).cellOf (v := .int .i64 o.a) 1 rfl
            have q0 := (HO8.out.kept hf.out.2).cellOf (v := .int .i64 o.k) 0 rfl
            have l1 := (HO8.out.kept hf.out.2).lt
            by_cases hlq : q < m
            · obtain ⟨z, hz⟩ := getElem?_some_of_lt HI3.out.len hlq
              obtain ⟨g4, cap, hv, _, hg4⟩ := HI3.out.row.form (by omega)
              injection hv with hv1 _ hv3
              subst hv1
              subst hv3
              have z0 := (own_cell HI3.out.row hz).1
              obtain ⟨Q, hQ⟩ : ∃ Q, Q = q + 1 := ⟨_, rfl⟩
              have fq : IntKind.i64.wrap ((q : Int) + 1) = (Q : Int) := by have := HM.out; rw [hQ]; exact IntWalk.i64_in _ ⟨by omega, by omega⟩
              have HQ := Lib.hid (And.intro hQ (And.intro hlq hz))
              clear hQ hz
              have HF := Lib.hid hf.out.1
              have HB3 := Lib.hid hf.out.2
              clear hf
              rcases HF.out with ⟨rfl, hq0⟩ | ⟨p, y, hp, rfl, hy, hall⟩
              · as_aux_lemma =>
                  have HQ0 := Lib.hid hq0
                  clear hq0 HF
                  go_wp2_with fail
                  refine wp_region_class (fun w' => Below w3.heap.size w3 w') (by kernel_rfl) (by kernel_rfl) (Below.refl _ _).drew ?_
                  repeat (first | (with_reducible (refine wpQuiet_skip ?_ ?_); (first | exact wanted_off rfl rfl rfl rfl | exact wanted_off2 rfl rfl rfl); simp only [Act.put, List.setIfInBounds_toArray, List.set_cons_zero, List.set_cons_succ]) | (with_reducible (refine wpQuiet_val (v := ?_) ?_ ?_ ?_); rotate_left; (first | exact wanted_none rfl | exact wanted_on rfl rfl rfl); (intro w' hw'; obtain ⟨hc, hf⟩ := bcell hw'; go_simp; with_reducible rfl); simp only [Act.put, List.setIfInBounds_toArray, List.set_cons_zero, List.set_cons_succ]))
                  refine wpQuiet_nil ?_
                  intro w4 hw4
                  have HB4 := Lib.hid (HB3.out.trans (hw4.mono HB3.out.size))
                  clear hw4 q1 q0 l1 z0 hg4 HI3 HB3
                  go_wp2_with fail
                  clear fq
                  go_roundw
                  case rel =>
                    refine ⟨Q, q, rfl, rfl, by have := HQ.out; omega, Lib.hid ⟨.inr ⟨q, z, by have := HQ.out; omega, rfl, HQ.out.2.2, fun j u hj hu => ?_⟩, HB4.out⟩⟩
                    have : j = q := by have := HQ.out; have := HQ0.out; omega
                    subst this
                    rw [HQ.out.2.2] at hu; injection hu with hu; rw [← hu]; exact .inr ⟨rfl, Nat.le_refl _⟩
                  case measure => have := HQ.out; simp [intOf]; omega
              · as_aux_lemma =>
                  have y0 := (own_cell HI3.out.row hy).1
                  have hpq : p < m := by clear fk fq; omega
                  have d0 : decide ((p : Int) < 0) = false := decide_eq_false (by clear fk fq; omega)
                  have HA := Lib.hid (And.intro hall (And.intro hp hy))
                  clear hall hy HF
                  have hcs : z.at_ < y.at_ ∨ decide (z.at_ < y.at_) = false := by by_cases h : z.at_ < y.at_; exact .inl h; exact .inr (decide_eq_false h)
                  go_wp2_with fail
                  refine wp_region_class (fun w' => Below w3.heap.size w3 w') (by kernel_rfl) (by kernel_rfl) (Below.refl _ _).drew ?_
                  repeat (first | (with_reducible (refine wpQuiet_skip ?_ ?_); (first | exact wanted_off rfl rfl rfl rfl | exact wanted_off2 rfl rfl rfl); simp only [Act.put, List.setIfInBounds_toArray, List.set_cons_zero, List.set_cons_succ]) | (with_reducible (refine wpQuiet_val (v := ?_) ?_ ?_ ?_); rotate_left; (first | exact wanted_none rfl | exact wanted_on rfl rfl rfl); (intro w' hw'; obtain ⟨hc, hf⟩ := bcell hw'; go_simp; with_reducible rfl); simp only [Act.put, List.setIfInBounds_toArray, List.set_cons_zero, List.set_cons_succ]))
                  refine wpQuiet_nil ?_
                  intro w4 hw4
                  have HB4 := Lib.hid (HB3.out.trans (hw4.mono HB3.out.size))
                  clear hw4 q1 q0 l1 z0 y0 hg4 HI3 HB3 d0
                  rcases hcs with h | h
                  · as_aux_lemma =>
                      have hlt2 := Lib.hid h
                      go_wp2_with fail
                      clear fq
                      go_roundw
                      case rel =>
                        refine ⟨Q, q, rfl, rfl, by have := HQ.out; omega, Lib.hid ⟨.inr ⟨q, z, by have := HQ.out; omega, rfl, HQ.out.2.2, fun j u hj hu => ?_⟩, HB4.out⟩⟩
                        by_cases e : j = q
                        · subst e; rw [HQ.out.2.2] at hu; injection hu with hu; rw [← hu]; exact .inr ⟨rfl, Nat.le_refl _⟩
                        · have h2 := HA.out.1 j u (by have := HQ.out; omega) hu
                          have h3 := hlt2.out
                          left
                          omega
                      case measure => have := HQ.out; simp [intOf]; omega
                  · as_aux_lemma =>
                      have hlt2 := Lib.hid (of_decide_eq_false h)
                      go_wp2_with fail
                      clear fq
                      go_roundw
                      case rel =>
                        refine ⟨Q, p, rfl, rfl, by have := HQ.out; omega, Lib.hid ⟨.inr ⟨p, y, by have := HQ.out; have := HA.out.2.1; omega, rfl, HA.out.2.2, fun j u hj hu => ?_⟩, HB4.out⟩⟩
                        by_cases e : j = q
                        · subst e; rw [HQ.out.2.2] at hu; injection hu with hu; rw [← hu]; have h3 := hlt2.out; have h4 := HA.out.2.1; omega
                        · exact HA.out.1 j u (by have := HQ.out; omega) hu
                      case measure => have := HQ.out; simp [intOf]; omega
            · obtain rfl : q = m := by omega
              have HF := Lib.hid hf.out.1
              clear hf hlq hq
              rcases HF.out with ⟨rfl, hq0⟩ | ⟨p, y, hp, rfl, hy, hall⟩
              · as_aux_lemma =>
                  have HQ0 := Lib.hid hq0
                  clear hq0 HF
                  have HWt := Lib.hid (wait_anyI w3 g S' a HI3.out.has.at_ o.a)
                  go_wp2_with fail
                  all_goals
                    refine HWt.out.mono ?_
                    rintro e w4 ⟨T, hT, he, hA4, hF4⟩
                    obtain ⟨V, hV⟩ : ∃ V, waitV a.now T = V := ⟨_, rfl⟩
                    have HVv : Hid (V = max a.now (min T 1099511627776) ∧ T = o.a) := Lib.hid ⟨hV.symm, by
                      rcases hT with ⟨_, e⟩ | ⟨m0, hm0, _⟩
                      · exact e
                      · exfalso
                        have h1 := List.length_pos_of_mem hm0
                        have h2 := HI3.out.len
                        have h3 := HQ0.out
                        omega⟩
                    rw [hV] at he hA4
                    subst he
                    obtain ⟨hs1, hs2, hs3⟩ := HI3.out.step hA4 (Sub.refl _ _) hF4
                    have HI4 : Hid (Runs w w4 g S' (a.at_ V) (.slice A4 q c4) q ∧ (a.at_ V).turn ≤ K) := Lib.hid ⟨⟨hs1, hs2, HI3.out.len, hs3, HI3.out.inc⟩, by show a.turn ≤ (K : Int); have := HI.out.2; have := HK.out; omega⟩
                    clear hT hV hA4 hF4 hs1 hs2 hs3
                    go_wp2_with fail
                  all_goals
                    first
                    | (exfalso; clear fk; rename_i hq; have hq' := bne_iff_ne.1 hq; have := HVv.out; omega)
                    | (go_meet
                       exact ⟨S', a.at_ V, q, by first | rfl | (show Value.int .i64 _ = Value.int .i64 V; exact congrArg (Value.int .i64) (by clear fk; have := HVv.out; omega)), rfl, HI4⟩)
              · as_aux_lemma =>
                  have HY := Lib.hid (And.intro hy (And.intro hall hp))
                  clear hy hall HF
                  obtain ⟨g4, cap, hv, _, hg4⟩ := HI3.out.row.form (by omega)
                  injection hv with hv1 _ hv3
                  subst hv1
                  subst hv3
                  have y0 := (own_cell HI3.out.row HY.out.1).1
                  have HWt := Lib.hid (wait_anyI w3 g S' a HI3.out.has.at_ o.a)
                  go_wp2_with fail
                  all_goals
                    refine HWt.out.mono ?_
                    rintro e w4 ⟨T, hT, he, hA4, hF4⟩
                    obtain ⟨V, hV⟩ : ∃ V, waitV a.now T = V := ⟨_, rfl⟩
                    have HVv : Hid (V = max a.now (min T 1099511627776) ∧ T = min o.a y.at_) := Lib.hid ⟨hV.symm, by
                      rcases hT with ⟨hnil, _⟩ | ⟨m0, hm0, hmin, e⟩
                      · exfalso
                        have h2 := HI3.out.len
                        rw [hnil] at h2
                        have h3 := HY.out.2.2
                        simp at h2
                        omega
                      · rw [best_min HI3.out.inc HI3.out.len.symm HY.out.1 HY.out.2.1 hm0 hmin] at e
                        exact e⟩
                    rw [hV] at he hA4
                    subst he
                    obtain ⟨hs1, hs2, hs3⟩ := HI3.out.step hA4 (Sub.refl _ _) hF4
                    have HI4 : Hid (Runs w w4 g S' (a.at_ V) (.slice (some ⟨g4, 0, none⟩) q c4) q ∧ (a.at_ V).turn ≤ K) := Lib.hid ⟨⟨hs1, hs2, HI3.out.len, hs3, HI3.out.inc⟩, by show a.turn ≤ (K : Int); have := HI.out.2; have := HK.out; omega⟩
                    clear hT hV hA4 hF4 hs1 hs2 hs3
                    go_wp2_with fail
                  all_goals
                    first
                    | (exfalso; clear fk; rename_i hq; have hq' := bne_iff_ne.1 hq; have := HVv.out; omega)
                    | (go_meet
                       exact ⟨S', a.at_ V, q, by first | rfl | (show Value.int .i64 _ = Value.int .i64 V; exact congrArg (Value.int .i64) (by clear fk; have := HVv.out; omega)), rfl, HI4⟩)

      · as_aux_lemma =>
          go_wp2_with fail
          generalize wo.alloc (.cells #[.int .i64 o.k, .int .i64 o.a, .int .i64 o.b, .int .i64 o.c] 40) = w1 at *
          generalize wo.heap.size = o8 at *
          clear p0 p1 p2 p3 hblk dl
          have HI3 : Hid (Runs w w1 g S' a (.slice A4 m c4) m ∧ a.turn ≤ K) := Lib.hid ⟨HI.out.1, by have := HI.out.2; have := HK.out; omega⟩
          clear HI
          go_meet
          exact ⟨S', a, m, rfl, rfl, HI3⟩

/-! ### The row's step -/
set_option maxRecDepth 100000 in
theorem agendaRuns_lifted (os : Os) (started : os.Started) (H : Type) (enc : TypeId × Value → H) :
    ReturnsInHanded {} Try.checked os 6 .any (Rows.agendaRunsSpec.pre6 enc Try.prog Try.f6 Rows.agendaRunsRow.domain false) (Rows.agendaRunsSpec.post enc Try.prog Try.f6 false true false false) := by
  refine returnsInHanded_of_change (C := Try.checked) own started (by kernel_rfl) Try.func6
    (ChangeSpec.witness6 (enc := enc) (C := Try.checked) false ⟨#[], #[.slice none 0 0], []⟩ 8 (by kernel_rfl) (by kernel_rfl) (by kernel_rfl) (by kernel_rfl)) ?_
  intro W base args ds gs before hval0 hW _ _
  have hval : ∀ (j : Nat) t v, Try.f6.params[j]? = some t → args[j]? = some v → Value.okWide Try.prog W .any base t v := hval0
  have hW' := hW
  obtain ⟨p, q, hA0, hV, rfl, hfz, hnd⟩ := hW
  have hA : DataW.TrodAll enc Try.prog W 0 (fun _ => true) true Try.f6.params.toList args.toList ds p := hA0
  rw [Try.params6] at hA hval
  obtain ⟨v0, d0, rfl, rfl, h0⟩ := trodAll_one hA
  obtain ⟨A, n, c, os, rfl, hn, hl, hr, hR⟩ := open_ops (hval 0 37 v0 rfl rfl) h0 (fun x hx => hW'.lt x (by simp [hx]))
  exact law_post laidOut (by kernel_rfl) rfl (by kernel_rfl) Try.underlying4 rfl hW' (agendaRuns_calls A n c os W hr hl hR)

theorem agendaRuns_holds : Rows.AgendaRunsSaid :=
  OpenClaim.holds_of_wide 6 Try.f6 rfl rfl rfl rfl rfl rfl rfl ⟨rfl, rfl, rfl, rfl, rfl⟩ rfl rfl rfl rfl rfl (by kernel_rfl) Try.func6 (by kernel_rfl)
    (of_decide_eq_true (by kernel_rfl)) (by unfold Func.isWrapper; first | (rw [if_pos (by decide +kernel)]; kernel_rfl) | (rw [if_neg (by decide +kernel)]; exact ⟨rfl, rfl⟩))
    (fun os started H enc _ => agendaRuns_lifted os started H enc)

#print axioms agendaRuns_holds
end Go.Proofs.Ytkocedbpnpclcaa
