/-
  Layer 17: an argument that is a message; a setup that is not right; Answer and More.
-/
import Derived.Test.YtbkflmeijjcnhaaPeerH
namespace Go.Proofs.Ytbkflmeijjcnhaa
set_option linter.unusedSimpArgs false
set_option linter.unusedVariables false
open Go.RowKit Go.WideShapes Go.ChangeShapes
attribute [local go_sem ↓] Go.wp_at_zero Go.wp_at_succ

/-! ### An argument that is a message -/
theorem open_ints_leaf {H : Type} {enc : TypeId × Value → H} {P : Program} {w : World} {t e : TypeId} {v : Value} {k : IntKind} (ht : P.underlying t = some (.slice e)) (he : P.underlying e = some (.int k)) (hfl : flat P 5 e = some [e]) (hce : P.cellsOf e = 1)
    (h : LeafOk enc P w (fun p => p.block < w.heap.size) t v) :
    ∃ (A : Option Addr) (n c : Nat) (zs : List Int), v = .slice A n c ∧ n ≤ maxLen ∧ zs.length = n ∧ Reads w w.heap.size 1 A n (zs.map (Value.int k)) ∧ ∀ z ∈ zs, (Lit.int k z).wf = true := by
  obtain ⟨fuel, x, hx, hQ⟩ := h
  obtain ⟨A, n, c, xs, rfl, h1, h2, _, hr, hall⟩ := open_slice_flat (n := 5) (ls := [e]) ht hfl (by simpa using hce) (by simp) hx hQ
  simp only [List.length_cons, List.length_nil, Nat.zero_add, Nat.mul_one] at hall hr
  have key : ∀ l, l ≤ n → ∃ zs : List Int, zs.length = l ∧ xs.take l = zs.map (Value.int k) ∧ ∀ z ∈ zs, (Lit.int k z).wf = true := by
    intro l
    induction l with
    | zero => exact fun _ => ⟨[], rfl, by simp, by simp⟩
    | succ l ih =>
      intro hl
      obtain ⟨zs, e1, e2, e4⟩ := ih (by omega)
      have ha := hall l (by omega)
      generalize hc : (xs.drop l).take 1 = cs at *
      match cs, ha with
      | [c0], ⟨h0, _⟩ =>
        obtain ⟨n0, rfl, hwf⟩ := h0.int he
        refine ⟨zs ++ [n0], by simp [e1], ?_, ?_⟩
        · rw [List.take_add, e2, hc]; simp
        · intro z hz
          rcases List.mem_append.1 hz with hz | hz
          · exact e4 z hz
          · simp at hz; subst hz; exact hwf
  obtain ⟨zs, e1, e2, e4⟩ := key n (Nat.le_refl _)
  have e3 : xs.length = n := by simpa using hr.1
  rw [List.take_of_length_le (by omega)] at e2
  exact ⟨A, n, c, zs, rfl, by omega, e1, by rw [← e2]; exact hr, e4⟩

set_option maxHeartbeats 2000000 in
set_option maxRecDepth 100000 in
theorem open_msg {H : Type} {enc : TypeId × Value → H} {W : World} {v : Value} {d : DataW H} {p : List MemPlace} {b0 : Nat} (hv : Value.okWide Try.prog W .any b0 33 v)
    (h : DataW.Trod enc Try.prog W 0 (fun _ => true) true 33 v d p) (hlt : ∀ x ∈ p, x.block < W.heap.size) :
    ∃ (m : Mg) (A : Option Addr) (n c : Nat), v = .agg (mcells m A n c) ∧ n ≤ maxLen ∧ m.path.length = n ∧ Reads W W.heap.size 1 A n (vs m.path) ∧ m.Wf := by
  obtain ⟨cs, rfl, hsz⟩ := okWide_struct Try.underlying33 hv
  obtain ⟨fuel, hf⟩ := h
  have ha := trod_flat (Q := fun p => p.block < W.heap.size) 5 33 [3, 3, 3, 3, 3, 28, 28, 3, 3, 25, 3, 3, 3, 3, 3, 31] (by kernel_rfl) fuel _ _ (by simpa [Value.cells] using hf) hlt
  obtain ⟨l⟩ := cs
  match l, ha with
  | [c0, c1, c2, c3, c4, c5, c6, c7, c8, c9, c10, c11, c12, c13, c14, c15], ⟨h0, h1, h2, h3, h4, h5, h6, h7, h8, h9, h10, h11, h12, h13, h14, h15, _⟩ =>
    obtain ⟨n0, rfl, w0⟩ := h0.i64 Try.underlying3
    obtain ⟨n1, rfl, w1⟩ := h1.i64 Try.underlying3
    obtain ⟨n2, rfl, w2⟩ := h2.i64 Try.underlying3
    obtain ⟨n3, rfl, w3⟩ := h3.i64 Try.underlying3
    obtain ⟨n4, rfl, w4⟩ := h4.i64 Try.underlying3
    obtain ⟨n5, rfl, w5⟩ := h5.i64 Try.underlying28
    obtain ⟨n6, rfl, w6⟩ := h6.i64 Try.underlying28
    obtain ⟨n7, rfl, w7⟩ := h7.i64 Try.underlying3
    obtain ⟨n8, rfl, w8⟩ := h8.i64 Try.underlying3
    obtain ⟨n9, rfl, w9⟩ := h9.i64 Try.underlying25
    obtain ⟨n10, rfl, w10⟩ := h10.i64 Try.underlying3
    obtain ⟨n11, rfl, w11⟩ := h11.i64 Try.underlying3
    obtain ⟨n12, rfl, w12⟩ := h12.i64 Try.underlying3
    obtain ⟨n13, rfl, w13⟩ := h13.i64 Try.underlying3
    obtain ⟨n14, rfl, w14⟩ := h14.i64 Try.underlying3
    obtain ⟨A, n, c, zs, rfl, hn, hl, hr, _⟩ := open_ints_leaf Try.underlying31 Try.underlying3 (by kernel_rfl) (by kernel_rfl) h15
    exact ⟨⟨n0, n1, n2, n3, n4, n5, n6, n7, n8, n9, n10, n11, n12, n13, n14, zs⟩, A, n, c, rfl, hn, hl, hr, w5, w6, w9⟩

set_option maxRecDepth 100000 in
set_option maxHeartbeats 8000000 in
theorem cfcheck_bad (c : Cf) (hn : ¬ c.Right) (w : World) : Calls Try.prog 54 #[.agg (cfc c)] w fun e w' => e = .returned (.int .i64 1) ∧ Below w.heap.size w w' := by
  have L := (Below.refl w.heap.size w).alloc (Nat.le_refl _) (.cells (cfc c) 75)
  by_cases t1 : c.id < 0
  · have h1 : decide (c.id < 0) = true := by simpa using t1
    clear hn  t1
    unfold cfc at *
    go_enter Try.func54, Try.ntmps54
    go_wp2_with fail
    go_ret
    exact ⟨rfl, L⟩
  have h1 : decide (c.id < 0) = false := by simpa using t1
  by_cases t2 : 281474976710656 ≤ c.id
  · have h2 : decide (281474976710656 ≤ c.id) = true := by simpa using t2
    clear hn  t2
    unfold cfc at *
    go_enter Try.func54, Try.ntmps54
    go_wp2_with fail
    go_ret
    exact ⟨rfl, L⟩
  have h2 : decide (281474976710656 ≤ c.id) = false := by simpa using t2
  by_cases t3 : c.port < 0
  · have h3 : decide (c.port < 0) = true := by simpa using t3
    clear hn  t3
    unfold cfc at *
    go_enter Try.func54, Try.ntmps54
    go_wp2_with fail
    go_ret
    exact ⟨rfl, L⟩
  have h3 : decide (c.port < 0) = false := by simpa using t3
  by_cases t4 : 65535 < c.port
  · have h4 : decide (65535 < c.port) = true := by simpa using t4
    clear hn  t4
    unfold cfc at *
    go_enter Try.func54, Try.ntmps54
    go_wp2_with fail
    go_ret
    exact ⟨rfl, L⟩
  have h4 : decide (65535 < c.port) = false := by simpa using t4
  by_cases t5 : c.most < 0
  · have h5 : decide (c.most < 0) = true := by simpa using t5
    clear hn  t5
    unfold cfc at *
    go_enter Try.func54, Try.ntmps54
    go_wp2_with fail
    go_ret
    exact ⟨rfl, L⟩
  have h5 : decide (c.most < 0) = false := by simpa using t5
  by_cases t6 : 1099511627776 < c.most
  · have h6 : decide (1099511627776 < c.most) = true := by simpa using t6
    clear hn  t6
    unfold cfc at *
    go_enter Try.func54, Try.ntmps54
    go_wp2_with fail
    go_ret
    exact ⟨rfl, L⟩
  have h6 : decide (1099511627776 < c.most) = false := by simpa using t6
  by_cases t7 : c.slack < 0
  · have h7 : decide (c.slack < 0) = true := by simpa using t7
    clear hn  t7
    unfold cfc at *
    go_enter Try.func54, Try.ntmps54
    go_wp2_with fail
    go_ret
    exact ⟨rfl, L⟩
  have h7 : decide (c.slack < 0) = false := by simpa using t7
  by_cases t8 : 1099511627776 < c.slack
  · have h8 : decide (1099511627776 < c.slack) = true := by simpa using t8
    clear hn  t8
    unfold cfc at *
    go_enter Try.func54, Try.ntmps54
    go_wp2_with fail
    go_ret
    exact ⟨rfl, L⟩
  have h8 : decide (1099511627776 < c.slack) = false := by simpa using t8
  by_cases t9 : c.window < 1
  · have h9 : decide (c.window < 1) = true := by simpa using t9
    clear hn  t9
    unfold cfc at *
    go_enter Try.func54, Try.ntmps54
    go_wp2_with fail
    go_ret
    exact ⟨rfl, L⟩
  have h9 : decide (c.window < 1) = false := by simpa using t9
  by_cases t10 : 32 < c.window
  · have h10 : decide (32 < c.window) = true := by simpa using t10
    clear hn  t10
    unfold cfc at *
    go_enter Try.func54, Try.ntmps54
    go_wp2_with fail
    go_ret
    exact ⟨rfl, L⟩
  have h10 : decide (32 < c.window) = false := by simpa using t10
  by_cases t11 : c.lost < 1
  · have h11 : decide (c.lost < 1) = true := by simpa using t11
    clear hn  t11
    unfold cfc at *
    go_enter Try.func54, Try.ntmps54
    go_wp2_with fail
    go_ret
    exact ⟨rfl, L⟩
  have h11 : decide (c.lost < 1) = false := by simpa using t11
  by_cases t12 : 100 < c.lost
  · have h12 : decide (100 < c.lost) = true := by simpa using t12
    clear hn  t12
    unfold cfc at *
    go_enter Try.func54, Try.ntmps54
    go_wp2_with fail
    go_ret
    exact ⟨rfl, L⟩
  have h12 : decide (100 < c.lost) = false := by simpa using t12
  exact absurd ⟨by omega, by omega, by omega, by omega, by omega, by omega⟩ hn
set_option maxRecDepth 100000 in
set_option maxHeartbeats 2000000 in
theorem penew_bad (c : Cf) (h : ¬ c.Right) (w : World) : Calls Try.prog 42 #[.agg (cfc c)] w fun e w' => e = .returned (.tuple #[.pointer none, .int .i64 1]) ∧ Below w.heap.size w w' := by
  have L := (Below.refl w.heap.size w).alloc (Nat.le_refl _) (.cells (cfc c) 75)
  have z : w.heap.size ≤ (w.alloc (.cells (cfc c) 75)).heap.size := by simp
  have HC := Lib.hid (fun W => cfcheck_bad c h W)
  have HU : Hid (cfc c = #[.int .i64 c.id, .int .i64 c.port, .int .i64 c.most, .int .i64 c.slack, .int .i64 c.window, .int .i64 c.lost]) := Lib.hid rfl
  clear h
  rw [show (#[Value.agg (cfc c)] : Array Value) = #[.agg #[.int .i64 c.id, .int .i64 c.port, .int .i64 c.most, .int .i64 c.slack, .int .i64 c.window, .int .i64 c.lost]] from rfl]
  go_enter Try.func42, Try.ntmps42
  go_wp2_with fail
  refine (HC.out _).mono ?_
  rintro e w2 ⟨rfl, L2⟩
  have LL := L.trans (L2.mono z)
  clear L L2
  go_wp2_with fail
  go_ret2
  exact ⟨rfl, LL⟩
/-! ### Answer and More -/
def ansM (p : Pe) (m : Mg) (at_ : Int) : Mg := ⟨3, 0, m.seq, p.cf.id, p.cf.port, 0, at_, m.src, m.port, 0, 0, 0, 0, 0, 0, []⟩
theorem answer_end {a : Act} {w' : World} {g : Nat} {m : Mg} {b : Bool} {Q : Ending → World → Prop} (hd : a.defers = []) (h2 : a.eval (.tmp 6) = .pointer (some ⟨g, 0, none⟩)) (h3 : a.eval (.tmp 7) = .bool b)
    (R : Blk w' g 33 (mcells m none 0 0)) (h : Q (.returned (.tuple #[.agg (mcells m none 0 0), .bool b])) w') : bodyPost Try.prog Try.f55 Q Exit.ret a w' := by
  obtain ⟨y0, y1, y2, y3, y4, y5, y6, y7, y8, y9, y10, y11, y12, y13, y14, y15⟩ := mcells_at R
  refine bodyPost_ret (v := .tuple #[.agg (mcells m none 0 0), .bool b]) ?_ hd h
  simp only [Act.eval, Array.getD_eq_getD_getElem?] at h2 h3
  simp [results, Try.results55, go_sem, mcells, h2, h3, y0, y1, y2, y3, y4, y5, y6, y7, y8, y9, y10, y11, y12, y13, y14, y15]
theorem more_end {a : Act} {w' : World} {g : Nat} {m : Mg} {b : Bool} {Q : Ending → World → Prop} (hd : a.defers = []) (h2 : a.eval (.tmp 6) = .pointer (some ⟨g, 0, none⟩)) (h3 : a.eval (.tmp 7) = .bool b)
    (R : Blk w' g 33 (mcells m none 0 0)) (h : Q (.returned (.tuple #[.agg (mcells m none 0 0), .bool b])) w') : bodyPost Try.prog Try.f57 Q Exit.ret a w' := by
  obtain ⟨y0, y1, y2, y3, y4, y5, y6, y7, y8, y9, y10, y11, y12, y13, y14, y15⟩ := mcells_at R
  refine bodyPost_ret (v := .tuple #[.agg (mcells m none 0 0), .bool b]) ?_ hd h
  simp only [Act.eval, Array.getD_eq_getD_getElem?] at h2 h3
  simp [results, Try.results57, go_sem, mcells, h2, h3, y0, y1, y2, y3, y4, y5, y6, y7, y8, y9, y10, y11, y12, y13, y14, y15]
set_option maxRecDepth 100000 in
set_option maxHeartbeats 4000000 in
theorem answer_kind (g : Nat) (m : Mg) (A : Option Addr) (n cc : Nat) (at_ : Int) (w : World) (hk : m.kind ≠ 2) :
    Calls Try.prog 55 #[.pointer (some ⟨g, 0, none⟩), .agg (mcells m A n cc), .int .i64 at_] w fun e w' => e = .returned (.tuple #[.agg (mcells zeroM none 0 0), .bool false]) ∧ Below w.heap.size w w' := by
  have M0 := Blk.new w 33 (mcells m A n cc)
  have L0 := (Below.refl w.heap.size w).alloc (Nat.le_refl _) (.cells (mcells m A n cc) 33)
  obtain ⟨w0, hw0⟩ : ∃ w0, w0 = w.alloc (.cells (mcells m A n cc) 33) := ⟨_, rfl⟩
  have hz : w.heap.size < w0.heap.size := by rw [hw0]; simp
  rw [← hw0] at M0 L0
  have Z1 := Blk.new w0 33 (mcells zeroM none 0 0)
  have M1 := M0.alloc (.cells (mcells zeroM none 0 0) 33)
  have L1 := L0.alloc L0.size (.cells (mcells zeroM none 0 0) 33)
  obtain ⟨w1, hw1⟩ : ∃ w1, w1 = w0.alloc (.cells (mcells zeroM none 0 0) 33) := ⟨_, rfl⟩
  have hz1 : w0.heap.size < w1.heap.size := by rw [hw1]; simp
  rw [← hw1] at Z1 M1 L1
  have hw0' : w.alloc (.cells (mcells m A n cc) 33) = w0 := hw0.symm
  have hw1' : w0.alloc (.cells #[.int .i64 0, .int .i64 0, .int .i64 0, .int .i64 0, .int .i64 0, .int .i64 0, .int .i64 0, .int .i64 0, .int .i64 0, .int .i64 0, .int .i64 0, .int .i64 0, .int .i64 0, .int .i64 0, .int .i64 0, .slice none 0 0] 33) = w1 := hw1.symm
  have x0 := M1.cellOf (v := .int .i64 m.kind) 0 rfl
  have b0 : (m.kind != 2) = true := bne_iff_ne.2 hk
  have b1 : (m.kind == 2) = false := beq_eq_false_iff_ne.2 hk
  clear hk hw0 hw1 M0 L0 M1
  go_enter Try.func55, Try.ntmps55
  go_wp2_with (refine wpList_store_part rfl 33 (.tmp 6) (.tmp 20) rfl (off := 0) (cs := mcells zeroM none 0 0) rfl Z1 rfl (show 0 + 16 ≤ 16 by omega) (by kernel_rfl) (by rw [← Array.all_toList]; rfl) ?_; intro w7 R7 z7 g7)
  rw [putAll_whole (show (mcells zeroM none 0 0).size = (mcells zeroM none 0 0).size from rfl)] at R7
  have L7 := L1.trans (below_one g7 (by omega) (by omega))
  exact answer_end rfl rfl rfl R7 ⟨rfl, L7⟩
set_option maxRecDepth 100000 in
set_option maxHeartbeats 4000000 in
theorem more_kind (g : Nat) (m : Mg) (A : Option Addr) (n cc : Nat) (at_ : Int) (w : World) (hk : m.kind ≠ 3) :
    Calls Try.prog 57 #[.pointer (some ⟨g, 0, none⟩), .agg (mcells m A n cc), .int .i64 at_] w fun e w' => e = .returned (.tuple #[.agg (mcells zeroM none 0 0), .bool false]) ∧ Below w.heap.size w w' := by
  have M0 := Blk.new w 33 (mcells m A n cc)
  have L0 := (Below.refl w.heap.size w).alloc (Nat.le_refl _) (.cells (mcells m A n cc) 33)
  obtain ⟨w0, hw0⟩ : ∃ w0, w0 = w.alloc (.cells (mcells m A n cc) 33) := ⟨_, rfl⟩
  have hz : w.heap.size < w0.heap.size := by rw [hw0]; simp
  rw [← hw0] at M0 L0
  have Z1 := Blk.new w0 33 (mcells zeroM none 0 0)
  have M1 := M0.alloc (.cells (mcells zeroM none 0 0) 33)
  have L1 := L0.alloc L0.size (.cells (mcells zeroM none 0 0) 33)
  obtain ⟨w1, hw1⟩ : ∃ w1, w1 = w0.alloc (.cells (mcells zeroM none 0 0) 33) := ⟨_, rfl⟩
  have hz1 : w0.heap.size < w1.heap.size := by rw [hw1]; simp
  rw [← hw1] at Z1 M1 L1
  have hw0' : w.alloc (.cells (mcells m A n cc) 33) = w0 := hw0.symm
  have hw1' : w0.alloc (.cells #[.int .i64 0, .int .i64 0, .int .i64 0, .int .i64 0, .int .i64 0, .int .i64 0, .int .i64 0, .int .i64 0, .int .i64 0, .int .i64 0, .int .i64 0, .int .i64 0, .int .i64 0, .int .i64 0, .int .i64 0, .slice none 0 0] 33) = w1 := hw1.symm
  have x0 := M1.cellOf (v := .int .i64 m.kind) 0 rfl
  have b0 : (m.kind != 3) = true := bne_iff_ne.2 hk
  have b1 : (m.kind == 3) = false := beq_eq_false_iff_ne.2 hk
  clear hk hw0 hw1 M0 L0 M1
  go_enter Try.func57, Try.ntmps57
  go_wp2_with (refine wpList_store_part rfl 33 (.tmp 6) (.tmp 20) rfl (off := 0) (cs := mcells zeroM none 0 0) rfl Z1 rfl (show 0 + 16 ≤ 16 by omega) (by kernel_rfl) (by rw [← Array.all_toList]; rfl) ?_; intro w7 R7 z7 g7)
  rw [putAll_whole (show (mcells zeroM none 0 0).size = (mcells zeroM none 0 0).size from rfl)] at R7
  have L7 := L1.trans (below_one g7 (by omega) (by omega))
  exact more_end rfl rfl rfl R7 ⟨rfl, L7⟩
set_option maxRecDepth 100000 in
set_option maxHeartbeats 4000000 in
theorem answer_check (g : Nat) (m : Mg) (A : Option Addr) (n cc : Nat) (at_ : Int) (w : World) (hm : MsgIn w w.heap.size m A n) (hk : m.kind = 2) (hc : checkV m ≠ 0) :
    Calls Try.prog 55 #[.pointer (some ⟨g, 0, none⟩), .agg (mcells m A n cc), .int .i64 at_] w fun e w' => e = .returned (.tuple #[.agg (mcells zeroM none 0 0), .bool false]) ∧ Below w.heap.size w w' := by
  have M0 := Blk.new w 33 (mcells m A n cc)
  have L0 := (Below.refl w.heap.size w).alloc (Nat.le_refl _) (.cells (mcells m A n cc) 33)
  obtain ⟨w0, hw0⟩ : ∃ w0, w0 = w.alloc (.cells (mcells m A n cc) 33) := ⟨_, rfl⟩
  have hz : w.heap.size < w0.heap.size := by rw [hw0]; simp
  rw [← hw0] at M0 L0
  have Z1 := Blk.new w0 33 (mcells zeroM none 0 0)
  have M1 := M0.alloc (.cells (mcells zeroM none 0 0) 33)
  have L1 := L0.alloc L0.size (.cells (mcells zeroM none 0 0) 33)
  obtain ⟨w1, hw1⟩ : ∃ w1, w1 = w0.alloc (.cells (mcells zeroM none 0 0) 33) := ⟨_, rfl⟩
  have hz1 : w0.heap.size < w1.heap.size := by rw [hw1]; simp
  rw [← hw1] at Z1 M1 L1
  have hw0' : w.alloc (.cells (mcells m A n cc) 33) = w0 := hw0.symm
  have hw1' : w0.alloc (.cells #[.int .i64 0, .int .i64 0, .int .i64 0, .int .i64 0, .int .i64 0, .int .i64 0, .int .i64 0, .int .i64 0, .int .i64 0, .int .i64 0, .int .i64 0, .int .i64 0, .int .i64 0, .int .i64 0, .int .i64 0, .slice none 0 0] 33) = w1 := hw1.symm
  have x0 := M1.cellOf (v := .int .i64 2) 0 (by rw [← hk]; rfl)
  have hm1 := (hm.below L1).more L1.size
  have b0 : (checkV m != 0) = true := bne_iff_ne.2 hc
  have b1 : (checkV m == 0) = false := beq_eq_false_iff_ne.2 hc
  have HC := Lib.hid (fun W => fun (h : MsgIn W W.heap.size m A n) => check_m m A n cc W h.reads h.len h.most)
  clear hk hw0 hw1 M0 L0 hm hc
  generalize checkV m = cv at *
  go_enter Try.func55, Try.ntmps55
  go_wp2_with (refine wpList_load_row_g (by first | rfl | (go_simp; done)) 33 (.tmp 4) rfl w.heap.size rfl 33 (mcells m A n cc) (0, 0) _ M1 Try.underlying33 rfl (by kernel_rfl) ?_)
  refine (HC.out _ hm1).mono ?_
  rintro e w2 ⟨rfl, L2⟩
  have Z2 := Z1.below L2 hz1
  have LL2 := L1.trans (L2.mono (by omega))
  have hz2 := L2.size
  clear Z1 L1 L2 HC M1 x0 hm1
  go_wp2_with (refine wpList_store_part rfl 33 (.tmp 6) (.tmp 20) rfl (off := 0) (cs := mcells zeroM none 0 0) rfl Z2 rfl (show 0 + 16 ≤ 16 by omega) (by kernel_rfl) (by rw [← Array.all_toList]; rfl) ?_; intro w7 R7 z7 g7)
  rw [putAll_whole (show (mcells zeroM none 0 0).size = (mcells zeroM none 0 0).size from rfl)] at R7
  have L7 := LL2.trans (below_one g7 (by omega) (by omega))
  exact answer_end rfl rfl rfl R7 ⟨rfl, L7⟩
set_option maxRecDepth 100000 in
set_option maxHeartbeats 4000000 in
theorem answer_yes (p : Pe) (g : Nat) (m : Mg) (A : Option Addr) (n cc : Nat) (at_ : Int) (w : World) (B : PeIn w g p) (hm : MsgIn w w.heap.size m A n) (hk : m.kind = 2) (hc : checkV m = 0) :
    Calls Try.prog 55 #[.pointer (some ⟨g, 0, none⟩), .agg (mcells m A n cc), .int .i64 at_] w fun e w' => e = .returned (.tuple #[.agg (mcells (ansM p m at_) none 0 0), .bool true]) ∧ Below w.heap.size w w' := by
  have lg := B.lt
  have M0 := Blk.new w 33 (mcells m A n cc)
  have L0 := (Below.refl w.heap.size w).alloc (Nat.le_refl _) (.cells (mcells m A n cc) 33)
  obtain ⟨w0, hw0⟩ : ∃ w0, w0 = w.alloc (.cells (mcells m A n cc) 33) := ⟨_, rfl⟩
  have hz : w.heap.size < w0.heap.size := by rw [hw0]; simp
  rw [← hw0] at M0 L0
  have Z1 := Blk.new w0 33 (mcells zeroM none 0 0)
  have M1 := M0.alloc (.cells (mcells zeroM none 0 0) 33)
  have L1 := L0.alloc L0.size (.cells (mcells zeroM none 0 0) 33)
  obtain ⟨w1, hw1⟩ : ∃ w1, w1 = w0.alloc (.cells (mcells zeroM none 0 0) 33) := ⟨_, rfl⟩
  have hz1 : w0.heap.size < w1.heap.size := by rw [hw1]; simp
  rw [← hw1] at Z1 M1 L1
  have hw0' : w.alloc (.cells (mcells m A n cc) 33) = w0 := hw0.symm
  have hw1' : w0.alloc (.cells #[.int .i64 0, .int .i64 0, .int .i64 0, .int .i64 0, .int .i64 0, .int .i64 0, .int .i64 0, .int .i64 0, .int .i64 0, .int .i64 0, .int .i64 0, .int .i64 0, .int .i64 0, .int .i64 0, .int .i64 0, .slice none 0 0] 33) = w1 := hw1.symm
  have x0 := M1.cellOf (v := .int .i64 2) 0 (by rw [← hk]; rfl)
  have hm1 := (hm.below L1).more L1.size
  have HC := Lib.hid (fun W => fun (h : MsgIn W W.heap.size m A n) => show Calls Try.prog 56 #[.agg (mcells m A n cc)] W fun e w' => e = .returned (.int .i64 0) ∧ Below W.heap.size W w' by have := check_m m A n cc W h.reads h.len h.most; rw [hc] at this; exact this)
  clear hk hw0 hw1 M0 L0 hm hc
  go_enter Try.func55, Try.ntmps55
  go_wp2_with (refine wpList_load_row_g (by first | rfl | (go_simp; done)) 33 (.tmp 4) rfl w.heap.size rfl 33 (mcells m A n cc) (0, 0) _ M1 Try.underlying33 rfl (by kernel_rfl) ?_)
  refine (HC.out _ hm1).mono ?_
  rintro e w2 ⟨rfl, L2⟩
  have Z2 := Z1.below L2 hz1
  have M2 := M1.below L2 (by omega)
  have LL2 := L1.trans (L2.mono (by omega))
  have hz2 := L2.size
  have B2 := B.kept LL2
  clear Z1 L1 L2 HC x0 hm1 M1 B
  go_wp2_with fail
  have S0 : PeIn w2.drew g p ∧ Blk w2.drew w.heap.size 33 (mcells m A n cc) := ⟨B2, M2⟩
  refine wp_region_script [(0, true), (1, true), (2, true), (3, true), (4, true), (5, true), (6, true), (7, true), (8, true), (9, true), (10, true), (11, true), (12, true), (13, true), (14, true), (15, true), (16, true), (17, true), (18, false), (19, true)] (fun w' => PeIn w' g p ∧ Blk w' w.heap.size 33 (mcells m A n cc)) (by kernel_rfl) (by kernel_rfl) (fun _ _ _ _ _ h => h) S0 ?_
  iterate 18 (refine script_take (v := ?_) rfl ?_ ?_ ?_; rotate_left; (first | rfl | (go_simp; done)); (rintro w' ⟨hP, hM⟩; (have c0 := hP.cellOf (v := .int .i64 p.cf.id) 0 rfl); (have c1 := hP.cellOf (v := .int .i64 p.cf.port) 1 rfl); (have c2 := hM.cellOf (v := .int .i64 m.seq) 2 rfl); (have c3 := hM.cellOf (v := .int .i64 m.src) 3 rfl); (have c4 := hM.cellOf (v := .int .i64 m.port) 4 rfl); go_simp; with_reducible rfl); simp only [Act.put, List.setIfInBounds_toArray, List.set_cons_zero, List.set_cons_succ])
  have Z3 : Blk w2.drew w0.heap.size 33 (mcells zeroM none 0 0) := Z2
  refine script_store_blk rfl rfl 33 (.tmp 6) (.tmp 38) rfl (off := 0) (cs := mcells (ansM p m at_) none 0 0) rfl Z3 rfl (show 0 + 16 ≤ 16 by omega) (by kernel_rfl) (by rw [← Array.all_toList]; rfl) ?_
  intro w7 R7 z7 g7
  rw [putAll_whole (show (mcells zeroM none 0 0).size = (mcells (ansM p m at_) none 0 0).size from rfl)] at R7
  refine ⟨⟨S0.1.keep g7 (by omega), S0.2.keep g7 (by omega)⟩, ?_⟩
  simp only [Act.put, List.setIfInBounds_toArray, List.set_cons_zero, List.set_cons_succ]
  (refine script_take (v := ?_) rfl ?_ ?_ ?_; rotate_left; (first | rfl | (go_simp; done)); (rintro w' hw';  go_simp; with_reducible rfl); simp only [Act.put, List.setIfInBounds_toArray, List.set_cons_zero, List.set_cons_succ])
  refine script_nil ?_
  have L7 := LL2.drew.trans (below_one g7 (show w.heap.size ≤ w2.heap.size by omega) (by omega))
  clear S0 Z3 Z2 M2 B2
  go_wp2_with fail
  exact answer_end rfl rfl rfl R7 ⟨rfl, L7⟩
def moreOf (m : Mg) (then_ : Int) : Mg := { m with kind := 10, time := then_ }
set_option maxRecDepth 100000 in
set_option maxHeartbeats 4000000 in
theorem more_yes (g : Nat) (m : Mg) (then_ : Int) (w : World) (hp : m.path = []) (hk : m.kind = 3) (hc : checkV m = 0) :
    Calls Try.prog 57 #[.pointer (some ⟨g, 0, none⟩), .agg (mcells m none 0 0), .int .i64 then_] w fun e w' => e = .returned (.tuple #[.agg (mcells (moreOf m then_) none 0 0), .bool true]) ∧ Below w.heap.size w w' := by
  have M0 := Blk.new w 33 (mcells m none 0 0)
  have L0 := (Below.refl w.heap.size w).alloc (Nat.le_refl _) (.cells (mcells m none 0 0) 33)
  obtain ⟨w0, hw0⟩ : ∃ w0, w0 = w.alloc (.cells (mcells m none 0 0) 33) := ⟨_, rfl⟩
  have hz : w.heap.size < w0.heap.size := by rw [hw0]; simp
  rw [← hw0] at M0 L0
  have Z1 := Blk.new w0 33 (mcells zeroM none 0 0)
  have M1 := M0.alloc (.cells (mcells zeroM none 0 0) 33)
  have L1 := L0.alloc L0.size (.cells (mcells zeroM none 0 0) 33)
  obtain ⟨w1, hw1⟩ : ∃ w1, w1 = w0.alloc (.cells (mcells zeroM none 0 0) 33) := ⟨_, rfl⟩
  have hz1 : w0.heap.size < w1.heap.size := by rw [hw1]; simp
  rw [← hw1] at Z1 M1 L1
  have hw0' : w.alloc (.cells (mcells m none 0 0) 33) = w0 := hw0.symm
  have hw1' : w0.alloc (.cells #[.int .i64 0, .int .i64 0, .int .i64 0, .int .i64 0, .int .i64 0, .int .i64 0, .int .i64 0, .int .i64 0, .int .i64 0, .int .i64 0, .int .i64 0, .int .i64 0, .int .i64 0, .int .i64 0, .int .i64 0, .slice none 0 0] 33) = w1 := hw1.symm
  have x0 := M1.cellOf (v := .int .i64 3) 0 (by rw [← hk]; rfl)
  have HC := Lib.hid (fun W => show Calls Try.prog 56 #[.agg (mcells m none 0 0)] W fun e w' => e = .returned (.int .i64 0) ∧ Below W.heap.size W w' by have h : MsgIn W W.heap.size m none 0 := MsgIn.bare hp; have := check_m m none 0 0 W h.reads h.len h.most; rw [hc] at this; exact this)
  clear hk hw0 hw1 M0 L0 hp hc
  go_enter Try.func57, Try.ntmps57
  go_wp2_with (refine wpList_load_row_g (by first | rfl | (go_simp; done)) 33 (.tmp 4) rfl w.heap.size rfl 33 (mcells m none 0 0) (0, 0) _ M1 Try.underlying33 rfl (by kernel_rfl) ?_)
  refine (HC.out _).mono ?_
  rintro e w2 ⟨rfl, L2⟩
  have Z2 := Z1.below L2 hz1
  have M2 := M1.below L2 (by omega)
  have LL2 := L1.trans (L2.mono (by omega))
  have hz2 := L2.size
  clear Z1 L1 L2 HC x0 M1
  have x0 := M2.cellOf (v := .int .i64 m.kind) 0 rfl
  have x6 := M2.cellOf (v := .int .i64 m.time) 6 rfl
  have fz := M2.frozen
  have M3 : Blk ((w2.setCell ⟨w.heap.size, 0, none⟩ (.int .i64 10)).setCell ⟨w.heap.size, 6, none⟩ (.int .i64 then_)) w.heap.size 33 (mcells (moreOf m then_) none 0 0) := (M2.set_ 0 (.int .i64 10)).set_ 6 (.int .i64 then_)
  have Z3 : Blk ((w2.setCell ⟨w.heap.size, 0, none⟩ (.int .i64 10)).setCell ⟨w.heap.size, 6, none⟩ (.int .i64 then_)) w0.heap.size 33 (mcells zeroM none 0 0) := (Z2.far (p := ⟨w.heap.size, 0, none⟩) (by show w0.heap.size ≠ w.heap.size; omega) _).far (p := ⟨w.heap.size, 6, none⟩) (by show w0.heap.size ≠ w.heap.size; omega) _
  have LL3 := (LL2.setCell (p := ⟨w.heap.size, 0, none⟩) (Nat.le_refl _) (.int .i64 10)).setCell (p := ⟨w.heap.size, 6, none⟩) (Nat.le_refl _) (.int .i64 then_)
  have hs3 : ((w2.setCell ⟨w.heap.size, 0, none⟩ (.int .i64 10)).setCell ⟨w.heap.size, 6, none⟩ (.int .i64 then_)).heap.size = w2.heap.size := by simp [World.setCell]
  have H3 := Lib.hid (And.intro M3 (And.intro Z3 (And.intro LL3 hs3)))
  clear M3 Z3 LL3 hs3 M2 Z2 LL2
  go_wp2_with (first | (refine wpList_load_row_g (by first | rfl | (go_simp; done)) 33 (.tmp 4) rfl w.heap.size rfl 33 (mcells (moreOf m then_) none 0 0) (0, 0) _ H3.out.1 Try.underlying33 rfl (by kernel_rfl) ?_) | (refine wpList_store_part rfl 33 (.tmp 6) (.tmp 24) rfl (off := 0) (cs := mcells (moreOf m then_) none 0 0) rfl H3.out.2.1 rfl (show 0 + 16 ≤ 16 by omega) (by kernel_rfl) (by rw [← Array.all_toList]; rfl) ?_; intro w7 R7 z7 g7))
  rw [putAll_whole (show (mcells zeroM none 0 0).size = (mcells (moreOf m then_) none 0 0).size from rfl)] at R7
  have L7 := H3.out.2.2.1.trans (below_one g7 (by have := H3.out.2.2.2; omega) (by omega))
  exact more_end rfl rfl rfl R7 ⟨rfl, L7⟩
end Go.Proofs.Ytbkflmeijjcnhaa
