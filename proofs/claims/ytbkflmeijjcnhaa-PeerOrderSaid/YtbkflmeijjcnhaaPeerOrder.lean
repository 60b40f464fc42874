/-
  PeerOrder: for any messages and times the law returns true: halves of answers that come out of order change nothing; the arguments read as they did. No condition.
-/
import Derived.Test.YtbkflmeijjcnhaaPeerH
import Derived.Deep.DeepCutAuto
import Derived.Deep.CutBlock
namespace Go.Proofs.Ytbkflmeijjcnhaa
set_option linter.unusedSimpArgs false
set_option linter.unusedVariables false
open Go.RowKit Go.WideShapes Go.ChangeShapes
attribute [local go_sem ↓] Go.wp_at_zero Go.wp_at_succ

section
variable {P : Program}
theorem run_load_at (w : World) (ad : Addr) (ty : TypeId) (cs : List Value) (d : TypeDesc) (hc : ∀ j v, cs[j]? = some v → w.cell? (ad.add j) = some v)
    (hu : P.underlying ty = some d) (hd : d.isRow = true) (hi : (P.info? ty).map (·.size) = some cs.length) : (loadVar ty ad).run P w = .ok (.agg cs.toArray) w := by
  have hl : (loadCells ad cs.length).run P w = .ok cs.toArray w := run_loadCells_list (P := P) w ad cs hc
  cases hq : P.info? ty with
  | none => simp [hq] at hi
  | some i =>
    have hs : i.size = cs.length := by simpa [hq] using hi
    have hagg : (isAgg ty).run P w = .ok true w := by
      unfold isAgg
      rw [Sem.run_bind, run_underlying hu w]
      cases d <;> simp_all
    simp [loadVar, Sem.run_bind, hagg, sizeOf, typeInfo, hq, hs, hl]
theorem wpList_load_at {ops : Array Oper} {rest : List Oper} {op : Oper} {a : Act} {w : World} {Q : Exit → Act → World → Prop} (hgd : op.guard = none) (ty : TypeId) (x : Operand) (ho : op.op = .load ty x)
    (ad : Addr) (hx : a.eval x = .pointer (some ad)) (M : Array Value) (d : TypeDesc) (hc : ∀ j v, M.toList[j]? = some v → w.cell? (ad.add j) = some v)
    (hu : P.underlying ty = some d) (hd : d.isRow = true) (hi : (P.info? ty).map (·.size) = some M.size)
    (h : wpList P ops Q rest (a.put op.dst (.agg M)) w) : wpList P ops Q (op :: rest) a w := by
  refine wpList_plain hgd fun K hK => ?_
  unfold Oper.wp execOp
  simp only [ho, hx, Instr.loadAt, Instr.sureAddr, Sem.run_bind, Sem.run_pure, Result.andThen_ok, run_load_at w ad ty M.toList d hc hu hd (by simpa using hi)]
  exact hK _ _ h
theorem wpList_val {ops : Array Oper} {rest : List Oper} {op : Oper} {a : Act} {w : World} {Q : Exit → Act → World → Prop} {v : Value} (hw : Region.wanted op (yielded ops a.tmps) = true) (h : (execOp a.eval op).run P w = .ok (.value v) w)
    (k : wpList P ops Q rest (a.put op.dst v) w) : wpList P ops Q (op :: rest) a w := by
  unfold wpList
  rw [if_pos hw]
  refine .inl ?_
  unfold Oper.wp
  rw [h]
  exact k
theorem wpList_none {ops : Array Oper} {rest : List Oper} {op : Oper} {a : Act} {w : World} {Q : Exit → Act → World → Prop} (hw : Region.wanted op (yielded ops a.tmps) = false)
    (k : wpList P ops Q rest (a.put op.dst undef) w) : wpList P ops Q (op :: rest) a w := by
  unfold wpList
  rw [if_neg (by rw [hw]; simp)]
  exact k
theorem leaf_slice {H : Type} {enc : TypeId × Value → H} {w : World} {t e : TypeId} {v : Value} (ht : P.underlying t = some (.slice e)) (hfl : flat P 5 e = some [e]) (hce : P.cellsOf e = 1)
    (h : LeafOk enc P w (fun p => p.block < w.heap.size) t v) : ∃ (A : Option Addr) (n c : Nat), v = .slice A n c := by
  obtain ⟨fuel, x, hx, hQ⟩ := h
  obtain ⟨A, n, c, xs, rfl, _⟩ := open_slice_flat (n := 5) (ls := [e]) ht hfl (by simpa using hce) (by simp) hx hQ
  exact ⟨A, n, c, rfl⟩
end
set_option maxHeartbeats 2000000 in
set_option maxRecDepth 100000 in
theorem open_msgs {H : Type} {enc : TypeId × Value → H} {W : World} {v : Value} {d : DataW H} {p : List MemPlace} {b0 : Nat} (hv : Value.okWide Try.prog W .any b0 69 v)
    (h : DataW.Trod enc Try.prog W 0 (fun _ => true) true 69 v d p) (hlt : ∀ x ∈ p, x.block < W.heap.size) :
    ∃ (A : Option Addr) (n c : Nat) (xs : List Value), v = .slice A n c ∧ n ≤ maxLen ∧ Reads W W.heap.size 16 A n xs ∧ ∀ i, i < n → ∃ (m : Mg) (B : Option Addr) (k kc : Nat), (mcells m B k kc).toList = (xs.drop (i * 16)).take 16 := by
  obtain ⟨A, n, c, xs, rfl, h1, h2, _, hr, hall⟩ := open_slice_arg (n := 5) (ls := [3, 3, 3, 3, 3, 28, 28, 3, 3, 25, 3, 3, 3, 3, 3, 31]) Try.underlying69 (by kernel_rfl) (by kernel_rfl) rfl hv h hlt
  refine ⟨A, n, c, xs, rfl, by omega, hr, fun i hi => ?_⟩
  have ha := hall i hi
  simp only [List.length_cons, List.length_nil, Nat.reduceAdd] at ha
  generalize (xs.drop (i * 16)).take 16 = cs at *
  match cs, ha with
  | [c0, c1, c2, c3, c4, c5, c6, c7, c8, c9, c10, c11, c12, c13, c14, c15], ⟨l0, l1, l2, l3, l4, l5, l6, l7, l8, l9, l10, l11, l12, l13, l14, l15, _⟩ =>
    obtain ⟨n0, rfl, _⟩ := l0.i64 Try.underlying3
    obtain ⟨n1, rfl, _⟩ := l1.i64 Try.underlying3
    obtain ⟨n2, rfl, _⟩ := l2.i64 Try.underlying3
    obtain ⟨n3, rfl, _⟩ := l3.i64 Try.underlying3
    obtain ⟨n4, rfl, _⟩ := l4.i64 Try.underlying3
    obtain ⟨n5, rfl, _⟩ := l5.i64 Try.underlying28
    obtain ⟨n6, rfl, _⟩ := l6.i64 Try.underlying28
    obtain ⟨n7, rfl, _⟩ := l7.i64 Try.underlying3
    obtain ⟨n8, rfl, _⟩ := l8.i64 Try.underlying3
    obtain ⟨n9, rfl, _⟩ := l9.i64 Try.underlying25
    obtain ⟨n10, rfl, _⟩ := l10.i64 Try.underlying3
    obtain ⟨n11, rfl, _⟩ := l11.i64 Try.underlying3
    obtain ⟨n12, rfl, _⟩ := l12.i64 Try.underlying3
    obtain ⟨n13, rfl, _⟩ := l13.i64 Try.underlying3
    obtain ⟨n14, rfl, _⟩ := l14.i64 Try.underlying3
    obtain ⟨A15, k15, kc15, rfl⟩ := leaf_slice Try.underlying31 (by kernel_rfl) (by kernel_rfl) l15
    exact ⟨⟨n0, n1, n2, n3, n4, n5, n6, n7, n8, n9, n10, n11, n12, n13, n14, []⟩, A15, k15, kc15, rfl⟩
set_option maxHeartbeats 2000000 in
set_option maxRecDepth 100000 in
theorem open_stamps {H : Type} {enc : TypeId × Value → H} {W : World} {v : Value} {d : DataW H} {p : List MemPlace} {b0 : Nat} (hv : Value.okWide Try.prog W .any b0 70 v)
    (h : DataW.Trod enc Try.prog W 0 (fun _ => true) true 70 v d p) (hlt : ∀ x ∈ p, x.block < W.heap.size) :
    ∃ (A : Option Addr) (n c : Nat) (xs : List Value), v = .slice A n c ∧ n ≤ maxLen ∧ Reads W W.heap.size 1 A n xs ∧ ∀ i, i < n → ∃ x : Int, xs[i]? = some (.int .i64 x) := by
  obtain ⟨A, n, c, xs, rfl, h1, h2, _, hr, hall⟩ := open_slice_arg (n := 5) (ls := [28]) Try.underlying70 (by kernel_rfl) (by kernel_rfl) rfl hv h hlt
  refine ⟨A, n, c, xs, rfl, by omega, hr, fun i hi => ?_⟩
  have ha := hall i hi
  have hl : i < xs.length := by have := hr.1; simp only [List.length_singleton] at this; omega
  simp only [List.length_singleton, Nat.mul_one] at ha
  rw [List.drop_eq_getElem_cons hl] at ha
  obtain ⟨l0, _⟩ := ha
  obtain ⟨n0, h0, _⟩ := l0.i64 Try.underlying28
  exact ⟨n0, by rw [List.getElem?_eq_getElem hl, h0]⟩
def orA : Mg := ⟨3, 0, 1, 9, 0, 0, 327680000, 5, 1, 0, 0, 0, 0, 0, 0, []⟩
def orB : Mg := ⟨10, 0, 1, 9, 0, 0, 393216000, 5, 1, 0, 0, 0, 0, 0, 0, []⟩
def orP : Pe := askP (peNew conf0)
theorem orA_right : checkV orA = 0 := by
  refine check_zero.2 ⟨by simp [Known, orA], ⟨⟨rfl, by decide, by decide⟩, rfl, rfl⟩, ⟨fun h => absurd rfl h, fun _ => rfl⟩, fun _ => ⟨rfl, rfl, rfl, rfl, rfl, rfl⟩, by show (0 : Nat) ≤ 32; omega, rfl⟩
theorem orB_right : checkV orB = 0 := by
  refine check_zero.2 ⟨by simp [Known, orB], ⟨⟨rfl, by decide, by decide⟩, rfl, rfl⟩, ⟨fun _ h => absurd rfl h, fun _ => rfl⟩, fun _ => ⟨rfl, rfl, rfl, rfl, rfl, rfl⟩, by show (0 : Nat) ≤ 32; omega, rfl⟩
def orP2 : Pe := { orP with sent := true, t1 := 65536000 }
def orP3 : Pe := { orP2 with half := true, t2 := 327680000, t4 := 157286400 }
theorem mineB : Mine orP2 orB := ⟨rfl, rfl, orB_right, rfl, rfl, rfl, rfl⟩
theorem mineA : Mine orP2 orA := ⟨rfl, rfl, orA_right, rfl, rfl, rfl, rfl⟩
theorem mineA3 : Mine orP3 orA := ⟨rfl, rfl, orA_right, rfl, rfl, rfl, rfl⟩
theorem mineB3 : Mine orP3 orB := ⟨rfl, rfl, orB_right, rfl, rfl, rfl, rfl⟩
set_option maxRecDepth 100000 in
set_option maxHeartbeats 16000000 in
theorem peerOrder_calls (A A2 : Option Addr) (n c n2 c2 : Nat) (xs xs2 : List Value) (w : World) (hn : n ≤ maxLen) (hn2 : n2 ≤ maxLen) (hr : Reads w w.heap.size 16 A n xs) (hr2 : Reads w w.heap.size 1 A2 n2 xs2)
    (hms : ∀ i, i < n → ∃ (m : Mg) (B : Option Addr) (k kc : Nat), (mcells m B k kc).toList = (xs.drop (i * 16)).take 16) (hat : ∀ i, i < n2 → ∃ x : Int, xs2[i]? = some (.int .i64 x)) :
    Calls Try.prog 10 #[.slice A n c, .slice A2 n2 c2] w fun e w' => e = .returned (.bool true) ∧ Below w.heap.size w w' := by
  have HMS := Lib.hid hms
  have HAT := Lib.hid hat
  unfold maxLen at hn hn2
  clear hms hat
  go_enter Try.func10, Try.ntmps10
  go_wp2_with fail
  refine (head17 w).mono ?_
  rintro e w0 ⟨rfl, L0⟩
  go_wp2_with fail
  refine (conf_any w0).mono ?_
  rintro e w1 ⟨rfl, L1⟩
  have L01 := L0.trans (L1.mono L0.size)
  clear L0 L1
  go_wp2_with fail
  refine (penew_ok conf0 conf0_right w1).mono ?_
  rintro e w2 ⟨g, rfl, B2, hg, L2⟩
  have LL2 := L01.trans (L2.mono L01.size)
  have hgw : w.heap.size ≤ g := Nat.le_trans L01.size hg
  clear L01 L2 hg
  go_wp2_with fail
  refine (ask_any (peNew conf0) g w2 B2 ⟨by decide, by decide⟩ ⟨by decide, by decide⟩).mono ?_
  rintro e w3 ⟨rfl, B3, G3⟩
  rw [show askM (peNew conf0) = ⟨2, 0, 1, 5, 1, 0, 0, 0, 0, 0, 0, 0, 0, 0, 0, []⟩ from rfl]
  have LL3 := LL2.trans (below_one G3 LL2.size hgw)
  have P4 : PeIn (w3.alloc (.cells (mcells ⟨2, 0, 1, 5, 1, 0, 0, 0, 0, 0, 0, 0, 0, 0, 0, []⟩ none 0 0) 33)) g orP := B3.alloc _
  have hgq : g < w3.heap.size := B3.lt
  have Q4 := Blk.new w3 33 (mcells ⟨2, 0, 1, 5, 1, 0, 0, 0, 0, 0, 0, 0, 0, 0, 0, []⟩ none 0 0)
  have LL4 := LL3.alloc LL3.size (.cells (mcells ⟨2, 0, 1, 5, 1, 0, 0, 0, 0, 0, 0, 0, 0, 0, 0, []⟩ none 0 0) 33)
  have u0 := Q4.cellOf (v := .int .i64 2) 0 rfl
  have u2 := Q4.cellOf (v := .int .i64 1) 2 rfl
  have u3 := Q4.cellOf (v := .int .i64 5) 3 rfl
  have u4 := Q4.cellOf (v := .int .i64 1) 4 rfl
  have hwq : w.heap.size ≤ w3.heap.size := LL3.size
  clear B2 LL2 B3 G3 LL3
  go_wp2_with (refine wpList_store_new rfl 33 (.tmp 7) (.tmp 26) rfl rfl rfl rfl rfl (by kernel_rfl) (by rw [← Array.all_toList]; rfl) ?_; generalize w3.alloc (.cells (mcells ⟨2, 0, 1, 5, 1, 0, 0, 0, 0, 0, 0, 0, 0, 0, 0, []⟩ none 0 0) 33) = w4 at *)
  clear u0 u2 u3 u4
  obtain ⟨gq, hgqd⟩ : ∃ gq, gq = w3.heap.size := ⟨_, rfl⟩
  rw [← hgqd] at Q4 hgq hwq
  simp only [← hgqd]
  clear hgqd
  go_loopw [9] (fun i wr => ∃ k : Nat, k ≤ n ∧ k ≤ 30 ∧ i = .int .i64 k ∧ PeIn wr g orP ∧ Blk wr gq 33 (mcells ⟨2, 0, 1, 5, 1, 0, 0, 0, 0, 0, 0, 0, 0, 0, 0, []⟩ none 0 0) ∧ Below w.heap.size w wr) (fun i _ => 30 - (intOf i).toNat)
  case atStart => exact ⟨0, Nat.zero_le _, Nat.zero_le _, rfl, P4, Q4, LL4⟩
  case round =>
    clear P4 Q4 LL4
    obtain ⟨k, hk, hk30, rfl, P, Q, L⟩ := hrel
    have hdone : k = n ∨ k = 30 ∨ (k < n ∧ k < 30) := by omega
    rcases hdone with hdn | hd30 | ⟨hkn, hk4⟩
    rotate_left 2
    · obtain ⟨m, B, b, bc, hM⟩ := HMS.out k hkn
      obtain ⟨ad, rfl, _, hc⟩ := (hr.below L).2 (by omega)
      have hcell : ∀ j v, (mcells m B b bc).toList[j]? = some v → wr.cell? ((ad.add (k * 16)).add j) = some v := fun j v hv => by
        rw [hM] at hv
        rw [add_of_add]
        refine hc _ _ ?_
        rw [List.getElem?_take] at hv
        split at hv
        · rwa [List.getElem?_drop] at hv
        · cases hv
      have P5 := P.alloc (.cells (mcells m B b bc) 33)
      have Q5 := Q.alloc (.cells (mcells m B b bc) 33)
      have L5 := L.alloc L.size (.cells (mcells m B b bc) 33)
      have M5 := Blk.new wr 33 (mcells m B b bc)
      have HB5 := Lib.hid (And.intro P5 (And.intro Q5 (And.intro L5 M5)))
      have HC := Lib.hid hcell
      clear hc hM hcell P Q L P5 Q5 L5 M5
      by_cases h40 : 40 < b
      · have d0 : decide ((40 : Int) < (b : Int)) = true := by simp; omega
        go_upto_if 57 with fail
        go_upto_if 84 with (first | (refine wpList_load_at rfl 33 (.tmp 62) rfl (ad.add (k * 16)) rfl (mcells m B b bc) _ HC.out Try.underlying33 rfl (by kernel_rfl) ?_) | (refine wpList_store_new (cs := mcells m B b bc) rfl 33 (.tmp 10) (.tmp 63) rfl rfl rfl rfl rfl (by kernel_rfl) (by rw [← Array.all_toList]; rfl) ?_; generalize wr.alloc (.cells (mcells m B b bc) 33) = w5 at *; (have m2 := HB5.out.2.2.2.cellOf (v := .int .i64 m.seq) 2 rfl); (have m7 := HB5.out.2.2.2.cellOf (v := .int .i64 m.to) 7 rfl); (have m8 := HB5.out.2.2.2.cellOf (v := .int .i64 m.toPort) 8 rfl); (have m12 := HB5.out.2.2.2.cellOf (v := .slice B b bc) 15 rfl); (have u2 := HB5.out.2.1.cellOf (v := .int .i64 1) 2 rfl); clear HC; go_upto_if 84 with fail))
        go_wp2_with fail
        go_roundw
        case rel => exact ⟨k + 1, by omega, by omega, by go_num, HB5.out.1, HB5.out.2.1, HB5.out.2.2.1⟩
        case measure => simp [intOf]; omega
      · have d0 : decide ((40 : Int) < (b : Int)) = false := by simp; omega
        have d0' : decide (40 < b) = false := by simp; omega
        by_cases h2 : m.seq = 1
        · have b2 : (m.seq == 1) = true := by rw [h2]; rfl
          by_cases h7 : m.to = 5
          · have b7 : (m.to == 5) = true := by rw [h7]; rfl
            by_cases h8 : m.toPort = 1
            · have b8 : (m.toPort == 1) = true := by rw [h8]; rfl
              clear h2 h7 h8 h40
              go_upto_if 57 with fail
              go_upto_if 84 with (first | (refine wpList_load_at rfl 33 (.tmp 62) rfl (ad.add (k * 16)) rfl (mcells m B b bc) _ HC.out Try.underlying33 rfl (by kernel_rfl) ?_) | (refine wpList_store_new (cs := mcells m B b bc) rfl 33 (.tmp 10) (.tmp 63) rfl rfl rfl rfl rfl (by kernel_rfl) (by rw [← Array.all_toList]; rfl) ?_; generalize wr.alloc (.cells (mcells m B b bc) 33) = w5 at *; (have m2 := HB5.out.2.2.2.cellOf (v := .int .i64 m.seq) 2 rfl); (have m7 := HB5.out.2.2.2.cellOf (v := .int .i64 m.to) 7 rfl); (have m8 := HB5.out.2.2.2.cellOf (v := .int .i64 m.toPort) 8 rfl); (have m12 := HB5.out.2.2.2.cellOf (v := .slice B b bc) 15 rfl); (have u2 := HB5.out.2.1.cellOf (v := .int .i64 1) 2 rfl); clear HC; go_upto_if 84 with fail))
              go_wp2_with fail
              go_roundw
              case rel => exact ⟨k + 1, by omega, by omega, by go_num, HB5.out.1, HB5.out.2.1, HB5.out.2.2.1⟩
              case measure => simp [intOf]; omega
            · have b8 : (m.toPort == 1) = false := beq_eq_false_iff_ne.2 h8
              clear h2 h7 h8 h40
              by_cases hat : k < n2
              · obtain ⟨t, ht⟩ := HAT.out k hat
                obtain ⟨ad2, rfl, _, hc2⟩ := (hr2.below HB5.out.2.2.1).2 (by omega)
                have hct := hc2 k _ ht
                clear hc2 ht
                go_upto_if 57 with fail
                go_upto_if 84 with (first | (refine wpList_load_at rfl 33 (.tmp 62) rfl (ad.add (k * 16)) rfl (mcells m B b bc) _ HC.out Try.underlying33 rfl (by kernel_rfl) ?_) | (refine wpList_store_new (cs := mcells m B b bc) rfl 33 (.tmp 10) (.tmp 63) rfl rfl rfl rfl rfl (by kernel_rfl) (by rw [← Array.all_toList]; rfl) ?_; generalize wr.alloc (.cells (mcells m B b bc) 33) = w5 at *; (have m2 := HB5.out.2.2.2.cellOf (v := .int .i64 m.seq) 2 rfl); (have m7 := HB5.out.2.2.2.cellOf (v := .int .i64 m.to) 7 rfl); (have m8 := HB5.out.2.2.2.cellOf (v := .int .i64 m.toPort) 8 rfl); (have m12 := HB5.out.2.2.2.cellOf (v := .slice B b bc) 15 rfl); (have u2 := HB5.out.2.1.cellOf (v := .int .i64 1) 2 rfl); clear HC; go_upto_if 84 with fail))
                go_wp2_with fail
                refine (sent_no orP g 7 t w5 HB5.out.1 (by decide)).mono ?_
                rintro e w6 ⟨rfl, rfl⟩
                go_wp2_with (refine wpList_load_row_g (by first | rfl | (go_simp; done)) 33 (.tmp 10) rfl wr.heap.size rfl 33 (mcells m B b bc) (0, 0) _ HB5.out.2.2.2 Try.underlying33 rfl (by kernel_rfl) ?_)
                refine (in_no orP g m B b bc t w5 HB5.out.1 (.inr rfl)).mono ?_
                rintro e w6 ⟨rfl, P6, L6⟩
                have Q6 := HB5.out.2.1.kept L6
                have LL6 := HB5.out.2.2.1.trans (L6.mono HB5.out.2.2.1.size)
                clear HB5 L6 m2 m7 m8 m12 u2
                go_wp2_with fail
                go_roundw
                case rel => exact ⟨k + 1, by omega, by omega, by go_num, P6, Q6, LL6⟩
                case measure => simp [intOf]; omega
              · have dat : decide ((k : Int) < (n2 : Int)) = false := by simp; omega
                go_upto_if 57 with fail
                go_upto_if 84 with (first | (refine wpList_load_at rfl 33 (.tmp 62) rfl (ad.add (k * 16)) rfl (mcells m B b bc) _ HC.out Try.underlying33 rfl (by kernel_rfl) ?_) | (refine wpList_store_new (cs := mcells m B b bc) rfl 33 (.tmp 10) (.tmp 63) rfl rfl rfl rfl rfl (by kernel_rfl) (by rw [← Array.all_toList]; rfl) ?_; generalize wr.alloc (.cells (mcells m B b bc) 33) = w5 at *; (have m2 := HB5.out.2.2.2.cellOf (v := .int .i64 m.seq) 2 rfl); (have m7 := HB5.out.2.2.2.cellOf (v := .int .i64 m.to) 7 rfl); (have m8 := HB5.out.2.2.2.cellOf (v := .int .i64 m.toPort) 8 rfl); (have m12 := HB5.out.2.2.2.cellOf (v := .slice B b bc) 15 rfl); (have u2 := HB5.out.2.1.cellOf (v := .int .i64 1) 2 rfl); clear HC; go_upto_if 84 with fail))
                go_wp2_with fail
                refine (sent_no orP g 7 0 w5 HB5.out.1 (by decide)).mono ?_
                rintro e w6 ⟨rfl, rfl⟩
                go_wp2_with (refine wpList_load_row_g (by first | rfl | (go_simp; done)) 33 (.tmp 10) rfl wr.heap.size rfl 33 (mcells m B b bc) (0, 0) _ HB5.out.2.2.2 Try.underlying33 rfl (by kernel_rfl) ?_)
                refine (in_no orP g m B b bc 0 w5 HB5.out.1 (.inr rfl)).mono ?_
                rintro e w6 ⟨rfl, P6, L6⟩
                have Q6 := HB5.out.2.1.kept L6
                have LL6 := HB5.out.2.2.1.trans (L6.mono HB5.out.2.2.1.size)
                clear HB5 L6 m2 m7 m8 m12 u2
                go_wp2_with fail
                go_roundw
                case rel => exact ⟨k + 1, by omega, by omega, by go_num, P6, Q6, LL6⟩
                case measure => simp [intOf]; omega
          · have b7 : (m.to == 5) = false := beq_eq_false_iff_ne.2 h7
            clear h2 h7 h40
            by_cases hat : k < n2
            · obtain ⟨t, ht⟩ := HAT.out k hat
              obtain ⟨ad2, rfl, _, hc2⟩ := (hr2.below HB5.out.2.2.1).2 (by omega)
              have hct := hc2 k _ ht
              clear hc2 ht
              go_upto_if 57 with fail
              go_upto_if 84 with (first | (refine wpList_load_at rfl 33 (.tmp 62) rfl (ad.add (k * 16)) rfl (mcells m B b bc) _ HC.out Try.underlying33 rfl (by kernel_rfl) ?_) | (refine wpList_store_new (cs := mcells m B b bc) rfl 33 (.tmp 10) (.tmp 63) rfl rfl rfl rfl rfl (by kernel_rfl) (by rw [← Array.all_toList]; rfl) ?_; generalize wr.alloc (.cells (mcells m B b bc) 33) = w5 at *; (have m2 := HB5.out.2.2.2.cellOf (v := .int .i64 m.seq) 2 rfl); (have m7 := HB5.out.2.2.2.cellOf (v := .int .i64 m.to) 7 rfl); (have m8 := HB5.out.2.2.2.cellOf (v := .int .i64 m.toPort) 8 rfl); (have m12 := HB5.out.2.2.2.cellOf (v := .slice B b bc) 15 rfl); (have u2 := HB5.out.2.1.cellOf (v := .int .i64 1) 2 rfl); clear HC; go_upto_if 84 with fail))
              go_wp2_with fail
              refine (sent_no orP g 7 t w5 HB5.out.1 (by decide)).mono ?_
              rintro e w6 ⟨rfl, rfl⟩
              go_wp2_with (refine wpList_load_row_g (by first | rfl | (go_simp; done)) 33 (.tmp 10) rfl wr.heap.size rfl 33 (mcells m B b bc) (0, 0) _ HB5.out.2.2.2 Try.underlying33 rfl (by kernel_rfl) ?_)
              refine (in_no orP g m B b bc t w5 HB5.out.1 (.inr rfl)).mono ?_
              rintro e w6 ⟨rfl, P6, L6⟩
              have Q6 := HB5.out.2.1.kept L6
              have LL6 := HB5.out.2.2.1.trans (L6.mono HB5.out.2.2.1.size)
              clear HB5 L6 m2 m7 m8 m12 u2
              go_wp2_with fail
              go_roundw
              case rel => exact ⟨k + 1, by omega, by omega, by go_num, P6, Q6, LL6⟩
              case measure => simp [intOf]; omega
            · have dat : decide ((k : Int) < (n2 : Int)) = false := by simp; omega
              go_upto_if 57 with fail
              go_upto_if 84 with (first | (refine wpList_load_at rfl 33 (.tmp 62) rfl (ad.add (k * 16)) rfl (mcells m B b bc) _ HC.out Try.underlying33 rfl (by kernel_rfl) ?_) | (refine wpList_store_new (cs := mcells m B b bc) rfl 33 (.tmp 10) (.tmp 63) rfl rfl rfl rfl rfl (by kernel_rfl) (by rw [← Array.all_toList]; rfl) ?_; generalize wr.alloc (.cells (mcells m B b bc) 33) = w5 at *; (have m2 := HB5.out.2.2.2.cellOf (v := .int .i64 m.seq) 2 rfl); (have m7 := HB5.out.2.2.2.cellOf (v := .int .i64 m.to) 7 rfl); (have m8 := HB5.out.2.2.2.cellOf (v := .int .i64 m.toPort) 8 rfl); (have m12 := HB5.out.2.2.2.cellOf (v := .slice B b bc) 15 rfl); (have u2 := HB5.out.2.1.cellOf (v := .int .i64 1) 2 rfl); clear HC; go_upto_if 84 with fail))
              go_wp2_with fail
              refine (sent_no orP g 7 0 w5 HB5.out.1 (by decide)).mono ?_
              rintro e w6 ⟨rfl, rfl⟩
              go_wp2_with (refine wpList_load_row_g (by first | rfl | (go_simp; done)) 33 (.tmp 10) rfl wr.heap.size rfl 33 (mcells m B b bc) (0, 0) _ HB5.out.2.2.2 Try.underlying33 rfl (by kernel_rfl) ?_)
              refine (in_no orP g m B b bc 0 w5 HB5.out.1 (.inr rfl)).mono ?_
              rintro e w6 ⟨rfl, P6, L6⟩
              have Q6 := HB5.out.2.1.kept L6
              have LL6 := HB5.out.2.2.1.trans (L6.mono HB5.out.2.2.1.size)
              clear HB5 L6 m2 m7 m8 m12 u2
              go_wp2_with fail
              go_roundw
              case rel => exact ⟨k + 1, by omega, by omega, by go_num, P6, Q6, LL6⟩
              case measure => simp [intOf]; omega
        · have b2 : (m.seq == 1) = false := beq_eq_false_iff_ne.2 h2
          clear h2 h40
          by_cases hat : k < n2
          · obtain ⟨t, ht⟩ := HAT.out k hat
            obtain ⟨ad2, rfl, _, hc2⟩ := (hr2.below HB5.out.2.2.1).2 (by omega)
            have hct := hc2 k _ ht
            clear hc2 ht
            go_upto_if 57 with fail
            go_upto_if 84 with (first | (refine wpList_load_at rfl 33 (.tmp 62) rfl (ad.add (k * 16)) rfl (mcells m B b bc) _ HC.out Try.underlying33 rfl (by kernel_rfl) ?_) | (refine wpList_store_new (cs := mcells m B b bc) rfl 33 (.tmp 10) (.tmp 63) rfl rfl rfl rfl rfl (by kernel_rfl) (by rw [← Array.all_toList]; rfl) ?_; generalize wr.alloc (.cells (mcells m B b bc) 33) = w5 at *; (have m2 := HB5.out.2.2.2.cellOf (v := .int .i64 m.seq) 2 rfl); (have m7 := HB5.out.2.2.2.cellOf (v := .int .i64 m.to) 7 rfl); (have m8 := HB5.out.2.2.2.cellOf (v := .int .i64 m.toPort) 8 rfl); (have m12 := HB5.out.2.2.2.cellOf (v := .slice B b bc) 15 rfl); (have u2 := HB5.out.2.1.cellOf (v := .int .i64 1) 2 rfl); clear HC; go_upto_if 84 with fail))
            go_wp2_with fail
            refine (sent_no orP g 7 t w5 HB5.out.1 (by decide)).mono ?_
            rintro e w6 ⟨rfl, rfl⟩
            go_wp2_with (refine wpList_load_row_g (by first | rfl | (go_simp; done)) 33 (.tmp 10) rfl wr.heap.size rfl 33 (mcells m B b bc) (0, 0) _ HB5.out.2.2.2 Try.underlying33 rfl (by kernel_rfl) ?_)
            refine (in_no orP g m B b bc t w5 HB5.out.1 (.inr rfl)).mono ?_
            rintro e w6 ⟨rfl, P6, L6⟩
            have Q6 := HB5.out.2.1.kept L6
            have LL6 := HB5.out.2.2.1.trans (L6.mono HB5.out.2.2.1.size)
            clear HB5 L6 m2 m7 m8 m12 u2
            go_wp2_with fail
            go_roundw
            case rel => exact ⟨k + 1, by omega, by omega, by go_num, P6, Q6, LL6⟩
            case measure => simp [intOf]; omega
          · have dat : decide ((k : Int) < (n2 : Int)) = false := by simp; omega
            go_upto_if 57 with fail
            go_upto_if 84 with (first | (refine wpList_load_at rfl 33 (.tmp 62) rfl (ad.add (k * 16)) rfl (mcells m B b bc) _ HC.out Try.underlying33 rfl (by kernel_rfl) ?_) | (refine wpList_store_new (cs := mcells m B b bc) rfl 33 (.tmp 10) (.tmp 63) rfl rfl rfl rfl rfl (by kernel_rfl) (by rw [← Array.all_toList]; rfl) ?_; generalize wr.alloc (.cells (mcells m B b bc) 33) = w5 at *; (have m2 := HB5.out.2.2.2.cellOf (v := .int .i64 m.seq) 2 rfl); (have m7 := HB5.out.2.2.2.cellOf (v := .int .i64 m.to) 7 rfl); (have m8 := HB5.out.2.2.2.cellOf (v := .int .i64 m.toPort) 8 rfl); (have m12 := HB5.out.2.2.2.cellOf (v := .slice B b bc) 15 rfl); (have u2 := HB5.out.2.1.cellOf (v := .int .i64 1) 2 rfl); clear HC; go_upto_if 84 with fail))
            go_wp2_with fail
            refine (sent_no orP g 7 0 w5 HB5.out.1 (by decide)).mono ?_
            rintro e w6 ⟨rfl, rfl⟩
            go_wp2_with (refine wpList_load_row_g (by first | rfl | (go_simp; done)) 33 (.tmp 10) rfl wr.heap.size rfl 33 (mcells m B b bc) (0, 0) _ HB5.out.2.2.2 Try.underlying33 rfl (by kernel_rfl) ?_)
            refine (in_no orP g m B b bc 0 w5 HB5.out.1 (.inr rfl)).mono ?_
            rintro e w6 ⟨rfl, P6, L6⟩
            have Q6 := HB5.out.2.1.kept L6
            have LL6 := HB5.out.2.2.1.trans (L6.mono HB5.out.2.2.1.size)
            clear HB5 L6 m2 m7 m8 m12 u2
            go_wp2_with fail
            go_roundw
            case rel => exact ⟨k + 1, by omega, by omega, by go_num, P6, Q6, LL6⟩
            case measure => simp [intOf]; omega
    · clear HMS HAT hr hr2
      subst hdn
      have dk : decide ((k : Int) < (k : Int)) = false := by simp
      have P5 := P.alloc (.cells (mcells orA none 0 0) 33)
      have L5 := L.alloc L.size (.cells (mcells orA none 0 0) 33)
      have A5 := Blk.new wr 33 (mcells orA none 0 0)
      have hga : wr.heap.size ≠ g := by have := P.lt; omega
      have hgaw : w.heap.size ≤ wr.heap.size := L.size
      clear P Q L
      go_wp2_with (refine wpList_store_new (cs := mcells orA none 0 0) rfl 33 (.tmp 12) (.tmp 101) rfl rfl rfl rfl rfl (by kernel_rfl) (by rw [← Array.all_toList]; rfl) ?_; generalize wr.alloc (.cells (mcells orA none 0 0) 33) = w5 at *; go_wp2_with (refine wpList_load_row_g (by first | rfl | (go_simp; done)) 33 (.tmp 12) rfl wr.heap.size rfl 33 (mcells orA none 0 0) (0, 0) _ A5 Try.underlying33 rfl (by kernel_rfl) ?_))
      refine (in_no orP g orA none 0 0 0 w5 P5 (.inr rfl)).mono ?_
      rintro e w6 ⟨rfl, P6, L6⟩
      have A6 := A5.kept L6
      have LL6 := L5.trans (L6.mono L5.size)
      clear P5 L5 A5 L6
      go_wp2_with fail
      have hsent : Calls Try.prog 45 #[.pointer (some ⟨g, 0, none⟩), .int .i64 1, .int .i64 65536000] w6 fun e w' => e = .returned (.tuple #[]) ∧ PeIn w' g orP2 ∧ w6.grownBy w' (some g) := sent_yes orP g 65536000 w6 P6 rfl
      refine hsent.mono ?_
      rintro e w7 ⟨rfl, P7, G7⟩
      have A7 := A6.keep G7 hga
      have LL7 := LL6.trans (below_one G7 LL6.size hgw)
      have lt7 : wr.heap.size < w7.heap.size := A7.lt
      have lg7 : g < w7.heap.size := P7.lt
      have hz7 := LL7.size
      have P8 := P7.alloc (.cells (mcells orA none 0 0) 33)
      have A8 := A7.alloc (.cells (mcells orA none 0 0) 33)
      have LL8 := LL7.alloc LL7.size (.cells (mcells orA none 0 0) 33)
      have B8 := Blk.new w7 33 (mcells orA none 0 0)
      clear hsent P6 A6 LL6 G7 P7 LL7
      go_wp2_with (first | (refine wpList_load_row_g (by first | rfl | (go_simp; done)) 33 (.tmp 12) rfl wr.heap.size rfl 33 (mcells orA none 0 0) (0, 0) _ A7 Try.underlying33 rfl (by kernel_rfl) ?_) | (refine wpList_store_new (cs := mcells orA none 0 0) rfl 33 (.tmp 13) (.tmp 108) rfl rfl rfl rfl rfl (by kernel_rfl) (by rw [← Array.all_toList]; rfl) ?_; generalize w7.alloc (.cells (mcells orA none 0 0) 33) = w8 at *; (have x0 := B8.cellOf (v := .int .i64 3) 0 rfl); (have x6 := B8.cellOf (v := .int .i64 327680000) 6 rfl); (have fz := B8.frozen); (have B9 : Blk ((w8.setCell ⟨w7.heap.size, 0, none⟩ (.int .i64 10)).setCell ⟨w7.heap.size, 6, none⟩ (.int .i64 393216000)) w7.heap.size 33 (mcells orB none 0 0) := (B8.set_ 0 (.int .i64 10)).set_ 6 (.int .i64 393216000)); (have HB9 := Lib.hid B9); clear B9 A7; go_wp2_with (refine wpList_load_row_g (by first | rfl | (go_simp; done)) 33 (.tmp 13) rfl w7.heap.size rfl 33 (mcells orB none 0 0) (0, 0) _ HB9.out Try.underlying33 rfl (by kernel_rfl) ?_)))
      clear x0 x6 fz
      have P9 : PeIn ((w8.setCell ⟨w7.heap.size, 0, none⟩ (.int .i64 10)).setCell ⟨w7.heap.size, 6, none⟩ (.int .i64 393216000)) g orP2 := (P8.far (p := ⟨w7.heap.size, 0, none⟩) (by show g ≠ w7.heap.size; omega) _).far (p := ⟨w7.heap.size, 6, none⟩) (by show g ≠ w7.heap.size; omega) _
      have A9 : Blk ((w8.setCell ⟨w7.heap.size, 0, none⟩ (.int .i64 10)).setCell ⟨w7.heap.size, 6, none⟩ (.int .i64 393216000)) wr.heap.size 33 (mcells orA none 0 0) := (A8.far (p := ⟨w7.heap.size, 0, none⟩) (by show wr.heap.size ≠ w7.heap.size; omega) _).far (p := ⟨w7.heap.size, 6, none⟩) (by show wr.heap.size ≠ w7.heap.size; omega) _
      have LL9 := (LL8.setCell (p := ⟨w7.heap.size, 0, none⟩) hz7 (.int .i64 10)).setCell (p := ⟨w7.heap.size, 6, none⟩) hz7 (.int .i64 393216000)
      have B9 := HB9.out
      clear HB9 P8 A8 LL8 B8
      generalize (w8.setCell ⟨w7.heap.size, 0, none⟩ (.int .i64 10)).setCell ⟨w7.heap.size, 6, none⟩ (.int .i64 393216000) = w9 at *
      refine (in_order orP2 g orB 0 w9 P9 mineB (.inr ⟨rfl, rfl⟩)).mono ?_
      rintro e w10 ⟨rfl, P10, L10⟩
      have A10 := A9.kept L10
      have B10 := B9.kept L10
      have LL10 := LL9.trans (L10.mono LL9.size)
      clear P9 A9 B9 LL9 L10
      go_wp2_with (refine wpList_load_row_g (by first | rfl | (go_simp; done)) 33 (.tmp 12) rfl wr.heap.size rfl 33 (mcells orA none 0 0) (0, 0) _ A10 Try.underlying33 rfl (by kernel_rfl) ?_)
      refine (in_half orP2 g orA 157286400 w10 P10 mineA rfl rfl).mono ?_
      rintro e w11 ⟨rfl, P11, G11⟩
      have P11 : PeIn w11 g orP3 := P11
      have A11 := A10.keep G11 hga
      have B11 := B10.keep G11 (by omega)
      have LL11 := LL10.trans (below_one G11 LL10.size hgw)
      clear P10 A10 B10 LL10 G11
      go_wp2_with (refine wpList_load_row_g (by first | rfl | (go_simp; done)) 33 (.tmp 12) rfl wr.heap.size rfl 33 (mcells orA none 0 0) (0, 0) _ A11 Try.underlying33 rfl (by kernel_rfl) ?_)
      refine (in_order orP3 g orA 9 w11 P11 mineA3 (.inl ⟨rfl, rfl⟩)).mono ?_
      rintro e w12 ⟨rfl, P12, L12⟩
      have B12 := B11.kept L12
      have LL12 := LL11.trans (L12.mono LL11.size)
      clear P11 A11 B11 LL11 L12
      go_wp2_with (refine wpList_load_row_g (by first | rfl | (go_simp; done)) 33 (.tmp 13) rfl w7.heap.size rfl 33 (mcells orB none 0 0) (0, 0) _ B12 Try.underlying33 rfl (by kernel_rfl) ?_)
      refine (in_last orP3 g orB 0 [] [(393216000, 157286400)] 1 orP3.rate orP3.delay w12 P12 (Mk.none_ _ _) mineB3 rfl rfl ⟨by decide, by decide⟩ (Reckons.first (p := orP3) rfl ⟨by decide, by decide⟩)).mono ?_
      rintro e w13 ⟨rfl, A', k', P13, M13, G13⟩
      have B13 := B12.keep G13 (by omega)
      have LL13 := LL12.trans (below_one G13 LL12.size hgw)
      clear P12 B12 LL12 M13 G13
      go_wp2_with fail
      refine (delay_run _ g w13 P13).mono ?_
      rintro e w14 ⟨rfl, rfl⟩
      rw [show (doneP orP3 A' 1 k' orP3.rate orP3.delay).delay = 0 from rfl]
      go_wp2_with (refine wpList_load_row_g (by first | rfl | (go_simp; done)) 33 (.tmp 13) rfl w7.heap.size rfl 33 (mcells orB none 0 0) (0, 0) _ B13 Try.underlying33 rfl (by kernel_rfl) ?_)
      refine (in_no (doneP orP3 A' 1 k' orP3.rate orP3.delay) g orB none 0 0 0 w13 P13 (.inl rfl)).mono ?_
      rintro e w15 ⟨rfl, P15, L15⟩
      have LL15 := LL13.trans (L15.mono LL13.size)
      clear P13 B13 LL13 P15 L15
      go_wp2_with fail
      go_ret
      exact ⟨rfl, LL15⟩
    · clear HMS HAT hr hr2
      subst hd30
      by_cases h30 : n = 30
      · subst h30
        have P5 := P.alloc (.cells (mcells orA none 0 0) 33)
        have L5 := L.alloc L.size (.cells (mcells orA none 0 0) 33)
        have A5 := Blk.new wr 33 (mcells orA none 0 0)
        have hga : wr.heap.size ≠ g := by have := P.lt; omega
        have hgaw : w.heap.size ≤ wr.heap.size := L.size
        clear P Q L
        go_wp2_with (refine wpList_store_new (cs := mcells orA none 0 0) rfl 33 (.tmp 12) (.tmp 101) rfl rfl rfl rfl rfl (by kernel_rfl) (by rw [← Array.all_toList]; rfl) ?_; generalize wr.alloc (.cells (mcells orA none 0 0) 33) = w5 at *; go_wp2_with (refine wpList_load_row_g (by first | rfl | (go_simp; done)) 33 (.tmp 12) rfl wr.heap.size rfl 33 (mcells orA none 0 0) (0, 0) _ A5 Try.underlying33 rfl (by kernel_rfl) ?_))
        refine (in_no orP g orA none 0 0 0 w5 P5 (.inr rfl)).mono ?_
        rintro e w6 ⟨rfl, P6, L6⟩
        have A6 := A5.kept L6
        have LL6 := L5.trans (L6.mono L5.size)
        clear P5 L5 A5 L6
        go_wp2_with fail
        have hsent : Calls Try.prog 45 #[.pointer (some ⟨g, 0, none⟩), .int .i64 1, .int .i64 65536000] w6 fun e w' => e = .returned (.tuple #[]) ∧ PeIn w' g orP2 ∧ w6.grownBy w' (some g) := sent_yes orP g 65536000 w6 P6 rfl
        refine hsent.mono ?_
        rintro e w7 ⟨rfl, P7, G7⟩
        have A7 := A6.keep G7 hga
        have LL7 := LL6.trans (below_one G7 LL6.size hgw)
        have lt7 : wr.heap.size < w7.heap.size := A7.lt
        have lg7 : g < w7.heap.size := P7.lt
        have hz7 := LL7.size
        have P8 := P7.alloc (.cells (mcells orA none 0 0) 33)
        have A8 := A7.alloc (.cells (mcells orA none 0 0) 33)
        have LL8 := LL7.alloc LL7.size (.cells (mcells orA none 0 0) 33)
        have B8 := Blk.new w7 33 (mcells orA none 0 0)
        clear hsent P6 A6 LL6 G7 P7 LL7
        go_wp2_with (first | (refine wpList_load_row_g (by first | rfl | (go_simp; done)) 33 (.tmp 12) rfl wr.heap.size rfl 33 (mcells orA none 0 0) (0, 0) _ A7 Try.underlying33 rfl (by kernel_rfl) ?_) | (refine wpList_store_new (cs := mcells orA none 0 0) rfl 33 (.tmp 13) (.tmp 108) rfl rfl rfl rfl rfl (by kernel_rfl) (by rw [← Array.all_toList]; rfl) ?_; generalize w7.alloc (.cells (mcells orA none 0 0) 33) = w8 at *; (have x0 := B8.cellOf (v := .int .i64 3) 0 rfl); (have x6 := B8.cellOf (v := .int .i64 327680000) 6 rfl); (have fz := B8.frozen); (have B9 : Blk ((w8.setCell ⟨w7.heap.size, 0, none⟩ (.int .i64 10)).setCell ⟨w7.heap.size, 6, none⟩ (.int .i64 393216000)) w7.heap.size 33 (mcells orB none 0 0) := (B8.set_ 0 (.int .i64 10)).set_ 6 (.int .i64 393216000)); (have HB9 := Lib.hid B9); clear B9 A7; go_wp2_with (refine wpList_load_row_g (by first | rfl | (go_simp; done)) 33 (.tmp 13) rfl w7.heap.size rfl 33 (mcells orB none 0 0) (0, 0) _ HB9.out Try.underlying33 rfl (by kernel_rfl) ?_)))
        clear x0 x6 fz
        have P9 : PeIn ((w8.setCell ⟨w7.heap.size, 0, none⟩ (.int .i64 10)).setCell ⟨w7.heap.size, 6, none⟩ (.int .i64 393216000)) g orP2 := (P8.far (p := ⟨w7.heap.size, 0, none⟩) (by show g ≠ w7.heap.size; omega) _).far (p := ⟨w7.heap.size, 6, none⟩) (by show g ≠ w7.heap.size; omega) _
        have A9 : Blk ((w8.setCell ⟨w7.heap.size, 0, none⟩ (.int .i64 10)).setCell ⟨w7.heap.size, 6, none⟩ (.int .i64 393216000)) wr.heap.size 33 (mcells orA none 0 0) := (A8.far (p := ⟨w7.heap.size, 0, none⟩) (by show wr.heap.size ≠ w7.heap.size; omega) _).far (p := ⟨w7.heap.size, 6, none⟩) (by show wr.heap.size ≠ w7.heap.size; omega) _
        have LL9 := (LL8.setCell (p := ⟨w7.heap.size, 0, none⟩) hz7 (.int .i64 10)).setCell (p := ⟨w7.heap.size, 6, none⟩) hz7 (.int .i64 393216000)
        have B9 := HB9.out
        clear HB9 P8 A8 LL8 B8
        generalize (w8.setCell ⟨w7.heap.size, 0, none⟩ (.int .i64 10)).setCell ⟨w7.heap.size, 6, none⟩ (.int .i64 393216000) = w9 at *
        refine (in_order orP2 g orB 0 w9 P9 mineB (.inr ⟨rfl, rfl⟩)).mono ?_
        rintro e w10 ⟨rfl, P10, L10⟩
        have A10 := A9.kept L10
        have B10 := B9.kept L10
        have LL10 := LL9.trans (L10.mono LL9.size)
        clear P9 A9 B9 LL9 L10
        go_wp2_with (refine wpList_load_row_g (by first | rfl | (go_simp; done)) 33 (.tmp 12) rfl wr.heap.size rfl 33 (mcells orA none 0 0) (0, 0) _ A10 Try.underlying33 rfl (by kernel_rfl) ?_)
        refine (in_half orP2 g orA 157286400 w10 P10 mineA rfl rfl).mono ?_
        rintro e w11 ⟨rfl, P11, G11⟩
        have P11 : PeIn w11 g orP3 := P11
        have A11 := A10.keep G11 hga
        have B11 := B10.keep G11 (by omega)
        have LL11 := LL10.trans (below_one G11 LL10.size hgw)
        clear P10 A10 B10 LL10 G11
        go_wp2_with (refine wpList_load_row_g (by first | rfl | (go_simp; done)) 33 (.tmp 12) rfl wr.heap.size rfl 33 (mcells orA none 0 0) (0, 0) _ A11 Try.underlying33 rfl (by kernel_rfl) ?_)
        refine (in_order orP3 g orA 9 w11 P11 mineA3 (.inl ⟨rfl, rfl⟩)).mono ?_
        rintro e w12 ⟨rfl, P12, L12⟩
        have B12 := B11.kept L12
        have LL12 := LL11.trans (L12.mono LL11.size)
        clear P11 A11 B11 LL11 L12
        go_wp2_with (refine wpList_load_row_g (by first | rfl | (go_simp; done)) 33 (.tmp 13) rfl w7.heap.size rfl 33 (mcells orB none 0 0) (0, 0) _ B12 Try.underlying33 rfl (by kernel_rfl) ?_)
        refine (in_last orP3 g orB 0 [] [(393216000, 157286400)] 1 orP3.rate orP3.delay w12 P12 (Mk.none_ _ _) mineB3 rfl rfl ⟨by decide, by decide⟩ (Reckons.first (p := orP3) rfl ⟨by decide, by decide⟩)).mono ?_
        rintro e w13 ⟨rfl, A', k', P13, M13, G13⟩
        have B13 := B12.keep G13 (by omega)
        have LL13 := LL12.trans (below_one G13 LL12.size hgw)
        clear P12 B12 LL12 M13 G13
        go_wp2_with fail
        refine (delay_run _ g w13 P13).mono ?_
        rintro e w14 ⟨rfl, rfl⟩
        rw [show (doneP orP3 A' 1 k' orP3.rate orP3.delay).delay = 0 from rfl]
        go_wp2_with (refine wpList_load_row_g (by first | rfl | (go_simp; done)) 33 (.tmp 13) rfl w7.heap.size rfl 33 (mcells orB none 0 0) (0, 0) _ B13 Try.underlying33 rfl (by kernel_rfl) ?_)
        refine (in_no (doneP orP3 A' 1 k' orP3.rate orP3.delay) g orB none 0 0 0 w13 P13 (.inl rfl)).mono ?_
        rintro e w15 ⟨rfl, P15, L15⟩
        have LL15 := LL13.trans (L15.mono LL13.size)
        clear P13 B13 LL13 P15 L15
        go_wp2_with fail
        go_ret
        exact ⟨rfl, LL15⟩
      · have h31 : 30 < n := by omega
        clear h30
        have P5 := P.alloc (.cells (mcells orA none 0 0) 33)
        have L5 := L.alloc L.size (.cells (mcells orA none 0 0) 33)
        have A5 := Blk.new wr 33 (mcells orA none 0 0)
        have hga : wr.heap.size ≠ g := by have := P.lt; omega
        have hgaw : w.heap.size ≤ wr.heap.size := L.size
        clear P Q L
        go_wp2_with (refine wpList_store_new (cs := mcells orA none 0 0) rfl 33 (.tmp 12) (.tmp 101) rfl rfl rfl rfl rfl (by kernel_rfl) (by rw [← Array.all_toList]; rfl) ?_; generalize wr.alloc (.cells (mcells orA none 0 0) 33) = w5 at *; go_wp2_with (refine wpList_load_row_g (by first | rfl | (go_simp; done)) 33 (.tmp 12) rfl wr.heap.size rfl 33 (mcells orA none 0 0) (0, 0) _ A5 Try.underlying33 rfl (by kernel_rfl) ?_))
        refine (in_no orP g orA none 0 0 0 w5 P5 (.inr rfl)).mono ?_
        rintro e w6 ⟨rfl, P6, L6⟩
        have A6 := A5.kept L6
        have LL6 := L5.trans (L6.mono L5.size)
        clear P5 L5 A5 L6
        go_wp2_with fail
        have hsent : Calls Try.prog 45 #[.pointer (some ⟨g, 0, none⟩), .int .i64 1, .int .i64 65536000] w6 fun e w' => e = .returned (.tuple #[]) ∧ PeIn w' g orP2 ∧ w6.grownBy w' (some g) := sent_yes orP g 65536000 w6 P6 rfl
        refine hsent.mono ?_
        rintro e w7 ⟨rfl, P7, G7⟩
        have A7 := A6.keep G7 hga
        have LL7 := LL6.trans (below_one G7 LL6.size hgw)
        have lt7 : wr.heap.size < w7.heap.size := A7.lt
        have lg7 : g < w7.heap.size := P7.lt
        have hz7 := LL7.size
        have P8 := P7.alloc (.cells (mcells orA none 0 0) 33)
        have A8 := A7.alloc (.cells (mcells orA none 0 0) 33)
        have LL8 := LL7.alloc LL7.size (.cells (mcells orA none 0 0) 33)
        have B8 := Blk.new w7 33 (mcells orA none 0 0)
        clear hsent P6 A6 LL6 G7 P7 LL7
        go_wp2_with (first | (refine wpList_load_row_g (by first | rfl | (go_simp; done)) 33 (.tmp 12) rfl wr.heap.size rfl 33 (mcells orA none 0 0) (0, 0) _ A7 Try.underlying33 rfl (by kernel_rfl) ?_) | (refine wpList_store_new (cs := mcells orA none 0 0) rfl 33 (.tmp 13) (.tmp 108) rfl rfl rfl rfl rfl (by kernel_rfl) (by rw [← Array.all_toList]; rfl) ?_; generalize w7.alloc (.cells (mcells orA none 0 0) 33) = w8 at *; (have x0 := B8.cellOf (v := .int .i64 3) 0 rfl); (have x6 := B8.cellOf (v := .int .i64 327680000) 6 rfl); (have fz := B8.frozen); (have B9 : Blk ((w8.setCell ⟨w7.heap.size, 0, none⟩ (.int .i64 10)).setCell ⟨w7.heap.size, 6, none⟩ (.int .i64 393216000)) w7.heap.size 33 (mcells orB none 0 0) := (B8.set_ 0 (.int .i64 10)).set_ 6 (.int .i64 393216000)); (have HB9 := Lib.hid B9); clear B9 A7; go_wp2_with (refine wpList_load_row_g (by first | rfl | (go_simp; done)) 33 (.tmp 13) rfl w7.heap.size rfl 33 (mcells orB none 0 0) (0, 0) _ HB9.out Try.underlying33 rfl (by kernel_rfl) ?_)))
        clear x0 x6 fz
        have P9 : PeIn ((w8.setCell ⟨w7.heap.size, 0, none⟩ (.int .i64 10)).setCell ⟨w7.heap.size, 6, none⟩ (.int .i64 393216000)) g orP2 := (P8.far (p := ⟨w7.heap.size, 0, none⟩) (by show g ≠ w7.heap.size; omega) _).far (p := ⟨w7.heap.size, 6, none⟩) (by show g ≠ w7.heap.size; omega) _
        have A9 : Blk ((w8.setCell ⟨w7.heap.size, 0, none⟩ (.int .i64 10)).setCell ⟨w7.heap.size, 6, none⟩ (.int .i64 393216000)) wr.heap.size 33 (mcells orA none 0 0) := (A8.far (p := ⟨w7.heap.size, 0, none⟩) (by show wr.heap.size ≠ w7.heap.size; omega) _).far (p := ⟨w7.heap.size, 6, none⟩) (by show wr.heap.size ≠ w7.heap.size; omega) _
        have LL9 := (LL8.setCell (p := ⟨w7.heap.size, 0, none⟩) hz7 (.int .i64 10)).setCell (p := ⟨w7.heap.size, 6, none⟩) hz7 (.int .i64 393216000)
        have B9 := HB9.out
        clear HB9 P8 A8 LL8 B8
        generalize (w8.setCell ⟨w7.heap.size, 0, none⟩ (.int .i64 10)).setCell ⟨w7.heap.size, 6, none⟩ (.int .i64 393216000) = w9 at *
        refine (in_order orP2 g orB 0 w9 P9 mineB (.inr ⟨rfl, rfl⟩)).mono ?_
        rintro e w10 ⟨rfl, P10, L10⟩
        have A10 := A9.kept L10
        have B10 := B9.kept L10
        have LL10 := LL9.trans (L10.mono LL9.size)
        clear P9 A9 B9 LL9 L10
        go_wp2_with (refine wpList_load_row_g (by first | rfl | (go_simp; done)) 33 (.tmp 12) rfl wr.heap.size rfl 33 (mcells orA none 0 0) (0, 0) _ A10 Try.underlying33 rfl (by kernel_rfl) ?_)
        refine (in_half orP2 g orA 157286400 w10 P10 mineA rfl rfl).mono ?_
        rintro e w11 ⟨rfl, P11, G11⟩
        have P11 : PeIn w11 g orP3 := P11
        have A11 := A10.keep G11 hga
        have B11 := B10.keep G11 (by omega)
        have LL11 := LL10.trans (below_one G11 LL10.size hgw)
        clear P10 A10 B10 LL10 G11
        go_wp2_with (refine wpList_load_row_g (by first | rfl | (go_simp; done)) 33 (.tmp 12) rfl wr.heap.size rfl 33 (mcells orA none 0 0) (0, 0) _ A11 Try.underlying33 rfl (by kernel_rfl) ?_)
        refine (in_order orP3 g orA 9 w11 P11 mineA3 (.inl ⟨rfl, rfl⟩)).mono ?_
        rintro e w12 ⟨rfl, P12, L12⟩
        have B12 := B11.kept L12
        have LL12 := LL11.trans (L12.mono LL11.size)
        clear P11 A11 B11 LL11 L12
        go_wp2_with (refine wpList_load_row_g (by first | rfl | (go_simp; done)) 33 (.tmp 13) rfl w7.heap.size rfl 33 (mcells orB none 0 0) (0, 0) _ B12 Try.underlying33 rfl (by kernel_rfl) ?_)
        refine (in_last orP3 g orB 0 [] [(393216000, 157286400)] 1 orP3.rate orP3.delay w12 P12 (Mk.none_ _ _) mineB3 rfl rfl ⟨by decide, by decide⟩ (Reckons.first (p := orP3) rfl ⟨by decide, by decide⟩)).mono ?_
        rintro e w13 ⟨rfl, A', k', P13, M13, G13⟩
        have B13 := B12.keep G13 (by omega)
        have LL13 := LL12.trans (below_one G13 LL12.size hgw)
        clear P12 B12 LL12 M13 G13
        go_wp2_with fail
        refine (delay_run _ g w13 P13).mono ?_
        rintro e w14 ⟨rfl, rfl⟩
        rw [show (doneP orP3 A' 1 k' orP3.rate orP3.delay).delay = 0 from rfl]
        go_wp2_with (refine wpList_load_row_g (by first | rfl | (go_simp; done)) 33 (.tmp 13) rfl w7.heap.size rfl 33 (mcells orB none 0 0) (0, 0) _ B13 Try.underlying33 rfl (by kernel_rfl) ?_)
        refine (in_no (doneP orP3 A' 1 k' orP3.rate orP3.delay) g orB none 0 0 0 w13 P13 (.inl rfl)).mono ?_
        rintro e w15 ⟨rfl, P15, L15⟩
        have LL15 := LL13.trans (L15.mono LL13.size)
        clear P13 B13 LL13 P15 L15
        go_wp2_with fail
        go_ret
        exact ⟨rfl, LL15⟩

/-! ### The row's step -/
set_option maxRecDepth 100000 in
theorem peerOrder_lifted (os : Os) (started : os.Started) (H : Type) (enc : TypeId × Value → H) :
    ReturnsInHanded {} Try.checked os 10 .any (Rows.peerOrderSpec.pre6 enc Try.prog Try.f10 Rows.peerOrderRow.domain false) (Rows.peerOrderSpec.post enc Try.prog Try.f10 false true false false) := by
  refine returnsInHanded_of_change (C := Try.checked) own started (by kernel_rfl) Try.func10
    (ChangeSpec.witness6 (enc := enc) (C := Try.checked) false ⟨#[], #[.slice none 0 0, .slice none 0 0], []⟩ 8 (by kernel_rfl) (by kernel_rfl) (by kernel_rfl) (by kernel_rfl)) ?_
  intro W base args ds gs before hval0 hW _ _
  have hval : ∀ (j : Nat) t v, Try.f10.params[j]? = some t → args[j]? = some v → Value.okWide Try.prog W .any base t v := hval0
  have hW' := hW
  obtain ⟨p, q, hA0, hV, rfl, hfz, hnd⟩ := hW
  have hA : DataW.TrodAll enc Try.prog W 0 (fun _ => true) true Try.f10.params.toList args.toList ds p := hA0
  rw [Try.params10] at hA hval
  obtain ⟨v0, v1, d0, d1, p0, p1, rfl, rfl, rfl, h0, h1⟩ := trodAll_two hA
  obtain ⟨A, n, c, xs, rfl, hn, hr, hms⟩ := open_msgs (hval 0 69 v0 rfl rfl) h0 (fun x hx => hW'.lt x (by simp [hx]))
  obtain ⟨A2, n2, c2, xs2, rfl, hn2, hr2, hat⟩ := open_stamps (hval 1 70 v1 rfl rfl) h1 (fun x hx => hW'.lt x (by simp [hx]))
  exact law_post laidOut (by kernel_rfl) rfl (by kernel_rfl) Try.underlying4 rfl hW' (peerOrder_calls A A2 n c n2 c2 xs xs2 W hn hn2 hr hr2 hms hat)

theorem peerOrder_holds : Rows.PeerOrderSaid :=
  OpenClaim.holds_of_wide 10 Try.f10 rfl rfl rfl rfl rfl rfl rfl ⟨rfl, rfl, rfl, rfl, rfl⟩ rfl rfl rfl rfl rfl (by kernel_rfl) Try.func10 (by kernel_rfl)
    (of_decide_eq_true (by kernel_rfl)) (by unfold Func.isWrapper; first | (rw [if_pos (by decide +kernel)]; kernel_rfl) | (rw [if_neg (by decide +kernel)]; exact ⟨rfl, rfl⟩))
    (fun os started H enc _ => peerOrder_lifted os started H enc)

#print axioms peerOrder_holds
end Go.Proofs.Ytbkflmeijjcnhaa
