/-
  PeerAnswers: for any setup, message and times the law returns true: a message is answered just if it is a question that is right; the arguments read as they did. No condition.
-/
import Derived.Test.YtbkflmeijjcnhaaPeerQ
namespace Go.Proofs.Ytbkflmeijjcnhaa
set_option linter.unusedSimpArgs false
set_option linter.unusedVariables false
open Go.RowKit Go.WideShapes Go.ChangeShapes
attribute [local go_sem ↓] Go.wp_at_zero Go.wp_at_succ

set_option maxHeartbeats 2000000 in
set_option maxRecDepth 100000 in
theorem open_conf {H : Type} {enc : TypeId × Value → H} {W : World} {v : Value} {d : DataW H} {p : List MemPlace} {b0 : Nat} (hv : Value.okWide Try.prog W .any b0 75 v)
    (h : DataW.Trod enc Try.prog W 0 (fun _ => true) true 75 v d p) (hlt : ∀ x ∈ p, x.block < W.heap.size) : ∃ c : Cf, v = .agg (cfc c) := by
  obtain ⟨cs, rfl, hsz⟩ := okWide_struct Try.underlying75 hv
  obtain ⟨fuel, hf⟩ := h
  have ha := trod_flat (Q := fun p => p.block < W.heap.size) 5 75 [3, 3, 28, 28, 3, 3] (by kernel_rfl) fuel _ _ (by simpa [Value.cells] using hf) hlt
  obtain ⟨l⟩ := cs
  match l, ha with
  | [c0, c1, c2, c3, c4, c5], ⟨h0, h1, h2, h3, h4, h5, _⟩ =>
    obtain ⟨n0, rfl, w0⟩ := h0.i64 Try.underlying3
    obtain ⟨n1, rfl, w1⟩ := h1.i64 Try.underlying3
    obtain ⟨n2, rfl, w2⟩ := h2.i64 Try.underlying28
    obtain ⟨n3, rfl, w3⟩ := h3.i64 Try.underlying28
    obtain ⟨n4, rfl, w4⟩ := h4.i64 Try.underlying3
    obtain ⟨n5, rfl, w5⟩ := h5.i64 Try.underlying3
    exact ⟨⟨n0, n1, n2, n3, n4, n5⟩, rfl⟩
theorem ans_right {c : Cf} (hc : c.Right) {m : Mg} (hm : checkV m = 0) (at_ : Int) : checkV (ansM (peNew c) m at_) = 0 := by
  have R := check_zero.1 hm
  have r := R.range
  simp only [Mg.inRange, okN_cons, okN_nil, ids, Bool.and_true, decide_eq_true_eq, Bool.and_eq_true] at r
  have h1 := hc.id
  have h2 := hc.port
  refine check_zero.2 ⟨by simp [Known, ansM], ?_, ?_, fun _ => ⟨rfl, rfl, rfl, rfl, rfl, rfl⟩, by show (0 : Nat) ≤ 32; omega, rfl⟩
  · refine ⟨⟨rfl, ?_, ?_⟩, rfl, rfl⟩
    · show okN 65535 [m.seq, c.port, m.port] = true
      simp only [okN_cons, okN_nil, Bool.and_true, decide_eq_true_eq, Bool.and_eq_true]; omega
    · show okN ids [c.id, m.src] = true
      simp only [okN_cons, okN_nil, ids, Bool.and_true, decide_eq_true_eq, Bool.and_eq_true]; omega
  · exact ⟨fun h => absurd rfl h, fun _ => rfl⟩
theorem more_right' {m : Mg} (hk : m.kind = 3) (hm : checkV m = 0) (then_ : Int) : checkV (moreOf m then_) = 0 := by
  have R := check_zero.1 hm
  have b := R.bare (by rw [hk]; decide)
  have a := R.apt.2 (by rw [hk]; decide)
  exact check_zero.2 ⟨by simp [Known, moreOf], R.range, ⟨fun _ h => absurd rfl h, fun _ => a⟩, fun _ => b, R.few, R.ids⟩
set_option maxRecDepth 100000 in
set_option maxHeartbeats 16000000 in
theorem peerAnswers_calls (c : Cf) (m : Mg) (A : Option Addr) (n cc : Nat) (at_ then_ : Int) (w : World) (hm : MsgIn w w.heap.size m A n) (hnk : n ≤ maxLen) :
    Calls Try.prog 14 #[.agg (cfc c), .agg (mcells m A n cc), .int .i64 at_, .int .i64 then_] w fun e w' => e = .returned (.bool true) ∧ Below w.heap.size w w' := by
  have C0 := Blk.new w 75 (cfc c)
  have L0 := (Below.refl w.heap.size w).alloc (Nat.le_refl _) (.cells (cfc c) 75)
  obtain ⟨w0, hw0⟩ : ∃ w0, w0 = w.alloc (.cells (cfc c) 75) := ⟨_, rfl⟩
  have hz0 : w.heap.size < w0.heap.size := by rw [hw0]; simp
  rw [← hw0] at C0 L0
  have C1 := C0.alloc (.cells (mcells m A n cc) 33)
  have L1 := L0.alloc L0.size (.cells (mcells m A n cc) 33)
  have M1 := Blk.new w0 33 (mcells m A n cc)
  obtain ⟨w1, hw1⟩ : ∃ w1, w1 = w0.alloc (.cells (mcells m A n cc) 33) := ⟨_, rfl⟩
  have hz1 : w0.heap.size < w1.heap.size := by rw [hw1]; simp
  rw [← hw1] at C1 L1 M1
  have hm1 := hm
  have hw0' : w.alloc (.cells #[.int .i64 c.id, .int .i64 c.port, .int .i64 c.most, .int .i64 c.slack, .int .i64 c.window, .int .i64 c.lost] 75) = w0 := hw0.symm
  have hw1' : w0.alloc (.cells (mcells m A n cc) 33) = w1 := hw1.symm
  have HM := Lib.hid hm
  clear hw0 hw1 C0 L0 hm hm1
  rw [show (#[Value.agg (cfc c), .agg (mcells m A n cc), .int .i64 at_, .int .i64 then_] : Array Value) = #[.agg #[.int .i64 c.id, .int .i64 c.port, .int .i64 c.most, .int .i64 c.slack, .int .i64 c.window, .int .i64 c.lost], .agg (mcells m A n cc), .int .i64 at_, .int .i64 then_] from rfl]
  go_enter Try.func14, Try.ntmps14
  go_wp2_with fail
  refine (head17 _).mono ?_
  rintro e w2 ⟨rfl, L2⟩
  have LL2 := L1.trans (L2.mono L1.size)
  have C2 := C1.kept L2
  have M2 := M1.kept L2
  clear C1 M1 L1 L2 hw0' hw1'
  by_cases hR : c.Right
  · have hA := answer_kind
    obtain ⟨HR⟩ : Nonempty (Hid (c.Right)) := ⟨Lib.hid hR⟩
    clear hR hA
    go_wp2_with (refine wpList_load_row_g (by first | rfl | (go_simp; done)) 75 (.tmp 4) rfl w.heap.size rfl 75 (cfc c) (0, 0) _ C2 Try.underlying75 rfl (by kernel_rfl) ?_)
    refine (penew_ok c HR.out w2).mono ?_
    rintro e w3 ⟨g, rfl, P3, hg3, L3⟩
    have C3 := C2.kept L3
    have M3 := M2.kept L3
    have LL3 := LL2.trans (L3.mono LL2.size)
    have m15 := M3.cellOf (v := .slice A n cc) 15 rfl
    clear C2 M2 LL2 L3
    by_cases h40 : 40 < n
    · have d : decide ((40 : Int) < (n : Int)) = true := by simp; omega
      have HC := Lib.hid (fun W => cfcheck_ok c HR.out W)
      go_wp2_with (refine wpList_load_row_g (by first | rfl | (go_simp; done)) 75 (.tmp 4) rfl w.heap.size rfl 75 (cfc c) (0, 0) _ C3 Try.underlying75 rfl (by kernel_rfl) ?_)
      refine (HC.out w3).mono ?_
      rintro e w4 ⟨rfl, L4⟩
      have LL4 := LL3.trans (L4.mono LL3.size)
      clear C3 M3 LL3 L4 P3 m15 d h40 HC
      go_wp2_with fail
      go_ret
      exact ⟨rfl, LL4⟩
    · have d : decide ((40 : Int) < (n : Int)) = false := by simp; omega
      have hm3 : MsgIn w3 w3.heap.size m A n := (HM.out.below LL3).more LL3.size
      have x0' := M3.cellOf (v := .int .i64 m.kind) 0 rfl
      by_cases hk : m.kind = 2
      · have HK := Lib.hid hk
        by_cases hc : checkV m = 0
        · obtain ⟨a, hA⟩ : ∃ a, a = ansM (peNew c) m at_ := ⟨_, rfl⟩
          obtain ⟨b, hB⟩ : ∃ b, b = moreOf a then_ := ⟨_, rfl⟩
          have ra : checkV a = 0 := by rw [hA]; exact ans_right HR.out hc at_
          have ka : a.kind = 3 := by rw [hA]; rfl
          have pa : a.path = [] := by rw [hA]; rfl
          have rb : checkV b = 0 := by rw [hB]; exact more_right' ka ra then_
          have pb : b.path = [] := by rw [hB]; exact pa
          have HC0 := Lib.hid (fun W => fun (h : MsgIn W W.heap.size m A n) => show Calls Try.prog 56 #[.agg (mcells m A n cc)] W fun e w' => e = .returned (.int .i64 0) ∧ Below W.heap.size W w' by have := check_m m A n cc W h.reads h.len h.most; rw [hc] at this; exact this)
          have HCa := Lib.hid (fun W => show Calls Try.prog 56 #[.agg (mcells a none 0 0)] W fun e w' => e = .returned (.int .i64 0) ∧ Below W.heap.size W w' by have h : MsgIn W W.heap.size a none 0 := MsgIn.bare pa; have := check_m a none 0 0 W h.reads h.len h.most; rw [ra] at this; exact this)
          have HCb := Lib.hid (fun W => show Calls Try.prog 56 #[.agg (mcells b none 0 0)] W fun e w' => e = .returned (.int .i64 0) ∧ Below W.heap.size W w' by have h : MsgIn W W.heap.size b none 0 := MsgIn.bare pb; have := check_m b none 0 0 W h.reads h.len h.most; rw [rb] at this; exact this)
          have HMo : Hid (∀ W, Calls Try.prog 57 #[.pointer (some ⟨g, 0, none⟩), .agg (mcells a none 0 0), .int .i64 then_] W fun e w' => e = .returned (.tuple #[.agg (mcells b none 0 0), .bool true]) ∧ Below W.heap.size W w') := Lib.hid fun W => by rw [hB]; exact more_yes g a then_ W pa ka ra
          have hans := answer_yes (peNew c) g m A n cc at_ w3 P3 hm3 hk hc
          rw [← hA] at hans
          have HA := Lib.hid hA
          have HB := Lib.hid hB
          have HANS := Lib.hid hans
          clear hA hB ra ka pa rb pb hans hk hc
          go_wp2_with (refine wpList_load_row_g (by first | rfl | (go_simp; done)) 33 (.tmp 5) rfl w0.heap.size rfl 33 (mcells m A n cc) (0, 0) _ M3 Try.underlying33 rfl (by kernel_rfl) ?_)
          refine HANS.out.mono ?_
          rintro e w4 ⟨rfl, L4⟩
          clear HANS
          have ha := HA.out
          have M4 := M3.kept L4
          have C4 := C3.kept L4
          have LL4 := LL3.trans (L4.mono LL3.size)
          have A5 := Blk.new w4 33 (mcells a none 0 0)
          have M5 := M4.alloc (.cells (mcells a none 0 0) 33)
          have C5 := C4.alloc (.cells (mcells a none 0 0) 33)
          have LL5 := LL4.alloc LL4.size (.cells (mcells a none 0 0) 33)
          have hm5 : Hid (MsgIn (w4.alloc (.cells (mcells a none 0 0) 33)) (w4.alloc (.cells (mcells a none 0 0) 33)).heap.size m A n) := Lib.hid ((HM.out.below LL5).more LL5.size)
          clear C3 M3 LL3 L4 P3 hm3 M4 C4 LL4 m15 x0' ha
          go_wp2_with (refine wpList_store_new (cs := mcells a none 0 0) rfl 33 (.tmp 11) (.tmp 43) rfl rfl rfl rfl rfl (by kernel_rfl) (by rw [← Array.all_toList]; rfl) ?_; generalize w4.alloc (.cells (mcells a none 0 0) 33) = w5 at *; (have x0 := M5.cellOf (v := .int .i64 2) 0 (by rw [← HK.out]; rfl)); go_wp2_with (refine wpList_load_row_g (by first | rfl | (go_simp; done)) 33 (.tmp 5) rfl w0.heap.size rfl 33 (mcells m A n cc) (0, 0) _ M5 Try.underlying33 rfl (by kernel_rfl) ?_))
          refine (HC0.out w5 hm5.out).mono ?_
          rintro e w6 ⟨rfl, L6⟩
          have A6 := A5.kept L6
          have M6 := M5.kept L6
          have C6 := C5.kept L6
          have LL6 := LL5.trans (L6.mono LL5.size)
          clear A5 M5 C5 LL5 L6 hm5 x0
          go_wp2_with (refine wpList_load_row_g (by first | rfl | (go_simp; done)) 33 (.tmp 11) rfl w4.heap.size rfl 33 (mcells a none 0 0) (0, 0) _ A6 Try.underlying33 rfl (by kernel_rfl) ?_)
          refine (HCa.out w6).mono ?_
          rintro e w7 ⟨rfl, L7⟩
          have A7 := A6.kept L7
          have M7 := M6.kept L7
          have C7 := C6.kept L7
          have LL7 := LL6.trans (L7.mono LL6.size)
          clear A6 M6 C6 LL6 L7
          have a0 := A7.cellOf (v := .int .i64 3) 0 (by rw [HA.out]; rfl)
          have a2 := A7.cellOf (v := .int .i64 m.seq) 2 (by rw [HA.out]; rfl)
          have a3 := A7.cellOf (v := .int .i64 c.id) 3 (by rw [HA.out]; rfl)
          have a4 := A7.cellOf (v := .int .i64 c.port) 4 (by rw [HA.out]; rfl)
          have a6 := A7.cellOf (v := .int .i64 at_) 6 (by rw [HA.out]; rfl)
          have a7 := A7.cellOf (v := .int .i64 m.src) 7 (by rw [HA.out]; rfl)
          have a8 := A7.cellOf (v := .int .i64 m.port) 8 (by rw [HA.out]; rfl)
          have m2 := M7.cellOf (v := .int .i64 m.seq) 2 rfl
          have m3 := M7.cellOf (v := .int .i64 m.src) 3 rfl
          have m4 := M7.cellOf (v := .int .i64 m.port) 4 rfl
          have c0 := C7.cellOf (v := .int .i64 c.id) 0 rfl
          have c1 := C7.cellOf (v := .int .i64 c.port) 1 rfl
          go_wp2_with (refine wpList_load_row_g (by first | rfl | (go_simp; done)) 33 (.tmp 11) rfl w4.heap.size rfl 33 (mcells a none 0 0) (0, 0) _ A7 Try.underlying33 rfl (by kernel_rfl) ?_)
          clear a0 a2 a3 a4 a6 a7 a8 m2 m3 m4 c0 c1
          refine (HMo.out w7).mono ?_
          rintro e w8 ⟨rfl, L8⟩
          have A8 := A7.kept L8
          have M8 := M7.kept L8
          have LL8 := LL7.trans (L8.mono LL7.size)
          have B9 := Blk.new w8 33 (mcells b none 0 0)
          have A9 := A8.alloc (.cells (mcells b none 0 0) 33)
          have M9 := M8.alloc (.cells (mcells b none 0 0) 33)
          have LL9 := LL8.alloc LL8.size (.cells (mcells b none 0 0) 33)
          clear A7 M7 C7 LL7 L8 A8 M8 LL8
          go_wp2_with (refine wpList_store_new (cs := mcells b none 0 0) rfl 33 (.tmp 13) (.tmp 119) rfl rfl rfl rfl rfl (by kernel_rfl) (by rw [← Array.all_toList]; rfl) ?_; generalize w8.alloc (.cells (mcells b none 0 0) 33) = w9 at *; go_wp2_with (refine wpList_load_row_g (by first | rfl | (go_simp; done)) 33 (.tmp 5) rfl w0.heap.size rfl 33 (mcells m A n cc) (0, 0) _ M9 Try.underlying33 rfl (by kernel_rfl) ?_))
          refine (more_kind g m A n cc then_ w9 (by rw [HK.out]; decide)).mono ?_
          rintro e w10 ⟨rfl, L10⟩
          have A10 := A9.kept L10
          have B10 := B9.kept L10
          have LL10 := LL9.trans (L10.mono LL9.size)
          have A11 := A10.alloc (.cells (mcells zeroM none 0 0) 33)
          have B11 := B10.alloc (.cells (mcells zeroM none 0 0) 33)
          have LL11 := LL10.alloc LL10.size (.cells (mcells zeroM none 0 0) 33)
          clear A9 B9 M9 LL9 L10 A10 B10 LL10
          go_wp2_with (refine wpList_store_new (cs := mcells zeroM none 0 0) rfl 33 (.tmp 15) (.tmp 126) rfl rfl rfl rfl rfl (by kernel_rfl) (by rw [← Array.all_toList]; rfl) ?_; generalize w10.alloc (.cells (mcells zeroM none 0 0) 33) = w11 at *; go_wp2_with (refine wpList_load_row_g (by first | rfl | (go_simp; done)) 33 (.tmp 13) rfl w8.heap.size rfl 33 (mcells b none 0 0) (0, 0) _ B11 Try.underlying33 rfl (by kernel_rfl) ?_))
          refine (more_kind g b none 0 0 then_ w11 (by rw [HB.out]; exact (by decide : (10 : Int) ≠ 3))).mono ?_
          rintro e w12 ⟨rfl, L12⟩
          have A12 := A11.kept L12
          have B12 := B11.kept L12
          have LL12 := LL11.trans (L12.mono LL11.size)
          have A13 := A12.alloc (.cells (mcells zeroM none 0 0) 33)
          have B13 := B12.alloc (.cells (mcells zeroM none 0 0) 33)
          have LL13 := LL12.alloc LL12.size (.cells (mcells zeroM none 0 0) 33)
          clear A11 B11 LL11 L12 A12 B12 LL12
          go_wp2_with (refine wpList_store_new (cs := mcells zeroM none 0 0) rfl 33 (.tmp 17) (.tmp 133) rfl rfl rfl rfl rfl (by kernel_rfl) (by rw [← Array.all_toList]; rfl) ?_; generalize w12.alloc (.cells (mcells zeroM none 0 0) 33) = w13 at *; (have b0 := B13.cellOf (v := .int .i64 10) 0 (by rw [HB.out]; rfl)); (have b6 := B13.cellOf (v := .int .i64 then_) 6 (by rw [HB.out]; rfl)); (have b2 := B13.cellOf (v := .int .i64 m.seq) 2 (by rw [HB.out, HA.out]; rfl)); (have b7 := B13.cellOf (v := .int .i64 m.src) 7 (by rw [HB.out, HA.out]; rfl)); (have b8 := B13.cellOf (v := .int .i64 m.port) 8 (by rw [HB.out, HA.out]; rfl)); (have a2 := A13.cellOf (v := .int .i64 m.seq) 2 (by rw [HA.out]; rfl)); (have a7 := A13.cellOf (v := .int .i64 m.src) 7 (by rw [HA.out]; rfl)); (have a8 := A13.cellOf (v := .int .i64 m.port) 8 (by rw [HA.out]; rfl)); go_wp2_with (refine wpList_load_row_g (by first | rfl | (go_simp; done)) 33 (.tmp 13) rfl w8.heap.size rfl 33 (mcells b none 0 0) (0, 0) _ B13 Try.underlying33 rfl (by kernel_rfl) ?_))
          refine (HCb.out w13).mono ?_
          rintro e w14 ⟨rfl, L14⟩
          have LL14 := LL13.trans (L14.mono LL13.size)
          clear A13 B13 LL13 L14
          go_wp2_with fail
          go_ret
          exact ⟨rfl, LL14⟩
        · go_wp2_with (refine wpList_load_row_g (by first | rfl | (go_simp; done)) 33 (.tmp 5) rfl w0.heap.size rfl 33 (mcells m A n cc) (0, 0) _ M3 Try.underlying33 rfl (by kernel_rfl) ?_)
          refine (answer_check g m A n cc at_ w3 hm3 hk hc).mono ?_
          rintro e w4 ⟨rfl, L4⟩
          have bcv : (checkV m == 0) = false := beq_eq_false_iff_ne.2 hc
          clear hk hc
          have M4 := M3.kept L4
          have LL4 := LL3.trans (L4.mono LL3.size)
          have Z5 := Blk.new w4 33 (mcells zeroM none 0 0)
          have M5 := M4.alloc (.cells (mcells zeroM none 0 0) 33)
          have LL5 := LL4.alloc LL4.size (.cells (mcells zeroM none 0 0) 33)
          have hm5 : Hid (MsgIn (w4.alloc (.cells (mcells zeroM none 0 0) 33)) (w4.alloc (.cells (mcells zeroM none 0 0) 33)).heap.size m A n) := Lib.hid ((HM.out.below LL5).more LL5.size)
          clear C3 M3 LL3 L4 P3 hm3 M4 LL4 m15 x0'
          go_wp2_with (refine wpList_store_new (cs := mcells zeroM none 0 0) rfl 33 (.tmp 11) (.tmp 43) rfl rfl rfl rfl rfl (by kernel_rfl) (by rw [← Array.all_toList]; rfl) ?_; generalize w4.alloc (.cells (mcells zeroM none 0 0) 33) = w5 at *; (have x0 := M5.cellOf (v := .int .i64 2) 0 (by rw [← HK.out]; rfl)); (have z0 := Z5.cellOf (v := .int .i64 0) 0 rfl); (have z2 := Z5.cellOf (v := .int .i64 0) 2 rfl); go_wp2_with (refine wpList_load_row_g (by first | rfl | (go_simp; done)) 33 (.tmp 5) rfl w0.heap.size rfl 33 (mcells m A n cc) (0, 0) _ M5 Try.underlying33 rfl (by kernel_rfl) ?_))
          refine (check_m m A n cc w5 hm5.out.reads hm5.out.len hm5.out.most).mono ?_
          rintro e w6 ⟨rfl, L6⟩
          have Z6 := Z5.kept L6
          have z0 := Z6.cellOf (v := .int .i64 0) 0 rfl
          have z2 := Z6.cellOf (v := .int .i64 0) 2 rfl
          have LL6 := LL5.trans (L6.mono LL5.size)
          clear Z5 M5 LL5 L6 Z6
          generalize checkV m = cv at *
          go_wp2_with fail
          go_ret
          exact ⟨rfl, LL6⟩
      · go_wp2_with (refine wpList_load_row_g (by first | rfl | (go_simp; done)) 33 (.tmp 5) rfl w0.heap.size rfl 33 (mcells m A n cc) (0, 0) _ M3 Try.underlying33 rfl (by kernel_rfl) ?_)
        refine (answer_kind g m A n cc at_ w3 hk).mono ?_
        rintro e w4 ⟨rfl, L4⟩
        have bk : (m.kind == 2) = false := beq_eq_false_iff_ne.2 hk
        clear hk
        have M4 := M3.kept L4
        have LL4 := LL3.trans (L4.mono LL3.size)
        have Z5 := Blk.new w4 33 (mcells zeroM none 0 0)
        have M5 := M4.alloc (.cells (mcells zeroM none 0 0) 33)
        have LL5 := LL4.alloc LL4.size (.cells (mcells zeroM none 0 0) 33)
        clear C3 M3 LL3 L4 P3 hm3 M4 LL4 m15 x0'
        go_wp2_with (refine wpList_store_new (cs := mcells zeroM none 0 0) rfl 33 (.tmp 11) (.tmp 43) rfl rfl rfl rfl rfl (by kernel_rfl) (by rw [← Array.all_toList]; rfl) ?_; generalize w4.alloc (.cells (mcells zeroM none 0 0) 33) = w5 at *; (have x0 := M5.cellOf (v := .int .i64 m.kind) 0 rfl); (have z0 := Z5.cellOf (v := .int .i64 0) 0 rfl); (have z2 := Z5.cellOf (v := .int .i64 0) 2 rfl); go_wp2_with fail)
        go_ret
        exact ⟨rfl, LL5⟩
  · have HC := Lib.hid (fun W => cfcheck_bad c hR W)
    have HN := Lib.hid (penew_bad c hR w2)
    clear hR
    go_wp2_with (refine wpList_load_row_g (by first | rfl | (go_simp; done)) 75 (.tmp 4) rfl w.heap.size rfl 75 (cfc c) (0, 0) _ C2 Try.underlying75 rfl (by kernel_rfl) ?_)
    refine HN.out.mono ?_
    rintro e w3 ⟨rfl, L3⟩
    have C3 := C2.kept L3
    have LL3 := LL2.trans (L3.mono LL2.size)
    clear C2 M2 LL2 L3 HN
    go_wp2_with (refine wpList_load_row_g (by first | rfl | (go_simp; done)) 75 (.tmp 4) rfl w.heap.size rfl 75 (cfc c) (0, 0) _ C3 Try.underlying75 rfl (by kernel_rfl) ?_)
    refine (HC.out w3).mono ?_
    rintro e w4 ⟨rfl, L4⟩
    have LL4 := LL3.trans (L4.mono LL3.size)
    clear C3 LL3 L4 HC
    go_wp2_with fail
    go_ret
    exact ⟨rfl, LL4⟩

/-! ### The row's step -/
set_option maxRecDepth 100000 in
theorem peerAnswers_lifted (os : Os) (started : os.Started) (H : Type) (enc : TypeId × Value → H) :
    ReturnsInHanded {} Try.checked os 14 .any (Rows.peerAnswersSpec.pre6 enc Try.prog Try.f14 Rows.peerAnswersRow.domain false) (Rows.peerAnswersSpec.post enc Try.prog Try.f14 false true false false) := by
  refine returnsInHanded_of_change (C := Try.checked) own started (by kernel_rfl) Try.func14
    (ChangeSpec.witness6 (enc := enc) (C := Try.checked) false ⟨#[], #[.agg (cfc conf0), .agg (mcells zeroM none 0 0), .int .i64 0, .int .i64 0], []⟩ 8 (by kernel_rfl) (by kernel_rfl) (by kernel_rfl) (by kernel_rfl)) ?_
  intro W base args ds gs before hval0 hW _ _
  have hval : ∀ (j : Nat) t v, Try.f14.params[j]? = some t → args[j]? = some v → Value.okWide Try.prog W .any base t v := hval0
  have hW' := hW
  obtain ⟨p, q, hA0, hV, rfl, hfz, hnd⟩ := hW
  have hA : DataW.TrodAll enc Try.prog W 0 (fun _ => true) true Try.f14.params.toList args.toList ds p := hA0
  rw [Try.params14] at hA hval
  obtain ⟨v0, v1, v2, v3, d0, d1, d2, d3, p0, p1, p2, p3, rfl, rfl, rfl, h0, h1, h2, h3⟩ := trodAll_four hA
  obtain ⟨c, rfl⟩ := open_conf (hval 0 75 v0 rfl rfl) h0 (fun x hx => hW'.lt x (by simp [hx]))
  obtain ⟨m, A, n, cc, rfl, hn, hl, hr, _⟩ := open_msg (hval 1 33 v1 rfl rfl) h1 (fun x hx => hW'.lt x (by simp [hx]))
  obtain ⟨x3, rfl⟩ := okWide_int Try.underlying28 (hval 2 28 v2 rfl rfl)
  obtain ⟨x4, rfl⟩ := okWide_int Try.underlying28 (hval 3 28 v3 rfl rfl)
  exact law_post laidOut (by kernel_rfl) rfl (by kernel_rfl) Try.underlying4 rfl hW' (peerAnswers_calls c m A n cc x3 x4 W ⟨hr, hl, hn⟩ hn)

theorem peerAnswers_holds : Rows.PeerAnswersSaid :=
  OpenClaim.holds_of_wide 14 Try.f14 rfl rfl rfl rfl rfl rfl rfl ⟨rfl, rfl, rfl, rfl, rfl⟩ rfl rfl rfl rfl rfl (by kernel_rfl) Try.func14 (by kernel_rfl)
    (of_decide_eq_true (by kernel_rfl)) (by unfold Func.isWrapper; first | (rw [if_pos (by decide +kernel)]; kernel_rfl) | (rw [if_neg (by decide +kernel)]; exact ⟨rfl, rfl⟩))
    (fun os started H enc _ => peerAnswers_lifted os started H enc)

#print axioms peerAnswers_holds
end Go.Proofs.Ytbkflmeijjcnhaa
