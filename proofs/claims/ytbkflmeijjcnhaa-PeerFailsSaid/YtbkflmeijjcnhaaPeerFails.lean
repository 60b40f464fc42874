/-
  PeerFails: for any two numbers the law returns true: answers that fail in a row are as many as may be till nothing is known any more; one that is right begins anew. No condition.
-/
import Derived.Test.YtbkflmeijjcnhaaPeerH
namespace Go.Proofs.Ytbkflmeijjcnhaa
set_option linter.unusedSimpArgs false
set_option linter.unusedVariables false
open Go.RowKit Go.WideShapes Go.ChangeShapes
attribute [local go_sem ↓] Go.wp_at_zero Go.wp_at_succ

set_option maxRecDepth 100000 in
set_option maxHeartbeats 2000000 in
theorem at_k (k T : Int) (hk : 0 ≤ k ∧ k ≤ 20) (hT : T = 655360000 * k) (w : World) : Calls Try.prog 52 #[.int .i64 k] w fun e w' => e = .returned (.agg #[.int .i64 (T + 65536000), .int .i64 (T + 327680000), .int .i64 (T + 393216000), .int .i64 (T + 157286400)]) ∧ Below w.heap.size w w' := by
  have f1 : IntKind.i64.wrap (10000 * k) = 10000 * k := wrap_of (by omega) (by omega)
  have f2 : IntKind.i64.wrap (10000 * k * 65536) = T := by rw [show 10000 * k * 65536 = T by omega]; exact wrap_of (by omega) (by omega)
  have f3 : IntKind.i64.wrap (T + 65536000) = T + 65536000 := wrap_of (by omega) (by omega)
  have f4 : IntKind.i64.wrap (T + 327680000) = T + 327680000 := wrap_of (by omega) (by omega)
  have f5 : IntKind.i64.wrap (T + 393216000) = T + 393216000 := wrap_of (by omega) (by omega)
  have f6 : IntKind.i64.wrap (T + 157286400) = T + 157286400 := wrap_of (by omega) (by omega)
  clear hk hT
  go_enter Try.func52, Try.ntmps52
  go_wp2_with fail
  refine bodyPost_ret (v := .agg #[.int .i64 (T + 65536000), .int .i64 (T + 327680000), .int .i64 (T + 393216000), .int .i64 (T + 157286400)]) (by simp [results, Try.results52, go_sem]) rfl ⟨rfl, ?_⟩
  exact (Below.refl _ _).alloc (Nat.le_refl _) _
def cL (l : Int) : Cf := { conf0 with lost := l }
theorem cL_ex {l : Int} (h : 1 ≤ l ∧ l ≤ 8) : Ex (cL l) := ⟨⟨conf0_right.id, conf0_right.port, conf0_right.most, conf0_right.slack, conf0_right.window, ⟨by show 1 ≤ l; omega, by show l ≤ 100; omega⟩⟩, rfl, rfl, rfl⟩
/-- So many questions were asked without an answer, and the marks are kept. -/
structure FlK (l : Int) (p : Pe) (j : Nat) : Prop where
  cf : p.cf = cL l
  wf : p.Wf
  asked : p.asked = decide (1 ≤ j)
  bad : p.bad = ((j - 1 : Nat) : Int)
  mn : p.mn = 2
  delay : p.delay = 13107200
/-- Nothing is known any more. -/
structure FlN (l : Int) (p : Pe) : Prop where
  cf : p.cf = cL l
  wf : p.Wf
  asked : p.asked = true
  bad : p.bad = l
  mn : p.mn = 0
  delay : p.delay = 0
theorem askP_wf {p : Pe} (h : p.Wf) : (askP p).Wf := by
  refine ⟨by rw [askP_cf]; exact h.right, ?_, askP_good h, ?_, fun ha => by rw [askP_asked] at ha; cases ha⟩
  · show 0 ≤ (if p.asked = true then failP p else p).bad ∧ (if p.asked = true then failP p else p).bad ≤ 100
    have hl := h.right.lost
    have hb := h.bad
    split
    · unfold failP
      split
      · exact ⟨by show 0 ≤ p.cf.lost; omega, by show p.cf.lost ≤ 100; omega⟩
      · exact ⟨by show 0 ≤ p.bad + 1; omega, by show p.bad + 1 ≤ 100; omega⟩
    · exact hb
  · rw [askP_seq]; omega
theorem FlK.more {l : Int} {p : Pe} {j : Nat} (h : FlK l p j) (hl : 1 ≤ l) (hj : (j : Int) < l) : FlK l (askP p) (j + 1) ∧ (askP p).mA = p.mA ∧ (askP p).mc = p.mc := by
  have hw := askP_wf h.wf
  have hc : (askP p).cf = cL l := by rw [askP_cf]; exact h.cf
  by_cases h0 : j = 0
  · subst h0
    have ha : p.asked = false := h.asked
    have e : askP p = { p with seq := (p.seq + 1) % 65536, asked := true } := by unfold askP; rw [if_neg (by rw [ha]; simp)]
    refine ⟨⟨hc, hw, rfl, ?_, ?_, ?_⟩, ?_, ?_⟩
    · rw [e]; exact h.bad
    · rw [e]; exact h.mn
    · rw [e]; exact h.delay
    · rw [e]
    · rw [e]
  · have ha : p.asked = true := by rw [h.asked]; exact decide_eq_true (by omega)
    have hb := h.bad
    have hlost : p.cf.lost = l := by rw [h.cf]; rfl
    have e : askP p = { fail0 p with seq := (p.seq + 1) % 65536, asked := true } := by
      unfold askP
      rw [if_pos ha, failP_is, if_neg (by omega)]
    refine ⟨⟨hc, hw, ?_, ?_, ?_, ?_⟩, ?_, ?_⟩
    · rw [e]; show true = _; rw [decide_eq_true (by omega)]
    · rw [e]; show p.bad + 1 = _; omega
    · rw [e]; exact h.mn
    · rw [e]; exact h.delay
    · rw [e]; rfl
    · rw [e]; rfl
theorem gone {l : Int} {p : Pe} (hc : p.cf = cL l) (hw : p.Wf) (ha : p.asked = true) (hb : l ≤ p.bad + 1) : FlN l (askP p) ∧ (askP p).mA = none ∧ (askP p).mc = 0 := by
  have hlost : p.cf.lost = l := by rw [hc]; rfl
  have e : askP p = { fail1 (fail0 p) with seq := (p.seq + 1) % 65536, asked := true } := by
    unfold askP
    rw [if_pos ha, failP_is, if_pos (by omega)]
  refine ⟨⟨by rw [askP_cf]; exact hc, askP_wf hw, rfl, ?_, ?_, ?_⟩, ?_, ?_⟩
  · rw [e]; exact hlost
  · rw [e]; rfl
  · rw [e]; rfl
  · rw [e]; rfl
  · rw [e]; rfl
theorem FlK.gone {l : Int} {p : Pe} {j : Nat} (h : FlK l p j) (hl : 1 ≤ l) (hj : l ≤ (j : Int)) : FlN l (askP p) ∧ (askP p).mA = none ∧ (askP p).mc = 0 :=
  Go.Proofs.Ytbkflmeijjcnhaa.gone h.cf h.wf (by rw [h.asked]; exact decide_eq_true (by omega)) (by rw [h.bad]; omega)
theorem FlN.gone {l : Int} {p : Pe} (h : FlN l p) : FlN l (askP p) ∧ (askP p).mA = none ∧ (askP p).mc = 0 :=
  Go.Proofs.Ytbkflmeijjcnhaa.gone h.cf h.wf h.asked (by rw [h.bad]; omega)
/-- What is known behind so many questions. -/
def FlI (l : Int) (w : World) (g : Nat) (p : Pe) (j : Nat) : Prop := ((j : Int) ≤ l ∧ FlK l p j ∧ Mk w g p.mA 2 p.mc exL2) ∨ (l < (j : Int) ∧ FlN l p)
theorem FlI.wf {l : Int} {w : World} {g : Nat} {p : Pe} {j : Nat} (h : FlI l w g p j) : p.Wf := by rcases h with ⟨_, h, _⟩ | ⟨_, h⟩ <;> exact h.wf
theorem FlI.keep {l : Int} {w w' : World} {g : Nat} {p : Pe} {j : Nat} (h : FlI l w g p j) (hb : w.grownBy w' (some g)) : FlI l w' g p j := by
  rcases h with ⟨h1, h2, h3⟩ | h
  · exact .inl ⟨h1, h2, h3.keep hb⟩
  · exact .inr h
theorem FlI.ask {l : Int} {w : World} {g : Nat} {p : Pe} {j : Nat} (h : FlI l w g p j) (hl : 1 ≤ l) : FlI l w g (askP p) (j + 1) ∧ ableV (askP p) = decide ((j : Int) < l) ∧ (askP p).delay = if (j : Int) < l then 13107200 else 0 := by
  have able : ∀ q : Pe, q.cf = cL l → ableV q = (decide (2 ≤ q.mn) && decide (q.bad < l)) := fun q hq => by unfold ableV; rw [hq]; rfl
  rcases h with ⟨h1, h2, h3⟩ | ⟨h1, h2⟩
  · by_cases hj : (j : Int) < l
    · obtain ⟨k1, k2, k3⟩ := h2.more hl hj
      refine ⟨.inl ⟨by omega, k1, by rw [k2, k3]; exact h3⟩, ?_, ?_⟩
      · rw [able _ k1.cf, k1.mn, k1.bad, decide_eq_true hj, decide_eq_true (show ((j + 1 - 1 : Nat) : Int) < l by omega)]; rfl
      · rw [k1.delay, if_pos hj]
    · obtain ⟨k1, _⟩ := h2.gone hl (by omega)
      refine ⟨.inr ⟨by omega, k1⟩, ?_, ?_⟩
      · rw [able _ k1.cf, k1.mn, decide_eq_false hj]; rfl
      · rw [k1.delay, if_neg hj]
  · obtain ⟨k1, _⟩ := h2.gone
    refine ⟨.inr ⟨by omega, k1⟩, ?_, ?_⟩
    · rw [able _ k1.cf, k1.mn, decide_eq_false (show ¬ (j : Int) < l by omega)]; rfl
    · rw [k1.delay, if_neg (by omega)]
theorem fl_rk {l : Int} {p : Pe} {j : Nat} (h : FlK l p j) (hl : 1 ≤ l ∧ l ≤ 8) (hj : (j : Int) < l) : Rk (talkQ p 13172736000 13434880000 13264486400) 13500416000 393216000 157286400 2199023255552 26214400 := by
  have hc : (askP p).cf = cL l := by rw [askP_cf]; exact h.cf
  refine ⟨⟨13107200000, 13107200000, 91750400, 65536000, 2199023255552, 65536000, ?_, ?_, ?_, by decide, by decide, ?_, ?_, ?_, ?_, ?_, by decide, by decide, by decide, by decide, by decide, by decide⟩, ?_, ?_, ?_, ?_, by decide, (by decide : I64 13500416000 ∧ I64 393216000 ∧ I64 157286400 ∧ I64 13264486400 ∧ I64 13172736000 ∧ I64 13434880000)⟩
  · decide
  · exact (by decide : subV 13264486400 157286400 = (13107200000, 0))
  · decide +kernel
  · exact (by decide : subV 13264486400 13172736000 = (91750400, 0))
  · exact (by decide : subV 13500416000 13434880000 = (65536000, 0))
  · decide +kernel
  · decide +kernel
  · decide
  · unfold Rg; omega
  · show -(askP p).cf.slack ≤ 26214400
    rw [hc]; exact (by decide : -(1048576 : Int) ≤ 26214400)
  · show _ ≤ (askP p).cf.most
    rw [hc]; exact (by decide : Int.tdiv 26214400 2 ≤ 1099511627776)
  · show 0 ≤ (askP p).cf.slack ∧ (askP p).cf.slack ≤ _
    rw [hc]; exact (by decide : (0 : Int) ≤ 1048576 ∧ (1048576 : Int) ≤ 1099511627776)
/-- The last answer. -/
theorem fl_last {l : Int} {p : Pe} {j : Nat} (g : Nat) (w : World) (h : FlI l w g p j) (hl : 1 ≤ l ∧ l ≤ 8) (B : PeIn w g p) :
    Calls Try.prog 49 #[.pointer (some ⟨g, 0, none⟩), .agg #[.int .i64 13172736000, .int .i64 13434880000, .int .i64 13500416000, .int .i64 13264486400]] w fun e w' => e = .returned (.int .i64 0) ∧ ∃ q, PeIn w' g q ∧ ableV q = decide ((j : Int) < l) ∧ w.grownBy w' (some g) := by
  have hcf : (askP p).cf = cL l := by rw [askP_cf]; rcases h with ⟨_, h, _⟩ | ⟨_, h⟩ <;> exact h.cf
  have able : ∀ (A : Option Addr) (n c : Nat) (r d : Int), ableV (doneP (talkQ p 13172736000 13434880000 13264486400) A n c r d) = decide (2 ≤ n) := fun A n c r d => by
    show (decide (2 ≤ n) && decide (0 < (askP p).cf.lost)) = _
    rw [hcf, decide_eq_true (show (0 : Int) < (cL l).lost by show 0 < l; omega), Bool.and_true]
  have first : (askP p).mn = 0 → (askP p).mA = none → (askP p).mc = 0 → Calls Try.prog 49 #[.pointer (some ⟨g, 0, none⟩), .agg #[.int .i64 13172736000, .int .i64 13434880000, .int .i64 13500416000, .int .i64 13264486400]] w fun e w' => e = .returned (.int .i64 0) ∧ ∃ q, PeIn w' g q ∧ ableV q = false ∧ w.grownBy w' (some g) := fun h1 h2 h3 => by
    refine (talk_any p g 13172736000 13434880000 13500416000 13264486400 [] [(13500416000, 13264486400)] 1 (askP p).rate (askP p).delay w B (by rw [h1, h2, h3]; exact Mk.none_ w g) h.wf (Reckons.first (p := talkQ p 13172736000 13434880000 13264486400) h1 (by show 1 ≤ (askP p).cf.window ∧ (askP p).cf.window ≤ 32; rw [hcf]; exact (by decide : (1 : Int) ≤ 4 ∧ (4 : Int) ≤ 32)))).mono ?_
    rintro e w' ⟨rfl, A, c, B', _, G⟩
    exact ⟨rfl, _, B', by rw [able]; rfl, G⟩
  rcases h with ⟨h1, h2, h3⟩ | ⟨h1, h2⟩
  · by_cases hj : (j : Int) < l
    · obtain ⟨k1, k2, k3⟩ := h2.more hl.1 hj
      rw [decide_eq_true hj]
      refine (talk_any p g 13172736000 13434880000 13500416000 13264486400 exL2 (exL2 ++ [(13500416000, 13264486400)]) 3 2199023255552 13107200 w B (by rw [k1.mn, k2, k3]; exact h3) h2.wf ?_).mono ?_
      · have := Reckons.more (p := talkQ p 13172736000 13434880000 13264486400) (g := g) (T := [(1048576000, 812646400)]) (by show ((askP p).mn : Int) ≤ (askP p).cf.window ∧ (askP p).cf.window ≤ 32; rw [hcf, k1.mn]; exact (by decide : ((2 : Nat) : Int) ≤ 4 ∧ (4 : Int) ≤ 32)) (fl_rk h2 hl hj)
        rw [show (talkQ p 13172736000 13434880000 13264486400).mn = 2 from k1.mn] at this
        exact this
      · rintro e w' ⟨rfl, A, c, B', _, G⟩
        exact ⟨rfl, _, B', by rw [able]; rfl, G⟩
    · obtain ⟨k1, k2, k3⟩ := h2.gone hl.1 (by omega)
      rw [decide_eq_false hj]
      exact first k1.mn k2 k3
  · obtain ⟨k1, k2, k3⟩ := h2.gone
    rw [decide_eq_false (by omega)]
    exact first k1.mn k2 k3
set_option maxRecDepth 100000 in
set_option maxHeartbeats 16000000 in
theorem peerFails_calls (x1 x2 : Int) (w : World) : Calls Try.prog 12 #[.int .i64 x1, .int .i64 x2] w fun e w' => e = .returned (.bool true) ∧ Below w.heap.size w w' := by
  have e1 : bits .and .i64 x1 7 = x1 % 8 := andI x1 3 (by omega) _ rfl
  have e2 : bits .and .i64 x2 15 = x2 % 16 := andI x2 4 (by omega) _ rfl
  obtain ⟨n, hn⟩ : ∃ n : Nat, x2 % 16 = (n : Int) := ⟨(x2 % 16).toNat, by omega⟩
  have hn2 : n < 16 := by omega
  rw [hn] at e2
  obtain ⟨l, hld⟩ : ∃ l, l = 1 + x1 % 8 := ⟨_, rfl⟩
  have hl : 1 ≤ l ∧ l ≤ 8 := by omega
  have f1 : IntKind.i64.wrap (1 + x1 % 8) = l := by rw [← hld]; exact wrap_of (by omega) (by omega)
  generalize x1 % 8 = y1 at *
  have HL := Lib.hid hl
  clear hn hld hl
  go_enter Try.func12, Try.ntmps12
  go_wp2_with fail
  refine (head17 w).mono ?_
  rintro e w0 ⟨rfl, L0⟩
  go_wp2_with fail
  refine (conf_any w0).mono ?_
  rintro e w1 ⟨rfl, L1⟩
  have L01 := L0.trans (L1.mono L0.size)
  have hz1 := L01.size
  have C2 := Blk.new w1 75 (cfc conf0)
  have L2 := L01.alloc L01.size (.cells (cfc conf0) 75)
  have z2 : w1.heap.size < (w1.alloc (.cells (cfc conf0) 75)).heap.size := by simp
  have y5 := C2.cellOf (v := .int .i64 3) 5 rfl
  have fz := C2.frozen
  have C3 : Blk ((w1.alloc (.cells (cfc conf0) 75)).setCell ⟨w1.heap.size, 5, none⟩ (.int .i64 l)) w1.heap.size 75 (cfc (cL l)) := C2.set_ 5 (.int .i64 l)
  have L3 := L2.setCell (p := ⟨w1.heap.size, 5, none⟩) hz1 (.int .i64 l)
  have HC := Lib.hid (And.intro C3 L3)
  clear L0 L1 L01 L2 C2 C3 L3
  go_wp2_with (first | (refine wpList_load_row_g (by first | rfl | (go_simp; done)) 75 (.tmp 5) rfl w1.heap.size rfl 75 (cfc (cL l)) (0, 0) _ HC.out.1 Try.underlying75 rfl (by kernel_rfl) ?_) | (refine wpList_store_new (cs := cfc conf0) rfl 75 (.tmp 5) (.tmp 14) rfl rfl rfl rfl rfl (by kernel_rfl) (by rw [← Array.all_toList]; rfl) ?_; generalize w1.alloc (.cells (cfc conf0) 75) = w2 at *))
  clear y5 fz e1 e2 f1
  have hC := HC.out
  clear HC
  generalize hw3 : w2.setCell ⟨w1.heap.size, 5, none⟩ (.int .i64 l) = w3 at *
  have z3 : w1.heap.size < w3.heap.size := hC.1.lt
  clear hw3 z2
  refine (penew_ok (cL l) (cL_ex HL.out).right w3).mono ?_
  rintro e w4 ⟨g, rfl, B4, hg, L4⟩
  have C4 := hC.1.kept L4
  have LL4 := hC.2.trans (L4.mono hC.2.size)
  have hgw : w.heap.size ≤ g := Nat.le_trans hC.2.size hg
  have hcg : w1.heap.size ≠ g := by omega
  clear hC L4 hg
  go_wp2_with fail
  refine (at_k 0 0 ⟨by decide, by decide⟩ rfl _).mono ?_
  rintro e w5 ⟨rfl, L5⟩
  have B5 : PeIn w5 g (peNew (cL l)) := B4.kept L5
  have C5 := C4.kept L5
  have LL5 := LL4.trans (L5.mono LL4.size)
  simp only [Int.zero_add]
  clear B4 C4 LL4 L5
  go_wp2_with fail
  refine (ex_first (cL_ex HL.out) g w5 B5).mono ?_
  rintro e w6 ⟨rfl, A, k, B6, M6, G6⟩
  have C6 := C5.keep G6 hcg
  have LL6 := LL5.trans (below_one G6 LL5.size hgw)
  clear B5 C5 LL5 G6
  go_wp2_with fail
  refine (at_k 1 655360000 ⟨by decide, by decide⟩ rfl _).mono ?_
  rintro e w7 ⟨rfl, L7⟩
  have B7 : PeIn w7 g (ex1 (cL l) A k) := B6.kept L7
  have M7 := M6.kept L7
  have C7 := C6.kept L7
  have LL7 := LL6.trans (L7.mono LL6.size)
  simp only [Int.reduceAdd]
  clear B6 C6 LL6 L7 M6
  go_wp2_with fail
  refine (ex_second (cL_ex HL.out) A k g w7 B7 M7).mono ?_
  rintro e w8 ⟨rfl, A', k', B8, M8, G8⟩
  have C8 := C7.keep G8 hcg
  have LL8 := LL7.trans (below_one G8 LL7.size hgw)
  clear B7 C7 LL7 G8 M7
  go_wp2_with fail
  refine (able_any _ g w8 B8).mono ?_
  rintro e w9 ⟨rfl, B9, L9⟩
  have C9 := C8.kept L9
  have M9 := M8.kept L9
  have LL9 := LL8.trans (L9.mono LL8.size)
  have hab : ableV (ex2 (cL l) A A' k k') = true := by
    show (decide (2 ≤ 2) && decide (0 < l)) = true
    rw [decide_eq_true (show (0 : Int) < l by have := HL.out; omega)]; rfl
  rw [hab]
  have F9 : FlI l w9 g (ex2 (cL l) A A' k k') 0 := .inl ⟨by have := HL.out; omega, ⟨rfl, doneP_wf (doneP_wf (peNew_wf (cL_ex HL.out).right) _ _ _ _ _ _ _ _) _ _ _ _ _ _ _ _, rfl, rfl, rfl, rfl⟩, M9⟩
  clear B8 C8 LL8 L9 M8 hab M9
  generalize ex2 (cL l) A A' k k' = p9 at *
  obtain ⟨cb, hcb⟩ : ∃ cb, cb = w1.heap.size := ⟨_, rfl⟩
  rw [← hcb] at C9 hcg
  have cbw : w.heap.size ≤ cb := by omega
  go_wp2_with fail
  simp only [← hcb]
  clear hcb z3 hz1
  go_loopw [9] (fun i wr => ∃ (j : Nat) (p : Pe), j ≤ n + 1 ∧ i = .int .i64 j ∧ PeIn wr g p ∧ Hid (FlI l wr g p j) ∧ Blk wr cb 75 (cfc (cL l)) ∧ Below w.heap.size w wr) (fun i _ => n + 1 - (intOf i).toNat)
  case atStart => exact ⟨0, p9, Nat.zero_le _, rfl, B9, Lib.hid F9, C9, LL9⟩
  case round =>
    clear B9 F9 C9 LL9
    obtain ⟨j, p, hjn, rfl, B, F, C, LL⟩ := hrel
    by_cases hlt : j ≤ n
    · have hw := F.out.wf
      have HA := Lib.hid (fun W B => ask_any p g W B hw.bad hw.seq)
      obtain ⟨F1, hV0, hD0⟩ := F.out.ask HL.out.1
      have hlt' : decide ((j : Int) ≤ (n : Int)) = true := by simp; omega
      clear F hw
      generalize askM p = ms at *
      generalize askP p = q at *
      have HF1 := Lib.hid F1
      have HV0 := Lib.hid (And.intro hV0 hD0)
      clear F1 hV0 hD0
      go_wp2_with fail
      refine (HA.out _ B).mono ?_
      rintro e w4 ⟨rfl, B4, G4⟩
      have F4 := HF1.out.keep G4
      have C4 := C.keep G4 hcg
      have LL4 := LL.trans (below_one G4 LL.size hgw)
      have B5 := B4.alloc (.cells (mcells ms none 0 0) 33)
      have C5 := C4.alloc (.cells (mcells ms none 0 0) 33)
      have F5 := Lib.hid (F4.keep (gr_new (grownBy_refl w4 (some g)) (.cells (mcells ms none 0 0) 33)))
      have LL5 := LL4.alloc LL4.size (.cells (mcells ms none 0 0) 33)
      clear HA B G4 C LL B4 C4 LL4 F4 HF1
      go_wp2_with (refine wpList_store_new rfl 33 (.tmp 10) (.tmp 53) rfl rfl rfl rfl rfl (by kernel_rfl) (by rw [← Array.all_toList]; rfl) ?_; generalize w4.alloc (.cells (mcells ms none 0 0) 33) = w5 at *)
      obtain ⟨hV0, hD0⟩ := HV0.out
      clear HV0 hlt'
      by_cases hj : (j : Int) < l
      · have d1 : decide ((j : Int) < l) = true := by simpa using hj
        have hV : ableV q = true := hV0.trans d1
        have hD : q.delay = 13107200 := hD0.trans (if_pos hj)
        clear hV0 hD0
        have y5 := C5.cellOf (v := .int .i64 l) 5 rfl
        have scb := C5.lt
        have sg := B5.lt
        have HAb : Hid (∀ W, Below w5.heap.size w5 W → Calls Try.prog 51 #[.pointer (some ⟨g, 0, none⟩)] W fun e w' => e = .returned (.bool true) ∧ Below W.heap.size W w') := Lib.hid fun W hW => (able_any q g W (B5.kept hW)).mono fun e w' h => ⟨by rw [← hV]; exact h.1, h.2.2⟩
        have HDl : Hid (∀ W, Below w5.heap.size w5 W → Calls Try.prog 47 #[.pointer (some ⟨g, 0, none⟩)] W fun e w' => e = .returned (.int .i64 13107200) ∧ Below W.heap.size W w') := Lib.hid fun W hW => (delay_run q g W (B5.kept hW)).mono fun e w' h => ⟨by rw [← hD]; exact h.1, by rw [← h.2]; exact Below.refl _ _⟩
        have HB5 := Lib.hid (And.intro B5 C5)
        clear hj hV hD B5 C5
        refine wp_region_class (fun w' => Below w5.heap.size w5 w') (by kernel_rfl) (by kernel_rfl) (Below.refl _ _).drew ?_
        repeat (first | (refine wpQuiet_skip ?_ ?_; rfl; simp only [Act.put, List.setIfInBounds_toArray, List.set_cons_zero, List.set_cons_succ]) | (refine wpQuiet_val (v := ?_) ?_ ?_ ?_; rotate_left; rfl; (intro w' hw'; obtain ⟨hc, hf⟩ := bcell hw'; go_simp; with_reducible rfl); simp only [Act.put, List.setIfInBounds_toArray, List.set_cons_zero, List.set_cons_succ]) | (refine wpQuiet_call (v := ?_) 51 ?_ ?_ ?_ ?_ ?_; rotate_left 2; (first | rfl | (go_simp; done)); (intro w' hw'; obtain ⟨hc, hf⟩ := bcell hw'; go_simp; with_reducible rfl); (intro w' hw'; (with_reducible refine (HAb.out _ hw').mono ?_); rintro e w2 ⟨rfl, hb⟩; refine ⟨?_, hw'.trans (hb.mono (by have h0 := hw'.size; first | omega | (simp at h0; omega)))⟩; with_reducible rfl); simp only [Act.put, List.setIfInBounds_toArray, List.set_cons_zero, List.set_cons_succ]) | (refine wpQuiet_call (v := ?_) 47 ?_ ?_ ?_ ?_ ?_; rotate_left 2; (first | rfl | (go_simp; done)); (intro w' hw'; obtain ⟨hc, hf⟩ := bcell hw'; go_simp; with_reducible rfl); (intro w' hw'; (with_reducible refine (HDl.out _ hw').mono ?_); rintro e w2 ⟨rfl, hb⟩; refine ⟨?_, hw'.trans (hb.mono (by have h0 := hw'.size; first | omega | (simp at h0; omega)))⟩; with_reducible rfl); simp only [Act.put, List.setIfInBounds_toArray, List.set_cons_zero, List.set_cons_succ]) | (refine wpQuiet_val (v := ?_) ?_ ?_ ?_; rotate_left; (first | rfl | (go_simp; done)); (intro w' hw'; obtain ⟨hc, hf⟩ := bcell hw'; go_simp; with_reducible rfl); simp only [Act.put, List.setIfInBounds_toArray, List.set_cons_zero, List.set_cons_succ]) | (refine wpQuiet_skip ?_ ?_; (first | rfl | (go_simp; done)); simp only [Act.put, List.setIfInBounds_toArray, List.set_cons_zero, List.set_cons_succ]))
        refine wpQuiet_nil ?_
        intro w6 L6'
        have B6 : PeIn w6 g q := HB5.out.1.kept L6'
        have C6 := HB5.out.2.kept L6'
        have LL6 := LL5.trans (L6'.mono LL5.size)
        have F6 := F5.out.keep (gr_below L6' (some g))
        clear y5 scb sg HAb HDl HB5 LL5 F5 L6' d1
        go_wp2_with fail
        go_roundw
        case rel => exact ⟨j + 1, q, by omega, by go_num, B6, Lib.hid F6, C6, LL6⟩
        case measure => simp [intOf]; omega
      · have d1 : decide ((j : Int) < l) = false := by simpa using hj
        have hV : ableV q = false := hV0.trans d1
        have hD : q.delay = 0 := hD0.trans (if_neg hj)
        clear hV0 hD0
        have y5 := C5.cellOf (v := .int .i64 l) 5 rfl
        have scb := C5.lt
        have sg := B5.lt
        have HAb : Hid (∀ W, Below w5.heap.size w5 W → Calls Try.prog 51 #[.pointer (some ⟨g, 0, none⟩)] W fun e w' => e = .returned (.bool false) ∧ Below W.heap.size W w') := Lib.hid fun W hW => (able_any q g W (B5.kept hW)).mono fun e w' h => ⟨by rw [← hV]; exact h.1, h.2.2⟩
        have HDl : Hid (∀ W, Below w5.heap.size w5 W → Calls Try.prog 47 #[.pointer (some ⟨g, 0, none⟩)] W fun e w' => e = .returned (.int .i64 0) ∧ Below W.heap.size W w') := Lib.hid fun W hW => (delay_run q g W (B5.kept hW)).mono fun e w' h => ⟨by rw [← hD]; exact h.1, by rw [← h.2]; exact Below.refl _ _⟩
        have HB5 := Lib.hid (And.intro B5 C5)
        clear hj hV hD B5 C5
        refine wp_region_class (fun w' => Below w5.heap.size w5 w') (by kernel_rfl) (by kernel_rfl) (Below.refl _ _).drew ?_
        repeat (first | (refine wpQuiet_skip ?_ ?_; rfl; simp only [Act.put, List.setIfInBounds_toArray, List.set_cons_zero, List.set_cons_succ]) | (refine wpQuiet_val (v := ?_) ?_ ?_ ?_; rotate_left; rfl; (intro w' hw'; obtain ⟨hc, hf⟩ := bcell hw'; go_simp; with_reducible rfl); simp only [Act.put, List.setIfInBounds_toArray, List.set_cons_zero, List.set_cons_succ]) | (refine wpQuiet_call (v := ?_) 51 ?_ ?_ ?_ ?_ ?_; rotate_left 2; (first | rfl | (go_simp; done)); (intro w' hw'; obtain ⟨hc, hf⟩ := bcell hw'; go_simp; with_reducible rfl); (intro w' hw'; (with_reducible refine (HAb.out _ hw').mono ?_); rintro e w2 ⟨rfl, hb⟩; refine ⟨?_, hw'.trans (hb.mono (by have h0 := hw'.size; first | omega | (simp at h0; omega)))⟩; with_reducible rfl); simp only [Act.put, List.setIfInBounds_toArray, List.set_cons_zero, List.set_cons_succ]) | (refine wpQuiet_call (v := ?_) 47 ?_ ?_ ?_ ?_ ?_; rotate_left 2; (first | rfl | (go_simp; done)); (intro w' hw'; obtain ⟨hc, hf⟩ := bcell hw'; go_simp; with_reducible rfl); (intro w' hw'; (with_reducible refine (HDl.out _ hw').mono ?_); rintro e w2 ⟨rfl, hb⟩; refine ⟨?_, hw'.trans (hb.mono (by have h0 := hw'.size; first | omega | (simp at h0; omega)))⟩; with_reducible rfl); simp only [Act.put, List.setIfInBounds_toArray, List.set_cons_zero, List.set_cons_succ]) | (refine wpQuiet_val (v := ?_) ?_ ?_ ?_; rotate_left; (first | rfl | (go_simp; done)); (intro w' hw'; obtain ⟨hc, hf⟩ := bcell hw'; go_simp; with_reducible rfl); simp only [Act.put, List.setIfInBounds_toArray, List.set_cons_zero, List.set_cons_succ]) | (refine wpQuiet_skip ?_ ?_; (first | rfl | (go_simp; done)); simp only [Act.put, List.setIfInBounds_toArray, List.set_cons_zero, List.set_cons_succ]))
        refine wpQuiet_nil ?_
        intro w6 L6'
        have B6 : PeIn w6 g q := HB5.out.1.kept L6'
        have C6 := HB5.out.2.kept L6'
        have LL6 := LL5.trans (L6'.mono LL5.size)
        have F6 := F5.out.keep (gr_below L6' (some g))
        clear y5 scb sg HAb HDl HB5 LL5 F5 L6' d1
        go_wp2_with fail
        go_roundw
        case rel => exact ⟨j + 1, q, by omega, by go_num, B6, Lib.hid F6, C6, LL6⟩
        case measure => simp [intOf]; omega
    · have hlt' : decide ((j : Int) ≤ (n : Int)) = false := by simp; omega
      obtain rfl : j = n + 1 := by omega
      have S20 : wr.drew.cell? ⟨cb, 5, none⟩ = some (.int .i64 l) := C.cellOf 5 rfl
      have ha := at_k 20 13107200000 ⟨by decide, by decide⟩ rfl
      simp only [Int.reduceAdd] at ha
      have HAT := Lib.hid ha
      have hcast : ((n + 1 : Nat) : Int) = (n : Int) + 1 := by omega
      have f1 : IntKind.i64.wrap ((n : Int) + 1) = ((n + 1 : Nat) : Int) := by rw [hcast]; exact wrap_of (by omega) (by omega)
      clear ha hcast hlt hjn
      go_wp2_with fail
      clear hlt'
      refine wp_region_script2 [(0, true), (1, true), (2, false), (3, false), (4, true), (5, true), (6, true), (8, true), (9, true), (10, true)] 7 11 [(11, true), (12, true), (13, true), (14, true), (15, true)] [(12, true), (7, false), (13, true), (14, true), (15, true)] (fun w' => w'.cell? ⟨cb, 5, none⟩ = some (.int .i64 l)) (by kernel_rfl) (by kernel_rfl) (fun _ _ _ _ _ h => h) S20 ?_
      iterate 2 (refine script_take (v := ?_) rfl ?_ ?_ ?_; rotate_left; (first | rfl | (go_simp; done)); (rintro w' hw';  go_simp; with_reducible rfl); simp only [Act.put, List.setIfInBounds_toArray, List.set_cons_zero, List.set_cons_succ])
      (refine script_call 52 ?_ rfl ?_ ?_ ?_; rotate_left; (first | rfl | (go_simp; done)); (go_simp; with_reducible rfl))
      refine (HAT.out _).mono ?_
      rintro e w5 ⟨rfl, L5⟩
      have L5' : Below wr.heap.size wr w5 := ((Below.refl _ _).drew).trans L5
      have C5 := C.kept L5'
      have B5 : PeIn w5 g p := B.kept L5'
      have F5 := F.out.keep (gr_below L5' (some g))
      have LL5 := LL.trans (L5'.mono LL.size)
      refine ⟨_, rfl, C5.cellOf 5 rfl, ?_⟩
      simp only [Act.put, List.setIfInBounds_toArray, List.set_cons_zero, List.set_cons_succ]
      clear HAT L5 L5' C B F LL S20
      (refine script_call 49 ?_ rfl ?_ ?_ ?_; rotate_left; (first | rfl | (go_simp; done)); (go_simp; with_reducible rfl))
      refine (fl_last g w5 F5 HL.out B5).mono ?_
      rintro e w6 ⟨rfl, q, B6, hq, G6⟩
      have C6 := C5.keep G6 hcg
      have LL6 := LL5.trans (below_one G6 LL5.size hgw)
      refine ⟨_, rfl, C6.cellOf 5 rfl, ?_⟩
      simp only [Act.put, List.setIfInBounds_toArray, List.set_cons_zero, List.set_cons_succ]
      clear F5 C5 B5 LL5 G6
      iterate 6 (refine script_take (v := ?_) rfl ?_ ?_ ?_; rotate_left; (first | rfl | (go_simp; done)); (rintro w' hw';  go_simp; with_reducible rfl); simp only [Act.put, List.setIfInBounds_toArray, List.set_cons_zero, List.set_cons_succ])
      have S6 : w6.cell? ⟨cb, 5, none⟩ = some (.int .i64 l) := C6.cellOf 5 rfl
      refine script_nil ⟨?_, ?_⟩
      · (refine script_call 51 ?_ rfl ?_ ?_ ?_; rotate_left; (first | rfl | (go_simp; done)); (go_simp; with_reducible rfl))
        refine (able_any q g w6 B6).mono ?_
        rintro e w7 ⟨rfl, B7, L7⟩
        have C7 := C6.kept L7
        have LL7 := LL6.trans (L7.mono LL6.size)
        refine ⟨_, rfl, C7.cellOf 5 rfl, ?_⟩
        rw [hq]
        simp only [Act.put, List.setIfInBounds_toArray, List.set_cons_zero, List.set_cons_succ]
        clear B6 C6 LL6 L7 B7 hq S6
        iterate 5 (refine script_take (v := ?_) rfl ?_ ?_ ?_; rotate_left; (first | rfl | (go_simp; done)); (rintro w' hw';  go_simp; with_reducible rfl); simp only [Act.put, List.setIfInBounds_toArray, List.set_cons_zero, List.set_cons_succ])
        refine script_nil ?_
        clear C7 f1
        go_wp2_with fail
        go_ret
        exact ⟨by simp, LL7⟩
      · refine script_run (v := .int .i64 l) (w' := w6) rfl (by first | rfl | (go_simp; done)) (by go_simp) S6 ?_
        simp only [Act.put, List.setIfInBounds_toArray, List.set_cons_zero, List.set_cons_succ]
        (refine script_take (v := ?_) rfl ?_ ?_ ?_; rotate_left; (first | rfl | (go_simp; done)); (rintro w' hw';  go_simp; with_reducible rfl); simp only [Act.put, List.setIfInBounds_toArray, List.set_cons_zero, List.set_cons_succ])
        (refine script_call 51 ?_ rfl ?_ ?_ ?_; rotate_left; (first | rfl | (go_simp; done)); (go_simp; with_reducible rfl))
        refine (able_any q g w6 B6).mono ?_
        rintro e w7 ⟨rfl, B7, L7⟩
        have C7 := C6.kept L7
        have LL7 := LL6.trans (L7.mono LL6.size)
        refine ⟨_, rfl, C7.cellOf 5 rfl, ?_⟩
        rw [hq]
        simp only [Act.put, List.setIfInBounds_toArray, List.set_cons_zero, List.set_cons_succ]
        clear B6 C6 LL6 L7 B7 hq S6
        iterate 3 (refine script_take (v := ?_) rfl ?_ ?_ ?_; rotate_left; (first | rfl | (go_simp; done)); (rintro w' hw';  go_simp; with_reducible rfl); simp only [Act.put, List.setIfInBounds_toArray, List.set_cons_zero, List.set_cons_succ])
        refine script_nil ?_
        clear C7 f1
        go_wp2_with fail
        go_ret
        exact ⟨by simp, LL7⟩

/-! ### The row's step -/
set_option maxRecDepth 100000 in
theorem peerFails_lifted (os : Os) (started : os.Started) (H : Type) (enc : TypeId × Value → H) :
    ReturnsInHanded {} Try.checked os 12 .any (Rows.peerFailsSpec.pre6 enc Try.prog Try.f12 Rows.peerFailsRow.domain false) (Rows.peerFailsSpec.post enc Try.prog Try.f12 false true false false) := by
  refine returnsInHanded_of_change (C := Try.checked) own started (by kernel_rfl) Try.func12
    (ChangeSpec.witness6 (enc := enc) (C := Try.checked) false ⟨#[], #[.int .i64 0, .int .i64 0], []⟩ 8 (by kernel_rfl) (by kernel_rfl) (by kernel_rfl) (by kernel_rfl)) ?_
  intro W base args ds gs before hval0 hW _ _
  have hval : ∀ (j : Nat) t v, Try.f12.params[j]? = some t → args[j]? = some v → Value.okWide Try.prog W .any base t v := hval0
  have hW' := hW
  obtain ⟨p, q, hA0, hV, rfl, hfz, hnd⟩ := hW
  have hA : DataW.TrodAll enc Try.prog W 0 (fun _ => true) true Try.f12.params.toList args.toList ds p := hA0
  rw [Try.params12] at hA hval
  obtain ⟨v0, v1, d0, d1, p0, p1, rfl, rfl, rfl, h0, h1⟩ := trodAll_two hA
  obtain ⟨x1, rfl⟩ := okWide_int Try.underlying3 (hval 0 3 v0 rfl rfl)
  obtain ⟨x2, rfl⟩ := okWide_int Try.underlying3 (hval 1 3 v1 rfl rfl)
  exact law_post laidOut (by kernel_rfl) rfl (by kernel_rfl) Try.underlying4 rfl hW' (peerFails_calls x1 x2 W)

theorem peerFails_holds : Rows.PeerFailsSaid :=
  OpenClaim.holds_of_wide 12 Try.f12 rfl rfl rfl rfl rfl rfl rfl ⟨rfl, rfl, rfl, rfl, rfl⟩ rfl rfl rfl rfl rfl (by kernel_rfl) Try.func12 (by kernel_rfl)
    (of_decide_eq_true (by kernel_rfl)) (by unfold Func.isWrapper; first | (rw [if_pos (by decide +kernel)]; kernel_rfl) | (rw [if_neg (by decide +kernel)]; exact ⟨rfl, rfl⟩))
    (fun os started H enc _ => peerFails_lifted os started H enc)

#print axioms peerFails_holds
end Go.Proofs.Ytbkflmeijjcnhaa
