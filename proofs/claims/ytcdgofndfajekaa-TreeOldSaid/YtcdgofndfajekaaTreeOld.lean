/-
  TreeOld: whatever the own clock, the message and the times, the law returns true: what was heard counts for just so long; then the own clock is the best again. No condition.
-/
import Derived.Test.YtcdgofndfajekaaTreeQ
namespace Go.Proofs.Ytcdgofndfajekaa
set_option linter.unusedSimpArgs false
set_option linter.unusedVariables false
open Go.RowKit Go.WideShapes Go.ChangeShapes
attribute [local go_sem ↓] Go.wp_at_zero Go.wp_at_succ

/-! ### Plain -/
theorem rz : R64 0 := ⟨by decide, by decide⟩
def oOwn : Pr := ⟨9, 0, 0, 1099511627776⟩
def oM (m : Mg) : Mg := { m with kind := 11, domain := 0 }
def oT0 (most : Int) : Tre := Tre.new 0 oOwn most 2
def oT1 (most : Int) : Tre := ⟨0, oOwn, most, [⟨false, false, Vc.zero, [], 0⟩, ⟨true, false, Vc.zero, [], 0⟩]⟩
def oV (m : Mg) : Vc := ⟨⟨m.one, m.cls, m.two, m.id⟩, m.steps, m.src, m.port, 0⟩
def oT2 (m : Mg) (most : Int) : Tre := ⟨0, oOwn, most, [⟨false, false, Vc.zero, [], 0⟩, ⟨true, true, oV m, m.path, 0⟩]⟩
theorem o_up (most : Int) : (oT0 most).upI 1 true = oT1 most := rfl
theorem o_down (m : Mg) (most : Int) : (oT2 m most).upI 1 false = oT0 most := rfl
theorem o_in0 (m : Mg) (most : Int) : (oT0 most).inE 1 m ≠ 0 := by
  unfold Tre.inE
  split
  · decide
  · rw [if_pos (show (oT0 most).upAt 1 = false from rfl)]; decide
theorem o_in0_same (m : Mg) (most : Int) : (oT0 most).in_ 1 m 0 = oT0 most := by unfold Tre.in_; rw [if_neg (o_in0 m most)]
theorem o_in1 (m : Mg) (most : Int) (h : (oT1 most).inE 1 m = 0) : (oT1 most).in_ 1 m 0 = oT2 m most := by unfold Tre.in_; rw [if_pos h]; rfl
theorem o_in1_not (m : Mg) (most : Int) (h : (oT1 most).inE 1 m ≠ 0) : (oT1 most).in_ 1 m 0 = oT1 most := by unfold Tre.in_; rw [if_neg h]
def oB (m : Mg) (most later : Int) : Bool := decide (cmpP ⟨m.one, m.cls, m.two, m.id⟩ oOwn < 0) && decide (later ≤ most)
theorem o_top (m : Mg) (most later : Int) (h0 : 0 ≤ later) : (oT2 m most).top later = if oB m most later = true then { oV m with at_ := 1 } else ownVec oOwn := by
  have hl : (⟨true, true, oV m, m.path, 0⟩ : En).live most later = decide (later ≤ most) := by
    unfold En.live
    rw [decide_eq_true (show (0 : Int) ≤ later from h0), Int.sub_zero]; simp
  have hs : (oT2 m most).hs later = [⟨false, false, Vc.zero⟩, ⟨true, decide (later ≤ most), oV m⟩] := by
    unfold Tre.hs oT2
    simp only [List.map_cons, List.map_nil, hl]
    rfl
  unfold Tre.top topOf
  rw [hs]
  show topStep (ownVec oOwn) (topStep (ownVec oOwn) (ownVec oOwn) 0 ⟨false, false, Vc.zero⟩) 1 ⟨true, decide (later ≤ most), oV m⟩ = _
  have e1 : topStep (ownVec oOwn) (ownVec oOwn) 0 ⟨false, false, Vc.zero⟩ = ownVec oOwn := by unfold topStep; rw [if_neg (by simp)]
  rw [e1]
  unfold topStep oB
  by_cases h1 : later ≤ most
  · by_cases h2 : cmpP ⟨m.one, m.cls, m.two, m.id⟩ oOwn < 0
    · rw [if_pos ⟨rfl, decide_eq_true h1, h2, .inl (by decide)⟩, if_pos (by rw [decide_eq_true h1, decide_eq_true h2]; rfl)]
      rfl
    · rw [if_neg (fun h => h2 h.2.2.1), if_neg (by rw [decide_eq_false h2]; simp)]
  · rw [if_neg (fun h => h1 (of_decide_eq_true h.2.1)), if_neg (by rw [decide_eq_false h1]; simp)]
theorem o_at (m : Mg) (most later : Int) (h0 : 0 ≤ later) : (((oT2 m most).top later).at_ == 1) = oB m most later := by
  rw [o_top m most later h0]
  cases oB m most later <;> rfl
theorem o_root (m : Mg) (most later : Int) (h0 : 0 ≤ later) : decide (((oT2 m most).top later).at_ < 0) = !oB m most later := by
  rw [o_top m most later h0]
  cases oB m most later <;> rfl
theorem o_role (m : Mg) (most later : Int) : roleAt (oT2 m most).own ((oT2 m most).top later) ((oT2 m most).hs later) 0 = 0 := rfl
theorem o_end (most : Int) : decide (((oT1 most).top 0).at_ < 0) = true := by
  have : (oT1 most).top 0 = ownVec oOwn := rfl
  rw [this]; rfl
set_option maxRecDepth 100000 in
set_option maxHeartbeats 4000000 in
theorem treeOld_calls (own : Pr) (m : Mg) (A : Option Addr) (n c : Nat) (most0 later0 : Int) (w : World) (hm : MsgIn w w.heap.size m A n) :
    Calls Try.prog 5 #[.agg #[.int .i64 own.one, .int .i64 own.cls, .int .i64 own.two, .int .i64 own.id], .agg (mcells m A n c), .int .i64 most0, .int .i64 later0] w fun e w' => e = .returned (.bool true) ∧ Below w.heap.size w w' := by
  obtain ⟨x, hx, hx0, hx1⟩ := and_mask most0 16 65535 rfl (by omega)
  obtain ⟨later, hl, hl0, hl1⟩ := and_mask later0 17 131071 rfl (by omega)
  obtain ⟨most, hmo⟩ : ∃ M, M = 1 + x := ⟨_, rfl⟩
  have fm : IntKind.i64.wrap (1 + x) = most := by rw [← hmo]; exact IntWalk.i64_in _ ⟨by omega, by omega⟩
  have HX : Hid (1 ≤ most ∧ most ≤ 65536 ∧ 0 ≤ later ∧ later ≤ 131071) := Lib.hid ⟨by omega, by omega, hl0, hl1⟩
  have P0 := (Blk.new w 23 #[.int .i64 own.one, .int .i64 own.cls, .int .i64 own.two, .int .i64 own.id]).alloc (.cells (mcells m A n c) 38)
  have M0 := Blk.at_new (g := w.heap.size + 1) (w.alloc (.cells #[.int .i64 own.one, .int .i64 own.cls, .int .i64 own.two, .int .i64 own.id] 23)) 38 (mcells m A n c) (by simp)
  have L0 := ((Below.refl w.heap.size w).alloc (Nat.le_refl _) (.cells #[.int .i64 own.one, .int .i64 own.cls, .int .i64 own.two, .int .i64 own.id] 23)).alloc (by simp) (.cells (mcells m A n c) 38)
  have HL0 := Lib.hid L0
  have HP0 := Lib.hid P0
  have HM0 := Lib.hid M0
  have Hm := Lib.hid hm
  clear hx0 hx1 hl0 hl1 hmo P0 M0 L0 hm
  by_cases hn : 31 < n
  · have dn : (31 : Int) < (n : Int) := by omega
    clear hn
    go_enter Try.func5, Try.ntmps5
    go_wp2_with fail
    generalize (w.alloc (.cells #[.int .i64 own.one, .int .i64 own.cls, .int .i64 own.two, .int .i64 own.id] 23)).alloc (.cells (mcells m A n c) 38) = w0 at *
    refine (head_any _).mono ?_
    rintro e w1 ⟨rfl, b1⟩
    have q15 := (HM0.out.kept b1).cellOf (v := .slice A n c) 15 rfl
    have hw := HL0.out.trans (b1.mono HL0.out.size)
    clear b1
    go_wp2_with fail
    go_ret
    exact ⟨rfl, hw⟩
  have dn : decide ((31 : Int) < (n : Int)) = false := by simp; omega
  clear hn
  go_enter Try.func5, Try.ntmps5
  go_wp2_with fail
  generalize (w.alloc (.cells #[.int .i64 own.one, .int .i64 own.cls, .int .i64 own.two, .int .i64 own.id] 23)).alloc (.cells (mcells m A n c) 38) = w0 at *
  refine (head_any _).mono ?_
  rintro e w1 ⟨rfl, b1⟩
  have M1 := HM0.out.kept b1
  have P1 := HP0.out.kept b1
  have q15 := M1.cellOf (v := .slice A n c) 15 rfl
  have q0 := M1.cellOf (v := .int .i64 m.kind) 0 rfl
  have q1 := M1.cellOf (v := .int .i64 m.domain) 1 rfl
  have fM := M1.frozen
  have r0 := P1.cellOf (v := .int .i64 own.one) 0 rfl
  have r1 := P1.cellOf (v := .int .i64 own.cls) 1 rfl
  have r2 := P1.cellOf (v := .int .i64 own.two) 2 rfl
  have r3 := P1.cellOf (v := .int .i64 own.id) 3 rfl
  have fP := P1.frozen
  have HL1 := Lib.hid (HL0.out.trans (b1.mono HL0.out.size))
  have HS1 := Lib.hid (And.intro M1 P1)
  clear b1 M1 P1 HL0 HM0 HP0
  go_wp2_with fail
  have hb2 : Below w.heap.size w1 ((((((w1.setCell ⟨w.heap.size, 0, none⟩ (.int .i64 9)).setCell ⟨w.heap.size, 1, none⟩ (.int .i64 0)).setCell ⟨w.heap.size, 2, none⟩ (.int .i64 0)).setCell ⟨w.heap.size, 3, none⟩ (.int .i64 1099511627776)).setCell ⟨w.heap.size + 1, 0, none⟩ (.int .i64 11)).setCell ⟨w.heap.size + 1, 1, none⟩ (.int .i64 0)) := ((((((Below.refl w.heap.size w1).setCell (p := ⟨w.heap.size, 0, none⟩) (Nat.le_refl _) _).setCell (p := ⟨w.heap.size, 1, none⟩) (Nat.le_refl _) _).setCell (p := ⟨w.heap.size, 2, none⟩) (Nat.le_refl _) _).setCell (p := ⟨w.heap.size, 3, none⟩) (Nat.le_refl _) _).setCell (p := ⟨w.heap.size + 1, 0, none⟩) (by simp) _).setCell (p := ⟨w.heap.size + 1, 1, none⟩) (by simp) _
  have gp : w1.grownBy ((((w1.setCell ⟨w.heap.size, 0, none⟩ (.int .i64 9)).setCell ⟨w.heap.size, 1, none⟩ (.int .i64 0)).setCell ⟨w.heap.size, 2, none⟩ (.int .i64 0)).setCell ⟨w.heap.size, 3, none⟩ (.int .i64 1099511627776)) (some w.heap.size) := gr_set (gr_set (gr_set (gr_set (grownBy_refl _ _) 0 _) 1 _) 2 _) 3 _
  have M2 : Blk ((((((w1.setCell ⟨w.heap.size, 0, none⟩ (.int .i64 9)).setCell ⟨w.heap.size, 1, none⟩ (.int .i64 0)).setCell ⟨w.heap.size, 2, none⟩ (.int .i64 0)).setCell ⟨w.heap.size, 3, none⟩ (.int .i64 1099511627776)).setCell ⟨w.heap.size + 1, 0, none⟩ (.int .i64 11)).setCell ⟨w.heap.size + 1, 1, none⟩ (.int .i64 0)) (w.heap.size + 1) 38 (mcells (oM m) A n c) := ((HS1.out.1.grown gp (by simp)).set_ 0 (.int .i64 11)).set_ 1 (.int .i64 0)
  have P2 : Blk ((((((w1.setCell ⟨w.heap.size, 0, none⟩ (.int .i64 9)).setCell ⟨w.heap.size, 1, none⟩ (.int .i64 0)).setCell ⟨w.heap.size, 2, none⟩ (.int .i64 0)).setCell ⟨w.heap.size, 3, none⟩ (.int .i64 1099511627776)).setCell ⟨w.heap.size + 1, 0, none⟩ (.int .i64 11)).setCell ⟨w.heap.size + 1, 1, none⟩ (.int .i64 0)) w.heap.size 23 #[.int .i64 9, .int .i64 0, .int .i64 0, .int .i64 1099511627776] := ((((((HS1.out.2.set_ 0 (.int .i64 9)).set_ 1 (.int .i64 0)).set_ 2 (.int .i64 0)).set_ 3 (.int .i64 1099511627776)).grown (gr_set (grownBy_refl _ _) 0 _) (by simp)).grown (gr_set (grownBy_refl _ _) 1 _) (by simp))
  have HL2 := Lib.hid (HL1.out.trans hb2)
  have HB2 := Lib.hid (And.intro M2 P2)
  clear hb2 gp M2 P2 HL1 HS1 q15 q0 q1 fM r0 r1 r2 r3 fP dn
  generalize ((((((w1.setCell ⟨w.heap.size, 0, none⟩ (.int .i64 9)).setCell ⟨w.heap.size, 1, none⟩ (.int .i64 0)).setCell ⟨w.heap.size, 2, none⟩ (.int .i64 0)).setCell ⟨w.heap.size, 3, none⟩ (.int .i64 1099511627776)).setCell ⟨w.heap.size + 1, 0, none⟩ (.int .i64 11)).setCell ⟨w.heap.size + 1, 1, none⟩ (.int .i64 0)) = w2 at *
  have HPT : Hid (∀ W, Below w.heap.size w W → ∀ S : List Nat, (∀ k ∈ S, w.heap.size ≤ k) → Path W S A m.path) := Lib.hid fun W hb S hS h0 => by
    obtain ⟨ad, e, h1, h2⟩ := (Hm.out.reads.below hb).2 (by rw [← Hm.out.len]; exact h0)
    refine ⟨ad, e, Nat.lt_of_lt_of_le h1 hb.size, fun a => by have := hS _ a; omega, fun j x hx => h2 j _ ?_⟩
    unfold vs
    rw [List.getElem?_map, hx]; rfl
  refine (new_right 0 oOwn 2 most w2 (by decide) (by decide) (by have := HX.out; omega) rfl rfl).mono ?_
  rintro e w3 ⟨b, ps, rfl, hT, hg, b3⟩
  have h12 : w.heap.size + 1 < w2.heap.size := HB2.out.1.lt
  have HG : Hid (w.heap.size + 1 ∉ b.turn ∧ w.heap.size ∉ b.turn ∧ (∀ k ∈ b.turn, w.heap.size ≤ k) ∧ ∀ k ∈ b.all, w.heap.size ≤ k) := Lib.hid ⟨fun a => by have := turn_ge hg _ a; omega, fun a => by have := turn_ge hg _ a; omega, fun k hk => by have := turn_ge hg k hk; omega, fun k hk => by have := hg k hk; omega⟩
  have HT3 : Hid (TAt w3 b (oT0 most) ps) := Lib.hid hT
  have HB3 := Lib.hid (And.intro (HB2.out.1.kept b3) (HB2.out.2.kept b3))
  have HL3 := Lib.hid (HL2.out.trans (b3.mono HL2.out.size))
  clear hT hg b3 HB2 HL2 h12
  go_wp2_with (refine wpList_load_any_d rfl 38 (.tmp 5) rfl ⟨w.heap.size + 1, 0, none⟩ rfl (mcells (oM m) A n c) _ (blk_cells HB3.out.1) Try.underlying38 rfl (by kernel_rfl) ?_)
  have HI := Lib.hid (in_any b (oT0 most) ps 1 0 (oM m) A n c w3 HT3.out ⟨(HPT.out w3 HL3.out b.all HG.out.2.2.2).reads |> fun h => by rw [Hm.out.len] at h; exact h, Hm.out.len, Hm.out.most⟩ (HPT.out w3 HL3.out b.all HG.out.2.2.2))
  have hE1 := o_in0 (oM m) most
  have hS1 := o_in0_same (oM m) most
  rw [hS1] at HI
  clear hS1
  generalize (oT0 most).inE 1 (oM m) = E1 at *
  refine HI.out.mono ?_
  rintro e w4 ⟨rfl, ⟨ps4, hT⟩, f4⟩
  have dE1 : (E1 == 0) = false := beq_eq_false_iff_ne.2 hE1
  have HT4 := Lib.hid hT
  have HB4 := Lib.hid (And.intro (f4.blk HB3.out.1 HG.out.1) (f4.blk HB3.out.2 HG.out.2.1))
  have HL4 := Lib.hid (HL3.out.trans (f4.below HL3.out.size HG.out.2.2.1))
  clear hT f4 HT3 HB3 HL3 HI hE1
  go_wp2_with fail
  refine (up_any b _ ps4 1 true w4 HT4.out).mono ?_
  rintro e w5 ⟨rfl, ⟨ps5, hT⟩, f5⟩
  rw [o_up] at hT
  have HT5 := Lib.hid hT
  have HB5 := Lib.hid (And.intro (f5.blk HB4.out.1 HG.out.1) (f5.blk HB4.out.2 HG.out.2.1))
  have HL5 := Lib.hid (HL4.out.trans (f5.below HL4.out.size HG.out.2.2.1))
  clear hT f5 HT4 HB4 HL4
  go_wp2_with (refine wpList_load_any_d rfl 38 (.tmp 5) rfl ⟨w.heap.size + 1, 0, none⟩ rfl (mcells (oM m) A n c) _ (blk_cells HB5.out.1) Try.underlying38 rfl (by kernel_rfl) ?_)
  have HI := Lib.hid (in_any b (oT1 most) ps5 1 0 (oM m) A n c w5 HT5.out ⟨(HPT.out w5 HL5.out b.all HG.out.2.2.2).reads |> fun h => by rw [Hm.out.len] at h; exact h, Hm.out.len, Hm.out.most⟩ (HPT.out w5 HL5.out b.all HG.out.2.2.2))
  by_cases hE2 : (oT1 most).inE 1 (oM m) ≠ 0
  · have dE2 : ((oT1 most).inE 1 (oM m) != 0) = true := bne_iff_ne.2 hE2
    clear hE2
    generalize (oT1 most).inE 1 (oM m) = E2 at *
    refine HI.out.mono ?_
    rintro e w6 ⟨rfl, _, f6⟩
    have hw := HL5.out.trans (f6.below HL5.out.size HG.out.2.2.1)
    clear f6
    go_wp2_with fail
    go_ret
    exact ⟨rfl, hw⟩
  have hE3 : (oT1 most).inE 1 (oM m) = 0 := Decidable.not_not.1 hE2
  rw [o_in1 (oM m) most hE3, hE3] at HI
  clear hE2 hE3
  refine HI.out.mono ?_
  rintro e w6 ⟨rfl, ⟨ps6, hT⟩, f6⟩
  have HT6 := Lib.hid hT
  have HB6 := Lib.hid (And.intro (f6.blk HB5.out.1 HG.out.1) (f6.blk HB5.out.2 HG.out.2.1))
  have HL6 := Lib.hid (HL5.out.trans (f6.below HL5.out.size HG.out.2.2.1))
  clear hT f6 HT5 HB5 HL5 HI
  go_wp2_with fail
  have HC : Hid (R64 later ∧ (∀ e ∈ (oT2 (oM m) most).es, R64 e.at_) ∧ 0 ≤ most ∧ most ≤ 9223372036854775807) := Lib.hid ⟨by have := HX.out; unfold R64; omega, by intro e he; simp [oT2] at he; rcases he with rfl | rfl <;> exact rz, by have := HX.out; omega, by have := HX.out; omega⟩
  have hBe := best_any b (oT2 (oM m) most) ps6 later w6 HT6.out HC.out.1 HC.out.2.1 HC.out.2.2.1 HC.out.2.2.2
  have hRo := fun W (h : TAt W b (oT2 (oM m) most) ps6) => root_any b (oT2 (oM m) most) ps6 later W h HC.out.1 HC.out.2.1 HC.out.2.2.1 HC.out.2.2.2
  rw [show (oT2 (oM m) most).es.length = 2 from rfl] at hBe
  rw [o_root (oM m) most later HX.out.2.2.1] at hRo
  have hAt := o_at (oM m) most later HX.out.2.2.1
  have hr0 : ((List.range 2).map fun j => Value.int .i64 (roleAt (oT2 (oM m) most).own ((oT2 (oM m) most).top later) ((oT2 (oM m) most).hs later) j))[0]? = some (.int .i64 0) := rfl
  generalize (List.range 2).map (fun j => Value.int .i64 (roleAt (oT2 (oM m) most).own ((oT2 (oM m) most).top later) ((oT2 (oM m) most).hs later) j)) = RS at hBe hr0
  generalize (oT2 (oM m) most).top later = T at hBe hAt
  have hcase : ∃ β : Bool, oB (oM m) most later = β ∧ (β = true ∧ cmpP ⟨m.one, m.cls, m.two, m.id⟩ oOwn < 0 ∧ later ≤ most ∨ β = false ∧ ¬ cmpP ⟨m.one, m.cls, m.two, m.id⟩ oOwn < 0 ∨ β = false ∧ cmpP ⟨m.one, m.cls, m.two, m.id⟩ oOwn < 0 ∧ ¬ later ≤ most) := by
    refine ⟨_, rfl, ?_⟩
    show (decide (cmpP ⟨m.one, m.cls, m.two, m.id⟩ oOwn < 0) && decide (later ≤ most)) = true ∧ _ ∨ _
    by_cases h1 : cmpP ⟨m.one, m.cls, m.two, m.id⟩ oOwn < 0
    · by_cases h2 : later ≤ most
      · exact .inl ⟨by rw [decide_eq_true h1, decide_eq_true h2]; rfl, h1, h2⟩
      · exact .inr (.inr ⟨by show (decide (cmpP ⟨m.one, m.cls, m.two, m.id⟩ oOwn < 0) && decide (later ≤ most)) = false; rw [decide_eq_false h2]; simp, h1, h2⟩)
    · exact .inr (.inl ⟨by show (decide (cmpP ⟨m.one, m.cls, m.two, m.id⟩ oOwn < 0) && decide (later ≤ most)) = false; rw [decide_eq_false h1]; rfl, h1⟩)
  obtain ⟨β, hβ, hcase⟩ := hcase
  rw [hβ] at hRo hAt
  have hcm := fun W => cmpP_any ⟨m.one, m.cls, m.two, m.id⟩ oOwn W
  generalize cmpP ⟨m.one, m.cls, m.two, m.id⟩ oOwn = C at hcase hcm
  have HCM := Lib.hid hcm
  have HRo := Lib.hid hRo
  have HR0 := Lib.hid hr0
  clear hβ hcm hRo hr0
  refine hBe.mono ?_
  rintro e w7 ⟨v7, rfl, own7, b7⟩
  clear hBe
  rw [show T.val = .agg #[.int .i64 T.root.one, .int .i64 T.root.cls, .int .i64 T.root.two, .int .i64 T.root.id, .int .i64 T.steps, .int .i64 T.src, .int .i64 T.port, .int .i64 T.at_] from rfl]
  have LL := b7.alloc b7.size (.cells #[.int .i64 T.root.one, .int .i64 T.root.cls, .int .i64 T.root.two, .int .i64 T.root.id, .int .i64 T.steps, .int .i64 T.src, .int .i64 T.port, .int .i64 T.at_] 31)
  have own8 := own7.alloc (.cells #[.int .i64 T.root.one, .int .i64 T.root.cls, .int .i64 T.root.two, .int .i64 T.root.id, .int .i64 T.steps, .int .i64 T.src, .int .i64 T.port, .int .i64 T.at_] 31)
  have hrow : ∃ A' c', v7 = .slice A' 2 c' ∧ ∃ g, A' = some ⟨g, 0, none⟩ ∧ Hid (w6.heap.size ≤ g ∧ ∃ cur : Array Value, Blk (w7.alloc (.cells #[.int .i64 T.root.one, .int .i64 T.root.cls, .int .i64 T.root.two, .int .i64 T.root.id, .int .i64 T.steps, .int .i64 T.src, .int .i64 T.port, .int .i64 T.at_] 31)) g 3 cur ∧ cur[0]? = some (.int .i64 0)) := by
    rcases own8.2 with ⟨_, h2⟩ | ⟨g, cap, cur, hv, hg, hh, hle, _, hsz, ht⟩
    · omega
    · refine ⟨_, cap, hv, g, rfl, Lib.hid ⟨hg, cur, hh, ?_⟩⟩
      have h3 := HR0.out
      rw [← ht, List.getElem?_take] at h3
      split at h3
      · simpa using h3
      · cases h3
  obtain ⟨A8, c8, rfl, g8, rfl, hg8⟩ := hrow
  have HV8 := Lib.hid (Blk.new w7 31 #[.int .i64 T.root.one, .int .i64 T.root.cls, .int .i64 T.root.two, .int .i64 T.root.id, .int .i64 T.steps, .int .i64 T.src, .int .i64 T.port, .int .i64 T.at_])
  have HT8 := Lib.hid (HT6.out.kept LL)
  have HB8 := Lib.hid (And.intro (HB6.out.1.kept LL) (HB6.out.2.kept LL))
  have HL8 := Lib.hid (HL6.out.trans (LL.mono HL6.out.size))
  clear own7 own8 b7 LL HT6 HB6 HL6
  rcases hcase with ⟨rfl, h1, h2⟩ | ⟨rfl, h1⟩ | ⟨rfl, h1, h2⟩
  rotate_left
  have d1 : decide (C < 0) = false := decide_eq_false h1
  clear h1
  rotate_left
  have d2 : decide (later ≤ most) = false := decide_eq_false h2
  clear h2
  all_goals
    have q10 := HB8.out.1.cellOf (v := .int .i64 m.one) 10 rfl
    have q11 := HB8.out.1.cellOf (v := .int .i64 m.cls) 11 rfl
    have q12 := HB8.out.1.cellOf (v := .int .i64 m.two) 12 rfl
    have q13 := HB8.out.1.cellOf (v := .int .i64 m.id) 13 rfl
    have r0 := HB8.out.2.cellOf (v := .int .i64 9) 0 rfl
    have r1 := HB8.out.2.cellOf (v := .int .i64 0) 1 rfl
    have r2 := HB8.out.2.cellOf (v := .int .i64 0) 2 rfl
    have r3 := HB8.out.2.cellOf (v := .int .i64 1099511627776) 3 rfl
    go_wp2_with fail
    clear q10 q11 q12 q13 r0 r1 r2 r3
    generalize w7.alloc (.cells #[.int .i64 T.root.one, .int .i64 T.root.cls, .int .i64 T.root.two, .int .i64 T.root.id, .int .i64 T.steps, .int .i64 T.src, .int .i64 T.port, .int .i64 T.at_] 31) = w8 at *
    refine (HCM.out w8).mono ?_
    rintro e w9 ⟨rfl, b9⟩
    have v9 := (HV8.out.kept b9).cellOf (v := .int .i64 T.at_) 7 rfl
    have HT9 := Lib.hid (HT8.out.kept b9)
    have HL9 := Lib.hid (HL8.out.trans (b9.mono HL8.out.size))
    have hg9 : Hid (∃ cur : Array Value, Blk w9 g8 3 cur ∧ cur[0]? = some (.int .i64 0)) := Lib.hid (by
      obtain ⟨_, cur, h1, h2⟩ := hg8.out
      exact ⟨cur, h1.kept b9, h2⟩)
    clear b9 HT8 HL8 hg8 HV8 HCM
    go_wp2_with fail
    refine (HRo.out w9 HT9.out).mono ?_
    rintro e w10 ⟨rfl, b10⟩
    have z0 : w10.cell? ⟨g8, 0, none⟩ = some (.int .i64 0) := by
      obtain ⟨cur, h1, h2⟩ := hg9.out
      rw [(h1.kept b10).cell, h2]
    have HT10 := Lib.hid (HT9.out.kept b10)
    have HL10 := Lib.hid (HL9.out.trans (b10.mono HL9.out.size))
    clear b10 HT9 HL9 hg9 HRo v9
    go_wp2_with fail
    refine (up_any b _ ps6 1 false w10 HT10.out).mono ?_
    rintro e w11 ⟨rfl, ⟨ps11, hT⟩, f11⟩
    rw [o_down] at hT
    have HT11 := Lib.hid hT
    have HL11 := Lib.hid (HL10.out.trans (f11.below HL10.out.size HG.out.2.2.1))
    clear hT f11 HT10 HL10 z0
    go_wp2_with fail
    refine (up_any b _ ps11 1 true w11 HT11.out).mono ?_
    rintro e w12 ⟨rfl, ⟨ps12, hT⟩, f12⟩
    rw [o_up] at hT
    have HT12 := Lib.hid hT
    have HL12 := Lib.hid (HL11.out.trans (f12.below HL11.out.size HG.out.2.2.1))
    clear hT f12 HT11 HL11
    go_wp2_with fail
    have hEnd := root_any b (oT1 most) ps12 0 w12 HT12.out ⟨by decide, by decide⟩ (by intro e he; simp [oT1] at he; rcases he with rfl | rfl <;> exact rz) HC.out.2.2.1 HC.out.2.2.2
    rw [o_end] at hEnd
    refine hEnd.mono ?_
    rintro e w13 ⟨rfl, b13⟩
    have hw := HL12.out.trans (b13.mono HL12.out.size)
    clear b13 hEnd
    go_wp2_with fail
    go_ret
    exact ⟨rfl, hw⟩

/-! ### The row's step -/
set_option maxRecDepth 100000 in
theorem treeOld_lifted (os : Os) (started : os.Started) (H : Type) (enc : TypeId × Value → H) :
    ReturnsInHanded {} Try.checked os 5 .any (Rows.treeOldSpec.pre6 enc Try.prog Try.f5 Rows.treeOldRow.domain false) (Rows.treeOldSpec.post enc Try.prog Try.f5 false true false false) := by
  refine returnsInHanded_of_change (C := Try.checked) own started (by kernel_rfl) Try.func5
    (ChangeSpec.witness6 (enc := enc) (C := Try.checked) false ⟨#[], #[.agg #[.int .i64 0, .int .i64 0, .int .i64 0, .int .i64 0], .agg #[.int .i64 0, .int .i64 0, .int .i64 0, .int .i64 0, .int .i64 0, .int .i64 0, .int .i64 0, .int .i64 0, .int .i64 0, .int .i64 0, .int .i64 0, .int .i64 0, .int .i64 0, .int .i64 0, .int .i64 0, .slice none 0 0], .int .i64 0, .int .i64 0], []⟩ 8 (by kernel_rfl) (by kernel_rfl) (by kernel_rfl) (by kernel_rfl)) ?_
  intro W base args ds gs before hval0 hW _ _
  have hval : ∀ (j : Nat) t v, Try.f5.params[j]? = some t → args[j]? = some v → Value.okWide Try.prog W .any base t v := hval0
  have hW' := hW
  obtain ⟨p, q, hA0, hV, rfl, hfz, hnd⟩ := hW
  have hA : DataW.TrodAll enc Try.prog W 0 (fun _ => true) true Try.f5.params.toList args.toList ds p := hA0
  rw [Try.params5] at hA hval
  obtain ⟨v0, v1, v2, v3, d0, d1, d2, d3, p0, p1, p2, p3, rfl, rfl, rfl, h0, h1, h2, h3⟩ := trodAll_four hA
  obtain ⟨a, rfl⟩ := open_prior (hval 0 23 v0 rfl rfl) h0
  obtain ⟨m, A, n, c, rfl, hn, hl, hr⟩ := open_msg (hval 1 38 v1 rfl rfl) h1 (fun x hx => hW'.lt x (by simp [hx]))
  obtain ⟨x, rfl⟩ := okWide_int Try.underlying3 (hval 2 3 v2 rfl rfl)
  obtain ⟨y, rfl⟩ := okWide_int Try.underlying3 (hval 3 3 v3 rfl rfl)
  exact law_post laidOut (by kernel_rfl) rfl (by kernel_rfl) Try.underlying4 rfl hW' (treeOld_calls a m A n c x y W ⟨hr, hl, hn⟩)

theorem treeOld_holds : Rows.TreeOldSaid :=
  OpenClaim.holds_of_wide 5 Try.f5 rfl rfl rfl rfl rfl rfl rfl ⟨rfl, rfl, rfl, rfl, rfl⟩ rfl rfl rfl rfl rfl (by kernel_rfl) Try.func5 (by kernel_rfl)
    (of_decide_eq_true (by kernel_rfl)) (by unfold Func.isWrapper; first | (rw [if_pos (by decide +kernel)]; kernel_rfl) | (rw [if_neg (by decide +kernel)]; exact ⟨rfl, rfl⟩))
    (fun os started H enc _ => treeOld_lifted os started H enc)

#print axioms treeOld_holds
end Go.Proofs.Ytcdgofndfajekaa
