/-
  OscMarks: whatever the start, the grain, the turns and the times, the law returns true: what a clock marks is a whole number of grains, not later than it tells, and never goes back. No condition.
-/
import Derived.Test.YtfpbahihndgabaaOscH
namespace Go.Proofs.Ytfpbahihndgabaa
set_option linter.unusedSimpArgs false
set_option linter.unusedVariables false
open Go.RowKit Go.WideShapes Go.ChangeShapes
attribute [local go_sem ↓] Go.wp_at_zero Go.wp_at_succ

theorem floor_facts {s s' D : Int} (hD : 0 < D) (h0 : 0 ≤ s) (hs : s ≤ s') : s - s % D ≤ s ∧ s - (s - s % D) < D ∧ (s - s % D).tmod D = 0 ∧ s - s % D ≤ s' - s' % D ∧ 0 ≤ s - s % D := by
  have h1 := Int.emod_nonneg s (Int.ne_of_gt hD)
  have h2 := Int.emod_lt_of_pos s hD
  have e1 := Int.mul_ediv_add_emod s D
  have e2 := Int.mul_ediv_add_emod s' D
  have hq : s / D ≤ s' / D := Int.ediv_le_ediv hD hs
  have hq0 : 0 ≤ s / D := Int.ediv_nonneg h0 (Int.le_of_lt hD)
  have hm := Int.mul_le_mul_of_nonneg_left hq (Int.le_of_lt hD)
  have hm0 := Int.mul_nonneg (Int.le_of_lt hD) hq0
  have e3 : s - s % D = D * (s / D) := by omega
  refine ⟨by omega, by omega, ?_, by omega, by omega⟩
  rw [e3, Int.tmod_eq_emod_of_nonneg hm0, Int.mul_emod_right]
set_option maxRecDepth 100000 in
set_option maxHeartbeats 4000000 in
theorem oscMarks_calls (a gg at_ more : Int) (A : Option Addr) (n c : Nat) (tA tR : Nat → Int) (w : World) (hT : TIn w A n tA tR) :
    Calls Try.prog 5 #[.int .i64 a, .int .i64 gg, .slice A n c, .int .i64 at_, .int .i64 more] w fun e w' => e = .returned (.bool true) ∧ Below w.heap.size w w' := by
  obtain ⟨x, hx, hx0, hx1⟩ := and_mask a 48 281474976710655 rfl (by omega)
  obtain ⟨g1, hg, hg0, hg1⟩ := and_mask gg 9 511 rfl (by omega)
  obtain ⟨t, ht, ht0, ht1⟩ := and_mask at_ 39 549755813887 rfl (by omega)
  obtain ⟨m, hm, hm0, hm1⟩ := and_mask more 32 4294967295 rfl (by omega)
  obtain ⟨gr, hgr⟩ : ∃ gr, gr = 1 + g1 := ⟨_, rfl⟩
  have fg : IntKind.i64.wrap (1 + g1) = gr := by rw [← hgr]; exact IntWalk.i64_in _ ⟨by omega, by omega⟩
  obtain ⟨D, hD⟩ : ∃ D, D = gr * 65536 := ⟨_, rfl⟩
  have fD : IntKind.i64.wrap (gr * 65536) = D := by rw [← hD]; exact IntWalk.i64_in _ ⟨by omega, by omega⟩
  obtain ⟨t2, ht2⟩ : ∃ t2, t2 = t + m := ⟨_, rfl⟩
  have ft : IntKind.i64.wrap (t + m) = t2 := by rw [← ht2]; exact IntWalk.i64_in _ ⟨by omega, by omega⟩
  have dD : D ≠ 0 := by omega
  have HT := Lib.hid hT
  clear hT
  by_cases hn : 64 < n
  · have dn : (64 : Int) < (n : Int) := by omega
    clear hn
    go_enter Try.func5, Try.ntmps5
    go_wp2_with fail
    refine (head_any _).mono ?_
    rintro e w1 ⟨rfl, b1⟩
    go_wp2_with fail
    go_ret
    exact ⟨rfl, b1⟩
  have dn : decide ((64 : Int) < (n : Int)) = false := by simp; omega
  have hok := fun h : newE x gr n tA tR = 0 => new_ok h
  have HN1 := Lib.hid (fun W (h : TIn W A n tA tR) => new_any x gr A n c tA tR W h)
  have HOK := Lib.hid hok
  have HX := Lib.hid (And.intro hx0 (And.intro hx1 (And.intro ht0 (And.intro ht1 (And.intro hm0 (And.intro hm1 (And.intro hgr (And.intro hg0 (And.intro hg1 (And.intro hD ht2))))))))))
  generalize newE x gr n tA tR = E at *
  clear hok hn hx0 hx1 ht0 ht1 hm0 hm1 hgr hg0 hg1 hD ht2
  go_enter Try.func5, Try.ntmps5
  go_wp2_with fail
  refine (head_any _).mono ?_
  rintro e w1 ⟨rfl, b1⟩
  have HT1 := Lib.hid (HT.out.below b1)
  clear HT
  go_wp2_with fail
  refine (HN1.out w1 HT1.out).mono ?_
  rintro e w2 ⟨h2, b2⟩
  have hb1 := b1.size
  have bw2 := b1.trans (b2.mono hb1)
  clear HT1 HN1 b1 b2 hb1
  by_cases hE : E = 0
  · have ho := HOK.out hE
    rcases h2 with ⟨h, _⟩ | ⟨_, g, rfl, hgg, hC⟩
    · exact absurd hE h
    subst hE
    have HC := Lib.hid hC
    have HO := Lib.hid ho
    have hl : 0 ≤ t2 ∧ t2 ≤ 1099511627776 ∧ t ≤ 1099511627776 ∧ 0 ≤ t ∧ t ≤ t2 := by have := HX.out; omega
    have HL := Lib.hid hl
    clear hC ho hgg HOK hl
    go_wp2_with fail
    refine (at_any g t x n tA tR _ gr w2 HC.out HO.out.1 HO.out.2.1 HL.out.2.2.2.1 HL.out.2.2.1).mono ?_
    rintro e w3 ⟨rfl, b3⟩
    have hb2 := bw2.size
    have bw3 := bw2.trans (b3.mono hb2)
    have HC3 := Lib.hid (HC.out.below b3)
    clear HC b3 bw2 hb2
    go_wp2_with fail
    refine (mark_any g t x n tA tR _ gr w3 HC3.out HO.out.1 HO.out.2.1 HL.out.2.2.2.1 HL.out.2.2.1 HO.out.2.2.1 HO.out.2.2.2).mono ?_
    rintro e w4 ⟨rfl, b4⟩
    have hb3 := bw3.size
    have bw4 := bw3.trans (b4.mono hb3)
    have HC4 := Lib.hid (HC3.out.below b4)
    clear HC3 b4 bw3 hb3
    go_wp2_with fail
    refine (mark_any g t2 x n tA tR _ gr w4 HC4.out HO.out.1 HO.out.2.1 HL.out.1 HL.out.2.1 HO.out.2.2.1 HO.out.2.2.2).mono ?_
    rintro e w5 ⟨rfl, b5⟩
    have hb4 := bw4.size
    have bw5 := bw4.trans (b5.mono hb4)
    have l1 := tell_lim HO.out.1 HO.out.2.1 HL.out.2.2.2.1 HL.out.2.2.1
    have l2 := tell_mono HO.out.1 HO.out.2.1 HL.out.2.2.2.1 HL.out.2.2.2.2 HL.out.2.1
    have hX := HX.out
    have hL := HL.out
    have hff := floor_facts (D := D) (by omega) (by omega) l2
    unfold markV
    rw [← hX.2.2.2.2.2.2.2.2.2.1]
    generalize tellV n tA tR (baseV x tA tR) t = V1 at *
    generalize tellV n tA tR (baseV x tA tR) t2 = V2 at *
    generalize V1 - V1 % D = U1 at *
    generalize V2 - V2 % D = U2 at *
    obtain ⟨k1, k2, k3, k4, k5⟩ := hff
    have f1 : IntKind.i64.wrap (V1 - U1) = V1 - U1 := IntWalk.i64_in _ ⟨by omega, by omega⟩
    clear HC4 b5 bw4 hb4 l1 l2 hX hL k5
    go_wp2_with fail
    go_ret
    exact ⟨rfl, bw5⟩
  · have d1 : (E != 0) = true := bne_iff_ne.2 hE
    have d2 : (E == 0) = false := beq_eq_false_iff_ne.2 hE
    rcases h2 with ⟨_, rfl⟩ | ⟨h, _⟩
    · clear HOK hE
      go_wp2_with fail
      go_ret
      exact ⟨rfl, bw2⟩
    · exact absurd h hE

/-! ### The row's step -/
set_option maxRecDepth 100000 in
theorem oscMarks_lifted (os : Os) (started : os.Started) (H : Type) (enc : TypeId × Value → H) :
    ReturnsInHanded {} Try.checked os 5 .any (Rows.oscMarksSpec.pre6 enc Try.prog Try.f5 Rows.oscMarksRow.domain false) (Rows.oscMarksSpec.post enc Try.prog Try.f5 false true false false) := by
  refine returnsInHanded_of_change (C := Try.checked) own started (by kernel_rfl) Try.func5
    (ChangeSpec.witness6 (enc := enc) (C := Try.checked) false ⟨#[], #[.int .i64 0, .int .i64 0, .slice none 0 0, .int .i64 0, .int .i64 0], []⟩ 8 (by kernel_rfl) (by kernel_rfl) (by kernel_rfl) (by kernel_rfl)) ?_
  intro W base args ds gs before hval0 hW _ _
  have hval : ∀ (j : Nat) t v, Try.f5.params[j]? = some t → args[j]? = some v → Value.okWide Try.prog W .any base t v := hval0
  have hW' := hW
  obtain ⟨p, q, hA0, hV, rfl, hfz, hnd⟩ := hW
  have hA : DataW.TrodAll enc Try.prog W 0 (fun _ => true) true Try.f5.params.toList args.toList ds p := hA0
  rw [Try.params5] at hA hval
  obtain ⟨v0, v1, v2, v3, v4, d0, d1, d2, d3, d4, p0, p1, p2, p3, p4, rfl, rfl, rfl, h0, h1, h2, h3, h4⟩ := trodAll_five hA
  obtain ⟨a, rfl⟩ := okWide_int Try.underlying22 (hval 0 22 v0 rfl rfl)
  obtain ⟨b, rfl⟩ := okWide_int Try.underlying3 (hval 1 3 v1 rfl rfl)
  obtain ⟨A, n, c, tA, tR, rfl, _, hT, _⟩ := open_turns (hval 2 23 v2 rfl rfl) h2 (fun x hx => hW'.lt x (by simp [hx]))
  obtain ⟨t, rfl⟩ := okWide_int Try.underlying3 (hval 3 3 v3 rfl rfl)
  obtain ⟨m, rfl⟩ := okWide_int Try.underlying3 (hval 4 3 v4 rfl rfl)
  exact law_post laidOut (by kernel_rfl) rfl (by kernel_rfl) Try.underlying4 rfl hW' (oscMarks_calls a b t m A n c tA tR W hT)

theorem oscMarks_holds : Rows.OscMarksSaid :=
  OpenClaim.holds_of_wide 5 Try.f5 rfl rfl rfl rfl rfl rfl rfl ⟨rfl, rfl, rfl, rfl, rfl⟩ rfl rfl rfl rfl rfl (by kernel_rfl) Try.func5 (by kernel_rfl)
    (of_decide_eq_true (by kernel_rfl)) (by unfold Func.isWrapper; first | (rw [if_pos (by decide +kernel)]; kernel_rfl) | (rw [if_neg (by decide +kernel)]; exact ⟨rfl, rfl⟩))
    (fun os started H enc _ => oscMarks_lifted os started H enc)

#print axioms oscMarks_holds
end Go.Proofs.Ytfpbahihndgabaa
