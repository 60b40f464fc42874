/-
  OscWhens: whatever the start, the turns and the time told, the law returns true: the first true time at which a clock tells so much: it does then, and not ahead of it. No condition.
-/
import Derived.Test.YtfpbahihndgabaaOscH
namespace Go.Proofs.Ytfpbahihndgabaa
set_option linter.unusedSimpArgs false
set_option linter.unusedVariables false
open Go.RowKit Go.WideShapes Go.ChangeShapes
attribute [local go_sem ↓] Go.wp_at_zero Go.wp_at_succ

set_option maxRecDepth 100000 in
set_option maxHeartbeats 4000000 in
theorem oscWhens_calls (x s : Int) (A : Option Addr) (n c : Nat) (tA tR : Nat → Int) (w : World) (hT : TIn w A n tA tR) :
    Calls Try.prog 3 #[.int .i64 x, .slice A n c, .int .i64 s] w fun e w' => e = .returned (.bool true) ∧ Below w.heap.size w w' := by
  have HT := Lib.hid hT
  clear hT
  by_cases hn : 64 < n
  · have dn : (64 : Int) < (n : Int) := by omega
    clear hn
    go_enter Try.func3, Try.ntmps3
    go_wp2_with fail
    refine (head_any _).mono ?_
    rintro e w1 ⟨rfl, b1⟩
    go_wp2_with fail
    go_ret
    exact ⟨rfl, b1⟩
  have dn : decide ((64 : Int) < (n : Int)) = false := by simp; omega
  have hok := fun h : newE x 1 n tA tR = 0 => new_ok h
  have HN1 := Lib.hid (fun W (h : TIn W A n tA tR) => new_any x 1 A n c tA tR W h)
  have HOK := Lib.hid hok
  generalize newE x 1 n tA tR = E at *
  clear hok hn
  go_enter Try.func3, Try.ntmps3
  go_wp2_with fail
  refine (head_any _).mono ?_
  rintro e w1 ⟨rfl, b1⟩
  have HT1 := Lib.hid (HT.out.below b1)
  clear HT
  go_wp2_with fail
  refine (HN1.out w1 HT1.out).mono ?_
  rintro e w2 ⟨h2, b2⟩
  have hb1 := b1.size
  have bw2 := b1.trans (b2.mono hb1)
  clear HT1 HN1 b1 b2 hb1
  by_cases hE : E = 0
  · have ho := HOK.out hE
    rcases h2 with ⟨h, _⟩ | ⟨_, g, rfl, hgg, hC⟩
    · exact absurd hE h
    subst hE
    have HC := Lib.hid hC
    have HO := Lib.hid ho
    clear hC ho hgg HOK
    go_wp2_with fail
    refine (when_any g s x n tA tR _ 1 w2 HC.out HO.out.1 HO.out.2.1).mono ?_
    rintro e w3 ⟨h3, b3⟩
    have hb2 := bw2.size
    have bw3 := bw2.trans (b3.mono hb2)
    have HC3 := Lib.hid (HC.out.below b3)
    have HA := Lib.hid (at_any g 1099511627776 x n tA tR _ 1 w3 HC3.out HO.out.1 HO.out.2.1 (by omega) (by omega))
    clear HC b3 bw2 hb2
    rcases h3 with ⟨h, rfl⟩ | ⟨h, k, rfl, hk, k1, k2⟩
    · generalize tellV n tA tR (baseV x tA tR) 1099511627776 = L at *
      go_wp2_with fail
      refine HA.out.mono ?_
      rintro e w4 ⟨rfl, b4⟩
      have hb3 := bw3.size
      have bw4 := bw3.trans (b4.mono hb3)
      clear HA HC3 b4 bw3 hb3
      go_wp2_with fail
      go_ret
      exact ⟨rfl, bw4⟩
    · have hk3 : s ≤ tellV n tA tR (baseV x tA tR) (k : Int) := by
        rcases Nat.lt_or_ge k 1099511627776 with h4 | h4
        · exact k2 k (Nat.le_refl _) h4
        · obtain rfl : k = 1099511627776 := by omega
          exact h
      have hk4 : ∀ j, k = j + 1 → tellV n tA tR (baseV x tA tR) (j : Int) < s := fun j hj => k1 j (by omega)
      have HK := Lib.hid (And.intro hk (And.intro hk3 hk4))
      have dh : decide (tellV n tA tR (baseV x tA tR) 1099511627776 < s) = false := decide_eq_false (by omega)
      generalize tellV n tA tR (baseV x tA tR) 1099511627776 = L at *
      clear hk k1 k2 hk3 hk4 h
      go_wp2_with fail
      refine HA.out.mono ?_
      rintro e w4 ⟨rfl, b4⟩
      have hb3 := bw3.size
      have bw4 := bw3.trans (b4.mono hb3)
      have HC4 := Lib.hid (HC3.out.below b4)
      clear HA HC3 b4 bw3 hb3
      go_wp2_with fail
      refine (at_any g (k : Int) x n tA tR _ 1 w4 HC4.out HO.out.1 HO.out.2.1 (by omega) (by have := HK.out.1; omega)).mono ?_
      rintro e w5 ⟨rfl, b5⟩
      have hb4 := bw4.size
      have bw5 := bw4.trans (b5.mono hb4)
      have HC5 := Lib.hid (HC4.out.below b5)
      obtain ⟨V, hV⟩ : ∃ V, V = tellV n tA tR (baseV x tA tR) (k : Int) := ⟨_, rfl⟩
      have dv : decide (V < s) = false := decide_eq_false (by rw [hV]; have := HK.out.2.1; omega)
      rw [← hV]
      clear HC4 b5 bw4 hb4 hV
      rcases Nat.eq_zero_or_pos k with rfl | hp
      · go_wp2_with fail
        go_ret
        exact ⟨rfl, bw5⟩
      · obtain ⟨j, hj⟩ : ∃ j, k = j + 1 := ⟨k - 1, by omega⟩
        have hk4 := HK.out.2.2 j hj
        have hj2 : j < 1099511627776 := by have := HK.out.1; omega
        have d0 : ((k : Int) == 0) = false := beq_eq_false_iff_ne.2 (by omega)
        have f0 : IntKind.i64.wrap ((k : Int) - 1) = (j : Int) := by rw [show (k : Int) - 1 = (j : Int) by omega]; exact IntWalk.i64_in _ ⟨by omega, by omega⟩
        have HA5 := Lib.hid (at_any g (j : Int) x n tA tR _ 1 w5 HC5.out HO.out.1 HO.out.2.1 (by omega) (by omega))
        generalize tellV n tA tR (baseV x tA tR) (j : Int) = V2 at *
        clear hj hp HC5 hj2
        go_wp2_with fail
        refine HA5.out.mono ?_
        rintro e w6 ⟨rfl, b6⟩
        have hb5 := bw5.size
        have bw6 := bw5.trans (b6.mono hb5)
        clear HA5 b6 bw5 hb5
        go_wp2_with fail
        go_ret
        exact ⟨rfl, bw6⟩
  · have d1 : (E != 0) = true := bne_iff_ne.2 hE
    have d2 : (E == 0) = false := beq_eq_false_iff_ne.2 hE
    rcases h2 with ⟨_, rfl⟩ | ⟨h, _⟩
    · clear HOK hE
      go_wp2_with fail
      go_ret
      exact ⟨rfl, bw2⟩
    · exact absurd h hE

/-! ### The row's step -/
set_option maxRecDepth 100000 in
theorem oscWhens_lifted (os : Os) (started : os.Started) (H : Type) (enc : TypeId × Value → H) :
    ReturnsInHanded {} Try.checked os 3 .any (Rows.oscWhensSpec.pre6 enc Try.prog Try.f3 Rows.oscWhensRow.domain false) (Rows.oscWhensSpec.post enc Try.prog Try.f3 false true false false) := by
  refine returnsInHanded_of_change (C := Try.checked) own started (by kernel_rfl) Try.func3
    (ChangeSpec.witness6 (enc := enc) (C := Try.checked) false ⟨#[], #[.int .i64 0, .slice none 0 0, .int .i64 0], []⟩ 8 (by kernel_rfl) (by kernel_rfl) (by kernel_rfl) (by kernel_rfl)) ?_
  intro W base args ds gs before hval0 hW _ _
  have hval : ∀ (j : Nat) t v, Try.f3.params[j]? = some t → args[j]? = some v → Value.okWide Try.prog W .any base t v := hval0
  have hW' := hW
  obtain ⟨p, q, hA0, hV, rfl, hfz, hnd⟩ := hW
  have hA : DataW.TrodAll enc Try.prog W 0 (fun _ => true) true Try.f3.params.toList args.toList ds p := hA0
  rw [Try.params3] at hA hval
  obtain ⟨v0, v1, v2, d0, d1, d2, p0, p1, p2, rfl, rfl, rfl, h0, h1, h2⟩ := trodAll_three hA
  obtain ⟨a, rfl⟩ := okWide_int Try.underlying22 (hval 0 22 v0 rfl rfl)
  obtain ⟨A, n, c, tA, tR, rfl, _, hT, _⟩ := open_turns (hval 1 23 v1 rfl rfl) h1 (fun x hx => hW'.lt x (by simp [hx]))
  obtain ⟨t, rfl⟩ := okWide_int Try.underlying22 (hval 2 22 v2 rfl rfl)
  exact law_post laidOut (by kernel_rfl) rfl (by kernel_rfl) Try.underlying4 rfl hW' (oscWhens_calls a t A n c tA tR W hT)

theorem oscWhens_holds : Rows.OscWhensSaid :=
  OpenClaim.holds_of_wide 3 Try.f3 rfl rfl rfl rfl rfl rfl rfl ⟨rfl, rfl, rfl, rfl, rfl⟩ rfl rfl rfl rfl rfl (by kernel_rfl) Try.func3 (by kernel_rfl)
    (of_decide_eq_true (by kernel_rfl)) (by unfold Func.isWrapper; first | (rw [if_pos (by decide +kernel)]; kernel_rfl) | (rw [if_neg (by decide +kernel)]; exact ⟨rfl, rfl⟩))
    (fun os started H enc _ => oscWhens_lifted os started H enc)

#print axioms oscWhens_holds
end Go.Proofs.Ytfpbahihndgabaa
