/-
  OscStart: whatever the starts, the turns and the time, the law returns true: two clocks that run alike are always as much apart as they started. No condition.
-/
import Derived.Test.YtfpbahihndgabaaOscH
namespace Go.Proofs.Ytfpbahihndgabaa
set_option linter.unusedSimpArgs false
set_option linter.unusedVariables false
open Go.RowKit Go.WideShapes Go.ChangeShapes
attribute [local go_sem ↓] Go.wp_at_zero Go.wp_at_succ

theorem base_shift (S T : Int) (tA tR : Nat → Int) : ∀ i, baseV S tA tR i - baseV T tA tR i = S - T
  | 0 => rfl
  | i + 1 => by have := base_shift S T tA tR i; unfold baseV; omega
set_option maxRecDepth 100000 in
set_option maxHeartbeats 4000000 in
theorem oscStart_calls (a b at_ : Int) (A : Option Addr) (n c : Nat) (tA tR : Nat → Int) (w : World) (hT : TIn w A n tA tR) :
    Calls Try.prog 4 #[.int .i64 a, .int .i64 b, .slice A n c, .int .i64 at_] w fun e w' => e = .returned (.bool true) ∧ Below w.heap.size w w' := by
  obtain ⟨x, hx, hx0, hx1⟩ := and_mask a 48 281474976710655 rfl (by omega)
  obtain ⟨y, hy, hy0, hy1⟩ := and_mask b 48 281474976710655 rfl (by omega)
  obtain ⟨t, ht, ht0, ht1⟩ := and_mask at_ 40 1099511627775 rfl (by omega)
  have HT := Lib.hid hT
  clear hT
  by_cases hn : 64 < n
  · have dn : (64 : Int) < (n : Int) := by omega
    clear hn
    go_enter Try.func4, Try.ntmps4
    go_wp2_with fail
    refine (head_any _).mono ?_
    rintro e w1 ⟨rfl, b1⟩
    go_wp2_with fail
    go_ret
    exact ⟨rfl, b1⟩
  have dn : decide ((64 : Int) < (n : Int)) = false := by simp; omega
  have hsame : newE x 1 n tA tR = newE y 1 n tA tR := by
    unfold newE
    have e : (n = 0 ∨ tA 0 ≠ 0 ∨ (1 : Int) < 1 ∨ (1000 : Int) < 1 ∨ x < -1152921504606846976 ∨ 1152921504606846976 < x) ↔ (n = 0 ∨ tA 0 ≠ 0 ∨ (1 : Int) < 1 ∨ (1000 : Int) < 1 ∨ y < -1152921504606846976 ∨ 1152921504606846976 < y) := by omega
    simp only [e]
  have hok := fun h : newE x 1 n tA tR = 0 => new_ok h
  have hok2 := fun h : newE y 1 n tA tR = 0 => new_ok h
  have HN1 := Lib.hid (fun W (h : TIn W A n tA tR) => new_any x 1 A n c tA tR W h)
  have HN2' := fun W (h : TIn W A n tA tR) => new_any y 1 A n c tA tR W h
  rw [← hsame] at HN2' hok2
  have HN2 := Lib.hid HN2'
  have HOK := Lib.hid (And.intro hok hok2)
  have HX := Lib.hid (And.intro hx0 (And.intro hx1 (And.intro hy0 (And.intro hy1 (And.intro ht0 ht1)))))
  generalize newE x 1 n tA tR = E at *
  clear HN2' hok hok2 hn hsame hx0 hx1 hy0 hy1 ht0 ht1
  go_enter Try.func4, Try.ntmps4
  go_wp2_with fail
  refine (head_any _).mono ?_
  rintro e w1 ⟨rfl, b1⟩
  have HT1 := Lib.hid (HT.out.below b1)
  clear HT
  go_wp2_with fail
  refine (HN1.out w1 HT1.out).mono ?_
  rintro e w2 ⟨h2, b2⟩
  have HT2 := Lib.hid (HT1.out.below b2)
  have hb1 := b1.size
  have bw2 := b1.trans (b2.mono hb1)
  clear HT1 HN1 b1 b2 hb1
  by_cases hE : E = 0
  · have ho := HOK.out.1 hE
    have ho2 := HOK.out.2 hE
    rcases h2 with ⟨h, _⟩ | ⟨_, g, rfl, hg, hC⟩
    · exact absurd hE h
    subst hE
    have HC := Lib.hid hC
    have HO := Lib.hid (And.intro ho ho2)
    clear hC ho ho2 hg HOK
    go_wp2_with fail
    refine (HN2.out w2 HT2.out).mono ?_
    rintro e w3 ⟨h3, b3⟩
    have hb2 := bw2.size
    have bw3 := bw2.trans (b3.mono hb2)
    rcases h3 with ⟨h, _⟩ | ⟨_, g2, rfl, hg2, hC2⟩
    · exact absurd rfl h
    have HC3 := Lib.hid (And.intro (HC.out.below b3) hC2)
    clear HC HT2 HN2 hC2 b3 bw2 hb2 hg2
    go_wp2_with fail
    refine (at_any g t x n tA tR _ 1 w3 HC3.out.1 HO.out.1.1 HO.out.1.2.1 HX.out.2.2.2.2.1 (by have := HX.out; omega)).mono ?_
    rintro e w4 ⟨rfl, b4⟩
    have hb3 := bw3.size
    have bw4 := bw3.trans (b4.mono hb3)
    have HC4 := Lib.hid (HC3.out.2.below b4)
    clear HC3 b4 bw3 hb3
    go_wp2_with fail
    refine (at_any g2 t y n tA tR _ 1 w4 HC4.out HO.out.2.1 HO.out.2.2.1 HX.out.2.2.2.2.1 (by have := HX.out; omega)).mono ?_
    rintro e w5 ⟨rfl, b5⟩
    have hb4 := bw4.size
    have bw5 := bw4.trans (b5.mono hb4)
    have l1 := tell_lim HO.out.1.1 HO.out.1.2.1 HX.out.2.2.2.2.1 (by have := HX.out; omega)
    have l2 := tell_lim HO.out.2.1 HO.out.2.2.1 HX.out.2.2.2.2.1 (by have := HX.out; omega)
    have hd : tellV n tA tR (baseV x tA tR) t - tellV n tA tR (baseV y tA tR) t = x - y := by
      have := base_shift x y tA tR (pcV tA t n)
      unfold tellV
      omega
    have hX := HX.out
    generalize tellV n tA tR (baseV x tA tR) t = V1 at *
    generalize tellV n tA tR (baseV y tA tR) t = V2 at *
    have f1 : IntKind.i64.wrap (V1 - V2) = x - y := by rw [hd]; exact IntWalk.i64_in _ ⟨by omega, by omega⟩
    have f2 : IntKind.i64.wrap (x - y) = x - y := IntWalk.i64_in _ ⟨by omega, by omega⟩
    clear HC4 b5 bw4 hb4 l1 l2 hd hX
    go_wp2_with fail
    go_ret
    exact ⟨rfl, bw5⟩
  · have d1 : (E != 0) = true := bne_iff_ne.2 hE
    have d2 : (E == 0) = false := beq_eq_false_iff_ne.2 hE
    rcases h2 with ⟨_, rfl⟩ | ⟨h, _⟩
    · clear HOK
      have hEE := Lib.hid hE
      clear hE
      go_wp2_with fail
      refine (HN2.out w2 HT2.out).mono ?_
      rintro e w3 ⟨h3, b3⟩
      have hb2 := bw2.size
      have bw3 := bw2.trans (b3.mono hb2)
      rcases h3 with ⟨_, rfl⟩ | ⟨h, _⟩
      · clear HT2 HN2 b3 bw2 hb2
        go_wp2_with fail
        go_ret
        exact ⟨rfl, bw3⟩
      · exact absurd h hEE.out
    · exact absurd h hE

/-! ### The row's step -/
set_option maxRecDepth 100000 in
theorem oscStart_lifted (os : Os) (started : os.Started) (H : Type) (enc : TypeId × Value → H) :
    ReturnsInHanded {} Try.checked os 4 .any (Rows.oscStartSpec.pre6 enc Try.prog Try.f4 Rows.oscStartRow.domain false) (Rows.oscStartSpec.post enc Try.prog Try.f4 false true false false) := by
  refine returnsInHanded_of_change (C := Try.checked) own started (by kernel_rfl) Try.func4
    (ChangeSpec.witness6 (enc := enc) (C := Try.checked) false ⟨#[], #[.int .i64 0, .int .i64 0, .slice none 0 0, .int .i64 0], []⟩ 8 (by kernel_rfl) (by kernel_rfl) (by kernel_rfl) (by kernel_rfl)) ?_
  intro W base args ds gs before hval0 hW _ _
  have hval : ∀ (j : Nat) t v, Try.f4.params[j]? = some t → args[j]? = some v → Value.okWide Try.prog W .any base t v := hval0
  have hW' := hW
  obtain ⟨p, q, hA0, hV, rfl, hfz, hnd⟩ := hW
  have hA : DataW.TrodAll enc Try.prog W 0 (fun _ => true) true Try.f4.params.toList args.toList ds p := hA0
  rw [Try.params4] at hA hval
  obtain ⟨v0, v1, v2, v3, d0, d1, d2, d3, p0, p1, p2, p3, rfl, rfl, rfl, h0, h1, h2, h3⟩ := trodAll_four hA
  obtain ⟨a, rfl⟩ := okWide_int Try.underlying22 (hval 0 22 v0 rfl rfl)
  obtain ⟨b, rfl⟩ := okWide_int Try.underlying22 (hval 1 22 v1 rfl rfl)
  obtain ⟨A, n, c, tA, tR, rfl, _, hT, _⟩ := open_turns (hval 2 23 v2 rfl rfl) h2 (fun x hx => hW'.lt x (by simp [hx]))
  obtain ⟨t, rfl⟩ := okWide_int Try.underlying3 (hval 3 3 v3 rfl rfl)
  exact law_post laidOut (by kernel_rfl) rfl (by kernel_rfl) Try.underlying4 rfl hW' (oscStart_calls a b t A n c tA tR W hT)

theorem oscStart_holds : Rows.OscStartSaid :=
  OpenClaim.holds_of_wide 4 Try.f4 rfl rfl rfl rfl rfl rfl rfl ⟨rfl, rfl, rfl, rfl, rfl⟩ rfl rfl rfl rfl rfl (by kernel_rfl) Try.func4 (by kernel_rfl)
    (of_decide_eq_true (by kernel_rfl)) (by unfold Func.isWrapper; first | (rw [if_pos (by decide +kernel)]; kernel_rfl) | (rw [if_neg (by decide +kernel)]; exact ⟨rfl, rfl⟩))
    (fun os started H enc _ => oscStart_lifted os started H enc)

#print axioms oscStart_holds
end Go.Proofs.Ytfpbahihndgabaa
