/-
  RateTurns: whatever the number, the law returns true: turned round twice a right rate is what it was, but for one part. No condition.
-/
import Derived.Test.YtclckcjimfadlaaMade
namespace Go.Proofs.Ytclckcjimfadlaa
open Go.RowKit Go.WideShapes Go.ChangeShapes
attribute [local go_sem ↓] Go.wp_at_zero Go.wp_at_succ

theorem rcheck_bad (r : Int) (h : ¬ Rg r) (w : World) : Calls Try.prog 18 #[.int .i64 r] w fun e w' => e = .returned (.int .i64 50) ∧ w = w' := by
  unfold Rg at h
  by_cases h1 : r < 2181843386368
  · go_enter Try.func18, Try.ntmps18
    go_wp2
    go_ret
    exact ⟨rfl, rfl⟩
  · have d1 : decide (r < 2181843386368) = false := by simp; omega
    have d2 : 2216203124736 < r := by omega
    clear h h1
    go_enter Try.func18, Try.ntmps18
    go_wp2
    go_ret
    exact ⟨rfl, rfl⟩
theorem turn_facts (x : Int) (hx : Rg x) : ∃ y z w : Int, mulDivV 2199023255552 2199023255552 x 2 = (y, 0) ∧ mulDivV 2199023255552 2199023255552 y 2 = (z, 0) ∧ mulDivV x y 2199023255552 2 = (w, 0) ∧
    (2100000000000 ≤ y ∧ y ≤ 2300000000000) ∧ (-1 ≤ z - x ∧ z - x ≤ 1) ∧ (-1 ≤ w - 2199023255552 ∧ w - 2199023255552 ≤ 1) := by
  obtain ⟨x1, x2⟩ := hx
  obtain ⟨y, ey, y0, ny1, ny2⟩ := md_near (a := 2199023255552) (b := 2199023255552) (c := x) (by omega) (by omega) (by omega) (by omega)
  have hy1 : 2100000000000 ≤ y := by
    rcases Int.lt_or_le y 2100000000000 with h | h
    · have := mul_ge (b := x) (by omega) (show y ≤ 2099999999999 by omega)
      omega
    · exact h
  have hy2 : y ≤ 2300000000000 := by
    rcases Int.lt_or_le 2300000000000 y with h | h
    · have := mul_ge (b := x) (by omega) (show 2300000000001 ≤ y by omega)
      omega
    · exact h
  obtain ⟨z, ez, z0, nz1, nz2⟩ := md_near (a := 2199023255552) (b := 2199023255552) (c := y) (by omega) (by omega) (by omega) (by omega)
  have hxy : 0 ≤ x * y := Int.mul_nonneg (by omega) (by omega)
  obtain ⟨w, ew, w0, nw1, nw2⟩ := md_near (a := x) (b := y) (c := 2199023255552) (by omega) (by omega) (by omega) (by omega)
  have e1 : y * x = x * y := Int.mul_comm _ _
  refine ⟨y, z, w, ey, ez, ew, ⟨hy1, hy2⟩, ⟨?_, ?_⟩, ⟨by omega, by omega⟩⟩
  · rcases Int.lt_or_le (z - x) (-1) with h | h
    · have := mul_ge (b := y) (by omega) (show z ≤ x + -2 by omega)
      rw [Int.mul_add] at this
      omega
    · exact h
  · rcases Int.lt_or_le 1 (z - x) with h | h
    · have := mul_ge (b := y) (by omega) (show x + 2 ≤ z by omega)
      rw [Int.mul_add] at this
      omega
    · exact h

set_option maxHeartbeats 2000000 in
theorem rateTurns_calls (r : Int) (w : World) :
    Calls Try.prog 8 #[.int .i64 r] w fun e w' => e = .returned (.bool true) ∧ Below w.heap.size w w' := by
  by_cases hr : Rg r
  · obtain ⟨y, z, x, ey, ez, ew, ⟨y1, y2⟩, ⟨z1, z2⟩, ⟨w1, w2⟩⟩ := turn_facts r hr
    have c1 := fun W => rcheck_ok r hr W
    have c2 := fun W => inv_any r (by obtain ⟨h1, h2⟩ := hr; unfold I64; omega) W
    have c3 := fun W => inv_any y (by unfold I64; omega) W
    have c4 := fun W => rmul_any r y (by obtain ⟨h1, h2⟩ := hr; unfold I64; omega) (by unfold I64; omega) W
    rw [ey] at c2
    rw [ez] at c3
    rw [ew] at c4
    have HC := Lib.hid (And.intro c1 (And.intro c2 (And.intro c3 c4)))
    obtain ⟨r1, r2⟩ := hr
    clear c1 c2 c3 c4 ey ez ew
    go_enter Try.func8, Try.ntmps8
    go_wp2_with fail
    refine (made_any _).mono ?_
    rintro e w1 ⟨rfl, rfl⟩
    go_wp2_with fail
    refine (HC.out.1 _).mono ?_
    rintro e w1 ⟨rfl, rfl⟩
    go_wp2_with fail
    refine (HC.out.2.1 _).mono ?_
    rintro e w2 ⟨rfl, hb2⟩
    go_wp2_with fail
    refine (HC.out.2.2.1 _).mono ?_
    rintro e w3 ⟨rfl, hb3⟩
    go_wp2_with fail
    refine (HC.out.2.2.2 _).mono ?_
    rintro e w4 ⟨rfl, hb4⟩
    have hz2 := hb2.size
    have hz3 := hb3.size
    have hb : Below w.heap.size w w4 := hb2.trans ((hb3.trans (hb4.mono hz3)).mono hz2)
    clear hb2 hb3 hb4 hz2 hz3
    go_wp2_with fail
    go_ret
    exact ⟨rfl, hb⟩
  · have HC := Lib.hid (fun W => rcheck_bad r hr W)
    clear hr
    go_enter Try.func8, Try.ntmps8
    go_wp2_with fail
    refine (made_any _).mono ?_
    rintro e w1 ⟨rfl, rfl⟩
    go_wp2_with fail
    refine (HC.out _).mono ?_
    rintro e w1 ⟨rfl, rfl⟩
    go_wp2_with fail
    go_ret
    exact ⟨rfl, Below.refl _ _⟩

/-! ### The row's step -/
set_option maxRecDepth 100000 in
theorem rateTurns_lifted (os : Os) (started : os.Started) (H : Type) (enc : TypeId × Value → H) :
    ReturnsInHanded {} Try.checked os 8 .any (Rows.rateTurnsSpec.pre6 enc Try.prog Try.f8 Rows.rateTurnsRow.domain false) (Rows.rateTurnsSpec.post enc Try.prog Try.f8 false true false false) := by
  refine returnsInHanded_of_change (C := Try.checked) own started (by kernel_rfl) Try.func8
    (ChangeSpec.witness6 (enc := enc) (C := Try.checked) false ⟨#[], #[.int .i64 0], []⟩ 8 (by kernel_rfl) (by kernel_rfl) (by kernel_rfl) (by kernel_rfl)) ?_
  intro W base args ds gs before hval0 hW _ _
  have hval : ∀ (j : Nat) t v, Try.f8.params[j]? = some t → args[j]? = some v → Value.okWide Try.prog W .any base t v := hval0
  have hW' := hW
  obtain ⟨p, q, hA0, hV, rfl, hfz, hnd⟩ := hW
  have hA : DataW.TrodAll enc Try.prog W 0 (fun _ => true) true Try.f8.params.toList args.toList ds p := hA0
  rw [Try.params8] at hA hval
  obtain ⟨v0, d0, rfl, rfl, h0⟩ := trodAll_one hA
  obtain ⟨a, rfl⟩ := okWide_int Try.underlying3 (hval 0 3 v0 rfl rfl)
  exact law_post laidOut (by kernel_rfl) rfl (by kernel_rfl) Try.underlying4 rfl hW' (rateTurns_calls a W)

theorem rateTurns_holds : Rows.RateTurnsSaid :=
  OpenClaim.holds_of_wide 8 Try.f8 rfl rfl rfl rfl rfl rfl rfl ⟨rfl, rfl, rfl, rfl, rfl⟩ rfl rfl rfl rfl rfl (by kernel_rfl) Try.func8 (by kernel_rfl)
    (of_decide_eq_true (by kernel_rfl)) (by unfold Func.isWrapper; first | (rw [if_pos (by decide +kernel)]; kernel_rfl) | (rw [if_neg (by decide +kernel)]; exact ⟨rfl, rfl⟩))
    (fun os started H enc _ => rateTurns_lifted os started H enc)

#print axioms rateTurns_holds
end Go.Proofs.Ytclckcjimfadlaa
