/-
  RateMakes: whatever the float, the law returns true: its rate is the document's, by its own digits, or there is none for the same reason; a rate that is made is right. No condition.
-/
import Derived.Test.YtclckcjimfadlaaDigQ
namespace Go.Proofs.Ytclckcjimfadlaa
set_option linter.unusedSimpArgs false
set_option linter.unusedVariables false
open Go.RowKit Go.WideShapes Go.ChangeShapes
attribute [local go_sem] f64bits f64frombits

theorem v5000_is : v5000 = 5000 * two 1074 := by decide +kernel
theorem num_den {b : Nat} (hE : exW b ≠ 2047) : numB b * two 1074 = vR (rungW b) * denB b := by
  have hl : exW b < 2048 := Nat.mod_lt _ (by decide)
  have hm : mant b = maW b := by
    unfold mant maW
    rw [if_neg (show ¬ expo b = 2047 from hE)]
    rfl
  have hk : kexp b = 1075 - (e1W b : Int) := by
    unfold kexp e1W
    rw [if_neg (show ¬ expo b = 2047 from hE)]
    by_cases h0 : exW b = 0
    · rw [if_pos (show expo b = 0 from h0), if_pos h0]; rfl
    · rw [if_neg (show ¬ expo b = 0 from h0), if_neg h0]; rfl
  have he1 : 1 ≤ e1W b := by unfold e1W; split <;> omega
  have he2 : e1W b < 2048 := by unfold e1W; split <;> omega
  rw [vR_parts]
  unfold numB denB
  rw [hm, hk]
  show _ = maW b * two (e1W b - 1) * _
  by_cases h : 0 < 1075 - (e1W b : Int)
  · rw [if_pos h, if_pos h, Nat.mul_assoc, two_add]
    congr 2
    omega
  · rw [if_neg h, if_neg h, Nat.mul_one, Nat.mul_assoc, two_add]
    congr 2
    omega
theorem rnd_rne (x y : Nat) (hy : 0 < y) : rndV x y false 2 = rne x y := by
  have hr := Nat.mod_lt x hy
  unfold rndV rne rndMore
  rw [if_neg (show ¬ (2 : Int) = 0 by decide), if_neg (show ¬ (2 : Int) = 1 by decide)]
  generalize x % y = r at *
  generalize x / y = q at *
  by_cases h0 : r = 0
  · rw [if_pos h0, if_neg (by omega)]
  · rw [if_neg h0]
    by_cases h1 : y - r < r
    · rw [if_pos (.inl h1), decide_eq_true (show y < r + r by omega)]; rfl
    · by_cases h2 : r = y - r ∧ q % 2 = 1
      · rw [if_pos (.inr h2), decide_eq_false (show ¬ y < r + r by omega), decide_eq_true (show r + r = y by omega), decide_eq_true h2.2]; rfl
      · rw [if_neg (by omega), decide_eq_false (show ¬ y < r + r by omega)]
        by_cases h3 : r + r = y
        · rw [decide_eq_true h3, decide_eq_false (show ¬ q % 2 = 1 by omega)]; rfl
        · rw [decide_eq_false h3]; rfl
theorem refQ_is {b : Nat} (hE : exW b ≠ 2047) : refQ b = qW b := by
  have hd := denB_pos b
  have hn := num_den hE
  unfold refQ qW
  rw [rnd_rne _ _ (by omega)]
  rw [← rne_scale (numB b * 2199023255552) (denB b * 1000000) (two 1074) (two_pos _)]
  rw [← rne_scale (vR (rungW b)) ppmD (denB b * 2199023255552) (by omega)]
  have e : (two 1074) * 64 = two 1039 * 2199023255552 := by decide +kernel
  have key : ∀ A B v n d : Nat, A * 64 = B * 2199023255552 → n * A = v * d → rne (n * 2199023255552 * A) (d * 1000000 * A) = rne (v * (d * 2199023255552)) (15625 * B * (d * 2199023255552)) := by
    intro A B v n d e hn
    have e1 : n * 2199023255552 * A = v * (d * 2199023255552) := by rw [Nat.mul_right_comm, hn, Nat.mul_assoc]
    have e2 : d * 1000000 * A = 15625 * B * (d * 2199023255552) :=
      calc d * 1000000 * A = d * 15625 * (A * 64) := by grind
        _ = d * 15625 * (B * 2199023255552) := by rw [e]
        _ = 15625 * B * (d * 2199023255552) := by grind
    rw [e1, e2]
  exact key _ _ _ _ _ e hn
theorem ofV_ref {b : Nat} (hb : b < 18446744073709551616) : ofV b = refOfV b := by
  have hrun : rungW b = exW b * 4503599627370496 + frW b := by unfold rungW exW frW; omega
  have hfl : frW b < 4503599627370496 := Nat.mod_lt _ (by decide)
  have hel : exW b < 2048 := Nat.mod_lt _ (by decide)
  have hng : negB b = negW b := by unfold negB negW; exact decide_eq_decide.2 (by omega)
  unfold ofV refOfV
  rw [hng]
  by_cases hE : exW b = 2047
  · have hok : okB b = false := by unfold okB; rw [show expo b = 2047 from hE]; rfl
    by_cases hf : frW b = 0
    · have h1 : nanB b = false := by rw [nan_is hb, decide_eq_false]; omega
      have h2 : infW b = true := by unfold infW; rw [decide_eq_true]; omega
      have h3 : infB b = true := by unfold infB; rw [show expo b = 2047 from hE, show frac b = 0 from hf]; rfl
      rw [h1, h2, h3]
      simp only [if_true, if_false, Bool.false_eq_true]
    · have h1 : nanB b = true := by rw [nan_is hb, decide_eq_true]; omega
      have h3 : infB b = false := by unfold infB; rw [show ((frac b : Int) == 0) = false from beq_eq_false_iff_ne.2 (by have : frac b = frW b := rfl; omega)]; simp
      rw [h1, h3, hok]
      simp only [if_true, if_false, Bool.false_eq_true]
  · have hF : FinW b := by unfold FinW; omega
    have h1 : nanB b = false := by rw [nan_is hb, decide_eq_false]; omega
    have h2 : infW b = false := by unfold infW; rw [decide_eq_false]; omega
    have h4 : ((expo b : Int) == 2047) = false := beq_eq_false_iff_ne.2 (by have : expo b = exW b := rfl; omega)
    have h3 : infB b = false := by unfold infB; rw [h4]; rfl
    have h5 : okB b = true := by unfold okB; rw [h4]; rfl
    have hn := num_den hE
    have hd := denB_pos b
    have h6 : (v5000 < vR (rungW b)) ↔ (denB b * 5000 < numB b) := by
      rw [v5000_is]
      have ht := two_pos 1074
      generalize two 1074 = A at *
      generalize vR (rungW b) = v at *
      generalize numB b = n at *
      generalize denB b = d at *
      constructor
      · intro h
        refine Nat.lt_of_mul_lt_mul_right (a := A) ?_
        rw [hn]
        calc d * 5000 * A = 5000 * A * d := by grind
          _ < v * d := Nat.mul_lt_mul_of_pos_right h hd
      · intro h
        refine Nat.lt_of_mul_lt_mul_right (a := d) ?_
        rw [← hn]
        calc 5000 * A * d = d * 5000 * A := by grind
          _ < n * A := Nat.mul_lt_mul_of_pos_right h ht
    rw [h1, h2, h3, h5, big_is hb hF, refQ_is hE]
    by_cases hbig : denB b * 5000 < numB b
    · rw [if_pos hbig, decide_eq_true (h6.2 hbig)]; simp only [if_true, if_false, Bool.false_eq_true, Bool.true_eq_false]
    · rw [if_neg hbig, decide_eq_false (fun h => hbig (h6.1 h))]; simp only [if_true, if_false, Bool.false_eq_true, Bool.true_eq_false]
set_option maxRecDepth 100000 in
set_option maxHeartbeats 4000000 in
theorem rateMakes_calls (b : Nat) (hb : b < 18446744073709551616) (w : World) :
    Calls Try.prog 4 #[.float .f64 b] w fun e w' => e = .returned (.bool true) ∧ Below w.heap.size w w' := by
  have c1 := fun W => of_any b hb W
  have c2 := fun W => refOf_any b W hb
  rw [← ofV_ref hb] at c2
  have hok := ofV_i64 hb
  generalize ofV b = V at *
  obtain ⟨V1, V2⟩ := V
  have HC := Lib.hid (And.intro c1 c2)
  by_cases h0 : V2 = 0
  · subst h0
    have HK := Lib.hid (fun W => rcheck_ok V1 (by have := hok rfl; unfold Rg; omega) W)
    clear c1 c2 hok
    go_enter Try.func4, Try.ntmps4
    go_wp2_with fail
    refine (made_all _).mono ?_
    rintro e w1 ⟨rfl, rfl⟩
    go_wp2_with fail
    refine (HC.out.1 _).mono ?_
    rintro e w1 ⟨rfl, rfl⟩
    go_wp2_with fail
    refine (HC.out.2 _).mono ?_
    rintro e w1 ⟨rfl, b1⟩
    go_wp2_with fail
    refine (HK.out _).mono ?_
    rintro e w2 ⟨rfl, rfl⟩
    go_wp2_with fail
    go_ret
    exact ⟨rfl, b1⟩
  · have d1 : (V2 == 0) = false := beq_eq_false_iff_ne.2 h0
    have d2 : (V2 != 0) = true := bne_iff_ne.2 h0
    clear c1 c2 hok h0
    go_enter Try.func4, Try.ntmps4
    go_wp2_with fail
    refine (made_all _).mono ?_
    rintro e w1 ⟨rfl, rfl⟩
    go_wp2_with fail
    refine (HC.out.1 _).mono ?_
    rintro e w1 ⟨rfl, rfl⟩
    go_wp2_with fail
    refine (HC.out.2 _).mono ?_
    rintro e w1 ⟨rfl, b1⟩
    go_wp2_with fail
    go_ret
    exact ⟨rfl, b1⟩

/-! ### The row's step -/
set_option maxRecDepth 100000 in
theorem rateMakes_lifted (os : Os) (started : os.Started) (H : Type) (enc : TypeId × Value → H) :
    ReturnsInHanded {} Try.checked os 4 .any (Rows.rateMakesSpec.pre6 enc Try.prog Try.f4 Rows.rateMakesRow.domain false) (Rows.rateMakesSpec.post enc Try.prog Try.f4 false true false false) := by
  refine returnsInHanded_of_change (C := Try.checked) own started (by kernel_rfl) Try.func4
    (ChangeSpec.witness6 (enc := enc) (C := Try.checked) false ⟨#[], #[.float .f64 0], []⟩ 8 (by kernel_rfl) (by kernel_rfl) (by kernel_rfl) (by kernel_rfl)) ?_
  intro W base args ds gs before hval0 hW _ _
  have hval : ∀ (j : Nat) t v, Try.f4.params[j]? = some t → args[j]? = some v → Value.okWide Try.prog W .any base t v := hval0
  have hW' := hW
  obtain ⟨p, q, hA0, hV, rfl, hfz, hnd⟩ := hW
  have hA : DataW.TrodAll enc Try.prog W 0 (fun _ => true) true Try.f4.params.toList args.toList ds p := hA0
  rw [Try.params4] at hA hval
  obtain ⟨v0, d0, rfl, rfl, h0⟩ := trodAll_one hA
  obtain ⟨x1, rfl, hx1⟩ := open_f64 (hval 0 23 v0 rfl rfl) h0
  exact law_post laidOut (by kernel_rfl) rfl (by kernel_rfl) Try.underlying4 rfl hW' (rateMakes_calls x1 hx1 W)

theorem rateMakes_holds : Rows.RateMakesSaid :=
  OpenClaim.holds_of_wide 4 Try.f4 rfl rfl rfl rfl rfl rfl rfl ⟨rfl, rfl, rfl, rfl, rfl⟩ rfl rfl rfl rfl rfl (by kernel_rfl) Try.func4 (by kernel_rfl)
    (of_decide_eq_true (by kernel_rfl)) (by unfold Func.isWrapper; first | (rw [if_pos (by decide +kernel)]; kernel_rfl) | (rw [if_neg (by decide +kernel)]; exact ⟨rfl, rfl⟩))
    (fun os started H enc _ => rateMakes_lifted os started H enc)

#print axioms rateMakes_holds
end Go.Proofs.Ytclckcjimfadlaa
