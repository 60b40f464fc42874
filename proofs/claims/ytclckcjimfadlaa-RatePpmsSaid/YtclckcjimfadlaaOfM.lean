/-
  The law's own start, floats as arguments, and what rate.Of gives: shared by RateMakes and RatePpms.
-/
import Derived.Test.YtclckcjimfadlaaOf
import Derived.Test.YtclckcjimfadlaaRateBetween
namespace Go.Proofs.Ytclckcjimfadlaa
set_option linter.unusedSimpArgs false
set_option linter.unusedVariables false
open Go.RowKit Go.WideShapes Go.ChangeShapes
attribute [local go_sem] f64bits f64frombits

theorem nan_is {b : Nat} (hb : b < 18446744073709551616) : nanB b = decide (9218868437227405312 < rungW b) := by
  by_cases hf : FinW b
  · have : nanB b = false := by
      unfold nanB
      rw [show FloatKind.f64.format.order b b = Ieee.double.order b b from rfl, order_fin hb hb hf hf, Int.compare_eq_eq.2 rfl]
      rfl
    rw [this, decide_eq_false]
    unfold FinW at hf; omega
  · unfold nanB
    rw [show FloatKind.f64.format.order b b = Ieee.double.order b b from rfl]
    unfold Ieee.Format.order
    unfold FinW at hf
    rcases read_not (b := b) (by unfold FinW; exact hf) with ⟨s, h, h1⟩ | ⟨s, f, h, h1⟩
    · rw [h, h1]; cases s <;> rfl
    · rw [h, decide_eq_true (by omega)]; rfl
theorem ofV_ok {b : Nat} (hb : b < 18446744073709551616) (h : (ofV b).2 = 0) : FinW b ∧ (ofV b).1 = if negW b = true then 2199023255552 - (qW b : Int) else 2199023255552 + (qW b : Int) := by
  unfold ofV at h ⊢
  cases hn : nanB b
  · rw [hn] at h
    simp only [Bool.false_eq_true, if_false] at h ⊢
    cases hi : infW b
    · rw [hi] at h
      simp only [Bool.false_eq_true, if_false] at h ⊢
      refine ⟨inf_fin hn hi, ?_⟩
      cases hg : bigW b
      · simp
      · rw [hg] at h; simp at h
    · rw [hi] at h; simp at h
  · rw [hn] at h; simp at h
set_option maxRecDepth 100000 in
theorem qW_5000 : qW 4662219572839972864 = 10995116278 := by decide +kernel
theorem ofV_i64 {b : Nat} (hb : b < 18446744073709551616) (h : (ofV b).2 = 0) : 2188028139274 ≤ (ofV b).1 ∧ (ofV b).1 ≤ 2210018371830 := by
  obtain ⟨hf, e1⟩ := ofV_ok hb h
  have hg : bigW b = false := by
    cases hg : bigW b
    · rfl
    · exfalso
      unfold ofV at h
      rw [hg] at h
      revert h
      cases nanB b <;> cases infW b <;> simp
  rw [big_is hb hf] at hg
  have hle : vR (rungW b) ≤ v5000 := by have := of_decide_eq_false hg; omega
  have hq : qW b ≤ 10995116278 := by rw [← qW_5000]; exact qW_mono hle
  rw [e1]
  split <;> omega
set_option maxRecDepth 100000 in
theorem ofV_one : ofV 4607182418800017408 = (2199025454575, 0) := by decide +kernel
theorem made_all (w : World) : Calls Try.prog 15 #[] w fun e w' => e = .returned (.bool true) ∧ w = w' := by
  have C := Lib.hid (of_any 4607182418800017408 (by omega))
  have HV := Lib.hid ofV_one
  go_enter Try.func15, Try.ntmps15
  go_wp2_with fail
  refine (C.out _).mono ?_
  rintro e w1 ⟨rfl, rfl⟩
  rw [HV.out]
  go_wp2_with fail
  go_ret
  exact ⟨rfl, rfl⟩
theorem open_f64 {H : Type} {enc : TypeId × Value → H} {W : World} {v : Value} {d : DataW H} {p : List MemPlace} {b0 : Nat} (hv : Value.okWide Try.prog W .any b0 23 v)
    (h : DataW.Trod enc Try.prog W 0 (fun _ => true) true 23 v d p) : ∃ b, v = .float .f64 b ∧ b < 18446744073709551616 := by
  have ht : Try.prog.underlying 23 = some (.float .f64) := Try.underlying23
  have hv' : ∃ b, v = .float .f64 b := by
    simp only [Value.okWide, ht, Cell.okWide] at hv
    cases v <;> simp_all [Cell.ok]
  obtain ⟨b, rfl⟩ := hv'
  obtain ⟨fuel, hf⟩ := h
  obtain ⟨n, hn, hw⟩ := trod_float' (cs := [.float .f64 b]) ht (by simpa [Value.cells] using hf)
  simp only [List.cons.injEq, and_true, Value.float.injEq, true_and] at hn
  subst hn
  exact ⟨b, rfl, by simpa [Lit.wf] using hw⟩
end Go.Proofs.Ytclckcjimfadlaa
