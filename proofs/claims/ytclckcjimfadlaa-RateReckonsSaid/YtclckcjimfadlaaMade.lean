/-
  Layer 2's example: the rate that is one millionth faster.
-/
import Derived.Test.YtclckcjimfadlaaRateBetween
import Derived.Laws.FloatBits
namespace Go.Proofs.Ytclckcjimfadlaa
open Go.RowKit
theorem f64bits (b : Nat) (w : World) : (callFunc 12 #[.float .f64 b]).run Try.prog w = .ok (.value (.int .u64 b)) w := by kernel_rfl
theorem f64frombits (b : Int) (w : World) : (callFunc 35 #[.int .u64 b]).run Try.prog w = .ok (.value (.float .f64 b.toNat)) w := by kernel_rfl
attribute [local go_sem] f64bits f64frombits
theorem isNaN_one (w : World) : Calls Try.prog 21 #[.float .f64 4607182418800017408] w fun e w' => e = .returned (.bool false) ∧ w = w' := by
  have h : ∀ w, (binOp .neq 23 (.float .f64 4607182418800017408) (.float .f64 4607182418800017408)).run Try.prog w = .ok (.bool false) w := fun w => by kernel_rfl
  go_enter Try.func21, Try.ntmps21
  go_wp2_with fail
  go_ret
  exact ⟨rfl, rfl⟩
theorem abs_one (w : World) : Calls Try.prog 42 #[.float .f64 4607182418800017408] w fun e w' => e = .returned (.float .f64 4607182418800017408) ∧ w = w' := by
  go_enter Try.func42, Try.ntmps42
  go_wp2_with fail
  go_ret
  exact ⟨rfl, rfl⟩
theorem isInf_one (w : World) : Calls Try.prog 36 #[.float .f64 4607182418800017408, .int .i64 0] w fun e w' => e = .returned (.bool false) ∧ w = w' := by
  have h : ∀ w, (binOp .gtr 23 (.float .f64 4607182418800017408) (.float .f64 9218868437227405311)).run Try.prog w = .ok (.bool false) w := fun w => by kernel_rfl
  go_enter Try.func36, Try.ntmps36
  go_wp2_with fail
  refine (abs_one _).mono ?_
  rintro e w1 ⟨rfl, rfl⟩
  go_wp2_with fail
  go_ret
  exact ⟨rfl, rfl⟩
theorem sign_one (w : World) : Calls Try.prog 28 #[.float .f64 4607182418800017408] w fun e w' => e = .returned (.bool false) ∧ w = w' := by
  go_enter Try.func28, Try.ntmps28
  go_wp2_with fail
  go_ret
  exact ⟨rfl, rfl⟩
theorem of_one (w : World) : Calls Try.prog 16 #[.float .f64 4607182418800017408] w fun e w' => e = .returned (.tuple #[.int .i64 2199025454575, .int .i64 0]) ∧ w = w' := by
  have h1 : (FloatKind.f64.format.order 4607182418800017408 4662219572839972864 == some Ordering.gt) = false := by decide +kernel
  have h2 : (FloatKind.f64.format.order 4607182418800017408 13885591609694748672 == some Ordering.lt) = false := by decide +kernel
  have b1 : bits .and .u64 1023 2047 = 1023 := by decide +kernel
  have b2 : bits .and .u64 4607182418800017408 4503599627370495 = 0 := by decide +kernel
  have b3 : bits .or .u64 0 4503599627370496 = 4503599627370496 := by decide +kernel
  have s1 : IntKind.u64.wrap (15625 * 2 ^ 17) = 2048000000 := by decide +kernel
  go_enter Try.func16, Try.ntmps16
  go_wp2_with fail
  refine (isNaN_one _).mono ?_
  rintro e w1 ⟨rfl, rfl⟩
  go_wp2_with fail
  refine (isInf_one _).mono ?_
  rintro e w1 ⟨rfl, rfl⟩
  go_wp2_with fail
  refine (sign_one _).mono ?_
  rintro e w1 ⟨rfl, rfl⟩
  go_wp2_with fail
  go_ret2
  exact ⟨rfl, rfl⟩
theorem made_any (w : World) : Calls Try.prog 15 #[] w fun e w' => e = .returned (.bool true) ∧ w = w' := by
  go_enter Try.func15, Try.ntmps15
  go_wp2_with fail
  refine (of_one _).mono ?_
  rintro e w1 ⟨rfl, rfl⟩
  go_wp2_with fail
  go_ret
  exact ⟨rfl, rfl⟩
end Go.Proofs.Ytclckcjimfadlaa
