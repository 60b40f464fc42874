/-
  RateBetween: whatever the three numbers, the law returns true. No condition.
-/
import Derived.Test.YtclckcjimfadlaaRateLaws
namespace Go.Proofs.Ytclckcjimfadlaa
open Go.RowKit Go.WideShapes Go.ChangeShapes
attribute [local go_sem ↓] Go.wp_at_zero Go.wp_at_succ

theorem rcheck_ok (r : Int) (h : Rg r) (w : World) : Calls Try.prog 18 #[.int .i64 r] w fun e w' => e = .returned (.int .i64 0) ∧ w = w' := by
  obtain ⟨h1, h2⟩ := h
  have d1 : decide (r < 2181843386368) = false := by simp; omega
  have d2 : decide (2216203124736 < r) = false := by simp; omega
  go_enter Try.func18, Try.ntmps18
  go_wp2
  go_ret
  exact ⟨rfl, rfl⟩
theorem between_ok (a b y : Int) (ha : I64 a) (hb : I64 b) (h0 : 0 ≤ a) (h1 : 0 ≤ b) (h : mulDivV a 2199023255552 b 2 = (y, 0)) (hy : Rg y) (w : World) :
    Calls Try.prog 29 #[.int .i64 a, .int .i64 b] w fun e w' => e = .returned (.tuple #[.int .i64 y, .int .i64 0]) ∧ Below w.heap.size w w' := by
  have hm := fun W => mulDiv_any a 2199023255552 b 2 ha (by unfold I64; omega) hb (.inr (.inr rfl)) W
  rw [h] at hm
  have hc := fun W => rcheck_ok y hy W
  have HM := Lib.hid (And.intro hm hc)
  have d1 : decide (a < 0) = false := by simp; omega
  have d2 : decide (b < 0) = false := by simp; omega
  clear hm hc h hy
  go_enter Try.func29, Try.ntmps29
  go_wp2_with fail
  refine (HM.out.1 _).mono ?_
  rintro e w1 ⟨rfl, hb1⟩
  go_wp2_with fail
  refine (HM.out.2 _).mono ?_
  rintro e w2 ⟨rfl, rfl⟩
  go_wp2_with fail
  go_ret2
  exact ⟨rfl, hb1⟩
theorem inv_any (r : Int) (hr : I64 r) (w : World) :
    Calls Try.prog 30 #[.int .i64 r] w fun e w' => e = .returned (.tuple #[.int .i64 (mulDivV 2199023255552 2199023255552 r 2).1, .int .i64 (mulDivV 2199023255552 2199023255552 r 2).2]) ∧ Below w.heap.size w w' := by
  have hm := fun W => mulDiv_any 2199023255552 2199023255552 r 2 (by unfold I64; omega) (by unfold I64; omega) hr (.inr (.inr rfl)) W
  generalize mulDivV 2199023255552 2199023255552 r 2 = x at *
  obtain ⟨x1, x2⟩ := x
  have HM := Lib.hid hm
  clear hm
  go_enter Try.func30, Try.ntmps30
  go_wp2_with fail
  refine (HM.out _).mono ?_
  rintro e w1 ⟨rfl, hb1⟩
  go_wp2_with fail
  go_ret2
  exact ⟨rfl, hb1⟩
theorem rmul_any (r s : Int) (hr : I64 r) (hs : I64 s) (w : World) :
    Calls Try.prog 31 #[.int .i64 r, .int .i64 s] w fun e w' => e = .returned (.tuple #[.int .i64 (mulDivV r s 2199023255552 2).1, .int .i64 (mulDivV r s 2199023255552 2).2]) ∧ Below w.heap.size w w' := by
  have hm := fun W => mulDiv_any r s 2199023255552 2 hr hs (by unfold I64; omega) (.inr (.inr rfl)) W
  generalize mulDivV r s 2199023255552 2 = x at *
  obtain ⟨x1, x2⟩ := x
  have HM := Lib.hid hm
  clear hm
  go_enter Try.func31, Try.ntmps31
  go_wp2_with fail
  refine (HM.out _).mono ?_
  rintro e w1 ⟨rfl, hb1⟩
  go_wp2_with fail
  go_ret2
  exact ⟨rfl, hb1⟩

theorem andI (x : Int) (k : Nat) (hk : k ≤ 62) (m : Int) (hm : m = ((2 ^ k - 1 : Nat) : Int)) : bits .and .i64 x m = x % ((2 ^ k : Nat) : Int) := by
  subst hm
  have hp : 2 ^ k ≤ 2 ^ 62 := Nat.pow_le_pow_right (by omega) hk
  have hp0 : 0 < 2 ^ k := Nat.pow_pos (by omega)
  have h : bits .and .i64 x ((2 ^ k - 1 : Nat) : Int) = IntKind.i64.wrap ((BitVec.ofInt 64 x &&& BitVec.ofInt 64 ((2 ^ k - 1 : Nat) : Int)).toNat : Int) := rfl
  have e1 : (BitVec.ofInt 64 ((2 ^ k - 1 : Nat) : Int)).toNat = 2 ^ k - 1 := ofInt_u64 _ (by omega)
  have e2 : (BitVec.ofInt 64 x).toNat = (x % 18446744073709551616).toNat := by rw [BitVec.toNat_ofInt]; simp
  have e3 : ((x % 18446744073709551616).toNat % 2 ^ k : Nat) = (x % ((2 ^ k : Nat) : Int)).toNat := by
    have hd : ((2 ^ k : Nat) : Int) ∣ 18446744073709551616 := by
      have : (2 ^ k : Nat) ∣ 18446744073709551616 := by
        rw [show (18446744073709551616 : Nat) = 2 ^ 64 from by decide]
        exact Nat.pow_dvd_pow 2 (by omega)
      exact Int.natCast_dvd_natCast.2 this
    have h1 : x % 18446744073709551616 % ((2 ^ k : Nat) : Int) = x % ((2 ^ k : Nat) : Int) := Int.emod_emod_of_dvd x hd
    have h2 : ((x % 18446744073709551616).toNat : Int) = x % 18446744073709551616 := Int.toNat_of_nonneg (by omega)
    have h3 : x % 18446744073709551616 % ((2 ^ k : Nat) : Int) = (((x % 18446744073709551616).toNat % 2 ^ k : Nat) : Int) := by rw [Int.natCast_emod, h2]
    rw [← h1, h3, Int.toNat_natCast]
  rw [h, BitVec.toNat_and, e1, e2, Nat.and_two_pow_sub_one_eq_mod, e3]
  have hnn : 0 ≤ x % ((2 ^ k : Nat) : Int) := Int.emod_nonneg _ (by omega)
  have hlt : x % ((2 ^ k : Nat) : Int) < ((2 ^ k : Nat) : Int) := Int.emod_lt_of_pos _ (by omega)
  rw [Int.toNat_of_nonneg hnn]
  have : IntKind.i64.wrap (x % ((2 ^ k : Nat) : Int)) = x % ((2 ^ k : Nat) : Int) := IntWalk.i64_in _ (by constructor <;> omega)
  exact this

/-- What the three numbers come to. -/
theorem rate_facts (a b m : Int) (ha : 1000000 ≤ a ∧ a < 4295967296) (hb : a - 512 ≤ b ∧ b ≤ a + 511) (hm : 0 ≤ m ∧ m ≤ 255) :
    ∃ y z w v : Int, mulDivV a 2199023255552 b 2 = (y, 0) ∧ mulDivV (a + m) 2199023255552 b 2 = (z, 0) ∧ mulDivV b 2199023255552 a 2 = (w, 0) ∧ mulDivV 2199023255552 2199023255552 w 2 = (v, 0) ∧ Rg y ∧ Rg z ∧ Rg w ∧ 0 ≤ v ∧ v ≤ 2300000000000 ∧ y ≤ z ∧ -2 ≤ y - v ∧ y - v ≤ 2 ∧ (y < 2199023255552 ↔ a < b) := by
  obtain ⟨y, ey, ny⟩ := md_near (a := a) (b := 2199023255552) (c := b) (by omega) (by omega) (by omega) (by omega)
  obtain ⟨z, ez, nz⟩ := md_near (a := a + m) (b := 2199023255552) (c := b) (by omega) (by omega) (by omega) (by omega)
  obtain ⟨w, ew, nw⟩ := md_near (a := b) (b := 2199023255552) (c := a) (by omega) (by omega) (by omega) (by omega)
  have ry := near_range ny (by omega) (by omega) (by omega)
  have rz := near_range nz (by omega) (by omega) (by omega)
  have rw_ := near_range nw (by omega) (by omega) (by omega)
  have rw1 := rw_.1
  obtain ⟨v, ev, nv⟩ := md_near (a := 2199023255552) (b := 2199023255552) (c := w) (by omega) (by omega) (by omega) (by omega)
  have hback := near_back ny nw nv ry rw_ (by omega)
  have ry1 := ry.1
  have ry2 := ry.2
  have hyz : y ≤ z := by
    rcases Int.lt_or_le 0 m with h | h
    · exact near_mono ny nz h (by omega) (by omega)
    · have : m = 0 := by omega
      subst this
      rw [Int.add_zero, ey] at ez
      have := congrArg Prod.fst ez
      exact Int.le_of_eq this
  exact ⟨y, z, w, v, ey, ez, ew, ev, ry, rz, rw_, by omega, by omega, hyz, hback.1, hback.2, near_less ny (by omega) (by omega)⟩

set_option maxHeartbeats 2000000 in
theorem rateBetween_calls (a b m : Int) (w : World) :
    Calls Try.prog 7 #[.int .i64 a, .int .i64 b, .int .i64 m] w fun e w' => e = .returned (.bool true) ∧ Below w.heap.size w w' := by
  have e1 : bits .and .i64 a 4294967295 = a % 4294967296 := andI a 32 (by omega) _ rfl
  have e2 : bits .and .i64 b 1023 = b % 1024 := andI b 10 (by omega) _ rfl
  have e3 : bits .and .i64 m 255 = m % 256 := andI m 8 (by omega) _ rfl
  obtain ⟨a', ha'⟩ : ∃ a', a' = a % 4294967296 := ⟨_, rfl⟩
  obtain ⟨b', hb'⟩ : ∃ b', b' = b % 1024 := ⟨_, rfl⟩
  obtain ⟨m', hm'⟩ : ∃ m', m' = m % 256 := ⟨_, rfl⟩
  rw [← ha'] at e1
  rw [← hb'] at e2
  rw [← hm'] at e3
  have a0 : 0 ≤ a' := by omega
  have a1 : a' ≤ 4294967295 := by omega
  have b0 : 0 ≤ b' := by omega
  have b1 : b' ≤ 1023 := by omega
  have m0 : 0 ≤ m' := by omega
  have m1 : m' ≤ 255 := by omega
  clear ha' hb' hm'
  obtain ⟨y, z, x, v, ey, ez, ew, ev, ry, rz, rx, v0, v1, hyz, k1, k2, hlt⟩ := rate_facts (1000000 + a') (1000000 + a' + b' - 512) m' (by omega) (by omega) (by omega)
  have h55 : mulDivV 5 2199023255552 5 2 = (2199023255552, 0) := by decide +kernel
  have c0 := fun W => between_ok 5 5 2199023255552 (by unfold I64; omega) (by unfold I64; omega) (by omega) (by omega) h55 (by unfold Rg; omega) W
  have c1 := fun W => between_ok (1000000 + a') (1000000 + a' + b' - 512) y (by unfold I64; omega) (by unfold I64; omega) (by omega) (by omega) ey ry W
  have c2 := fun W => between_ok (1000000 + a' + m') (1000000 + a' + b' - 512) z (by unfold I64; omega) (by unfold I64; omega) (by omega) (by omega) ez rz W
  have c3 := fun W => between_ok (1000000 + a' + b' - 512) (1000000 + a') x (by unfold I64; omega) (by unfold I64; omega) (by omega) (by omega) ew rx W
  have c4 := fun W => inv_any x (by obtain ⟨x1, x2⟩ := rx; unfold I64; omega) W
  rw [ev] at c4
  have HC := Lib.hid (And.intro c0 (And.intro c1 (And.intro c2 (And.intro c3 c4))))
  have HL := Lib.hid hlt
  have hy1 := ry.1
  have hy2 := ry.2
  clear c0 c1 c2 c3 c4 ey ez ew ev ry rz rx hlt h55
  go_enter Try.func7, Try.ntmps7
  go_wp2_with fail
  refine (HC.out.1 _).mono ?_
  rintro e w1 ⟨rfl, hb1⟩
  go_wp2_with fail
  refine (HC.out.2.1 _).mono ?_
  rintro e w2 ⟨rfl, hb2⟩
  go_wp2_with fail
  refine (HC.out.2.2.1 _).mono ?_
  rintro e w3 ⟨rfl, hb3⟩
  go_wp2_with fail
  refine (HC.out.2.2.2.1 _).mono ?_
  rintro e w4 ⟨rfl, hb4⟩
  go_wp2_with fail
  refine (HC.out.2.2.2.2 _).mono ?_
  rintro e w5 ⟨rfl, hb5⟩
  have hz1 := hb1.size
  have hz2 := hb2.size
  have hz3 := hb3.size
  have hz4 := hb4.size
  have hb : Below w.heap.size w w5 := hb1.trans ((hb2.trans ((hb3.trans ((hb4.trans (hb5.mono hz4)).mono hz3)).mono hz2)).mono hz1)
  clear hb1 hb2 hb3 hb4 hb5 hz1 hz2 hz3 hz4
  go_wp2_with fail
  go_ret
  refine ⟨ret_bool ?_, hb⟩
  show (decide (y < 2199023255552) == decide (1000000 + a' < 1000000 + a' + b' - 512)) = true
  rw [beq_iff_eq, decide_eq_decide]
  exact HL.out
theorem own : ownKnob Try.prog.godebug = none := by kernel_rfl
theorem laidOut : laidOutB Try.prog = true := by kernel_rfl

/-! ### The row's step -/
set_option maxRecDepth 100000 in
theorem rateBetween_lifted (os : Os) (started : os.Started) (H : Type) (enc : TypeId × Value → H) :
    ReturnsInHanded {} Try.checked os 7 .any (Rows.rateBetweenSpec.pre6 enc Try.prog Try.f7 Rows.rateBetweenRow.domain false) (Rows.rateBetweenSpec.post enc Try.prog Try.f7 false true false false) := by
  refine returnsInHanded_of_change (C := Try.checked) own started (by kernel_rfl) Try.func7
    (ChangeSpec.witness6 (enc := enc) (C := Try.checked) false ⟨#[], #[.int .i64 0, .int .i64 0, .int .i64 0], []⟩ 8 (by kernel_rfl) (by kernel_rfl) (by kernel_rfl) (by kernel_rfl)) ?_
  intro W base args ds gs before hval0 hW _ _
  have hval : ∀ (j : Nat) t v, Try.f7.params[j]? = some t → args[j]? = some v → Value.okWide Try.prog W .any base t v := hval0
  have hW' := hW
  obtain ⟨p, q, hA0, hV, rfl, hfz, hnd⟩ := hW
  have hA : DataW.TrodAll enc Try.prog W 0 (fun _ => true) true Try.f7.params.toList args.toList ds p := hA0
  rw [Try.params7] at hA hval
  obtain ⟨v0, v1, v2, d0, d1, d2, p0, p1, p2, rfl, rfl, rfl, h0, h1, h2⟩ := trodAll_three hA
  obtain ⟨a, rfl⟩ := okWide_int Try.underlying3 (hval 0 3 v0 rfl rfl)
  obtain ⟨b, rfl⟩ := okWide_int Try.underlying3 (hval 1 3 v1 rfl rfl)
  obtain ⟨m, rfl⟩ := okWide_int Try.underlying3 (hval 2 3 v2 rfl rfl)
  exact law_post laidOut (by kernel_rfl) rfl (by kernel_rfl) Try.underlying4 rfl hW' (rateBetween_calls a b m W)

theorem rateBetween_holds : Rows.RateBetweenSaid :=
  OpenClaim.holds_of_wide 7 Try.f7 rfl rfl rfl rfl rfl rfl rfl ⟨rfl, rfl, rfl, rfl, rfl⟩ rfl rfl rfl rfl rfl (by kernel_rfl) Try.func7 (by kernel_rfl)
    (of_decide_eq_true (by kernel_rfl)) (by unfold Func.isWrapper; first | (rw [if_pos (by decide +kernel)]; kernel_rfl) | (rw [if_neg (by decide +kernel)]; exact ⟨rfl, rfl⟩))
    (fun os started H enc _ => rateBetween_lifted os started H enc)

#print axioms rateBetween_holds
end Go.Proofs.Ytclckcjimfadlaa
