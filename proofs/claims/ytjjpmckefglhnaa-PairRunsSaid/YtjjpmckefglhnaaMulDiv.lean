/-
  Layer 1: wide's Mul, Div, Add, Of, abs, MulDiv: what they give.
-/
import Derived.Test.YtjjpmckefglhnaaDiv64
import Derived.Laws.Externs
namespace Go.Proofs.Ytjjpmckefglhnaa
open Go.RowKit
attribute [local go_sem ↓] Go.wp_at_zero Go.wp_at_succ

set_option maxHeartbeats 1000000 in
theorem div64_zero (lo y : Nat) (h0 : 0 < y) (hlo : lo < 18446744073709551616) (w : World) :
    Calls Try.prog 45 #[.int .u64 0, .int .u64 lo, .int .u64 y] w fun e w' => e = .returned (.tuple #[.int .u64 ((lo / y : Nat) : Int), .int .u64 ((lo % y : Nat) : Int)]) ∧ Below w.heap.size w w' := by
  have t2 : ((y : Int) == 0) = false := beq_eq_false_iff_ne.2 (by omega)
  have t4 : ¬ y ≤ 0 := by omega
  have t3 : ¬ ((y : Int) = 0) := by omega
  obtain ⟨q, hq⟩ : ∃ q, q = lo / y := ⟨_, rfl⟩
  obtain ⟨r, hr⟩ : ∃ r, r = lo % y := ⟨_, rfl⟩
  have eQ : IntKind.u64.wrap ((lo : Int) / (y : Int)) = (q : Int) := by rw [show (lo : Int) / (y : Int) = ((lo / y : Nat) : Int) from rfl, wrapLt (Nat.lt_of_le_of_lt (Nat.div_le_self _ _) hlo), hq]
  have eR : (lo : Int) % (y : Int) = (r : Int) := by rw [hr]; rfl
  rw [← hq, ← hr]
  clear hq hr
  go_enter Try.func45, Try.ntmps45
  go_wp2_with fail
  go_quiet (fail)
  go_wp2_with fail
  go_ret2
  refine ⟨?_, below_drewN (Below.refl _ _) _⟩
  rw [← eR]
  rfl
theorem div64_any (hi lo y : Nat) (hhi : hi < y) (hlo : lo < 18446744073709551616) (hy : y < 18446744073709551616) (w : World) :
    Calls Try.prog 45 #[.int .u64 hi, .int .u64 lo, .int .u64 y] w fun e w' => e = .returned (.tuple #[.int .u64 (((hi * 18446744073709551616 + lo) / y : Nat) : Int), .int .u64 (((hi * 18446744073709551616 + lo) % y : Nat) : Int)]) ∧ Below w.heap.size w w' := by
  rcases Nat.eq_zero_or_pos hi with rfl | h
  · have := div64_zero lo y hhi hlo w
    simpa using this
  · have hb : Lib.bitLen y ≤ 64 := Go.Lib.bitLen_le y 64 (by omega) hy
    exact (div64_big hi lo y (64 - Lib.bitLen y) (by omega) h hhi hlo hy w).mono fun _ _ ⟨h1, h2⟩ => ⟨h1, h2 ▸ Below.refl _ _⟩
theorem wabs_any (x : Int) (hx : -9223372036854775808 ≤ x ∧ x ≤ 9223372036854775807) (w : World) :
    Calls Try.prog 40 #[.int .i64 x] w fun e w' => e = .returned (.int .u64 (x.natAbs : Int)) ∧ w = w' := by
  by_cases h : x < 0
  · have e1 : IntKind.u64.wrap (-IntKind.u64.wrap x) = (x.natAbs : Int) := by rw [wrapU, wrapU]; omega
    generalize x.natAbs = n at *
    go_enter Try.func40, Try.ntmps40
    go_wp2
    go_ret
    exact ⟨rfl, rfl⟩
  · have e1 : (x.natAbs : Int) = x := by omega
    rw [e1]
    clear e1
    go_enter Try.func40, Try.ntmps40
    go_wp2
    go_ret
    exact ⟨rfl, rfl⟩
theorem wmul_any (x y : Nat) (hx : x < 18446744073709551616) (hy : y < 18446744073709551616) (w : World) :
    Calls Try.prog 39 #[.int .u64 x, .int .u64 y] w fun e w' => e = .returned (.agg #[.int .u64 ((x * y / 18446744073709551616 : Nat) : Int), .int .u64 ((x * y % 18446744073709551616 : Nat) : Int)]) ∧ Below w.heap.size w w' := by
  have hm := fun W => mul64_any x y hx hy W
  generalize x * y / 18446744073709551616 = p at *
  generalize x * y % 18446744073709551616 = q at *
  have HM := Lib.hid hm
  clear hm
  go_enter Try.func39, Try.ntmps39
  go_wp2_with fail
  refine (HM.out _).mono ?_
  rintro e w1 ⟨rfl, rfl⟩
  go_wp2_with fail
  exact bodyPost_ret (v := .agg #[.int .u64 p, .int .u64 q]) (by simp [results, Try.results39, go_sem]) rfl ⟨rfl, (Below.refl _ _).alloc (Nat.le_refl _) _⟩
theorem wof_any (x : Nat) (w : World) :
    Calls Try.prog 43 #[.int .u64 x] w fun e w' => e = .returned (.agg #[.int .u64 0, .int .u64 x]) ∧ Below w.heap.size w w' := by
  go_enter Try.func43, Try.ntmps43
  go_wp2_with fail
  exact bodyPost_ret (v := .agg #[.int .u64 0, .int .u64 x]) (by simp [results, Try.results43, go_sem]) rfl ⟨rfl, (Below.refl _ _).alloc (Nat.le_refl _) _⟩
theorem run_add64_any (x y c : Nat) (hc : c ≤ 1) (w : World) :
    (callFunc 46 #[.int .u64 x, .int .u64 y, .int .u64 c]).run Try.prog w =
      .ok (.value (.tuple #[.int .u64 (((x + y + c) % 18446744073709551616 : Nat) : Int), .int .u64 (((x + y + c) / 18446744073709551616 : Nat) : Int)])) w := by
  rw [run_callFunc_extern Try.func46 (by kernel_rfl) (by kernel_rfl) (by kernel_rfl) (e := add64Entry) (by kernel_rfl), run_add64 x y c (by omega) (by omega) (by omega) (by omega)]
  simp only [Result.andThen]
  congr 5 <;> omega
/-- wide's Div: nought is refused; else the quotient of 128 bits, and what is left. -/
theorem wdiv_zero (hi lo : Nat) (w : World) :
    Calls Try.prog 41 #[.agg #[.int .u64 hi, .int .u64 lo], .int .u64 0] w fun e w' => e = .returned (.tuple #[.agg #[.int .u64 0, .int .u64 0], .int .u64 0, .int .i64 11]) ∧ Below w.heap.size w w' := by
  go_enter Try.func41, Try.ntmps41
  go_wp2_with fail
  exact bodyPost_ret (v := .tuple #[.agg #[.int .u64 0, .int .u64 0], .int .u64 0, .int .i64 11]) (by simp [results, Try.results41, go_sem]) rfl ⟨rfl, (by (repeat (refine Below.alloc ?_ (by first | omega | (simp; done) | (simp; omega)) _)); exact Below.refl _ _)⟩
set_option maxHeartbeats 1000000 in
theorem wdiv_any (hi lo y : Nat) (hhi : hi < 18446744073709551616) (hlo : lo < 18446744073709551616) (h0 : 0 < y) (hy : y < 18446744073709551616) (w : World) :
    Calls Try.prog 41 #[.agg #[.int .u64 hi, .int .u64 lo], .int .u64 y] w fun e w' => e = .returned (.tuple #[.agg #[.int .u64 ((hi / y : Nat) : Int), .int .u64 (((hi % y * 18446744073709551616 + lo) / y : Nat) : Int)], .int .u64 (((hi % y * 18446744073709551616 + lo) % y : Nat) : Int), .int .i64 0]) ∧ Below w.heap.size w w' := by
  have hd := fun W => div64_any (hi % y) lo y (Nat.mod_lt _ h0) hlo hy W
  have t2 : ((y : Int) == 0) = false := beq_eq_false_iff_ne.2 (by omega)
  have t3 : ¬ ((y : Int) = 0) := by omega
  obtain ⟨q, hq⟩ : ∃ q, q = hi / y := ⟨_, rfl⟩
  obtain ⟨r, hr⟩ : ∃ r, r = hi % y := ⟨_, rfl⟩
  have eQ : IntKind.u64.wrap ((hi : Int) / (y : Int)) = (q : Int) := by rw [show (hi : Int) / (y : Int) = ((hi / y : Nat) : Int) from rfl, wrapLt (Nat.lt_of_le_of_lt (Nat.div_le_self _ _) hhi), hq]
  have eR : (hi : Int) % (y : Int) = (r : Int) := by rw [hr]; rfl
  rw [← hr] at hd
  rw [← hq, ← hr]
  generalize (r * 18446744073709551616 + lo) / y = q2 at *
  generalize (r * 18446744073709551616 + lo) % y = r2 at *
  have HD := Lib.hid hd
  clear hq hr hd
  go_enter Try.func41, Try.ntmps41
  go_wp2_with fail
  go_quiet (fail)
  go_wp2_with fail
  refine (HD.out _).mono ?_
  rintro e w1 ⟨rfl, hb⟩
  obtain ⟨hcl, hfz⟩ := bcell hb
  have hz := hb.size
  simp at hz
  have hs1 : w.heap.size + 1 < w1.heap.size := by omega
  have hbb : Below w.heap.size w w1 := (below_drewN (Below.alloc (Below.alloc (Below.refl w.heap.size w) (Nat.le_refl _) (.cells #[.int .u64 hi, .int .u64 lo] 78)) (by simp) (.cells #[.int .u64 0, .int .u64 0] 78)) nq).trans (hb.mono (by simp; omega))
  have B1 : Blk w1 (w.heap.size + 1) 78 #[.int .u64 0, .int .u64 0] := Blk.below (Blk.drewN (Blk.at_new _ _ _ (by simp)) nq) hb (by simp)
  have c0 := B1.cell 0
  have c1 := B1.cell 1
  have f0 := B1.frozen
  simp at c0 c1
  clear hcl hfz hb
  go_wp2_with fail
  have S := stores_all B1 [.int .u64 q, .int .u64 q2] rfl
  have d0 := S.cell 0
  have d1 := S.cell 1
  simp [stores] at d0 d1
  exact bodyPost_ret (v := .tuple #[.agg #[.int .u64 q, .int .u64 q2], .int .u64 r2, .int .i64 0]) (by simp [results, Try.results41, go_sem, d0, d1]) rfl ⟨rfl, (hbb.setCell (by simp) _).setCell (by simp) _⟩
set_option maxHeartbeats 1000000 in
/-- wide's Add where it fits. -/
theorem wadd_one (h l : Nat) (hl : l < 18446744073709551616) (hh : h < 18446744073709551615) (w : World) :
    Calls Try.prog 42 #[.agg #[.int .u64 h, .int .u64 l], .agg #[.int .u64 0, .int .u64 1]] w fun e w' => e = .returned (.tuple #[.agg #[.int .u64 ((h + (l + 1) / 18446744073709551616 : Nat) : Int), .int .u64 (((l + 1) % 18446744073709551616 : Nat) : Int)], .int .i64 0]) ∧ Below w.heap.size w w' := by
  have a1 : ∀ W : World, (callFunc 46 #[.int .u64 l, .int .u64 1, .int .u64 0]).run Try.prog W = .ok (.value (.tuple #[.int .u64 (((l + 1) % 18446744073709551616 : Nat) : Int), .int .u64 (((l + 1) / 18446744073709551616 : Nat) : Int)])) W := fun W => run_add64_any l 1 0 (by omega) W
  obtain ⟨l', hl'⟩ : ∃ l', l' = (l + 1) % 18446744073709551616 := ⟨_, rfl⟩
  obtain ⟨c, hc⟩ : ∃ c, c = (l + 1) / 18446744073709551616 := ⟨_, rfl⟩
  have a2 : ∀ W : World, (callFunc 46 #[.int .u64 h, .int .u64 0, .int .u64 c]).run Try.prog W = .ok (.value (.tuple #[.int .u64 ((h + c : Nat) : Int), .int .u64 0])) W := fun W => by
    have h3 := run_add64_any h 0 c (by omega) W
    rw [show (h + 0 + c) % 18446744073709551616 = h + c from by omega, show (h + 0 + c) / 18446744073709551616 = 0 from by omega] at h3
    exact h3
  rw [← hl', ← hc] at a1
  rw [← hl', ← hc]
  obtain ⟨h', hh'⟩ : ∃ h', h' = h + c := ⟨_, rfl⟩
  rw [← hh'] at a2
  rw [← hh']
  clear hl' hc hh' hl hh
  go_enter Try.func42, Try.ntmps42
  go_wp2_with fail
  trace_state
  exact bodyPost_ret (v := .tuple #[.agg #[.int .u64 h', .int .u64 l'], .int .i64 0]) (by simp [results, Try.results42, go_sem]) rfl ⟨rfl, (by (repeat (refine Below.alloc ?_ (by first | omega | (simp; done) | (simp; omega)) _)); exact Below.refl _ _)⟩
end Go.Proofs.Ytjjpmckefglhnaa
