/-
  Layer 7: a clock's marks, its rate, when it tells a time; inputs that can't be.
-/
import Derived.Test.YtfpbahihndgabaaOscW
namespace Go.Proofs.Ytfpbahihndgabaa
set_option linter.unusedSimpArgs false
set_option linter.unusedVariables false
open Go.RowKit

theorem tmod_case {s D : Int} (hD : 0 < D) : s % D = if s.tmod D < 0 then s.tmod D + D else s.tmod D := by
  by_cases h : s < 0
  · obtain ⟨t, rfl⟩ : ∃ t, s = -t := ⟨-s, by omega⟩
    have h1 : (-t).tmod D = -(t % D) := by rw [Int.neg_tmod, Int.tmod_eq_emod_of_nonneg (by omega)]
    have h2 := Int.emod_nonneg t (Int.ne_of_gt hD)
    have h3 := Int.emod_lt_of_pos t hD
    have h4 := Int.mul_ediv_add_emod t D
    rw [h1]
    generalize t % D = m at *
    generalize t / D = q at *
    have e1 : -t = (-m) + D * (-q) := by rw [← h4]; grind
    have e2 : -t = (D - m) + D * (-q - 1) := by rw [← h4]; grind
    by_cases hm : m = 0
    · subst hm
      rw [if_neg (by omega), e1, Int.add_mul_emod_self_left]
      simp
    · rw [if_pos (by omega), e2, Int.add_mul_emod_self_left, Int.emod_eq_of_lt (by omega) (by omega)]
      omega
  · have h : 0 ≤ s := by omega
    rw [Int.tmod_eq_emod_of_nonneg h, if_neg (by have := Int.emod_nonneg s (Int.ne_of_gt hD); omega)]
theorem grain_any (s g : Int) (h1 : -2305843009213693952 ≤ s) (h2 : s ≤ 2305843009213693952) (h3 : 1 ≤ g) (h4 : g ≤ 1000) (w : World) :
    Calls Try.prog 25 #[.int .i64 s, .int .i64 g] w fun e w' => e = .returned (.tuple #[.int .i64 (s - s % (g * 65536)), .int .i64 0]) ∧ w = w' := by
  obtain ⟨D, hD⟩ : ∃ D, D = g * 65536 := ⟨_, rfl⟩
  rw [← hD]
  have hD0 : 0 < D := by omega
  have hm := tmod_case (s := s) hD0
  have hm1 := Int.emod_nonneg s (Int.ne_of_gt hD0)
  have hm2 := Int.emod_lt_of_pos s hD0
  obtain ⟨r, hr⟩ : ∃ r, r = s.tmod D := ⟨_, rfl⟩
  rw [← hr] at hm
  have f0 : IntKind.i64.wrap (g * 65536) = D := by rw [← hD]; exact IntWalk.i64_in _ ⟨by omega, by omega⟩
  have f1 : s.tmod D = r := hr.symm
  have dD : D ≠ 0 := by omega
  have d1 : decide (g < 1) = false := decide_eq_false (by omega)
  have d2 : decide (1048576 < g) = false := decide_eq_false (by omega)
  generalize s % D = m at *
  have g3 : IntKind.i64.wrap (s - m) = s - m := IntWalk.i64_in _ ⟨by omega, by omega⟩
  have g4 : IntKind.i64.wrap (-9223372036854775808 + m) = -9223372036854775808 + m := IntWalk.i64_in _ ⟨by omega, by omega⟩
  have d4 : decide (s < -9223372036854775808 + m) = false := decide_eq_false (by omega)
  by_cases hn : r < 0
  · have g2 : IntKind.i64.wrap (r + D) = m := by rw [hm, if_pos hn]; exact IntWalk.i64_in _ ⟨by omega, by omega⟩
    clear hm hm1 hm2 hD hr h1 h2 h3 h4 hD0
    go_enter Try.func25, Try.ntmps25
    go_wp2_with fail
    go_ret2
    exact ⟨rfl, rfl⟩
  · obtain rfl : m = r := by rw [hm, if_neg hn]
    have d3 : decide (m < 0) = false := decide_eq_false hn
    clear hm hm1 hm2 hD hr h1 h2 h3 h4 hD0 hn
    go_enter Try.func25, Try.ntmps25
    go_wp2_with fail
    go_ret2
    exact ⟨rfl, rfl⟩
theorem at_bad (p : Option Addr) (at_ : Int) (h : p = none ∨ at_ < 0 ∨ 1099511627776 < at_) (w : World) :
    Calls Try.prog 11 #[.pointer p, .int .i64 at_] w fun e w' => e = .returned (.tuple #[.int .i64 0, .int .i64 1]) ∧ w = w' := by
  cases p with
  | none =>
    clear h
    go_enter Try.func11, Try.ntmps11
    go_wp2_with fail
    go_ret2
    exact ⟨rfl, rfl⟩
  | some a =>
    by_cases h1 : at_ < 0
    · clear h
      go_enter Try.func11, Try.ntmps11
      go_wp2_with fail
      go_ret2
      exact ⟨rfl, rfl⟩
    · have d1 : decide (at_ < 0) = false := decide_eq_false h1
      have h2 : 1099511627776 < at_ := by
        rcases h with h | h | h
        · cases h
        · exact absurd h h1
        · exact h
      clear h h1
      go_enter Try.func11, Try.ntmps11
      go_wp2_with fail
      go_ret2
      exact ⟨rfl, rfl⟩
theorem mark_bad (a : Addr) (at_ : Int) (h : at_ < 0 ∨ 1099511627776 < at_) (w : World) :
    Calls Try.prog 12 #[.pointer (some a), .int .i64 at_] w fun e w' => e = .returned (.tuple #[.int .i64 0, .int .i64 1]) ∧ w = w' := by
  have HA := Lib.hid (at_bad (some a) at_ (.inr h) w)
  clear h
  go_enter Try.func12, Try.ntmps12
  go_wp2_with fail
  refine HA.out.mono ?_
  rintro e w1 ⟨rfl, rfl⟩
  go_wp2_with fail
  go_ret2
  exact ⟨rfl, rfl⟩
theorem rate_bad (a : Addr) (at_ : Int) (h : at_ < 0 ∨ 1099511627776 < at_) (w : World) :
    Calls Try.prog 16 #[.pointer (some a), .int .i64 at_] w fun e w' => e = .returned (.tuple #[.int .i64 0, .int .i64 1]) ∧ w = w' := by
  by_cases h1 : at_ < 0
  · clear h
    go_enter Try.func16, Try.ntmps16
    go_wp2_with fail
    go_ret2
    exact ⟨rfl, rfl⟩
  · have d1 : decide (at_ < 0) = false := decide_eq_false h1
    have h2 : 1099511627776 < at_ := by omega
    clear h h1
    go_enter Try.func16, Try.ntmps16
    go_wp2_with fail
    go_ret2
    exact ⟨rfl, rfl⟩
def markV (n : Nat) (tA tR bs : Nat → Int) (gr : Int) (at_ : Int) : Int := tellV n tA tR bs at_ - tellV n tA tR bs at_ % (gr * 65536)
theorem mark_any (g : Nat) (at_ S : Int) (n : Nat) (tA tR bs : Nat → Int) (gr : Int) (w : World) (hC : Clk w g n tA tR bs gr) (hT : Turns n tA tR) (hB : Bases S n tA tR bs) (h0 : 0 ≤ at_) (h1 : at_ ≤ 1099511627776) (hg1 : 1 ≤ gr) (hg2 : gr ≤ 1000) :
    Calls Try.prog 12 #[.pointer (some ⟨g, 0, none⟩), .int .i64 at_] w fun e w' => e = .returned (.tuple #[.int .i64 (markV n tA tR bs gr at_), .int .i64 0]) ∧ Below w.heap.size w w' := by
  have HA := Lib.hid (at_any g at_ S n tA tR bs gr w hC hT hB h0 h1)
  have hl := tell_lim hT hB h0 h1
  have hl1 := hB.low
  have hl2 := hB.high
  unfold markV
  generalize tellV n tA tR bs at_ = V at *
  have HG := Lib.hid (fun W => grain_any V gr (by omega) (by omega) hg1 hg2 W)
  have HC := Lib.hid hC
  generalize V - V % (gr * 65536) = U at *
  clear hC hT hB h0 h1 hl hl1 hl2
  go_enter Try.func12, Try.ntmps12
  go_wp2_with fail
  refine HA.out.mono ?_
  rintro e w1 ⟨rfl, b1⟩
  have hC1 := HC.out.below b1
  obtain ⟨g1, c1, g2, c2, C⟩ := hC1
  have y2 := C.box.cellOf (v := .int .i64 gr) 2 rfl
  clear C HA HC
  go_wp2_with fail
  refine (HG.out _).mono ?_
  rintro e w2 ⟨rfl, rfl⟩
  go_wp2_with fail
  go_ret2
  exact ⟨rfl, b1⟩
set_option maxRecDepth 100000 in
set_option maxHeartbeats 2000000 in
theorem rate_any (g : Nat) (at_ : Int) (n : Nat) (tA tR bs : Nat → Int) (gr : Int) (w : World) (hC : Clk w g n tA tR bs gr) (hT : Turns n tA tR) (h0 : 0 ≤ at_) (h1 : at_ ≤ 1099511627776) :
    Calls Try.prog 16 #[.pointer (some ⟨g, 0, none⟩), .int .i64 at_] w fun e w' => e = .returned (.tuple #[.int .i64 (tR (pcV tA at_ n)), .int .i64 0]) ∧ Below w.heap.size w w' := by
  have HP : Hid (∀ W, Below w.heap.size w W → Calls Try.prog 24 #[.pointer (some ⟨g, 0, none⟩), .int .i64 at_] W fun e w' => e = .returned (.int .i64 (pcV tA at_ n)) ∧ Below W.heap.size W w') := Lib.hid fun W hW => piece_any g at_ n tA tR bs gr W (hC.below hW) hT h0
  have hp := pcV_lt tA at_ n hT.pos
  generalize pcV tA at_ n = j at *
  obtain ⟨g1, c1, g2, c2, C⟩ := hC
  have hn1 := C.h1
  have y0 := C.box.cellOf (v := .slice (some ⟨g1, 0, none⟩) n c1) 0 rfl
  have x1 := C.a1 j hp
  have sg := C.box.lt
  have sg1 := C.l1
  have dn1 : decide (at_ < 0) = false := decide_eq_false (by omega)
  have dn2 : decide (1099511627776 < at_) = false := decide_eq_false (by omega)
  clear C hT h0 h1
  go_enter Try.func16, Try.ntmps16
  go_wp2_with fail
  refine wp_region_class (fun w' => Below w.heap.size w w') (by kernel_rfl) (by kernel_rfl) (Below.refl _ _).drew ?_
  repeat (first | (with_reducible (refine wpQuiet_skip ?_ ?_); (first | exact wanted_off rfl rfl rfl rfl | exact wanted_off2 rfl rfl rfl); simp only [Act.put, List.setIfInBounds_toArray, List.set_cons_zero, List.set_cons_succ]) | (with_reducible (refine wpQuiet_val (v := ?_) ?_ ?_ ?_); rotate_left; (first | exact wanted_none rfl | exact wanted_on rfl rfl rfl); (intro w' hw'; obtain ⟨hc, hf⟩ := bcell hw'; go_simp; with_reducible rfl); simp only [Act.put, List.setIfInBounds_toArray, List.set_cons_zero, List.set_cons_succ]) | (with_reducible (refine wpQuiet_call (v := ?_) 24 ?_ ?_ ?_ ?_ ?_); rotate_left 2; (first | exact wanted_none rfl | exact wanted_on rfl rfl rfl); (intro w' hw'; obtain ⟨hc, hf⟩ := bcell hw'; go_simp; with_reducible rfl); (intro w' hw'; (with_reducible refine (HP.out _ hw').mono ?_); rintro e w2 ⟨rfl, hb⟩; refine ⟨?_, hw'.trans (hb.mono (by have h0 := hw'.size; first | omega | (simp at h0; omega)))⟩; with_reducible rfl); simp only [Act.put, List.setIfInBounds_toArray, List.set_cons_zero, List.set_cons_succ]) | (refine wpQuiet_val (v := ?_) ?_ ?_ ?_; rotate_left; (first | rfl | (go_simp; done)); (intro w' hw'; obtain ⟨hc, hf⟩ := bcell hw'; go_simp; with_reducible rfl); simp only [Act.put, List.setIfInBounds_toArray, List.set_cons_zero, List.set_cons_succ]))
  refine wpQuiet_nil ?_
  intro w4 hw4
  clear y0 x1 sg sg1 HP
  go_wp2_with fail
  go_ret2
  exact ⟨rfl, hw4⟩
/-! ### A clock never goes back -/
theorem pc_next {n : Nat} {tA tR : Nat → Int} (hT : Turns n tA tR) {at_ : Int} {i : Nat} (h1 : pcV tA at_ n < i) (h2 : i < n) : at_ < tA i := by
  have : ∀ m, m ≤ n → pcV tA at_ m < i → i < m → at_ < tA i := by
    intro m
    induction m with
    | zero => intro _ _ h; omega
    | succ m ih =>
      intro hm h3 h4
      unfold pcV at h3
      split at h3
      · omega
      · rename_i hx
        rcases Nat.lt_or_ge i m with h5 | h5
        · exact ih (by omega) h3 h5
        · obtain rfl : i = m := by omega
          omega
  exact this n (Nat.le_refl _) h1 h2
theorem run_mono {a b r : Int} (h0 : 0 ≤ a) (hab : a ≤ b) (h1 : b ≤ 1099511627776) (hr : 2181843386368 ≤ r ∧ r ≤ 2216203124736) : runV a r ≤ runV b r := by
  rw [run_val h0 (by omega) hr, run_val (by omega) h1 hr]
  have := Int.mul_le_mul_of_nonneg_right hab (show 0 ≤ r by omega)
  exact Int.ediv_le_ediv (by omega) this
theorem base_mono {S : Int} {n : Nat} {tA tR bs : Nat → Int} (hT : Turns n tA tR) (hB : Bases S n tA tR bs) {i : Nat} : ∀ {j : Nat}, i ≤ j → j < n → bs i ≤ bs j
  | 0, hij, _ => by obtain rfl : i = 0 := by omega
                    exact Int.le_refl _
  | j + 1, hij, hj => by
    rcases Nat.lt_or_ge i (j + 1) with hi | hi
    · have ih := base_mono hT hB (i := i) (j := j) (by omega) (by omega)
      have h1 := hT.rise j hj
      have h2 := hT.late (j + 1) hj
      have h3 := hT.low (i := j) (by omega)
      have hr := run_lim (ns := tA (j + 1) - tA j) (r := tR j) (by omega) (by omega) (hT.rate j (by omega))
      rw [hB.next j hj]
      omega
    · obtain rfl : i = j + 1 := by omega
      exact Int.le_refl _
theorem pc_mono {n : Nat} {tA tR : Nat → Int} (hT : Turns n tA tR) {a b : Int} (h0 : 0 ≤ a) (hab : a ≤ b) : pcV tA a n ≤ pcV tA b n := by
  rcases Nat.lt_or_ge (pcV tA b n) (pcV tA a n) with h | h
  · have h1 := pc_next hT h (pcV_lt tA a n hT.pos)
    have h2 := pc_le hT h0
    omega
  · exact h
theorem tell_mono {S : Int} {n : Nat} {tA tR bs : Nat → Int} (hT : Turns n tA tR) (hB : Bases S n tA tR bs) {a b : Int} (h0 : 0 ≤ a) (hab : a ≤ b) (h1 : b ≤ 1099511627776) : tellV n tA tR bs a ≤ tellV n tA tR bs b := by
  have hp := pcV_lt tA a n hT.pos
  have hq := pcV_lt tA b n hT.pos
  have hm := pc_mono hT h0 hab
  have ha := pc_le hT h0
  have hb := pc_le hT (show 0 ≤ b by omega)
  have hla := hT.low hp
  have hlb := hT.low hq
  unfold tellV
  rcases Nat.lt_or_ge (pcV tA a n) (pcV tA b n) with h | h
  · have hn := pc_next hT (at_ := a) (i := pcV tA a n + 1) (by omega) (show pcV tA a n + 1 < n by omega)
    have hbn := hB.next (pcV tA a n) (by omega)
    have hbm := base_mono hT hB (i := pcV tA a n + 1) (j := pcV tA b n) (by omega) hq
    have hlate := hT.late (pcV tA a n + 1) (by omega)
    have hr1 := run_mono (a := a - tA (pcV tA a n)) (b := tA (pcV tA a n + 1) - tA (pcV tA a n)) (by omega) (by omega) (by omega) (hT.rate _ hp)
    have hr2 := run_lim (ns := b - tA (pcV tA b n)) (r := tR (pcV tA b n)) (by omega) (by omega) (hT.rate _ hq)
    omega
  · have e : pcV tA b n = pcV tA a n := by omega
    rw [e]
    rw [e] at hb
    have hr1 := run_mono (a := a - tA (pcV tA a n)) (b := b - tA (pcV tA a n)) (by omega) (by omega) (by omega) (hT.rate _ hp)
    omega
end Go.Proofs.Ytfpbahihndgabaa
