/-
  Layer 7: the reference: what a clock of its kind is refused for, tells and marks, and how fast it runs.
-/
import Derived.Test.YtfpbahihndgabaaMdr
import Derived.Test.YtfpbahihndgabaaOscH
namespace Go.Proofs.Ytfpbahihndgabaa
set_option linter.unusedSimpArgs false
set_option linter.unusedVariables false
open Go.RowKit

theorem refMd_any (a b c rd : Int) (ha : I64 a) (hb : I64 b) (hc : I64 c) (hr : 0 ≤ rd ∧ rd ≤ 2) (w : World) :
    Calls Try.prog 36 #[.int .i64 a, .int .i64 b, .int .i64 c, .int .i64 rd] w fun e w' => e = .returned (.tuple #[.int .i64 (mulDivV a b c rd).1, .int .i64 (mulDivV a b c rd).2]) ∧ Below w.heap.size w w' := by
  rw [← mdr_is a b c rd hr]
  exact refMulDiv_any a b c rd w ha hb hc
theorem refRun_any (ns r : Int) (hn : I64 ns) (hr : I64 r) (w : World) :
    Calls Try.prog 28 #[.int .i64 ns, .int .i64 r] w fun e w' => e = .returned (.int .i64 (runV ns r)) ∧ Below w.heap.size w w' := by
  have hm := fun W => refMd_any ns r 33554432 0 hn hr (by unfold I64; omega) (by omega) W
  unfold runV
  generalize mulDivV ns r 33554432 0 = x at *
  obtain ⟨x1, x2⟩ := x
  have HM := Lib.hid hm
  clear hm hn hr
  go_enter Try.func28, Try.ntmps28
  go_wp2_with fail
  refine (HM.out _).mono ?_
  rintro e w1 ⟨rfl, hb1⟩
  go_wp2_with fail
  go_ret
  exact ⟨rfl, hb1⟩
theorem refFloor_any (a b : Int) (h1 : -2305843009213693952 ≤ a) (h2 : a ≤ 2305843009213693952) (hb : 0 < b) (hb2 : b ≤ 1000000000) (w : World) :
    Calls Try.prog 37 #[.int .i64 a, .int .i64 b] w fun e w' => e = .returned (.int .i64 (a / b)) ∧ Below w.heap.size w w' := by
  have hq1 : -2305843009213693952 ≤ a / b := Int.le_ediv_of_mul_le hb (by omega)
  have hq2 : a / b ≤ 2305843009213693952 := by
    by_cases h : 0 ≤ a
    · exact Int.le_trans (Int.ediv_le_self _ h) h2
    · have := Int.ediv_neg_of_neg_of_pos (show a < 0 by omega) hb
      omega
  have hv : mulDivV a 1 b 0 = (a / b, 0) := by
    rw [md_floor (by omega) hb (by rw [Int.mul_one]; omega), Int.mul_one]
  have hm := fun W => refMd_any a 1 b 0 (by unfold I64; omega) (by unfold I64; omega) (by unfold I64; omega) (by omega) W
  rw [hv] at hm
  have HM := Lib.hid hm
  clear hm hv hq1 hq2 h1 h2 hb hb2
  go_enter Try.func37, Try.ntmps37
  go_wp2_with fail
  refine (HM.out _).mono ?_
  rintro e w1 ⟨rfl, hb1⟩
  go_wp2_with fail
  go_ret
  exact ⟨rfl, hb1⟩
theorem refGrain_any (s g : Int) (h1 : -2305843009213693952 ≤ s) (h2 : s ≤ 2305843009213693952) (h3 : 1 ≤ g) (h4 : g ≤ 1000) (w : World) :
    Calls Try.prog 29 #[.int .i64 s, .int .i64 g] w fun e w' => e = .returned (.tuple #[.int .i64 (s - s % (g * 65536)), .int .i64 0]) ∧ Below w.heap.size w w' := by
  obtain ⟨D, hD⟩ : ∃ D, D = g * 65536 := ⟨_, rfl⟩
  rw [← hD]
  have hD0 : 0 < D := by omega
  have hF := fun W => refFloor_any s D h1 h2 hD0 (by omega) W
  have e1 := Int.mul_ediv_add_emod s D
  have hm1 := Int.emod_nonneg s (Int.ne_of_gt hD0)
  have hm2 := Int.emod_lt_of_pos s hD0
  have hmul : s / D * D = s - s % D := by rw [Int.mul_comm]; omega
  have hq1 : -2305843009213693952 ≤ s / D := Int.le_ediv_of_mul_le hD0 (by omega)
  have hq2 : s / D ≤ 2305843009213693952 := by
    by_cases h : 0 ≤ s
    · exact Int.le_trans (Int.ediv_le_self _ h) h2
    · have := Int.ediv_neg_of_neg_of_pos (show s < 0 by omega) hD0
      omega
  have hv : mulDivV (s / D) D 1 0 = (s - s % D, 0) := by
    rw [md_floor (by omega) (by omega) (by rw [Int.ediv_one, hmul]; omega), Int.ediv_one, hmul]
  have hm := fun W => refMd_any (s / D) D 1 0 (by unfold I64; omega) (by unfold I64; omega) (by unfold I64; omega) (by omega) W
  rw [hv] at hm
  generalize s - s % D = U at *
  generalize s / D = q at *
  have f0 : IntKind.i64.wrap (g * 65536) = D := by rw [← hD]; exact IntWalk.i64_in _ ⟨by omega, by omega⟩
  have d1 : decide (g < 1) = false := decide_eq_false (by omega)
  have d2 : decide (1048576 < g) = false := decide_eq_false (by omega)
  have HM := Lib.hid hm
  have HF := Lib.hid hF
  clear hm hF hv hq1 hq2 h1 h2 hD0 hm1 hm2 hmul e1 hD h3 h4
  go_enter Try.func29, Try.ntmps29
  go_wp2_with fail
  refine (HF.out _).mono ?_
  rintro e w1 ⟨rfl, hb1⟩
  go_wp2_with fail
  refine (HM.out _).mono ?_
  rintro e w2 ⟨rfl, hb2⟩
  have hs1 := hb1.size
  have hb := hb1.trans (hb2.mono hs1)
  clear hb1 hb2 hs1
  go_wp2_with fail
  go_ret2
  exact ⟨rfl, hb⟩
/-- A slice of ints, in a block of its own. -/
structure Ints (w : World) (g n : Nat) (f : Nat → Int) : Prop where
  lt : g < w.heap.size
  at_ : ∀ k, k < n → w.cell? ⟨g, k, none⟩ = some (.int .i64 (f k))
theorem Ints.below {w w' : World} {g n : Nat} {f : Nat → Int} (h : Ints w g n f) (hb : Below w.heap.size w w') : Ints w' g n f :=
  ⟨Nat.lt_of_lt_of_le h.lt hb.size, fun k hk => (hb.cell (p := ⟨g, k, none⟩) h.lt).trans (h.at_ k hk)⟩
def ccv (S gr : Int) (g1 n c1 g2 c2 : Nat) : Value := .agg #[.int .i64 S, .int .i64 gr, .slice (some ⟨g1, 0, none⟩) n c1, .slice (some ⟨g2, 0, none⟩) n c2]
set_option maxRecDepth 100000 in
set_option maxHeartbeats 2000000 in
theorem refRate_any (S gr at_ : Int) (g1 g2 n c1 c2 : Nat) (tA tR : Nat → Int) (w : World) (I1 : Ints w g1 n tA) (I2 : Ints w g2 n tR) (k1 : n ≤ c1) (k2 : n ≤ c2) (hT : Turns n tA tR) (h0 : 0 ≤ at_) :
    Calls Try.prog 19 #[ccv S gr g1 n c1 g2 c2, .int .i64 at_] w fun e w' => e = .returned (.int .i64 (tR (pcV tA at_ n))) ∧ Below w.heap.size w w' := by
  unfold ccv
  have HI := Lib.hid (And.intro I1 I2)
  have HT := Lib.hid hT
  have s1 := I1.lt
  have s2 := I2.lt
  have hn64 := hT.most
  have hst : ∀ k, k < n → pcV tA at_ (k + 1) = if tA k ≤ at_ then k else pcV tA at_ k := fun k _ => rfl
  have HST := Lib.hid hst
  have H0 := Lib.hid h0
  clear I1 I2 hT hst h0
  go_enter Try.func19, Try.ntmps19
  go_wp2_with fail
  have B0 := Blk.new w 43 #[.int .i64 S, .int .i64 gr, .slice (some ⟨g1, 0, none⟩) n c1, .slice (some ⟨g2, 0, none⟩) n c2]
  have L0 := (Below.refl w.heap.size w).alloc (Nat.le_refl _) (.cells #[.int .i64 S, .int .i64 gr, .slice (some ⟨g1, 0, none⟩) n c1, .slice (some ⟨g2, 0, none⟩) n c2] 43)
  have I1 := HI.out.1.below L0
  have I2 := HI.out.2.below L0
  have zz : w.heap.size < (w.alloc (.cells #[.int .i64 S, .int .i64 gr, .slice (some ⟨g1, 0, none⟩) n c1, .slice (some ⟨g2, 0, none⟩) n c2] 43)).heap.size := by simp
  generalize w.alloc (.cells #[.int .i64 S, .int .i64 gr, .slice (some ⟨g1, 0, none⟩) n c1, .slice (some ⟨g2, 0, none⟩) n c2] 43) = w1 at *
  have y2 := B0.cellOf (v := .slice (some ⟨g1, 0, none⟩) n c1) 2 rfl
  have y3 := B0.cellOf (v := .slice (some ⟨g2, 0, none⟩) n c2) 3 rfl
  have q1 := I1.lt
  have q2 := I2.lt
  have HII := Lib.hid (And.intro I1 I2)
  have HL := Lib.hid L0
  clear B0 L0 I1 I2 HI
  go_loopw [5, 10] (fun r i wr => ∃ k : Nat, i = .int .i64 (k : Nat) ∧ k ≤ n ∧ wr = w1 ∧ Hid (k = 0 ∧ r = .int .i64 0 ∨ 0 < k ∧ r = .int .i64 (tR (pcV tA at_ k)))) (fun _ i _ => n - (intOf i).toNat)
  case atStart => exact ⟨0, rfl, Nat.zero_le _, rfl, Lib.hid (.inl ⟨rfl, rfl⟩)⟩
  case round =>
    obtain ⟨k, rfl, hk, rfl, hr⟩ := hrel
    by_cases hlt : k < n
    · have x1 := HII.out.1.at_ k hlt
      have x2 := HII.out.2.at_ k hlt
      have hr' : ∃ r0, u5 = .int .i64 r0 := by
        rcases hr.out with ⟨_, h⟩ | ⟨_, h⟩ <;> exact ⟨_, h⟩
      obtain ⟨r0, rfl⟩ := hr'
      have hW : wrap64 ((k : Int) + 1) = ((k + 1 : Nat) : Int) := by rw [IntWalk.wrap64_in _ ⟨by omega, by omega⟩]; rfl
      by_cases hle : tA k ≤ at_
      · have hp : pcV tA at_ (k + 1) = k := by rw [HST.out k hlt, if_pos hle]
        have HP := Lib.hid hp
        have HW := Lib.hid hW
        clear hp hW
        go_wp2_with fail
        go_roundw
        case rel => exact ⟨k + 1, by first | rfl | rw [HW.out], by omega, by first | rfl | trivial, Lib.hid (.inr ⟨Nat.succ_pos _, by rw [HP.out]⟩)⟩
        case measure => (try rw [HW.out]); show n - (((k + 1 : Nat) : Int)).toNat < n - ((k : Nat) : Int).toNat; rw [Int.toNat_natCast, Int.toNat_natCast]; omega
      · have dd : decide (tA k ≤ at_) = false := decide_eq_false hle
        have hp : pcV tA at_ (k + 1) = pcV tA at_ k := by rw [HST.out k hlt, if_neg hle]
        have hk0 : 0 < k := by
          rcases Nat.eq_zero_or_pos k with rfl | h
          · rw [HT.out.first] at hle
            exact absurd H0.out hle
          · exact h
        have hr0 : Value.int .i64 r0 = .int .i64 (tR (pcV tA at_ (k + 1))) := by
          rcases hr.out with ⟨h, _⟩ | ⟨_, h⟩
          · omega
          · rw [hp]; exact h
        have HR := Lib.hid hr0
        have HW := Lib.hid hW
        clear hp hle hr0 hW
        go_wp2_with fail
        go_roundw
        case rel => exact ⟨k + 1, by first | rfl | rw [HW.out], by omega, by first | rfl | trivial, Lib.hid (.inr ⟨Nat.succ_pos _, HR.out⟩)⟩
        case measure => (try rw [HW.out]); show n - (((k + 1 : Nat) : Int)).toNat < n - ((k : Nat) : Int).toNat; rw [Int.toNat_natCast, Int.toNat_natCast]; omega
    · obtain rfl : k = n := by omega
      have hr' : u5 = .int .i64 (tR (pcV tA at_ k)) := by
        rcases hr.out with ⟨h, _⟩ | ⟨_, h⟩
        · have := HT.out.pos; omega
        · exact h
      subst hr'
      have dn : decide ((k : Int) < (k : Int)) = false := by simp
      clear hlt hk hr
      go_wp2_with fail
      go_ret
      exact ⟨rfl, HL.out⟩
end Go.Proofs.Ytfpbahihndgabaa
