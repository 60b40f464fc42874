/-
  Plain floats: the quotient of a whole number (below 2 to the power of 53) by 2 to the power of 35, exactly.
-/
import Derived.Test.YtclckcjimfadlaaFlo
namespace Go.Proofs.Ytclckcjimfadlaa
set_option linter.unusedSimpArgs false
set_option linter.unusedVariables false
open Ieee

theorem cut_nought (s : Bool) (n : Nat) : Toward.even.cut s n 0 = n := by
  unfold Toward.cut
  simp [Nat.mod_one]
theorem cut_eight (s : Bool) (M : Nat) (h : 4503599627370496 ≤ M) : Toward.even.cut s (8 * M) 3 = M := by
  have hl : 3 ≤ (8 * M).log2 + 2 := by
    have : 3 ≤ (8 * M).log2 := (Nat.le_log2 (by omega)).2 (by omega)
    omega
  unfold Toward.cut
  rw [Nat.min_eq_left hl]
  simp only [show (1 <<< 3 : Nat) = 8 from rfl]
  rw [Nat.mul_div_cancel_left _ (by decide), Nat.mul_mod_right]
  simp
/-- A significand of 53 digits, from the place of its last one. -/
theorem near_full (s : Bool) (mag c M : Nat) (place : Int) (hmag : mag ≠ 0) (hlog : mag.log2 = c) (last : Int) (hlast : last = place + c - 52) (hlo : -1074 ≤ last) (hM : 4503599627370496 ≤ M) (hM2 : M < 9007199254740992) (hhi : last ≤ 900)
    (hcut : Toward.even.cut s (mag <<< (place - last).toNat) (last - place).toNat = M) :
    double.nearest s mag place = double.word s ((last + 1074).toNat * 4503599627370496 + M) := by
  unfold Format.nearest
  rw [if_neg hmag]
  simp only [show double.fractionBits = 52 from rfl, show double.leastPlace = -1074 from rfl, show double.binade = 4503599627370496 from rfl, show double.infRung = 9218868437227405312 from rfl, hlog]
  have e : max (place + (c : Int) - ((52 : Nat) : Int)) (-1074) = last := by rw [hlast]; omega
  rw [e, hcut]
  have e2 : last - -1074 = last + 1074 := by omega
  rw [e2, Nat.min_eq_left (by omega)]
theorem near_whole (s : Bool) (N l : Nat) (hl : l ≤ 52) (h1 : 2 ^ l ≤ N) (h2 : N < 2 ^ (l + 1)) (M : Nat) (hM : M = N * 2 ^ (52 - l)) (hM1 : 4503599627370496 ≤ M) (hM2 : M < 9007199254740992) :
    double.nearest s N 0 = double.word s ((l + 1022) * 4503599627370496 + M) := by
  have hN : N ≠ 0 := by have := Nat.pow_pos (n := l) (show 0 < 2 by decide); omega
  have hlog : N.log2 = l := (Nat.log2_eq_iff hN).2 ⟨h1, h2⟩
  rw [near_full s N l M 0 hN hlog ((l : Int) - 52) (by omega) (by omega) hM1 hM2 (by omega) (by
    rw [show (0 - ((l : Int) - 52)).toNat = 52 - l by omega, show ((l : Int) - 52 - 0).toNat = 0 by omega, cut_nought, Nat.shiftLeft_eq, hM])]
  rw [show ((l : Int) - 52 + 1074).toNat = l + 1022 by omega]
theorem near_eight (s : Bool) (l M : Nat) (hM1 : 4503599627370496 ≤ M) (hM2 : M < 9007199254740992) (hl : l ≤ 52) :
    double.nearest s (8 * M) ((l : Int) - 90) = double.word s ((l + 987) * 4503599627370496 + M) := by
  have hlog : (8 * M).log2 = 55 := (Nat.log2_eq_iff (by omega)).2 ⟨by omega, by omega⟩
  rw [near_full s (8 * M) 55 M ((l : Int) - 90) (by omega) hlog ((l : Int) - 87) (by omega) (by omega) hM1 hM2 (by omega) (by
    rw [show ((l : Int) - 90 - ((l : Int) - 87)).toNat = 0 by omega, show ((l : Int) - 87 - ((l : Int) - 90)).toNat = 3 by omega, Nat.shiftLeft_zero, cut_eight _ _ hM1])]
  rw [show ((l : Int) - 87 + 1074).toNat = l + 987 by omega]
theorem read_word (s : Bool) (e M : Nat) (he : e ≤ 2000) (hM1 : 4503599627370496 ≤ M) (hM2 : M < 9007199254740992) :
    double.read (double.word s (e * 4503599627370496 + M)) = .number s M ((e : Int) - 1074) := by
  have hw : double.word s (e * 4503599627370496 + M) = (if s = true then 9223372036854775808 else 0) + (e * 4503599627370496 + M) := by
    unfold Format.word
    cases s
    · simp
    · simp [show double.signWeight = 9223372036854775808 from rfl]
  rw [hw]
  unfold Format.read
  simp only [show double.signWeight = 9223372036854775808 from rfl, show double.binade = 4503599627370496 from rfl, show double.infRung = 9218868437227405312 from rfl, show double.leastPlace = -1074 from rfl]
  have h1 : ((if s = true then 9223372036854775808 else 0) + (e * 4503599627370496 + M)) / 9223372036854775808 % 2 = (if s = true then 1 else 0) := by cases s <;> simp <;> omega
  have h2 : ((if s = true then 9223372036854775808 else 0) + (e * 4503599627370496 + M)) % 9223372036854775808 = e * 4503599627370496 + M := by cases s <;> simp <;> omega
  rw [h1, h2, if_neg (by omega), if_pos (by omega)]
  have h3 : (e * 4503599627370496 + M) % 4503599627370496 = M - 4503599627370496 := by omega
  have h4 : (e * 4503599627370496 + M) / 4503599627370496 = e + 1 := by omega
  rw [h3, h4]
  have h5 : 4503599627370496 + (M - 4503599627370496) = M := by omega
  rw [h5]
  cases s
  · simp; omega
  · simp; omega
/-- The word of d times 15625 by 2 to the power of 35. -/
def pW (d : Int) : Nat :=
  if d = 0 then 0 else
    (if d < 0 then 9223372036854775808 else 0) + (((d.natAbs * 15625).log2 + 987) * 4503599627370496 + d.natAbs * 15625 * 2 ^ (52 - (d.natAbs * 15625).log2))
theorem pW_big {d : Int} (h0 : d ≠ 0) (hd : d.natAbs ≤ 17179869184) : ∃ N l M : Nat, N = d.natAbs * 15625 ∧ 13 ≤ l ∧ l ≤ 47 ∧ 2 ^ l ≤ N ∧ N < 2 ^ (l + 1) ∧ M = N * 2 ^ (52 - l) ∧ 4503599627370496 ≤ M ∧ M < 9007199254740992 ∧ pW d = (if d < 0 then 9223372036854775808 else 0) + ((l + 987) * 4503599627370496 + M) := by
  obtain ⟨N, hN⟩ : ∃ N, N = d.natAbs * 15625 := ⟨_, rfl⟩
  have hNp : N ≠ 0 := by omega
  have hl1 : 13 ≤ N.log2 := (Nat.le_log2 hNp).2 (by omega)
  have hl2 : N.log2 < 48 := (Nat.log2_lt hNp).2 (by omega)
  have e1 : 2 ^ N.log2 ≤ N := Nat.log2_self_le hNp
  have e2 : N < 2 ^ (N.log2 + 1) := Nat.lt_log2_self
  have hw : pW d = (if d < 0 then 9223372036854775808 else 0) + ((N.log2 + 987) * 4503599627370496 + N * 2 ^ (52 - N.log2)) := by unfold pW; rw [if_neg h0, hN]
  refine ⟨N, N.log2, N * 2 ^ (52 - N.log2), hN, hl1, by omega, e1, e2, rfl, ?_, ?_, hw⟩
  · have h := Nat.mul_le_mul_right (2 ^ (52 - N.log2)) e1
    rw [← Nat.pow_add, show N.log2 + (52 - N.log2) = 52 by omega] at h
    exact h
  · have h := Nat.mul_lt_mul_of_pos_right e2 (Nat.pow_pos (n := 52 - N.log2) (show 0 < 2 by decide))
    rw [← Nat.pow_add, show N.log2 + 1 + (52 - N.log2) = 53 by omega] at h
    exact h
theorem ppm_div {d : Int} (hd : d.natAbs ≤ 17179869184) : double.div (double.nearest (decide (d * 15625 < 0)) (d * 15625).natAbs 0) 4764808405757984768 = some (pW d) := by
  by_cases h0 : d = 0
  · subst h0
    decide +kernel
  · obtain ⟨N, l, M, hN, hl1, hl2, e1, e2, hM, hM1, hM2, hw⟩ := pW_big h0 hd
    have ha : (d * 15625).natAbs = N := by rw [hN, Int.natAbs_mul]; rfl
    have hs : decide (d * 15625 < 0) = decide (d < 0) := decide_eq_decide.2 (by omega)
    rw [ha, hs, near_whole _ N l (by omega) e1 e2 M hM hM1 hM2]
    unfold Format.div
    rw [read_word _ (l + 1022) M (by omega) hM1 hM2]
    have ry : double.read 4764808405757984768 = .number false 4503599627370496 (-17) := by decide +kernel
    rw [ry]
    have hq : Datum.quotient (double.fractionBits + 2) (.number (decide (d < 0)) M (((l + 1022 : Nat) : Int) - 1074)) (.number false 4503599627370496 (-17)) = some (.number (decide (d < 0)) (8 * M) ((l : Int) - 90)) := by
      have k1 : M.log2 = 52 := (Nat.log2_eq_iff (by omega)).2 ⟨by omega, by omega⟩
      have k2 : Nat.log2 4503599627370496 = 52 := by decide +kernel
      simp only [Datum.quotient, show double.fractionBits = 52 from rfl, k1, k2]
      rw [if_neg (by decide)]
      have k3 : M <<< (52 + 2 + 52 - 52) = M * 4 * 4503599627370496 := by rw [Nat.shiftLeft_eq]; omega
      rw [k3, Nat.mul_div_cancel _ (by decide), Nat.mul_mod_left]
      simp
      omega
    rw [hq]
    show some (double.nearest _ _ _) = _
    rw [near_eight _ l M hM1 hM2 (by omega), hw]
    congr 1
    unfold Format.word
    by_cases hn : d < 0
    · rw [decide_eq_true hn, if_pos rfl, if_pos hn]; rfl
    · rw [decide_eq_false hn, if_neg (by decide), if_neg hn]; omega
end Go.Proofs.Ytclckcjimfadlaa
