/-
  The reference's digits: Sub.
-/
import Derived.Test.YtfpbahihndgabaaDigC
namespace Go.Proofs.Ytfpbahihndgabaa
set_option linter.unusedSimpArgs false
set_option linter.unusedVariables false
open Go.RowKit

theorem dv_lt : ∀ (l : List Nat), Small l → dv l < 65536 ^ l.length
  | [], _ => by simp [dv]
  | a :: l, h => by
    have h1 : a < 65536 := h a (by simp)
    have h2 := dv_lt l (fun d hd => h d (by simp [hd]))
    show a + 65536 * dv l < 65536 ^ (l.length + 1)
    rw [Nat.pow_succ]
    generalize 65536 ^ l.length = P at *
    omega
/-- What Sub has made so far. -/
structure SubI (x y : Nat) (l : List Nat) (c : Nat) : Prop where
  small : Small l
  carry : c ≤ 1
  sum : x + 65536 ^ l.length * (c + y / 65536 ^ l.length) = y + 65536 ^ l.length * (x / 65536 ^ l.length) + dv l
theorem SubI.next {x y c : Nat} {l : List Nat} (h : SubI x y l c) {d c' : Nat} (hd : d < 65536) (hc : c' ≤ 1) (hs : x / 65536 ^ l.length % 65536 + 65536 * c' = y / 65536 ^ l.length % 65536 + c + d) : SubI x y (l ++ [d]) c' := by
  refine ⟨small_snoc h.small hd, hc, ?_⟩
  have hsum := h.sum
  rw [dv_append, List.length_append, List.length_singleton, pow_step, pow_step, Nat.pow_succ]
  show _ = _ + (dv l + 65536 ^ l.length * (d + 65536 * 0))
  rw [Nat.mul_zero, Nat.add_zero]
  generalize x / 65536 ^ l.length = X at *
  generalize y / 65536 ^ l.length = Y at *
  generalize 65536 ^ l.length = P at *
  generalize dv l = D at *
  have e1 : P * (c + Y) = P * c + P * (Y % 65536) + 65536 * (P * (Y / 65536)) := by
    have : Y = Y % 65536 + 65536 * (Y / 65536) := by omega
    rw [Nat.mul_add]
    conv => lhs; rw [this]
    rw [Nat.mul_add, Nat.mul_left_comm P 65536, Nat.add_assoc]
  have e2 : P * X = P * (X % 65536) + 65536 * (P * (X / 65536)) := by
    have : X = X % 65536 + 65536 * (X / 65536) := by omega
    conv => lhs; rw [this]
    rw [Nat.mul_add, Nat.mul_left_comm P 65536]
  have e3 : P * (X % 65536) + 65536 * (P * c') = P * (Y % 65536) + P * c + P * d := by
    have := congrArg (P * ·) hs
    simp only [Nat.mul_add] at this
    rw [Nat.mul_left_comm P 65536] at this
    exact this
  have e4 : P * 65536 * (c' + Y / 65536) = 65536 * (P * c') + 65536 * (P * (Y / 65536)) := by rw [Nat.mul_add, Nat.mul_comm P 65536, Nat.mul_assoc, Nat.mul_assoc]
  have e5 : P * 65536 * (X / 65536) = 65536 * (P * (X / 65536)) := by rw [Nat.mul_comm P 65536, Nat.mul_assoc]
  rw [e4, e5]
  rw [e1, e2] at hsum
  generalize P * c = t1 at *
  generalize P * (Y % 65536) = t2 at *
  generalize P * (Y / 65536) = t3 at *
  generalize P * (X % 65536) = t4 at *
  generalize P * (X / 65536) = t5 at *
  generalize P * c' = t6 at *
  generalize P * d = t7 at *
  omega
theorem SubI.done {x y c : Nat} {l : List Nat} (h : SubI x y l c) (hxy : y ≤ x) (hx : x / 65536 ^ l.length = 0) : dv l = x - y := by
  have hsum := h.sum
  have hy : y / 65536 ^ l.length = 0 := Nat.eq_zero_of_le_zero (by rw [← hx]; exact Nat.div_le_div_right hxy)
  have hl := dv_lt l h.small
  rw [hx, hy, Nat.mul_zero, Nat.add_zero, Nat.add_zero] at hsum
  have hc := h.carry
  have hcc : c = 0 ∨ c = 1 := by omega
  rcases hcc with rfl | rfl
  · rw [Nat.mul_zero] at hsum; omega
  · rw [Nat.mul_one] at hsum; omega
set_option maxRecDepth 100000 in
set_option maxHeartbeats 4000000 in
theorem Sub_any (x y : Nat) (va vb : Value) (w : World) (ha : Dg w va x) (hb : Dg w vb y) (hxy : y ≤ x) :
    Calls Try.prog 52 #[va, vb] w fun e w' => ∃ v, e = .returned v ∧ Dg w' v (x - y) ∧ Own w.heap.size v ∧ Below w.heap.size w w' := by
  obtain ⟨A, na, ca, rfl, ha1, ha2, ha3, ha4⟩ := ha
  obtain ⟨A2, nb, cb, rfl, hb1, hb2, hb3, hb4⟩ := hb
  have HA := Lib.hid ha2
  have HB := Lib.hid hb2
  have HR := Lib.hid (And.intro ha4 hb4)
  have HXY := Lib.hid hxy
  clear ha2 hb2 ha4 hb4 hxy
  go_enter Try.func52, Try.ntmps52
  go_wp2_with fail
  go_loopw [5, 6, 12] (fun out c i wr => ∃ (l : List Nat) (k : Nat), i = .int .i64 (l.length : Nat) ∧ l.length ≤ na ∧ c = .int .i64 (k : Nat) ∧ Hid (SubI x y l k) ∧ wr.ownsRow w.heap.size 3 1 out l.length (l.map iv) ∧ Below w.heap.size w wr) (fun _ _ i _ => na - (intOf i).toNat)
  case atStart => exact ⟨[], 0, rfl, by simp, rfl, Lib.hid ⟨fun d hd => (by simp at hd), by omega, by simp [dv]; omega⟩, ownsRow_new (n := 0) _ (Nat.le_refl _) rfl (Nat.zero_le _), (Below.refl _ _).alloc (Nat.le_refl _) _⟩
  case round =>
    obtain ⟨l, k, rfl, hll, rfl, hI, hown, hb⟩ := hrel
    have hbz := hb.size
    have hc := hI.out.carry
    obtain ⟨i, hi⟩ : ∃ i, i = l.length := ⟨_, rfl⟩
    have Hi := Lib.hid hi
    rw [← hi] at hown hll
    rw [← hi]
    by_cases hin : i < na
    · obtain ⟨X, hX⟩ : ∃ X, X = x / 65536 ^ i := ⟨_, rfl⟩
      obtain ⟨Y, hY⟩ : ∃ Y, Y = y / 65536 ^ i := ⟨_, rfl⟩
      have hIY : (i < nb ↔ 0 < Y) := by rw [hY, HB.out]; exact nd_lt
      have hnx : ∀ d c', d < 65536 → c' ≤ 1 → X % 65536 + 65536 * c' = Y % 65536 + k + d → SubI x y (l ++ [d]) c' := fun d c' h1 h2 h3 => hI.out.next h1 h2 (by rw [← hi, ← hX, ← hY]; exact h3)
      obtain ⟨ad, rfl, _, hcell⟩ := (HR.out.1.below hb).2 (by omega)
      have hca := hcell i (iv (X % 65536)) (by rw [List.getElem?_map, digs_at (by rw [← HA.out]; exact hin), hX]; rfl)
      unfold iv at hca
      have rb : i < nb → ∃ ad, A2 = some ad ∧ wr.cell? (ad.add i) = some (.int .i64 ((Y % 65536 : Nat) : Int)) := fun h => by
        obtain ⟨ad, e, _, hcell⟩ := (HR.out.2.below hb).2 (by omega)
        refine ⟨ad, e, hcell i _ ?_⟩
        rw [List.getElem?_map, digs_at (by rw [← HB.out]; exact h), hY]
        rfl
      obtain ⟨xd, hxd⟩ : ∃ xd, xd = X % 65536 := ⟨_, rfl⟩
      obtain ⟨yd, hyd⟩ : ∃ yd, yd = Y % 65536 := ⟨_, rfl⟩
      have hxl : xd < 65536 := by omega
      have hyl : yd < 65536 := by omega
      have hy0 : ¬ i < nb → yd = 0 := fun h => by have : Y = 0 := by omega
                                                  omega
      rw [← hxd] at hca hnx
      rw [← hyd] at rb hnx
      clear hX hY hcell hIY hxd hyd hi
      have f5 : IntKind.i64.wrap ((i : Int) + 1) = ((i + 1 : Nat) : Int) := by rw [show (i : Int) + 1 = ((i + 1 : Nat) : Int) by omega]; exact IntWalk.i64_in _ ⟨by omega, by omega⟩
      by_cases h2 : i < nb
      · obtain ⟨ad2, rfl, hcb⟩ := rb h2
        clear rb hy0
        by_cases hneg : xd < yd + k
        · obtain ⟨d, hd⟩ : ∃ d, d = xd + 65536 - yd - k := ⟨_, rfl⟩
          have hdl : d < 65536 := by omega
          have HS := Lib.hid (hnx d 1 hdl (by omega) (by omega))
          obtain ⟨z, hz⟩ : ∃ z : Int, z = (xd : Int) - (k : Int) - (yd : Int) := ⟨_, rfl⟩
          have hz0 : z < 0 := by omega
          have f3 : IntKind.i64.wrap (z + 65536) = (d : Int) := by rw [show z + 65536 = (d : Int) by omega]; exact IntWalk.i64_in _ ⟨by omega, by omega⟩
          obtain ⟨t, ht⟩ : ∃ t : Int, t = (xd : Int) - (k : Int) := ⟨_, rfl⟩
          have f1 : IntKind.i64.wrap ((xd : Int) - (k : Int)) = t := by rw [ht]; exact IntWalk.i64_in _ ⟨by omega, by omega⟩
          have f2 : IntKind.i64.wrap (t - (yd : Int)) = z := by rw [show t - (yd : Int) = z by omega]; exact IntWalk.i64_in _ ⟨by omega, by omega⟩
          have hnn : (0 : Int) ≤ (d : Int) := by omega
          clear hd hnx hc hxl hyl hz ht hneg
          go_wp2_with (at_builtin; refine wpList_push rfl (.tmp 35) (.tmp 37) 77 rfl styD (cs := #[iv d]) rfl (iv_one _) rfl hown rfl (by omega) (by omega) ?_; intro v1 w1 hown1 hb1)
          go_roundw
          case rel => exact ⟨l ++ [d], 1, by rw [List.length_append, List.length_singleton, ← Hi.out]; exact congrArg (Value.int IntKind.i64) (by omega), by rw [List.length_append, List.length_singleton, ← Hi.out]; omega, rfl, HS, by rw [List.length_append, List.length_singleton, ← Hi.out]; simpa using hown1, hb.trans hb1⟩
          case measure => simp [intOf]; omega
        · have hneg' : yd + k ≤ xd := by omega
          obtain ⟨d, hd⟩ : ∃ d, d = xd + 0 - yd - k := ⟨_, rfl⟩
          have hdl : d < 65536 := by omega
          have HS := Lib.hid (hnx d 0 hdl (by omega) (by omega))
          obtain ⟨t, ht⟩ : ∃ t : Int, t = (xd : Int) - (k : Int) := ⟨_, rfl⟩
          have f1 : IntKind.i64.wrap ((xd : Int) - (k : Int)) = t := by rw [ht]; exact IntWalk.i64_in _ ⟨by omega, by omega⟩
          have f2 : IntKind.i64.wrap (t - (yd : Int)) = (d : Int) := by rw [show t - (yd : Int) = (d : Int) by omega]; exact IntWalk.i64_in _ ⟨by omega, by omega⟩
          have hnn : (0 : Int) ≤ (d : Int) := by omega
          clear hd hnx hc hxl hyl ht hneg
          go_wp2_with (at_builtin; refine wpList_push rfl (.tmp 35) (.tmp 37) 77 rfl styD (cs := #[iv d]) rfl (iv_one _) rfl hown rfl (by omega) (by omega) ?_; intro v1 w1 hown1 hb1)
          go_roundw
          case rel => exact ⟨l ++ [d], 0, by rw [List.length_append, List.length_singleton, ← Hi.out]; exact congrArg (Value.int IntKind.i64) (by omega), by rw [List.length_append, List.length_singleton, ← Hi.out]; omega, rfl, HS, by rw [List.length_append, List.length_singleton, ← Hi.out]; simpa using hown1, hb.trans hb1⟩
          case measure => simp [intOf]; omega
      · have d2 : decide ((i : Int) < (nb : Int)) = false := by simp; omega
        have hyd0 := hy0 h2
        clear rb hy0
        by_cases hneg : xd < k
        · obtain ⟨d, hd⟩ : ∃ d, d = xd + 65536 - 0 - k := ⟨_, rfl⟩
          have hdl : d < 65536 := by omega
          have HS := Lib.hid (hnx d 1 hdl (by omega) (by omega))
          obtain ⟨z, hz⟩ : ∃ z : Int, z = (xd : Int) - (k : Int) - (0 : Int) := ⟨_, rfl⟩
          have hz0 : z < 0 := by omega
          have f3 : IntKind.i64.wrap (z + 65536) = (d : Int) := by rw [show z + 65536 = (d : Int) by omega]; exact IntWalk.i64_in _ ⟨by omega, by omega⟩
          have f1 : IntKind.i64.wrap ((xd : Int) - (k : Int)) = z := by rw [show (xd : Int) - (k : Int) = z by omega]; exact IntWalk.i64_in _ ⟨by omega, by omega⟩
          have hnn : (0 : Int) ≤ (d : Int) := by omega
          clear hd hnx hc hxl hyl hz hyd0 hneg
          go_wp2_with (at_builtin; refine wpList_push rfl (.tmp 35) (.tmp 37) 77 rfl styD (cs := #[iv d]) rfl (iv_one _) rfl hown rfl (by omega) (by omega) ?_; intro v1 w1 hown1 hb1)
          go_roundw
          case rel => exact ⟨l ++ [d], 1, by rw [List.length_append, List.length_singleton, ← Hi.out]; exact congrArg (Value.int IntKind.i64) (by omega), by rw [List.length_append, List.length_singleton, ← Hi.out]; omega, rfl, HS, by rw [List.length_append, List.length_singleton, ← Hi.out]; simpa using hown1, hb.trans hb1⟩
          case measure => simp [intOf]; omega
        · have hneg' : k ≤ xd := by omega
          obtain ⟨d, hd⟩ : ∃ d, d = xd + 0 - 0 - k := ⟨_, rfl⟩
          have hdl : d < 65536 := by omega
          have HS := Lib.hid (hnx d 0 hdl (by omega) (by omega))
          have f1 : IntKind.i64.wrap ((xd : Int) - (k : Int)) = (d : Int) := by rw [show (xd : Int) - (k : Int) = (d : Int) by omega]; exact IntWalk.i64_in _ ⟨by omega, by omega⟩
          have hnn : (0 : Int) ≤ (d : Int) := by omega
          clear hd hnx hc hxl hyl hyd0 hneg
          go_wp2_with (at_builtin; refine wpList_push rfl (.tmp 35) (.tmp 37) 77 rfl styD (cs := #[iv d]) rfl (iv_one _) rfl hown rfl (by omega) (by omega) ?_; intro v1 w1 hown1 hb1)
          go_roundw
          case rel => exact ⟨l ++ [d], 0, by rw [List.length_append, List.length_singleton, ← Hi.out]; exact congrArg (Value.int IntKind.i64) (by omega), by rw [List.length_append, List.length_singleton, ← Hi.out]; omega, rfl, HS, by rw [List.length_append, List.length_singleton, ← Hi.out]; simpa using hown1, hb.trans hb1⟩
          case measure => simp [intOf]; omega
    · obtain rfl : na = i := by omega
      have hx0 : x / 65536 ^ l.length = 0 := by
        rw [← hi]
        have : ¬ 0 < x / 65536 ^ na := fun h => by have := nd_lt.2 h; have := HA.out; omega
        exact Nat.eq_zero_of_not_pos this
      have HSM := Lib.hid (hI.out.done HXY.out hx0)
      have HO := Lib.hid (ownsRow_lt hown)
      obtain ⟨A3, c3, rfl, hc3, hr3⟩ := ownsRow_reads hown
      have HT := trim_any A3 na c3 l wr wr.heap.size hr3 hI.out.small hc3 ha3
      have HTT := Lib.hid HT
      have HR3 := Lib.hid hr3
      clear hown HT hr3 hi hx0 hc
      go_wp2_with fail
      refine HTT.out.mono ?_
      rintro e w4 ⟨n, rfl, hni, hdg, rfl⟩
      go_wp2_with fail
      go_ret
      have hli : l.length = na := Hi.out.symm
      rw [HSM.out] at hdg
      have hndn : n = nd (x - y) := by unfold nd; rw [hdg, List.length_take]; omega
      refine ⟨_, rfl, ⟨A3, n, c3, rfl, by omega, hndn, by omega, ?_⟩, fun k hk => (HO.out k (by cases A3 <;> exact hk)).1, hb⟩
      rw [hdg, List.map_take]
      exact HR3.out.prefix_ hni
end Go.Proofs.Ytfpbahihndgabaa
