/-
  The reference's digits: Add.
-/
import Derived.Test.YtfpbahihndgabaaDigA
namespace Go.Proofs.Ytfpbahihndgabaa
set_option linter.unusedSimpArgs false
set_option linter.unusedVariables false
open Go.RowKit

theorem pow_step (x i : Nat) : x / 65536 ^ (i + 1) = x / 65536 ^ i / 65536 := by rw [Nat.pow_succ, Nat.div_div_eq_div_mul]
theorem add_step {P D c X Y s : Nat} (hs : s = c + X % 65536 + Y % 65536) : D + P * (s % 65536) + P * 65536 * (s / 65536 + X / 65536 + Y / 65536) = D + P * (c + X + Y) := by
  have e : c + X + Y = s % 65536 + 65536 * (s / 65536 + X / 65536 + Y / 65536) := by omega
  generalize s / 65536 + X / 65536 + Y / 65536 = Z at *
  rw [e, Nat.mul_add, ← Nat.mul_assoc, Nat.add_assoc]
theorem small_snoc {l : List Nat} {d : Nat} (h : Small l) (hd : d < 65536) : Small (l ++ [d]) := fun x hx => by
  rcases List.mem_append.1 hx with h1 | h1
  · exact h x h1
  · simp at h1; omega
/-- What Add has made so far. -/
structure AddI (x y : Nat) (l : List Nat) (c : Nat) : Prop where
  small : Small l
  carry : c ≤ 1
  sum : dv l + 65536 ^ l.length * (c + x / 65536 ^ l.length + y / 65536 ^ l.length) = x + y
theorem AddI.next {x y c : Nat} {l : List Nat} (h : AddI x y l c) {s : Nat} (hs : s = c + x / 65536 ^ l.length % 65536 + y / 65536 ^ l.length % 65536) : AddI x y (l ++ [s % 65536]) (s / 65536) := by
  refine ⟨small_snoc h.small (by omega), by have := h.carry; omega, ?_⟩
  rw [dv_append, List.length_append, List.length_singleton, pow_step, pow_step, Nat.pow_succ]
  show dv l + 65536 ^ l.length * (s % 65536 + 65536 * 0) + _ = _
  rw [Nat.mul_zero, Nat.add_zero, add_step hs]
  exact h.sum
set_option maxRecDepth 100000 in
set_option maxHeartbeats 4000000 in
theorem Add_any (x y : Nat) (va vb : Value) (w : World) (ha : Dg w va x) (hb : Dg w vb y) (hx : nd x ≤ 2000) (hy : nd y ≤ 2000) (hz : nd (x + y) ≤ 5000) :
    Calls Try.prog 48 #[va, vb] w fun e w' => ∃ v, e = .returned v ∧ Dg w' v (x + y) ∧ Own w.heap.size v ∧ Below w.heap.size w w' := by
  obtain ⟨A, na, ca, rfl, ha1, ha2, _, ha4⟩ := ha
  obtain ⟨A2, nb, cb, rfl, hb1, hb2, _, hb4⟩ := hb
  have HA : Hid (na = nd x ∧ na ≤ 2000) := Lib.hid ⟨ha2, by omega⟩
  have HB : Hid (nb = nd y ∧ nb ≤ 2000) := Lib.hid ⟨hb2, by omega⟩
  have HR := Lib.hid (And.intro ha4 hb4)
  have HZ := Lib.hid hz
  clear ha2 hb2 ha4 hb4 hx hy hz
  go_enter Try.func48, Try.ntmps48
  go_wp2_with fail
  go_loopw [5, 6, 7] (fun out c i wr => ∃ (l : List Nat) (k : Nat), i = .int .i64 (l.length : Nat) ∧ l.length ≤ 2001 ∧ c = .int .i64 (k : Nat) ∧ Hid (AddI x y l k) ∧ (1 ≤ k → l.length ≤ 2000) ∧ wr.ownsRow w.heap.size 3 1 out l.length (l.map iv) ∧ Below w.heap.size w wr) (fun _ c i _ => 2001 - (intOf i).toNat)
  case atStart => exact ⟨[], 0, rfl, by simp, rfl, Lib.hid ⟨fun d hd => (by simp at hd), by omega, by simp [dv]⟩, by simp, ownsRow_new (n := 0) _ (Nat.le_refl _) rfl (Nat.zero_le _), (Below.refl _ _).alloc (Nat.le_refl _) _⟩
  case round =>
    obtain ⟨l, k, rfl, hll, rfl, hI, hk1, hown, hb⟩ := hrel
    have hb2 := hb.size
    have hc := hI.out.carry
    obtain ⟨i, hi⟩ : ∃ i, i = l.length := ⟨_, rfl⟩
    obtain ⟨X, hX⟩ : ∃ X, X = x / 65536 ^ i := ⟨_, rfl⟩
    obtain ⟨Y, hY⟩ : ∃ Y, Y = y / 65536 ^ i := ⟨_, rfl⟩
    have hIX : (i < na ↔ 0 < X) := by rw [hX, HA.out.1]; exact nd_lt
    have hIY : (i < nb ↔ 0 < Y) := by rw [hY, HB.out.1]; exact nd_lt
    have hnx : ∀ s, s = k + X % 65536 + Y % 65536 → AddI x y (l ++ [s % 65536]) (s / 65536) := fun s hs => hI.out.next (by rw [← hi, ← hX, ← hY]; exact hs)
    have HN := Lib.hid hnx
    have ra : i < na → ∃ ad, A = some ad ∧ wr.cell? (ad.add i) = some (.int .i64 ((X % 65536 : Nat) : Int)) := fun h => by
      obtain ⟨ad, e, _, hcell⟩ := (HR.out.1.below hb).2 (by omega)
      refine ⟨ad, e, hcell i _ ?_⟩
      rw [List.getElem?_map, digs_at (by rw [← HA.out.1]; exact h), hX]
      rfl
    have rb : i < nb → ∃ ad, A2 = some ad ∧ wr.cell? (ad.add i) = some (.int .i64 ((Y % 65536 : Nat) : Int)) := fun h => by
      obtain ⟨ad, e, _, hcell⟩ := (HR.out.2.below hb).2 (by omega)
      refine ⟨ad, e, hcell i _ ?_⟩
      rw [List.getElem?_map, digs_at (by rw [← HB.out.1]; exact h), hY]
      rfl
    have hA5 := HA.out.2
    have hB5 := HB.out.2
    have Hi := Lib.hid hi
    rw [← hi] at hown hll hk1
    rw [← hi]
    have HX := Lib.hid (And.intro hX hY)
    clear hX hY hnx hi
    by_cases h1 : i < na
    · obtain ⟨ad, rfl, hca⟩ := ra h1
      by_cases h2 : i < nb
      · obtain ⟨ad2, rfl, hcb⟩ := rb h2
        clear ra rb
        obtain ⟨s, hs⟩ : ∃ s, s = k + X % 65536 + Y % 65536 := ⟨_, rfl⟩
        have hsn := HN.out s (by omega)
        obtain ⟨xd, hxd⟩ : ∃ xd, xd = X % 65536 := ⟨_, rfl⟩
        have hxl : xd < 65536 := by omega
        rw [← hxd] at hca hs
        obtain ⟨yd, hyd⟩ : ∃ yd, yd = Y % 65536 := ⟨_, rfl⟩
        have hyl : yd < 65536 := by omega
        rw [← hyd] at hcb hs
        have f1 : IntKind.i64.wrap ((k : Int) + (xd : Int)) = ((k + xd : Nat) : Int) := by rw [show (k : Int) + (xd : Int) = ((k + xd : Nat) : Int) by omega]; exact IntWalk.i64_in _ ⟨by omega, by omega⟩
        have f2 : IntKind.i64.wrap (((k + xd : Nat) : Int) + (yd : Int)) = (s : Int) := by rw [show ((k + xd : Nat) : Int) + (yd : Int) = (s : Int) by omega]; exact IntWalk.i64_in _ ⟨by omega, by omega⟩
        obtain ⟨t, ht⟩ : ∃ t, t = k + xd := ⟨_, rfl⟩
        rw [← ht] at f1 f2
        have f3 : ((s : Nat) : Int).tmod 65536 = ((s % 65536 : Nat) : Int) := rfl
        have f4 : IntKind.i64.wrap (((s : Nat) : Int).tdiv 65536) = ((s / 65536 : Nat) : Int) := by rw [show ((s : Nat) : Int).tdiv 65536 = ((s / 65536 : Nat) : Int) from rfl]; exact IntWalk.i64_in _ ⟨by omega, by omega⟩
        have f5 : IntKind.i64.wrap ((i : Int) + 1) = ((i + 1 : Nat) : Int) := by rw [show (i : Int) + 1 = ((i + 1 : Nat) : Int) by omega]; exact IntWalk.i64_in _ ⟨by omega, by omega⟩
        have HS := Lib.hid hsn
        have hsl : s ≤ 140000 := by omega
        have hq1 : 1 ≤ s / 65536 → i + 1 ≤ 2000 := by omega
        have HQ := Lib.hid hq1
        clear hsn hq1 hIX hIY hk1 hc hxd hxl hyd hyl ht hs
        go_wp2_with (at_builtin; refine wpList_push rfl (.tmp 45) (.tmp 48) 77 rfl styD (cs := #[iv (s % 65536)]) rfl (iv_one _) rfl hown rfl (by omega) (by omega) ?_; intro v1 w1 hown1 hb1)
        go_roundw
        case rel => exact ⟨l ++ [s % 65536], s / 65536, by rw [List.length_append, List.length_singleton, ← Hi.out]; exact congrArg (Value.int IntKind.i64) (by omega), by rw [List.length_append, List.length_singleton, ← Hi.out]; omega, by first | rfl | (refine congrArg (Value.int IntKind.i64) ?_; rw [IntWalk.wrap64_in _ ⟨by omega, by omega⟩]; rfl), HS, by rw [List.length_append, List.length_singleton, ← Hi.out]; exact HQ.out, by rw [List.length_append, List.length_singleton, ← Hi.out]; simpa using hown1, hb.trans hb1⟩
        case measure => simp [intOf]; omega
      · have d2 : decide ((i : Int) < (nb : Int)) = false := by simp; omega
        have hY0 : Y = 0 := by omega
        clear ra rb
        obtain ⟨s, hs⟩ : ∃ s, s = k + X % 65536 + 0 := ⟨_, rfl⟩
        have hsn := HN.out s (by omega)
        obtain ⟨xd, hxd⟩ : ∃ xd, xd = X % 65536 := ⟨_, rfl⟩
        have hxl : xd < 65536 := by omega
        rw [← hxd] at hca hs
        have f1 : IntKind.i64.wrap ((k : Int) + (xd : Int)) = (s : Int) := by rw [show (k : Int) + (xd : Int) = (s : Int) by omega]; exact IntWalk.i64_in _ ⟨by omega, by omega⟩
        have f3 : ((s : Nat) : Int).tmod 65536 = ((s % 65536 : Nat) : Int) := rfl
        have f4 : IntKind.i64.wrap (((s : Nat) : Int).tdiv 65536) = ((s / 65536 : Nat) : Int) := by rw [show ((s : Nat) : Int).tdiv 65536 = ((s / 65536 : Nat) : Int) from rfl]; exact IntWalk.i64_in _ ⟨by omega, by omega⟩
        have f5 : IntKind.i64.wrap ((i : Int) + 1) = ((i + 1 : Nat) : Int) := by rw [show (i : Int) + 1 = ((i + 1 : Nat) : Int) by omega]; exact IntWalk.i64_in _ ⟨by omega, by omega⟩
        have HS := Lib.hid hsn
        have hsl : s ≤ 140000 := by omega
        have hq1 : 1 ≤ s / 65536 → i + 1 ≤ 2000 := by omega
        have HQ := Lib.hid hq1
        clear hsn hq1 hIX hIY hk1 hc hxd hxl hs
        go_wp2_with (at_builtin; refine wpList_push rfl (.tmp 45) (.tmp 48) 77 rfl styD (cs := #[iv (s % 65536)]) rfl (iv_one _) rfl hown rfl (by omega) (by omega) ?_; intro v1 w1 hown1 hb1)
        go_roundw
        case rel => exact ⟨l ++ [s % 65536], s / 65536, by rw [List.length_append, List.length_singleton, ← Hi.out]; exact congrArg (Value.int IntKind.i64) (by omega), by rw [List.length_append, List.length_singleton, ← Hi.out]; omega, by first | rfl | (refine congrArg (Value.int IntKind.i64) ?_; rw [IntWalk.wrap64_in _ ⟨by omega, by omega⟩]; rfl), HS, by rw [List.length_append, List.length_singleton, ← Hi.out]; exact HQ.out, by rw [List.length_append, List.length_singleton, ← Hi.out]; simpa using hown1, hb.trans hb1⟩
        case measure => simp [intOf]; omega
    · have d1 : decide ((i : Int) < (na : Int)) = false := by simp; omega
      have hX0 : X = 0 := by omega
      by_cases h2 : i < nb
      · obtain ⟨ad2, rfl, hcb⟩ := rb h2
        clear ra rb
        obtain ⟨s, hs⟩ : ∃ s, s = k + 0 + Y % 65536 := ⟨_, rfl⟩
        have hsn := HN.out s (by omega)
        obtain ⟨yd, hyd⟩ : ∃ yd, yd = Y % 65536 := ⟨_, rfl⟩
        have hyl : yd < 65536 := by omega
        rw [← hyd] at hcb hs
        have f1 : IntKind.i64.wrap ((k : Int) + (yd : Int)) = (s : Int) := by rw [show (k : Int) + (yd : Int) = (s : Int) by omega]; exact IntWalk.i64_in _ ⟨by omega, by omega⟩
        have f3 : ((s : Nat) : Int).tmod 65536 = ((s % 65536 : Nat) : Int) := rfl
        have f4 : IntKind.i64.wrap (((s : Nat) : Int).tdiv 65536) = ((s / 65536 : Nat) : Int) := by rw [show ((s : Nat) : Int).tdiv 65536 = ((s / 65536 : Nat) : Int) from rfl]; exact IntWalk.i64_in _ ⟨by omega, by omega⟩
        have f5 : IntKind.i64.wrap ((i : Int) + 1) = ((i + 1 : Nat) : Int) := by rw [show (i : Int) + 1 = ((i + 1 : Nat) : Int) by omega]; exact IntWalk.i64_in _ ⟨by omega, by omega⟩
        have HS := Lib.hid hsn
        have hsl : s ≤ 140000 := by omega
        have hq1 : 1 ≤ s / 65536 → i + 1 ≤ 2000 := by omega
        have HQ := Lib.hid hq1
        clear hsn hq1 hIX hIY hk1 hc hyd hyl hs
        go_wp2_with (at_builtin; refine wpList_push rfl (.tmp 45) (.tmp 48) 77 rfl styD (cs := #[iv (s % 65536)]) rfl (iv_one _) rfl hown rfl (by omega) (by omega) ?_; intro v1 w1 hown1 hb1)
        go_roundw
        case rel => exact ⟨l ++ [s % 65536], s / 65536, by rw [List.length_append, List.length_singleton, ← Hi.out]; exact congrArg (Value.int IntKind.i64) (by omega), by rw [List.length_append, List.length_singleton, ← Hi.out]; omega, by first | rfl | (refine congrArg (Value.int IntKind.i64) ?_; rw [IntWalk.wrap64_in _ ⟨by omega, by omega⟩]; rfl), HS, by rw [List.length_append, List.length_singleton, ← Hi.out]; exact HQ.out, by rw [List.length_append, List.length_singleton, ← Hi.out]; simpa using hown1, hb.trans hb1⟩
        case measure => simp [intOf]; omega
      · have d2 : decide ((i : Int) < (nb : Int)) = false := by simp; omega
        have hY0 : Y = 0 := by omega
        clear ra rb
        by_cases hk0 : 0 < k
        · have hk0' : 0 < k := hk0
          have hi20 : i ≤ 2000 := hk1 (by omega)
          obtain ⟨s, hs⟩ : ∃ s, s = k + 0 + 0 := ⟨_, rfl⟩
          have hsn := HN.out s (by omega)
          have hsk : s = k := by omega
          subst hsk
          clear hs hX0 hY0
          have f3 : ((s : Nat) : Int).tmod 65536 = ((s % 65536 : Nat) : Int) := rfl
          have f4 : IntKind.i64.wrap (((s : Nat) : Int).tdiv 65536) = ((s / 65536 : Nat) : Int) := by rw [show ((s : Nat) : Int).tdiv 65536 = ((s / 65536 : Nat) : Int) from rfl]; exact IntWalk.i64_in _ ⟨by omega, by omega⟩
          have f5 : IntKind.i64.wrap ((i : Int) + 1) = ((i + 1 : Nat) : Int) := by rw [show (i : Int) + 1 = ((i + 1 : Nat) : Int) by omega]; exact IntWalk.i64_in _ ⟨by omega, by omega⟩
          have HS := Lib.hid hsn
          have hsl : s ≤ 140000 := by omega
          have hq1 : 1 ≤ s / 65536 → i + 1 ≤ 2000 := by omega
          have HQ := Lib.hid hq1
          clear hsn hq1 hIX hIY hk1 hc
          go_wp2_with (at_builtin; refine wpList_push rfl (.tmp 45) (.tmp 48) 77 rfl styD (cs := #[iv (s % 65536)]) rfl (iv_one _) rfl hown rfl (by omega) (by omega) ?_; intro v1 w1 hown1 hb1)
          go_roundw
          case rel => exact ⟨l ++ [s % 65536], s / 65536, by rw [List.length_append, List.length_singleton, ← Hi.out]; exact congrArg (Value.int IntKind.i64) (by omega), by rw [List.length_append, List.length_singleton, ← Hi.out]; omega, by first | rfl | (refine congrArg (Value.int IntKind.i64) ?_; rw [IntWalk.wrap64_in _ ⟨by omega, by omega⟩]; rfl), HS, by rw [List.length_append, List.length_singleton, ← Hi.out]; exact HQ.out, by rw [List.length_append, List.length_singleton, ← Hi.out]; simpa using hown1, hb.trans hb1⟩
          case measure => simp [intOf]; omega
        · obtain rfl : k = 0 := by omega
          have hsum := hI.out.sum
          rw [← Hi.out, ← HX.out.1, ← HX.out.2, hX0, hY0] at hsum
          have hsum' : dv l = x + y := by simpa using hsum
          have HO := Lib.hid (ownsRow_lt hown)
          obtain ⟨A3, c3, rfl, hc3, hr3⟩ := ownsRow_reads hown
          have HT := trim_any A3 i c3 l wr wr.heap.size hr3 hI.out.small hc3 (by omega)
          have HTT := Lib.hid HT
          have HR3 := Lib.hid hr3
          have HSM := Lib.hid hsum'
          clear hsum hsum' hIX hIY hk1 hown HT hr3 hX0 hY0 hk0 hc
          go_wp2_with fail
          refine HTT.out.mono ?_
          rintro e w4 ⟨n, rfl, hni, hdg, rfl⟩
          go_wp2_with fail
          go_ret
          have hli : l.length = i := Hi.out.symm
          rw [HSM.out] at hdg
          have hndn : n = nd (x + y) := by unfold nd; rw [hdg, List.length_take]; omega
          refine ⟨_, rfl, ⟨A3, n, c3, rfl, by omega, hndn, by rw [hndn]; exact HZ.out, ?_⟩, fun k hk => (HO.out k (by cases A3 <;> exact hk)).1, hb⟩
          rw [hdg, List.map_take]
          exact HR3.out.prefix_ hni
end Go.Proofs.Ytfpbahihndgabaa
