/-
  The reference's digits: Mul.
-/
import Derived.Test.YtfpbahihndgabaaDigD
namespace Go.Proofs.Ytfpbahihndgabaa
set_option linter.unusedSimpArgs false
set_option linter.unusedVariables false
open Go.RowKit

/-- A row of digits as a number. -/
def rv (o : Nat → Nat) (N : Nat) : Nat := dv ((List.range N).map o)
theorem rv_succ (o : Nat → Nat) (N : Nat) : rv o (N + 1) = rv o N + 65536 ^ N * o N := by
  unfold rv
  rw [List.range_succ, List.map_append, dv_append]
  simp [dv]
theorem rv_congr {o o' : Nat → Nat} {N : Nat} (h : ∀ j, j < N → o j = o' j) : rv o N = rv o' N := by
  unfold rv
  rw [List.map_congr_left (fun j hj => h j (List.mem_range.1 hj))]
theorem rv_zero (N : Nat) : rv (fun _ => 0) N = 0 := by
  unfold rv
  exact dv_zeros _ (fun d hd => by obtain ⟨_, _, e⟩ := List.mem_map.1 hd; exact e.symm)
def upd (o : Nat → Nat) (p d : Nat) : Nat → Nat := fun j => if j = p then d else o j
theorem rv_set {o : Nat → Nat} {p d : Nat} : ∀ {N : Nat}, p < N → rv (upd o p d) N + 65536 ^ p * o p = rv o N + 65536 ^ p * d
  | 0, h => by omega
  | N + 1, h => by
    rw [rv_succ, rv_succ]
    by_cases hp : p = N
    · subst hp
      have e : rv (upd o p d) p = rv o p := rv_congr fun j hj => by unfold upd; rw [if_neg (by omega)]
      have e2 : upd o p d p = d := by unfold upd; rw [if_pos rfl]
      rw [e, e2]
      omega
    · have ih := rv_set (o := o) (d := d) (show p < N by omega)
      have e2 : upd o p d N = o N := by unfold upd; rw [if_neg (by omega)]
      rw [e2]
      omega
structure MulI (x y N i k : Nat) (o : Nat → Nat) (c : Nat) : Prop where
  small : ∀ j, o j < 65536
  carry : c < 65536
  kle : k ≤ nd y + 1
  last : k = nd y + 1 → c = 0
  zero : ∀ j, i + nd y ≤ j → i + k ≤ j → o j = 0
  sum : rv o N + c * 65536 ^ (i + k) + (x / 65536 ^ i % 65536) * (y / 65536 ^ k) * 65536 ^ (i + k) + (x / 65536 ^ (i + 1)) * y * 65536 ^ (i + 1) = x * y
theorem mul_step {R R' o P a Y c s : Nat} (hs : s = c + o + a * (Y % 65536)) (hr : R' + P * o = R + P * (s % 65536)) : R' + s / 65536 * (P * 65536) + a * (Y / 65536) * (P * 65536) = R + c * P + a * Y * P := by
  have e1 : s / 65536 * (P * 65536) = P * (65536 * (s / 65536)) := by rw [Nat.mul_comm (s / 65536), Nat.mul_assoc]
  have e2 : a * Y * P = P * (a * (Y % 65536)) + a * (Y / 65536) * (P * 65536) := by
    have : Y = Y % 65536 + 65536 * (Y / 65536) := by omega
    conv => lhs; rw [this]
    grind
  have e3 : P * s = P * (s % 65536) + P * (65536 * (s / 65536)) := by
    rw [← Nat.mul_add]
    congr 1
    omega
  have e4 : P * s = c * P + P * o + P * (a * (Y % 65536)) := by rw [hs]; grind
  rw [e1, e2]
  omega
theorem MulI.next {x y N i k c : Nat} {o : Nat → Nat} (h : MulI x y N i k o c) (hi : i < nd x) (hN : N = nd x + nd y + 1) (hk : k < nd y ∨ 0 < c) {s : Nat} (hs : s = c + o (i + k) + (x / 65536 ^ i % 65536) * (y / 65536 ^ k % 65536)) :
    MulI x y N i (k + 1) (upd o (i + k) (s % 65536)) (s / 65536) ∧ i + k < N ∧ s < 4294967296 := by
  have hkl := h.kle
  have hla := h.last
  have hca := h.carry
  have hsm := h.small (i + k)
  have hb : (x / 65536 ^ i % 65536) * (y / 65536 ^ k % 65536) ≤ 65535 * 65535 := Nat.mul_le_mul (by omega) (by omega)
  have hk' : k ≤ nd y := by omega
  have hs2 : s < 4294967296 := by omega
  refine ⟨⟨fun j => ?_, by omega, by omega, fun hk1 => ?_, fun j h1 h2 => ?_, ?_⟩, by omega, hs2⟩
  · unfold upd
    split
    · omega
    · exact h.small j
  · obtain rfl : k = nd y := by omega
    have hz := h.zero (i + nd y) (Nat.le_refl _) (Nat.le_refl _)
    have hy : y / 65536 ^ nd y = 0 := Nat.eq_zero_of_not_pos fun hp => by have := nd_lt.2 hp; omega
    rw [hz, hy] at hs
    simp at hs
    omega
  · unfold upd
    rw [if_neg (by omega)]
    exact h.zero j h1 (by omega)
  · have hsum := h.sum
    rw [pow_step y k, show i + (k + 1) = (i + k) + 1 by omega, Nat.pow_succ 65536 (i + k)]
    rw [mul_step hs (rv_set (by omega))]
    exact hsum
structure MulO (x y N i : Nat) (o : Nat → Nat) : Prop where
  small : ∀ j, o j < 65536
  zero : ∀ j, i + nd y ≤ j → o j = 0
  sum : rv o N + (x / 65536 ^ i) * y * 65536 ^ i = x * y
theorem MulO.start {x y N i : Nat} {o : Nat → Nat} (h : MulO x y N i o) : MulI x y N i 0 o 0 := by
  refine ⟨h.small, by omega, by omega, fun _ => rfl, fun j h1 _ => h.zero j h1, ?_⟩
  have hsum := h.sum
  rw [Nat.pow_zero, Nat.div_one, Nat.add_zero, Nat.zero_mul, Nat.add_zero, pow_step, Nat.pow_succ]
  rw [← hsum]
  generalize x / 65536 ^ i = X
  generalize 65536 ^ i = P
  have : X = X % 65536 + 65536 * (X / 65536) := by omega
  conv => rhs; rw [this]
  grind
theorem MulI.done {x y N i k : Nat} {o : Nat → Nat} (h : MulI x y N i k o 0) (hk : nd y ≤ k) : MulO x y N (i + 1) o := by
  have hkl := h.kle
  refine ⟨h.small, fun j hj => h.zero j (by omega) (by omega), ?_⟩
  have hsum := h.sum
  have hy : y / 65536 ^ k = 0 := Nat.eq_zero_of_not_pos fun hp => by have := nd_lt.2 hp; omega
  rw [hy] at hsum
  simpa using hsum
theorem MulO.done {x y N i : Nat} {o : Nat → Nat} (h : MulO x y N i o) (hi : nd x ≤ i) : rv o N = x * y := by
  have hsum := h.sum
  have hx : x / 65536 ^ i = 0 := Nat.eq_zero_of_not_pos fun hp => by have := nd_lt.2 hp; omega
  rw [hx] at hsum
  simpa using hsum
theorem MulO.zero_ (x y N : Nat) : MulO x y N 0 (fun _ => 0) := ⟨fun _ => by decide, fun _ _ => rfl, by rw [rv_zero]; simp⟩
theorem row_reads {w : World} {g N : Nat} {t : TypeId} {o : Nat → Nat} (h : Blk w g t (rowF N fun j => iv (o j))) (hg : g < w.heap.size) : Reads w w.heap.size 1 (some ⟨g, 0, none⟩) N (((List.range N).map o).map iv) := by
  refine ⟨by simp, fun _ => ⟨_, rfl, hg, fun j u hu => ?_⟩⟩
  have := h.cell j
  have ea : (⟨g, 0, none⟩ : Addr).add j = ⟨g, j, none⟩ := by by_cases h0 : j = 0 <;> simp [Addr.add, h0]
  rw [ea, this]
  have hj : j < N := by
    rcases Nat.lt_or_ge j N with h1 | h1
    · exact h1
    · rw [List.getElem?_eq_none (by simpa using h1)] at hu; cases hu
  rw [rowF_get hj]
  simpa [hj] using hu
theorem row_upd {w : World} {g N p : Nat} {t : TypeId} {o : Nat → Nat} {d : Nat} {v : Value} (h : Blk w g t (rowF N fun j => iv (o j))) (hv : v = iv d) : Blk (w.setCell ⟨g, p, none⟩ v) g t (rowF N fun j => iv (upd o p d j)) := by
  have h1 := h.set_ p v
  rw [rowF_set (g := fun j => iv (upd o p d j)) (by simp [hv, upd]) (fun j hj => by simp [upd, hj])] at h1
  exact h1
theorem digs_row {o : Nat → Nat} {N z A n : Nat} (h : rv o N = z) : dv ((List.range N).map o) = z := h
set_option maxRecDepth 100000 in
set_option maxHeartbeats 4000000 in
theorem Mul_any (x y : Nat) (va vb : Value) (w : World) (ha : Dg w va x) (hb : Dg w vb y) (hn : nd x + nd y ≤ 4900) :
    Calls Try.prog 42 #[va, vb] w fun e w' => ∃ v, e = .returned v ∧ Dg w' v (x * y) ∧ Own w.heap.size v ∧ Below w.heap.size w w' := by
  obtain ⟨A, na, ca, rfl, ha1, ha2, _, ha4⟩ := ha
  obtain ⟨A2, nb, cb, rfl, hb1, hb2, _, hb4⟩ := hb
  have HA := Lib.hid ha2
  have HB := Lib.hid hb2
  have HR := Lib.hid (And.intro ha4 hb4)
  rw [← ha2, ← hb2] at hn
  clear ha2 hb2 ha4 hb4
  obtain ⟨N, hN⟩ : ∃ N, N = na + nb + 1 := ⟨_, rfl⟩
  have n1 : IntKind.i64.wrap ((na : Int) + (nb : Int)) = ((na + nb : Nat) : Int) := by rw [show (na : Int) + (nb : Int) = ((na + nb : Nat) : Int) by omega]; exact IntWalk.i64_in _ ⟨by omega, by omega⟩
  obtain ⟨M, hM⟩ : ∃ M, M = na + nb := ⟨_, rfl⟩
  rw [← hM] at n1
  have n2 : IntKind.i64.wrap ((M : Int) + 1) = (N : Int) := by rw [show (M : Int) + 1 = (N : Int) by omega]; exact IntWalk.i64_in _ ⟨by omega, by omega⟩
  have hmk := fun W => make_row (bytes := 8) (n := N) (e := 3) (z := .int .i64 0) Try.underlying77 (by kernel_rfl) rfl (by omega) (by omega) W
  have HN := Lib.hid hN
  have HM := Lib.hid hM
  have hN5 : N ≤ 4901 := by omega
  clear hN hM
  go_enter Try.func42, Try.ntmps42
  go_wp2_with fail
  have g0 : Blk (w.alloc (.cells (rowF N fun _ => .int .i64 0) 3)) w.heap.size 3 (rowF N fun j => iv ((fun _ => 0) j)) := Blk.new w 3 _
  have gb := (Below.refl w.heap.size w).alloc (Nat.le_refl _) (.cells (rowF N fun _ => .int .i64 0) 3)
  clear hmk n1 n2
  go_loopw [18] (fun i wr => ∃ (i' : Nat) (o : Nat → Nat), i = .int .i64 (i' : Nat) ∧ i' ≤ na ∧ Hid (MulO x y N i' o) ∧ Blk wr w.heap.size 3 (rowF N fun j => iv (o j)) ∧ w.heap.size < wr.heap.size ∧ Below w.heap.size w wr) (fun i _ => na - (intOf i).toNat)
  case atStart => exact ⟨0, fun _ => 0, rfl, Nat.zero_le _, Lib.hid (MulO.zero_ x y N), g0, by simp, gb⟩
  case round =>
    clear g0 gb
    obtain ⟨i, o, rfl, hil, hI, hblk, hsz, hb⟩ := hrel
    by_cases hin : i < na
    · have HI := Lib.hid hI.out.start
      clear hI
      go_wp2_with fail
      obtain ⟨wo, rfl⟩ : ∃ wo : World, wo = wr := ⟨_, rfl⟩
      go_loopw [7, 8] (fun c k wr2 => ∃ (c' k' : Nat) (o2 : Nat → Nat), c = .int .i64 (c' : Nat) ∧ k = .int .i64 (k' : Nat) ∧ Hid (MulI x y N i k' o2 c') ∧ Blk wr2 w.heap.size 3 (rowF N fun j => iv (o2 j)) ∧ w.heap.size < wr2.heap.size ∧ Below w.heap.size w wr2) (fun _ k _ => nb + 2 - (intOf k).toNat)
      case atStart => exact ⟨0, 0, o, rfl, rfl, HI, hblk, hsz, hb⟩
      case round =>
        clear hblk hsz hb HI
        obtain ⟨c, k, o2, rfl, rfl, hI, hblk, hsz, hb⟩ := hrel
        have hkl : k ≤ nb + 1 := by have := hI.out.kle; have := HB.out; omega
        have hlast : k = nb + 1 → c = 0 := by have := hI.out.last; rw [← HB.out] at this; exact this
        have hc5 := hI.out.carry
        obtain ⟨a, ha⟩ : ∃ a, a = x / 65536 ^ i % 65536 := ⟨_, rfl⟩
        obtain ⟨yd, hyd⟩ : ∃ yd, yd = y / 65536 ^ k % 65536 := ⟨_, rfl⟩
        obtain ⟨p, hp⟩ : ∃ p, p = i + k := ⟨_, rfl⟩
        have hos : o2 p < 65536 := hI.out.small p
        have hnx : (k < nb ∨ 0 < c) → ∀ s, s = c + o2 p + a * yd → MulI x y N i (k + 1) (upd o2 p (s % 65536)) (s / 65536) ∧ p < N ∧ s < 4294967296 := fun h s hs => by
          rw [hp]
          refine hI.out.next (by rw [← HA.out]; exact hin) (by rw [← HA.out, ← HB.out]; have := HN.out; omega) (by rw [← HB.out]; exact h) ?_
          rw [← hp, ← ha, ← hyd]; exact hs
        have HNX := Lib.hid hnx
        have f1 : IntKind.i64.wrap ((i : Int) + (k : Int)) = (p : Int) := by rw [show (i : Int) + (k : Int) = (p : Int) by omega]; exact IntWalk.i64_in _ ⟨by omega, by omega⟩
        have f5 : IntKind.i64.wrap ((k : Int) + 1) = ((k + 1 : Nat) : Int) := by rw [show (k : Int) + 1 = ((k + 1 : Nat) : Int) by omega]; exact IntWalk.i64_in _ ⟨by omega, by omega⟩
        have hcell : p < N → wr.cell? ⟨w.heap.size, p, none⟩ = some (.int .i64 ((o2 p : Nat) : Int)) := fun h => by rw [hblk.cell, rowF_get h]; rfl
        have hfz := hblk.frozen
        obtain ⟨od, hod⟩ : ∃ od, od = o2 p := ⟨_, rfl⟩
        rw [← hod] at hcell hos
        by_cases hk : k < nb
        · obtain ⟨ad, rfl, _, hca⟩ := (HR.out.1.below hb).2 (by omega)
          obtain ⟨ad2, rfl, _, hcb⟩ := (HR.out.2.below hb).2 (by omega)
          have c1 := hca i (iv a) (by rw [List.getElem?_map, digs_at (by rw [← HA.out]; exact hin), ha]; rfl)
          have c2 := hcb k (iv yd) (by rw [List.getElem?_map, digs_at (by rw [← HB.out]; exact hk), hyd]; rfl)
          unfold iv at c1 c2
          have hal : a < 65536 := by omega
          have hyl : yd < 65536 := by omega
          obtain ⟨m, hm⟩ : ∃ m, m = a * yd := ⟨_, rfl⟩
          have hml : m ≤ 65535 * 65535 := by rw [hm]; exact Nat.mul_le_mul (by omega) (by omega)
          obtain ⟨s, hs⟩ : ∃ s, s = c + od + m := ⟨_, rfl⟩
          obtain ⟨hs1, hs2, hs3⟩ := hnx (.inl hk) s (by rw [← hod, ← hm]; exact hs)
          have HS := Lib.hid hs1
          have hc3 := hcell hs2
          obtain ⟨t, ht⟩ : ∃ t, t = c + od := ⟨_, rfl⟩
          have f2 : IntKind.i64.wrap ((c : Int) + (od : Int)) = (t : Int) := by rw [show (c : Int) + (od : Int) = (t : Int) by omega]; exact IntWalk.i64_in _ ⟨by omega, by omega⟩
          have f3 : IntKind.i64.wrap ((a : Int) * (yd : Int)) = (m : Int) := by rw [show (a : Int) * (yd : Int) = (m : Int) by rw [hm]; exact (Int.natCast_mul a yd).symm]; exact IntWalk.i64_in _ ⟨by omega, by omega⟩
          have f4 : IntKind.i64.wrap ((t : Int) + (m : Int)) = (s : Int) := by rw [show (t : Int) + (m : Int) = (s : Int) by omega]; exact IntWalk.i64_in _ ⟨by omega, by omega⟩
          have f6 : ((s : Nat) : Int).tmod 65536 = ((s % 65536 : Nat) : Int) := rfl
          have f7 : IntKind.i64.wrap (((s : Nat) : Int).tdiv 65536) = ((s / 65536 : Nat) : Int) := by rw [show ((s : Nat) : Int).tdiv 65536 = ((s / 65536 : Nat) : Int) from rfl]; exact IntWalk.i64_in _ ⟨by omega, by omega⟩
          have S0 : wr.drew.cell? (ad.add i) = some (.int .i64 (a : Int)) ∧ wr.drew.cell? (ad2.add k) = some (.int .i64 (yd : Int)) := ⟨c1, c2⟩
          clear hca hcb hnx hI ha hyd hp hod hm ht hs hs1 hcell c1 c2
          go_wp2_with fail
          refine wp_region_script [(0, true), (1, true), (2, true), (3, true), (4, true), (5, true), (6, true), (7, true), (8, true), (9, true), (10, true), (11, true)] (fun w' => w'.cell? (ad.add i) = some (.int .i64 (a : Int)) ∧ w'.cell? (ad2.add k) = some (.int .i64 (yd : Int))) (by kernel_rfl) (by kernel_rfl) (fun _ _ _ _ _ h => h) S0 ?_
          iterate 12 (refine script_take (v := ?_) rfl ?_ ?_ ?_; rotate_left; (first | rfl | (go_simp; done)); (rintro w' ⟨u1, u2⟩;  go_simp; with_reducible rfl); simp only [Act.put, List.setIfInBounds_toArray, List.set_cons_zero, List.set_cons_succ])
          refine script_nil ?_
          go_wp2_with fail
          go_roundw
          case rel => exact ⟨s / 65536, k + 1, upd o2 p (s % 65536), rfl, rfl, HS, row_upd hblk.drew rfl, by simpa [World.setCell] using hsz, (hb.drew).setCell (p := ⟨w.heap.size, p, none⟩) (Nat.le_refl _) _⟩
          case measure => simp [intOf]; omega
        · have dk : decide ((k : Int) < (nb : Int)) = false := by simp; omega
          have hy0 : yd = 0 := by
            have : y / 65536 ^ k = 0 := Nat.eq_zero_of_not_pos fun hp => by have := nd_lt.2 hp; have := HB.out; omega
            rw [hyd, this]
          by_cases hc : 0 < c
          · obtain ⟨s, hs⟩ : ∃ s, s = c + od := ⟨_, rfl⟩
            obtain ⟨hs1, hs2, hs3⟩ := hnx (.inr hc) s (by rw [← hod, hy0, Nat.mul_zero]; exact hs)
            have HS := Lib.hid hs1
            have hc3 := hcell hs2
            have f2 : IntKind.i64.wrap ((c : Int) + (od : Int)) = (s : Int) := by rw [show (c : Int) + (od : Int) = (s : Int) by omega]; exact IntWalk.i64_in _ ⟨by omega, by omega⟩
            have f6 : ((s : Nat) : Int).tmod 65536 = ((s % 65536 : Nat) : Int) := rfl
            have f7 : IntKind.i64.wrap (((s : Nat) : Int).tdiv 65536) = ((s / 65536 : Nat) : Int) := by rw [show ((s : Nat) : Int).tdiv 65536 = ((s / 65536 : Nat) : Int) from rfl]; exact IntWalk.i64_in _ ⟨by omega, by omega⟩
            clear hnx hI ha hyd hp hod hs hs1 hcell hy0
            go_wp2_with fail
            go_roundw
            case rel => exact ⟨s / 65536, k + 1, upd o2 p (s % 65536), rfl, rfl, HS, row_upd hblk rfl, by simpa [World.setCell] using hsz, hb.setCell (p := ⟨w.heap.size, p, none⟩) (Nat.le_refl _) _⟩
            case measure => simp [intOf]; omega
          · obtain rfl : c = 0 := by omega
            have HO := Lib.hid (hI.out.done (by rw [← HB.out]; omega))
            clear hnx hI ha hyd hp hod hcell hy0 hos hlast f1 f5
            have f8 : IntKind.i64.wrap ((i : Int) + 1) = ((i + 1 : Nat) : Int) := by rw [show (i : Int) + 1 = ((i + 1 : Nat) : Int) by omega]; exact IntWalk.i64_in _ ⟨by omega, by omega⟩
            go_wp2_with fail
            go_roundw
            case rel => exact ⟨i + 1, o2, rfl, by omega, HO, hblk, hsz, hb⟩
            case measure => simp [intOf]; omega
    · obtain rfl : na = i := by omega
      have HV := Lib.hid (hI.out.done (by rw [← HA.out]; exact Nat.le_refl _))
      have hr3 := row_reads hblk hsz
      have HT := trim_any (some ⟨w.heap.size, 0, none⟩) N N ((List.range N).map o) wr wr.heap.size hr3 (fun d hd => by obtain ⟨j, _, rfl⟩ := List.mem_map.1 hd; exact hI.out.small j) (Nat.le_refl _) (by omega)
      have HTT := Lib.hid HT
      have HR3 := Lib.hid hr3
      clear HT hr3 hI hblk
      go_wp2_with fail
      refine HTT.out.mono ?_
      rintro e w4 ⟨n, rfl, hni, hdg, rfl⟩
      go_wp2_with fail
      go_ret
      have hv : dv ((List.range N).map o) = x * y := HV.out
      rw [hv] at hdg
      have hndn : n = nd (x * y) := by unfold nd; rw [hdg, List.length_take]; simp; omega
      refine ⟨_, rfl, ⟨_, n, N, rfl, by omega, hndn, by omega, ?_⟩, fun k hk => (by injection hk with hk; simp at hk; omega), hb⟩
      rw [hdg, List.map_take]
      exact HR3.out.prefix_ hni
end Go.Proofs.Ytfpbahihndgabaa
