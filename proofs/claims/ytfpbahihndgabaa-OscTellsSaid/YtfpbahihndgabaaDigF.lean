/-
  The reference's digits: Div.
-/
import Derived.Test.YtfpbahihndgabaaDigE
namespace Go.Proofs.Ytfpbahihndgabaa
set_option linter.unusedSimpArgs false
set_option linter.unusedVariables false
open Go.RowKit

theorem nd_le {x n : Nat} : nd x ≤ n ↔ x < 65536 ^ n := by
  have h : n < nd x ↔ 0 < x / 65536 ^ n := nd_lt
  have h2 : x / 65536 ^ n = 0 ↔ x < 65536 ^ n := Nat.div_eq_zero_iff_lt (Nat.pow_pos (by omega))
  generalize x / 65536 ^ n = e at *
  generalize 65536 ^ n = p at *
  omega
theorem nd_mono {x y : Nat} (h : x ≤ y) : nd x ≤ nd y := nd_le.2 (Nat.lt_of_le_of_lt h (nd_le.1 (Nat.le_refl _)))
theorem nd_twice {x y : Nat} (h : x < 65536 * y) : nd x ≤ nd y + 1 := by
  refine nd_le.2 (Nat.lt_of_lt_of_le h ?_)
  have := nd_le.1 (Nat.le_refl (nd y))
  rw [Nat.pow_succ, Nat.mul_comm (65536 ^ nd y)]
  exact Nat.mul_le_mul_left _ (Nat.le_of_lt this)
theorem digit_bit (x i m : Nat) (hm : m ≤ 15) : x / 65536 ^ i % 65536 / 2 ^ m % 2 = x / 2 ^ (16 * i + m) % 2 := by
  have e1 : 65536 ^ i = 2 ^ (16 * i) := by rw [Nat.pow_mul]
  have e2 : x / 2 ^ (16 * i + m) = x / 65536 ^ i / 2 ^ m := by rw [Nat.pow_add, ← Nat.div_div_eq_div_mul, e1]
  rw [e2]
  generalize x / 65536 ^ i = X
  obtain ⟨j, hj⟩ : ∃ j, 16 = m + (j + 1) := ⟨15 - m, by omega⟩
  have e3 : 65536 = 2 ^ m * 2 ^ (j + 1) := by rw [← Nat.pow_add, ← hj]
  rw [e3, Nat.mod_mul_right_div_self]
  exact Nat.mod_mod_of_dvd _ (by rw [Nat.pow_succ]; exact Nat.dvd_mul_left _ _)
/-- What Div has made when t bits are left. -/
structure DivI (a b N t : Nat) (o : Nat → Nat) (R : Nat) : Prop where
  small : ∀ j, o j < 65536
  dvd : ∀ j, 2 ^ (t - 16 * j) ∣ o j
  sum : ∃ Q, rv o N = Q * 2 ^ t ∧ b * Q + R = a / 2 ^ t
  less : R < b
theorem DivI.start {a b N : Nat} (hN : N = nd a) (hb : 0 < b) : DivI a b N (16 * N) (fun _ => 0) 0 := by
  refine ⟨fun _ => by decide, fun _ => Nat.dvd_zero _, ⟨0, by rw [rv_zero, Nat.zero_mul], ?_⟩, hb⟩
  have : a / 2 ^ (16 * N) = 0 := by
    rw [Nat.pow_mul]
    exact Nat.div_eq_of_lt (nd_le.1 (by omega))
  rw [this]
  rfl
theorem DivI.add_small {a b N i m R : Nat} {o : Nat → Nat} (h : DivI a b N (16 * i + m + 1) o R) (hm : m ≤ 15) : o i + 2 ^ m < 65536 := by
  have h1 := h.small i
  obtain ⟨c, hc⟩ := h.dvd i
  rw [show 16 * i + m + 1 - 16 * i = m + 1 by omega] at hc
  obtain ⟨j, hj⟩ : ∃ j, 16 = (m + 1) + j := ⟨15 - m, by omega⟩
  have e3 : 65536 = 2 ^ (m + 1) * 2 ^ j := by rw [← Nat.pow_add, ← hj]
  rw [hc, e3] at h1
  have h2 : c < 2 ^ j := Nat.lt_of_mul_lt_mul_left h1
  have h3 : 2 ^ (m + 1) * (c + 1) ≤ 2 ^ (m + 1) * 2 ^ j := Nat.mul_le_mul_left _ h2
  rw [← e3, Nat.mul_add, ← hc, Nat.mul_one, Nat.pow_succ] at h3
  have : 0 < 2 ^ m := Nat.pow_pos (by omega)
  omega
theorem half_bit (a s : Nat) : a / 2 ^ s = 2 * (a / 2 ^ (s + 1)) + a / 2 ^ s % 2 := by
  rw [Nat.pow_succ, ← Nat.div_div_eq_div_mul]
  omega
theorem DivI.keep {a b N s R : Nat} {o : Nat → Nat} (h : DivI a b N (s + 1) o R) {R2 : Nat} (hR : R2 = 2 * R + a / 2 ^ s % 2) (hb : R2 < b) : DivI a b N s o R2 := by
  obtain ⟨Q, h1, h2⟩ := h.sum
  refine ⟨h.small, fun j => Nat.dvd_trans (Nat.pow_dvd_pow 2 (by omega)) (h.dvd j), ⟨2 * Q, by rw [h1, Nat.pow_succ]; grind, ?_⟩, hb⟩
  rw [half_bit a s, ← h2, hR]
  grind
theorem DivI.take {a b N i m R : Nat} {o : Nat → Nat} (h : DivI a b N (16 * i + m + 1) o R) (hm : m ≤ 15) (hi : i < N) {R2 : Nat} (hR : R2 = 2 * R + a / 2 ^ (16 * i + m) % 2) (hb : b ≤ R2) : DivI a b N (16 * i + m) (upd o i (o i + 2 ^ m)) (R2 - b) := by
  have ha := h.add_small hm
  have hl := h.less
  obtain ⟨Q, h1, h2⟩ := h.sum
  refine ⟨fun j => ?_, fun j => ?_, ⟨2 * Q + 1, ?_, ?_⟩, by omega⟩
  · unfold upd
    split
    · exact ha
    · exact h.small j
  · unfold upd
    split
    · next e =>
      subst e
      rw [show 16 * j + m - 16 * j = m by omega]
      exact Nat.dvd_add (Nat.dvd_trans (Nat.pow_dvd_pow 2 (by omega)) (h.dvd j)) (Nat.dvd_refl _)
    · exact Nat.dvd_trans (Nat.pow_dvd_pow 2 (by omega)) (h.dvd j)
  · have hs := rv_set (o := o) (d := o i + 2 ^ m) hi
    have e1 : 65536 ^ i = 2 ^ (16 * i) := by rw [Nat.pow_mul]
    rw [Nat.mul_add, h1, e1] at hs
    have e2 : Q * 2 ^ (16 * i + m + 1) = 2 * Q * (2 ^ (16 * i) * 2 ^ m) := by rw [Nat.pow_succ, Nat.pow_add]; grind
    rw [Nat.pow_add, Nat.add_mul, Nat.one_mul]
    rw [e2] at hs
    omega
  · have := half_bit a (16 * i + m)
    have e3 : b * (2 * Q + 1) = 2 * (b * Q) + b := by grind
    omega
theorem DivI.done {a b N R : Nat} {o : Nat → Nat} (h : DivI a b N 0 o R) : rv o N = a / b ∧ R = a % b := by
  obtain ⟨Q, h1, h2⟩ := h.sum
  have hl := h.less
  rw [Nat.pow_zero, Nat.div_one] at h2
  rw [Nat.pow_zero, Nat.mul_one] at h1
  have e1 : a / b = Q := by
    rw [← h2, Nat.mul_add_div (by omega), Nat.div_eq_of_lt hl, Nat.add_zero]
  have e2 : a % b = R := by
    rw [← h2, Nat.mul_add_mod, Nat.mod_eq_of_lt hl]
  exact ⟨by rw [h1, e1], e2.symm⟩
theorem dg_one (w : World) (t : TypeId) : Dg (w.alloc (.cells #[.int .i64 1] t)) (.slice (some ⟨w.heap.size, 0, none⟩) 1 1) 1 := by
  refine ⟨_, 1, 1, rfl, Nat.le_refl _, by decide, by omega, by decide, fun _ => ⟨_, rfl, by simp, fun j u hu => ?_⟩⟩
  have e : digs 1 = [1] := by rw [digs_pos (by omega)]; rfl
  rw [e] at hu
  have hj : j = 0 := by
    rcases Nat.eq_zero_or_pos j with h | h
    · exact h
    · rw [List.getElem?_eq_none (by simp; omega)] at hu; cases hu
  subst hj
  injection hu with hu
  subst hu
  have := cell?_new w #[.int .i64 1] t 0
  rw [this]
  rfl
theorem cmp_ge (x y : Nat) : decide (0 ≤ cmpV x y) = decide (y ≤ x) := by
  rcases Nat.lt_trichotomy x y with h | h | h
  · rw [cmp_lt h]; simp; omega
  · subst h; rw [cmp_eq]; simp
  · rw [cmp_gt h]; simp; omega
theorem dandI (n : Nat) : bits .and .i64 (n : Int) 1 = ((n % 2 : Nat) : Int) := by
  have h : bits .and .i64 (n : Int) 1 = IntKind.i64.wrap ((BitVec.ofInt 64 (n : Int) &&& BitVec.ofInt 64 1).toNat : Int) := rfl
  have e1 : (BitVec.ofInt 64 (1 : Int)).toNat = 2 ^ 1 - 1 := by decide
  have e2 : (BitVec.ofInt 64 (n : Int)).toNat = n % 18446744073709551616 := by rw [BitVec.toNat_ofInt]; simp; omega
  rw [h, BitVec.toNat_and, e1, Nat.and_two_pow_sub_one_eq_mod, e2, IntWalk.i64_in _ ⟨by omega, by omega⟩]
  omega
set_option maxRecDepth 100000 in
set_option maxHeartbeats 4000000 in
theorem Div_any (x y : Nat) (va vb : Value) (w : World) (ha : Dg w va x) (hb : Dg w vb y) (hy : 0 < y) (hx1 : nd x ≤ 1000) (hy1 : nd y ≤ 1000) :
    Calls Try.prog 46 #[va, vb] w fun e w' => ∃ q r, e = .returned (.tuple #[q, r]) ∧ Dg w' q (x / y) ∧ Own w.heap.size q ∧ Dg w' r (x % y) ∧ Own w.heap.size r ∧ Below w.heap.size w w' := by
  have hDB := Lib.hid hb
  obtain ⟨A, na, ca, rfl, ha1, ha2, _, ha4⟩ := ha
  have HA := Lib.hid ha2
  have HR := Lib.hid ha4
  have HY := Lib.hid (And.intro hx1 (And.intro hy1 hy))
  have hn5 : na ≤ 1000 := by omega
  have hmk := fun W => make_row (bytes := 8) (n := na) (e := 3) (z := .int .i64 0) Try.underlying77 (by kernel_rfl) rfl (by omega) (by omega) W
  clear ha2 ha4 hb hx1 hy1 hy
  go_enter Try.func46, Try.ntmps46
  go_wp2_with fail
  have g0 : Blk ((w.alloc (.cells (rowF na fun _ => .int .i64 0) 3)).alloc (.cells #[] 3)) w.heap.size 3 (rowF na fun j => iv ((fun _ => 0) j)) := (Blk.new w 3 _).alloc _
  have gb := ((Below.refl w.heap.size w).alloc (Nat.le_refl _) (.cells (rowF na fun _ => .int .i64 0) 3)).alloc (by simp) (.cells #[] 3)
  clear hmk
  go_loopw [7, 8] (fun r i wr => ∃ (j : Nat) (o : Nat → Nat) (R : Nat), i = .int .i64 ((j : Nat) - 1) ∧ j ≤ na ∧ Hid (DivI x y na (16 * j) o R) ∧ Blk wr w.heap.size 3 (rowF na fun j => iv (o j)) ∧ Hid (Dg wr r R ∧ Own (w.heap.size + 1) r) ∧ w.heap.size < wr.heap.size ∧ Below w.heap.size w wr) (fun _ i _ => (intOf i + 1).toNat)
  case atStart => exact ⟨na, fun _ => 0, 0, rfl, Nat.le_refl _, Lib.hid (DivI.start HA.out HY.out.2.2), g0, Lib.hid ⟨Dg.zero _ _ _, fun k hk => (by injection hk with hk; simp at hk; omega)⟩, by simp; omega, gb⟩
  case round =>
    clear g0 gb
    obtain ⟨j, o, R, rfl, hj, hI, hblk, hrd, hsz, hb⟩ := hrel
    rcases Nat.eq_zero_or_pos j with rfl | hjp
    · obtain ⟨hv0, hr0⟩ := hI.out.done
      have HV := Lib.hid hv0
      have HR0 := Lib.hid hr0
      have hr3 := row_reads hblk hsz
      have HT := trim_any (some ⟨w.heap.size, 0, none⟩) na na ((List.range na).map o) wr wr.heap.size hr3 (fun d hd => by obtain ⟨j, _, rfl⟩ := List.mem_map.1 hd; exact hI.out.small j) (Nat.le_refl _) (by omega)
      have HTT := Lib.hid HT
      have HR3 := Lib.hid hr3
      clear HT hr3 hI hblk hv0 hr0
      rw [show (((0 : Nat) : Int) - 1) = -1 by omega]
      go_wp2_with fail
      refine HTT.out.mono ?_
      rintro e w4 ⟨n, rfl, hni, hdg, rfl⟩
      go_wp2_with fail
      go_ret2
      have hv : dv ((List.range na).map o) = x / y := HV.out
      rw [hv] at hdg
      have hndn : n = nd (x / y) := by unfold nd; rw [hdg, List.length_take]; simp; omega
      refine ⟨_, _, rfl, ⟨some ⟨w.heap.size, 0, none⟩, n, na, rfl, by omega, hndn, by omega, ?_⟩, fun k hk => (by have hk' : some w.heap.size = some k := hk; injection hk' with hk'; omega), by rw [← HR0.out]; exact hrd.out.1, hrd.out.2.mono (by omega), hb⟩
      rw [hdg, List.map_take]
      exact HR3.out.prefix_ hni
    · obtain ⟨k, rfl⟩ : ∃ k, j = k + 1 := ⟨j - 1, by omega⟩
      rw [show (((k + 1 : Nat) : Int) - 1) = (k : Int) by omega]
      have HI : Hid (DivI x y na (16 * k + 16) o R) := Lib.hid hI.out
      clear hI
      go_wp2_with fail
      obtain ⟨wo, rfl⟩ : ∃ wo : World, wo = wr := ⟨_, rfl⟩
      go_loopw [7, 9] (fun r i wr => ∃ (m : Nat) (o : Nat → Nat) (R : Nat), i = .int .i64 ((m : Nat) - 1) ∧ m ≤ 16 ∧ Hid (DivI x y na (16 * k + m) o R) ∧ Blk wr w.heap.size 3 (rowF na fun j => iv (o j)) ∧ Hid (Dg wr r R ∧ Own (w.heap.size + 1) r) ∧ w.heap.size < wr.heap.size ∧ Below w.heap.size w wr) (fun _ i _ => (intOf i + 1).toNat)
      case atStart => exact ⟨16, o, R, rfl, Nat.le_refl _, HI, hblk, hrd, hsz, hb⟩
      case round =>
        clear hblk hrd hsz hb HI
        obtain ⟨m, o, R, rfl, hm, hI, hblk, hrd, hsz, hb⟩ := hrel
        rcases Nat.eq_zero_or_pos m with rfl | hmp
        · rw [show (((0 : Nat) : Int) - 1) = -1 by omega]
          have f8 : IntKind.i64.wrap ((k : Int) - 1) = (k : Int) - 1 := IntWalk.i64_in _ ⟨by omega, by omega⟩
          have HI2 : Hid (DivI x y na (16 * k) o R) := Lib.hid hI.out
          clear hI
          go_wp2_with fail
          go_roundw
          case rel => exact ⟨k, o, R, rfl, by omega, HI2, hblk, hrd, hsz, hb⟩
          case measure => simp [intOf]
        · obtain ⟨m, rfl⟩ : ∃ j, m = j + 1 := ⟨m - 1, by omega⟩
          rw [show (((m + 1 : Nat) : Int) - 1) = (m : Int) by omega]
          have hRy := hI.out.less
          have hnR : nd R ≤ 1000 := Nat.le_trans (nd_mono (Nat.le_of_lt hRy)) HY.out.2.1
          have hyy : nd y ≤ 1000 := HY.out.2.1
          have hn2 : ∀ z, z ≤ 2 * R + 1 → nd z ≤ 1001 := fun z hz => Nat.le_trans (nd_twice (y := y) (by omega)) (by omega)
          have HAdd := Lib.hid (Add_any R R _ _ wr hrd.out.1 hrd.out.1 (by omega) (by omega) (by have := hn2 (R + R) (by omega); omega))
          have f8 : IntKind.i64.wrap ((m : Int) - 1) = (m : Int) - 1 := IntWalk.i64_in _ ⟨by omega, by omega⟩
          obtain ⟨d, hd⟩ : ∃ d, d = x / 65536 ^ k % 65536 := ⟨_, rfl⟩
          obtain ⟨e0, he0⟩ : ∃ e0, e0 = d / 2 ^ m := ⟨_, rfl⟩
          have hbit : e0 % 2 = x / 2 ^ (16 * k + m) % 2 := by rw [he0, hd]; exact digit_bit x k m (by omega)
          have fe : (d : Int) / 2 ^ m = (e0 : Int) := by rw [he0, Int.natCast_ediv, Int.natCast_pow]; rfl
          have HH := Lib.hid hn2
          have HB := Lib.hid hbit
          have HD := Lib.hid hd
          clear hn2 hbit he0 hd
          go_wp2_with fail
          refine HAdd.out.mono ?_
          rintro e w1 ⟨v1, rfl, d1, o1, b1⟩
          have blk1 := hblk.below b1 hsz
          have bw1 : Below w.heap.size w w1 := hb.trans (b1.mono (by omega))
          have hsz1 : w.heap.size < w1.heap.size := by have := b1.size; omega
          obtain ⟨ad, rfl, _, hca⟩ := (HR.out.below bw1).2 (by omega)
          have c1 := hca k (iv d) (by rw [List.getElem?_map, digs_at (by rw [← HA.out]; omega), HD.out]; rfl)
          unfold iv at c1
          have O1 : Own (w.heap.size + 1) v1 := o1.mono (by omega)
          clear hblk hca HAdd o1 b1
          by_cases hβ : e0 % 2 = 1
          · have fb : (bits .and .i64 (e0 : Int) 1 == 1) = true := by rw [dandI]; simp; omega
            go_wp2_with fail
            have bwo := bw1.alloc (Nat.le_of_lt hsz1) (.cells #[.int .i64 1] 3)
            have blko := blk1.alloc (.cells #[.int .i64 1] 3)
            have d1o := d1.below ((Below.refl w1.heap.size w1).alloc (Nat.le_refl _) (.cells #[.int .i64 1] 3))
            refine (Add_any (R + R) 1 v1 _ _ d1o (dg_one w1 3) (by have := HH.out (R + R) (by omega); omega) (by decide) (by have := HH.out (R + R + 1) (by omega); omega)).mono ?_
            rintro e w2 ⟨v2, rfl, dw2, o2, b2⟩
            have bww2 : Below w.heap.size w w2 := bwo.trans (b2.mono (by simp; omega))
            have blkw2 := blko.below b2 (by simp; omega)
            have hszw2 : w.heap.size < w2.heap.size := by have := b2.size; simp at this; omega
            have Ow2 : Own (w.heap.size + 1) v2 := o2.mono (by simp; omega)
            clear bwo blko d1o d1 O1 blk1 bw1 hsz1 b2 o2
            have dy := hDB.out.below bww2
            have HC := Lib.hid (Cmp_any (R + R + 1) y v2 vb w2 dw2 dy)
            clear dy
            go_wp2_with fail
            refine HC.out.mono ?_
            rintro e w3 ⟨rfl, b3⟩
            have hb3 := b3.size
            have d3 := dw2.below b3
            have O3 : Own (w.heap.size + 1) v2 := Ow2
            have blk3 := blkw2.below b3 hszw2
            have bw3 : Below w.heap.size w w3 := bww2.trans (b3.mono (by omega))
            have hsz3 : w.heap.size < w3.heap.size := by omega
            clear dw2 Ow2 blkw2 b3 HC
            have hR2 : R + R + 1 = 2 * R + x / 2 ^ (16 * k + m) % 2 := by rw [← HB.out]; omega
            have HR2 := Lib.hid hR2
            clear hR2
            by_cases hge : y ≤ R + R + 1
            · have dc : decide (0 ≤ cmpV (R + R + 1) y) = true := by rw [cmp_ge]; simp; omega
              have HS := Lib.hid (Sub_any (R + R + 1) y v2 vb w3 d3 (hDB.out.below bw3) hge)
              have HI2 := Lib.hid (hI.out.take (by omega) (by omega) HR2.out hge)
              have hsm := hI.out.add_small (by omega)
              obtain ⟨pm, hpm⟩ : ∃ pm, pm = 2 ^ m := ⟨_, rfl⟩
              rw [← hpm] at HI2 hsm
              have fs : IntKind.i64.wrap (2 ^ m) = (pm : Int) := by rw [hpm, show (2 : Int) ^ m = ((2 ^ m : Nat) : Int) by rw [Int.natCast_pow]; rfl, ← hpm]; exact IntWalk.i64_in _ ⟨by omega, by omega⟩
              obtain ⟨ok, hok⟩ : ∃ ok, ok = o k := ⟨_, rfl⟩
              rw [← hok] at HI2 hsm
              obtain ⟨sm, hsm2⟩ : ∃ sm, sm = ok + pm := ⟨_, rfl⟩
              rw [← hsm2] at HI2 hsm
              have fa : IntKind.i64.wrap ((ok : Int) + (pm : Int)) = (sm : Int) := by rw [show (ok : Int) + (pm : Int) = (sm : Int) by omega]; exact IntWalk.i64_in _ ⟨by omega, by omega⟩
              have hpl : pm < 65536 := by omega
              have hcell : ∀ W : World, Blk W w.heap.size 3 (rowF na fun j => iv (o j)) → W.cell? ⟨w.heap.size, k, none⟩ = some (.int .i64 (ok : Int)) := fun W h => by rw [h.cell, rowF_get (by omega), hok]; rfl
              have HCE := Lib.hid hcell
              have HHI := Lib.hid hI.out
              clear hI hpm hok hcell hsm2 hge
              go_wp2_with fail
              refine HS.out.mono ?_
              rintro e w4 ⟨v4, rfl, d4, o4, b4⟩
              have blk4 := blk3.below b4 hsz3
              have bw4 : Below w.heap.size w w4 := bw3.trans (b4.mono (by omega))
              have hsz4 : w.heap.size < w4.heap.size := by have := b4.size; omega
              have O4 : Own (w.heap.size + 1) v4 := o4.mono (by omega)
              have hc4 := HCE.out w4 blk4
              have hfz := blk4.frozen
              clear blk3 d3 O3 bw3 HS HCE b4 o4
              go_wp2_with fail
              go_roundw
              case rel => exact ⟨m, upd o k sm, _, rfl, by omega, HI2, row_upd blk4 rfl, Lib.hid ⟨d4.far O4 (Nat.lt_succ_self _), O4⟩, by simpa [World.setCell] using hsz4, bw4.setCell (p := ⟨w.heap.size, k, none⟩) (Nat.le_refl _) _⟩
              case measure => simp [intOf]
            · have dc : decide (0 ≤ cmpV (R + R + 1) y) = false := by rw [cmp_ge]; simp; omega
              have HI2 := Lib.hid (hI.out.keep HR2.out (by omega))
              clear hI
              go_wp2_with fail
              go_roundw
              case rel => exact ⟨m, o, _, rfl, by omega, HI2, blk3, Lib.hid ⟨d3, O3⟩, hsz3, bw3⟩
              case measure => simp [intOf]
          · have fb : (bits .and .i64 (e0 : Int) 1 == 1) = false := by rw [dandI]; simp; omega
            have dw1 := d1
            have bww1 := bw1
            have blkw1 := blk1
            have hszw1 := hsz1
            have Ow1 := O1
            clear d1 bw1 blk1 hsz1 O1
            have dy := hDB.out.below bww1
            have HC := Lib.hid (Cmp_any (R + R) y v1 vb w1 dw1 dy)
            clear dy
            go_wp2_with fail
            refine HC.out.mono ?_
            rintro e w3 ⟨rfl, b3⟩
            have hb3 := b3.size
            have d3 := dw1.below b3
            have O3 : Own (w.heap.size + 1) v1 := Ow1
            have blk3 := blkw1.below b3 hszw1
            have bw3 : Below w.heap.size w w3 := bww1.trans (b3.mono (by omega))
            have hsz3 : w.heap.size < w3.heap.size := by omega
            clear dw1 Ow1 blkw1 b3 HC
            have hR2 : R + R = 2 * R + x / 2 ^ (16 * k + m) % 2 := by rw [← HB.out]; omega
            have HR2 := Lib.hid hR2
            clear hR2
            by_cases hge : y ≤ R + R
            · have dc : decide (0 ≤ cmpV (R + R) y) = true := by rw [cmp_ge]; simp; omega
              have HS := Lib.hid (Sub_any (R + R) y v1 vb w3 d3 (hDB.out.below bw3) hge)
              have HI2 := Lib.hid (hI.out.take (by omega) (by omega) HR2.out hge)
              have hsm := hI.out.add_small (by omega)
              obtain ⟨pm, hpm⟩ : ∃ pm, pm = 2 ^ m := ⟨_, rfl⟩
              rw [← hpm] at HI2 hsm
              have fs : IntKind.i64.wrap (2 ^ m) = (pm : Int) := by rw [hpm, show (2 : Int) ^ m = ((2 ^ m : Nat) : Int) by rw [Int.natCast_pow]; rfl, ← hpm]; exact IntWalk.i64_in _ ⟨by omega, by omega⟩
              obtain ⟨ok, hok⟩ : ∃ ok, ok = o k := ⟨_, rfl⟩
              rw [← hok] at HI2 hsm
              obtain ⟨sm, hsm2⟩ : ∃ sm, sm = ok + pm := ⟨_, rfl⟩
              rw [← hsm2] at HI2 hsm
              have fa : IntKind.i64.wrap ((ok : Int) + (pm : Int)) = (sm : Int) := by rw [show (ok : Int) + (pm : Int) = (sm : Int) by omega]; exact IntWalk.i64_in _ ⟨by omega, by omega⟩
              have hpl : pm < 65536 := by omega
              have hcell : ∀ W : World, Blk W w.heap.size 3 (rowF na fun j => iv (o j)) → W.cell? ⟨w.heap.size, k, none⟩ = some (.int .i64 (ok : Int)) := fun W h => by rw [h.cell, rowF_get (by omega), hok]; rfl
              have HCE := Lib.hid hcell
              have HHI := Lib.hid hI.out
              clear hI hpm hok hcell hsm2 hge
              go_wp2_with fail
              refine HS.out.mono ?_
              rintro e w4 ⟨v4, rfl, d4, o4, b4⟩
              have blk4 := blk3.below b4 hsz3
              have bw4 : Below w.heap.size w w4 := bw3.trans (b4.mono (by omega))
              have hsz4 : w.heap.size < w4.heap.size := by have := b4.size; omega
              have O4 : Own (w.heap.size + 1) v4 := o4.mono (by omega)
              have hc4 := HCE.out w4 blk4
              have hfz := blk4.frozen
              clear blk3 d3 O3 bw3 HS HCE b4 o4
              go_wp2_with fail
              go_roundw
              case rel => exact ⟨m, upd o k sm, _, rfl, by omega, HI2, row_upd blk4 rfl, Lib.hid ⟨d4.far O4 (Nat.lt_succ_self _), O4⟩, by simpa [World.setCell] using hsz4, bw4.setCell (p := ⟨w.heap.size, k, none⟩) (Nat.le_refl _) _⟩
              case measure => simp [intOf]
            · have dc : decide (0 ≤ cmpV (R + R) y) = false := by rw [cmp_ge]; simp; omega
              have HI2 := Lib.hid (hI.out.keep HR2.out (by omega))
              clear hI
              go_wp2_with fail
              go_roundw
              case rel => exact ⟨m, o, _, rfl, by omega, HI2, blk3, Lib.hid ⟨d3, O3⟩, hsz3, bw3⟩
              case measure => simp [intOf]
end Go.Proofs.Ytfpbahihndgabaa
