/-
  RateEnds: for every list of floats the law returns true, and the list reads as it did. No condition.
-/
import Derived.Test.YtclckcjimfadlaaRate
namespace Go.Proofs.Ytclckcjimfadlaa
open Go.RowKit Go.WideShapes Go.ChangeShapes
attribute [local go_sem] f64bits f64frombits

/-! ### The plain law: which floats are numbers, and their order -/
theorem u64_max : IntKind.u64.max = ((18446744073709551615 : Nat) : Int) := by decide +kernel
theorem u64_xor_max (b : Nat) (hb : b < 18446744073709551616) : bits BinOp.xor IntKind.u64 IntKind.u64.max b = 18446744073709551615 - (b : Int) := by
  rw [u64_max, u64_xor_nat _ _ (by omega) hb]
  have h : (BitVec.ofNat 64 18446744073709551615 ^^^ BitVec.ofNat 64 b).toNat = 18446744073709551615 - b := by
    have e : BitVec.ofNat 64 18446744073709551615 = BitVec.allOnes 64 := by decide
    rw [e, BitVec.allOnes_xor, BitVec.toNat_not, BitVec.toNat_ofNat, Nat.mod_eq_of_lt (by omega)]
  rw [BitVec.toNat_xor, BitVec.toNat_ofNat, BitVec.toNat_ofNat, Nat.mod_eq_of_lt (by omega), Nat.mod_eq_of_lt (by omega)] at h
  rw [h]
  omega
theorem u64_or_top (b : Nat) (hb : b < 9223372036854775808) : bits BinOp.or IntKind.u64 b 9223372036854775808 = (b : Int) + 9223372036854775808 := by
  have h := u64_or_nat b 9223372036854775808 (by omega) (by omega)
  have e := Nat.two_pow_add_eq_or_of_lt (i := 63) (show b < 2 ^ 63 by omega) 1
  have e2 : b ||| 9223372036854775808 = b + 9223372036854775808 := by
    rw [Nat.mul_one] at e
    rw [Nat.or_comm, ← e]
    omega
  rw [e2] at h
  rw [show (9223372036854775808 : Int) = ((9223372036854775808 : Nat) : Int) from rfl, h]
  omega
theorem nanB_rung (b : Nat) : nanB b = decide (9218868437227405312 < b % 9223372036854775808) := by
  unfold nanB
  have e1 : FloatKind.f64.format.signWeight = 9223372036854775808 := by decide +kernel
  have e2 : FloatKind.f64.format.infRung = 9218868437227405312 := by decide +kernel
  have e3 : FloatKind.f64.format.binade = 4503599627370496 := by decide +kernel
  simp only [Ieee.Format.order, Ieee.Format.read, e1, e2, e3]
  generalize b % 9223372036854775808 = r
  by_cases h1 : r < 4503599627370496
  · rw [if_pos h1]
    simp [Ieee.Datum.order, Std.compare_self]
    omega
  · rw [if_neg h1]
    by_cases h2 : r < 9218868437227405312
    · rw [if_pos h2]
      simp [Ieee.Datum.order]
      omega
    · rw [if_neg h2]
      by_cases h3 : r = 9218868437227405312
      · rw [if_pos h3]
        simp [Ieee.Datum.order]
        omega
      · rw [if_neg h3]
        have h4 : 9218868437227405312 < r := by omega
        simp [Ieee.Datum.order, h4]
theorem nanB_eq (b : Nat) : nanB b = (!okB b && !infB b) := by
  rw [nanB_rung, Bool.eq_iff_iff]
  simp [okB, infB, expo, frac]
  omega
theorem plc_eq (b : Nat) (hb : b < 18446744073709551616) (hn : nanB b = false) : plc b = if 9223372036854775808 ≤ b then 18446744073709551615 - (b : Int) else (b : Int) + 9223372036854775808 := by
  unfold plc
  rw [hn, if_neg (by simp)]
  by_cases h : 9223372036854775808 ≤ b
  · have h1 : ((b : Int) / 9223372036854775808 == 1) = true := by simp; omega
    rw [if_pos h1, if_pos h, u64_xor_max b hb]
  · have h1 : ((b : Int) / 9223372036854775808 == 1) = false := by simp; omega
    rw [if_neg (by rw [h1]; simp), if_neg h, u64_or_top b (by omega)]
theorem lessB_eq (a b : Nat) (ha : a < 18446744073709551616) (hb : b < 18446744073709551616) (na : nanB a = false) (nb : nanB b = false) : lessB a b = decide (plc a < plc b) := by
  rw [plc_eq a ha na, plc_eq b hb nb, lessB_of]
  by_cases h1 : 9223372036854775808 ≤ a <;> by_cases h2 : 9223372036854775808 ≤ b <;> simp only [h1, h2, if_true, if_false] <;> rw [Bool.eq_iff_iff] <;> simp <;> omega

def lawStep (s : Nat × Nat × Nat) (x : Nat) : Nat × Nat × Nat :=
  if (!okB x && !infB x) = true then s else
  (if s.2.2 = 0 ∨ lessB x s.1 = true then x else s.1, if s.2.2 = 0 ∨ lessB s.2.1 x = true then x else s.2.1, s.2.2 + 1)
def Good (s : Nat × Nat × Nat) : Prop := s.2.2 = 0 ∨ (nanB s.1 = false ∧ nanB s.2.1 = false ∧ s.1 < 18446744073709551616 ∧ s.2.1 < 18446744073709551616 ∧ plc s.1 ≤ plc s.2.1)
theorem step_same (s : Nat × Nat × Nat) (x : Nat) (hx : x < 18446744073709551616) (hg : Good s) : lawStep s x = endsStep s x ∧ Good (endsStep s x) := by
  unfold lawStep endsStep
  rw [← nanB_eq x]
  obtain ⟨lo, hi, n⟩ := s
  by_cases hn : nanB x = true
  · rw [if_pos hn, if_pos hn]; exact ⟨rfl, hg⟩
  · have hn' : nanB x = false := by simpa using hn
    rw [if_neg hn, if_neg hn]
    by_cases h0 : n = 0
    · subst h0
      refine ⟨by simp, ?_⟩
      simp only [if_pos]
      exact .inr ⟨hn', hn', hx, hx, Int.le_refl _⟩
    · rcases hg with h | ⟨a, b, c, d, e⟩
      · exact absurd h h0
      · simp only at a b c d e
        simp only [h0, false_or, if_false]
        rw [lessB_eq x lo hx c hn' a, lessB_eq hi x d hx b hn']
        simp only [decide_eq_true_eq]
        by_cases h1 : plc x < plc lo
        · rw [if_pos h1, if_pos h1, if_neg (by omega)]
          exact ⟨rfl, .inr ⟨hn', b, hx, d, by simp only; omega⟩⟩
        · rw [if_neg h1, if_neg h1]
          by_cases h2 : plc hi < plc x
          · rw [if_pos h2, if_pos h2]
            exact ⟨rfl, .inr ⟨a, hn', c, hx, by simp only; omega⟩⟩
          · rw [if_neg h2, if_neg h2]
            exact ⟨rfl, .inr ⟨a, b, c, d, e⟩⟩
theorem fold_same (xs : List Nat) : ∀ s, Good s → (∀ x ∈ xs, x < 18446744073709551616) → xs.foldl lawStep s = xs.foldl endsStep s := by
  induction xs with
  | nil => intro s _ _; rfl
  | cons x xs ih =>
    intro s hg hx
    obtain ⟨h1, h2⟩ := step_same s x (hx x (by simp)) hg
    rw [List.foldl_cons, List.foldl_cons, h1]
    exact ih _ h2 (fun y hy => hx y (by simp [hy]))
theorem head_ends : [4611686018427387904, 9221120237041090561, 4607182418800017408].foldl endsStep (0, 0, 0) = (4607182418800017408, 4611686018427387904, 2) := by decide +kernel

theorem law_calls (A : Option Addr) (n c : Nat) (xs : List Nat) (w : World) (hr : Reads w w.heap.size 1 A n (xs.map (Value.float .f64))) (hn : n ≤ maxLen) (hx : ∀ x ∈ xs, x < 18446744073709551616) :
    Calls Try.prog 3 #[.slice A n c] w fun e w' => e = .returned (.bool true) ∧ Below w.heap.size w w' := by
  unfold maxLen at hn
  have hlen : xs.length = n := by have := hr.1; simpa using this
  have HX := Lib.hid hx
  clear hx
  go_enter Try.func3, Try.ntmps3
  go_wp2_with (go_at_call 11; refine (nan_any _).mono ?_; rintro e w' ⟨rfl, rfl⟩)
  refine (ends_any (some ⟨w.heap.size, 0, none⟩) 3 3 [4611686018427387904, 9221120237041090561, 4607182418800017408] _ _ (Reads.of_own (ownsRow_new w (n := 3) (base := 0) (Nat.zero_le _) rfl (by simp [maxLen]))) (by simp [maxLen])).mono ?_
  rw [head_ends]
  rintro e w1 ⟨rfl, hw⟩
  have hb0 : Below w.heap.size w w1 := by rw [← hw]; exact (Below.refl _ _).alloc (Nat.le_refl _) _
  clear hw
  go_wp2_with fail
  · go_ret
    exact ⟨rfl, hb0⟩
  · go_loopw [6, 7, 8, 39] (fun lo hi m i wr => ∃ k : Nat, k ≤ n ∧ i = .int .i64 k ∧ ∃ s : Nat × Nat × Nat, Hid (s = (xs.take k).foldl lawStep (0, 0, 0)) ∧ s.2.2 ≤ k ∧ lo = .int .u64 s.1 ∧ hi = .int .u64 s.2.1 ∧ m = .int .i64 s.2.2 ∧ Below w.heap.size w wr) (fun _ _ _ i _ => n - (intOf i).toNat)
    case atStart => exact ⟨0, Nat.zero_le _, rfl, (0, 0, 0), rfl, Nat.zero_le _, rfl, rfl, rfl, hb0⟩
    case round =>
      clear hb0
      obtain ⟨k, hk, rfl, ⟨lo, hi, m⟩, hs, hm, rfl, rfl, rfl, hb⟩ := hrel
      have hbs := hb.size
      by_cases hlt : k < n
      · obtain ⟨ad, v, rfl, _, hx, hc⟩ := (hr.below hb).at_ hlt
        obtain ⟨x, hx1, rfl⟩ := getElem?_map_some hx
        have hxl : x < 18446744073709551616 := HX.out x (List.mem_of_getElem? hx1)
        have HL := Lib.hid hxl
        clear hxl
        have HS := Lib.hid ((foldl_take_succ (f := lawStep) (s := (0, 0, 0)) hx1).trans (by rw [← hs.out]))
        clear hs hx hx1
        go_wp2_with (first | (go_at_call 13; refine (parts_any _ _ HL.out).mono ?_; rintro e w2 ⟨v, rfl, hown, hb2⟩) | (go_at_call 14; refine (less_any _ _ _).mono ?_; rintro e w' ⟨rfl, rfl⟩))
        all_goals
          have hbf := hb.trans (hb2.mono hbs)
          go_roundw
          case rel =>
            go_light
            have h0 := HS.out
            refine ⟨k + 1, by omega, by go_num, _, h0.symm, ?_, ?_, ?_, ?_, hbf⟩
            all_goals clear h0 HS HL HX hr hc hb hb2 hbf hown hlen
            all_goals simp_all [lawStep]
            all_goals omega
          case measure => simp [intOf]; omega
      · obtain rfl : n = k := by omega
        go_wp2_with fail
        refine (ends_any _ _ _ xs _ _ (hr.below hb) (by unfold maxLen; omega)).mono ?_
        rintro e w' ⟨rfl, rfl⟩
        have h1 : xs.take n = xs := List.take_of_length_le (by omega)
        have h2 := hs.out
        rw [h1, fold_same xs _ (.inl rfl) HX.out] at h2
        rw [← h2]
        clear h1 h2 hs
        go_wp2
        go_ret
        exact ⟨rfl, hb⟩

/-! ### The row's step -/
theorem own : ownKnob Try.prog.godebug = none := by kernel_rfl
theorem laidOut : laidOutB Try.prog = true := by kernel_rfl

theorem open_floats {H : Type} {enc : TypeId × Value → H} {W : World} {v : Value} {d : DataW H} {p : List MemPlace} {b0 : Nat} (hv : Value.okWide Try.prog W .any b0 22 v)
    (h : DataW.Trod enc Try.prog W 0 (fun _ => true) true 22 v d p) (hlt : ∀ x ∈ p, x.block < W.heap.size) :
    ∃ (A : Option Addr) (n c : Nat) (xs : List Nat), v = .slice A n c ∧ n ≤ maxLen ∧ Reads W W.heap.size 1 A n (xs.map (Value.float .f64)) ∧ ∀ x ∈ xs, x < 18446744073709551616 := by
  obtain ⟨a0, l0, c0, rfl⟩ := okWide_slice Try.underlying22 hv
  obtain ⟨fuel, hf⟩ := h
  obtain ⟨A, len, cap, cs, h1, h2, h3, _, hr, hall⟩ := open_slice_flat (n := 3) (ls := [.float .f64]) Try.underlying22 (by kernel_rfl) (by kernel_rfl) (by simp) (by simpa [Value.cells] using hf) hlt
  have hex : ∃ xs : List Nat, cs = xs.map (Value.float .f64) ∧ ∀ x ∈ xs, x < 18446744073709551616 := by
    have hl := hr.1
    simp only [List.length_singleton, Nat.mul_one] at hl
    have key : ∀ (l : List Value), (∀ u ∈ l, ∃ b, u = .float .f64 b ∧ (Lit.float .f64 b).wf = true) → ∃ xs : List Nat, l = xs.map (Value.float .f64) ∧ ∀ x ∈ xs, x < 18446744073709551616 := by
      intro l
      induction l with
      | nil => exact fun _ => ⟨[], rfl, by simp⟩
      | cons u l ih =>
        intro hu
        obtain ⟨b, rfl, hb⟩ := hu u (by simp)
        obtain ⟨xs, rfl, hx⟩ := ih (fun u' h' => hu u' (by simp [h']))
        refine ⟨b :: xs, rfl, ?_⟩
        intro x hx'
        rcases List.mem_cons.1 hx' with rfl | h
        · simpa [Lit.wf] using hb
        · exact hx x h
    refine key cs ?_
    intro u hu
    obtain ⟨i, hi, rfl⟩ := List.mem_iff_getElem.1 hu
    have h0 := hall i (by omega)
    simp only [List.length_singleton, Nat.mul_one] at h0
    rw [List.drop_eq_getElem_cons hi] at h0
    exact h0.1
  obtain ⟨xs, rfl, hx⟩ := hex
  exact ⟨A, len, cap, xs, h1, by omega, hr, hx⟩

set_option maxRecDepth 100000 in
theorem lifted (os : Os) (started : os.Started) (H : Type) (enc : TypeId × Value → H) :
    ReturnsInHanded {} Try.checked os 3 .any (Rows.rateEndsSpec.pre6 enc Try.prog Try.f3 Rows.rateEndsRow.domain false) (Rows.rateEndsSpec.post enc Try.prog Try.f3 false true false false) := by
  refine returnsInHanded_of_change (C := Try.checked) own started (by kernel_rfl) Try.func3
    (ChangeSpec.witness6 (enc := enc) (C := Try.checked) false ⟨#[], #[.slice none 0 0], []⟩ 8 (by kernel_rfl) (by kernel_rfl) (by kernel_rfl) (by kernel_rfl)) ?_
  intro W base args ds gs before hval0 hW _ _
  have hval : ∀ (j : Nat) t v, Try.f3.params[j]? = some t → args[j]? = some v → Value.okWide Try.prog W .any base t v := hval0
  have hW' := hW
  obtain ⟨p, q, hA0, hV, rfl, hfz, hnd⟩ := hW
  have hA : DataW.TrodAll enc Try.prog W 0 (fun _ => true) true Try.f3.params.toList args.toList ds p := hA0
  rw [Try.params3] at hA hval
  obtain ⟨v0, d0, rfl, rfl, h0⟩ := trodAll_one hA
  obtain ⟨A, n, c, xs, rfl, hn, hr, hx⟩ := open_floats (hval 0 22 v0 rfl rfl) h0 (fun x hx => hW'.lt x (by simp [hx]))
  exact law_post laidOut (by kernel_rfl) rfl (by kernel_rfl) Try.underlying4 rfl hW' (law_calls A n c xs W hr hn hx)

theorem over : Rows.rateEndsRow.holds Try.pinned (OpenSpec.ofChange Rows.rateEndsSpec) :=
  OpenClaim.holds_of_wide 3 Try.f3 rfl rfl rfl rfl rfl rfl rfl ⟨rfl, rfl, rfl, rfl, rfl⟩ rfl rfl rfl rfl rfl (by kernel_rfl) Try.func3 (by kernel_rfl)
    (of_decide_eq_true (by kernel_rfl)) (by unfold Func.isWrapper; first | (rw [if_pos (by decide +kernel)]; kernel_rfl) | (rw [if_neg (by decide +kernel)]; exact ⟨rfl, rfl⟩))
    (fun os started H enc _ => lifted os started H enc)

theorem rateEnds_holds : Rows.RateEndsSaid :=
  over
#print axioms rateEnds_holds
end Go.Proofs.Ytclckcjimfadlaa
