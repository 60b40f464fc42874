/-
  Layers 3 and 18: Add, Sub, By of times; a clock of a domain: New, now, At, Rate, Fresh, Hold.
-/
import Derived.Test.YtjjpmckefglhnaaMsgM
import Derived.Test.YtjjpmckefglhnaaRateFuns
namespace Go.Proofs.Ytjjpmckefglhnaa
open Go.RowKit Go.WideShapes Go.ChangeShapes
attribute [local go_sem ↓] Go.wp_at_zero Go.wp_at_succ

instance (x : Int) : Decidable (I64 x) := by unfold I64; exact inferInstance
def addV (a b : Int) : Int × Int := if I64 (a + b) then (a + b, 0) else (0, 10)
def subV (a b : Int) : Int × Int := if I64 (a - b) then (a - b, 0) else (0, 10)
theorem i64_zero : I64 0 := by unfold I64; omega
theorem add_i64 (a b : Int) : I64 (addV a b).1 := by
  unfold addV
  split
  · assumption
  · exact i64_zero
theorem sub_i64 (a b : Int) : I64 (subV a b).1 := by
  unfold subV
  split
  · assumption
  · exact i64_zero
theorem md_i64 (a b c r : Int) : I64 (mulDivV a b c r).1 := by
  unfold mulDivV
  split
  · exact i64_zero
  · unfold mdEnd
    split
    · exact i64_zero
    · rename_i h
      generalize mdMinus a b c = s at *
      cases s <;> simp at h ⊢ <;> unfold I64 <;> omega

theorem fits_any (a b : Int) (ha : I64 a) (hb : I64 b) (w : World) : Calls Try.prog 37 #[.int .i64 a, .int .i64 b] w fun e w' => e = .returned (.bool (decide (I64 (a + b)))) ∧ w = w' := by
  unfold I64 at ha hb
  by_cases h : 0 ≤ b
  · have hw : IntKind.i64.wrap (9223372036854775807 - b) = 9223372036854775807 - b := IntWalk.i64_in _ (by constructor <;> omega)
    by_cases h2 : a ≤ 9223372036854775807 - b
    · rw [decide_eq_true (show I64 (a + b) from by unfold I64; omega)]
      have d1 : decide (0 ≤ b) = true := by simpa using h
      have d2 : decide (a ≤ 9223372036854775807 - b) = true := by simpa using h2
      clear ha hb h h2
      go_enter Try.func37, Try.ntmps37
      go_wp2
      go_ret
      exact ⟨rfl, rfl⟩
    · rw [decide_eq_false (show ¬ I64 (a + b) from by unfold I64; omega)]
      have d1 : decide (0 ≤ b) = true := by simpa using h
      have d2 : decide (a ≤ 9223372036854775807 - b) = false := by simpa using h2
      have d3 : decide (b < 0) = false := by simpa using h
      clear ha hb h h2
      go_enter Try.func37, Try.ntmps37
      go_wp2
      go_ret
      exact ⟨rfl, rfl⟩
  · have hw : IntKind.i64.wrap (-9223372036854775808 - b) = -9223372036854775808 - b := IntWalk.i64_in _ (by constructor <;> omega)
    have d1 : decide (0 ≤ b) = false := by simpa using h
    have d3 : decide (b < 0) = true := by simpa using h
    by_cases h2 : -9223372036854775808 - b ≤ a
    · rw [decide_eq_true (show I64 (a + b) from by unfold I64; omega)]
      have d2 : decide (-9223372036854775808 - b ≤ a) = true := by simpa using h2
      clear ha hb h h2
      go_enter Try.func37, Try.ntmps37
      go_wp2
      go_ret
      exact ⟨rfl, rfl⟩
    · rw [decide_eq_false (show ¬ I64 (a + b) from by unfold I64; omega)]
      have d2 : decide (-9223372036854775808 - b ≤ a) = false := by simpa using h2
      clear ha hb h h2
      go_enter Try.func37, Try.ntmps37
      go_wp2
      go_ret
      exact ⟨rfl, rfl⟩
theorem add_any (a b : Int) (ha : I64 a) (hb : I64 b) (w : World) : Calls Try.prog 32 #[.int .i64 a, .int .i64 b] w fun e w' => e = .returned (.tuple #[.int .i64 (addV a b).1, .int .i64 (addV a b).2]) ∧ w = w' := by
  have hc := fun W => fits_any a b ha hb W
  unfold addV
  by_cases h : I64 (a + b)
  · rw [if_pos h]
    rw [decide_eq_true h] at hc
    have hw : IntKind.i64.wrap (a + b) = a + b := IntWalk.i64_in _ h
    have HC := Lib.hid hc
    clear hc h ha hb
    go_enter Try.func32, Try.ntmps32
    go_wp2_with fail
    refine (HC.out _).mono ?_
    rintro e w1 ⟨rfl, rfl⟩
    go_wp2_with fail
    go_ret2
    exact ⟨rfl, rfl⟩
  · rw [if_neg h]
    rw [decide_eq_false h] at hc
    have HC := Lib.hid hc
    clear hc h ha hb
    go_enter Try.func32, Try.ntmps32
    go_wp2_with fail
    refine (HC.out _).mono ?_
    rintro e w1 ⟨rfl, rfl⟩
    go_wp2_with fail
    go_ret2
    exact ⟨rfl, rfl⟩
theorem sub_any (a b : Int) (ha : I64 a) (hb : I64 b) (w : World) : Calls Try.prog 29 #[.int .i64 a, .int .i64 b] w fun e w' => e = .returned (.tuple #[.int .i64 (subV a b).1, .int .i64 (subV a b).2]) ∧ w = w' := by
  by_cases h0 : b = -9223372036854775808
  · subst h0
    unfold subV
    by_cases h1 : 0 ≤ a
    · rw [if_neg (by unfold I64; omega)]
      have d1 : decide (0 ≤ a) = true := by simpa using h1
      clear ha hb h1
      go_enter Try.func29, Try.ntmps29
      go_wp2_with fail
      go_ret2
      exact ⟨rfl, rfl⟩
    · rw [if_pos (by unfold I64 at *; omega)]
      have d1 : decide (0 ≤ a) = false := by simpa using h1
      have hw : IntKind.i64.wrap (a - -9223372036854775808) = a - -9223372036854775808 := IntWalk.i64_in _ (by unfold I64 at ha; constructor <;> omega)
      have hw' : IntKind.i64.wrap (a + 9223372036854775808) = a + 9223372036854775808 := IntWalk.i64_in _ (by unfold I64 at ha; constructor <;> omega)
      clear ha hb h1
      go_enter Try.func29, Try.ntmps29
      go_wp2_with fail
      go_ret2
      exact ⟨rfl, rfl⟩
  · have hb2 : I64 (-b) := by unfold I64 at *; omega
    have hc := fun W => add_any a (-b) ha hb2 W
    have e : addV a (-b) = subV a b := by unfold addV subV; rw [Int.sub_eq_add_neg]
    rw [e] at hc
    have HC := Lib.hid hc
    have d1 : (b == -9223372036854775808) = false := beq_eq_false_iff_ne.2 h0
    have hw : IntKind.i64.wrap (-b) = -b := IntWalk.i64_in _ hb2
    generalize subV a b = x at *
    obtain ⟨x1, x2⟩ := x
    clear hc e ha hb h0 hb2
    go_enter Try.func29, Try.ntmps29
    go_wp2_with fail
    refine (HC.out _).mono ?_
    rintro e w1 ⟨rfl, rfl⟩
    go_wp2_with fail
    go_ret2
    exact ⟨rfl, rfl⟩
theorem by_any (s r : Int) (hs : I64 s) (hr : I64 r) (w : World) :
    Calls Try.prog 30 #[.int .i64 s, .int .i64 r] w fun e w' => e = .returned (.tuple #[.int .i64 (mulDivV s r 2199023255552 2).1, .int .i64 (mulDivV s r 2199023255552 2).2]) ∧ Below w.heap.size w w' := by
  have hm := fun W => mulDiv_any s r 2199023255552 2 hs hr (by unfold I64; omega) (.inr (.inr rfl)) W
  generalize mulDivV s r 2199023255552 2 = x at *
  obtain ⟨x1, x2⟩ := x
  have HM := Lib.hid hm
  clear hm
  go_enter Try.func30, Try.ntmps30
  go_wp2_with fail
  refine (HM.out _).mono ?_
  rintro e w1 ⟨rfl, hb1⟩
  go_wp2_with fail
  go_ret2
  exact ⟨rfl, hb1⟩

/-! ### A clock of a domain -/
structure Ck where
  domain : Int
  own : Bool
  known : Bool
  here : Int
  there : Int
  rate : Int
  last : Int
  opn : Bool
  seq : Int
  src : Int
  at_ : Int
def ckc (c : Ck) : Array Value := #[.int .i64 c.domain, .bool c.own, .bool c.known, .int .i64 c.here, .int .i64 c.there, .int .i64 c.rate, .int .i64 c.last, .bool c.opn, .int .i64 c.seq, .int .i64 c.src, .int .i64 c.at_]
structure Ck.Wf (c : Ck) : Prop where
  here : I64 c.here
  there : I64 c.there
  rate : I64 c.rate
  last : I64 c.last
  at_ : I64 c.at_
abbrev CkIn (w : World) (g : Nat) (c : Ck) : Prop := Blk w g 65 (ckc c)
theorem ck_at {w : World} {g : Nat} {c : Ck} (h : CkIn w g c) : w.cell? ⟨g, 0, none⟩ = some (.int .i64 c.domain) ∧ w.cell? ⟨g, 1, none⟩ = some (.bool c.own) ∧ w.cell? ⟨g, 2, none⟩ = some (.bool c.known) ∧ w.cell? ⟨g, 3, none⟩ = some (.int .i64 c.here) ∧ w.cell? ⟨g, 4, none⟩ = some (.int .i64 c.there) ∧ w.cell? ⟨g, 5, none⟩ = some (.int .i64 c.rate) ∧ w.cell? ⟨g, 6, none⟩ = some (.int .i64 c.last) ∧ w.cell? ⟨g, 7, none⟩ = some (.bool c.opn) ∧ w.cell? ⟨g, 8, none⟩ = some (.int .i64 c.seq) ∧ w.cell? ⟨g, 9, none⟩ = some (.int .i64 c.src) ∧ w.cell? ⟨g, 10, none⟩ = some (.int .i64 c.at_) :=
  ⟨h.cellOf 0 rfl, h.cellOf 1 rfl, h.cellOf 2 rfl, h.cellOf 3 rfl, h.cellOf 4 rfl, h.cellOf 5 rfl, h.cellOf 6 rfl, h.cellOf 7 rfl, h.cellOf 8 rfl, h.cellOf 9 rfl, h.cellOf 10 rfl⟩
def ckNew (d : Int) : Ck := ⟨d, false, false, 0, 0, 2199023255552, 0, false, 0, 0, 0⟩
theorem ckNew_wf (d : Int) : (ckNew d).Wf := ⟨by unfold ckNew I64; simp only; omega, by unfold ckNew I64; simp only; omega, by unfold ckNew I64; simp only; omega, by unfold ckNew I64; simp only; omega, by unfold ckNew I64; simp only; omega⟩
theorem new_any (d : Int) (w : World) : Calls Try.prog 17 #[.int .i64 d] w fun e w' => e = .returned (.pointer (some ⟨w.heap.size, 0, none⟩)) ∧ w.alloc (.cells (ckc (ckNew d)) 65) = w' := by
  unfold ckc ckNew
  go_enter Try.func17, Try.ntmps17
  go_wp2_with fail
  go_ret
  exact ⟨rfl, rfl⟩
def nowV (c : Ck) : Int := if c.own = true then 2199023255552 else c.rate
theorem now_i64 {c : Ck} (h : c.Wf) : I64 (nowV c) := by
  unfold nowV
  split
  · unfold I64; omega
  · exact h.rate
theorem now_any (c : Ck) (g : Nat) (w : World) (B : CkIn w g c) : Calls Try.prog 31 #[.pointer (some ⟨g, 0, none⟩)] w fun e w' => e = .returned (.int .i64 (nowV c)) ∧ w = w' := by
  obtain ⟨_, y1, _, _, _, y5, _⟩ := ck_at B
  unfold nowV
  cases ho : c.own with
  | true =>
    rw [ho] at y1
    rw [if_pos rfl]
    clear ho B
    go_enter Try.func31, Try.ntmps31
    go_wp2_with fail
    go_ret
    exact ⟨rfl, rfl⟩
  | false =>
    rw [ho] at y1
    rw [if_neg (by simp)]
    clear ho B
    go_enter Try.func31, Try.ntmps31
    go_wp2_with fail
    go_ret
    exact ⟨rfl, rfl⟩
/-- What At gives. -/
def atV (c : Ck) (now : Int) : Int × Bool :=
  if c.known = false then (if c.own = true then (now, true) else (0, false))
  else if (subV now c.here).2 ≠ 0 then (0, false)
  else if (mulDivV (subV now c.here).1 (nowV c) 2199023255552 2).2 ≠ 0 then (0, false)
  else ((addV c.there (mulDivV (subV now c.here).1 (nowV c) 2199023255552 2).1).1, (addV c.there (mulDivV (subV now c.here).1 (nowV c) 2199023255552 2).1).2 == 0)
theorem at_i64 {c : Ck} (now : Int) (h : I64 now) : I64 (atV c now).1 := by
  unfold atV
  repeat' split
  all_goals first | exact h | exact i64_zero | exact add_i64 _ _
set_option maxHeartbeats 1000000 in
theorem at_any (c : Ck) (g : Nat) (now : Int) (w : World) (B : CkIn w g c) (hw : c.Wf) (hn : I64 now) :
    Calls Try.prog 20 #[.pointer (some ⟨g, 0, none⟩), .int .i64 now] w fun e w' => e = .returned (.tuple #[.int .i64 (atV c now).1, .bool (atV c now).2]) ∧ Below w.heap.size w w' := by
  obtain ⟨_, y1, y2, y3, y4, _⟩ := ck_at B
  unfold atV
  cases hk : c.known with
  | false =>
    rw [hk] at y2
    rw [if_pos rfl]
    cases ho : c.own with
    | true =>
      rw [ho] at y1
      rw [if_pos rfl]
      clear ho B hk hw
      go_enter Try.func20, Try.ntmps20
      go_wp2_with fail
      go_ret2
      exact ⟨rfl, Below.refl _ _⟩
    | false =>
      rw [ho] at y1
      rw [if_neg (by simp)]
      clear ho B hk hw
      go_enter Try.func20, Try.ntmps20
      go_wp2_with fail
      go_ret2
      exact ⟨rfl, Below.refl _ _⟩
  | true =>
    rw [hk] at y2
    rw [if_neg (by simp)]
    have hS := fun W => sub_any now c.here hn hw.here W
    have hN := fun W B => now_any c g W B
    have hB := fun W => by_any (subV now c.here).1 (nowV c) (sub_i64 _ _) (now_i64 hw) W
    have hA := fun W => add_any c.there (mulDivV (subV now c.here).1 (nowV c) 2199023255552 2).1 hw.there (md_i64 _ _ _ _) W
    generalize addV c.there (mulDivV (subV now c.here).1 (nowV c) 2199023255552 2).1 = u at *
    generalize mulDivV (subV now c.here).1 (nowV c) 2199023255552 2 = v at *
    generalize subV now c.here = x at *
    generalize nowV c = r at *
    obtain ⟨x1, x2⟩ := x
    obtain ⟨v1, v2⟩ := v
    obtain ⟨u1, u2⟩ := u
    simp only at hS hN hB hA ⊢
    have HS := Lib.hid hS
    have HN := Lib.hid hN
    have HB := Lib.hid hB
    have HA := Lib.hid hA
    clear hS hN hB hA hw hk hn
    by_cases hx : x2 = 0
    · subst hx
      rw [if_neg (by simp)]
      by_cases hv : v2 = 0
      · subst hv
        rw [if_neg (by simp)]
        go_enter Try.func20, Try.ntmps20
        go_wp2_with fail
        refine (HS.out _).mono ?_
        rintro e w1 ⟨rfl, rfl⟩
        go_wp2_with fail
        refine (HN.out _ B).mono ?_
        rintro e w2 ⟨rfl, rfl⟩
        go_wp2_with fail
        refine (HB.out _).mono ?_
        rintro e w3 ⟨rfl, hb⟩
        have y4' := (ck_at (B.kept hb)).2.2.2.2.1
        clear y1 y2 y3 y4 B
        go_wp2_with fail
        refine (HA.out _).mono ?_
        rintro e w4 ⟨rfl, rfl⟩
        go_wp2_with fail
        go_ret2
        exact ⟨rfl, hb⟩
      · rw [if_pos hv]
        have b1 : (v2 != 0) = true := bne_iff_ne.2 hv
        clear hv HA
        go_enter Try.func20, Try.ntmps20
        go_wp2_with fail
        refine (HS.out _).mono ?_
        rintro e w1 ⟨rfl, rfl⟩
        go_wp2_with fail
        refine (HN.out _ B).mono ?_
        rintro e w2 ⟨rfl, rfl⟩
        go_wp2_with fail
        refine (HB.out _).mono ?_
        rintro e w3 ⟨rfl, hb⟩
        go_wp2_with fail
        go_ret2
        exact ⟨rfl, hb⟩
    · rw [if_pos hx]
      have b1 : (x2 != 0) = true := bne_iff_ne.2 hx
      clear hx HA HB HN
      go_enter Try.func20, Try.ntmps20
      go_wp2_with fail
      refine (HS.out _).mono ?_
      rintro e w1 ⟨rfl, rfl⟩
      go_wp2_with fail
      go_ret2
      exact ⟨rfl, Below.refl _ _⟩
/-- What Fresh gives. -/
def freshV (c : Ck) (now most : Int) : Bool := if c.own = true then true else if c.known = false then false else decide ((subV now c.last).2 = 0 ∧ (subV now c.last).1 ≤ most)
set_option maxHeartbeats 1000000 in
theorem fresh_any (c : Ck) (g : Nat) (now most : Int) (w : World) (B : CkIn w g c) (hw : c.Wf) (hn : I64 now) :
    Calls Try.prog 19 #[.pointer (some ⟨g, 0, none⟩), .int .i64 now, .int .i64 most] w fun e w' => e = .returned (.bool (freshV c now most)) ∧ w = w' := by
  obtain ⟨_, y1, y2, _, _, _, y6, _⟩ := ck_at B
  unfold freshV
  cases ho : c.own with
  | true =>
    rw [ho] at y1
    rw [if_pos rfl]
    cases hk : c.known with
    | true =>
      rw [hk] at y2
      clear ho hk B hw
      go_enter Try.func19, Try.ntmps19
      go_wp2_with fail
      go_ret
      exact ⟨rfl, rfl⟩
    | false =>
      rw [hk] at y2
      clear ho hk B hw
      go_enter Try.func19, Try.ntmps19
      go_wp2_with fail
      go_ret
      exact ⟨rfl, rfl⟩
  | false =>
    rw [ho] at y1
    rw [if_neg (by simp)]
    cases hk : c.known with
    | false =>
      rw [hk] at y2
      rw [if_pos rfl]
      clear ho hk B hw
      go_enter Try.func19, Try.ntmps19
      go_wp2_with fail
      go_ret
      exact ⟨rfl, rfl⟩
    | true =>
      rw [hk] at y2
      rw [if_neg (by simp)]
      have hS := fun W => sub_any now c.last hn hw.last W
      generalize subV now c.last = x at *
      obtain ⟨x1, x2⟩ := x
      have HS := Lib.hid hS
      clear ho hk B hw hS hn
      by_cases hx : x2 = 0
      · subst hx
        simp only [true_and]
        go_enter Try.func19, Try.ntmps19
        go_wp2_with fail
        refine (HS.out _).mono ?_
        rintro e w1 ⟨rfl, rfl⟩
        go_wp2_with fail
        go_ret
        exact ⟨rfl, rfl⟩
      · rw [decide_eq_false (by simp [hx])]
        have b1 : (x2 == 0) = false := beq_eq_false_iff_ne.2 hx
        clear hx
        go_enter Try.func19, Try.ntmps19
        go_wp2_with fail
        refine (HS.out _).mono ?_
        rintro e w1 ⟨rfl, rfl⟩
        go_wp2_with fail
        go_ret
        exact ⟨rfl, rfl⟩
def holdV (c : Ck) (now t : Int) : Ck := { c with known := true, here := now, there := t, last := now }
theorem hold_any (c : Ck) (g : Nat) (now t : Int) (w : World) (B : CkIn w g c) :
    Calls Try.prog 21 #[.pointer (some ⟨g, 0, none⟩), .int .i64 now, .int .i64 t] w fun e w' => e = .returned (.tuple #[]) ∧ CkIn w' g (holdV c now t) ∧ w.grownBy w' (some g) := by
  obtain ⟨_, y1, y2, y3, y4, y5, y6, _⟩ := ck_at B
  have fz := B.frozen
  have B4 := (((B.set_ 2 (.bool true)).set_ 3 (.int .i64 now)).set_ 4 (.int .i64 t)).set_ 6 (.int .i64 now)
  have G4 := gr_set (gr_set (gr_set (gr_set (grownBy_refl w (some g)) 2 (.bool true)) 3 (.int .i64 now)) 4 (.int .i64 t)) 6 (.int .i64 now)
  go_enter Try.func21, Try.ntmps21
  go_wp2_with fail
  exact bodyPost_end (results_none rfl _ _ _) rfl ⟨rfl, B4, G4⟩
end Go.Proofs.Ytjjpmckefglhnaa
