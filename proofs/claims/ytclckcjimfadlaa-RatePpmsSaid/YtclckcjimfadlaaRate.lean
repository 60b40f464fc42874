/-
  Layer 2's small functions over floats: which bits are a number, in which order numbers stand, the least and the greatest; the reference's parts of a float.
-/
import Derived.Test.YtclckcjimfadlaaDig
namespace Go.Proofs.Ytclckcjimfadlaa
open Go.RowKit

theorem f64bits (b : Nat) (w : World) : (callFunc 12 #[.float .f64 b]).run Try.prog w = .ok (.value (.int .u64 b)) w := by kernel_rfl
theorem f64frombits (b : Int) (w : World) : (callFunc 35 #[.int .u64 b]).run Try.prog w = .ok (.value (.float .f64 b.toNat)) w := by kernel_rfl
attribute [local go_sem] f64bits f64frombits

def nanB (b : Nat) : Bool := FloatKind.f64.format.order b b != some .eq
def plc (b : Nat) : Int := if nanB b = true then 0 else if ((b : Int) / 9223372036854775808 == 1) = true then bits BinOp.xor IntKind.u64 IntKind.u64.max b else bits BinOp.or IntKind.u64 b 9223372036854775808


theorem nan_any (w : World) : Calls Try.prog 11 #[] w fun e w' => e = .returned (.float .f64 9221120237041090561) ∧ w = w' := by
  go_enter Try.func11, Try.ntmps11
  go_wp2_with fail
  go_ret
  exact ⟨rfl, rfl⟩

theorem isNaN_any (b : Nat) (w : World) : Calls Try.prog 21 #[.float .f64 b] w fun e w' => e = .returned (.bool (nanB b)) ∧ w = w' := by
  go_enter Try.func21, Try.ntmps21
  go_wp2_with fail
  go_ret
  exact ⟨rfl, rfl⟩

theorem place_any (b : Nat) (w : World) :
    Calls Try.prog 34 #[.float .f64 b] w fun e w' => e = .returned (.int .u64 (plc b)) ∧ w = w' := by
  go_enter Try.func34, Try.ntmps34
  go_wp2_with (go_at_call 21; refine (isNaN_any _ _).mono ?_; rintro e w' ⟨rfl, rfl⟩)
  all_goals
    go_ret
    exact ⟨ret_int (by simp [plc, *]), rfl⟩

def endsStep (s : Nat × Nat × Nat) (x : Nat) : Nat × Nat × Nat :=
  if nanB x = true then s else
  if s.2.2 = 0 then (x, x, 1) else
  if plc x < plc s.1 then (x, s.2.1, s.2.2 + 1) else
  if plc s.2.1 < plc x then (s.1, x, s.2.2 + 1) else (s.1, s.2.1, s.2.2 + 1)


theorem ends_any (A : Option Addr) (n c : Nat) (xs : List Nat) (w : World) (B : Nat) (hr : Reads w B 1 A n (xs.map (Value.float .f64))) (hn : n ≤ maxLen) :
    Calls Try.prog 10 #[.slice A n c] w fun e w' => e = .returned (.tuple #[.float .f64 (xs.foldl endsStep (0, 0, 0)).1, .float .f64 (xs.foldl endsStep (0, 0, 0)).2.1, .int .i64 (xs.foldl endsStep (0, 0, 0)).2.2]) ∧ w = w' := by
  unfold maxLen at hn
  have hlen : xs.length = n := by have := hr.1; simpa using this
  go_enter Try.func10, Try.ntmps10
  go_wp2
  go_step3
  go_wp2
  go_step3
  go_wp2
  go_loop [5, 6, 7, 12] (fun lo hi m i => ∃ k : Nat, k ≤ n ∧ i = .int .i64 k ∧ ∃ s : Nat × Nat × Nat, s = (xs.take k).foldl endsStep (0, 0, 0) ∧ s.2.2 ≤ k ∧ lo = .float .f64 s.1 ∧ hi = .float .f64 s.2.1 ∧ m = .int .i64 s.2.2) (fun _ _ _ i => n - (intOf i).toNat)
  case atStart => exact ⟨0, Nat.zero_le _, rfl, (0, 0, 0), rfl, Nat.zero_le _, rfl, rfl, rfl⟩
  case round =>
    obtain ⟨k, hk, rfl, ⟨lo, hi, m⟩, hs, hm, rfl, rfl, rfl⟩ := hrel
    by_cases hlt : k < n
    · obtain ⟨ad, v, rfl, _, hx, hc⟩ := hr.at_ hlt
      obtain ⟨x, hx1, rfl⟩ := getElem?_map_some hx
      have HS := Lib.hid ((foldl_take_succ (f := endsStep) (s := (0, 0, 0)) hx1).trans (by rw [← hs]))
      clear hs hx hx1
      go_wp2_with (first | (go_at_call 21; refine (isNaN_any _ _).mono ?_; rintro e w' ⟨rfl, rfl⟩) | (go_at_call 34; refine (place_any _ _).mono ?_; rintro e w' ⟨rfl, rfl⟩))
      all_goals
        go_round
        case rel =>
          go_light
          have h0 := HS.out
          refine ⟨k + 1, by omega, by go_num, _, h0.symm, ?_, ?_, ?_, ?_⟩
          all_goals (try simp only [Int.natCast_eq_zero, beq_iff_eq, beq_eq_false_iff_ne, ne_eq] at *)
          all_goals simp only [endsStep]
          all_goals repeat (first | rw [if_pos (by assumption)] | rw [if_neg (by first | assumption | omega | simp_all)])
          all_goals first | rfl | go_num | (simp only; omega)
        case measure => simp [intOf]; omega
    · obtain rfl : n = k := by omega
      go_wp2
      have : xs.take n = xs := List.take_of_length_le (by omega)
      rw [this] at hs
      go_ret3
      exact ⟨by rw [← hs]; rfl, rfl⟩

/-! ### The reference's parts of a float -/
def expo (b : Nat) : Nat := b / 4503599627370496 % 2048
def frac (b : Nat) : Nat := b % 4503599627370496
def mant (b : Nat) : Nat := if expo b = 2047 then 0 else if expo b = 0 then frac b else frac b + 4503599627370496
def kexp (b : Nat) : Int := if expo b = 2047 then 0 else if expo b = 0 then 1074 else 1075 - (expo b : Int)
def okB (b : Nat) : Bool := !((expo b : Int) == 2047)
def infB (b : Nat) : Bool := ((expo b : Int) == 2047) && ((frac b : Int) == 0)
def negB (b : Nat) : Bool := decide ((9223372036854775808 : Int) ≤ (b : Int))

def PartsRet (b : Nat) (w : World) (e : Ending) (w' : World) : Prop :=
  ∃ v, e = .returned (.tuple #[.bool (negB b), v, .int .i64 (kexp b), .bool (okB b), .bool (infB b)]) ∧ w'.ownsRow w.heap.size 3 1 v (digs (mant b)).length ((digs (mant b)).map iv) ∧ Below w.heap.size w w'

theorem parts_any (b : Nat) (w : World) (hb : b < 18446744073709551616) : Calls Try.prog 13 #[.int .u64 b] w (PartsRet b w) := by
  have hf : frac b < 4503599627370496 := Nat.mod_lt _ (by omega)
  have he : expo b < 2048 := Nat.mod_lt _ (by omega)
  have e1 : (b : Int) / 4503599627370496 % 2048 = (expo b : Int) := by unfold expo; omega
  have e2 : (b : Int) % 4503599627370496 = (frac b : Int) := by unfold frac; omega
  have hcall : ∀ W, Calls Try.prog 24 #[.int .u64 (mant b : Int)] W fun e w' => ∃ v, e = .returned v ∧ w'.ownsRow W.heap.size 3 1 v (digs (mant b)).length ((digs (mant b)).map iv) ∧ Below W.heap.size W w' :=
    fun W => Of_any (mant b) W (by unfold mant; split; omega; split <;> omega)
  have HC := Lib.hid hcall
  clear hcall
  by_cases h1 : expo b = 2047
  · have hm : mant b = 0 := by simp [mant, h1]
    have hk : kexp b = 0 := by simp [kexp, h1]
    have t1 : ((expo b : Int) == 2047) = true := by simp [h1]
    have ho : okB b = false := by simp [okB, t1]
    have hi : infB b = ((frac b : Int) == 0) := by simp only [infB, t1, Bool.true_and]
    have H := Lib.hid (And.intro hm (And.intro hk (And.intro ho hi)))
    clear hm hk ho hi h1
    go_enter Try.func13, Try.ntmps13
    go_wp2
    obtain ⟨hm, hk, ho, hi⟩ := H.out
    refine bodyPost_ret (results_tmp5 rfl _ _ _) rfl ?_
    unfold PartsRet
    rw [hm, hk, ho, hi, digs_zero]
    exact ⟨.slice none 0 0, rfl, ownsRow_nil _ _ _ _, Below.refl _ _⟩
  · have t1 : ((expo b : Int) == 2047) = false := by simp; omega
    have ho : okB b = true := by simp [okB, t1]
    have hi : infB b = false := by simp only [infB, t1, Bool.false_and]
    by_cases h2 : expo b = 0
    · have hm : mant b = frac b := by simp [mant, h2]
      have hk : kexp b = 1074 := by simp [kexp, h2]
      have t2 : ((expo b : Int) == 0) = true := by simp [h2]
      have H := Lib.hid (And.intro hk (And.intro ho hi))
      clear hk ho hi h2 h1
      rw [hm] at HC
      go_enter Try.func13, Try.ntmps13
      go_wp2_with (go_at_call 24; refine (HC.out _).mono ?_; rintro e w' ⟨v, rfl, hown, hb⟩)
      obtain ⟨hk, ho, hi⟩ := H.out
      refine bodyPost_ret (results_tmp5 rfl _ _ _) rfl ?_
      unfold PartsRet
      rw [hm, hk, ho, hi]
      exact ⟨v, rfl, hown, hb⟩
    · have hm : mant b = frac b + 4503599627370496 := by simp only [mant, if_neg h1, if_neg h2]
      have hk : kexp b = 1075 - (expo b : Int) := by simp only [kexp, if_neg h1, if_neg h2]
      have t2 : ((expo b : Int) == 0) = false := by simp; omega
      have H := Lib.hid (And.intro hk (And.intro ho hi))
      clear hk ho hi h2 h1
      rw [hm] at HC
      go_enter Try.func13, Try.ntmps13
      go_wp2_with (go_at_call 24; refine (HC.out _).mono ?_; rintro e w' ⟨v, rfl, hown, hb⟩)
      obtain ⟨hk, ho, hi⟩ := H.out
      refine bodyPost_ret (results_tmp5 rfl _ _ _) rfl ?_
      unfold PartsRet
      rw [hm, hk, ho, hi]
      exact ⟨v, rfl, hown, hb⟩

def lessB (a b : Nat) : Bool := if (negB a == negB b) = false then negB a else if negB a = true then decide (b < a) else decide (a < b)
theorem lessB_of (a b : Nat) : lessB a b = if 9223372036854775808 ≤ a then (if 9223372036854775808 ≤ b then decide (b < a) else true) else (if 9223372036854775808 ≤ b then false else decide (a < b)) := by
  unfold lessB negB
  have e : ∀ c : Nat, decide ((9223372036854775808 : Int) ≤ (c : Int)) = decide (9223372036854775808 ≤ c) := fun c => by rw [decide_eq_decide]; omega
  rw [e a, e b]
  by_cases h1 : 9223372036854775808 ≤ a <;> by_cases h2 : 9223372036854775808 ≤ b <;> simp [h1, h2]
theorem less_any (a b : Nat) (w : World) :
    Calls Try.prog 14 #[.int .u64 a, .int .u64 b] w fun e w' => e = .returned (.bool (lessB a b)) ∧ w = w' := by
  by_cases h1 : (9223372036854775808 : Int) ≤ (a : Int) <;> by_cases h2 : (9223372036854775808 : Int) ≤ (b : Int)
  all_goals go_enter Try.func14, Try.ntmps14
  all_goals go_wp2
  all_goals go_ret
  all_goals exact ⟨ret_bool (by rw [lessB_of]; repeat (first | rw [if_pos (by omega)] | rw [if_neg (by omega)])), rfl⟩

end Go.Proofs.Ytclckcjimfadlaa
