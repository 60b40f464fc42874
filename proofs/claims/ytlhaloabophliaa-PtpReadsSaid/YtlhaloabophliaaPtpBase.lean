/-
  Layer 6: ptp's within and put: what they give.
-/
import Derived.Test.YtlhaloabophliaaRows
import Derived.Test.YtlhaloabophliaaPtpPlain
import Derived.Test.YtlhaloabophliaaKitB
import Derived.WalkKit
import Derived.ProofKit
import Derived.OpenShut
import Derived.LoopTactic
import Derived.WalkLawsBesides
import Derived.WalkSpells
import Derived.Outline
import Derived.Lib.Hide
import Derived.Deep.Light
import Derived.Deep.DrawnRows
import Derived.BigQuiet
namespace Go.Proofs.Ytlhaloabophliaa
open Go.RowKit
attribute [local go_sem ↓] Go.wp_at_zero Go.wp_at_succ
def vs (xs : List Int) : List Value := xs.map fun x => .int .i64 x
def us (xs : List Int) : List Value := xs.map fun x => .int .u8 x
theorem vs_length (xs : List Int) : (vs xs).length = xs.length := by simp [vs]
theorem us_length (xs : List Int) : (us xs).length = xs.length := by simp [us]
theorem us_append (xs ys : List Int) : us (xs ++ ys) = us xs ++ us ys := by simp [us]

theorem okN_drop {most : Int} {xs : List Int} {k : Nat} {x : Int} (h : xs[k]? = some x) : okN most (xs.drop k) = (decide (0 ≤ x ∧ x ≤ most) && okN most (xs.drop (k + 1))) := by
  rw [drop_get h, okN_cons]

theorem within_any (most : Int) (A : Option Addr) (n c : Nat) (xs : List Int) (w : World) (B : Nat) (hr : Reads w B 1 A n (vs xs)) (hn : n ≤ maxLen) :
    Calls Try.prog 18 #[.int .i64 most, .slice A n c] w fun e w' => e = .returned (.bool (okN most xs)) ∧ w = w' := by
  unfold maxLen at hn
  have hlen : xs.length = n := by have := hr.1; rw [vs_length] at this; simpa using this
  go_enter Try.func18, Try.ntmps18
  go_wp2
  go_loop [9] (fun i => ∃ k : Nat, k ≤ n ∧ i = .int .i64 k ∧ Hid (okN most xs = okN most (xs.drop k))) (fun i => n - (intOf i).toNat)
  case atStart => exact ⟨0, Nat.zero_le _, rfl, rfl⟩
  case round =>
    obtain ⟨k, hk, rfl, hs⟩ := hrel
    by_cases hlt : k < n
    · obtain ⟨ad, v, rfl, _, hx, hc⟩ := hr.at_ hlt
      obtain ⟨x, hx1, rfl⟩ := getElem?_map_some hx
      have HS := Lib.hid (hs.out.trans (okN_drop hx1))
      clear hs hx hx1
      by_cases h0 : x < 0
      · go_wp2
        go_ret
        exact ⟨ret_bool (by rw [HS.out, decide_eq_false (by omega)]; rfl), rfl⟩
      · have d0 : decide (x < 0) = false := by simpa using h0
        by_cases h1 : most < x
        · go_wp2
          go_ret
          exact ⟨ret_bool (by rw [HS.out, decide_eq_false (by omega)]; rfl), rfl⟩
        · have d1 : decide (most < x) = false := by simpa using h1
          go_wp2
          go_round
          case rel => exact ⟨k + 1, by omega, by go_num, HS.out.trans (by rw [decide_eq_true (by omega)]; rfl)⟩
          case measure => simp [intOf]; omega
    · obtain rfl : n = k := by omega
      go_wp2
      go_ret
      refine ⟨ret_bool ?_, rfl⟩
      rw [hs.out, List.drop_eq_nil_of_le (by omega)]
      rfl

theorem styB : SliceTy Try.prog 32 5 1 1 := sliceTy_mk (z := .int .u8 0) Try.underlying32 (by kernel_rfl) rfl
theorem be_snoc (x : Int) (n : Nat) : be x (n + 1) = be (x / 256) n ++ [x % 256] := rfl

def PutRet (v : Value) (m : Nat) (xs : List Int) (x : Int) (n : Nat) (w : World) (B : Nat) (e : Ending) (w' : World) : Prop :=
  ∃ v', e = .returned v' ∧ w'.ownsRow B 5 1 v' (m + n) (us (xs ++ be x n)) ∧ w.grownBy w' v.ownBlock ∧ Moved w v v'
set_option maxHeartbeats 1000000 in
theorem put_g (v : Value) (m : Nat) (xs : List Int) (x : Int) (n : Nat) (w : World) (B : Nat) (hown : w.ownsRow B 5 1 v m (us xs)) (hB : B ≤ w.heap.size) (hn : n ≤ 8) (hm : m ≤ 1000000) :
    Calls Try.prog 19 #[v, .int .i64 x, .int .i64 n] w (PutRet v m xs x n w B) := by
  go_enter Try.func19, Try.ntmps19
  go_wp2
  go_loopw [0, 7] (fun v' i wr => ∃ k : Nat, k ≤ n ∧ i = .int .i64 ((k : Int) - 1) ∧ wr.ownsRow B 5 1 v' (m + (n - k)) (us (xs ++ be (x / 256 ^ k) (n - k))) ∧ w.grownBy wr v.ownBlock ∧ Moved w v v') (fun _ i _ => (intOf i + 1).toNat)
  case atStart => exact ⟨n, Nat.le_refl _, rfl, by simpa [be] using hown, grownBy_refl _ _, Moved.refl _ _⟩
  case round =>
    obtain ⟨k, hk, rfl, ho, hb, hmv⟩ := hrel
    have hz := hb.size
    by_cases hlt : 0 < k
    · obtain ⟨j, rfl⟩ : ∃ j, k = j + 1 := ⟨k - 1, by omega⟩
      have e1 : x / 256 ^ (j + 1) = x / 2 ^ (8 * j) / 256 := by
        rw [show (2 : Int) ^ (8 * j) = 256 ^ j from by rw [Int.pow_mul]; rfl, Int.pow_succ, Int.ediv_ediv_of_nonneg (Int.le_of_lt (Int.pow_pos (by omega)))]
      have e2 : x / 256 ^ j = x / 2 ^ (8 * j) := by
        rw [show (2 : Int) ^ (8 * j) = 256 ^ j from by rw [Int.pow_mul]; rfl]
      have e3 : be (x / 256 ^ j) (n - j) = be (x / 256 ^ (j + 1)) (n - (j + 1)) ++ [x / 2 ^ (8 * j) % 256] := by
        rw [show n - j = (n - (j + 1)) + 1 from by omega, be_snoc, e1, e2]
      have E3 := Lib.hid e3
      have HMV := Lib.hid hmv
      clear e1 e2 e3 hmv
      go_wp2_with (at_builtin; refine wpList_pushG 1 rfl (.tmp 14) (.tmp 20) 32 rfl styB (cs := #[.int .u8 (x / 2 ^ (8 * j) % 256)]) rfl (by intro u hu; simp at hu; subst hu; rfl) rfl ho rfl rfl (by omega) (by omega) ?_; intro v3 w3 hown3 hb3 hm3)
      go_roundw
      case rel =>
        refine ⟨j, by omega, by go_num, ?_, grownBy_trans hb hb3 HMV.out, HMV.out.trans hm3 hz⟩
        rw [E3.out, ← List.append_assoc, us_append, show m + (n - j) = m + (n - (j + 1)) + 1 from by omega]
        exact hown3
      case measure => simp [intOf]
    · obtain rfl : k = 0 := by omega
      have HMV := Lib.hid hmv
      clear hmv
      go_wp2
      go_ret
      exact ⟨_, rfl, by simpa using ho, hb, HMV.out⟩
theorem put_any (v : Value) (m : Nat) (xs : List Int) (x : Int) (n : Nat) (w : World) (B : Nat) (hown : w.ownsRow B 5 1 v m (us xs)) (hB : B ≤ w.heap.size) (hn : n ≤ 8) (hm : m ≤ 1000000) :
    Calls Try.prog 19 #[v, .int .i64 x, .int .i64 n] w fun e w' => ∃ v', e = .returned v' ∧ w'.ownsRow B 5 1 v' (m + n) (us (xs ++ be x n)) ∧ Below B w w' :=
  (put_g v m xs x n w B hown hB hn hm).mono fun _ _ ⟨v', h1, h2, h3, _⟩ => ⟨v', h1, h2, below_of_grown h3 hown hB⟩
theorem put_gb (v : Value) (m : Nat) (xs : List Int) (x : Int) (n : Nat) (k : Int) (hk : k = (n : Int)) (w : World) (B : Nat) (hown : w.ownsRow B 5 1 v m (us xs)) (hB : B ≤ w.heap.size) (hn : n ≤ 8) (hm : m ≤ 1000000) :
    Calls Try.prog 19 #[v, .int .i64 x, .int .i64 k] w fun e w' => ∃ v', e = .returned v' ∧ w'.ownsRow B 5 1 v' (m + n) (us (xs ++ be x n)) ∧ w.grownBy w' v.ownBlock ∧ Moved w v v' := by
  subst hk
  exact put_g v m xs x n w B hown hB hn hm
theorem put_b (v : Value) (m : Nat) (xs : List Int) (x : Int) (n : Nat) (k : Int) (hk : k = (n : Int)) (w : World) (B : Nat) (hown : w.ownsRow B 5 1 v m (us xs)) (hB : B ≤ w.heap.size) (hn : n ≤ 8) (hm : m ≤ 1000000) :
    Calls Try.prog 19 #[v, .int .i64 x, .int .i64 k] w fun e w' => ∃ v', e = .returned v' ∧ w'.ownsRow B 5 1 v' (m + n) (us (xs ++ be x n)) ∧ Below B w w' := by
  subst hk
  exact put_any v m xs x n w B hown hB hn hm
end Go.Proofs.Ytlhaloabophliaa
