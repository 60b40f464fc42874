/-
  ptp's within: what it gives.
-/
import Derived.Test.YthhlfojaloaooaaGreatRows
import Derived.Test.YthhlfojaloaooaaGreatPtpPlain
import Derived.Test.YthhlfojaloaooaaGreatKitC
import Derived.WalkKit
import Derived.ProofKit
import Derived.OpenShut
import Derived.LoopTactic
import Derived.WalkLawsBesides
import Derived.WalkSpells
import Derived.Outline
import Derived.Lib.Hide
import Derived.Deep.Light
import Derived.Deep.DrawnRows
import Derived.BigQuiet
namespace Go.Proofs.YthhlfojaloaooaaGreat
open Go.RowKit
attribute [local go_sem ↓] Go.wp_at_zero Go.wp_at_succ
def vs (xs : List Int) : List Value := xs.map fun x => .int .i64 x
def us (xs : List Int) : List Value := xs.map fun x => .int .u8 x
theorem vs_length (xs : List Int) : (vs xs).length = xs.length := by simp [vs]
theorem us_length (xs : List Int) : (us xs).length = xs.length := by simp [us]
theorem us_append (xs ys : List Int) : us (xs ++ ys) = us xs ++ us ys := by simp [us]

theorem okN_drop {most : Int} {xs : List Int} {k : Nat} {x : Int} (h : xs[k]? = some x) : okN most (xs.drop k) = (decide (0 ≤ x ∧ x ≤ most) && okN most (xs.drop (k + 1))) := by
  rw [drop_get h, okN_cons]

theorem within_any (most : Int) (A : Option Addr) (n c : Nat) (xs : List Int) (w : World) (B : Nat) (hr : Reads w B 1 A n (vs xs)) (hn : n ≤ maxLen) :
    Calls Tryz.prog 50 #[.int .i64 most, .slice A n c] w fun e w' => e = .returned (.bool (okN most xs)) ∧ w = w' := by
  unfold maxLen at hn
  have hlen : xs.length = n := by have := hr.1; rw [vs_length] at this; simpa using this
  go_enter Tryz.func50, Tryz.ntmps50
  go_wp2
  go_loop [9] (fun i => ∃ k : Nat, k ≤ n ∧ i = .int .i64 k ∧ Hid (okN most xs = okN most (xs.drop k))) (fun i => n - (intOf i).toNat)
  case atStart => exact ⟨0, Nat.zero_le _, rfl, rfl⟩
  case round =>
    obtain ⟨k, hk, rfl, hs⟩ := hrel
    by_cases hlt : k < n
    · obtain ⟨ad, v, rfl, _, hx, hc⟩ := hr.at_ hlt
      obtain ⟨x, hx1, rfl⟩ := getElem?_map_some hx
      have HS := Lib.hid (hs.out.trans (okN_drop hx1))
      clear hs hx hx1
      by_cases h0 : x < 0
      · go_wp2
        go_ret
        exact ⟨ret_bool (by rw [HS.out, decide_eq_false (by omega)]; rfl), rfl⟩
      · have d0 : decide (x < 0) = false := by simpa using h0
        by_cases h1 : most < x
        · go_wp2
          go_ret
          exact ⟨ret_bool (by rw [HS.out, decide_eq_false (by omega)]; rfl), rfl⟩
        · have d1 : decide (most < x) = false := by simpa using h1
          go_wp2
          go_round
          case rel => exact ⟨k + 1, by omega, by go_num, HS.out.trans (by rw [decide_eq_true (by omega)]; rfl)⟩
          case measure => simp [intOf]; omega
    · obtain rfl : n = k := by omega
      go_wp2
      go_ret
      refine ⟨ret_bool ?_, rfl⟩
      rw [hs.out, List.drop_eq_nil_of_le (by omega)]
      rfl

end Go.Proofs.YthhlfojaloaooaaGreat
