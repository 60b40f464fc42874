/-
  Layer 6: the number that bytes are, and Decode's inner function get: it takes some bytes off the front, or says that there are too few.
-/
import Derived.Test.YtlhaloabophliaaPtpSame
namespace Go.Proofs.Ytlhaloabophliaa
open Go.RowKit Go.WideShapes Go.ChangeShapes
attribute [local go_sem ↓] Go.wp_at_zero Go.wp_at_succ

/-! ### Plain: a number of bytes -/
def val : Int → List Int → Int
  | x, [] => x
  | x, c :: cs => val (x * 256 + c) cs
def num (x : Int) : List Int → Int
  | [] => x
  | c :: cs => num (IntKind.i64.wrap (x * 256 + c)) cs
theorem ofInt_nn (a : Int) (h0 : 0 ≤ a) (ha : a < 18446744073709551616) : (BitVec.ofInt 64 a).toNat = a.toNat := by
  rw [BitVec.toNat_ofInt]
  have : (a % 18446744073709551616).toNat = a.toNat := by omega
  simpa using this
theorem ofInt_mod (a : Int) : (BitVec.ofInt 64 a).toNat = (a % 18446744073709551616).toNat := by
  rw [BitVec.toNat_ofInt]; simp
theorem orB (x c : Int) (h : 0 ≤ c ∧ c < 256) : bits .or .i64 (IntKind.i64.wrap (x * 256)) c = IntKind.i64.wrap (x * 256 + c) := by
  have e : bits .or .i64 (IntKind.i64.wrap (x * 256)) c = IntKind.i64.wrap ((BitVec.ofInt 64 (IntKind.i64.wrap (x * 256)) ||| BitVec.ofInt 64 c).toNat : Int) := rfl
  obtain ⟨y, hy⟩ : ∃ y : Nat, (IntKind.i64.wrap (x * 256) % 18446744073709551616).toNat = 2 ^ 8 * y := by
    rw [IntKind.wrap_i64]
    exact ⟨((x * 256) % 18446744073709551616 / 256).toNat, by omega⟩
  have hc : c.toNat < 2 ^ 8 := by omega
  rw [e, BitVec.toNat_or, ofInt_mod, ofInt_nn c h.1 (by omega), hy, ← Nat.two_pow_add_eq_or_of_lt hc y, ← hy]
  rw [IntKind.wrap_i64, IntKind.wrap_i64, IntKind.wrap_i64]
  omega
theorem val_append (xs ys : List Int) (x : Int) : val x (xs ++ ys) = val (val x xs) ys := by
  induction xs generalizing x with
  | nil => rfl
  | cons c xs ih => exact ih _
theorem wrap_step (a b c : Int) (h : IntKind.i64.wrap a = IntKind.i64.wrap b) : IntKind.i64.wrap (a * 256 + c) = IntKind.i64.wrap (b * 256 + c) := by
  rw [IntKind.wrap_i64, IntKind.wrap_i64] at *
  omega
theorem wrap_wrap (a : Int) : IntKind.i64.wrap (IntKind.i64.wrap a) = IntKind.i64.wrap a := by
  rw [IntKind.wrap_i64, IntKind.wrap_i64]; omega
theorem num_val : ∀ (xs : List Int) (x y : Int), x = IntKind.i64.wrap y → num x xs = IntKind.i64.wrap (val y xs)
  | [], _, _, h => h
  | c :: xs, x, y, h => num_val xs _ _ (wrap_step _ _ _ (by rw [h, wrap_wrap]))
theorem num_snoc (c : Int) : ∀ (xs : List Int) (x : Int), num x (xs ++ [c]) = IntKind.i64.wrap (num x xs * 256 + c)
  | [], _ => rfl
  | _ :: xs, _ => num_snoc c xs _
theorem be_mod : ∀ (n : Nat) (x y : Int), x % 256 ^ n = y % 256 ^ n → be x n = be y n
  | 0, _, _, _ => rfl
  | n + 1, x, y, h => by
    have hd : ∀ z : Int, z % 256 ^ (n + 1) % 256 = z % 256 := fun z => Int.emod_emod_of_dvd z ⟨256 ^ n, by rw [Int.pow_succ, Int.mul_comm]⟩
    have h1 : x % 256 = y % 256 := by rw [← hd x, h, hd y]
    have e : ∀ z : Int, z % 256 ^ (n + 1) / 256 = z / 256 % 256 ^ n := by
      intro z
      have hp : (0 : Int) < 256 ^ n := Int.pow_pos (by omega)
      have a2 := Int.mul_ediv_add_emod (z / 256) (256 ^ n)
      have a3 := Int.emod_nonneg (z / 256) (Int.ne_of_gt hp)
      have a4 := Int.emod_lt_of_pos (z / 256) hp
      have a1 := Int.mul_ediv_add_emod z 256
      generalize hq : z / 256 / 256 ^ n = q at *
      generalize hr : z / 256 % 256 ^ n = r at *
      have hz : z = 256 ^ (n + 1) * q + (256 * r + z % 256) := by
        rw [Int.pow_succ, Int.mul_comm (256 ^ n) 256, Int.mul_assoc]
        omega
      have hs : 0 ≤ z % 256 ∧ z % 256 < 256 := by omega
      generalize z % 256 = s at *
      rw [hz, Int.mul_add_emod_self_left, Int.emod_eq_of_lt (by omega) (by rw [Int.pow_succ]; omega)]
      omega
    have h2 : x / 256 % 256 ^ n = y / 256 % 256 ^ n := by rw [← e x, h, e y]
    rw [be, be, be_mod n _ _ h2, h1]
theorem val_snoc (x c : Int) (xs : List Int) : val x (xs ++ [c]) = val x xs * 256 + c := by rw [val_append]; rfl
theorem be_val : ∀ (n : Nat) (xs : List Int) (x : Int), xs.length = n → Bytes xs → be (val x xs) n = xs := by
  intro n
  induction n with
  | zero => intro xs x h _; rw [List.eq_nil_of_length_eq_zero h]; rfl
  | succ n ih =>
    intro xs x h hb
    obtain ⟨ys, c, rfl⟩ : ∃ ys c, xs = ys ++ [c] := ⟨xs.dropLast, xs.getLast (by intro h'; simp [h'] at h), (List.dropLast_concat_getLast _).symm⟩
    have hc := hb c (by simp)
    rw [val_snoc, be, show (val x ys * 256 + c) / 256 = val x ys from by omega, show (val x ys * 256 + c) % 256 = c from by omega, ih ys x (by simp at h; exact h) (fun b hb' => hb b (by simp [hb']))]
theorem val_bound (xs : List Int) (hb : Bytes xs) : ∀ x : Int, 0 ≤ x → 0 ≤ val x xs ∧ val x xs < (x + 1) * 256 ^ xs.length := by
  induction xs with
  | nil => intro x hx; simp [val]; omega
  | cons c xs ih =>
    intro x hx
    have hc := hb c (by simp)
    obtain ⟨h1, h2⟩ := ih (fun b h => hb b (by simp [h])) (x * 256 + c) (by omega)
    refine ⟨h1, Int.lt_of_lt_of_le h2 ?_⟩
    rw [List.length_cons, Int.pow_succ, Int.mul_comm (256 ^ xs.length) 256, ← Int.mul_assoc]
    exact Int.mul_le_mul_of_nonneg_right (by omega) (Int.le_of_lt (Int.pow_pos (by omega)))
/-- The bytes of the number that some bytes are, are they. -/
theorem be_num {xs : List Int} {n : Nat} (hl : xs.length = n) (hn : n ≤ 8) (hb : Bytes xs) : be (num 0 xs) n = xs := by
  rw [num_val xs 0 0 rfl]
  have h := be_val n xs 0 hl hb
  rw [← h]
  have e : be (IntKind.i64.wrap (val 0 xs)) n = be (val 0 xs) n := by
    apply be_mod
    have hd : (256 : Int) ^ n ∣ 18446744073709551616 := ⟨256 ^ (8 - n), by rw [← Int.pow_add, show n + (8 - n) = 8 from by omega]; rfl⟩
    have e2 : IntKind.i64.wrap (val 0 xs) % 18446744073709551616 = val 0 xs % 18446744073709551616 := by rw [IntKind.wrap_i64]; omega
    rw [← Int.emod_emod_of_dvd _ hd, e2, Int.emod_emod_of_dvd _ hd]
  rw [h] at e ⊢
  exact e
theorem num_small {xs : List Int} {n : Nat} (hl : xs.length = n) (hn : n ≤ 6) (hb : Bytes xs) : 0 ≤ num 0 xs ∧ num 0 xs < 256 ^ n := by
  rw [num_val xs 0 0 rfl]
  have h := val_bound xs hb 0 (by omega)
  rw [hl] at h
  have hp : (256 : Int) ^ n ≤ 256 ^ 6 := by
    obtain ⟨k, hk⟩ : ∃ k, 6 = n + k := ⟨6 - n, by omega⟩
    rw [hk, Int.pow_add]
    have : (1 : Int) ≤ 256 ^ k := Int.pow_pos (by omega)
    have h0 : (0 : Int) ≤ 256 ^ n := Int.le_of_lt (Int.pow_pos (by omega))
    have := Int.mul_le_mul_of_nonneg_left this h0
    omega
  have h6 : (256 : Int) ^ 6 = 281474976710656 := by decide
  rw [IntWalk.i64_in _ (by constructor <;> omega)]
  omega

/-! ### The state: what is left of the bytes, were there too few -/
def getV (n : Nat) (rest : List Int) : Int := if n ≤ rest.length then num 0 (rest.take n) else 0
def getR (n : Nat) (rest : List Int) : List Int := if n ≤ rest.length then rest.drop n else []
def getS (n : Nat) (rest : List Int) (sh : Bool) : Bool := if n ≤ rest.length then sh else true
theorem getF {n len : Nat} {rest : List Int} (hl : rest.length = len) (h : len < n) (sh : Bool) : getV n rest = 0 ∧ getR n rest = [] ∧ getS n rest sh = true := by
  unfold getV getR getS
  rw [if_neg (by omega), if_neg (by omega), if_neg (by omega)]
  exact ⟨rfl, rfl, rfl⟩
theorem getT {n len : Nat} {rest : List Int} (hl : rest.length = len) (h : n ≤ len) (sh : Bool) : getV n rest = num 0 (rest.take n) ∧ getR n rest = rest.drop n ∧ getS n rest sh = sh := by
  unfold getV getR getS
  rw [if_pos (by omega), if_pos (by omega), if_pos (by omega)]
  exact ⟨rfl, rfl, rfl⟩
structure GetSt (w : World) (B Bb Bs : Nat) (rest : List Int) (sh : Bool) : Prop where
  bytes : ∃ A len cap, len ≤ cap ∧ cap ≤ maxLen ∧ rest.length = len ∧ Blk w Bb 32 #[.slice A len cap] ∧ Reads w B 1 A len (us rest)
  short : Blk w Bs 4 #[.bool sh]
  le1 : B ≤ Bb
  le2 : B ≤ Bs
  ne : Bb ≠ Bs
def GetFar (w w' : World) (B Bb Bs : Nat) : Prop := w'.heap.size = w.heap.size ∧ Below B w w' ∧ ∀ g t cs, g ≠ Bb → g ≠ Bs → Blk w g t cs → Blk w' g t cs

set_option maxHeartbeats 2000000 in
theorem get_any (n : Nat) (k : Int) (hk : k = (n : Int)) (hn : n ≤ 8) (w : World) (B Bb Bs : Nat) (rest : List Int) (sh : Bool) (hs : GetSt w B Bb Bs rest sh) (hbt : Bytes rest) :
    Calls Try.prog 23 #[.int .i64 k, .pointer (some ⟨Bb, 0, none⟩), .pointer (some ⟨Bs, 0, none⟩)] w fun e w' => e = .returned (.int .i64 (getV n rest)) ∧ GetSt w' B Bb Bs (getR n rest) (getS n rest sh) ∧ GetFar w w' B Bb Bs := by
  subst hk
  obtain ⟨⟨A, len, cap, hlc, hcap, hl, B1, hr⟩, B2, hB1, hB2, hne⟩ := hs
  have c1 := B1.cell 0
  have c2 := B2.cell 0
  simp at c1 c2
  have f1 := B1.frozen
  have f2 := B2.frozen
  unfold maxLen at hcap
  have HBT := Lib.hid hbt
  clear hbt
  go_enter Try.func23, Try.ntmps23
  by_cases hlt : len < n
  · have hx : (len : Int) < n := by omega
    go_wp2_with fail
    go_ret
    have hf := getF hl hlt sh
    rw [hf.1, hf.2.1, hf.2.2]
    refine ⟨rfl, ⟨⟨none, 0, 0, Nat.le_refl _, Nat.zero_le _, rfl, ?_, Reads.none_⟩, ?_, hB1, hB2, hne⟩, by simp, ((Below.refl _ _).setCell hB2 _).setCell hB1 _, fun g t cs h1 h2 h => (h.far h2 _).far h1 _⟩
    · exact (B1.far hne _).set_ 0 _
    · exact (B2.set_ 0 _).far (Ne.symm hne) _
  · have hx : ¬ (len : Int) < n := by omega
    have hx1 : n ≤ len := by omega
    have hx2 : (n : Int) ≤ cap := by omega
    have hx3 : (n : Int) ≤ len := by omega
    go_wp2_with fail
    go_loop [5, 16] (fun x i => ∃ k : Nat, k ≤ n ∧ i = .int .i64 k ∧ x = .int .i64 (num 0 (rest.take k))) (fun _ i => n - (intOf i).toNat)
    case atStart => exact ⟨0, Nat.zero_le _, rfl, rfl⟩
    case round =>
      obtain ⟨k, hk, rfl, rfl⟩ := hrel
      by_cases hkn : k < n
      · obtain ⟨ad, v, rfl, _, hu, hc⟩ := hr.at_ (k := k) (by omega)
        obtain ⟨c, hc1, rfl⟩ := getElem?_map_some hu
        have hcb := HBT.out c (List.mem_of_getElem? hc1)
        have e1 := num_snoc c (rest.take k) 0
        rw [← take_get hc1] at e1
        have e2 := orB (num 0 (rest.take k)) c hcb
        rw [← e1] at e2
        rw [IntWalk.i64_left] at e2
        have E2 := Lib.hid e2
        have hk0 : (k : Int) < n := by omega
        have hk1 : (k : Int) < len := by omega
        have hk2 : (0 : Int) ≤ k := by omega
        have hcc : IntKind.i64.wrap c = c := IntWalk.i64_in _ (by constructor <;> omega)
        clear e1 e2 hu hc1
        go_wp2_with fail
        go_round
        case rel => exact ⟨k + 1, by omega, by go_num, congrArg (Value.int .i64) E2.out⟩
        case measure => simp [intOf]; omega
      · obtain rfl : n = k := by omega
        have hcut := Reads.cut hr (cap := cap) hx1 hlc
        rw [Nat.mul_one] at hcut
        have hf := getT hl hx1 sh
        have HF := Lib.hid hf
        clear hf
        by_cases hcn : cap = n
        · have hle : len = n := by omega
          have h0 : len - n = 0 := by omega
          rw [if_pos hcn, h0] at hcut
          have HCUT := Lib.hid hcut
          clear hcut
          go_wp2_with fail
          go_ret
          rw [HF.out.1, HF.out.2.1, HF.out.2.2]
          refine ⟨rfl, ⟨⟨_, 0, 0, by omega, by unfold maxLen; omega, by simp [hl]; omega, B1.set_ 0 _, ?_⟩, B2.far (Ne.symm hne) _, hB1, hB2, hne⟩, by simp, (Below.refl _ _).setCell hB1 _, fun g t cs h1 h2 h => h.far h1 _⟩
          simpa [us] using HCUT.out.setCell hB1 _
        · rw [if_neg hcn] at hcut
          have HCUT := Lib.hid hcut
          clear hcut
          go_wp2_with fail
          go_ret
          rw [HF.out.1, HF.out.2.1, HF.out.2.2]
          refine ⟨rfl, ⟨⟨_, len - n, cap - n, by omega, by unfold maxLen; omega, by simp [hl], B1.set_ 0 _, ?_⟩, B2.far (Ne.symm hne) _, hB1, hB2, hne⟩, by simp, (Below.refl _ _).setCell hB1 _, fun g t cs h1 h2 h => h.far h1 _⟩
          simpa [us] using HCUT.out.setCell hB1 _
end Go.Proofs.Ytlhaloabophliaa
