/-
  Layer 6's reference: the fields of a kind, whether a number fits, a number's bytes, a number of bytes.
-/
import Derived.Test.YtlhaloabophliaaPtpFormA
namespace Go.Proofs.Ytlhaloabophliaa
set_option linter.unusedSimpArgs false
set_option linter.unusedVariables false
open Go.RowKit Go.WideShapes Go.ChangeShapes
attribute [local go_sem ↓] Go.wp_at_zero Go.wp_at_succ

theorem sty2 : SliceTy Try.prog 56 59 2 16 := sliceTy_mk (z := .agg #[.int .i64 0, .int .i64 0]) Try.underlying56 (by kernel_rfl) rfl
def fields0 : List (Int × Int) := [(1, 1), (2, 2), (3, 6), (4, 2), (5, 8)]
def fieldsL (k : Int) : List (Int × Int) :=
  if k = 0 ∨ k = 2 then fields0
  else if k = 3 ∨ k = 10 then fields0 ++ [(6, 8), (7, 6), (8, 2)]
  else if k = 8 then fields0 ++ [(6, 8), (9, 8)]
  else if k = 11 then fields0 ++ [(10, 1), (11, 1), (12, 1), (13, 6), (14, 1)]
  else fields0
def fcells (fs : List (Int × Int)) : List Value := fs.flatMap fun f => [.int .i64 f.1, .int .i64 f.2]
def FieldsRet (k : Int) (w : World) (e : Ending) (w' : World) : Prop :=
  ∃ (A : Option Addr) (n c : Nat), e = .returned (.tuple #[.slice A n c, .bool (decide (Known k))]) ∧ (fieldsL k).length = n ∧ Reads w' w'.heap.size 2 A n (fcells (fieldsL k)) ∧ (∀ ad, A = some ad → w.heap.size ≤ ad.block) ∧ Below w.heap.size w w'
theorem fr_mk {k : Int} {w w' : World} {A : Option Addr} {n c : Nat} {b : Bool} {fs : List (Int × Int)} (hf : fieldsL k = fs) (hk : decide (Known k) = b) (hl : fs.length = n) (hr : Reads w' w'.heap.size 2 A n (fcells fs)) (ho : ∀ ad, A = some ad → w.heap.size ≤ ad.block) (hb : Below w.heap.size w w') : FieldsRet k w (.returned (.tuple #[.slice A n c, .bool b])) w' :=
  ⟨A, n, c, by rw [hk], by rw [hf]; exact hl, by rw [hf]; exact hr, ho, hb⟩
theorem own_ge {w : World} {base : Nat} {e : TypeId} {size n m c : Nat} {A : Option Addr} {xs : List Value} (h : w.ownsRow base e size (.slice A m c) n xs) : ∀ ad, A = some ad → base ≤ ad.block := fun ad ha => (ownsRow_lt h ad.block (by rw [ha]; rfl)).1
theorem one_all {cs : List Value} (h : cs.all (·.oneCell') = true) : ∀ u ∈ cs, u.oneCell' = true := List.all_eq_true.1 h
set_option maxHeartbeats 4000000 in
theorem fields_any (k : Int) (w : World) : Calls Try.prog 21 #[.int .i64 k] w (FieldsRet k w) := by
  have O0 := ownsRow_new (e := 59) (size := 2) w (cs := #[.int .i64 1, .int .i64 1, .int .i64 2, .int .i64 2, .int .i64 3, .int .i64 6, .int .i64 4, .int .i64 2, .int .i64 5, .int .i64 8]) (n := 5) (Nat.le_refl _) rfl (by simp [maxLen])
  have hz0 : w.heap.size + 1 = (w.alloc (.cells #[.int .i64 1, .int .i64 1, .int .i64 2, .int .i64 2, .int .i64 3, .int .i64 6, .int .i64 4, .int .i64 2, .int .i64 5, .int .i64 8] 59)).heap.size := by simp
  have B0 := (Below.refl w.heap.size w).alloc (Nat.le_refl _) (.cells #[.int .i64 1, .int .i64 1, .int .i64 2, .int .i64 2, .int .i64 3, .int .i64 6, .int .i64 4, .int .i64 2, .int .i64 5, .int .i64 8] 59)
  by_cases h1 : k = 0 ∨ k = 2
  · have hf : fieldsL k = fields0 := if_pos h1
    have hk : decide (Known k) = true := by rw [decide_eq_true_iff]; unfold Known; omega
    have HF := Lib.hid (And.intro hf hk)
    clear hf hk
    rcases h1 with rfl | rfl
    all_goals
      go_enter Try.func21, Try.ntmps21
      go_wp2_with fail
      go_ret2
      exact fr_mk HF.out.1 HF.out.2 rfl (Reads.of_own O0) (own_ge O0) B0
  · by_cases h2 : k = 3 ∨ k = 10
    · have hf : fieldsL k = fields0 ++ [(6, 8), (7, 6), (8, 2)] := by unfold fieldsL; rw [if_neg h1, if_pos h2]
      have hk : decide (Known k) = true := by rw [decide_eq_true_iff]; unfold Known; omega
      have HF := Lib.hid (And.intro hf hk)
      clear hf hk h1
      rcases h2 with rfl | rfl
      all_goals
        go_enter Try.func21, Try.ntmps21
        go_upto_block 0 with fail
        generalize (w.alloc (.cells #[.int .i64 1, .int .i64 1, .int .i64 2, .int .i64 2, .int .i64 3, .int .i64 6, .int .i64 4, .int .i64 2, .int .i64 5, .int .i64 8] 59)) = w1 at *
        go_wp2_with (at_builtin; refine wpList_pushes 3 rfl (.tmp 19) (.tmp 23) 56 rfl sty2 (cs := #[.int .i64 6, .int .i64 8, .int .i64 7, .int .i64 6, .int .i64 8, .int .i64 2]) rfl (one_all rfl) rfl O0 rfl rfl (by omega) (by omega) ?_; intro v7 w7 O7 B7)
        obtain ⟨A, c, rfl, _, R7⟩ := ownsRow_reads O7
        go_ret2
        exact fr_mk HF.out.1 HF.out.2 rfl R7 (own_ge O7) (B0.trans B7)
    · by_cases h3 : k = 8
      · subst h3
        have hk : decide (Known 8) = true := by decide
        have HF := Lib.hid (And.intro (show fieldsL 8 = fields0 ++ [(6, 8), (9, 8)] from rfl) hk)
        clear hk h1 h2
        go_enter Try.func21, Try.ntmps21
        go_upto_block 0 with fail
        generalize (w.alloc (.cells #[.int .i64 1, .int .i64 1, .int .i64 2, .int .i64 2, .int .i64 3, .int .i64 6, .int .i64 4, .int .i64 2, .int .i64 5, .int .i64 8] 59)) = w1 at *
        go_wp2_with (at_builtin; refine wpList_pushes 2 rfl (.tmp 27) (.tmp 30) 56 rfl sty2 (cs := #[.int .i64 6, .int .i64 8, .int .i64 9, .int .i64 8]) rfl (one_all rfl) rfl O0 rfl rfl (by omega) (by omega) ?_; intro v7 w7 O7 B7)
        obtain ⟨A, c, rfl, _, R7⟩ := ownsRow_reads O7
        go_ret2
        exact fr_mk HF.out.1 HF.out.2 rfl R7 (own_ge O7) (B0.trans B7)
      · by_cases h4 : k = 11
        · subst h4
          have hk : decide (Known 11) = true := by decide
          have HF := Lib.hid (And.intro (show fieldsL 11 = fields0 ++ [(10, 1), (11, 1), (12, 1), (13, 6), (14, 1)] from rfl) hk)
          clear hk h1 h2 h3
          go_enter Try.func21, Try.ntmps21
          go_upto_block 0 with fail
          generalize (w.alloc (.cells #[.int .i64 1, .int .i64 1, .int .i64 2, .int .i64 2, .int .i64 3, .int .i64 6, .int .i64 4, .int .i64 2, .int .i64 5, .int .i64 8] 59)) = w1 at *
          go_wp2_with (at_builtin; refine wpList_pushes 5 rfl (.tmp 34) (.tmp 40) 56 rfl sty2 (cs := #[.int .i64 10, .int .i64 1, .int .i64 11, .int .i64 1, .int .i64 12, .int .i64 1, .int .i64 13, .int .i64 6, .int .i64 14, .int .i64 1]) rfl (one_all rfl) rfl O0 rfl rfl (by omega) (by omega) ?_; intro v7 w7 O7 B7)
          obtain ⟨A, c, rfl, _, R7⟩ := ownsRow_reads O7
          go_ret2
          exact fr_mk HF.out.1 HF.out.2 rfl R7 (own_ge O7) (B0.trans B7)
        · have hf : fieldsL k = fields0 := by unfold fieldsL; rw [if_neg h1, if_neg h2, if_neg h3, if_neg h4]
          have hk : decide (Known k) = false := by rw [decide_eq_false_iff_not]; unfold Known; omega
          have HF := Lib.hid (And.intro hf hk)
          have k0 : (k == 0) = false := beq_eq_false_iff_ne.2 (by omega)
          have k2 : (k == 2) = false := beq_eq_false_iff_ne.2 (by omega)
          have k3 : (k == 3) = false := beq_eq_false_iff_ne.2 (by omega)
          have k8 : (k == 8) = false := beq_eq_false_iff_ne.2 (by omega)
          have k10 : (k == 10) = false := beq_eq_false_iff_ne.2 (by omega)
          have k11 : (k == 11) = false := beq_eq_false_iff_ne.2 (by omega)
          clear hf hk h1 h2 h3 h4
          go_enter Try.func21, Try.ntmps21
          go_wp2_with fail
          go_ret2
          exact fr_mk HF.out.1 HF.out.2 rfl (Reads.of_own O0) (own_ge O0) B0

/-- Does a number fit so many bytes? -/
def fitsB (x n : Int) : Bool := if n = 8 then true else decide (0 ≤ x ∧ x < 256 ^ n.toNat)
set_option maxHeartbeats 2000000 in
theorem fits_r (x : Int) (n : Nat) (hn : n ≤ 6 ∨ n = 8) (w : World) : Calls Try.prog 25 #[.int .i64 x, .int .i64 (n : Int)] w fun e w' => e = .returned (.bool (fitsB x n)) ∧ w = w' := by
  by_cases h8 : n = 8
  · subst h8
    go_enter Try.func25, Try.ntmps25
    go_wp2_with fail
    go_ret
    exact ⟨rfl, rfl⟩
  · have hn6 : n ≤ 6 := by omega
    have b8 : ((n : Int) == 8) = false := beq_eq_false_iff_ne.2 (by omega)
    have hf : fitsB x n = decide (0 ≤ x ∧ x < ((256 ^ n : Nat) : Int)) := by
      unfold fitsB
      rw [if_neg (by omega), Int.toNat_natCast]
      simp
    rw [hf]
    clear hf h8 hn
    go_enter Try.func25, Try.ntmps25
    go_wp2_with fail
    go_loopw [5, 6] (fun a b wr => ∃ k : Nat, k ≤ n ∧ b = .int .i64 k ∧ a = .int .i64 ((256 ^ k : Nat) : Int) ∧ w = wr) (fun _ b _ => n - (intOf b).toNat)
    case atStart => exact ⟨0, Nat.zero_le _, rfl, rfl, rfl⟩
    case round =>
      obtain ⟨k, hk, rfl, rfl, rfl⟩ := hrel
      have hp : 256 ^ k ≤ 256 ^ 6 := Nat.pow_le_pow_right (by omega) (by omega)
      by_cases hlt : k < n
      · have hm : IntKind.i64.wrap (((256 ^ k : Nat) : Int) * 256) = ((256 ^ (k + 1) : Nat) : Int) := by
          rw [Nat.pow_succ]
          generalize 256 ^ k = y at *
          rw [Int.natCast_mul]
          exact IntWalk.i64_in _ (by constructor <;> omega)
        generalize 256 ^ k = y at *
        go_wp2_with fail
        go_roundw
        case rel => exact ⟨k + 1, by omega, by first | rfl | trivial | go_num, by first | rfl | trivial | go_num, by first | rfl | trivial⟩
        case measure => simp [intOf]; omega
      · obtain rfl : n = k := by omega
        generalize hy : 256 ^ n = y at *
        by_cases h0 : 0 ≤ x
        · have e : decide (x < (y : Int)) = decide (0 ≤ x ∧ x < (y : Int)) := by simp [h0]
          have d0 : decide (0 ≤ x) = true := by simpa using h0
          have HE := Lib.hid e
          clear h0 e
          go_wp2_with fail
          go_ret
          exact ⟨ret_bool (by rw [hy]; exact HE.out), rfl⟩
        · have e : false = decide (0 ≤ x ∧ x < (y : Int)) := by simp [h0]
          have d0 : decide (0 ≤ x) = false := by simpa using h0
          have HE := Lib.hid e
          clear h0 e
          go_wp2_with fail
          go_ret
          exact ⟨ret_bool (by rw [hy]; exact HE.out), rfl⟩

/-! ### A number's bytes, and a number of bytes -/
theorem wrapU (z : Int) : IntKind.u64.wrap z = z % 18446744073709551616 := by
  unfold IntKind.wrap
  simp [IntKind.signed, IntKind.bits]
theorem be_all {x : Int} {n : Nat} (hn : n ≤ 8) : be (x % 18446744073709551616) n = be x n := by
  refine be_mod n _ _ ?_
  have hd : (256 : Int) ^ n ∣ 18446744073709551616 := by
    rw [show (18446744073709551616 : Int) = 256 ^ n * 256 ^ (8 - n) from by rw [← Int.pow_add, show n + (8 - n) = 8 from by omega]; decide]
    exact Int.dvd_mul_right _ _
  exact Int.emod_emod_of_dvd x hd
set_option maxHeartbeats 2000000 in
theorem bytes_r (x : Int) (n : Nat) (hn : n ≤ 8) (w : World) : Calls Try.prog 22 #[.int .i64 x, .int .i64 (n : Int)] w fun e w' => ∃ v, e = .returned v ∧ w'.ownsRow w.heap.size 5 1 v n (us (be x n)) ∧ Below w.heap.size w w' := by
  obtain ⟨X, hX⟩ : ∃ X : Nat, (X : Int) = x % 18446744073709551616 := ⟨(x % 18446744073709551616).toNat, by omega⟩
  have hb : be x n = be (X : Int) n := by rw [hX, be_all hn]
  have hX2 : X < 18446744073709551616 := by omega
  have hc : IntKind.u64.wrap x = (X : Int) := by rw [wrapU, hX]
  rw [hb]
  have O0 := ownsRow_new (e := 5) (size := 1) w (cs := #[]) (n := 0) (Nat.le_refl _) rfl (by simp [maxLen])
  have B0 := (Below.refl w.heap.size w).alloc (Nat.le_refl _) (.cells #[] 5)
  have hz0 : w.heap.size + 1 = (w.alloc (.cells #[] 5)).heap.size := by simp
  clear hb hX
  go_enter Try.func22, Try.ntmps22
  go_wp2_with fail
  clear hc
  generalize w.alloc (.cells #[] 5) = w1 at *
  go_loopw [5, 6, 7] (fun u v i wr => ∃ (k : Nat) (U : Nat) (out : List Int) (A : Option Addr) (c : Nat), k ≤ n ∧ i = .int .i64 k ∧ u = .int .u64 (U : Int) ∧ v = .slice A k c ∧ U < 18446744073709551616 ∧ be (U : Int) (n - k) ++ out = be (X : Int) n ∧ wr.ownsRow w.heap.size 5 1 (.slice A k c) k (us out) ∧ Below w.heap.size w wr ∧ w.heap.size ≤ wr.heap.size) (fun _ _ i _ => n - (intOf i).toNat)
  case atStart => exact ⟨0, X, [], _, _, Nat.zero_le _, rfl, rfl, rfl, hX2, by simp, O0, B0, by omega⟩
  case round =>
    clear O0 B0 hz0 hX2
    obtain ⟨k, U, out, A, c, hk, rfl, rfl, rfl, hU, hbe, ho, hb, hz⟩ := hrel
    by_cases hlt : k < n
    · have HBE := Lib.hid hbe
      have d1 := Int.emod_nonneg (U : Int) (show (256 : Int) ≠ 0 by omega)
      have d2 := Int.emod_lt_of_pos (U : Int) (show (0 : Int) < 256 by omega)
      clear hbe
      go_wp2_with (at_builtin; refine wpList_pushR rfl (.tmp 19) (.tmp 20) 32 rfl styB rfl ((Reads.of_own ho).alloc (Nat.le_refl _) _) (us_one out) rfl (ownsRow_new wr (cs := #[.int .u8 ((U : Int) % 256)]) (n := 1) hz rfl (by simp [maxLen])) (by omega) (by simp; omega) ?_; intro v7 w7 O7 G7)
      have hz1 : wr.heap.size + 1 = (wr.alloc (.cells #[.int .u8 ((U : Int) % 256)] 5)).heap.size := by simp
      have B7 := (hb.alloc hz (.cells #[.int .u8 ((U : Int) % 256)] 5)).grown G7 (by omega) (fun k hk => by have hk' : some wr.heap.size = some k := hk; injection hk' with hk'; omega)
      obtain ⟨A7, c7, rfl, _, _⟩ := ownsRow_reads O7
      clear G7 ho hb hz1
      go_roundw
      case rel =>
        refine ⟨k + 1, U / 256, ((U : Int) % 256) :: out, A7, c7, by omega, by go_num, by first | rfl | trivial | simp, by rw [Nat.add_comm 1 k], by omega, ?_, by rw [Nat.add_comm 1 k] at O7; exact O7, B7, B7.size⟩
        rw [← HBE.out, show n - k = (n - (k + 1)) + 1 from by omega, be]
        simp
      case measure => simp [intOf]; omega
    · obtain rfl : n = k := by omega
      have HO := Lib.hid ho
      have HB := Lib.hid hbe
      clear ho hbe
      go_wp2_with fail
      go_ret
      have e := HB.out
      rw [Nat.sub_self] at e
      exact ⟨_, rfl, by rw [← e]; exact HO.out, hb⟩
theorem take_snoc {b : List Int} {k : Nat} {x : Int} (h : b[k]? = some x) : b.take (k + 1) = b.take k ++ [x] := by rw [List.take_add_one, h]; rfl
set_option maxHeartbeats 2000000 in
theorem number_r (A : Option Addr) (n c : Nat) (b : List Int) (w : World) (B : Nat) (hr : Reads w B 1 A n (us b)) (hl : b.length = n) (hbt : Bytes b) (hn : n ≤ 100000) :
    Calls Try.prog 24 #[.slice A n c] w fun e w' => e = .returned (.int .i64 (num 0 b)) ∧ w = w' := by
  have HE : Hid (∀ U : Nat, (U : Int) = val 0 b % 18446744073709551616 → IntKind.i64.wrap (U : Int) = num 0 b) := Lib.hid fun U hU => by
    rw [num_val b 0 0 rfl, hU, IntKind.wrap_i64, IntKind.wrap_i64]
    omega
  have HL := Lib.hid (And.intro hl hbt)
  clear hl hbt
  go_enter Try.func24, Try.ntmps24
  go_wp2_with fail
  go_loopw [3, 7] (fun u i wr => ∃ (k : Nat) (U : Nat), k ≤ n ∧ i = .int .i64 k ∧ u = .int .u64 (U : Int) ∧ Hid ((U : Int) = val 0 (b.take k) % 18446744073709551616) ∧ w = wr) (fun _ i _ => n - (intOf i).toNat)
  case atStart => exact ⟨0, 0, Nat.zero_le _, rfl, rfl, Lib.hid rfl, rfl⟩
  case round =>
    obtain ⟨k, U, hk, rfl, rfl, HU, rfl⟩ := hrel
    by_cases hlt : k < n
    · obtain ⟨ad, v, rfl, _, hx, hc⟩ := hr.at_ hlt
      obtain ⟨x, hx1, rfl⟩ := getElem?_map_some hx
      have hxb := HL.out.2 x (List.mem_of_getElem? hx1)
      have m1 : IntKind.u64.wrap x = x := by rw [wrapU]; omega
      obtain ⟨V, hV⟩ : ∃ V : Nat, (V : Int) = IntKind.u64.wrap (IntKind.u64.wrap ((U : Int) * 256) + x) := ⟨(IntKind.u64.wrap (IntKind.u64.wrap ((U : Int) * 256) + x)).toNat, by rw [wrapU, wrapU]; omega⟩
      have HV : Hid ((V : Int) = val 0 (b.take (k + 1)) % 18446744073709551616) := Lib.hid (by rw [hV, take_snoc hx1, val_snoc, wrapU, wrapU]; have := HU.out; omega)
      have hV' := hV.symm
      clear hV hx hx1 hxb
      go_wp2_with fail
      go_roundw
      case rel => exact ⟨k + 1, V, by omega, by go_num, by first | rfl | trivial | simp, HV, by first | rfl | trivial⟩
      case measure => simp [intOf]; omega
    · obtain rfl : n = k := by omega
      have hU := HU.out
      rw [List.take_of_length_le (by rw [HL.out.1]; exact Nat.le_refl _)] at hU
      have hw := HE.out U hU
      have HW := Lib.hid hw
      clear hU hw
      go_wp2_with fail
      go_ret
      exact ⟨ret_int (by rw [← HW.out, IntKind.wrap_i64]; unfold wrap64; first | rfl | omega), rfl⟩
end Go.Proofs.Ytlhaloabophliaa
