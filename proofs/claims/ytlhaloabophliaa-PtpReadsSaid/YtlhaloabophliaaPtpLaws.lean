/-
  Layer 6: the plain laws of Decode: what it takes for a message are that message's bytes; of more or fewer bytes it says so. No program in sight.
-/
import Derived.Test.YtlhaloabophliaaPtpDecA
import Derived.Test.YtlhaloabophliaaPtpLaw0
namespace Go.Proofs.Ytlhaloabophliaa
set_option linter.unusedSimpArgs false
set_option linter.unusedVariables false

/-! ### get, in closed form -/
theorem getR_drop (n : Nat) (r : List Int) : getR n r = r.drop n := by
  unfold getR
  split
  · rfl
  · rw [List.drop_eq_nil_of_le (by omega)]
theorem getS_or (n : Nat) (r : List Int) (s : Bool) : getS n r s = (s || decide (r.length < n)) := by
  unfold getS
  split
  · rw [decide_eq_false (by omega), Bool.or_false]
  · rw [decide_eq_true (by omega), Bool.or_true]
theorem headR_drop (b : List Int) : headR b = b.drop 20 := by
  unfold headR
  simp only [getR_drop, List.drop_drop]
theorem headS_short (b : List Int) : headS b = decide (b.length < 20) := by
  unfold headS
  simp only [getS_or, getR_drop, List.drop_drop, List.length_drop]
  rw [Bool.eq_iff_iff]
  simp only [Bool.or_eq_true, decide_eq_true_eq, Bool.false_eq_true, false_or]
  omega
theorem Bytes.append {xs ys : List Int} (hx : Bytes xs) (hy : Bytes ys) : Bytes (xs ++ ys) := fun z hz => (List.mem_append.1 hz).elim (hx z) (hy z)
theorem Bytes.drop {xs : List Int} (hx : Bytes xs) (n : Nat) : Bytes (xs.drop n) := fun z hz => hx z (List.mem_of_mem_drop hz)
theorem Bytes.take {xs : List Int} (hx : Bytes xs) (n : Nat) : Bytes (xs.take n) := fun z hz => hx z (List.mem_of_mem_take hz)
theorem be_one (x : Int) : be x 1 = [x % 256] := rfl
theorem get_back {n : Nat} {r : List Int} (hn : n ≤ 8) (hb : Bytes r) (h : n ≤ r.length) : be (getV n r) n ++ r.drop n = r := by
  unfold getV
  rw [if_pos h, be_num (by rw [List.length_take]; omega) hn (hb.take n), List.take_append_drop]

/-- The head's bytes are what was read there. -/
theorem head_back {b : List Int} (hb : Bytes b) (hl : 20 ≤ b.length) (hf : getV 1 b / 16 = 1) {m : Mg} (h1 : m.kind = (headM_ b).kind) (h2 : m.domain = (headM_ b).domain) (h3 : m.seq = (headM_ b).seq) (h4 : m.src = (headM_ b).src) (h5 : m.port = (headM_ b).port) (h6 : m.corr = (headM_ b).corr) :
    headB m ++ b.drop 20 = b := by
  have e1 := get_back (n := 1) (by omega) hb (by omega)
  have e2 := get_back (n := 1) (by omega) (hb.drop 1) (by rw [List.length_drop]; omega)
  have e3 := get_back (n := 2) (by omega) (hb.drop 2) (by rw [List.length_drop]; omega)
  have e4 := get_back (n := 6) (by omega) (hb.drop 4) (by rw [List.length_drop]; omega)
  have e5 := get_back (n := 2) (by omega) (hb.drop 10) (by rw [List.length_drop]; omega)
  have e6 := get_back (n := 8) (by omega) (hb.drop 12) (by rw [List.length_drop]; omega)
  simp only [List.drop_drop, Nat.reduceAdd, be_one] at e1 e2 e3 e4 e5 e6
  have hk : (16 + m.kind) % 256 = getV 1 b % 256 := by
    rw [h1]
    unfold headM_
    simp only
    have := getV_small (n := 1) (by omega) hb
    omega
  have hh : headB m = [getV 1 b % 256] ++ [getV 1 (b.drop 1) % 256] ++ be (getV 2 (b.drop 2)) 2 ++ be (getV 6 (b.drop 4)) 6 ++ be (getV 2 (b.drop 10)) 2 ++ be (getV 8 (b.drop 12)) 8 := by
    unfold headB
    rw [hk, h2, h3, h4, h5, h6]
    unfold headM_
    simp only [getR_drop, List.drop_drop, Nat.reduceAdd]
    rfl
  rw [hh]
  simp only [List.append_assoc]
  rw [e6, e5, e4, e3, e2, e1]

theorem pathG_short : ∀ (k : Nat) (r : List Int), (pathG k r).2.2 = decide (r.length < 6 * k)
  | 0, r => by simp [pathG]
  | k + 1, r => by
    unfold pathG
    split
    · simp only
      rw [pathG_short k, List.length_drop]
      congr 1
      simp only [eq_iff_iff]
      omega
    · simp only
      rw [decide_eq_true (by omega)]
theorem pathG_right : ∀ (k : Nat) (r : List Int), 6 * k ≤ r.length → Bytes r → (pathG k r).2.1 = r.drop (6 * k) ∧ (pathG k r).1.length = k ∧ ((pathG k r).1.flatMap fun x => be x 6) ++ r.drop (6 * k) = r
  | 0, r, _, _ => by simp [pathG]
  | k + 1, r, h, hb => by
    have ih := pathG_right k (r.drop 6) (by rw [List.length_drop]; omega) (hb.drop 6)
    unfold pathG
    rw [if_pos (by omega)]
    simp only
    refine ⟨by rw [ih.1, List.drop_drop]; congr 1; omega, by rw [List.length_cons, ih.2.1], ?_⟩
    rw [List.flatMap_cons, List.append_assoc]
    have e := ih.2.2
    rw [List.drop_drop, show 6 + 6 * k = 6 * (k + 1) from by omega] at e
    rw [e, be_num (by rw [List.length_take]; omega) (by omega) (hb.take 6), List.take_append_drop]
theorem pathG_more : ∀ (k : Nat) (r y : List Int), 6 * k ≤ r.length → (pathG k (r ++ y)).1 = (pathG k r).1
  | 0, _, _, _ => rfl
  | k + 1, r, y, h => by
    unfold pathG
    rw [if_pos (by rw [List.length_append]; omega), if_pos (by omega)]
    simp only
    rw [List.take_append_of_le_length (by omega), List.drop_append_of_le_length (by omega), pathG_more k (r.drop 6) y (by rw [List.length_drop]; omega)]
theorem num_is {x : Int} {n : Nat} (hn : n ≤ 6) (hx : 0 ≤ x ∧ x < 256 ^ n) : num 0 (be x n) = x := by
  have hb : Bytes (be x n) := fun b h => by have := be_byte n x b h; omega
  exact be_small (be_num (be_length n x) (by omega) hb) (num_small (be_length n x) hn hb) hx
theorem num_i64 (xs : List Int) : I64 (num 0 xs) := by
  rw [num_val xs 0 0 rfl, IntKind.wrap_i64]
  unfold I64
  omega
theorem num_is8 {x : Int} (hx : I64 x) : num 0 (be x 8) = x := by
  have hb : Bytes (be x 8) := fun b h => by have := be_byte 8 x b h; omega
  exact be_i64 (be_num (be_length 8 x) (by omega) hb) (num_i64 _) hx
theorem getV_be {x : Int} {n : Nat} {r : List Int} (hn : n ≤ 6) (hx : 0 ≤ x ∧ x < 256 ^ n) : getV n (be x n ++ r) = x := by
  unfold getV
  rw [if_pos (by rw [List.length_append, be_length]; omega), List.take_left' (be_length n x), num_is hn hx]
theorem getV_be8 {x : Int} {r : List Int} (hx : I64 x) : getV 8 (be x 8 ++ r) = x := by
  unfold getV
  rw [if_pos (by rw [List.length_append, be_length]; omega), List.take_left' (be_length 8 x), num_is8 hx]
theorem getR_be (x : Int) (n : Nat) (r : List Int) : getR n (be x n ++ r) = r := by
  rw [getR_drop, List.drop_left' (be_length n x)]
theorem getV_i64 (n : Nat) (r : List Int) : I64 (getV n r) := by
  unfold getV
  split
  · exact num_i64 _
  · unfold I64; omega

/-! ### What a kind's own bytes come to -/
/-- How many bytes there must be, by what was said. -/
def wantB (k n : Int) : Nat := if k = 0 ∨ k = 2 then 20 else if k = 3 ∨ k = 10 ∨ k = 8 then 36 else 31 + 6 * n.toNat
/-- bodyG, in closed form. -/
def tailM (m : Mg) (r : List Int) : Mg :=
  if m.kind = 0 ∨ m.kind = 2 then m
  else if m.kind = 3 ∨ m.kind = 10 then (⟨m.kind, m.domain, m.seq, m.src, m.port, m.corr, getV 8 r, getV 6 (r.drop 8), getV 2 (r.drop 14), m.rate, m.one, m.cls, m.two, m.id, m.steps, m.path⟩ : Mg)
  else if m.kind = 8 then { m with time := getV 8 r, rate := getV 8 (r.drop 8) }
  else { m with one := getV 1 r, cls := getV 1 (r.drop 1), two := getV 1 (r.drop 2), id := getV 6 (r.drop 3), steps := getV 1 (r.drop 9), path := (if r.length < 11 then [] else (pathG (getV 1 (r.drop 10)).toNat (r.drop 11)).1) }
theorem tailM_same (m : Mg) (r : List Int) : (tailM m r).kind = m.kind ∧ (tailM m r).domain = m.domain ∧ (tailM m r).seq = m.seq ∧ (tailM m r).src = m.src ∧ (tailM m r).port = m.port ∧ (tailM m r).corr = m.corr := by
  unfold tailM
  split
  · exact ⟨rfl, rfl, rfl, rfl, rfl, rfl⟩
  · split
    · exact ⟨rfl, rfl, rfl, rfl, rfl, rfl⟩
    · split <;> exact ⟨rfl, rfl, rfl, rfl, rfl, rfl⟩
def tailN (r : List Int) : Int := getV 1 (r.drop 10)
theorem tailN_nn {r : List Int} (hb : Bytes r) : 0 ≤ tailN r ∧ tailN r < 256 := by
  have := getV_small (n := 1) (by omega) (hb.drop 10)
  unfold tailN
  simpa using this
theorem body_bad {m : Mg} {r : List Int} (h : ¬ Known m.kind) : bodyG m r = .error 23 := by
  unfold Known at h
  unfold bodyG
  rw [if_neg (by omega), if_neg (by omega), if_neg (by omega), if_neg (by omega)]
theorem body_many {m : Mg} {r : List Int} (h : m.kind = 11) (hn : 32 < tailN r) : bodyG m r = .error 4 := by
  unfold tailN at hn
  unfold bodyG
  rw [if_neg (by omega), if_neg (by omega), if_neg (by omega), if_pos h]
  simp only [getR_drop, List.drop_drop, Nat.reduceAdd]
  rw [if_pos hn]
theorem body_ok {m : Mg} {r : List Int} (hb : Bytes r) (hk : Known m.kind) (hn : m.kind = 11 → tailN r ≤ 32) :
    ∃ r' s, bodyG m r = .ok (tailM m r, r', s) ∧ s = decide (r.length + 20 < wantB m.kind (tailN r)) ∧ (s = false → r'.length = r.length + 20 - wantB m.kind (tailN r)) := by
  have t0 := tailN_nn hb
  unfold bodyG tailM wantB
  by_cases h1 : m.kind = 0 ∨ m.kind = 2
  · rw [if_pos h1, if_pos h1, if_pos h1]
    exact ⟨r, false, rfl, (decide_eq_false (by omega)).symm, fun _ => by omega⟩
  · rw [if_neg h1, if_neg h1, if_neg h1]
    by_cases h2 : m.kind = 3 ∨ m.kind = 10
    · have h2' : m.kind = 3 ∨ m.kind = 10 ∨ m.kind = 8 := by omega
      rw [if_pos h2, if_pos h2, if_pos h2']
      simp only [getR_drop, getS_or, List.drop_drop, Nat.reduceAdd]
      refine ⟨_, _, rfl, ?_, fun _ => ?_⟩
      · rw [Bool.eq_iff_iff]
        simp only [List.length_drop, Bool.or_eq_true, decide_eq_true_eq, Bool.false_eq_true, false_or]
        omega
      · rw [List.length_drop]; omega
    · rw [if_neg h2, if_neg h2]
      by_cases h3 : m.kind = 8
      · have h2' : m.kind = 3 ∨ m.kind = 10 ∨ m.kind = 8 := by omega
        rw [if_pos h3, if_pos h3, if_pos h2']
        simp only [getR_drop, getS_or, List.drop_drop, Nat.reduceAdd]
        refine ⟨_, _, rfl, ?_, fun _ => ?_⟩
        · rw [Bool.eq_iff_iff]
          simp only [List.length_drop, Bool.or_eq_true, decide_eq_true_eq, Bool.false_eq_true, false_or]
          omega
        · rw [List.length_drop]; omega
      · have h4 : m.kind = 11 := by unfold Known at hk; omega
        have h2' : ¬ (m.kind = 3 ∨ m.kind = 10 ∨ m.kind = 8) := by omega
        rw [if_neg h3, if_neg h3, if_pos h4, if_neg h2']
        have hn' := hn h4
        unfold tailN at hn' t0
        simp only [getR_drop, getS_or, List.drop_drop, Nat.reduceAdd]
        rw [if_neg (by omega)]
        by_cases h5 : r.length < 11
        · have hs : (((((((false || decide (r.length < 1)) || decide ((r.drop 1).length < 1)) || decide ((r.drop 2).length < 1)) || decide ((r.drop 3).length < 6)) || decide ((r.drop 9).length < 1)) || decide ((r.drop 10).length < 1))) = true := by
            simp only [List.length_drop, Bool.or_eq_true, decide_eq_true_eq, Bool.false_eq_true, false_or]
            omega
          rw [hs, if_pos rfl, if_pos h5]
          exact ⟨_, true, rfl, (decide_eq_true (by omega)).symm, fun h => by cases h⟩
        · have hs : (((((((false || decide (r.length < 1)) || decide ((r.drop 1).length < 1)) || decide ((r.drop 2).length < 1)) || decide ((r.drop 3).length < 6)) || decide ((r.drop 9).length < 1)) || decide ((r.drop 10).length < 1))) = false := by
            simp only [List.length_drop, Bool.or_eq_false_iff, decide_eq_false_iff_not, true_and]
            omega
          rw [hs, if_neg (by simp), if_neg h5]
          have hp := pathG_short (getV 1 (r.drop 10)).toNat (r.drop 11)
          refine ⟨_, _, rfl, ?_, fun h => ?_⟩
          · rw [hp, List.length_drop]
            unfold tailN
            congr 1
            simp only [eq_iff_iff]
            omega
          · rw [hp] at h
            have h' := of_decide_eq_false h
            rw [List.length_drop] at h'
            rw [(pathG_right _ _ (by rw [List.length_drop]; omega) (hb.drop 11)).1]
            unfold tailN
            simp only [List.length_drop]
            omega

/-- What Decode gives, in closed form. -/
def decN (b : List Int) : Int := tailN (b.drop 20)
def decW (b : List Int) : Nat := wantB (getV 1 b % 16) (decN b)
def decM (b : List Int) : Mg := tailM (headM_ b) (b.drop 20)
noncomputable def decC (b : List Int) : Mg × Int :=
  if b.length < 20 then (zeroM, 20)
  else if getV 1 b / 16 ≠ 1 then (zeroM, 21)
  else if ¬ Known (getV 1 b % 16) then (zeroM, 23)
  else if getV 1 b % 16 = 11 ∧ 32 < decN b then (zeroM, 4)
  else if b.length < decW b then (zeroM, 20)
  else if decW b < b.length then (zeroM, 24)
  else if checkV (decM b) ≠ 0 then (zeroM, 1)
  else (decM b, 0)
theorem dec_closed {b : List Int} (hb : Bytes b) : dec b = decC b := by
  unfold dec decC
  rw [headS_short, headR_drop]
  by_cases h1 : b.length < 20
  · rw [if_pos h1, if_pos (by simp [h1])]
  · rw [if_neg h1, if_neg (by simp [h1])]
    by_cases h2 : getV 1 b / 16 ≠ 1
    · rw [if_pos h2, if_pos h2]
    · rw [if_neg h2, if_neg h2]
      have hkk : (headM_ b).kind = getV 1 b % 16 := rfl
      by_cases h3 : Known (getV 1 b % 16)
      · rw [if_neg (fun h => h h3)]
        by_cases h4 : getV 1 b % 16 = 11 ∧ 32 < decN b
        · rw [if_pos h4, body_many h4.1 h4.2]
        · rw [if_neg h4]
          obtain ⟨r', s, e, hs, hr⟩ := body_ok (m := headM_ b) (hb.drop 20) h3 (fun h => by
            rcases Int.lt_or_le 32 (tailN (b.drop 20)) with h5 | h5
            · exact absurd ⟨h, h5⟩ h4
            · exact h5)
          rw [e]
          simp only
          rw [hkk] at hs hr
          have hl : (b.drop 20).length + 20 = b.length := by rw [List.length_drop]; omega
          rw [hl] at hs hr
          by_cases h5 : b.length < decW b
          · rw [if_pos h5, if_pos (hs.trans (decide_eq_true h5))]
          · have hs' : s = false := hs.trans (decide_eq_false h5)
            rw [if_neg h5, if_neg (by rw [hs']; simp)]
            have hr' := hr hs'
            have hw : wantB (getV 1 b % 16) (tailN (b.drop 20)) = decW b := rfl
            rw [hw] at hr'
            by_cases h6 : decW b < b.length
            · rw [if_pos h6, if_pos (by omega)]
            · rw [if_neg h6, if_neg (by omega)]
              rfl
      · rw [if_pos h3, body_bad h3]

theorem dec_inv {b : List Int} (hb : Bytes b) {m : Mg} (h : dec b = (m, 0)) :
    20 ≤ b.length ∧ getV 1 b / 16 = 1 ∧ Known (getV 1 b % 16) ∧ (getV 1 b % 16 = 11 → decN b ≤ 32) ∧ b.length = decW b ∧ checkV (decM b) = 0 ∧ m = decM b := by
  rw [dec_closed hb] at h
  unfold decC at h
  split at h
  · simp at h
  · split at h
    · simp at h
    · split at h
      · simp at h
      · split at h
        · simp at h
        · split at h
          · simp at h
          · split at h
            · simp at h
            · split at h
              · simp at h
              · rename_i h1 h2 h3 h4 h5 h6 h7
                injection h with h _
                refine ⟨by omega, Classical.not_not.1 h2, Classical.not_not.1 h3, fun h => ?_, by omega, Classical.not_not.1 h7, h.symm⟩
                rcases Int.lt_or_le 32 (decN b) with h8 | h8
                · exact absurd ⟨h, h8⟩ h4
                · exact h8
theorem dec_zeroM {b : List Int} {m : Mg} {x : Int} (hb : Bytes b) (h : dec b = (m, x)) (hx : x ≠ 0) : m = zeroM := by
  rw [dec_closed hb] at h
  unfold decC at h
  repeat' split at h
  all_goals (injection h with h1 h2; first | exact h1.symm | (exact absurd h2.symm hx))

set_option maxHeartbeats 2000000 in
theorem tail_back {b : List Int} (hb : Bytes b) (h1 : 20 ≤ b.length) (h3 : Known (getV 1 b % 16)) (h4 : getV 1 b % 16 = 11 → decN b ≤ 32) (h5 : b.length = decW b) : tailB (decM b) = b.drop 20 := by
  have hkk : (decM b).kind = getV 1 b % 16 := (tailM_same (headM_ b) (b.drop 20)).1
  have hb2 := hb.drop 20
  have hl : (b.drop 20).length + 20 = b.length := by rw [List.length_drop]; omega
  unfold tailB
  rw [hkk]
  unfold decW wantB at h5
  unfold Known at h3
  by_cases k1 : getV 1 b % 16 = 0 ∨ getV 1 b % 16 = 2
  · rw [if_pos k1] at h5
    rw [if_neg (by omega), if_neg (by omega), if_neg (by omega)]
    exact (List.drop_eq_nil_of_le (by omega)).symm
  · rw [if_neg k1] at h5
    by_cases k2 : getV 1 b % 16 = 3 ∨ getV 1 b % 16 = 10
    · rw [if_pos (by omega)] at h5
      rw [if_pos k2]
      have hm : decM b = (⟨(headM_ b).kind, (headM_ b).domain, (headM_ b).seq, (headM_ b).src, (headM_ b).port, (headM_ b).corr, getV 8 (b.drop 20), getV 6 ((b.drop 20).drop 8), getV 2 ((b.drop 20).drop 14), (headM_ b).rate, (headM_ b).one, (headM_ b).cls, (headM_ b).two, (headM_ b).id, (headM_ b).steps, (headM_ b).path⟩ : Mg) := by
        unfold decM tailM
        rw [if_neg (show ¬ ((headM_ b).kind = 0 ∨ (headM_ b).kind = 2) from k1), if_pos (show (headM_ b).kind = 3 ∨ (headM_ b).kind = 10 from k2)]
      rw [hm]
      simp only
      clear hm
      generalize b.drop 20 = r at *
      have e1 := get_back (n := 8) (by omega) hb2 (by omega)
      have e2 := get_back (n := 6) (by omega) (hb2.drop 8) (by rw [List.length_drop]; omega)
      have e3 := get_back (n := 2) (by omega) (hb2.drop 14) (by rw [List.length_drop]; omega)
      have e4 : r.drop 16 = [] := List.drop_eq_nil_of_le (by omega)
      rw [List.drop_drop (i := 6)] at e2
      rw [List.drop_drop (i := 2), e4, List.append_nil] at e3
      rw [List.append_assoc, e3, e2, e1]
    · by_cases k3 : getV 1 b % 16 = 8
      · rw [if_pos (by omega)] at h5
        rw [if_neg k2, if_pos k3]
        have hm : decM b = { headM_ b with time := getV 8 (b.drop 20), rate := getV 8 ((b.drop 20).drop 8) } := by
          unfold decM tailM
          rw [if_neg (show ¬ ((headM_ b).kind = 0 ∨ (headM_ b).kind = 2) from k1), if_neg (show ¬ ((headM_ b).kind = 3 ∨ (headM_ b).kind = 10) from k2), if_pos (show (headM_ b).kind = 8 from k3)]
        rw [hm]
        simp only
        clear hm
        generalize b.drop 20 = r at *
        have e1 := get_back (n := 8) (by omega) hb2 (by omega)
        have e2 := get_back (n := 8) (by omega) (hb2.drop 8) (by rw [List.length_drop]; omega)
        have e4 : r.drop 16 = [] := List.drop_eq_nil_of_le (by omega)
        rw [List.drop_drop (i := 8), e4, List.append_nil] at e2
        rw [e2, e1]
      · have k4 : getV 1 b % 16 = 11 := by omega
        rw [if_neg (by omega)] at h5
        rw [if_neg k2, if_neg k3, if_pos k4]
        have hN := tailN_nn hb2
        have hN2 := h4 k4
        have hq : decN b = tailN (b.drop 20) := rfl
        rw [hq] at h5 hN2
        have hlen : 11 + 6 * (tailN (b.drop 20)).toNat = (b.drop 20).length := by omega
        have hm : decM b = { headM_ b with one := getV 1 (b.drop 20), cls := getV 1 ((b.drop 20).drop 1), two := getV 1 ((b.drop 20).drop 2), id := getV 6 ((b.drop 20).drop 3), steps := getV 1 ((b.drop 20).drop 9), path := (pathG (tailN (b.drop 20)).toNat ((b.drop 20).drop 11)).1 } := by
          unfold decM tailM
          rw [if_neg (show ¬ ((headM_ b).kind = 0 ∨ (headM_ b).kind = 2) from k1), if_neg (show ¬ ((headM_ b).kind = 3 ∨ (headM_ b).kind = 10) from k2), if_neg (show ¬ (headM_ b).kind = 8 from k3), if_neg (by omega)]
          rfl
        rw [hm]
        simp only
        clear hm
        generalize b.drop 20 = r at *
        have hp := pathG_right (tailN r).toNat (r.drop 11) (by rw [List.length_drop]; omega) (hb2.drop 11)
        have e0 : (r.drop 11).drop (6 * (tailN r).toNat) = [] := List.drop_eq_nil_of_le (by rw [List.length_drop]; omega)
        rw [e0, List.append_nil] at hp
        rw [hp.2.2, hp.2.1]
        have e1 := get_back (n := 1) (by omega) hb2 (by omega)
        have e2 := get_back (n := 1) (by omega) (hb2.drop 1) (by rw [List.length_drop]; omega)
        have e3 := get_back (n := 1) (by omega) (hb2.drop 2) (by rw [List.length_drop]; omega)
        have e4 := get_back (n := 6) (by omega) (hb2.drop 3) (by rw [List.length_drop]; omega)
        have e5 := get_back (n := 1) (by omega) (hb2.drop 9) (by rw [List.length_drop]; omega)
        have e6 := get_back (n := 1) (by omega) (hb2.drop 10) (by rw [List.length_drop]; omega)
        rw [List.drop_drop (i := 1)] at e2 e3 e5 e6
        rw [List.drop_drop (i := 6)] at e4
        simp only [Nat.reduceAdd, be_one] at e1 e2 e3 e4 e5 e6
        have e7 : ((tailN r).toNat : Int) % 256 = getV 1 (r.drop 10) % 256 := by
          rw [Int.toNat_of_nonneg hN.1]; rfl
        rw [e7]
        simp only [List.append_assoc, List.cons_append, List.nil_append] at *
        rw [e6, e5, e4, e3, e2, e1]
theorem headM_wf (b : List Int) : I64 (headM_ b).corr ∧ (headM_ b).time = 0 ∧ (headM_ b).rate = 0 := by
  unfold headM_
  simp only [and_true]
  exact getV_i64 _ _
/-- What was taken for a message are that message's bytes. -/
theorem dec_enc {b : List Int} (hb : Bytes b) {m : Mg} (h : dec b = (m, 0)) : encB m = b ∧ m.Right ∧ m.Wf := by
  obtain ⟨h1, h2, h3, h4, h5, h6, rfl⟩ := dec_inv hb h
  have hs := tailM_same (headM_ b) (b.drop 20)
  have hh := head_back hb h1 h2 (m := decM b) hs.1 hs.2.1 hs.2.2.1 hs.2.2.2.1 hs.2.2.2.2.1 hs.2.2.2.2.2
  refine ⟨?_, check_zero.1 h6, ?_⟩
  · unfold encB
    rw [tail_back hb h1 h3 h4 h5]
    exact hh
  · have z : I64 0 := by unfold I64; omega
    have hc := headM_wf b
    unfold Mg.Wf decM tailM
    generalize headM_ b = h at *
    split
    · rw [hc.2.1, hc.2.2]
      exact ⟨hc.1, z, z⟩
    · split
      · simp only
        rw [hc.2.2]
        exact ⟨hc.1, getV_i64 _ _, z⟩
      · split
        · simp only
          exact ⟨hc.1, getV_i64 _ _, getV_i64 _ _⟩
        · simp only
          rw [hc.2.1, hc.2.2]
          exact ⟨hc.1, z, z⟩
theorem wantB_len {m : Mg} (h : m.Right) : (encB m).length = wantB m.kind m.path.length := by
  unfold encB wantB
  rw [List.length_append, headB_length, tailB_length]
  have hk := h.known
  unfold Known at hk
  repeat' split
  all_goals omega
theorem encB_length_le {m : Mg} (h : m.Right) : (encB m).length ≤ 300 := by
  have h1 := tailB_length m
  have h2 := h.few
  unfold encB
  rw [List.length_append, headB_length, h1]
  (repeat' split) <;> omega

/-- The first bytes of what begins with a message's. -/
theorem get_kind {m : Mg} (h : m.Right) (y : List Int) : getV 1 (encB m ++ y) = 16 + m.kind := by
  have hk := h.known
  unfold Known at hk
  have e : encB m ++ y = be (16 + m.kind) 1 ++ ((headB m).drop 1 ++ (tailB m ++ y)) := by
    unfold encB headB
    rw [be_one]
    simp
  rw [e, getV_be (by omega) (by omega)]
theorem encB_form (m : Mg) (y : List Int) : encB m ++ y = be (16 + m.kind) 1 ++ (be m.domain 1 ++ (be m.seq 2 ++ (be m.src 6 ++ (be m.port 2 ++ (be m.corr 8 ++ (tailB m ++ y)))))) := by
  unfold encB headB
  rw [be_one, be_one]
  simp
theorem headM_of {m : Mg} (h : m.Right) (hw : m.Wf) (y : List Int) : headM_ (encB m ++ y) = ⟨m.kind, m.domain, m.seq, m.src, m.port, m.corr, 0, 0, 0, 0, 0, 0, 0, 0, 0, []⟩ := by
  obtain ⟨⟨r1, r2, r3⟩, _, _⟩ := h.range
  have hk := h.known
  unfold Known at hk
  have a1 := ok1 r1
  have a2 := okN_mem r2
  have a3 := okN_mem r3
  simp only [List.mem_cons, List.not_mem_nil, or_false, forall_eq_or_imp, forall_eq] at a2 a3
  unfold ids at a3
  rw [encB_form]
  unfold headM_
  simp only [getR_be]
  rw [getV_be (n := 1) (by omega) (by omega), getV_be (n := 1) (by omega) (by omega), getV_be (n := 2) (by omega) (by omega), getV_be (n := 6) (by omega) (by omega), getV_be (n := 2) (by omega) (by omega), getV_be8 hw.1, show (16 + m.kind) % 16 = m.kind from by omega]
theorem tail_drop (m : Mg) (y : List Int) : (encB m ++ y).drop 20 = tailB m ++ y := by
  unfold encB
  rw [List.append_assoc, List.drop_left' (headB_length m)]
theorem path_back : ∀ (p : List Int), okN ids p = true → (pathG p.length (p.flatMap fun x => be x 6)).1 = p
  | [], _ => rfl
  | x :: xs, h => by
    rw [okN_cons, Bool.and_eq_true] at h
    have x0 := of_decide_eq_true h.1
    unfold ids at x0
    rw [List.length_cons, pathG, if_pos (by rw [List.flatMap_cons, List.length_append, be_length]; omega)]
    simp only
    rw [List.flatMap_cons, List.take_left' (be_length 6 x), List.drop_left' (be_length 6 x), path_back xs h.2, num_is (by omega) (by omega)]
theorem decN_of {m : Mg} (h : m.Right) (hk : m.kind = 11) (y : List Int) : decN (encB m ++ y) = m.path.length := by
  have hf := h.few
  unfold decN tailN
  rw [tail_drop]
  have e : tailB m ++ y = (be m.one 1 ++ be m.cls 1 ++ be m.two 1 ++ be m.id 6 ++ be m.steps 1) ++ (be (m.path.length : Int) 1 ++ (m.path.flatMap (fun x => be x 6) ++ y)) := by
    unfold tailB
    rw [if_neg (by omega), if_neg (by omega), if_pos hk]
    simp [be_one]
  rw [e, List.drop_left' (by simp [be_length]), getV_be (by omega) (by omega)]
theorem decM_of {m : Mg} (h : m.Right) (hw : m.Wf) : decM (encB m) = m := by
  have e0 : encB m = encB m ++ [] := by simp
  unfold decM
  rw [e0, headM_of h hw, tail_drop, List.append_nil]
  have hk := h.known
  have ha := h.apt
  have hb := h.bare
  have hi := h.ids
  have hf := h.few
  obtain ⟨⟨r1, r2, r3⟩, r4, r5⟩ := h.range
  have a2 := okN_mem r2
  have a3 := okN_mem r3
  have a4 := okN_mem r4
  have a5 := ok1 r5
  simp only [List.mem_cons, List.not_mem_nil, or_false, forall_eq_or_imp, forall_eq] at a2 a3 a4
  unfold ids at a3 a5
  unfold Known at hk
  unfold Mg.apt at ha
  unfold Mg.bare at hb
  obtain ⟨_, w1, w2⟩ := hw
  unfold tailM tailB
  obtain ⟨kind, domain, seq, src, port, corr, time, too, toPort, rate, one, cls, two, id, steps, path⟩ := m
  simp only at *
  rcases hk with rfl | rfl | rfl | rfl | rfl | rfl
  · simp_all
  · simp_all
  · simp only [true_or, if_true, Int.reduceEq, or_false, if_false, false_or]
    have e1 := getV_be8 (r := be too 6 ++ be toPort 2) w1
    have e2 := getV_be (n := 6) (x := too) (r := be toPort 2) (by omega) (by omega)
    have e3 := getV_be (n := 2) (x := toPort) (r := []) (by omega) (by omega)
    rw [List.append_nil] at e3
    rw [List.append_assoc, e1, List.drop_left' (be_length 8 time), e2, ← List.append_assoc, List.drop_left' (by simp [be_length]), e3]
    simp_all
  · simp only [true_or, if_true, Int.reduceEq, or_false, if_false, false_or]
    have e1 := getV_be8 (r := be rate 8) w1
    have e2 := getV_be8 (r := []) w2
    rw [List.append_nil] at e2
    rw [e1, List.drop_left' (be_length 8 time), e2]
    simp_all
  · simp only [or_true, if_true, Int.reduceEq, or_false, if_false, false_or]
    have e1 := getV_be8 (r := be too 6 ++ be toPort 2) w1
    have e2 := getV_be (n := 6) (x := too) (r := be toPort 2) (by omega) (by omega)
    have e3 := getV_be (n := 2) (x := toPort) (r := []) (by omega) (by omega)
    rw [List.append_nil] at e3
    rw [List.append_assoc, e1, List.drop_left' (be_length 8 time), e2, ← List.append_assoc, List.drop_left' (by simp [be_length]), e3]
    simp_all
  · simp only [if_true, Int.reduceEq, or_false, if_false, false_or]
    have e : [one % 256, cls % 256, two % 256] ++ be id 6 ++ [steps % 256, (path.length : Int) % 256] ++ (path.flatMap fun x => be x 6) = be one 1 ++ (be cls 1 ++ (be two 1 ++ (be id 6 ++ (be steps 1 ++ (be (path.length : Int) 1 ++ path.flatMap fun x => be x 6))))) := by
      simp [be_one]
    rw [e]
    have d : ∀ (x : Int) (n k : Nat) (r : List Int), n ≤ k → (be x n ++ r).drop k = r.drop (k - n) := fun x n k r h => by
      rw [show k = n + (k - n) from by omega, ← List.drop_drop, List.drop_left' (be_length n x)]
      congr 1
      omega
    have dz : ∀ r : List Int, r.drop 0 = r := fun r => List.drop_zero
    have e1 := path_back path hi
    rw [getV_be (n := 1) (by omega) (by omega), d _ 1 1 _ (by omega), dz, getV_be (n := 1) (by omega) (by omega), d _ 1 2 _ (by omega), d _ 1 _ _ (by omega), dz, getV_be (n := 1) (by omega) (by omega),
      d _ 1 3 _ (by omega), d _ 1 _ _ (by omega), d _ 1 _ _ (by omega), dz, getV_be (n := 6) (by omega) (by omega),
      d _ 1 9 _ (by omega), d _ 1 _ _ (by omega), d _ 1 _ _ (by omega), d _ 6 _ _ (by omega), dz, getV_be (n := 1) (by omega) (by omega),
      d _ 1 10 _ (by omega), d _ 1 _ _ (by omega), d _ 1 _ _ (by omega), d _ 6 _ _ (by omega), d _ 1 _ _ (by omega), dz, getV_be (n := 1) (by omega) (by omega),
      d _ 1 11 _ (by omega), d _ 1 _ _ (by omega), d _ 1 _ _ (by omega), d _ 6 _ _ (by omega), d _ 1 _ _ (by omega), d _ 1 _ _ (by omega), dz, Int.toNat_natCast, e1, if_neg (by simp [be_length]; omega)]
    simp_all

theorem decW_of {m : Mg} (h : m.Right) (y : List Int) : getV 1 (encB m ++ y) / 16 = 1 ∧ getV 1 (encB m ++ y) % 16 = m.kind ∧ (m.kind = 11 → decN (encB m ++ y) = m.path.length) ∧ decW (encB m ++ y) = (encB m).length := by
  have hk := h.known
  have e := get_kind h y
  have hw := wantB_len h
  refine ⟨by rw [e]; unfold Known at hk; omega, by rw [e]; unfold Known at hk; omega, fun h11 => decN_of h h11 y, ?_⟩
  rw [hw]
  unfold decW
  rw [e, show (16 + m.kind) % 16 = m.kind from by unfold Known at hk; omega]
  by_cases h11 : m.kind = 11
  · rw [decN_of h h11 y]
  · unfold wantB
    unfold Known at hk
    repeat' split
    all_goals omega
/-- A right message's bytes are it. -/
theorem dec_encB {m : Mg} (h : m.Right) (hw : m.Wf) : dec (encB m) = (m, 0) := by
  rw [dec_closed encB_bytes]
  have e0 : encB m = encB m ++ [] := by simp
  obtain ⟨h1, h2, h3, h4⟩ := decW_of h []
  rw [← e0] at h1 h2 h3 h4
  have h20 : 20 ≤ (encB m).length := by unfold encB; rw [List.length_append, headB_length]; omega
  have hf := h.few
  unfold decC
  rw [if_neg (by omega), if_neg (by omega), if_neg (by rw [h2]; exact fun hn => hn h.known), if_neg (fun hn => by have := h3 (by omega); omega), if_neg (by omega), if_neg (by omega), decM_of h hw, if_neg (by rw [check_zero.2 h]; simp)]
/-- With one more they are none. -/
theorem dec_more {m : Mg} (h : m.Right) (x : Int) (hx : 0 ≤ x ∧ x < 256) : dec (encB m ++ [x]) = (zeroM, 24) := by
  rw [dec_closed (encB_bytes.append (fun z hz => by simp at hz; subst hz; exact hx))]
  obtain ⟨h1, h2, h3, h4⟩ := decW_of h [x]
  have h20 : 20 ≤ (encB m).length := by unfold encB; rw [List.length_append, headB_length]; omega
  have hf := h.few
  have hl : (encB m ++ [x]).length = (encB m).length + 1 := by simp
  unfold decC
  rw [if_neg (by omega), if_neg (by omega), if_neg (by rw [h2]; exact fun hn => hn h.known), if_neg (fun hn => by have := h3 (by omega); omega), if_neg (by omega), if_pos (by omega)]
theorem getV_take {n k : Nat} {r : List Int} (h : n ≤ k) (hl : n ≤ r.length) : getV n (r.take k) = getV n r := by
  unfold getV
  rw [if_pos (by rw [List.length_take]; omega), if_pos hl, List.take_take, Nat.min_eq_left h]
/-- Cut off they are none. -/
theorem dec_less {m : Mg} (h : m.Right) {k : Nat} (hk : k < (encB m).length) : dec ((encB m).take k) = (zeroM, 20) := by
  rw [dec_closed (encB_bytes.take k)]
  have hl : ((encB m).take k).length = k := by rw [List.length_take]; omega
  unfold decC
  by_cases h20 : k < 20
  · rw [if_pos (by omega)]
  · have e0 : encB m = encB m ++ [] := by simp
    obtain ⟨h1, h2, h3, h4⟩ := decW_of h []
    rw [← e0] at h1 h2 h3 h4
    have g1 : getV 1 ((encB m).take k) = getV 1 (encB m) := getV_take (by omega) (by omega)
    have hf := h.few
    have hK := h.known
    have key : (m.kind = 11 → decN ((encB m).take k) ≤ 32) ∧ k < decW ((encB m).take k) := by
      have hw := wantB_len h
      by_cases h11 : m.kind = 11
      · have h3' := h3 h11
        unfold wantB at hw
        rw [if_neg (by omega), if_neg (by omega)] at hw
        by_cases h31 : k < 31
        · have hn : decN ((encB m).take k) = 0 := by
            unfold decN tailN
            rw [List.drop_drop, List.drop_eq_nil_of_le (by omega)]
            rfl
          refine ⟨fun _ => by omega, ?_⟩
          unfold decW wantB
          rw [hn, g1, h2, if_neg (by omega), if_neg (by omega)]
          omega
        · have hn : decN ((encB m).take k) = decN (encB m) := by
            unfold decN tailN
            rw [List.drop_drop, List.drop_drop, List.drop_take, getV_take (by omega) (by rw [List.length_drop]; omega)]
          refine ⟨fun _ => by omega, ?_⟩
          unfold decW wantB
          rw [hn, g1, h2, if_neg (by omega), if_neg (by omega)]
          omega
      · refine ⟨fun h => absurd h h11, ?_⟩
        unfold decW wantB
        unfold wantB at hw
        rw [g1, h2]
        unfold Known at hK
        repeat' split
        all_goals (repeat' split at hw)
        all_goals omega
    rw [if_neg (by omega), if_neg (by rw [g1]; omega), if_neg (by rw [g1, h2]; exact fun hn => hn hK), if_neg (fun hn => by have := key.1 (by rw [← h2, ← g1]; exact hn.1); omega), if_pos (by omega)]
end Go.Proofs.Ytlhaloabophliaa
