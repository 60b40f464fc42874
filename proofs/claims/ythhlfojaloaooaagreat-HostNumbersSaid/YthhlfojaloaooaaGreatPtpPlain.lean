/-
  Layer 6 in plain Lean: what is wrong with a message, a number's bytes, a message's bytes; and that unlike messages have unlike bytes. No program in sight.
-/
import Derived.Test.YthhlfojaloaooaaGreatKit
namespace Go.Proofs.YthhlfojaloaooaaGreat

structure Mg where
  kind : Int
  domain : Int
  seq : Int
  src : Int
  port : Int
  corr : Int
  time : Int
  to : Int
  toPort : Int
  rate : Int
  one : Int
  cls : Int
  two : Int
  id : Int
  steps : Int
  path : List Int

def ids : Int := 281474976710655
def okN (most : Int) (xs : List Int) : Bool := xs.all fun x => decide (0 ≤ x) && decide (x ≤ most)
theorem okN_cons (most x : Int) (xs : List Int) : okN most (x :: xs) = (decide (0 ≤ x ∧ x ≤ most) && okN most xs) := by simp [okN, Bool.decide_and]
theorem okN_nil (most : Int) : okN most [] = true := rfl
theorem okN_mem {most : Int} {xs : List Int} (h : okN most xs = true) : ∀ x ∈ xs, 0 ≤ x ∧ x ≤ most := by
  intro x hx
  have := List.all_eq_true.1 h x hx
  simpa using this
def Known (k : Int) : Prop := k = 0 ∨ k = 2 ∨ k = 3 ∨ k = 8 ∨ k = 10 ∨ k = 11
instance (k : Int) : Decidable (Known k) := by unfold Known; exact inferInstance
/-- The numbers that have a bound, kind by kind of bound. -/
def Mg.inRange (m : Mg) : Prop := (okN 127 [m.domain] = true ∧ okN 65535 [m.seq, m.port, m.toPort] = true ∧ okN ids [m.src, m.to] = true) ∧ okN 255 [m.one, m.cls, m.two, m.steps] = true ∧ okN ids [m.id] = true
def Mg.apt (m : Mg) : Prop := (m.kind ≠ 3 → m.kind ≠ 10 → m.to = 0 ∧ m.toPort = 0 ∧ (m.kind ≠ 8 → m.time = 0)) ∧ (m.kind ≠ 8 → m.rate = 0)
def Mg.bare (m : Mg) : Prop := m.kind ≠ 11 → m.one = 0 ∧ m.cls = 0 ∧ m.two = 0 ∧ m.id = 0 ∧ m.steps = 0 ∧ m.path.length = 0
open Classical in
noncomputable def checkV (m : Mg) : Int :=
  if ¬ Known m.kind then 23 else if ¬ m.inRange then 1 else if ¬ m.apt then 1 else if ¬ m.bare then 1 else if 32 < m.path.length then 4 else if okN ids m.path = false then 1 else 0

theorem check_unknown {m : Mg} (h : ¬ Known m.kind) : checkV m = 23 := by unfold checkV; rw [if_pos h]
theorem check_range {m : Mg} (h : Known m.kind) (h1 : ¬ m.inRange) : checkV m = 1 := by unfold checkV; rw [if_neg (not_not_intro h), if_pos h1]
theorem check_apt {m : Mg} (h : Known m.kind) (h1 : ¬ m.apt) : checkV m = 1 := by
  unfold checkV; rw [if_neg (not_not_intro h)]; split <;> first | rfl | rw [if_pos h1]
theorem check_bare {m : Mg} (h : Known m.kind) (h1 : ¬ m.bare) : checkV m = 1 := by
  unfold checkV; rw [if_neg (not_not_intro h)]; split; rfl; split <;> first | rfl | rw [if_pos h1]
theorem check_many {m : Mg} (h : Known m.kind) (h1 : m.inRange) (h2 : m.apt) (h3 : m.bare) (h4 : 32 < m.path.length) : checkV m = 4 := by
  unfold checkV; rw [if_neg (not_not_intro h), if_neg (not_not_intro h1), if_neg (not_not_intro h2), if_neg (not_not_intro h3), if_pos h4]
theorem check_last {m : Mg} (h : Known m.kind) (h1 : m.inRange) (h2 : m.apt) (h3 : m.bare) (h4 : m.path.length ≤ 32) : checkV m = if okN ids m.path = true then 0 else 1 := by
  unfold checkV; rw [if_neg (not_not_intro h), if_neg (not_not_intro h1), if_neg (not_not_intro h2), if_neg (not_not_intro h3), if_neg (by omega)]
  by_cases h5 : okN ids m.path = true
  · rw [if_pos h5, if_neg (by rw [h5]; simp)]
  · rw [if_neg h5, if_pos (by simpa using h5)]
/-- A right message. -/
structure Mg.Right (m : Mg) : Prop where
  known : Known m.kind
  range : m.inRange
  apt : m.apt
  bare : m.bare
  few : m.path.length ≤ 32
  ids : okN ids m.path = true
theorem check_zero {m : Mg} : checkV m = 0 ↔ m.Right := by
  constructor
  · intro h
    unfold checkV at h
    split at h; cases h; split at h; cases h; split at h; cases h; split at h; cases h; split at h; cases h; split at h; cases h
    rename_i h1 h2 h3 h4 h5 h6
    exact ⟨Classical.not_not.1 h1, Classical.not_not.1 h2, Classical.not_not.1 h3, Classical.not_not.1 h4, by omega, by simpa using h6⟩
  · intro ⟨h1, h2, h3, h4, h5, h6⟩
    rw [check_last h1 h2 h3 h4 h5, if_pos h6]
theorem check_23 {m : Mg} : checkV m = 23 ↔ ¬ Known m.kind := by
  constructor
  · intro h hk
    unfold checkV at h
    rw [if_neg (not_not_intro hk)] at h
    repeat' split at h
    all_goals cases h
  · exact check_unknown

/-- A number of n bytes, the highest first. -/
def be : Int → Nat → List Int
  | _, 0 => []
  | x, n + 1 => be (x / 256) n ++ [x % 256]
theorem be_length : ∀ (n : Nat) (x : Int), (be x n).length = n
  | 0, _ => rfl
  | n + 1, x => by rw [be, List.length_append, be_length n]; rfl
theorem be_byte : ∀ (n : Nat) (x : Int), ∀ b ∈ be x n, 0 ≤ b ∧ b < 256
  | 0, _, b, h => by cases h
  | n + 1, x, b, h => by
    rw [be] at h
    rcases List.mem_append.1 h with h | h
    · exact be_byte n _ b h
    · simp at h; subst h; omega
theorem be_inj : ∀ (n : Nat) (x y : Int), be x n = be y n → x % 256 ^ n = y % 256 ^ n
  | 0, x, y, _ => by simp
  | n + 1, x, y, h => by
    rw [be, be] at h
    obtain ⟨h1, h2⟩ := List.append_inj h (by rw [be_length, be_length])
    have ih := be_inj n _ _ h1
    simp only [List.cons.injEq, and_true] at h2
    have e : ∀ z : Int, z % 256 ^ (n + 1) = 256 * ((z / 256) % 256 ^ n) + z % 256 := by
      intro z
      have hp : (0 : Int) < 256 ^ n := Int.pow_pos (by omega)
      have a1 := Int.mul_ediv_add_emod z 256
      have a2 := Int.mul_ediv_add_emod (z / 256) (256 ^ n)
      have a3 := Int.emod_nonneg (z / 256) (Int.ne_of_gt hp)
      have a4 := Int.emod_lt_of_pos (z / 256) hp
      have a5 := Int.emod_nonneg z (show (256 : Int) ≠ 0 by omega)
      have a6 := Int.emod_lt_of_pos z (show (0 : Int) < 256 by omega)
      generalize hq : z / 256 / 256 ^ n = q at *
      generalize hr : z / 256 % 256 ^ n = r at *
      generalize z % 256 = s at *
      have hz : z = 256 ^ (n + 1) * q + (256 * r + s) := by
        rw [Int.pow_succ, Int.mul_comm (256 ^ n) 256, Int.mul_assoc]
        omega
      rw [hz, Int.mul_add_emod_self_left, Int.emod_eq_of_lt (by omega)]
      rw [Int.pow_succ]
      omega
    rw [e, e, ih, h2]
theorem be_small {n : Nat} {x y : Int} (h : be x n = be y n) (hx : 0 ≤ x ∧ x < 256 ^ n) (hy : 0 ≤ y ∧ y < 256 ^ n) : x = y := by
  have := be_inj n x y h
  rwa [Int.emod_eq_of_lt hx.1 hx.2, Int.emod_eq_of_lt hy.1 hy.2] at this
theorem be_i64 {x y : Int} (h : be x 8 = be y 8) (hx : -9223372036854775808 ≤ x ∧ x ≤ 9223372036854775807) (hy : -9223372036854775808 ≤ y ∧ y ≤ 9223372036854775807) : x = y := by
  have := be_inj 8 x y h
  rw [show (256 : Int) ^ 8 = 18446744073709551616 from by decide] at this
  omega

/-- A message's bytes. -/
def tailB (m : Mg) : List Int :=
  if m.kind = 3 ∨ m.kind = 10 then be m.time 8 ++ be m.to 6 ++ be m.toPort 2
  else if m.kind = 8 then be m.time 8 ++ be m.rate 8
  else if m.kind = 11 then [m.one % 256, m.cls % 256, m.two % 256] ++ be m.id 6 ++ [m.steps % 256, (m.path.length : Int) % 256] ++ m.path.flatMap fun x => be x 6
  else []
def headB (m : Mg) : List Int := [(16 + m.kind) % 256, m.domain % 256] ++ be m.seq 2 ++ be m.src 6 ++ be m.port 2 ++ be m.corr 8
def encB (m : Mg) : List Int := headB m ++ tailB m
theorem headB_length (m : Mg) : (headB m).length = 20 := by simp [headB, be_length]
theorem flatMap_be_length (xs : List Int) : (xs.flatMap fun x => be x 6).length = 6 * xs.length := by
  induction xs with
  | nil => rfl
  | cons x xs ih => rw [List.flatMap_cons, List.length_append, ih, be_length, List.length_cons]; omega
theorem tailB_length (m : Mg) : (tailB m).length = if m.kind = 3 ∨ m.kind = 10 ∨ m.kind = 8 then 16 else if m.kind = 11 then 11 + 6 * m.path.length else 0 := by
  unfold tailB
  by_cases h1 : m.kind = 3 ∨ m.kind = 10
  · have hA : m.kind = 3 ∨ m.kind = 10 ∨ m.kind = 8 := by omega
    rw [if_pos h1, if_pos hA]; simp [be_length]
  · by_cases h2 : m.kind = 8
    · have hA : m.kind = 3 ∨ m.kind = 10 ∨ m.kind = 8 := by omega
      rw [if_neg h1, if_pos h2, if_pos hA]; simp [be_length]
    · have hA : ¬ (m.kind = 3 ∨ m.kind = 10 ∨ m.kind = 8) := by omega
      rw [if_neg h1, if_neg h2, if_neg hA]
      by_cases h3 : m.kind = 11
      · rw [if_pos h3, if_pos h3]; simp only [List.length_append, be_length, flatMap_be_length, List.length_cons, List.length_nil]
      · rw [if_neg h3, if_neg h3]; rfl
end Go.Proofs.YthhlfojaloaooaaGreat
