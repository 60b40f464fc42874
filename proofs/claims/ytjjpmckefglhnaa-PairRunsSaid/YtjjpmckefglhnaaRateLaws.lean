/-
  Layer 2's laws on rates, in plain Lean: of a clock that came further the rate is the greater; turned round twice it is what it was, but for one part. No program in sight.
-/
import Derived.Test.YtjjpmckefglhnaaRatePlain
namespace Go.Proofs.Ytjjpmckefglhnaa
open Go.RowKit

theorem mul_ge {b K y : Int} (hb : 0 ≤ b) (h : K ≤ y) : b * K ≤ b * y := Int.mul_le_mul_of_nonneg_left h hb
def Rg (y : Int) : Prop := 2181843386368 ≤ y ∧ y ≤ 2216203124736
theorem near_range {a b y : Int} (h : Nr (a * 2199023255552) b y) (hb : 999488 ≤ b) (h1 : a ≤ b + 800) (h2 : b ≤ a + 800) : Rg y := by
  obtain ⟨h0, h3, h4⟩ := h
  constructor
  · rcases Int.lt_or_le y 2181843386368 with hy | hy
    · have := mul_ge (b := b) (by omega) (show y ≤ 2181843386367 by omega)
      omega
    · exact hy
  · rcases Int.lt_or_le 2216203124736 y with hy | hy
    · have := mul_ge (b := b) (by omega) (show 2216203124737 ≤ y by omega)
      omega
    · exact hy
theorem near_less {a b y : Int} (h : Nr (a * 2199023255552) b y) (hb : 999488 ≤ b) (hb2 : b < 8589934592) : y < 2199023255552 ↔ a < b := by
  obtain ⟨h0, h3, h4⟩ := h
  constructor
  · intro hy
    rcases Int.lt_or_le a b with h | h
    · exact h
    · have := mul_ge (b := b) (by omega) (show y ≤ 2199023255551 by omega)
      omega
  · intro hab
    rcases Int.lt_or_le y 2199023255552 with h | h
    · exact h
    · have := mul_ge (b := b) (by omega) h
      omega
theorem near_mono {a b m y z : Int} (h : Nr (a * 2199023255552) b y) (h' : Nr ((a + m) * 2199023255552) b z) (hm : 0 < m) (hb : 0 < b) (hb2 : b < 8589934592) : y ≤ z := by
  obtain ⟨h0, h3, h4⟩ := h
  obtain ⟨h5, h6, h7⟩ := h'
  rcases Int.lt_or_le z y with h | h
  · have := mul_ge (b := b) (by omega) (show z + 1 ≤ y by omega)
    rw [Int.mul_add] at this
    omega
  · exact h
theorem turn_id (a b w y v : Int) : a * w * (y - v) = 2199023255552 * (b * y - a * 2199023255552) + (a * w - b * 2199023255552) * y - a * (w * v - 2199023255552 * 2199023255552) := by grind
theorem near_back {a b y w v : Int} (h1 : Nr (a * 2199023255552) b y) (h2 : Nr (b * 2199023255552) a w) (h3 : Nr (2199023255552 * 2199023255552) w v) (ry : Rg y) (rw_ : Rg w) (ha : 0 < a) : -2 ≤ y - v ∧ y - v ≤ 2 := by
  have id := turn_id a b w y v
  obtain ⟨_, a1, a2⟩ := h1
  obtain ⟨_, b1, b2⟩ := h2
  obtain ⟨_, c1, c2⟩ := h3
  obtain ⟨y1, y2⟩ := ry
  obtain ⟨w1, w2⟩ := rw_
  have t1 := mul_ge (b := a) (by omega) w1
  have t2 := mul_ge (b := a) (by omega) y2
  have p1 := Int.mul_le_mul_of_nonneg_right b2 (show 0 ≤ y by omega)
  have p2 := Int.mul_le_mul_of_nonneg_right b1 (show 0 ≤ y by omega)
  have q1 := mul_ge (b := a) (by omega) c1
  have q2 := mul_ge (b := a) (by omega) c2
  generalize hE2 : a * w - b * 2199023255552 = E2 at *
  generalize hE3 : w * v - 2199023255552 * 2199023255552 = E3 at *
  generalize hE1 : b * y - a * 2199023255552 = E1 at *
  have hT : 0 ≤ a * w := Int.mul_nonneg (by omega) (by omega)
  have r1 : 2 * E2 * y = 2 * (E2 * y) := Int.mul_assoc _ _ _
  have r2 : a * (2 * E3) = 2 * (a * E3) := by rw [Int.mul_left_comm]
  have r3 : a * -w = -(a * w) := Int.mul_neg a w
  have r4 : -a * y = -(a * y) := Int.neg_mul a y
  rw [r1] at p1 p2
  rw [r2] at q1 q2
  rw [r3] at q1
  rw [r4] at p2
  constructor
  · rcases Int.lt_or_le (y - v) (-2) with h | h
    · have := mul_ge (b := a * w) hT (show y - v ≤ -3 by omega)
      omega
    · exact h
  · rcases Int.lt_or_le 2 (y - v) with h | h
    · have := mul_ge (b := a * w) hT (show 3 ≤ y - v by omega)
      omega
    · exact h
end Go.Proofs.Ytjjpmckefglhnaa
