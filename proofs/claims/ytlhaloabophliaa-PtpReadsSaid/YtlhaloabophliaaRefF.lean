/-
  Layer 6's reference: Decode, in plain Lean: fields one behind the other give the message of the closed form.
-/
import Derived.Test.YtlhaloabophliaaRefD
import Derived.Test.YtlhaloabophliaaPtpLaws
namespace Go.Proofs.Ytlhaloabophliaa
set_option linter.unusedSimpArgs false
set_option linter.unusedVariables false
open Go.RowKit Go.WideShapes Go.ChangeShapes

def upd (N : Nat → Int) (x : Nat) (v : Int) : Nat → Int := fun j => if j = x then v else N j
def mgN (N : Nat → Int) (p : List Int) : Mg := ⟨N 0, N 1, N 2, N 3, N 4, N 5, N 6, N 7, N 8, N 9, N 10, N 11, N 12, N 13, N 14, p⟩
theorem mgN_set (N : Nat → Int) (p : List Int) (A : Option Addr) (n c : Nat) (v : Int) {x : Nat} (hx : x < 15) : (mcells (mgN N p) A n c).setIfInBounds x (.int .i64 v) = mcells (mgN (upd N x v) p) A n c := by
  match x, hx with
  | 0, _ => rfl
  | 1, _ => rfl
  | 2, _ => rfl
  | 3, _ => rfl
  | 4, _ => rfl
  | 5, _ => rfl
  | 6, _ => rfl
  | 7, _ => rfl
  | 8, _ => rfl
  | 9, _ => rfl
  | 10, _ => rfl
  | 11, _ => rfl
  | 12, _ => rfl
  | 13, _ => rfl
  | 14, _ => rfl
/-- The fields read one behind the other: where it ended, the numbers, were there too few bytes. -/
def fdec (b : List Int) : List (Int × Int) → Nat → (Nat → Int) → Nat × (Nat → Int) × Bool
  | [], q, N => (q, N, false)
  | f :: fs, q, N => if b.length < q + f.2.toNat then (q, N, true) else fdec b fs (q + f.2.toNat) (upd N f.1.toNat (num 0 ((b.drop q).take f.2.toNat)))
theorem fdec_step {b : List Int} {x y : Int} {fs : List (Int × Int)} {q : Nat} {N : Nat → Int} (h : q + y.toNat ≤ b.length) : fdec b ((x, y) :: fs) q N = fdec b fs (q + y.toNat) (upd N x.toNat (getV y.toNat (b.drop q))) := by
  rw [fdec, if_neg (by simp only; omega)]
  unfold getV
  rw [if_pos (by rw [List.length_drop]; omega)]
theorem fdec_stop {b : List Int} {x y : Int} {fs : List (Int × Int)} {q : Nat} {N : Nat → Int} (h : b.length < q + y.toNat) : fdec b ((x, y) :: fs) q N = (q, N, true) := by
  rw [fdec, if_pos h]
def N0 (k : Int) : Nat → Int := upd (fun _ => 0) 0 k
theorem head_N (b : List Int) : headM_ b = ⟨getV 1 b % 16, getV 1 (b.drop 1), getV 2 (b.drop 2), getV 6 (b.drop 4), getV 2 (b.drop 10), getV 8 (b.drop 12), 0, 0, 0, 0, 0, 0, 0, 0, 0, []⟩ := by
  unfold headM_
  simp only [getR_drop, List.drop_drop, Nat.reduceAdd]
def NH (b : List Int) (k : Int) : Nat → Int := upd (upd (upd (upd (upd (N0 k) 1 (getV 1 (b.drop 1))) 2 (getV 2 (b.drop 2))) 3 (getV 6 (b.drop 4))) 4 (getV 2 (b.drop 10))) 5 (getV 8 (b.drop 12))
theorem fdec_head {b : List Int} (h : 20 ≤ b.length) (k : Int) (fs : List (Int × Int)) : fdec b (fields0 ++ fs) 1 (N0 k) = fdec b fs 20 (NH b k) := by
  unfold fields0
  simp only [List.cons_append, List.nil_append]
  rw [fdec_step (by simp; omega), fdec_step (by simp; omega), fdec_step (by simp; omega), fdec_step (by simp; omega), fdec_step (by simp; omega)]
  rfl
/-- What the fields come to. -/
def FGood (b : List Int) (r : Nat × (Nat → Int) × Bool) : Prop :=
  (r.2.2 = true → dec b = (zeroM, 20)) ∧
  (r.2.2 = false → getV 1 b % 16 ≠ 11 → r.1 = decW b ∧ r.1 ≤ b.length ∧ mgN r.2.1 [] = decM b) ∧
  (r.2.2 = false → getV 1 b % 16 = 11 → r.1 = 30 ∧ 30 ≤ b.length ∧ ∀ p, mgN r.2.1 p = { decM b with path := p })
theorem dec_short {b : List Int} (hb : Bytes b) (h20 : 20 ≤ b.length) (h1 : getV 1 b / 16 = 1) (hk : Known (getV 1 b % 16)) (h11 : getV 1 b % 16 = 11 → decN b ≤ 32) (hs : b.length < decW b) : dec b = (zeroM, 20) := by
  rw [dec_closed hb]
  unfold decC
  rw [if_neg (by omega), if_neg (by simp [h1]), if_neg (fun h => h hk), if_neg (fun h => by have := h11 h.1; omega), if_pos hs]
theorem dec_many {b : List Int} (hb : Bytes b) (h20 : 20 ≤ b.length) (h1 : getV 1 b / 16 = 1) (h11 : getV 1 b % 16 = 11) (hs : 32 < decN b) : dec b = (zeroM, 4) := by
  rw [dec_closed hb]
  unfold decC
  rw [if_neg (by omega), if_neg (by simp [h1]), if_neg (fun h => h (by unfold Known; omega)), if_pos ⟨h11, hs⟩]
theorem dec_long {b : List Int} (hb : Bytes b) (h20 : 20 ≤ b.length) (h1 : getV 1 b / 16 = 1) (hk : Known (getV 1 b % 16)) (h11 : getV 1 b % 16 = 11 → decN b ≤ 32) (hs : decW b ≤ b.length) :
    dec b = if decW b < b.length then (zeroM, 24) else if checkV (decM b) ≠ 0 then (zeroM, 1) else (decM b, 0) := by
  rw [dec_closed hb]
  unfold decC
  rw [if_neg (by omega), if_neg (by simp [h1]), if_neg (fun h => h hk), if_neg (fun h => by have := h11 h.1; omega), if_neg (by omega)]
theorem dec_less20 {b : List Int} (hb : Bytes b) (h20 : b.length < 20) : dec b = (zeroM, 20) := by
  rw [dec_closed hb]
  unfold decC
  rw [if_pos h20]
theorem dec_form {b : List Int} (hb : Bytes b) (h20 : 20 ≤ b.length) (h1 : getV 1 b / 16 ≠ 1) : dec b = (zeroM, 21) := by
  rw [dec_closed hb]
  unfold decC
  rw [if_neg (by omega), if_pos h1]
theorem dec_kind {b : List Int} (hb : Bytes b) (h20 : 20 ≤ b.length) (h1 : getV 1 b / 16 = 1) (hk : ¬ Known (getV 1 b % 16)) : dec b = (zeroM, 23) := by
  rw [dec_closed hb]
  unfold decC
  rw [if_neg (by omega), if_neg (by simp [h1]), if_pos hk]
theorem decN_few {b : List Int} (h : b.length < 31) : decN b = 0 := by
  unfold decN tailN getV
  rw [List.drop_drop, if_neg (by rw [List.length_drop]; omega)]
theorem decN_nat {b : List Int} (hb : Bytes b) : 0 ≤ decN b := (tailN_nn (hb.drop 20)).1
theorem fg_short {b : List Int} (h : dec b = (zeroM, 20)) {q : Nat} {N : Nat → Int} : FGood b (q, N, true) := ⟨fun _ => h, fun h => by simp at h, fun h => by simp at h⟩
set_option maxHeartbeats 1000000 in
theorem fgood {b : List Int} (hb : Bytes b) (h20 : 20 ≤ b.length) (h1 : getV 1 b / 16 = 1) (hk : Known (getV 1 b % 16)) : FGood b (fdec b (fieldsL (getV 1 b % 16)) 1 (N0 (getV 1 b % 16))) := by
  have hN := decN_nat hb
  have hh := head_N b
  have key : ∀ k, getV 1 b % 16 = k → FGood b (fdec b (fieldsL k) 1 (N0 k)) := by
    intro k hkk
    have hW : decW b = wantB k (decN b) := by unfold decW; rw [hkk]
    have hM : decM b = tailM (headM_ b) (b.drop 20) := rfl
    rw [hh, hkk] at hM
    have hsh := fun h11 hs => dec_short hb h20 h1 hk h11 hs
    have hk' := hk
    rw [hkk] at hk' hsh
    rcases hk' with rfl | rfl | rfl | rfl | rfl | rfl
    · have e : fieldsL 0 = fields0 ++ [] := rfl
      rw [e, fdec_head h20]
      exact ⟨fun h => by simp [fdec] at h, fun _ _ => ⟨by rw [hW]; rfl, h20, by rw [hM]; rfl⟩, fun _ h => by rw [hkk] at h; simp at h⟩
    · have e : fieldsL 2 = fields0 ++ [] := rfl
      rw [e, fdec_head h20]
      exact ⟨fun h => by simp [fdec] at h, fun _ _ => ⟨by rw [hW]; rfl, h20, by rw [hM]; rfl⟩, fun _ h => by rw [hkk] at h; simp at h⟩
    · have e : fieldsL 3 = fields0 ++ [(6, 8), (7, 6), (8, 2)] := rfl
      rw [e, fdec_head h20]
      have hs : b.length < 36 → ∀ q N, FGood b (q, N, true) := fun h q N => fg_short (hsh (fun h => by simp at h) (by rw [hW]; simpa [wantB] using h))
      by_cases a6 : b.length < 28
      · rw [fdec_stop (by simpa using a6)]; exact hs (by omega) _ _
      rw [fdec_step (by simpa using Nat.le_of_not_lt a6)]
      by_cases a7 : b.length < 34
      · rw [fdec_stop (by simpa using a7)]; exact hs (by omega) _ _
      rw [fdec_step (by simpa using Nat.le_of_not_lt a7)]
      by_cases a8 : b.length < 36
      · rw [fdec_stop (by simpa using a8)]; exact hs (by omega) _ _
      rw [fdec_step (by simpa using Nat.le_of_not_lt a8)]
      refine ⟨fun h => by simp [fdec] at h, fun _ _ => ⟨by rw [hW]; rfl, Nat.le_of_not_lt a8, ?_⟩, fun _ h => by rw [hkk] at h; simp at h⟩
      rw [hM]; simp [tailM, mgN, fdec, upd, NH, N0, List.drop_drop]
    · have e : fieldsL 8 = fields0 ++ [(6, 8), (9, 8)] := rfl
      rw [e, fdec_head h20]
      have hs : b.length < 36 → ∀ q N, FGood b (q, N, true) := fun h q N => fg_short (hsh (fun h => by simp at h) (by rw [hW]; simpa [wantB] using h))
      by_cases a6 : b.length < 28
      · rw [fdec_stop (by simpa using a6)]; exact hs (by omega) _ _
      rw [fdec_step (by simpa using Nat.le_of_not_lt a6)]
      by_cases a9 : b.length < 36
      · rw [fdec_stop (by simpa using a9)]; exact hs (by omega) _ _
      rw [fdec_step (by simpa using Nat.le_of_not_lt a9)]
      refine ⟨fun h => by simp [fdec] at h, fun _ _ => ⟨by rw [hW]; rfl, Nat.le_of_not_lt a9, ?_⟩, fun _ h => by rw [hkk] at h; simp at h⟩
      rw [hM]; simp [tailM, mgN, fdec, upd, NH, N0, List.drop_drop]
    · have e : fieldsL 10 = fields0 ++ [(6, 8), (7, 6), (8, 2)] := rfl
      rw [e, fdec_head h20]
      have hs : b.length < 36 → ∀ q N, FGood b (q, N, true) := fun h q N => fg_short (hsh (fun h => by simp at h) (by rw [hW]; simpa [wantB] using h))
      by_cases a6 : b.length < 28
      · rw [fdec_stop (by simpa using a6)]; exact hs (by omega) _ _
      rw [fdec_step (by simpa using Nat.le_of_not_lt a6)]
      by_cases a7 : b.length < 34
      · rw [fdec_stop (by simpa using a7)]; exact hs (by omega) _ _
      rw [fdec_step (by simpa using Nat.le_of_not_lt a7)]
      by_cases a8 : b.length < 36
      · rw [fdec_stop (by simpa using a8)]; exact hs (by omega) _ _
      rw [fdec_step (by simpa using Nat.le_of_not_lt a8)]
      refine ⟨fun h => by simp [fdec] at h, fun _ _ => ⟨by rw [hW]; rfl, Nat.le_of_not_lt a8, ?_⟩, fun _ h => by rw [hkk] at h; simp at h⟩
      rw [hM]; simp [tailM, mgN, fdec, upd, NH, N0, List.drop_drop]
    · have e : fieldsL 11 = fields0 ++ [(10, 1), (11, 1), (12, 1), (13, 6), (14, 1)] := rfl
      rw [e, fdec_head h20]
      have hs : b.length < 31 → ∀ q N, FGood b (q, N, true) := fun h q N => fg_short (hsh (fun _ => by rw [decN_few (by omega)]; decide) (by rw [hW]; rw [decN_few h]; simpa [wantB] using h))
      by_cases a10 : b.length < 21
      · rw [fdec_stop (by simpa using a10)]; exact hs (by omega) _ _
      rw [fdec_step (by simpa using Nat.le_of_not_lt a10)]
      by_cases a11 : b.length < 22
      · rw [fdec_stop (by simpa using a11)]; exact hs (by omega) _ _
      rw [fdec_step (by simpa using Nat.le_of_not_lt a11)]
      by_cases a12 : b.length < 23
      · rw [fdec_stop (by simpa using a12)]; exact hs (by omega) _ _
      rw [fdec_step (by simpa using Nat.le_of_not_lt a12)]
      by_cases a13 : b.length < 29
      · rw [fdec_stop (by simpa using a13)]; exact hs (by omega) _ _
      rw [fdec_step (by simpa using Nat.le_of_not_lt a13)]
      by_cases a14 : b.length < 30
      · rw [fdec_stop (by simpa using a14)]; exact hs (by omega) _ _
      rw [fdec_step (by simpa using Nat.le_of_not_lt a14)]
      refine ⟨fun h => by simp [fdec] at h, fun _ h => absurd hkk h, fun _ _ => ⟨rfl, Nat.le_of_not_lt a14, fun p => ?_⟩⟩
      rw [hM]; simp [tailM, mgN, fdec, upd, NH, N0, List.drop_drop]
  exact key _ rfl
theorem decM_path {b : List Int} (h11 : getV 1 b % 16 = 11) (hl : 31 ≤ b.length) : (decM b).path = (pathG (decN b).toNat (b.drop 31)).1 := by
  have hM : decM b = tailM (headM_ b) (b.drop 20) := rfl
  rw [hM, head_N, h11]
  unfold tailM decN tailN
  simp [List.drop_drop, show ¬ b.length - 20 < 11 from by omega]
theorem decM_of_path {b : List Int} {N : Nat → Int} (h : ∀ p, mgN N p = { decM b with path := p }) (h11 : getV 1 b % 16 = 11) (hl : 31 ≤ b.length) : mgN N (pathG (decN b).toNat (b.drop 31)).1 = decM b := by
  rw [h, ← decM_path h11 hl]
theorem decW_11 {b : List Int} (h11 : getV 1 b % 16 = 11) : decW b = 31 + 6 * (decN b).toNat := by
  unfold decW wantB
  rw [h11]
  simp
theorem path_next {b p : List Int} {P0 : List Int} {N i : Nat} (h : P0 = p ++ (pathG (N - i) (b.drop (31 + 6 * i))).1) (hi : i < N) (hl : 31 + 6 * N ≤ b.length) : P0 = (p ++ [num 0 ((b.drop (31 + 6 * i)).take 6)]) ++ (pathG (N - (i + 1)) (b.drop (31 + 6 * (i + 1)))).1 := by
  rw [h, show N - i = (N - (i + 1)) + 1 from by omega, pathG, if_pos (by rw [List.length_drop]; omega), List.drop_drop, show 31 + 6 * i + 6 = 31 + 6 * (i + 1) from by omega]
  simp
theorem first_byte {b : List Int} {x : Int} (h : b[0]? = some x) (hx : 0 ≤ x ∧ x < 256) : getV 1 b = x := by
  match b, h with
  | y :: r, h =>
    simp at h
    subst h
    unfold getV
    rw [if_pos (by simp)]
    simp [num, IntKind.wrap_i64]
    first | omega | (unfold wrap64; omega)
theorem byte_n {b : List Int} {x : Int} {k : Nat} (h : b[k]? = some x) (hx : 0 ≤ x ∧ x < 256) : getV 1 (b.drop k) = x := first_byte (by rw [List.getElem?_drop]; simpa using h) hx
theorem decN_byte {b : List Int} {x : Int} (h : b[30]? = some x) (hx : 0 ≤ x ∧ x < 256) : decN b = x := by
  unfold decN tailN
  rw [List.drop_drop]
  exact byte_n h hx
end Go.Proofs.Ytlhaloabophliaa
