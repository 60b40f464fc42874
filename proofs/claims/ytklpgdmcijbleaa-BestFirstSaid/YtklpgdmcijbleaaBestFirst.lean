/-
  BestFirst: for any list of clocks the law returns true, and the list reads as it did. No condition.
-/
import Derived.Test.YtklpgdmcijbleaaBestBase
import Derived.Test.YtklpgdmcijbleaaKitB
namespace Go.Proofs.Ytklpgdmcijbleaa
open Go.RowKit Go.WideShapes Go.ChangeShapes
attribute [local go_sem ↓] Go.wp_at_zero Go.wp_at_succ

theorem Pr.len (p : Pr) : p.cells.length = 4 := rfl
def pcells (ps : List Pr) : List Value := ps.flatMap Pr.cells
theorem Blk.pri {w : World} {g : Nat} {t : TypeId} {v : Pr} (h : Blk w g t #[.int .i64 v.one, .int .i64 v.cls, .int .i64 v.two, .int .i64 v.id]) : w.cell? ⟨g, 0, none⟩ = some (.int .i64 v.one) ∧ w.cell? ⟨g, 1, none⟩ = some (.int .i64 v.cls) ∧ w.cell? ⟨g, 2, none⟩ = some (.int .i64 v.two) ∧ w.cell? ⟨g, 3, none⟩ = some (.int .i64 v.id) :=
  ⟨h.cell 0, h.cell 1, h.cell 2, h.cell 3⟩
theorem Pr.eq_iff {p q : Pr} : p = q ↔ p.one = q.one ∧ p.cls = q.cls ∧ p.two = q.two ∧ p.id = q.id := by
  constructor
  · rintro rfl; exact ⟨rfl, rfl, rfl, rfl⟩
  · rintro ⟨h1, h2, h3, h4⟩
    cases p
    cases q
    simp_all
instance : DecidableEq Pr := fun p q => decidable_of_iff _ (Pr.eq_iff (p := p) (q := q)).symm
theorem cmpP_eq {p q : Pr} (h : cmpP p q = 0) : p = q := by
  simp only [cmpP, orI] at h
  have e : ∀ a b : Int, cmpI a b = 0 → a = b := fun a b h => by unfold cmpI at h; split at h <;> (try split at h) <;> omega
  by_cases h1 : cmpI p.one q.one = 0 <;> by_cases h2 : cmpI p.cls q.cls = 0 <;> by_cases h3 : cmpI p.two q.two = 0 <;> by_cases h4 : cmpI p.id q.id = 0 <;> simp [h1, h2, h3, h4] at h
  exact Pr.eq_iff.2 ⟨e _ _ h1, e _ _ h2, e _ _ h3, e _ _ h4⟩
/-- The least of some, the first of the like. -/
def minStep (m p : Pr) : Pr := if cmpP p m < 0 then p else m
def minFrom (m : Pr) (ps : List Pr) : Pr := ps.foldl minStep m
theorem minFrom_le : ∀ (ps : List Pr) (m : Pr), (∀ p ∈ m :: ps, cmpP (minFrom m ps) p ≤ 0) ∧ minFrom m ps ∈ m :: ps
  | [], m => ⟨fun p hp => by simp at hp; subst hp; exact Int.le_of_eq (cmpP_self _), by simp [minFrom]⟩
  | q :: ps, m => by
    obtain ⟨h1, h2⟩ := minFrom_le ps (minStep m q)
    have e : minFrom m (q :: ps) = minFrom (minStep m q) ps := rfl
    rw [e]
    have hs : cmpP (minStep m q) m ≤ 0 ∧ cmpP (minStep m q) q ≤ 0 := by
      unfold minStep
      split
      · exact ⟨by omega, Int.le_of_eq (cmpP_self _)⟩
      · refine ⟨Int.le_of_eq (cmpP_self _), ?_⟩
        have := cmpP_neg q m
        omega
    have h3 := h1 (minStep m q) (by simp)
    refine ⟨fun p hp => ?_, ?_⟩
    · simp only [List.mem_cons] at hp
      rcases hp with rfl | rfl | hp
      · exact (cmpP_trans _ _ _ h3 hs.1).1
      · exact (cmpP_trans _ _ _ h3 hs.2).1
      · exact h1 p (by simp [hp])
    · simp only [List.mem_cons] at h2 ⊢
      rcases h2 with h2 | h2
      · rw [h2]
        unfold minStep
        split
        · exact .inr (.inl rfl)
        · exact .inl rfl
      · exact .inr (.inr h2)
def idx (x : Pr) : Nat → List Pr → Int
  | _, [] => -1
  | k, p :: ps => if x = p then (k : Int) else idx x (k + 1) ps
theorem idx_spec (x : Pr) : ∀ (ps : List Pr) (k : Nat), x ∈ ps → ∃ j, idx x k ps = ((k + j : Nat) : Int) ∧ ps[j]? = some x ∧ ∀ i p, ps[i]? = some p → i < j → x ≠ p
  | [], _, h => by cases h
  | p :: ps, k, h => by
    by_cases hp : x = p
    · subst hp
      exact ⟨0, by simp [idx], rfl, fun i p hi hlt => by omega⟩
    · obtain ⟨j, h1, h2, h3⟩ := idx_spec x ps (k + 1) (by simp only [List.mem_cons] at h; exact h.resolve_left hp)
      refine ⟨j + 1, by rw [idx, if_neg hp, h1]; congr 1; omega, h2, fun i q hi hlt => ?_⟩
      cases i with
      | zero => simp at hi; subst hi; exact hp
      | succ i => exact h3 i q (by simpa using hi) (by omega)
theorem run_eql_pr (p q : Pr) (w : World) : (binOp .eql 23 (.agg #[.int .i64 p.one, .int .i64 p.cls, .int .i64 p.two, .int .i64 p.id]) (.agg #[.int .i64 q.one, .int .i64 q.cls, .int .i64 q.two, .int .i64 q.id])).run Try.prog w = .ok (.bool (decide (p = q))) w := by
  have h := @Pr.eq_iff p q
  by_cases h1 : p.one = q.one <;> by_cases h2 : p.cls = q.cls <;> by_cases h3 : p.two = q.two <;> by_cases h4 : p.id = q.id <;> simp [go_sem, h1, h2, h3, h4, h]
theorem elem4 {ps : List Pr} {w : World} {B n k : Nat} {A : Option Addr} {p : Pr} (h : Reads w B 4 A n (pcells ps)) (hk : ps[k]? = some p) (hlt : k < n) :
    ∃ ad, A = some ad ∧ (ad.add (k * 4)).block < B ∧ w.cell? (ad.add (k * 4)) = some (.int .i64 p.one) ∧ w.cell? ⟨(ad.add (k * 4)).block, (ad.add (k * 4)).off + 1, none⟩ = some (.int .i64 p.cls) ∧ w.cell? ⟨(ad.add (k * 4)).block, (ad.add (k * 4)).off + 2, none⟩ = some (.int .i64 p.two) ∧
      w.cell? ⟨(ad.add (k * 4)).block, (ad.add (k * 4)).off + 3, none⟩ = some (.int .i64 p.id) := by
  obtain ⟨ad, rfl, hblk, hc0, hcj⟩ := h.elem Pr.len hk hlt
  exact ⟨ad, rfl, hblk, hc0 _ rfl, hcj 1 _ (by omega) rfl, hcj 2 _ (by omega) rfl, hcj 3 _ (by omega) rfl⟩

set_option maxRecDepth 100000 in
set_option maxHeartbeats 2000000 in
theorem index_any (x : Pr) (A : Option Addr) (n c : Nat) (ps : List Pr) (w : World) (hr : Reads w w.heap.size 4 A n (pcells ps)) (hl : ps.length = n) (hn : n ≤ maxLen) :
    Calls Try.prog 19 #[.slice A n c, .agg #[.int .i64 x.one, .int .i64 x.cls, .int .i64 x.two, .int .i64 x.id]] w fun e w' => e = .returned (.int .i64 (idx x 0 ps)) ∧ Below w.heap.size w w' := by
  unfold maxLen at hn
  have B0 := Blk.new w 23 #[.int .i64 x.one, .int .i64 x.cls, .int .i64 x.two, .int .i64 x.id]
  have BB : Below w.heap.size w (w.alloc (.cells #[.int .i64 x.one, .int .i64 x.cls, .int .i64 x.two, .int .i64 x.id] 23)) := (by (repeat (refine Below.alloc ?_ (by first | omega | (simp; done) | (simp; omega)) _)); exact Below.refl _ _)
  have hq := fun p w => run_eql_pr x p w
  have HEQ := Lib.hid hq
  clear hq
  go_enter Try.func19, Try.ntmps19
  go_wp2_with fail
  go_loopw [5, 8] (fun _ i wr => ∃ k : Nat, k ≤ n ∧ i = .int .i64 k ∧ Hid (idx x 0 ps = idx x k (ps.drop k)) ∧ Blk wr w.heap.size 23 #[.int .i64 x.one, .int .i64 x.cls, .int .i64 x.two, .int .i64 x.id] ∧ Below w.heap.size w wr) (fun _ i _ => n - (intOf i).toNat)
  case atStart => exact ⟨0, Nat.zero_le _, rfl, rfl, B0, BB⟩
  case round =>
    clear B0 BB
    obtain ⟨k, hk, rfl, hs, B0, BB⟩ := hrel
    by_cases hlt : k < n
    · obtain ⟨p, hp⟩ := getElem?_some_of_lt hl hlt
      have HS := Lib.hid (hs.out.trans (by rw [drop_get hp]; rfl : _ = if x = p then (k : Int) else idx x (k + 1) (ps.drop (k + 1))))
      obtain ⟨ad, rfl, hblk, p0, p1, p2, p3⟩ := elem4 (hr.below BB) hp hlt
      obtain ⟨q0, q1, q2, q3⟩ := B0.pri
      have hk1 : (k : Int) < n := by omega
      have hk0 : (0 : Int) ≤ k := by omega
      have heq := HEQ.out p
      clear hs hp
      by_cases hx : x = p
      · rw [decide_eq_true hx] at heq
        have HX := Lib.hid hx
        clear hx
        go_wp2_with fail
        go_quiet (fail)
        go_wp2_with fail
        go_ret
        exact ⟨ret_int (by rw [HS.out, if_pos HX.out]), below_drewN BB _⟩
      · rw [decide_eq_false hx] at heq
        have HX := Lib.hid hx
        clear hx
        go_wp2_with fail
        go_quiet (fail)
        go_wp2_with fail
        go_roundw
        case rel => exact ⟨k + 1, by omega, by go_num, HS.out.trans (by rw [if_neg HX.out]), B0.drewN _, below_drewN BB _⟩
        case measure => simp [intOf]; omega
    · obtain rfl : n = k := by omega
      go_wp2_with fail
      go_ret
      refine ⟨ret_int ?_, BB⟩
      rw [hs.out, List.drop_eq_nil_of_le (by omega)]
      rfl

set_option maxRecDepth 100000 in
set_option maxHeartbeats 4000000 in
theorem minFunc_any (A : Option Addr) (n c : Nat) (x0 : Pr) (ps : List Pr) (w : World) (hr : Reads w w.heap.size 4 A n (pcells (x0 :: ps))) (hl : (x0 :: ps).length = n) (hn : n ≤ maxLen) :
    Calls Try.prog 20 #[.slice A n c, .func (.func 9) #[] #[]] w fun e w' => e = .returned (.agg #[.int .i64 (minFrom x0 ps).one, .int .i64 (minFrom x0 ps).cls, .int .i64 (minFrom x0 ps).two, .int .i64 (minFrom x0 ps).id]) ∧ Below w.heap.size w w' := by
  unfold maxLen at hn
  have hcmp := fun p q W => cmpP_any p q W
  unfold Pr.val Pr.cells iz at hcmp
  have HC := Lib.hid hcmp
  have hpos : 0 < n := by rw [← hl]; simp
  obtain ⟨ad, rfl, hblk, p0, p1, p2, p3⟩ := elem4 (k := 0) hr rfl hpos
  clear hcmp
  have ea : ad.add (0 * 4) = ad := by simp [Addr.add]
  rw [ea] at hblk p0 p1 p2 p3
  have dn : decide ((n : Int) < 1) = false := by simp; omega
  have B1 : Blk ((w.alloc (.cells #[.int .i64 0, .int .i64 0, .int .i64 0, .int .i64 0] 23)).alloc (.cells #[.int .i64 x0.one, .int .i64 x0.cls, .int .i64 x0.two, .int .i64 x0.id] 23)) (w.heap.size + 1) 23 #[.int .i64 x0.one, .int .i64 x0.cls, .int .i64 x0.two, .int .i64 x0.id] := Blk.at_new _ _ _ (by simp)
  have B0 : Blk ((w.alloc (.cells #[.int .i64 0, .int .i64 0, .int .i64 0, .int .i64 0] 23)).alloc (.cells #[.int .i64 x0.one, .int .i64 x0.cls, .int .i64 x0.two, .int .i64 x0.id] 23)) w.heap.size 23 #[.int .i64 0, .int .i64 0, .int .i64 0, .int .i64 0] := (Blk.new _ _ _).alloc _
  have BB : Below w.heap.size w ((w.alloc (.cells #[.int .i64 0, .int .i64 0, .int .i64 0, .int .i64 0] 23)).alloc (.cells #[.int .i64 x0.one, .int .i64 x0.cls, .int .i64 x0.two, .int .i64 x0.id] 23)) := (by (repeat (refine Below.alloc ?_ (by first | omega | (simp; done) | (simp; omega)) _)); exact Below.refl _ _)
  go_enter Try.func20, Try.ntmps20
  go_wp2_with fail
  clear p0 p1 p2 p3 ea hblk
  go_loopw [6] (fun i wr => ∃ (k : Nat) (m : Pr), 1 ≤ k ∧ k ≤ n ∧ i = .int .i64 k ∧ Hid (minFrom x0 ps = minFrom m (ps.drop (k - 1))) ∧ Blk wr w.heap.size 23 #[.int .i64 0, .int .i64 0, .int .i64 0, .int .i64 0] ∧ Blk wr (w.heap.size + 1) 23 #[.int .i64 m.one, .int .i64 m.cls, .int .i64 m.two, .int .i64 m.id] ∧ Below w.heap.size w wr) (fun i _ => n - (intOf i).toNat)
  case atStart => exact ⟨1, x0, Nat.le_refl _, hpos, rfl, rfl, B0, B1, BB⟩
  case round =>
    clear B0 B1 BB
    obtain ⟨k, m, hk0, hk, rfl, hs, B0, B1, BB⟩ := hrel
    by_cases hlt : k < n
    · obtain ⟨p, hp⟩ := getElem?_some_of_lt hl hlt
      have hp' : ps[k - 1]? = some p := by
        obtain ⟨j, rfl⟩ : ∃ j, k = j + 1 := ⟨k - 1, by omega⟩
        simpa using hp
      have HS := Lib.hid (hs.out.trans (by rw [drop_get hp', show k - 1 + 1 = k + 1 - 1 from by omega]; rfl : _ = minFrom (minStep m p) (ps.drop (k + 1 - 1))))
      obtain ⟨_, he, hblk, p0, p1, p2, p3⟩ := elem4 (hr.below BB) hp hlt
      cases he
      obtain ⟨q0, q1, q2, q3⟩ := B1.pri
      have hk1 : (k : Int) < n := by omega
      have hk2 : (0 : Int) ≤ k := by omega
      have hz : w.heap.size + 1 < wr.heap.size := B1.lt
      have hblk2 : (ad.add (k * 4)).block < wr.heap.size := by omega
      have hcc := HC.out p m
      have HP := Lib.hid hp
      have hE0 : ∀ w', Below wr.heap.size wr w' → w'.cell? (ad.add (k * 4)) = some (.int .i64 p.one) := fun w' h => (h.cell hblk2).trans p0
      clear hs hp hp'
      go_wp2_with fail
      refine wp_region_class (fun w' => Below wr.heap.size wr w') (by kernel_rfl) (by kernel_rfl) (Below.refl _ _).drew ?_
      repeat (first | (refine wpQuiet_val (v := ?_) ?_ ?_ ?_; rotate_left; (first | rfl | (go_simp; done)); (intro w' hw'; obtain ⟨hc, hf⟩ := bcell hw'; go_simp; with_reducible rfl); simp only [Act.put, List.setIfInBounds_toArray, List.set_cons_zero, List.set_cons_succ]) | (refine wpQuiet_call (v := ?_) 9 ?_ ?_ ?_ ?_ ?_; rotate_left 2; (first | rfl | (go_simp; done)); (intro w' hw'; obtain ⟨hc, hf⟩ := bcell hw'; go_simp; with_reducible rfl); (intro w' hw'; (with_reducible refine (hcc _).mono ?_); rintro e w2 ⟨rfl, hb⟩; refine ⟨?_, hw'.trans (hb.mono (by have h0 := hw'.size; first | omega | (simp at h0; omega)))⟩; with_reducible rfl); simp only [Act.put, List.setIfInBounds_toArray, List.set_cons_zero, List.set_cons_succ]))
      refine wpQuiet_nil ?_
      intro w2 hw2
      have C0 := B0.below hw2 (by omega)
      have C1 := B1.below hw2 (by omega)
      have CB := BB.trans (hw2.mono (by omega))
      have hz2 : w.heap.size + 1 < w2.heap.size := C1.lt
      obtain ⟨hc2, hf2⟩ := bcell hw2
      by_cases hm : cmpP p m < 0
      · have e1 : minStep m p = p := if_pos hm
        rw [e1] at HS
        have f1 := C1.frozen
        obtain ⟨y0, y1, y2, y3⟩ := C1.pri
        obtain ⟨_, he, _, r0, r1, r2, r3⟩ := elem4 (hr.below CB) HP.out hlt
        cases he
        clear e1 hc2 hf2 hw2 p0 p1 p2 p3 q0 q1 q2 q3 hE0
        go_wp2_with fail
        go_roundw
        case rel => exact ⟨k + 1, p, by omega, by omega, by go_num, HS.out, stores_far (by omega) [.int .i64 p.one, .int .i64 p.cls, .int .i64 p.two, .int .i64 p.id] 0 C0, stores_all C1 [.int .i64 p.one, .int .i64 p.cls, .int .i64 p.two, .int .i64 p.id] rfl, stores_below (by omega) [.int .i64 p.one, .int .i64 p.cls, .int .i64 p.two, .int .i64 p.id] 0 CB⟩
        case measure => simp [intOf]; omega
      · have e1 : minStep m p = m := if_neg hm
        rw [e1] at HS
        have d0 : decide (cmpP p m < 0) = false := by simpa using hm
        clear e1 hc2 hf2 hw2 p0 p1 p2 p3 q0 q1 q2 q3 hE0
        go_wp2_with fail
        go_roundw
        case rel => exact ⟨k + 1, m, by omega, by omega, by go_num, HS.out, C0, C1, CB⟩
        case measure => simp [intOf]; omega
    · obtain rfl : n = k := by omega
      obtain ⟨q0, q1, q2, q3⟩ := B1.pri
      have hz : w.heap.size + 1 < wr.heap.size := B1.lt
      obtain ⟨z0, z1, z2, z3⟩ := Blk.pri (v := ⟨0, 0, 0, 0⟩) B0
      have f0 := B0.frozen
      have hend : minFrom x0 ps = m := by
        have := hs.out
        rw [List.drop_eq_nil_of_le (by simp at hl; omega)] at this
        exact this
      have HE := Lib.hid hend
      clear hs hend
      go_wp2_with fail
      have S := stores_all B0 [.int .i64 m.one, .int .i64 m.cls, .int .i64 m.two, .int .i64 m.id] rfl
      obtain ⟨d0, d1, d2, d3⟩ := Blk.pri (v := m) S
      simp [stores] at d0 d1 d2 d3
      exact bodyPost_ret (v := .agg #[.int .i64 m.one, .int .i64 m.cls, .int .i64 m.two, .int .i64 m.id]) (by simp [results, Try.results20, go_sem, d0, d1, d2, d3]) rfl ⟨by rw [HE.out], stores_below (by omega) [.int .i64 m.one, .int .i64 m.cls, .int .i64 m.two, .int .i64 m.id] 0 BB⟩


def firstOf : List Pr → Int
  | [] => -1
  | x0 :: ps => idx (minFrom x0 ps) 0 (x0 :: ps)

set_option maxRecDepth 100000 in
set_option maxHeartbeats 2000000 in
theorem first_any (A : Option Addr) (n c : Nat) (ps : List Pr) (w : World) (hr : Reads w w.heap.size 4 A n (pcells ps)) (hl : ps.length = n) (hn : n ≤ maxLen) :
    Calls Try.prog 13 #[.slice A n c] w fun e w' => e = .returned (.int .i64 (firstOf ps)) ∧ Below w.heap.size w w' := by
  cases ps with
  | nil =>
    obtain rfl : 0 = n := hl
    go_enter Try.func13, Try.ntmps13
    go_wp2_with fail
    go_ret
    exact ⟨rfl, Below.refl _ _⟩
  | cons x0 ps =>
    have hM := minFunc_any A n c x0 ps w hr hl hn
    have hI := fun W (hb : Below w.heap.size w W) => index_any (minFrom x0 ps) A n c (x0 :: ps) W ((hr.below hb).more hb.size) hl hn
    rw [show idx (minFrom x0 ps) 0 (x0 :: ps) = firstOf (x0 :: ps) from rfl] at hI
    have hpos : 0 < n := by rw [← hl]; simp
    generalize firstOf (x0 :: ps) = r at *
    generalize minFrom x0 ps = m at *
    have HM := Lib.hid hM
    have HI := Lib.hid hI
    clear hM hI
    unfold maxLen at hn
    have hne : ((n : Int) == 0) = false := beq_eq_false_iff_ne.2 (by omega)
    have hne2 : ¬ (n : Int) = 0 := by omega
    go_enter Try.func13, Try.ntmps13
    go_wp2_with fail
    refine HM.out.mono ?_
    rintro e w1 ⟨rfl, hb1⟩
    go_wp2_with fail
    refine (HI.out _ hb1).mono ?_
    rintro e w2 ⟨rfl, hb2⟩
    go_wp2_with fail
    go_ret
    exact ⟨rfl, hb1.trans (hb2.mono hb1.size)⟩

/-! ### The plain law -/
theorem firstOf_spec {ps : List Pr} {n : Nat} (hl : ps.length = n) (hn : 0 < n) : ∃ (j : Nat) (m : Pr), j < n ∧ firstOf ps = j ∧ ps[j]? = some m ∧ (∀ k p, ps[k]? = some p → cmpP m p ≤ 0 ∧ (cmpP m p = 0 → j ≤ k)) := by
  cases ps with
  | nil => simp at hl; omega
  | cons x0 ps =>
    obtain ⟨h1, h2⟩ := minFrom_le ps x0
    obtain ⟨j, h3, h4, h5⟩ := idx_spec (minFrom x0 ps) (x0 :: ps) 0 h2
    have hj : j < (x0 :: ps).length := by
      have := List.getElem?_eq_some_iff.1 h4
      exact this.1
    refine ⟨j, minFrom x0 ps, by omega, by rw [show firstOf (x0 :: ps) = idx (minFrom x0 ps) 0 (x0 :: ps) from rfl, h3]; congr 1; omega, h4, fun k p hk => ⟨h1 p (List.mem_of_getElem? hk), fun h0 => ?_⟩⟩
    apply Classical.byContradiction
    intro hlt
    exact h5 k p hk (by omega) (cmpP_eq h0)

set_option maxRecDepth 100000 in
set_option maxHeartbeats 4000000 in
theorem bestFirst_calls (A : Option Addr) (n c : Nat) (ps : List Pr) (w : World) (hr : Reads w w.heap.size 4 A n (pcells ps)) (hl : ps.length = n) (hn : n ≤ maxLen) :
    Calls Try.prog 4 #[.slice A n c] w fun e w' => e = .returned (.bool true) ∧ Below w.heap.size w w' := by
  have h2 : Calls Try.prog 13 #[.slice (some ⟨w.heap.size, 0, none⟩) 2 2] (w.alloc (.cells #[.int .i64 2, .int .i64 0, .int .i64 0, .int .i64 0, .int .i64 1, .int .i64 0, .int .i64 0, .int .i64 0] 23)) fun e w' => e = .returned (.int .i64 1) ∧ Below (w.heap.size + 1) (w.alloc (.cells #[.int .i64 2, .int .i64 0, .int .i64 0, .int .i64 0, .int .i64 1, .int .i64 0, .int .i64 0, .int .i64 0] 23)) w' := by
    refine (first_any _ 2 2 [⟨2, 0, 0, 0⟩, ⟨1, 0, 0, 0⟩] _ (Reads.of_own (ownsRow_new w (n := 2) (base := 0) (cs := #[.int .i64 2, .int .i64 0, .int .i64 0, .int .i64 0, .int .i64 1, .int .i64 0, .int .i64 0, .int .i64 0]) (e := 23) (Nat.zero_le _) rfl (by simp [maxLen]))) rfl (by simp [maxLen])).mono ?_
    rintro e w' ⟨rfl, hb⟩
    exact ⟨rfl, hb.mono (by simp)⟩
  have hF := fun W (hb : Below w.heap.size w W) => first_any A n c ps W ((hr.below hb).more hb.size) hl hn
  unfold maxLen at hn
  have H2 := Lib.hid h2
  have HF := Lib.hid hF
  have hc := fun p q W => cmpP_any p q W
  unfold Pr.val Pr.cells iz at hc
  have HC := Lib.hid hc
  clear h2 hF hc
  go_enter Try.func4, Try.ntmps4
  go_wp2_with fail
  refine H2.out.mono ?_
  rintro e w1 ⟨rfl, hb1⟩
  have hb : Below w.heap.size w w1 := ((Below.refl _ _).alloc (Nat.le_refl _) _).trans (hb1.mono (by omega))
  clear hb1
  by_cases hn60 : 60 < n
  · have h60 : (60 : Int) < n := by omega
    go_wp2_with fail
    go_ret
    exact ⟨rfl, hb⟩
  · have h60 : ¬ (60 : Int) < n := by omega
    by_cases h0 : n = 0
    · subst h0
      obtain rfl : ps = [] := List.eq_nil_of_length_eq_zero hl
      go_wp2_with fail
      refine (HF.out _ hb).mono ?_
      rintro e w2 ⟨rfl, hb2⟩
      unfold firstOf
      go_wp2_with fail
      go_ret
      exact ⟨rfl, hb.trans (hb2.mono hb.size)⟩
    · obtain ⟨j, m, hj, hf, hm, hall⟩ := firstOf_spec hl (by omega)
      rw [hf] at HF
      have HA := Lib.hid hall
      have HMj := Lib.hid hm
      have hne : ((n : Int) == 0) = false := beq_eq_false_iff_ne.2 (by omega)
      have hne2 : ¬ (n : Int) = 0 := by omega
      have hj0 : (0 : Int) ≤ j := by omega
      have hj1 : (j : Int) < n := by omega
      clear hf hm hall
      go_wp2_with fail
      refine (HF.out _ hb).mono ?_
      rintro e w2 ⟨rfl, hb2⟩
      have hb3 := hb.trans (hb2.mono hb.size)
      clear hb2 hb HF H2
      go_wp2_with fail
      go_loopw [32] (fun i wr => ∃ (k : Nat), k ≤ n ∧ i = .int .i64 k ∧ Below w.heap.size w wr) (fun i _ => n - (intOf i).toNat)
      case atStart => exact ⟨0, Nat.zero_le _, rfl, hb3⟩
      case round =>
        clear hb3
        obtain ⟨k, hk, rfl, hb⟩ := hrel
        by_cases hlt : k < n
        · obtain ⟨p, hp⟩ := getElem?_some_of_lt hl hlt
          obtain ⟨ad, rfl, hblk, p0, p1, p2, p3⟩ := elem4 (hr.below hb) hp hlt
          have hbn := hb.alloc hb.size (.cells #[.int .i64 p.one, .int .i64 p.cls, .int .i64 p.two, .int .i64 p.id] 23)
          obtain ⟨_, he, hblj, r0, r1, r2, r3⟩ := elem4 (hr.below hbn) HMj.out hj
          cases he
          have HAP := Lib.hid (HA.out k p hp)
          have hk1 : (k : Int) < n := by omega
          have hk2 : (0 : Int) ≤ k := by omega
          have hz := hb.size
          have hblk2 : (ad.add (j * 4)).block < wr.heap.size + 1 := by omega
          have hE0 : ∀ w', Below (wr.heap.size + 1) (wr.alloc (.cells #[.int .i64 p.one, .int .i64 p.cls, .int .i64 p.two, .int .i64 p.id] 23)) w' → w'.cell? (ad.add (j * 4)) = some (.int .i64 m.one) := fun w' h => (h.cell hblk2).trans r0
          have hcc := HC.out m p
          clear hp
          go_wp2_with fail
          clear p0 p1 p2 p3
          have B5 := Blk.new wr 23 #[.int .i64 p.one, .int .i64 p.cls, .int .i64 p.two, .int .i64 p.id]
          obtain ⟨q0, q1, q2, q3⟩ := B5.pri
          refine wp_region_class (fun w' => Below (wr.heap.size + 1) (wr.alloc (.cells #[.int .i64 p.one, .int .i64 p.cls, .int .i64 p.two, .int .i64 p.id] 23)) w') (by kernel_rfl) (by kernel_rfl) (Below.refl _ _).drew ?_
          repeat (first | (refine wpQuiet_val (v := ?_) ?_ ?_ ?_; rotate_left; (first | rfl | (go_simp; done)); (intro w' hw'; obtain ⟨hc, hf⟩ := bcell hw'; go_simp; with_reducible rfl); simp only [Act.put, List.setIfInBounds_toArray, List.set_cons_zero, List.set_cons_succ]) | (refine wpQuiet_call (v := ?_) 9 ?_ ?_ ?_ ?_ ?_; rotate_left 2; (first | rfl | (go_simp; done)); (intro w' hw'; obtain ⟨hc, hf⟩ := bcell hw'; go_simp; with_reducible rfl); (intro w' hw'; (with_reducible refine (hcc _).mono ?_); rintro e w2 ⟨rfl, hb⟩; refine ⟨?_, hw'.trans (hb.mono (by have h0 := hw'.size; first | omega | (simp at h0; omega)))⟩; with_reducible rfl); simp only [Act.put, List.setIfInBounds_toArray, List.set_cons_zero, List.set_cons_succ]))
          refine wpQuiet_nil ?_
          intro w4 hw4
          have hB4 : Below w.heap.size w w4 := hbn.trans (hw4.mono (by omega))
          have HE := Lib.hid hE0
          clear hw4 hE0 q0 q1 q2 q3 r0 r1 r2 r3 B5 hbn hcc
          have d0 : decide (0 < cmpP m p) = false := by have := HAP.out.1; simp; omega
          have d1 : ¬ (0 < cmpP m p) := by have := HAP.out.1; omega
          by_cases hz0 : cmpP m p = 0
          · have hjk : ¬ (k : Int) < j := by have := HAP.out.2 hz0; omega
            have hjk2 : decide ((k : Int) < j) = false := by simp; omega
            rw [hz0]
            go_wp2_with fail
            go_roundw
            case rel => exact ⟨k + 1, by omega, by go_num, hB4⟩
            case measure => simp [intOf]; omega
          · have z0 : (cmpP m p == 0) = false := beq_eq_false_iff_ne.2 hz0
            go_wp2_with fail
            go_roundw
            case rel => exact ⟨k + 1, by omega, by go_num, hB4⟩
            case measure => simp [intOf]; omega
        · obtain rfl : n = k := by omega
          go_wp2_with fail
          go_ret
          exact ⟨rfl, hb⟩

/-- The list's argument reads as a list of clocks. -/
theorem open_priors {H : Type} {enc : TypeId × Value → H} {W : World} {v : Value} {d : DataW H} {p : List MemPlace} {b0 : Nat} (hv : Value.okWide Try.prog W .any b0 33 v)
    (h : DataW.Trod enc Try.prog W 0 (fun _ => true) true 33 v d p) (hlt : ∀ x ∈ p, x.block < W.heap.size) :
    ∃ (A : Option Addr) (n c : Nat) (ps : List Pr), v = .slice A n c ∧ n ≤ maxLen ∧ ps.length = n ∧ Reads W W.heap.size 4 A n (pcells ps) := by
  obtain ⟨A, n, c, xs, rfl, h1, h2, _, hr, hall⟩ := open_slice_arg (n := 5) (ls := [3, 3, 3, 3]) Try.underlying33 (by kernel_rfl) (by kernel_rfl) rfl hv h hlt
  have key : ∀ l, l ≤ n → ∃ ps : List Pr, ps.length = l ∧ xs.take (l * 4) = pcells ps := by
    intro l
    induction l with
    | zero => exact fun _ => ⟨[], rfl, by simp [pcells]⟩
    | succ l ih =>
      intro hl
      obtain ⟨ps, e1, e2⟩ := ih (by omega)
      have ha := hall l (by omega)
      simp only [List.length_cons, List.length_nil] at ha
      have hx : (xs.drop (l * 4)).take 4 = (xs.drop (l * 4)).take 4 := rfl
      generalize hc : (xs.drop (l * 4)).take 4 = cs at *
      match cs, ha with
      | [c0, c1, c2, c3], ⟨h0, h1, h2, h3, _⟩ =>
        obtain ⟨n0, rfl, _⟩ := h0.int Try.underlying3
        obtain ⟨n1, rfl, _⟩ := h1.int Try.underlying3
        obtain ⟨n2, rfl, _⟩ := h2.int Try.underlying3
        obtain ⟨n3, rfl, _⟩ := h3.int Try.underlying3
        refine ⟨ps ++ [⟨n0, n1, n2, n3⟩], by simp [e1], ?_⟩
        rw [Nat.succ_mul, List.take_add, e2, hc]
        simp [pcells, Pr.cells, iz]
  obtain ⟨ps, e1, e2⟩ := key n (Nat.le_refl _)
  refine ⟨A, n, c, ps, rfl, by omega, e1, ?_⟩
  have e3 : xs.length = n * 4 := hr.1
  rw [List.take_of_length_le (Nat.le_of_eq e3)] at e2
  rw [← e2]
  exact hr
theorem own : ownKnob Try.prog.godebug = none := by kernel_rfl
theorem laidOut : laidOutB Try.prog = true := by kernel_rfl

/-! ### The row's step -/
set_option maxRecDepth 100000 in
theorem bestFirst_lifted (os : Os) (started : os.Started) (H : Type) (enc : TypeId × Value → H) :
    ReturnsInHanded {} Try.checked os 4 .any (Rows.bestFirstSpec.pre6 enc Try.prog Try.f4 Rows.bestFirstRow.domain false) (Rows.bestFirstSpec.post enc Try.prog Try.f4 false true false false) := by
  refine returnsInHanded_of_change (C := Try.checked) own started (by kernel_rfl) Try.func4
    (ChangeSpec.witness6 (enc := enc) (C := Try.checked) false ⟨#[], #[.slice none 0 0], []⟩ 8 (by kernel_rfl) (by kernel_rfl) (by kernel_rfl) (by kernel_rfl)) ?_
  intro W base args ds gs before hval0 hW _ _
  have hval : ∀ (j : Nat) t v, Try.f4.params[j]? = some t → args[j]? = some v → Value.okWide Try.prog W .any base t v := hval0
  have hW' := hW
  obtain ⟨p, q, hA0, hV, rfl, hfz, hnd⟩ := hW
  have hA : DataW.TrodAll enc Try.prog W 0 (fun _ => true) true Try.f4.params.toList args.toList ds p := hA0
  rw [Try.params4] at hA hval
  obtain ⟨v0, d0, rfl, rfl, h0⟩ := trodAll_one hA
  obtain ⟨A, n, c, ps, rfl, hn, hl, hr⟩ := open_priors (hval 0 33 v0 rfl rfl) h0 (fun x hx => hW'.lt x (by simp [hx]))
  exact law_post laidOut (by kernel_rfl) rfl (by kernel_rfl) Try.underlying4 rfl hW' (bestFirst_calls A n c ps W hr hl hn)

theorem bestFirst_holds : Rows.BestFirstSaid :=
  OpenClaim.holds_of_wide 4 Try.f4 rfl rfl rfl rfl rfl rfl rfl ⟨rfl, rfl, rfl, rfl, rfl⟩ rfl rfl rfl rfl rfl (by kernel_rfl) Try.func4 (by kernel_rfl)
    (of_decide_eq_true (by kernel_rfl)) (by unfold Func.isWrapper; first | (rw [if_pos (by decide +kernel)]; kernel_rfl) | (rw [if_neg (by decide +kernel)]; exact ⟨rfl, rfl⟩))
    (fun os started H enc _ => bestFirst_lifted os started H enc)

#print axioms bestFirst_holds
end Go.Proofs.Ytklpgdmcijbleaa
