/-
  Layer 19's comparisons: cmp.Compare, cmp.Or, best.Cmp, (best.Vec).Cmp, the reference's Cmp, row: what they give, as plain functions of numbers.
-/
import Derived.Test.YtcdgofndfajekaaRows
import Derived.Test.YtcdgofndfajekaaKit
import Derived.WalkKit
import Derived.ProofKit
import Derived.OpenShut
import Derived.LoopTactic
import Derived.WalkLawsBesides
import Derived.WalkSpells
import Derived.Outline
import Derived.Lib.Hide
import Derived.Deep.Light
import Derived.Deep.RegionHeld3
import Derived.Deep.DrawnRows
import Derived.BigQuiet
import Derived.StillTailTactics
namespace Go.Proofs.Ytcdgofndfajekaa
open Go.RowKit
attribute [local go_sem ↓] Go.wp_at_zero Go.wp_at_succ

def cmpI (a b : Int) : Int := if a < b then -1 else if b < a then 1 else 0
def orI : List Int → Int
  | [] => 0
  | x :: xs => if x = 0 then orI xs else x
structure Pr where
  one : Int
  cls : Int
  two : Int
  id : Int
structure Vc where
  root : Pr
  steps : Int
  src : Int
  port : Int
  at_ : Int
def iz (n : Int) : Value := .int .i64 n
def Pr.cells (p : Pr) : List Value := [iz p.one, iz p.cls, iz p.two, iz p.id]
def Pr.val (p : Pr) : Value := .agg p.cells.toArray
def Vc.cells (v : Vc) : List Value := v.root.cells ++ [iz v.steps, iz v.src, iz v.port, iz v.at_]
def Vc.val (v : Vc) : Value := .agg v.cells.toArray
def cmpP (p q : Pr) : Int := orI [cmpI p.one q.one, cmpI p.cls q.cls, cmpI p.two q.two, cmpI p.id q.id]
def cmpV (v w : Vc) : Int := orI [cmpP v.root w.root, cmpI v.steps w.steps, cmpI v.src w.src, cmpI v.port w.port, cmpI v.at_ w.at_]


theorem orI_drop {xs : List Int} {k : Nat} {x : Int} (h : xs[k]? = some x) : orI (xs.drop k) = if x = 0 then orI (xs.drop (k + 1)) else x := by
  obtain ⟨hk, rfl⟩ := List.getElem?_eq_some_iff.1 h
  rw [List.drop_eq_getElem_cons hk]
  rfl

theorem compare_any (a b : Int) (w : World) : Calls Try.prog 26 #[.int .i64 a, .int .i64 b] w fun e w' => e = .returned (.int .i64 (cmpI a b)) ∧ w = w' := by
  by_cases h1 : a < b
  · go_enter Try.func26, Try.ntmps26
    go_wp2
    go_ret
    exact ⟨ret_int (by rw [cmpI, if_pos h1]), rfl⟩
  · by_cases h2 : b < a
    · go_enter Try.func26, Try.ntmps26
      go_wp2
      go_ret
      exact ⟨ret_int (by rw [cmpI, if_neg (by omega), if_pos h2]), rfl⟩
    · go_enter Try.func26, Try.ntmps26
      go_wp2
      go_ret
      exact ⟨ret_int (by rw [cmpI, if_neg (by omega), if_neg (by omega)]), rfl⟩
theorem compare_same (a b : Int) (w : World) : Calls Try.prog 26 #[.int .i64 a, .int .i64 b] w fun e w' => e = .returned (.int .i64 (cmpI a b)) ∧ w' = w :=
  (compare_any a b w).mono fun _ _ ⟨h1, h2⟩ => ⟨h1, h2.symm⟩

theorem or_any (A : Option Addr) (n c : Nat) (xs : List Int) (w : World) (B : Nat) (hr : Reads w B 1 A n (xs.map iz)) (hn : n ≤ maxLen) :
    Calls Try.prog 25 #[.slice A n c] w fun e w' => e = .returned (.int .i64 (orI xs)) ∧ w = w' := by
  unfold maxLen at hn
  have hlen : xs.length = n := by have := hr.1; simpa using this
  go_enter Try.func25, Try.ntmps25
  go_wp2
  go_loop [8] (fun i => ∃ k : Nat, k ≤ n ∧ i = .int .i64 k ∧ Hid (orI xs = orI (xs.drop k))) (fun i => n - (intOf i).toNat)
  case atStart => exact ⟨0, Nat.zero_le _, rfl, rfl⟩
  case round =>
    obtain ⟨k, hk, rfl, hs⟩ := hrel
    by_cases hlt : k < n
    · obtain ⟨ad, v, rfl, _, hx, hc⟩ := hr.at_ hlt
      obtain ⟨x, hx1, rfl⟩ := getElem?_map_some hx
      have HS := Lib.hid (hs.out.trans (orI_drop hx1))
      clear hs hx hx1
      unfold iz at hc
      by_cases h0 : x = 0
      · have t0 : (x == 0) = true := by simp [h0]
        have HZ := Lib.hid h0
        clear h0
        go_wp2
        go_round
        case rel => exact ⟨k + 1, by omega, by go_num, HS.out.trans (by rw [if_pos HZ.out])⟩
        case measure => simp [intOf]; omega
      · have t0 : (x == 0) = false := by simp [h0]
        go_wp2
        go_ret
        exact ⟨ret_int (by rw [HS.out, if_neg h0]), rfl⟩
    · obtain rfl : n = k := by omega
      go_wp2
      go_ret
      refine ⟨ret_int ?_, rfl⟩
      rw [hs.out, List.drop_eq_nil_of_le (by omega)]
      rfl

theorem one_i64 (n : Int) : (iz n).oneCell' = true := rfl

/-- The boxes and the row that Cmp makes lie in new blocks: below all is as it was. -/
theorem cmpP_any (p q : Pr) (w : World) : Calls Try.prog 18 #[p.val, q.val] w fun e w' => e = .returned (.int .i64 (cmpP p q)) ∧ Below w.heap.size w w' := by
  unfold Pr.val Pr.cells iz
  go_enter Try.func18, Try.ntmps18
  go_wp2_with fail
  refine wp_region_class_tail 20 (fun w' => Below (w.heap.size + 2) ((w.alloc (.cells #[.int .i64 p.one, .int .i64 p.cls, .int .i64 p.two, .int .i64 p.id] 23)).alloc (.cells #[.int .i64 q.one, .int .i64 q.cls, .int .i64 q.two, .int .i64 q.id] 23)) w') (by kernel_rfl) (by kernel_rfl) (Below.refl _ _).drew ?_; simp only [List.take_succ_cons, List.take_zero, List.drop_succ_cons, List.drop_zero]
  repeat (first | (refine wpQuiet_val (v := ?_) ?_ ?_ ?_; rotate_left; (first | rfl | (go_simp; done)); (intro w' hw'; obtain ⟨hc, hf⟩ := bcell hw'; go_simp; with_reducible rfl); simp only [Act.put, List.setIfInBounds_toArray, List.set_cons_zero, List.set_cons_succ]) | (refine wpQuiet_call (v := ?_) 26 ?_ ?_ ?_ ?_ ?_; rotate_left 2; (first | rfl | (go_simp; done)); (intro w' hw'; obtain ⟨hc, hf⟩ := bcell hw'; go_simp; with_reducible rfl); (intro w' hw'; (with_reducible refine (compare_any _ _ _).mono ?_); rintro e w2 ⟨rfl, rfl⟩; refine ⟨?_, hw'⟩; with_reducible rfl); simp only [Act.put, List.setIfInBounds_toArray, List.set_cons_zero, List.set_cons_succ]))
  refine wpQuiet_nil ?_
  intro w2 hw2
  have hb2 : Below w.heap.size w w2 := (((Below.refl _ _).alloc (Nat.le_refl _) _).alloc (by simp) _).trans (hw2.mono (by omega))
  clear hw2
  have hs2 := hb2.size
  go_wp2_with fail
  refine (or_any (some ⟨w2.heap.size, 0, none⟩) 4 4 [cmpI p.one q.one, cmpI p.cls q.cls, cmpI p.two q.two, cmpI p.id q.id] _ _ (Reads.of_own (ownsRow_new w2 (n := 4) (base := 0) (Nat.zero_le _) rfl (by simp [maxLen]))) (by simp [maxLen])).mono ?_
  rintro e w3 ⟨rfl, rfl⟩
  go_wp2
  go_ret
  exact ⟨rfl, hb2.alloc hs2 _⟩

theorem cmpV_any (p q : Vc) (w : World) : Calls Try.prog 27 #[p.val, q.val] w fun e w' => e = .returned (.int .i64 (cmpV p q)) ∧ Below w.heap.size w w' := by
  have hcall := fun W => cmpP_any p.root q.root W
  unfold Pr.val Pr.cells iz at hcall
  have HC := Lib.hid hcall
  clear hcall
  unfold Vc.val Vc.cells Pr.cells iz
  simp only [List.cons_append, List.nil_append]
  go_enter Try.func27, Try.ntmps27
  go_wp2_with fail
  refine wp_region_class_tail 25 (fun w' => Below (w.heap.size + 2) ((w.alloc (.cells #[.int .i64 p.root.one, .int .i64 p.root.cls, .int .i64 p.root.two, .int .i64 p.root.id, .int .i64 p.steps, .int .i64 p.src, .int .i64 p.port, .int .i64 p.at_] 31)).alloc (.cells #[.int .i64 q.root.one, .int .i64 q.root.cls, .int .i64 q.root.two, .int .i64 q.root.id, .int .i64 q.steps, .int .i64 q.src, .int .i64 q.port, .int .i64 q.at_] 31)) w') (by kernel_rfl) (by kernel_rfl) (Below.refl _ _).drew ?_; simp only [List.take_succ_cons, List.take_zero, List.drop_succ_cons, List.drop_zero]
  repeat (first | (refine wpQuiet_val (v := ?_) ?_ ?_ ?_; rotate_left; (first | rfl | (go_simp; done)); (intro w' hw'; obtain ⟨hc, hf⟩ := bcell hw'; go_simp; with_reducible rfl); simp only [Act.put, List.setIfInBounds_toArray, List.set_cons_zero, List.set_cons_succ]) | (refine wpQuiet_call (v := ?_) 26 ?_ ?_ ?_ ?_ ?_; rotate_left 2; (first | rfl | (go_simp; done)); (intro w' hw'; obtain ⟨hc, hf⟩ := bcell hw'; go_simp; with_reducible rfl); (intro w' hw'; (with_reducible refine (compare_any _ _ _).mono ?_); rintro e w2 ⟨rfl, rfl⟩; refine ⟨?_, hw'⟩; with_reducible rfl); simp only [Act.put, List.setIfInBounds_toArray, List.set_cons_zero, List.set_cons_succ]) | (refine wpQuiet_call (v := ?_) 18 ?_ ?_ ?_ ?_ ?_; rotate_left 2; (first | rfl | (go_simp; done)); (intro w' hw'; obtain ⟨hc, hf⟩ := bcell hw'; go_simp; with_reducible rfl); (intro w' hw'; (with_reducible refine (HC.out _).mono ?_); rintro e w2 ⟨rfl, hb⟩; refine ⟨?_, hw'.trans (hb.mono (by have h0 := hw'.size; first | omega | (simp at h0; omega)))⟩; with_reducible rfl); simp only [Act.put, List.setIfInBounds_toArray, List.set_cons_zero, List.set_cons_succ]))
  refine wpQuiet_nil ?_
  intro w2 hw2
  have hb2 : Below w.heap.size w w2 := (((Below.refl _ _).alloc (Nat.le_refl _) _).alloc (by simp) _).trans (hw2.mono (by omega))
  clear hw2
  have hs2 := hb2.size
  go_wp2_with fail
  refine (or_any (some ⟨w2.heap.size, 0, none⟩) 5 5 [cmpP p.root q.root, cmpI p.steps q.steps, cmpI p.src q.src, cmpI p.port q.port, cmpI p.at_ q.at_] _ _ (Reads.of_own (ownsRow_new w2 (n := 5) (base := 0) (Nat.zero_le _) rfl (by simp [maxLen]))) (by simp [maxLen])).mono ?_
  rintro e w3 ⟨rfl, rfl⟩
  go_wp2
  go_ret
  exact ⟨rfl, hb2.alloc hs2 _⟩

/-! ### The reference: numbers in a row, the first that differs counts -/
def lexR : List Int → List Int → Int
  | x :: xs, y :: ys => if x < y then -1 else if y < x then 1 else lexR xs ys
  | _, _ => 0
theorem lexR_step {xs ys : List Int} {k n : Nat} {x y : Int} (hx : xs[k]? = some x) (hy : ys[k]? = some y) (hk : k < n) :
    lexR ((xs.take n).drop k) ((ys.take n).drop k) = if x < y then -1 else if y < x then 1 else lexR ((xs.take n).drop (k + 1)) ((ys.take n).drop (k + 1)) := by
  obtain ⟨h1, rfl⟩ := List.getElem?_eq_some_iff.1 hx
  obtain ⟨h2, rfl⟩ := List.getElem?_eq_some_iff.1 hy
  rw [List.drop_eq_getElem_cons (by rw [List.length_take]; omega), List.drop_eq_getElem_cons (l := ys.take n) (by rw [List.length_take]; omega)]
  simp only [List.getElem_take]
  rfl

theorem refCmp_any (xs ys : List Int) (n : Nat) (hx : xs.length = 8) (hy : ys.length = 8) (hn : n ≤ 8) (w : World) :
    Calls Try.prog 23 #[.agg (xs.map iz).toArray, .agg (ys.map iz).toArray, .int .i64 n] w fun e w' => e = .returned (.int .i64 (lexR (xs.take n) (ys.take n))) ∧ Below w.heap.size w w' := by
  obtain ⟨ax, hax⟩ : ∃ ax, ax = (xs.map iz).toArray := ⟨_, rfl⟩
  obtain ⟨ay, hay⟩ : ∃ ay, ay = (ys.map iz).toArray := ⟨_, rfl⟩
  rw [← hax, ← hay]
  have hax' := Lib.hid hax
  have hay' := Lib.hid hay
  clear hax hay
  go_enter Try.func23, Try.ntmps23
  go_wp2_with fail
  go_loopw [7] (fun i wr => ∃ k : Nat, k ≤ n ∧ i = .int .i64 k ∧ Hid (lexR (xs.take n) (ys.take n) = lexR ((xs.take n).drop k) ((ys.take n).drop k)) ∧ Blk wr w.heap.size 46 ax ∧ Blk wr (w.heap.size + 1) 46 ay ∧ Below w.heap.size w wr) (fun i _ => n - (intOf i).toNat)
  case atStart =>
    refine ⟨0, Nat.zero_le _, rfl, rfl, (Blk.new w _ ax).alloc _, ?_, ((Below.refl _ _).alloc (Nat.le_refl _) _).alloc (by simp) _⟩
    have h := Blk.new (w.alloc (.cells ax 46)) 46 ay
    simpa using h
  case round =>
    obtain ⟨k, hk, rfl, hs, hbx, hby, hb⟩ := hrel
    have hbs := hb.size
    by_cases hlt : k < n
    · have gx : xs[k]? = some (xs[k]'(by omega)) := List.getElem?_eq_getElem _
      have gy : ys[k]? = some (ys[k]'(by omega)) := List.getElem?_eq_getElem _
      obtain ⟨x, hx1⟩ : ∃ x, x = xs[k]'(by omega) := ⟨_, rfl⟩
      obtain ⟨y, hy1⟩ : ∃ y, y = ys[k]'(by omega) := ⟨_, rfl⟩
      rw [← hx1] at gx
      rw [← hy1] at gy
      have HS := Lib.hid (hs.out.trans (lexR_step gx gy hlt))
      have cx : wr.cell? ⟨w.heap.size, k, none⟩ = some (.int .i64 x) := by rw [hbx.cell, hax'.out]; simp [gx, iz]
      have cy : wr.cell? ⟨w.heap.size + 1, k, none⟩ = some (.int .i64 y) := by rw [hby.cell, hay'.out]; simp [gy, iz]
      have b8 : (k : Int) < 8 := by omega
      have b0 : (0 : Int) ≤ (k : Int) := by omega
      clear hs gx gy hx1 hy1
      by_cases h1 : x < y
      · go_wp2_with fail
        go_quiet (fail)
        go_wp2
        go_ret
        exact ⟨ret_int (by rw [HS.out, if_pos (by omega)]), by repeat (first | exact hb | apply below_drewN)⟩
      · have h1' : y ≤ x := by omega
        by_cases h2 : y < x
        · go_wp2_with fail
          go_quiet (fail)
          go_wp2_with fail
          go_quiet (fail)
          go_wp2
          go_ret
          exact ⟨ret_int (by rw [HS.out, if_neg (by omega), if_pos (by omega)]), by repeat (first | exact hb | apply below_drewN)⟩
        · have h2' : x ≤ y := by omega
          go_wp2_with fail
          go_quiet (fail)
          go_wp2_with fail
          go_quiet (fail)
          go_wp2
          go_roundw
          case rel => exact ⟨k + 1, by omega, by go_num, HS.out.trans (by rw [if_neg (by omega), if_neg (by omega)]), by repeat (first | exact hbx | apply Blk.drewN), by repeat (first | exact hby | apply Blk.drewN), by repeat (first | exact hb | apply below_drewN)⟩
          case measure => simp [intOf]; omega
    · obtain rfl : n = k := by omega
      go_wp2
      go_ret
      refine ⟨ret_int ?_, hb⟩
      rw [hs.out, List.drop_eq_nil_of_le (by rw [List.length_take]; omega)]
      rfl

/-! ### The plain law: the two orders are one, and an order -/
def Vc.ints (v : Vc) : List Int := [v.root.one, v.root.cls, v.root.two, v.root.id, v.steps, v.src, v.port, v.at_]
theorem Vc.cells_ints (v : Vc) : v.cells = v.ints.map iz := rfl
theorem lexR_cons (x y : Int) (xs ys : List Int) : lexR (x :: xs) (y :: ys) = if cmpI x y = 0 then lexR xs ys else cmpI x y := by
  simp only [lexR, cmpI]
  by_cases h1 : x < y
  · simp [h1]
  · by_cases h2 : y < x
    · simp [h1, h2]
    · simp [h1, h2]
theorem lexR_nil : lexR [] [] = 0 := rfl
theorem orI_cons (x : Int) (xs : List Int) : orI (x :: xs) = if x = 0 then orI xs else x := rfl
theorem cmpP_lex (p q : Pr) : lexR [p.one, p.cls, p.two, p.id] [q.one, q.cls, q.two, q.id] = cmpP p q := by
  simp only [lexR_cons, lexR_nil, cmpP, orI_cons]
  rfl
theorem cmpV_lex (p q : Vc) : lexR p.ints q.ints = cmpV p q := by
  simp only [Vc.ints, lexR_cons, lexR_nil, cmpV, cmpP, orI_cons]
  simp only [orI]
  by_cases h1 : cmpI p.root.one q.root.one = 0 <;> by_cases h2 : cmpI p.root.cls q.root.cls = 0 <;> by_cases h3 : cmpI p.root.two q.root.two = 0 <;> by_cases h4 : cmpI p.root.id q.root.id = 0 <;> simp [h1, h2, h3, h4]
/-- Whoever is the lesser by 'lexR': an order. -/
theorem cmpI_range (a b : Int) : cmpI a b = -1 ∨ cmpI a b = 0 ∨ cmpI a b = 1 := by unfold cmpI; split; exact .inl rfl; split; exact .inr (.inr rfl); exact .inr (.inl rfl)
theorem cmpI_neg (a b : Int) : cmpI b a = -cmpI a b := by unfold cmpI; repeat' split; all_goals omega
theorem lexR_self (xs : List Int) : lexR xs xs = 0 := by
  induction xs with
  | nil => rfl
  | cons x xs ih => rw [lexR_cons, ih]; simp [cmpI]
theorem lexR_neg : ∀ (xs ys : List Int), lexR ys xs = -lexR xs ys
  | [], [] => rfl
  | [], _ :: _ => rfl
  | _ :: _, [] => rfl
  | x :: xs, y :: ys => by
    rw [lexR_cons, lexR_cons, cmpI_neg x y, lexR_neg xs ys]
    by_cases h : cmpI x y = 0 <;> simp [h]
theorem lexR_range : ∀ (xs ys : List Int), lexR xs ys = -1 ∨ lexR xs ys = 0 ∨ lexR xs ys = 1
  | [], [] => .inr (.inl rfl)
  | [], _ :: _ => .inr (.inl rfl)
  | _ :: _, [] => .inr (.inl rfl)
  | x :: xs, y :: ys => by
    rw [lexR_cons]
    split
    · exact lexR_range xs ys
    · exact cmpI_range x y
theorem lexR_trans : ∀ (xs ys zs : List Int), xs.length = ys.length → ys.length = zs.length → lexR xs ys ≤ 0 → lexR ys zs ≤ 0 → lexR xs zs ≤ 0 ∧ (lexR xs ys < 0 ∨ lexR ys zs < 0 → lexR xs zs < 0)
  | [], [], [], _, _, _, _ => ⟨Int.le_refl _, fun h => by rcases h with h | h <;> exact absurd h (by decide)⟩
  | x :: xs, y :: ys, z :: zs, hl1, hl2, h1, h2 => by
    have ih := lexR_trans xs ys zs (by simpa using hl1) (by simpa using hl2)
    simp only [lexR] at h1 h2 ⊢
    by_cases a1 : x < y <;> by_cases a2 : y < x <;> by_cases b1 : y < z <;> by_cases b2 : z < y <;> simp only [a1, a2, b1, b2, if_true, if_false] at h1 h2 ⊢ <;> first
      | omega
      | (rw [if_pos (by omega)]; omega)
      | (rw [if_neg (by omega), if_neg (by omega)]; exact ih h1 h2)
theorem cmpV_self (p : Vc) : cmpV p p = 0 := by rw [← cmpV_lex, lexR_self]
theorem cmpV_neg (p q : Vc) : cmpV q p = -cmpV p q := by rw [← cmpV_lex, ← cmpV_lex, lexR_neg]
theorem cmpV_range (p q : Vc) : cmpV p q = -1 ∨ cmpV p q = 0 ∨ cmpV p q = 1 := by rw [← cmpV_lex]; exact lexR_range _ _
theorem cmpV_trans (p q r : Vc) (h1 : cmpV p q < 0) (h2 : cmpV q r < 0) : cmpV p r < 0 := by
  rw [← cmpV_lex] at *
  exact (lexR_trans p.ints q.ints r.ints rfl rfl (by omega) (by omega)).2 (.inl h1)
theorem cmpP_self (p : Pr) : cmpP p p = 0 := by rw [← cmpP_lex, lexR_self]
theorem cmpP_neg (p q : Pr) : cmpP q p = -cmpP p q := by rw [← cmpP_lex, ← cmpP_lex, lexR_neg]
theorem cmpP_range (p q : Pr) : cmpP p q = -1 ∨ cmpP p q = 0 ∨ cmpP p q = 1 := by rw [← cmpP_lex]; exact lexR_range _ _
theorem cmpP_trans (p q r : Pr) (h1 : cmpP p q ≤ 0) (h2 : cmpP q r ≤ 0) : cmpP p r ≤ 0 ∧ (cmpP p q < 0 ∨ cmpP q r < 0 → cmpP p r < 0) := by
  rw [← cmpP_lex] at *
  rw [← cmpP_lex] at *
  rw [← cmpP_lex] at *
  exact lexR_trans _ _ _ rfl rfl h1 h2

theorem rc8 (p q : Vc) (w : World) : Calls Try.prog 23 #[.agg p.cells.toArray, .agg q.cells.toArray, .int .i64 8] w fun e w' => e = .returned (.int .i64 (cmpV p q)) ∧ Below w.heap.size w w' := by
  have h := refCmp_any p.ints q.ints 8 rfl rfl (Nat.le_refl _) w
  rw [List.take_of_length_le (Nat.le_refl 8), List.take_of_length_le (Nat.le_refl 8), cmpV_lex] at h
  exact h
theorem rc4 (p q : Vc) (w : World) : Calls Try.prog 23 #[.agg p.cells.toArray, .agg q.cells.toArray, .int .i64 4] w fun e w' => e = .returned (.int .i64 (cmpP p.root q.root)) ∧ Below w.heap.size w w' := by
  have h := refCmp_any p.ints q.ints 4 rfl rfl (by omega) w
  have e : lexR (p.ints.take 4) (q.ints.take 4) = cmpP p.root q.root := cmpP_lex p.root q.root
  rw [e] at h
  exact h
end Go.Proofs.Ytcdgofndfajekaa
