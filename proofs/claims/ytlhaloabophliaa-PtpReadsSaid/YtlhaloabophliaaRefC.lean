/-
  Layer 6's reference: Check, walked.
-/
import Derived.Test.YtlhaloabophliaaRefB
namespace Go.Proofs.Ytlhaloabophliaa
set_option linter.unusedSimpArgs false
set_option linter.unusedVariables false
open Go.RowKit Go.WideShapes Go.ChangeShapes
attribute [local go_sem ↓] Go.wp_at_zero Go.wp_at_succ

def hadC (fs : List (Int × Int)) : Array Value := rowF 15 fun j => .bool (hadB fs j)
def sizeNN : List Nat := [0, 1, 2, 6, 2, 8, 8, 6, 2, 8, 1, 1, 1, 6, 1]
def sizeC : Array Value := rowF 15 fun j => .int .i64 ((sizeNN.getD j 0 : Nat) : Int)
theorem size_same : ∀ j, j < 15 → sizeOfN.getD j 0 = ((sizeNN.getD j 0 : Nat) : Int) := by decide
theorem size_okN : ∀ j, j < 15 → (sizeNN.getD j 0 ≤ 6 ∨ sizeNN.getD j 0 = 8) := by decide
theorem fields_fit {k : Int} {f : Int × Int} (h : f ∈ fieldsL k) : ∃ x y : Nat, f = ((x : Int), (y : Int)) ∧ 1 ≤ x ∧ x < 15 ∧ (y ≤ 6 ∨ y = 8) ∧ sizeNN.getD x 0 = y := by
  have key : ∀ fs : List (Int × Int), (fs.all fun f => decide (1 ≤ f.1 ∧ f.1 < 15 ∧ (0 ≤ f.2 ∧ f.2 ≤ 6 ∨ f.2 = 8)) && (sizeNN.getD f.1.toNat 0 == f.2.toNat)) = true → f ∈ fs → ∃ x y : Nat, f = ((x : Int), (y : Int)) ∧ 1 ≤ x ∧ x < 15 ∧ (y ≤ 6 ∨ y = 8) ∧ sizeNN.getD x 0 = y := by
    intro fs hfs hf
    have := List.all_eq_true.1 hfs f hf
    simp only [Bool.and_eq_true, decide_eq_true_eq, beq_iff_eq] at this
    refine ⟨f.1.toNat, f.2.toNat, ?_, by omega, by omega, by omega, this.2⟩
    rw [Int.toNat_of_nonneg (by omega), Int.toNat_of_nonneg (by omega)]
  unfold fieldsL at h
  split at h
  · exact key _ (by decide) h
  · split at h
    · exact key _ (by decide) h
    · split at h
      · exact key _ (by decide) h
      · split at h
        · exact key _ (by decide) h
        · exact key _ (by decide) h
theorem fields_len (k : Int) : (fieldsL k).length ≤ 10 := by
  unfold fieldsL
  (repeat' split) <;> decide
theorem hadC_step {fs : List (Int × Int)} {j x : Nat} {y : Int} (h : fs[j]? = some ((x : Int), y)) (hx : x < 15) : (hadC (fs.take j)).setIfInBounds x (.bool true) = hadC (fs.take (j + 1)) := by
  have e : fs.take (j + 1) = fs.take j ++ [((x : Int), y)] := by rw [List.take_add_one, h]; rfl
  unfold hadC
  rw [e]
  refine rowF_set ?_ fun i hi => ?_
  · unfold hadB
    simp
  · unfold hadB
    congr 1
    simp only [List.any_append, List.any_cons, List.any_nil, Bool.or_false]
    rw [show (((x : Int)) == (i : Int)) = false from beq_eq_false_iff_ne.2 (by omega), Bool.or_false]
theorem ints_get (m : Mg) (A : Option Addr) (n c j : Nat) (hj : j < 15) : (mcells m A n c)[j]? = some (.int .i64 (m.ints.getD j 0)) := by
  have h : ∀ j, j < 15 → (mcells m A n c)[j]? = some (.int .i64 (m.ints.getD j 0)) := by
    intro j hj
    match j, hj with
    | 0, _ => rfl
    | 1, _ => rfl
    | 2, _ => rfl
    | 3, _ => rfl
    | 4, _ => rfl
    | 5, _ => rfl
    | 6, _ => rfl
    | 7, _ => rfl
    | 8, _ => rfl
    | 9, _ => rfl
    | 10, _ => rfl
    | 11, _ => rfl
    | 12, _ => rfl
    | 13, _ => rfl
    | 14, _ => rfl
  exact h j hj
set_option maxRecDepth 100000 in
set_option maxHeartbeats 8000000 in
theorem rcheck_any (m : Mg) (A : Option Addr) (n c : Nat) (w : World) (hr : Reads w w.heap.size 1 A n (vs m.path)) (hl : m.path.length = n) (hn : n ≤ 100000) :
    Calls Try.prog 20 #[.agg (mcells m A n c)] w fun e w' => e = .returned (.int .i64 (checkV m)) ∧ Below w.heap.size w w' := by
  have M0 := Blk.new w 40 (mcells m A n c)
  have L0 := (Below.refl w.heap.size w).alloc (Nat.le_refl _) (.cells (mcells m A n c) 40)
  have hz0 : w.heap.size + 1 = (w.alloc (.cells (mcells m A n c) 40)).heap.size := by simp
  have x0 := M0.cellOf (v := .int .i64 m.kind) 0 rfl
  have HL := Lib.hid hl
  clear hl
  by_cases hk : Known m.kind
  case neg =>
    have HV := Lib.hid (check_unknown hk)
    go_enter Try.func20, Try.ntmps20
    go_wp2_with fail
    refine (fields_any m.kind _).mono ?_
    rintro e w1 ⟨F, k, cF, rfl, hfl, hF, _, hb1⟩
    rw [decide_eq_false hk]
    have L1 := L0.trans (hb1.mono (by omega))
    clear hk hF hb1 M0 x0
    go_wp2_with fail
    go_ret
    exact ⟨ret_int HV.out.symm, L1⟩
  have HK := Lib.hid hk
  have HV := Lib.hid (check_good hk)
  go_enter Try.func20, Try.ntmps20
  go_wp2_with fail
  generalize w.alloc (.cells (mcells m A n c) 40) = w0 at *
  refine (fields_any m.kind _).mono ?_
  rintro e w1 ⟨F, k, cF, rfl, hfl, hF, _, hb1⟩
  rw [decide_eq_true hk]
  have L1 := L0.trans (hb1.mono (by omega))
  have M1 := M0.kept hb1
  have hz1 : w.heap.size < w1.heap.size := M1.lt
  have HF := Lib.hid hF
  have HFL := Lib.hid hfl
  have hk10 : k ≤ 10 := by rw [← hfl]; exact fields_len _
  have R1 := hr.below L1
  clear hk hF hb1 M0 x0 L0 hz0
  have C1 : Blk (w1.alloc (.cells #[.bool true, .bool false, .bool false, .bool false, .bool false, .bool false, .bool false, .bool false, .bool false, .bool false, .bool false, .bool false, .bool false, .bool false, .bool false] 64)) w1.heap.size 64 (hadC ((fieldsL m.kind).take 0)) := Blk.new _ _ _
  have D1 : Below w1.heap.size w1 (w1.alloc (.cells #[.bool true, .bool false, .bool false, .bool false, .bool false, .bool false, .bool false, .bool false, .bool false, .bool false, .bool false, .bool false, .bool false, .bool false, .bool false] 64)) := (Below.refl _ _).alloc (Nat.le_refl _) _
  go_wp2_with (refine wpList_store_new rfl 64 (.tmp 5) (.tmp 21) rfl rfl rfl rfl rfl (by kernel_rfl) (by rw [← Array.all_toList]; rfl) ?_)
  generalize (w1.alloc (.cells #[.bool true, .bool false, .bool false, .bool false, .bool false, .bool false, .bool false, .bool false, .bool false, .bool false, .bool false, .bool false, .bool false, .bool false, .bool false] 64)) = w2 at *
  go_loopw [25] (fun i wr => ∃ j : Nat, j ≤ k ∧ i = .int .i64 j ∧ Blk wr w1.heap.size 64 (hadC ((fieldsL m.kind).take j)) ∧ Below w1.heap.size w1 wr) (fun i _ => k - (intOf i).toNat)
  case atStart => exact ⟨0, Nat.zero_le _, rfl, C1, D1⟩
  case round =>
    clear C1 D1
    obtain ⟨j, hj, rfl, C, D⟩ := hrel
    by_cases hlt : j < k
    · obtain ⟨f, hf⟩ : ∃ f, (fieldsL m.kind)[j]? = some f := ⟨_, List.getElem?_eq_getElem (by rw [HFL.out]; exact hlt)⟩
      obtain ⟨x, y, rfl, hx1, hx, _, _⟩ := fields_fit (List.mem_of_getElem? hf)
      have hF := HF.out.below D
      obtain ⟨ad, rfl, hblk, hc0, hcj⟩ := Reads.elem (f := fun f : Int × Int => [Value.int .i64 f.1, Value.int .i64 f.2]) (fun _ => rfl) hF hf hlt
      have p0 := hc0 _ rfl
      have p1 := hcj 1 _ (by omega) rfl
      simp only at p0 p1
      have q := C.cellOf (v := .bool (hadB ((fieldsL m.kind).take j) x)) x (by unfold hadC; exact rowF_get hx)
      have fz := C.frozen x
      have hs := C.lt
      have C2 := C.set_ x (.bool true)
      rw [hadC_step hf hx] at C2
      have C2 := C2.alloc (.cells #[.int .i64 (x : Int), .int .i64 (y : Int)] 59)
      have D2 := (D.setCell (p := ⟨w1.heap.size, x, none⟩) (Nat.le_refl _) (.bool true)).alloc (by have := D.size; simpa [World.setCell] using this) (.cells #[.int .i64 (x : Int), .int .i64 (y : Int)] 59)
      have HC := Lib.hid (And.intro C2 D2)
      clear C C2 D2 hf hF hc0 hcj hfl
      go_wp2_with fail
      go_roundw
      case rel => exact ⟨j + 1, by omega, by go_num, HC.out.1, HC.out.2⟩
      case measure => simp [intOf]; omega
    · obtain rfl : k = j := by omega
      rw [List.take_of_length_le (by rw [HFL.out]; exact Nat.le_refl _)] at C
      have M2 := M1.below D hz1
      have x1 := M2.cellOf (v := .int .i64 m.domain) 1 rfl
      have L2 := L1.trans (D.mono (by omega))
      have hzr := D.size
      have M3 := M2.alloc (.cells sizeC 38)
      have C3 := C.alloc (.cells sizeC 38)
      have Z3 := Blk.new wr 38 sizeC
      have L3 := L2.alloc (by omega) (.cells sizeC 38)
      have hzw : w.heap.size < wr.heap.size := by omega
      have hs3 : wr.heap.size < (wr.alloc (.cells sizeC 38)).heap.size := by simp
      clear M1 C D L2 hfl R1
      by_cases hd : 127 < m.domain
      · have hV : 1 = checkV m := by rw [HV.out, if_pos (fun h => by have := h.1; omega)]
        have HV2 := Lib.hid hV
        clear hV
        go_wp2_with fail
        go_ret
        exact ⟨ret_int HV2.out, L3⟩
      · have HD := Lib.hid hd
        have d1 : decide (127 < m.domain) = false := by simpa using hd
        clear hd
        go_wp2_with fail
        have W3 : wr.alloc (.cells sizeC 38) = wr.alloc (.cells #[.int .i64 0, .int .i64 1, .int .i64 2, .int .i64 6, .int .i64 2, .int .i64 8, .int .i64 8, .int .i64 6, .int .i64 2, .int .i64 8, .int .i64 1, .int .i64 1, .int .i64 1, .int .i64 6, .int .i64 1] 38) := rfl
        rw [W3] at M3 C3 Z3 L3 hs3
        generalize wr.alloc (.cells #[.int .i64 0, .int .i64 1, .int .i64 2, .int .i64 6, .int .i64 2, .int .i64 8, .int .i64 8, .int .i64 6, .int .i64 2, .int .i64 8, .int .i64 1, .int .i64 1, .int .i64 1, .int .i64 6, .int .i64 1] 38) = w3 at *
        have s1 := M3.lt
        have s2 := C3.lt
        clear W3 M2 x1 d1
        obtain ⟨gz, hgz⟩ : ∃ gz, gz = wr.heap.size := ⟨_, rfl⟩
        rw [← hgz] at Z3 hs3
        simp only [← hgz]
        clear hgz
        obtain ⟨wp, rfl⟩ : ∃ wp : World, wp = wr := ⟨_, rfl⟩
        go_loopw [9] (fun i wq => ∃ j : Nat, 1 ≤ j ∧ j ≤ 15 ∧ i = .int .i64 j ∧ Hid (∀ j', 1 ≤ j' → j' < j → goodB m j' = true) ∧ Below w3.heap.size w3 wq) (fun i _ => 15 - (intOf i).toNat)
        case atStart => exact ⟨1, Nat.le_refl _, by omega, rfl, Lib.hid (fun j' h1 h2 => by omega), Below.refl _ _⟩
        case round =>
          obtain ⟨j, hj1, hj2, rfl, HG, D⟩ := hrel
          by_cases hlt : j < 15
          · have MM := (M3.below D s1).cellOf (v := .int .i64 (m.ints.getD j 0)) j (ints_get m A n c j hlt)
            have CC := (C3.below D s2).cellOf (v := .bool (hadB (fieldsL m.kind) j)) j (by unfold hadC; exact rowF_get hlt)
            have ZZ := (Z3.below D hs3).cellOf (v := .int .i64 ((sizeNN.getD j 0 : Nat) : Int)) j (by unfold sizeC; exact rowF_get hlt)
            have HS := Lib.hid (And.intro (size_same j hlt) (size_okN j hlt))
            have z0 : w3.heap.size ≤ wr.heap.size := D.size
            have s1' : w.heap.size < wr.heap.size := by omega
            have s2' : w1.heap.size < wr.heap.size := by omega
            have s3' : gz < wr.heap.size := by omega
            have hgd : goodB m j = (fitsB (m.ints.getD j 0) (sizeOfN.getD j 0) && (hadB (fieldsL m.kind) j || m.ints.getD j 0 == 0)) := rfl
            rw [HS.out.1] at hgd
            generalize hX : m.ints.getD j 0 = X at *
            generalize hN : sizeNN.getD j 0 = N at *
            generalize hB : hadB (fieldsL m.kind) j = hb at *
            have HGD := Lib.hid hgd
            clear hX hN hB hgd M3 C3 Z3
            go_wp2_with fail
            cases ft : fitsB X N with
            | false =>
              have HFT := Lib.hid (fun W => (by have := fits_r X N HS.out.2 W; rw [ft] at this; exact this : Calls Try.prog 25 #[.int .i64 X, .int .i64 (N : Int)] W fun e w' => e = .returned (.bool false) ∧ W = w'))
              have hV : 1 = checkV m := by rw [HV.out, if_pos (fun h => by have := h.2.1 j hj1 hlt; rw [HGD.out] at this; simp [ft] at this)]
              have HV2 := Lib.hid hV
              clear hV ft
              have S0 : wr.drew.cell? ⟨w.heap.size, j, none⟩ = some (.int .i64 X) ∧ wr.drew.cell? ⟨w1.heap.size, j, none⟩ = some (.bool hb) ∧ wr.drew.cell? ⟨gz, j, none⟩ = some (.int .i64 (N : Int)) := ⟨MM, CC, ZZ⟩
              refine wp_region_script [(0, true), (1, true), (2, true), (3, true), (4, true), (5, true), (6, true), (7, false), (8, true), (9, true), (10, true), (11, true), (12, true), (13, true), (14, true), (15, true), (16, true), (17, true), (18, true), (19, true), (20, true), (21, true)] (fun w' => w'.cell? ⟨w.heap.size, j, none⟩ = some (.int .i64 X) ∧ w'.cell? ⟨w1.heap.size, j, none⟩ = some (.bool hb) ∧ w'.cell? ⟨gz, j, none⟩ = some (.int .i64 (N : Int))) (by kernel_rfl) (by kernel_rfl) (fun _ _ _ _ _ h => h) S0 ?_
              iterate 7 (refine script_take (v := ?_) rfl ?_ ?_ ?_; rotate_left; (first | rfl | (go_simp; done)); (rintro w' ⟨q1, q2, q3⟩;  go_simp; with_reducible rfl); simp only [Act.put, List.setIfInBounds_toArray, List.set_cons_zero, List.set_cons_succ])
              (refine script_call 25 ?_ rfl ?_ ?_ ?_; rotate_left; (first | rfl | (go_simp; done)); (go_simp; with_reducible rfl))
              refine (HFT.out _).mono ?_
              rintro e w2' ⟨rfl, rfl⟩
              refine ⟨_, rfl, S0, ?_⟩
              simp only [Act.put, List.setIfInBounds_toArray, List.set_cons_zero, List.set_cons_succ]
              iterate 2 (refine script_take (v := ?_) rfl ?_ ?_ ?_; rotate_left; (first | rfl | (go_simp; done)); (rintro w' ⟨q1, q2, q3⟩;  go_simp; with_reducible rfl); simp only [Act.put, List.setIfInBounds_toArray, List.set_cons_zero, List.set_cons_succ])
              iterate 11 (refine script_skip rfl ?_ ?_; (first | rfl | (go_simp; done)); simp only [Act.put, List.setIfInBounds_toArray, List.set_cons_zero, List.set_cons_succ])
              (refine script_take (v := ?_) rfl ?_ ?_ ?_; rotate_left; (first | rfl | (go_simp; done)); (rintro w' ⟨q1, q2, q3⟩;  go_simp; with_reducible rfl); simp only [Act.put, List.setIfInBounds_toArray, List.set_cons_zero, List.set_cons_succ])
              refine script_nil ?_
              have D4 : Below w3.heap.size w3 wr.drew := D.drew
              clear D S0 MM CC ZZ
              go_wp2_with fail
              go_ret
              exact ⟨ret_int HV2.out, L3.trans (D4.mono L3.size)⟩
            | true =>
              have HFT := Lib.hid (fun W => (by have := fits_r X N HS.out.2 W; rw [ft] at this; exact this : Calls Try.prog 25 #[.int .i64 X, .int .i64 (N : Int)] W fun e w' => e = .returned (.bool true) ∧ W = w'))
              cases hb with
              | true =>
                have HG2 : Hid (∀ j', 1 ≤ j' → j' < j + 1 → goodB m j' = true) := Lib.hid (fun j' h1 h2 => by
                  by_cases e : j' = j
                  · subst e; rw [HGD.out, ft]; simp
                  · exact HG.out j' h1 (by omega))
                refine wp_region_class (fun w' => Below wr.heap.size wr w') (by kernel_rfl) (by kernel_rfl) (Below.refl _ _).drew ?_
                repeat (first | (refine wpQuiet_skip ?_ ?_; rfl; simp only [Act.put, List.setIfInBounds_toArray, List.set_cons_zero, List.set_cons_succ]) | (refine wpQuiet_val (v := ?_) ?_ ?_ ?_; rotate_left; rfl; (intro w' hw'; obtain ⟨hc, hf⟩ := bcell hw'; go_simp; with_reducible rfl); simp only [Act.put, List.setIfInBounds_toArray, List.set_cons_zero, List.set_cons_succ]) | (refine wpQuiet_call (v := .bool true) 25 #[.int .i64 X, .int .i64 (N : Int)] rfl ?_ ?_ ?_; (intro w' hw'; obtain ⟨hc, hf⟩ := bcell hw'; go_simp); (intro w' hw'; refine (HFT.out _).mono ?_; rintro e w2 ⟨rfl, rfl⟩; exact ⟨rfl, hw'⟩); simp only [Act.put, List.setIfInBounds_toArray, List.set_cons_zero, List.set_cons_succ]) | (refine wpQuiet_val (v := ?_) ?_ ?_ ?_; rotate_left; (first | rfl | (go_simp; done)); (intro w' hw'; obtain ⟨hc, hf⟩ := bcell hw'; go_simp; with_reducible rfl); simp only [Act.put, List.setIfInBounds_toArray, List.set_cons_zero, List.set_cons_succ]) | (refine wpQuiet_skip ?_ ?_; (first | rfl | (go_simp; done)); simp only [Act.put, List.setIfInBounds_toArray, List.set_cons_zero, List.set_cons_succ]))
                refine wpQuiet_nil ?_
                intro w4 hw4
                have D4 := D.trans (hw4.mono D.size)
                clear D hw4 MM CC ZZ
                go_wp2_with fail
                go_roundw
                case rel => exact ⟨j + 1, by omega, by omega, by go_num, HG2, D4⟩
                case measure => simp [intOf]; omega
              | false =>
                by_cases hx : X = 0
                · have x0 : (X != 0) = false := by simp [hx]
                  have HG2 : Hid (∀ j', 1 ≤ j' → j' < j + 1 → goodB m j' = true) := Lib.hid (fun j' h1 h2 => by
                    by_cases e : j' = j
                    · subst e; rw [HGD.out, ft]; simp [hx]
                    · exact HG.out j' h1 (by omega))
                  refine wp_region_class (fun w' => Below wr.heap.size wr w') (by kernel_rfl) (by kernel_rfl) (Below.refl _ _).drew ?_
                  repeat (first | (refine wpQuiet_skip ?_ ?_; rfl; simp only [Act.put, List.setIfInBounds_toArray, List.set_cons_zero, List.set_cons_succ]) | (refine wpQuiet_val (v := ?_) ?_ ?_ ?_; rotate_left; rfl; (intro w' hw'; obtain ⟨hc, hf⟩ := bcell hw'; go_simp; with_reducible rfl); simp only [Act.put, List.setIfInBounds_toArray, List.set_cons_zero, List.set_cons_succ]) | (refine wpQuiet_call (v := .bool true) 25 #[.int .i64 X, .int .i64 (N : Int)] rfl ?_ ?_ ?_; (intro w' hw'; obtain ⟨hc, hf⟩ := bcell hw'; go_simp); (intro w' hw'; refine (HFT.out _).mono ?_; rintro e w2 ⟨rfl, rfl⟩; exact ⟨rfl, hw'⟩); simp only [Act.put, List.setIfInBounds_toArray, List.set_cons_zero, List.set_cons_succ]) | (refine wpQuiet_val (v := ?_) ?_ ?_ ?_; rotate_left; (first | rfl | (go_simp; done)); (intro w' hw'; obtain ⟨hc, hf⟩ := bcell hw'; go_simp; with_reducible rfl); simp only [Act.put, List.setIfInBounds_toArray, List.set_cons_zero, List.set_cons_succ]) | (refine wpQuiet_skip ?_ ?_; (first | rfl | (go_simp; done)); simp only [Act.put, List.setIfInBounds_toArray, List.set_cons_zero, List.set_cons_succ]))
                  refine wpQuiet_nil ?_
                  intro w4 hw4
                  have D4 := D.trans (hw4.mono D.size)
                  clear D hw4 MM CC ZZ
                  go_wp2_with fail
                  go_roundw
                  case rel => exact ⟨j + 1, by omega, by omega, by go_num, HG2, D4⟩
                  case measure => simp [intOf]; omega
                · have x0 : (X != 0) = true := bne_iff_ne.2 hx
                  have hV : 1 = checkV m := by rw [HV.out, if_pos (fun h => by have := h.2.1 j hj1 hlt; rw [HGD.out] at this; simp [ft, hx] at this)]
                  have HV2 := Lib.hid hV
                  clear hV
                  refine wp_region_class (fun w' => Below wr.heap.size wr w') (by kernel_rfl) (by kernel_rfl) (Below.refl _ _).drew ?_
                  repeat (first | (refine wpQuiet_skip ?_ ?_; rfl; simp only [Act.put, List.setIfInBounds_toArray, List.set_cons_zero, List.set_cons_succ]) | (refine wpQuiet_val (v := ?_) ?_ ?_ ?_; rotate_left; rfl; (intro w' hw'; obtain ⟨hc, hf⟩ := bcell hw'; go_simp; with_reducible rfl); simp only [Act.put, List.setIfInBounds_toArray, List.set_cons_zero, List.set_cons_succ]) | (refine wpQuiet_call (v := .bool true) 25 #[.int .i64 X, .int .i64 (N : Int)] rfl ?_ ?_ ?_; (intro w' hw'; obtain ⟨hc, hf⟩ := bcell hw'; go_simp); (intro w' hw'; refine (HFT.out _).mono ?_; rintro e w2 ⟨rfl, rfl⟩; exact ⟨rfl, hw'⟩); simp only [Act.put, List.setIfInBounds_toArray, List.set_cons_zero, List.set_cons_succ]) | (refine wpQuiet_val (v := ?_) ?_ ?_ ?_; rotate_left; (first | rfl | (go_simp; done)); (intro w' hw'; obtain ⟨hc, hf⟩ := bcell hw'; go_simp; with_reducible rfl); simp only [Act.put, List.setIfInBounds_toArray, List.set_cons_zero, List.set_cons_succ]) | (refine wpQuiet_skip ?_ ?_; (first | rfl | (go_simp; done)); simp only [Act.put, List.setIfInBounds_toArray, List.set_cons_zero, List.set_cons_succ]))
                  refine wpQuiet_nil ?_
                  intro w4 hw4
                  have D4 := D.trans (hw4.mono D.size)
                  clear D hw4 MM CC ZZ
                  go_wp2_with fail
                  go_ret
                  exact ⟨ret_int HV2.out, L3.trans (D4.mono L3.size)⟩
          · obtain rfl : j = 15 := by omega
            have hGA : GoodAll m := fun j' h1 h2 => HG.out j' h1 h2
            have HGA := Lib.hid hGA
            have M4 := M3.below D s1
            have y0 := M4.cellOf (v := .int .i64 m.kind) 0 rfl
            have y15 := M4.cellOf (v := .slice A n c) 15 rfl
            have L4 := L3.trans (D.mono L3.size)
            have R4 := hr.below L4
            clear hGA HG M3 C3 Z3 M4 D s1 s2 hs3 L3
            by_cases hbad : m.kind ≠ 11 ∧ 0 < n
            · have hV : 1 = checkV m := by rw [HV.out, if_pos (fun h => by have := h.2.2; rw [HL.out] at this; omega)]
              have HV2 := Lib.hid hV
              have b0 : (m.kind != 11) = true := bne_iff_ne.2 hbad.1
              have b1 : 0 < n := hbad.2
              clear hV hbad
              go_wp2_with fail
              go_ret
              exact ⟨ret_int HV2.out, L4⟩
            · have hV : checkV m = if 32 < n then 4 else if okN ids m.path = true then 0 else 1 := by
                rw [HV.out, if_neg (not_not_intro ⟨by have := HD.out; omega, HGA.out, by rw [HL.out]; omega⟩), HL.out]
              have HV2 := Lib.hid hV
              have hcase : (m.kind != 11) = false ∨ ((m.kind != 11) = true ∧ n = 0) := by
                by_cases h11 : m.kind = 11
                · left; simp [h11]
                · right; exact ⟨bne_iff_ne.2 h11, by omega⟩
              clear hV hbad
              rcases hcase with b0 | ⟨b0, b1⟩
              · by_cases h32 : 32 < n
                · have HV3 := Lib.hid (show 4 = checkV m by rw [HV2.out, if_pos h32])
                  go_wp2_with fail
                  go_ret
                  exact ⟨ret_int HV3.out, L4⟩
                · have hV3 : checkV m = if okN ids m.path = true then 0 else 1 := by rw [HV2.out, if_neg h32]
                  have HV3 := Lib.hid hV3
                  have d32 : decide (32 < n) = false := by simpa using h32
                  clear hV3
                  go_wp2_with fail
                  obtain ⟨wq, rfl⟩ : ∃ wq : World, wq = wr := ⟨_, rfl⟩
                  go_loopw [81] (fun i wz => ∃ k : Nat, k ≤ n ∧ i = .int .i64 k ∧ Hid (okN ids (m.path.take k) = true) ∧ wq = wz) (fun i _ => n - (intOf i).toNat)
                  case atStart => exact ⟨0, Nat.zero_le _, rfl, Lib.hid rfl, rfl⟩
                  case round =>
                    obtain ⟨i, hi, rfl, HO, rfl⟩ := hrel
                    by_cases hli : i < n
                    · obtain ⟨ad, v, rfl, _, hx, hc⟩ := R4.at_ hli
                      obtain ⟨x, hx1, rfl⟩ := getElem?_map_some hx
                      have HX := Lib.hid hx1
                      have hfx : fitsB x ((6 : Nat) : Int) = decide (0 ≤ x ∧ x < 281474976710656) := rfl
                      cases fx : fitsB x ((6 : Nat) : Int) with
                      | true =>
                        have HFX := Lib.hid (fun W => (by have := fits_r x 6 (by omega) W; rw [fx] at this; exact this : Calls Try.prog 25 #[.int .i64 x, .int .i64 ((6 : Nat) : Int)] W fun e w' => e = .returned (.bool true) ∧ W = w'))
                        have HO2 : Hid (okN ids (m.path.take (i + 1)) = true) := Lib.hid (by
                          rw [fx] at hfx
                          have hx2 := of_decide_eq_true hfx.symm
                          have := HO.out
                          unfold okN at this ⊢
                          rw [List.take_add_one, HX.out, List.all_append, this]
                          unfold ids
                          simp
                          omega)
                        clear hx hx1 hfx fx
                        go_wp2_with fail
                        refine (HFX.out _).mono ?_
                        rintro e w9 ⟨rfl, rfl⟩
                        go_wp2_with fail
                        go_roundw
                        case rel => exact ⟨_, _, _, _, _, _, _, _, _, _, ⟨i + 1, by omega, by go_num, HO2, trivial⟩, rfl⟩
                        case measure => simp [intOf]; omega
                      | false =>
                        have HFX := Lib.hid (fun W => (by have := fits_r x 6 (by omega) W; rw [fx] at this; exact this : Calls Try.prog 25 #[.int .i64 x, .int .i64 ((6 : Nat) : Int)] W fun e w' => e = .returned (.bool false) ∧ W = w'))
                        have HV4 := Lib.hid (show 1 = checkV m by
                          rw [fx] at hfx
                          have hx2 := of_decide_eq_false hfx.symm
                          rw [HV3.out, if_neg (fun h => by have := okN_mem h x (List.mem_of_getElem? HX.out); unfold ids at this; omega)])
                        clear hx hx1 hfx fx
                        go_wp2_with fail
                        refine (HFX.out _).mono ?_
                        rintro e w9 ⟨rfl, rfl⟩
                        go_wp2_with fail
                        go_ret
                        exact ⟨ret_int HV4.out, L4⟩
                    · obtain rfl : n = i := by omega
                      have HV4 := Lib.hid (show 0 = checkV m by
                        have := HO.out
                        rw [List.take_of_length_le (by rw [HL.out]; exact Nat.le_refl _)] at this
                        rw [HV3.out, if_pos this])
                      go_wp2_with fail
                      go_ret
                      exact ⟨ret_int HV4.out, L4⟩
              · subst b1
                have HV4 := Lib.hid (show 0 = checkV m by
                  rw [HV2.out, if_neg (by omega), if_pos (by rw [List.eq_nil_of_length_eq_zero HL.out]; rfl)])
                go_wp2_with fail
                obtain ⟨wq, rfl⟩ : ∃ wq : World, wq = wr := ⟨_, rfl⟩
                go_loopw [81] (fun i wz => i = .int .i64 0 ∧ wq = wz) (fun i _ => 0)
                case atStart => exact ⟨rfl, rfl⟩
                case round =>
                  obtain ⟨rfl, rfl⟩ := hrel
                  go_wp2_with fail
                  go_ret
                  exact ⟨ret_int HV4.out, L4⟩
end Go.Proofs.Ytlhaloabophliaa
