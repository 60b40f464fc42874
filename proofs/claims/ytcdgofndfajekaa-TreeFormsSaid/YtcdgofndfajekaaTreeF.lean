/-
  Layer 20: a tree that is made.
-/
import Derived.Test.YtcdgofndfajekaaTreeC
namespace Go.Proofs.Ytcdgofndfajekaa
set_option linter.unusedSimpArgs false
set_option linter.unusedVariables false
open Go.RowKit
attribute [local go_sem ↓] Go.wp_at_zero Go.wp_at_succ

def Tre.new (dom : Int) (own : Pr) (most : Int) (n : Nat) : Tre := ⟨dom, own, most, List.replicate n En.new⟩
def mOwn (own : Pr) : Mg := ⟨11, 0, 0, 0, 0, 0, 0, 0, 0, 0, own.one, own.cls, own.two, own.id, 0, []⟩
def zh : Array Value := #[.bool false, .bool false, .int .i64 0, .int .i64 0, .int .i64 0, .int .i64 0, .int .i64 0, .int .i64 0, .int .i64 0, .int .i64 0]
theorem made_heards (n : Nat) : madeCells zh (n * 10) = hcs (List.replicate n En.new) := by
  have hs : (hcs (List.replicate n En.new)).size = n * 10 := by unfold hcs; rw [List.size_toArray, hcells_len, List.length_map, List.length_replicate]
  apply Array.ext
  · rw [hs]; simp [madeCells]
  · intro j h1 h2
    rw [hs] at h2
    have hq : j / 10 < n := by omega
    have h3 : (hcells ((List.replicate n En.new).map En.hd0))[j / 10 * 10 + j % 10]? = (En.new.hd0).cells[j % 10]? :=
      flatMap_get (f := Hd.cells) (size := 10) (fun _ => rfl) (by rw [List.getElem?_map, List.getElem?_replicate, if_pos hq]; rfl) _ (by omega)
    rw [show j / 10 * 10 + j % 10 = j by omega] at h3
    have h4 : (hcs (List.replicate n En.new))[j]? = (En.new.hd0).cells[j % 10]? := by unfold hcs; rw [List.getElem?_toArray]; exact h3
    have h5 : (madeCells zh (n * 10))[j]? = zh[j % 10]? := by
      have hz : zh.size = 10 := rfl
      rw [Array.getElem?_eq_getElem h1, Array.getElem?_eq_getElem (show j % 10 < zh.size by omega)]
      have h8 : zh[j % 10]! = zh[j % 10]'(by omega) := getElem!_pos zh (j % 10) (by omega)
      simp [madeCells, hz, h8]
    have h6 : zh[j % 10]? = (En.new.hd0).cells[j % 10]? := by rw [show zh = (En.new.hd0).cells.toArray from rfl, List.getElem?_toArray]
    have h7 := h5.trans (h6.trans h4.symm)
    rw [Array.getElem?_eq_getElem h1, Array.getElem?_eq_getElem (by rw [hs]; exact h2)] at h7
    exact Option.some.inj h7
theorem row_rep (n : Nat) (z : Value) : rowF n (fun _ => z) = (List.replicate n z).toArray := by
  unfold rowF
  congr 1
  apply List.ext_getElem?
  intro i
  rw [List.getElem?_map, List.getElem?_replicate]
  by_cases h : i < n
  · rw [List.getElem?_range h, if_pos h]; rfl
  · rw [List.getElem?_eq_none (by simp; omega), if_neg h]; rfl
theorem new_tat {W : World} {dom most : Int} {own : Pr} {n g gu gh gp gw : Nat} (hT : Blk W g 75 #[.int .i64 dom, .int .i64 own.one, .int .i64 own.cls, .int .i64 own.two, .int .i64 own.id, .int .i64 most, .slice (some ⟨gu, 0, none⟩) n n, .slice (some ⟨gh, 0, none⟩) n n, .slice (some ⟨gp, 0, none⟩) n n, .slice (some ⟨gw, 0, none⟩) n n])
    (hU : Blk W gu 4 (rowF n fun _ => .bool false)) (hH : Blk W gh 80 (madeCells zh (n * 10))) (hP : Blk W gp 32 (rowF n fun _ => .slice none 0 0)) (hW : Blk W gw 3 (rowF n fun _ => .int .i64 0))
    (hd : [g, gu, gh, gp, gw].Nodup) (hn : n ≤ 8) : TAt W ⟨g, gu, gh, gp, gw⟩ (Tre.new dom own most n) (List.replicate n (.slice none 0 0)) := by
  have hl : (Tre.new dom own most n).es.length = n := by unfold Tre.new; rw [List.length_replicate]
  refine ⟨?_, ?_, ?_, ?_, ?_, by rw [hl, List.length_replicate], fun k e he => ?_, hd, by rw [hl]; exact hn⟩
  · unfold tcs
    rw [hl]
    exact hT
  · rw [row_rep] at hU
    show Blk W gu _ (ucs (List.replicate n En.new))
    unfold ucs
    rw [List.map_replicate]
    exact hU
  · rw [made_heards] at hH
    exact hH
  · rw [row_rep] at hP
    exact hP
  · rw [row_rep] at hW
    show Blk W gw _ (wcs (List.replicate n En.new))
    unfold wcs
    rw [List.map_replicate]
    exact hW
  · have he' : (List.replicate n En.new)[k]? = some e := he
    rw [List.getElem?_replicate] at he'
    split at he'
    · rename_i hk
      injection he' with he'
      subst he'
      exact ⟨none, 0, by rw [List.getElem?_replicate, if_pos hk]; rfl, Nat.le_refl _, Path.nil _ _ _⟩
    · cases he'
theorem new_ex {w W : World} {B : Nat} {dom most : Int} {own : Pr} {n g gu gh gp gw : Nat} (hT : Blk W g 75 #[.int .i64 dom, .int .i64 own.one, .int .i64 own.cls, .int .i64 own.two, .int .i64 own.id, .int .i64 most, .slice (some ⟨gu, 0, none⟩) n n, .slice (some ⟨gh, 0, none⟩) n n, .slice (some ⟨gp, 0, none⟩) n n, .slice (some ⟨gw, 0, none⟩) n n])
    (hU : Blk W gu 4 (rowF n fun _ => .bool false)) (hH : Blk W gh 80 (madeCells zh (n * 10))) (hP : Blk W gp 32 (rowF n fun _ => .slice none 0 0)) (hW : Blk W gw 3 (rowF n fun _ => .int .i64 0))
    (hd : [g, gu, gh, gp, gw].Nodup) (hn : n ≤ 8) (hB : ∀ k ∈ [g, gu, gh, gp, gw], B ≤ k) (hb : Below w.heap.size w W) :
    ∃ b ps, Ending.returned (.tuple #[.pointer (some ⟨g, 0, none⟩), .int .i64 0]) = Ending.returned (.tuple #[.pointer (some ⟨b.g, 0, none⟩), .int .i64 0]) ∧ TAt W b (Tre.new dom own most n) ps ∧ (∀ k ∈ b.all, B ≤ k) ∧ Below w.heap.size w W :=
  ⟨⟨g, gu, gh, gp, gw⟩, _, rfl, new_tat hT hU hH hP hW hd hn, hB, hb⟩
def NewT (dom : Int) (own : Pr) (n : Int) (most : Int) (w : World) (e : Ending) (w' : World) : Prop :=
  if dom < 0 ∨ 127 < dom ∨ n < 0 ∨ 8 < n ∨ most < 1 ∨ 1099511627776 < most then e = .returned (.tuple #[.pointer none, .int .i64 1]) ∧ Below w.heap.size w w'
  else if checkV (mOwn own) ≠ 0 then e = .returned (.tuple #[.pointer none, .int .i64 (checkV (mOwn own))]) ∧ Below w.heap.size w w'
  else ∃ b ps, e = .returned (.tuple #[.pointer (some ⟨b.g, 0, none⟩), .int .i64 0]) ∧ TAt w' b (Tre.new dom own most n.toNat) ps ∧ (∀ g ∈ b.all, w.heap.size ≤ g) ∧ Below w.heap.size w w'
set_option maxRecDepth 100000 in
set_option maxHeartbeats 4000000 in
theorem new_any (dom : Int) (own : Pr) (n most : Int) (w : World) :
    Calls Try.prog 8 #[.int .i64 dom, .agg #[.int .i64 own.one, .int .i64 own.cls, .int .i64 own.two, .int .i64 own.id], .int .i64 n, .int .i64 most] w (NewT dom own n most w) := by
  have L0 := (Below.refl w.heap.size w).alloc (Nat.le_refl _) (.cells #[.int .i64 own.one, .int .i64 own.cls, .int .i64 own.two, .int .i64 own.id] 23)
  have X0 := Blk.new w 23 #[.int .i64 own.one, .int .i64 own.cls, .int .i64 own.two, .int .i64 own.id]
  have HL := Lib.hid L0
  have HX := Lib.hid X0
  clear L0 X0
  by_cases hbad : dom < 0 ∨ 127 < dom ∨ n < 0 ∨ 8 < n ∨ most < 1 ∨ 1099511627776 < most
  · unfold NewT
    simp only [if_pos hbad]
    have hcase : dom < 0 ∨ ¬ dom < 0 ∧ 127 < dom ∨ ¬ dom < 0 ∧ ¬ 127 < dom ∧ n < 0 ∨ ¬ dom < 0 ∧ ¬ 127 < dom ∧ ¬ n < 0 ∧ 8 < n ∨ ¬ dom < 0 ∧ ¬ 127 < dom ∧ ¬ n < 0 ∧ ¬ 8 < n ∧ most < 1 ∨ ¬ dom < 0 ∧ ¬ 127 < dom ∧ ¬ n < 0 ∧ ¬ 8 < n ∧ ¬ most < 1 ∧ 1099511627776 < most := by omega
    clear hbad
    rcases hcase with h1 | ⟨a1, h1⟩ | ⟨a1, a2, h1⟩ | ⟨a1, a2, a3, h1⟩ | ⟨a1, a2, a3, a4, h1⟩ | ⟨a1, a2, a3, a4, a5, h1⟩
    · go_enter Try.func8, Try.ntmps8
      go_wp2_with fail
      go_ret2
      exact ⟨rfl, HL.out⟩
    · have d0 : decide (dom < 0) = false := decide_eq_false a1
      clear a1
      go_enter Try.func8, Try.ntmps8
      go_wp2_with fail
      go_ret2
      exact ⟨rfl, HL.out⟩
    · have d0 : decide (dom < 0) = false := decide_eq_false a1
      have d1 : decide (127 < dom) = false := decide_eq_false a2
      clear a1 a2
      go_enter Try.func8, Try.ntmps8
      go_wp2_with fail
      go_ret2
      exact ⟨rfl, HL.out⟩
    · have d0 : decide (dom < 0) = false := decide_eq_false a1
      have d1 : decide (127 < dom) = false := decide_eq_false a2
      have d2 : decide (n < 0) = false := decide_eq_false a3
      clear a1 a2 a3
      go_enter Try.func8, Try.ntmps8
      go_wp2_with fail
      go_ret2
      exact ⟨rfl, HL.out⟩
    · have d0 : decide (dom < 0) = false := decide_eq_false a1
      have d1 : decide (127 < dom) = false := decide_eq_false a2
      have d2 : decide (n < 0) = false := decide_eq_false a3
      have d3 : decide (8 < n) = false := decide_eq_false a4
      clear a1 a2 a3 a4
      go_enter Try.func8, Try.ntmps8
      go_wp2_with fail
      go_ret2
      exact ⟨rfl, HL.out⟩
    · have d0 : decide (dom < 0) = false := decide_eq_false a1
      have d1 : decide (127 < dom) = false := decide_eq_false a2
      have d2 : decide (n < 0) = false := decide_eq_false a3
      have d3 : decide (8 < n) = false := decide_eq_false a4
      have d4 : decide (most < 1) = false := decide_eq_false a5
      clear a1 a2 a3 a4 a5
      go_enter Try.func8, Try.ntmps8
      go_wp2_with fail
      go_ret2
      exact ⟨rfl, HL.out⟩
  have d0 : decide (dom < 0) = false := decide_eq_false (by omega)
  have d1 : decide (127 < dom) = false := decide_eq_false (by omega)
  have d2 : decide (n < 0) = false := decide_eq_false (by omega)
  have d3 : decide (8 < n) = false := decide_eq_false (by omega)
  have d4 : decide (most < 1) = false := decide_eq_false (by omega)
  have d5 : decide (1099511627776 < most) = false := decide_eq_false (by omega)
  have hn0 : 0 ≤ n := by omega
  have hn8 : n ≤ 8 := by omega
  obtain ⟨N, rfl⟩ := Int.eq_ofNat_of_zero_le hn0
  unfold NewT
  simp only [if_neg hbad, Int.toNat_natCast]
  have hN8 : N ≤ 8 := by omega
  have hck := fun W => check_m (mOwn own) none 0 0 W Reads.none_ rfl (by simp [maxLen])
  have HCK := Lib.hid hck
  clear hbad hn0 hn8 hck
  by_cases hE : checkV (mOwn own) ≠ 0
  · simp only [if_pos hE]
    have HE : (checkV (mOwn own) != 0) = true := bne_iff_ne.2 hE
    clear hE
    generalize checkV (mOwn own) = E at *
    go_enter Try.func8, Try.ntmps8
    go_wp2_with fail
    refine (HCK.out _).mono ?_
    rintro e w1 ⟨rfl, b1⟩
    have hb := HL.out.trans (b1.mono HL.out.size)
    clear b1
    go_wp2_with fail
    go_ret2
    exact ⟨rfl, hb⟩
  · simp only [if_neg hE]
    have hE0 : checkV (mOwn own) = 0 := Decidable.not_not.1 hE
    rw [hE0] at HCK
    clear hE hE0
    have mk1 : ∀ W, (Instr.makeSlice 72 (.int .i64 (N : Int)) (.int .i64 (N : Int))).run Try.prog W = .ok (.slice (some ⟨W.heap.size, 0, none⟩) N N) (W.alloc (.cells (rowF N fun _ => .bool false) 4)) := fun W => make_row (bytes := 1) Try.underlying72 (by kernel_rfl) rfl (by omega) (by omega) W
    have mk2 : ∀ W, (Instr.makeSlice 32 (.int .i64 (N : Int)) (.int .i64 (N : Int))).run Try.prog W = .ok (.slice (some ⟨W.heap.size, 0, none⟩) N N) (W.alloc (.cells (rowF N fun _ => .int .i64 0) 3)) := fun W => make_row (bytes := 8) Try.underlying32 (by kernel_rfl) rfl (by omega) (by omega) W
    have mk3 : ∀ W, (Instr.makeSlice 67 (.int .i64 (N : Int)) (.int .i64 (N : Int))).run Try.prog W = .ok (.slice (some ⟨W.heap.size, 0, none⟩) N N) (W.alloc (.cells (rowF N fun _ => .slice none 0 0) 32)) := fun W => make_row (bytes := 24) Try.underlying67 (by kernel_rfl) rfl (by omega) (by omega) W
    have mk4 : ∀ W, (Instr.makeSlice 73 (.int .i64 (N : Int)) (.int .i64 (N : Int))).run Try.prog W = .ok (.slice (some ⟨W.heap.size, 0, none⟩) N N) (W.alloc (.cells (madeCells zh (N * 10)) 80)) := fun W => by
      obtain ⟨i, h1, h2, h3, h4⟩ := info_parts (show (Try.prog.info? 80).map (fun i => (i.zero, i.size, i.bytes)) = some (some (.agg zh), 10, 72) by kernel_rfl)
      have := run_make_rowN (P := Try.prog) 73 80 i (.agg zh) Try.underlying73 h1 h2 .i64 .i64 N N (Nat.le_refl _) (by rw [h4]; omega) (by omega) W
      rw [h3] at this
      exact this
    go_enter Try.func8, Try.ntmps8
    go_wp2_with fail
    refine (HCK.out _).mono ?_
    rintro e w1 ⟨rfl, b1⟩
    have X1 := HX.out.kept b1
    have hb := HL.out.trans (b1.mono HL.out.size)
    have hz := X1.lt
    have HB := Lib.hid hb
    clear b1 hb
    go_wp2_with fail
    refine wp_region_tree [] (.free 0 (.take 1 (.free 2 (.free 3 (.free 5 (.free 7 (.free 9 (.four 4 6 8 10 (.three 6 8 10 (.two 8 10 (.one 10 (.free 11 (.one 12 (.free 13 (.free 14 .nil))))) (.one 8 (.free 11 (.one 12 (.free 13 (.free 14 .nil)))))) (.two 6 10 (.one 10 (.free 11 (.one 12 (.free 13 (.free 14 .nil))))) (.one 6 (.free 11 (.one 12 (.free 13 (.free 14 .nil)))))) (.two 6 8 (.one 8 (.free 11 (.one 12 (.free 13 (.free 14 .nil))))) (.one 6 (.free 11 (.one 12 (.free 13 (.free 14 .nil))))))) (.three 4 8 10 (.two 8 10 (.one 10 (.free 11 (.one 12 (.free 13 (.free 14 .nil))))) (.one 8 (.free 11 (.one 12 (.free 13 (.free 14 .nil)))))) (.two 4 10 (.one 10 (.free 11 (.one 12 (.free 13 (.free 14 .nil))))) (.one 4 (.free 11 (.one 12 (.free 13 (.free 14 .nil)))))) (.two 4 8 (.one 8 (.free 11 (.one 12 (.free 13 (.free 14 .nil))))) (.one 4 (.free 11 (.one 12 (.free 13 (.free 14 .nil))))))) (.three 4 6 10 (.two 6 10 (.one 10 (.free 11 (.one 12 (.free 13 (.free 14 .nil))))) (.one 6 (.free 11 (.one 12 (.free 13 (.free 14 .nil)))))) (.two 4 10 (.one 10 (.free 11 (.one 12 (.free 13 (.free 14 .nil))))) (.one 4 (.free 11 (.one 12 (.free 13 (.free 14 .nil)))))) (.two 4 6 (.one 6 (.free 11 (.one 12 (.free 13 (.free 14 .nil))))) (.one 4 (.free 11 (.one 12 (.free 13 (.free 14 .nil))))))) (.three 4 6 8 (.two 6 8 (.one 8 (.free 11 (.one 12 (.free 13 (.free 14 .nil))))) (.one 6 (.free 11 (.one 12 (.free 13 (.free 14 .nil)))))) (.two 4 8 (.one 8 (.free 11 (.one 12 (.free 13 (.free 14 .nil))))) (.one 4 (.free 11 (.one 12 (.free 13 (.free 14 .nil)))))) (.two 4 6 (.one 6 (.free 11 (.one 12 (.free 13 (.free 14 .nil))))) (.one 4 (.free 11 (.one 12 (.free 13 (.free 14 .nil))))))))))))))) (fun w' => Blk w' w.heap.size 23 #[.int .i64 own.one, .int .i64 own.cls, .int .i64 own.two, .int .i64 own.id]) (by kernel_rfl) (by kernel_rfl) (fun _ _ _ _ _ h => h) X1 ?_
    have HB2 : Hid (Below w.heap.size w w1.drew) := Lib.hid HB.out.drew
    have X2 : Blk w1.drew w.heap.size 23 #[.int .i64 own.one, .int .i64 own.cls, .int .i64 own.two, .int .i64 own.id] := X1
    clear X1 HB
    generalize w1.drew = w2 at *
    have X1 := X2
    have hz2 := X2.lt
    clear X2 hz
    (with_reducible (refine tr_free (v := ?_) rfl ?_ ?_ ?_); rotate_left; (first | exact wanted_none rfl | exact wanted_on rfl rfl rfl); (intro w'; go_simp; with_reducible rfl); simp only [Act.put, List.setIfInBounds_toArray, List.set_cons_zero, List.set_cons_succ])
    (with_reducible (refine tr_take (v := ?_) rfl ?_ ?_ ?_); rotate_left; (first | exact wanted_none rfl | exact wanted_on rfl rfl rfl); (rintro w' u1; (have q0 := u1.cellOf (v := .int .i64 own.one) 0 rfl); (have q1 := u1.cellOf (v := .int .i64 own.cls) 1 rfl); (have q2 := u1.cellOf (v := .int .i64 own.two) 2 rfl); (have q3 := u1.cellOf (v := .int .i64 own.id) 3 rfl); go_simp; with_reducible rfl); simp only [Act.put, List.setIfInBounds_toArray, List.set_cons_zero, List.set_cons_succ])
    (with_reducible (refine tr_free (v := ?_) rfl ?_ ?_ ?_); rotate_left; (first | exact wanted_none rfl | exact wanted_on rfl rfl rfl); (intro w'; go_simp; with_reducible rfl); simp only [Act.put, List.setIfInBounds_toArray, List.set_cons_zero, List.set_cons_succ])
    (with_reducible (refine tr_free (v := ?_) rfl ?_ ?_ ?_); rotate_left; (first | exact wanted_none rfl | exact wanted_on rfl rfl rfl); (intro w'; go_simp; with_reducible rfl); simp only [Act.put, List.setIfInBounds_toArray, List.set_cons_zero, List.set_cons_succ])
    (with_reducible (refine tr_free (v := ?_) rfl ?_ ?_ ?_); rotate_left; (first | exact wanted_none rfl | exact wanted_on rfl rfl rfl); (intro w'; go_simp; with_reducible rfl); simp only [Act.put, List.setIfInBounds_toArray, List.set_cons_zero, List.set_cons_succ])
    (with_reducible (refine tr_free (v := ?_) rfl ?_ ?_ ?_); rotate_left; (first | exact wanted_none rfl | exact wanted_on rfl rfl rfl); (intro w'; go_simp; with_reducible rfl); simp only [Act.put, List.setIfInBounds_toArray, List.set_cons_zero, List.set_cons_succ])
    (with_reducible (refine tr_free (v := ?_) rfl ?_ ?_ ?_); rotate_left; (first | exact wanted_none rfl | exact wanted_on rfl rfl rfl); (intro w'; go_simp; with_reducible rfl); simp only [Act.put, List.setIfInBounds_toArray, List.set_cons_zero, List.set_cons_succ])
    refine tr_four ?_ ?_ ?_ ?_ <;> ((with_reducible (refine tr_run (v := ?_) (w' := ?_) rfl ?_ ?_ ?_ ?_); rotate_left 2; (first | exact wanted_none rfl | exact wanted_on rfl rfl rfl); (go_simp; refine ⟨?_, ?_⟩ <;> with_reducible rfl); (exact (by repeat (first | exact X1 | refine Blk.alloc ?_ _))); simp only [Act.put, List.setIfInBounds_toArray, List.set_cons_zero, List.set_cons_succ]); refine tr_three ?_ ?_ ?_ <;> ((with_reducible (refine tr_run (v := ?_) (w' := ?_) rfl ?_ ?_ ?_ ?_); rotate_left 2; (first | exact wanted_none rfl | exact wanted_on rfl rfl rfl); (go_simp; refine ⟨?_, ?_⟩ <;> with_reducible rfl); (exact (by repeat (first | exact X1 | refine Blk.alloc ?_ _))); simp only [Act.put, List.setIfInBounds_toArray, List.set_cons_zero, List.set_cons_succ]); refine tr_two ?_ ?_ <;> ((with_reducible (refine tr_run (v := ?_) (w' := ?_) rfl ?_ ?_ ?_ ?_); rotate_left 2; (first | exact wanted_none rfl | exact wanted_on rfl rfl rfl); (go_simp; refine ⟨?_, ?_⟩ <;> with_reducible rfl); (exact (by repeat (first | exact X1 | refine Blk.alloc ?_ _))); simp only [Act.put, List.setIfInBounds_toArray, List.set_cons_zero, List.set_cons_succ]); (with_reducible (refine tr_run (v := ?_) (w' := ?_) rfl ?_ ?_ ?_ ?_); rotate_left 2; (first | exact wanted_none rfl | exact wanted_on rfl rfl rfl); (go_simp; refine ⟨?_, ?_⟩ <;> with_reducible rfl); (exact (by repeat (first | exact X1 | refine Blk.alloc ?_ _))); simp only [Act.put, List.setIfInBounds_toArray, List.set_cons_zero, List.set_cons_succ]); (with_reducible (refine tr_free (v := ?_) rfl ?_ ?_ ?_); rotate_left; (first | exact wanted_none rfl | exact wanted_on rfl rfl rfl); (intro w'; go_simp; with_reducible rfl); simp only [Act.put, List.setIfInBounds_toArray, List.set_cons_zero, List.set_cons_succ]); (with_reducible (refine tr_run (v := ?_) (w' := ?_) rfl ?_ ?_ ?_ ?_); rotate_left 2; (first | exact wanted_none rfl | exact wanted_on rfl rfl rfl); (go_simp; refine ⟨?_, ?_⟩ <;> with_reducible rfl); (exact (by repeat (first | exact X1 | refine Blk.alloc ?_ _))); simp only [Act.put, List.setIfInBounds_toArray, List.set_cons_zero, List.set_cons_succ]); (with_reducible (refine tr_free (v := ?_) rfl ?_ ?_ ?_); rotate_left; (first | exact wanted_none rfl | exact wanted_on rfl rfl rfl); (intro w'; go_simp; with_reducible rfl); simp only [Act.put, List.setIfInBounds_toArray, List.set_cons_zero, List.set_cons_succ]); (with_reducible (refine tr_free (v := ?_) rfl ?_ ?_ ?_); rotate_left; (first | exact wanted_none rfl | exact wanted_on rfl rfl rfl); (intro w'; go_simp; with_reducible rfl); simp only [Act.put, List.setIfInBounds_toArray, List.set_cons_zero, List.set_cons_succ]); refine tr_nil ?_; clear mk1 mk2 mk3 mk4; go_wp2_with fail; go_ret2; refine new_ex (B := w.heap.size) (Blk.at_new _ _ _ (by first | rfl | (simp; done) | (simp; omega))) ?_ ?_ ?_ ?_ ?_ hN8 ?_ ?_; (repeat (first | exact Blk.at_new _ _ _ (by first | rfl | (simp; done) | (simp; omega)) | refine Blk.alloc ?_ _)); (repeat (first | exact Blk.at_new _ _ _ (by first | rfl | (simp; done) | (simp; omega)) | refine Blk.alloc ?_ _)); (repeat (first | exact Blk.at_new _ _ _ (by first | rfl | (simp; done) | (simp; omega)) | refine Blk.alloc ?_ _)); (repeat (first | exact Blk.at_new _ _ _ (by first | rfl | (simp; done) | (simp; omega)) | refine Blk.alloc ?_ _)); (simp; try omega); (intro g hg; simp at hg; omega); ((repeat (refine Below.alloc ?_ (by first | exact Nat.le_of_lt hz2 | (simp; omega)) _)); exact HB2.out))))
end Go.Proofs.Ytcdgofndfajekaa
