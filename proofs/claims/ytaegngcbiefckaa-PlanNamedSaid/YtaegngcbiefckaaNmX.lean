/-
  A list the other way round.
-/
import Derived.Test.YtaegngcbiefckaaRfX
import Derived.Test.YtaegngcbiefckaaPlnNp
import Derived.Lib.BufferMore
import Derived.Test.YtaegngcbiefckaaPlnN2
import Derived.Test.YtaegngcbiefckaaRmC
namespace Go.Proofs.Ytaegngcbiefckaa
set_option linter.unusedSimpArgs false
set_option linter.unusedVariables false
open Go.RowKit Go.WideShapes Go.ChangeShapes
attribute [local go_sem ↓] Go.wp_at_zero Go.wp_at_succ

theorem fi_map (xs : List Int) : (xs.flatMap fun x => [Value.int .i64 x]) = xs.map (Value.int .i64) := by
  induction xs with
  | nil => rfl
  | cons x xs ih => rw [List.flatMap_cons, ih]; rfl
theorem int_one (xs : List Int) : ∀ u ∈ xs.map (Value.int .i64), u.oneCell' = true := by
  intro u hu
  obtain ⟨x, _, rfl⟩ := List.mem_map.1 hu
  rfl
theorem clone_i (xs : List Int) (A : Option Addr) (n c : Nat) (w : World) (hr : Reads w w.heap.size 1 A n (xs.map (Value.int .i64))) (hn : n ≤ 1000) :
    Calls Try.prog 37 #[.slice A n c] w fun e w' => ∃ v, e = .returned v ∧ w'.ownsRow w.heap.size 3 1 v n (xs.map (Value.int .i64)) ∧ Below w.heap.size w w' := by
  cases A with
  | none =>
    have h0 : n = 0 := by
      rcases Nat.eq_zero_or_pos n with h | h
      · exact h
      · obtain ⟨ad, e, _⟩ := hr.2 h
        cases e
    subst h0
    have hx : xs.map (Value.int .i64) = [] := List.eq_nil_of_length_eq_zero (by rw [hr.1, Nat.zero_mul])
    rw [hx]
    have hnil : ∀ W, (binOp .eql 36 (.slice none 0 c) (.slice none 0 0)).run Try.prog W = .ok (.bool true) W := fun W => Lib.run_eql_slice_nil_nil W _ _ Try.underlying36
    clear hr hx
    go_enter Try.func37, Try.ntmps37
    go_wp2_with fail
    go_ret
    exact ⟨_, rfl, ownsRow_nil _ _ _ _, Below.refl _ _⟩
  | some ad =>
    have O0 := ownsRow_new (e := 3) (size := 1) (n := 0) (cs := #[]) w (base := w.heap.size) (Nat.le_refl _) rfl (Nat.zero_le _)
    have L0 := (Below.refl w.heap.size w).alloc (Nat.le_refl _) (.cells #[] 3)
    have R0 := hr.below L0
    have HO := Lib.hid (And.intro O0 (And.intro L0 R0))
    have hnil : ∀ W, (binOp .eql 36 (.slice (some ad) n c) (.slice none 0 0)).run Try.prog W = .ok (.bool false) W := fun W => Lib.run_eql_slice_some_nil W _ _ _ Try.underlying36
    clear O0 L0 R0 hr
    go_enter Try.func37, Try.ntmps37
    go_wp2_with (at_builtin; refine wpList_pushR rfl (.tmp 5) (.tmp 6) 36 rfl rsI rfl HO.out.2.2 (int_one xs) rfl HO.out.1 (by omega) (by simp) ?_; intro v9 w2 own9 gr9; have HM := Lib.hid (And.intro own9 gr9); clear own9 gr9)
    go_ret
    exact ⟨_, rfl, by simpa using HM.out.1, HO.out.2.1.trans (below_of_grown HM.out.2 HO.out.1 (by simp))⟩
/-- A list whose k first and k last are exchanged. -/
def Rv (xs ys : List Int) (k : Nat) : Prop := ys.length = xs.length ∧ ∀ p, p < xs.length → ys[p]? = if p < k ∨ xs.length - 1 - p < k then xs[xs.length - 1 - p]? else xs[p]?
theorem Rv.start (xs : List Int) : Rv xs xs 0 := ⟨rfl, fun p hp => by rw [if_neg (by omega)]⟩
theorem Rv.done {xs ys : List Int} {k : Nat} (h : Rv xs ys k) (hk : xs.length ≤ 2 * k + 1) : ys = xs.reverse := by
  apply List.ext_getElem?
  intro p
  by_cases hp : p < xs.length
  · rw [h.2 p hp, List.getElem?_reverse hp]
    by_cases hc : p < k ∨ xs.length - 1 - p < k
    · rw [if_pos hc]
    · rw [if_neg hc]
      congr 1
      omega
  · rw [List.getElem?_eq_none (by have := h.1; omega), List.getElem?_eq_none (by simp; omega)]
theorem Rv.step {xs ys : List Int} {k j : Nat} {a b : Int} (h : Rv xs ys k) (hj : k + j + 1 = xs.length) (hk : k < j) (ha : ys[k]? = some a) (hb : ys[j]? = some b) : Rv xs ((ys.set k b).set j a) (k + 1) := by
  have hl := h.1
  refine ⟨by simp [hl], fun p hp => ?_⟩
  have e1 := h.2 k (by omega)
  have e2 := h.2 j (by omega)
  rw [if_neg (by omega), ha] at e1
  rw [if_neg (by omega), hb] at e2
  rw [List.getElem?_set, List.getElem?_set]
  by_cases h1 : j = p
  · subst h1
    rw [if_pos rfl, if_pos (by rw [List.length_set]; omega), if_pos (by omega), e1]
    congr 1
    omega
  · rw [if_neg h1]
    by_cases h2 : k = p
    · subst h2
      rw [if_pos rfl, if_pos (by omega), if_pos (by omega), e2]
      congr 1
      omega
    · rw [if_neg h2, h.2 p hp]
      by_cases hc : p < k ∨ xs.length - 1 - p < k
      · rw [if_pos hc, if_pos (by omega)]
      · rw [if_neg hc, if_neg (by omega)]
def RvI (xs : List Int) (B g n cap : Nat) (w0 : World) (a : Act) (w' : World) : Prop :=
  ∃ (k : Nat) (ys : List Int), 2 * k ≤ n + 1 ∧ a.tmps.size = 28 ∧ a.defers = [] ∧ a.tmps[0]? = some (.slice (some ⟨g, 0, none⟩) n cap) ∧ a.tmps[2]? = some (.int .i64 (k : Int)) ∧ a.tmps[3]? = some (.int .i64 ((n : Int) - 1 - (k : Int))) ∧ w'.ownsRow B 3 1 (.slice (some ⟨g, 0, none⟩) n cap) n (ys.flatMap fun x => [Value.int .i64 x]) ∧ w0.grownBy w' (some g) ∧ Hid (Rv xs ys k)
theorem RvI.intro {xs : List Int} {B g n cap : Nat} {w0 : World} {a : Act} {w' : World} (h : ∃ (k : Nat) (ys : List Int), 2 * k ≤ n + 1 ∧ a.tmps.size = 28 ∧ a.defers = [] ∧ a.tmps[0]? = some (.slice (some ⟨g, 0, none⟩) n cap) ∧ a.tmps[2]? = some (.int .i64 (k : Int)) ∧ a.tmps[3]? = some (.int .i64 ((n : Int) - 1 - (k : Int))) ∧ w'.ownsRow B 3 1 (.slice (some ⟨g, 0, none⟩) n cap) n (ys.flatMap fun x => [Value.int .i64 x]) ∧ w0.grownBy w' (some g) ∧ Hid (Rv xs ys k)) : RvI xs B g n cap w0 a w' := h
theorem RvI.out {xs : List Int} {B g n cap : Nat} {w0 : World} {a : Act} {w' : World} (h : RvI xs B g n cap w0 a w') : ∃ (k : Nat) (ys : List Int), 2 * k ≤ n + 1 ∧ a.tmps.size = 28 ∧ a.defers = [] ∧ a.tmps[0]? = some (.slice (some ⟨g, 0, none⟩) n cap) ∧ a.tmps[2]? = some (.int .i64 (k : Int)) ∧ a.tmps[3]? = some (.int .i64 ((n : Int) - 1 - (k : Int))) ∧ w'.ownsRow B 3 1 (.slice (some ⟨g, 0, none⟩) n cap) n (ys.flatMap fun x => [Value.int .i64 x]) ∧ w0.grownBy w' (some g) ∧ Hid (Rv xs ys k) := h
set_option maxRecDepth 100000 in
set_option maxHeartbeats 4000000 in
theorem rev_any (xs : List Int) (B g n cap : Nat) (w : World) (h : w.ownsRow B 3 1 (.slice (some ⟨g, 0, none⟩) n cap) n (xs.flatMap fun x => [Value.int .i64 x])) (hxl : xs.length = n) (hn : n ≤ 1000) :
    Calls Try.prog 38 #[.slice (some ⟨g, 0, none⟩) n cap] w fun e w' => e = .returned (.tuple #[]) ∧ w'.ownsRow B 3 1 (.slice (some ⟨g, 0, none⟩) n cap) n (xs.reverse.flatMap fun x => [Value.int .i64 x]) ∧ w.grownBy w' (some g) := by
  refine calls_sm (N := 28) Try.func38 rfl (by kernel_rfl) ?_
  intro a hs hd ha
  have e0 : a.tmps[0]? = some (.slice (some ⟨g, 0, none⟩) n cap) := ha 0 _ rfl
  clear ha
  conv => arg 2; whnf
  refine wp_seq_k fun Kq1 hKq1 => ?_
  have HX := Lib.hid hxl
  have HO := Lib.hid h
  clear hxl h
  refine sm_list [0] 2 5 hs hd (by kernel_rfl) (agC e0 agN) rfl ?_
  simp only [seval]
  go_wp2_with fail
  intro a H; replace hs := H.s hs; replace hd := H.d rfl; replace e0 := H.g 0 rfl rfl; have e2 := H.g 2 rfl rfl; have e3 := H.g 3 rfl rfl; clear H; refine hKq1 _ _ ?_; clear hKq1 Kq1; refine wp_block ?_
  have e3b : a.tmps[3]? = some (.int .i64 ((n : Int) - 1 - ((0 : Nat) : Int))) := by first | simpa using e3 | (rw [e3]; exact congrArg some (congrArg (Value.int .i64) (by omega)))
  replace e3 := e3b
  clear e3b
  refine wp_loop (RvI xs B g n cap w) (fun a _ => n + 1 - (intOf (a.tmps.getD 2 undef)).toNat) ?_ ?_
  · exact RvI.intro ⟨0, xs, by omega, hs, hd, e0, e2, e3, HO.out, grownBy_refl w _, Lib.hid (Rv.start xs)⟩
  clear hs hd e2 e3 e0 a HO
  rintro a w3 hinv
  obtain ⟨k, ys, hk, hs, hd, e0, e2, e3, hO, hgr, HV⟩ := hinv.out
  clear hinv
  have hm := slot e2
  refine wp_seq_k fun Kq2 hKq2 => ?_; refine wp_seq_k fun Kq3 hKq3 => ?_
  by_cases hlt : 2 * k + 1 < n
  ·
    obtain ⟨j, hj⟩ : ∃ j : Nat, k + j + 1 = n := ⟨n - 1 - k, by omega⟩
    have hkj : k < j := by omega
    have e3b : a.tmps[3]? = some (.int .i64 (j : Int)) := by rw [e3]; exact congrArg some (congrArg (Value.int .i64) (by omega))
    replace e3 := e3b
    clear e3b
    have dj : decide ((k : Int) < (j : Int)) = true := decide_eq_true (by omega)
    have dj2 : decide (k < j) = true := decide_eq_true hkj
    have hyl : ys.length = n := by have := HV.out.1; rw [HX.out] at this; exact this
    obtain ⟨ya, hya⟩ : ∃ y, ys[k]? = some y := ⟨_, List.getElem?_eq_getElem (by omega)⟩
    obtain ⟨yb, hyb⟩ : ∃ y, ys[j]? = some y := ⟨_, List.getElem?_eq_getElem (by omega)⟩
    refine sm_list [2, 3] 7 3 hs hd (by kernel_rfl) (agC e2 (agC e3 agN)) rfl ?_
    simp only [seval]
    go_wp2_with fail
    intro a H; replace hs := H.s hs; replace hd := H.d rfl; replace e2 := H.g 2 rfl rfl; replace e3 := H.g 3 rfl rfl; replace e0 := H.k e0 rfl; have e9 := H.g 9 rfl rfl; clear H; refine hKq3 _ _ ?_; clear hKq3 Kq3
    refine wp_cond_true (slotE e9) ?_
    clear e9; refine wp_skip ?_; refine hKq2 _ _ ?_; clear hKq2 Kq2; refine wp_seq_k fun Kq4 hKq4 => ?_; refine wp_block ?_; clear dj dj2
    obtain ⟨hO1, hg1⟩ := row_put (f := fun x : Int => [Value.int .i64 x]) (fun _ => rfl) (x' := yb) (u := .int .i64 yb) hO hya (j := 0) Nat.zero_lt_one rfl
    have hyb1 : (ys.set k yb)[j]? = some yb := by rw [List.getElem?_set_ne (by omega)]; exact hyb
    obtain ⟨hO2, hg2⟩ := row_put (f := fun x : Int => [Value.int .i64 x]) (fun _ => rfl) (x' := ya) (u := .int .i64 ya) hO1 hyb1 (j := 0) Nat.zero_lt_one rfl
    rw [show k * 1 + 0 = k by omega] at hO1 hg1 hO2 hg2
    rw [show j * 1 + 0 = j by omega] at hO2 hg2
    have HST := Lib.hid (Rv.step HV.out (by rw [HX.out]; exact hj) hkj hya hyb)
    obtain ⟨q, cap2, cur, hq, hBq, hBl, hncap, hfz, hsz, htk⟩ := hO.2.resolve_left (fun h => by cases h.1)
    injection hq with hq1 hq2 hq3
    injection hq1 with hq1
    injection hq1 with hq1
    subst hq1
    subst hq3
    have BB : Blk w3 g 3 cur := hBl
    have cellk : ∀ (p : Nat) (y : Int), p < n → ys[p]? = some y → cur[p]? = some (.int .i64 y) := fun p y hp hy => by
      have h1 := flatMap_get (f := fun x : Int => [Value.int .i64 x]) (size := 1) (fun _ => rfl) hy 0 (by omega)
      rw [← htk, List.getElem?_take, if_pos (by omega)] at h1
      rw [show p * 1 + 0 = p by omega] at h1
      rw [← Array.getElem?_toList]
      exact h1
    have y1 := BB.cellOf k (cellk k ya (by omega) hya)
    have y2 := BB.cellOf j (cellk j yb (by omega) hyb)
    have lz := BB.lt
    have fzk := BB.frozen
    have B2 := BB.set_ k (.int .i64 yb)
    have y3 := B2.cellOf (v := .int .i64 yb) j (by rw [Array.getElem?_setIfInBounds_ne (by omega)]; exact cellk j yb (by omega) hyb)
    have fz2 := B2.frozen
    have lz2 := B2.lt
    have hk0 : (0 : Int) ≤ (k : Int) := by omega
    have hkn : (k : Int) < (n : Int) := by omega
    have hj0 : (0 : Int) ≤ (j : Int) := by omega
    have hjn : (j : Int) < (n : Int) := by omega
    have HO2 := Lib.hid hO2
    have HG2 := Lib.hid (hg1.trans hg2)
    clear hO1 hg1 hO2 hg2 hya hyb hyb1 hyl hBl hsz htk hO hBq hncap hfz cellk B2
    have hcur : cur[k]? = some (.int .i64 ya) ∧ cur[j]? = some (.int .i64 yb) := by
      refine ⟨?_, ?_⟩
      · have := BB.cell k; rw [y1] at this; exact this.symm
      · have := BB.cell j; rw [y2] at this; exact this.symm
    have HY := Lib.hid hcur
    clear hcur
    refine sm_any [0, 2, 3] 14 14 (by kernel_rfl) hs hd (by kernel_rfl) (agC e0 (agC e2 (agC e3 agN))) rfl (any_tree [13, 15] (.free 0 (.free 1 (.free 2 (.free 3 (.free 4 (.free 5 (.free 6 (.take 7 (.free 8 (.free 9 (.free 10 (.take 11 (.free 12 (.wr 13 (.free 14 (.wr 15 .nil)))))))))))))))) (fun (w' : World) => w'.heap[g]? = w3.heap[g]?) (by kernel_rfl) (fun _ _ _ _ _ h => h) rfl ?_)
    simp only [seval]
    have fzd : w3.drew.frozen? ⟨g, k, none⟩ = false := fzk k
    have kzd : w3.drew.cell? ⟨g, k, none⟩ = some (.int .i64 ya) := y1
    have lzd : g < w3.drew.heap.size := lz
    have fze : (w3.drew.setCell ⟨g, k, none⟩ (.int .i64 yb)).frozen? ⟨g, j, none⟩ = false := fz2 j
    have kze : (w3.drew.setCell ⟨g, k, none⟩ (.int .i64 yb)).cell? ⟨g, j, none⟩ = some (.int .i64 yb) := y3
    have lze : g < (w3.drew.setCell ⟨g, k, none⟩ (.int .i64 yb)).heap.size := lz2
    obtain ⟨wd, hwd⟩ : ∃ wd, wd = w3.drew := ⟨_, rfl⟩
    rw [← hwd] at fzd kzd lzd fze kze lze ⊢
    have HWD := Lib.hid hwd
    clear hwd fzk fz2 y1 y2 y3 lz lz2
    iterate 7 (with_reducible (refine tr_free (v := ?_) rfl ?_ ?_ ?_); rotate_left; (first | exact wanted_none rfl | exact wanted_on rfl rfl rfl); (intro w'; go_simp; with_reducible rfl); simp only [Act.put, List.setIfInBounds_toArray, List.set_cons_zero, List.set_cons_succ])
    (with_reducible (refine tr_take (v := ?_) rfl ?_ ?_ ?_); rotate_left; (first | exact wanted_none rfl | exact wanted_on rfl rfl rfl); (rintro w' u1; have v6 := Blk.of_heap u1 BB; have q1 := v6.cellOf k HY.out.1; have q2 := v6.cellOf j HY.out.2; go_simp; with_reducible rfl); simp only [Act.put, List.setIfInBounds_toArray, List.set_cons_zero, List.set_cons_succ])
    iterate 3 (with_reducible (refine tr_free (v := ?_) rfl ?_ ?_ ?_); rotate_left; (first | exact wanted_none rfl | exact wanted_on rfl rfl rfl); (intro w'; go_simp; with_reducible rfl); simp only [Act.put, List.setIfInBounds_toArray, List.set_cons_zero, List.set_cons_succ])
    (with_reducible (refine tr_take (v := ?_) rfl ?_ ?_ ?_); rotate_left; (first | exact wanted_none rfl | exact wanted_on rfl rfl rfl); (rintro w' u1; have v6 := Blk.of_heap u1 BB; have q1 := v6.cellOf k HY.out.1; have q2 := v6.cellOf j HY.out.2; go_simp; with_reducible rfl); simp only [Act.put, List.setIfInBounds_toArray, List.set_cons_zero, List.set_cons_succ])
    (with_reducible (refine tr_free (v := ?_) rfl ?_ ?_ ?_); rotate_left; (first | exact wanted_none rfl | exact wanted_on rfl rfl rfl); (intro w'; go_simp; with_reducible rfl); simp only [Act.put, List.setIfInBounds_toArray, List.set_cons_zero, List.set_cons_succ])
    (with_reducible (refine tr_wr (w' := ?_) rfl ?_ ?_ ?_); rotate_left; (first | exact wanted_none rfl | exact wanted_on rfl rfl rfl); (go_simp; with_reducible rfl); simp only [Act.put, List.setIfInBounds_toArray, List.set_cons_zero, List.set_cons_succ])
    clear fzd kzd lzd
    obtain ⟨we, hwe⟩ : ∃ we, we = wd.setCell ⟨g, k, none⟩ (.int .i64 yb) := ⟨_, rfl⟩
    rw [← hwe] at fze kze lze ⊢
    have HWE := Lib.hid hwe
    clear hwe
    (with_reducible (refine tr_free (v := ?_) rfl ?_ ?_ ?_); rotate_left; (first | exact wanted_none rfl | exact wanted_on rfl rfl rfl); (intro w'; go_simp; with_reducible rfl); simp only [Act.put, List.setIfInBounds_toArray, List.set_cons_zero, List.set_cons_succ])
    (with_reducible (refine tr_wr (w' := ?_) rfl ?_ ?_ ?_); rotate_left; (first | exact wanted_none rfl | exact wanted_on rfl rfl rfl); (go_simp; with_reducible rfl); simp only [Act.put, List.setIfInBounds_toArray, List.set_cons_zero, List.set_cons_succ])
    rw [HWE.out, HWD.out]
    refine tr_nil ?_
    intro a H; replace hs := H.s hs; replace hd := H.d rfl; replace e0 := H.g 0 rfl rfl; replace e2 := H.g 2 rfl rfl; replace e3 := H.g 3 rfl rfl; clear H; refine hKq4 _ _ ?_; clear hKq4 Kq4
    have hO5 : ((w3.drew.setCell ⟨g, k, none⟩ (.int .i64 yb)).setCell ⟨g, j, none⟩ (.int .i64 ya)).ownsRow B 3 1 (.slice (some ⟨g, 0, none⟩) n cap) n (((ys.set k yb).set j ya).flatMap fun x => [Value.int .i64 x]) := HO2.out
    have hg5 : w.grownBy ((w3.drew.setCell ⟨g, k, none⟩ (.int .i64 yb)).setCell ⟨g, j, none⟩ (.int .i64 ya)) (some g) := ⟨HG2.out.os.trans hgr.os, HG2.out.tape.trans hgr.tape, HG2.out.output.trans hgr.output, Nat.le_trans hgr.size HG2.out.size, fun q hq hne => (HG2.out.block q (Nat.lt_of_lt_of_le hq hgr.size) hne).trans (hgr.block q hq hne)⟩
    generalize (w3.drew.setCell ⟨g, k, none⟩ (.int .i64 yb)).setCell ⟨g, j, none⟩ (.int .i64 ya) = w5 at *
    clear HO2 HG2 BB
    refine sm_list [2, 3] 10 4 hs hd (by kernel_rfl) (agC e2 (agC e3 agN)) rfl ?_
    simp only [seval]
    go_wp2_with fail
    intro a H; replace hs := H.s hs; replace hd := H.d rfl; replace e0 := H.k e0 rfl; replace e2 := H.g 2 rfl rfl; replace e3 := H.g 3 rfl rfl; clear H
    have e3b : a.tmps[3]? = some (.int .i64 ((n : Int) - 1 - ((k + 1 : Nat) : Int))) := by first | (rw [e3]; exact congrArg some (congrArg (Value.int .i64) (by omega))) | (rw [e3]; simp; omega)
    exact ⟨RvI.intro ⟨k + 1, _, by omega, hs, hd, e0, e2, e3b, hO5, hg5, HST⟩, by first | (simp only [hm, slot e2, intOf]; omega) | (simp [e2, intOf]; omega)⟩
  · have dj : decide ((k : Int) < (n : Int) - 1 - (k : Int)) = false := decide_eq_false (by omega)
    have hV := HV.out.done (by rw [HX.out]; omega)
    subst hV
    clear hm
    refine sm_list [2, 3] 7 3 hs hd (by kernel_rfl) (agC e2 (agC e3 agN)) rfl ?_
    simp only [seval]
    go_wp2_with fail
    intro a H; replace hs := H.s hs; replace hd := H.d rfl; replace e2 := H.g 2 rfl rfl; replace e3 := H.g 3 rfl rfl; replace e0 := H.k e0 rfl; have e9 := H.g 9 rfl rfl; clear H; refine hKq3 _ _ ?_; clear hKq3 Kq3
    refine wp_cond_false (slotE e9) ?_
    clear e9; refine wp_exit ?_; refine exit_then rfl ?_; clear hKq2 Kq2; refine exit_then rfl ?_; refine exit_hit ?_
    exact bodyPost_end (results_none rfl _ _ _) hd ⟨rfl, hO, hgr⟩
set_option maxRecDepth 100000 in
set_option maxHeartbeats 4000000 in
theorem turned_any (xs : List Int) (A : Option Addr) (n c : Nat) (w : World) (hr : Reads w w.heap.size 1 A n (xs.map (Value.int .i64))) (hxl : xs.length = n) (hn : n ≤ 1000) (h0 : 0 < n) :
    Calls Try.prog 29 #[.slice A n c] w fun e w' => ∃ v, e = .returned v ∧ w'.ownsRow w.heap.size 3 1 v n (xs.reverse.map (Value.int .i64)) ∧ Below w.heap.size w w' := by
  refine calls_sm (N := 9) Try.func29 rfl (by kernel_rfl) ?_
  intro a hs hd ha
  have e0 : a.tmps[0]? = some (.slice A n c) := ha 0 _ rfl
  clear ha
  conv => arg 2; whnf
  refine wp_seq_k fun Kq1 hKq1 => ?_
  have HCL := Lib.hid (clone_i xs A n c w hr hn)
  clear hr
  refine sm_list [] 2 1 hs hd (by kernel_rfl) agN rfl ?_
  simp only [seval]
  go_wp2_with fail
  intro a H; replace hs := H.s hs; replace hd := H.d rfl; replace e0 := H.k e0 rfl; have e2 := H.g 2 rfl rfl; clear H; refine hKq1 _ _ ?_; clear hKq1 Kq1; refine wp_seq_k fun Kq2 hKq2 => ?_
  refine sm_list [0] 3 3 hs hd (by kernel_rfl) (agC e0 agN) rfl ?_
  simp only [seval]
  go_wp2_with fail
  refine HCL.out.mono ?_
  rintro e w2 ⟨v, rfl, hO, hb2⟩
  have HO := Lib.hid hO
  have HB := Lib.hid hb2
  obtain ⟨g, cap, rfl, hlo⟩ : ∃ g cap, v = .slice (some ⟨g, 0, none⟩) n cap ∧ w.heap.size ≤ g := by
    rcases hO.2 with ⟨_, h⟩ | ⟨g, cap, cur, h1, h2, _⟩
    · have := hO.1; rw [h] at this; simp at this; omega
    · exact ⟨g, cap, h1, h2⟩
  clear hO hb2
  go_wp2_with fail
  intro a H; replace hs := H.s hs; replace hd := H.d rfl; replace e0 := H.g 0 rfl rfl; replace e2 := H.k e2 rfl; have e3 := H.g 3 rfl rfl; clear H; refine hKq2 _ _ ?_; clear hKq2 Kq2; refine wp_seq_k fun Kq3 hKq3 => ?_; clear e2
  have HRV := Lib.hid (rev_any xs w.heap.size g n cap w2 (by rw [fi_map]; exact HO.out) hxl hn)
  refine sm_list [3] 6 2 hs hd (by kernel_rfl) (agC e3 agN) rfl ?_
  simp only [seval]
  go_wp2_with fail
  refine HRV.out.mono ?_
  rintro e w3 ⟨rfl, hO3, hg3⟩
  have HO3 := Lib.hid hO3
  have HG3 := Lib.hid hg3
  clear hO3 hg3
  go_wp2_with fail
  intro a H; replace hs := H.s hs; replace hd := H.d rfl; replace e3 := H.g 3 rfl rfl; replace e0 := H.k e0 rfl; clear H; refine hKq3 _ _ ?_; clear hKq3 Kq3; refine wp_seq_k fun Kq4 hKq4 => ?_
  refine sm_list [2, 3] 8 1 hs hd (by kernel_rfl) (agU (agC e3 agN)) rfl ?_
  simp only [seval]
  go_wp2_with fail
  intro a H; replace hs := H.s hs; replace hd := H.d rfl; replace e3 := H.g 3 rfl rfl; replace e0 := H.k e0 rfl; have e2 := H.g 2 rfl rfl; clear H; refine hKq4 _ _ ?_; clear hKq4 Kq4; refine wp_ret ?_
  refine sm_ret rfl hd e2 ⟨_, rfl, by rw [← fi_map]; exact HO3.out, HB.out.grown HG3.out HB.out.size (fun k hk => by cases hk; exact hlo)⟩
end Go.Proofs.Ytaegngcbiefckaa

namespace Go.Proofs.Ytaegngcbiefckaa
set_option linter.unusedSimpArgs false
set_option linter.unusedVariables false
open Go.RowKit Go.WideShapes Go.ChangeShapes

/-! ### Kind 1: a ring -/
def br1 (n : Nat) : Nat → Cf
  | 0 => cf0 (n + 2)
  | i + 1 => setBr (br1 n i) i
def ln1 (n : Nat) : Nat → Cf
  | 0 => br1 n n
  | i + 1 => addLink (ln1 n i) i ((i + 1) % n)
def lk1 (n : Nat) : Cf := addLink (addLink (addLink (addLink (ln1 n n) n 0) n (n - 1)) (n + 1) 1) (n + 1) (n - 2)
def up1 (n : Nat) : List Int := [(n : Int), 0, (n : Int) + 2]
def dn1 (n : Nat) : List Int := [(n : Int) + 1, (n : Int) - 2, (n : Int) + 3]
def fl1 (n : Nat) : Nat → Cf
  | 0 => lk1 n
  | i + 1 => if i % 2 = 0 then addFlow (fl1 n i) i (n : Int) ((n : Int) + 1) (up1 n) (dn1 n) else addFlow (fl1 n i) i ((n : Int) + 1) (n : Int) (up1 n).reverse (dn1 n).reverse
structure NF (C : Cf) (m l : Nat) : Prop where
  nodes : C.nodes.length = m
  links : C.links.length = l
  flows : C.flows = []
  pb : PB C
theorem NF.br {C : Cf} {m l a : Nat} (h : NF C m l) : NF (setBr C a) m l := ⟨by rw [setBr_nodes, h.nodes], h.links, h.flows, h.pb.br⟩
theorem NF.link {C : Cf} {m l a b : Nat} (h : NF C m l) (hab : a ≠ b) : NF (addLink C a b) m (l + 1) := ⟨by rw [addLink_nodes, h.nodes], by rw [addLink_links, h.links], by rw [addLink_flows, h.flows], h.pb.link hab⟩
theorem NF.cf0 (m : Nat) : NF (cf0 m) m 0 := ⟨by simp [Go.Proofs.Ytaegngcbiefckaa.cf0], rfl, rfl, PB.cf0 m⟩
theorem NF.node {C : Cf} {m l a : Nat} (h : NF C m l) (ha : a < m) : ∃ nd, C.nodes[a]? = some nd ∧ 0 ≤ nd.ports ∧ nd.ports ≤ (l : Int) := by
  obtain ⟨nd, hnd⟩ : ∃ nd, C.nodes[a]? = some nd := ⟨_, List.getElem?_eq_getElem (by rw [h.nodes]; exact ha)⟩
  have h2 := h.pb nd (List.mem_of_getElem? hnd)
  rw [h.links] at h2
  exact ⟨nd, hnd, h2⟩
theorem br1_facts (n : Nat) : ∀ i, NF (br1 n i) (n + 2) 0
  | 0 => NF.cf0 _
  | i + 1 => (br1_facts n i).br
theorem mod_ne {n i : Nat} (hn : 2 ≤ n) (hi : i < n) : i ≠ (i + 1) % n := by
  rcases Nat.lt_or_ge (i + 1) n with h | h
  · rw [Nat.mod_eq_of_lt h]; omega
  · have : i + 1 = n := by omega
    rw [this, Nat.mod_self]; omega
theorem ln1_facts (n : Nat) (hn : 2 ≤ n) : ∀ i, i ≤ n → NF (ln1 n i) (n + 2) i
  | 0, _ => br1_facts n n
  | i + 1, h => (ln1_facts n hn i (by omega)).link (mod_ne hn (by omega))
theorem lk1_facts (n : Nat) (hn : 4 ≤ n) : NF (lk1 n) (n + 2) (n + 4) :=
  ((((ln1_facts n (by omega) n (Nat.le_refl _)).link (by omega)).link (by omega)).link (by omega)).link (by omega)
theorem fl1_flows (n : Nat) (hn : 4 ≤ n) : ∀ i, (fl1 n i).flows.length = i
  | 0 => by rw [fl1, (lk1_facts n hn).flows]; rfl
  | i + 1 => by
    rw [fl1]
    split
    · show ((fl1 n i).flows ++ [_]).length = _; rw [List.length_append, fl1_flows n hn i]; rfl
    · show ((fl1 n i).flows ++ [_]).length = _; rw [List.length_append, fl1_flows n hn i]; rfl

/-! ### Kind 0: two rows -/
def rw0 (k0 : Nat) (C : Cf) : Nat → Cf
  | 0 => C
  | i + 1 => addLink (setBr (rw0 k0 C i) (k0 + i)) (if i = 0 then 0 else k0 + i - 1) (k0 + i)
def nt0 (n : Nat) : Nat → Cf
  | 0 => cf0 (2 + 2 * n)
  | r + 1 => addLink (rw0 (2 + r * n) (nt0 n r) n) (2 + r * n + n - 1) 1
def wy0 (n r i : Nat) : List Int := (List.range i).map fun j => ((r * (n + 1) + j : Nat) : Int)
def fl0 (n : Nat) : Nat → Cf
  | 0 => nt0 n 2
  | i + 1 => if i % 2 = 0 then addFlow (fl0 n i) i 0 1 (wy0 n 0 (n + 1)) (wy0 n 1 (n + 1)) else addFlow (fl0 n i) i 1 0 (wy0 n 0 (n + 1)).reverse (wy0 n 1 (n + 1)).reverse
theorem rw0_facts {k0 : Nat} {C : Cf} {m l : Nat} (h : NF C m l) (hk : 2 ≤ k0) : ∀ i, NF (rw0 k0 C i) m (l + i)
  | 0 => h
  | i + 1 => ((rw0_facts h hk i).br).link (by split <;> omega)
theorem nt0_facts (n : Nat) (hn : 1 ≤ n) : ∀ r, NF (nt0 n r) (2 + 2 * n) (r * (n + 1))
  | 0 => by have := NF.cf0 (2 + 2 * n); simpa [nt0] using this
  | r + 1 => by
    have := (rw0_facts (k0 := 2 + r * n) (nt0_facts n hn r) (by omega) n).link (a := 2 + r * n + n - 1) (b := 1) (by omega)
    rw [Nat.add_mul, Nat.one_mul]
    exact this
theorem fl0_flows (n : Nat) (hn : 1 ≤ n) : ∀ i, (fl0 n i).flows.length = i
  | 0 => by rw [fl0, (nt0_facts n hn 2).flows]; rfl
  | i + 1 => by
    rw [fl0]
    split
    · show ((fl0 n i).flows ++ [_]).length = _; rw [List.length_append, fl0_flows n hn i]; rfl
    · show ((fl0 n i).flows ++ [_]).length = _; rw [List.length_append, fl0_flows n hn i]; rfl
theorem wy0_len (n r i : Nat) : (wy0 n r i).length = i := by simp [wy0]
theorem wy0_succ (n r i : Nat) : wy0 n r (i + 1) = wy0 n r i ++ [((r * (n + 1) + i : Nat) : Int)] := by simp [wy0, List.range_succ]

/-! ### All are good -/
def brs (C : Cf) : Nat := (C.nodes.filter fun n => n.br).length
def goodN (b s : Nat) (C : Cf) : Bool :=
  decide (C.flows.length = 8) && decide (brs C = b) && decide (C.nodes.length = b + s) && decide (C.nodes.length ≤ 20) && decide (C.links.length ≤ 70) && (C.flows.all fun f => decide (f.w0.length ≤ 16) && decide (f.w1.length ≤ 16) && f.w0.all fun a => !f.w1.contains a) &&
    (match makeV C with | .ok (_, W) => decide (W.length = 8) | .error _ => false)
def g0 : Bool := (List.range 6).all fun i => goodN (2 * (i + 1)) 2 (fl0 (i + 1) 8)
def g1 : Bool := (List.range 5).all fun i => goodN (i + 4) 2 (fl1 (i + 4) 8)
def g2 : Bool := (List.range 7).all fun i => goodN 2 (i + 2) (fl2 (i + 2) 8)
theorem g0_true : g0 = true := by kernel_rfl
theorem g1_true : g1 = true := by kernel_rfl
theorem g2_true : g2 = true := by kernel_rfl
theorem good0_all {n : Nat} (h : 1 ≤ n ∧ n ≤ 6) : goodN (2 * n) 2 (fl0 n 8) = true := by
  have := List.all_eq_true.1 g0_true (n - 1) (List.mem_range.2 (by omega))
  rw [show n - 1 + 1 = n by omega] at this
  exact this
theorem good1_all {n : Nat} (h : 4 ≤ n ∧ n ≤ 8) : goodN n 2 (fl1 n 8) = true := by
  have := List.all_eq_true.1 g1_true (n - 4) (List.mem_range.2 (by omega))
  rw [show n - 4 + 4 = n by omega] at this
  exact this
theorem good2_all {n : Nat} (h : 2 ≤ n ∧ n ≤ 8) : goodN 2 n (fl2 n 8) = true := by
  have := List.all_eq_true.1 g2_true (n - 2) (List.mem_range.2 (by omega))
  rw [show n - 2 + 2 = n by omega] at this
  exact this
end Go.Proofs.Ytaegngcbiefckaa

namespace Go.Proofs.Ytaegngcbiefckaa
set_option linter.unusedSimpArgs false
set_option linter.unusedVariables false
open Go.RowKit Go.WideShapes Go.ChangeShapes

section
variable {P : Program} {lo : List Oper} {S : World → Prop} {Q : Exit → Act → World → Prop} {E : Act → World → Prop}
theorem tr_pushM {i : Nat} {l : Tr} {a : Act} {o : Oper} (q : Nat) (hq0 : 0 < q) (ho0 : lo[i]? = some o) (hgd : o.guard = none) (s x : Operand) (t : TypeId)
    (ho : o.op = .call { callee := .builtin .append, args := #[s, x], argTypes := #[t, t] })
    {e : TypeId} {size bytes : Nat} (hty : SliceTy P t e size bytes) {wr : World} {cs : Array Value} (hcs : cs.size = q * size) (h1 : ∀ u ∈ cs.toList, u.oneCell' = true)
    {base : Nat} {v : Value} {n : Nat} {xs : List Value} (hs : a.eval s = v) (hown : wr.ownsRow base e size v n xs) {g : Nat} (hx : a.eval x = .slice (some ⟨g, 0, none⟩) q q) {te : TypeId} (hblk : Blk wr g te cs)
    (hbytes : (n + q) * bytes ≤ 140737488355328) (hbase : base ≤ wr.heap.size)
    (h : ∀ v' w', w'.ownsRow base e size v' (n + q) (xs ++ cs.toList) → wr.grownBy w' v.ownBlock → Moved wr v v' → S w' ∧ wpTr P lo.toArray S Q l (a.put o.dst v') w') : wpTr P lo.toArray S Q (.one i l) a wr := by
  obtain ⟨ht, j, z, hi, hz, hsz, hby, hzs, hp, hq⟩ := hty
  have hbn : n + q ≤ 140737488355328 := Nat.le_trans (Nat.le_mul_of_pos_right _ hq) hbytes
  refine tr_wp ho0 (by simp [Region.wanted, hgd]) ?_
  obtain ⟨v', w', hrun, h2, h3, _, hm⟩ := run_append_own_at (P := P) wr base t o.type e j z size bytes ht hi hz hsz hby hzs hp v n xs hown ⟨g, 0, none⟩ q q cs.toList (by simpa using hcs) (fun k u hu => by
    have ha : (⟨g, 0, none⟩ : Addr).add k = ⟨g, k, none⟩ := by
      by_cases hk : k = 0 <;> simp [Addr.add, hk]
    rw [ha, hblk.cell]
    simpa using hu) h1 (by simp only [maxLen]; omega) hbytes hbase
  unfold Oper.wp execOp
  simp only [ho, resolve, invoke, builtin, Sem.run_bind, Sem.run_pure, Result.andThen_ok, List.map_toArray, List.map_cons, List.map_nil, hs, hx, hrun]
  refine h v' w' h2 h3 ?_
  rcases hm with hm | hm
  · exact .inl hm
  · exact .inr ⟨_, hm, Nat.le_refl _⟩
end
structure WB (w : World) (g : Nat) (V : Nat → Value) (ys : Nat → List Int) : Prop where
  B : Blk w g 72 #[V 0, V 1]
  row : ∀ p, p < 2 → w.ownsRow (g + 1) 3 1 (V p) (ys p).length ((ys p).map (Value.int .i64))
  ap : ∀ p q k, p < 2 → q < 2 → p ≠ q → (V p).ownBlock = some k → (V q).ownBlock ≠ some k
section
variable {w w' w2 : World} {g g6 : Nat} {V : Nat → Value} {ys : Nat → List Int}
theorem WB.keep (h : WB w g V ys) (hb : Below w.heap.size w w') : WB w' g V ys := ⟨h.B.kept hb, fun p hp => ownsRow_keep (h.row p hp) hb, h.ap⟩
theorem WB.fr (h : WB w g V ys) (hf : FrN g6 w w') (hg : g6 < g) : WB w' g V ys :=
  ⟨hf.blk h.B (by decide) (by omega), fun p hp => hf.own (h.row p hp) (by decide) (by omega), h.ap⟩
theorem WB.start (w : World) : WB (w.alloc (.cells #[.slice none 0 0, .slice none 0 0] 72)) w.heap.size (fun _ => .slice none 0 0) (fun _ => []) :=
  ⟨Blk.new w _ _, fun p hp => ownsRow_nil _ _ _ _, fun p q k _ _ _ h => by simp [Value.ownBlock] at h⟩
theorem WB.push (h : WB w g V ys) {q : Nat} (hq : q < 2) {x : Int} {v2 : Value} (own2 : w2.ownsRow (g + 1) 3 1 v2 ((ys q).length + 1) ((ys q).map (Value.int .i64) ++ [.int .i64 x])) (gr : w.grownBy w2 (V q).ownBlock) (mv : Moved w (V q) v2) :
    Blk w2 g 72 #[V 0, V 1] ∧ WB (w2.setCell ⟨g, q, none⟩ v2) g (set2 q v2 V) (set2 q (ys q ++ [x]) ys) ∧ Below g w (w2.setCell ⟨g, q, none⟩ v2) := by
  have hrow := h.row q hq
  have B2 : Blk w2 g 72 #[V 0, V 1] := h.B.grown gr (fun e => by have := (ownsRow_lt hrow g e.symm).1; omega)
  have gs : w2.grownBy (w2.setCell ⟨g, q, none⟩ v2) (some g) := gr_set (grownBy_refl w2 _) _ _
  have hset : ∀ {n : Nat} {v : Value} {xs : List Value}, w2.ownsRow (g + 1) 3 1 v n xs → (w2.setCell ⟨g, q, none⟩ v2).ownsRow (g + 1) 3 1 v n xs := fun o => own_kept o gs fun k hk e => by
    have := (ownsRow_lt o k hk).1
    injection e with e
    omega
  refine ⟨B2, ⟨?_, fun p hp => ?_, fun p r k hp hr hne hk hk2 => ?_⟩, ?_⟩
  · have := B2.set_ q v2
    rw [set2_arr q hq] at this
    exact this
  · by_cases hpq : p = q
    · subst hpq
      rw [set2_at, set2_at, List.length_append, List.map_append]
      exact hset own2
    · rw [set2_ne hpq, set2_ne hpq]
      exact hset (own_kept (h.row p hp) gr fun k hk e => h.ap p q k hp hq hpq hk e.symm)
  · have key : ∀ p, p < 2 → p ≠ q → ∀ k, (V p).ownBlock = some k → v2.ownBlock ≠ some k := fun p hp hpq k hk e => by
      rcases mv with mv | ⟨z, mv, hz⟩
      · rw [mv] at e; exact h.ap p q k hp hq hpq hk e
      · rw [mv] at e
        injection e with e
        have := (ownsRow_lt (h.row p hp) k hk).2
        omega
    by_cases hpq : p = q
    · subst hpq
      rw [set2_at] at hk
      rw [set2_ne (fun e => hne e.symm)] at hk2
      exact key r hr (fun e => hne e.symm) k hk2 hk
    · rw [set2_ne hpq] at hk
      by_cases hrq : r = q
      · subst hrq
        rw [set2_at] at hk2
        exact key p hp hpq k hk hk2
      · rw [set2_ne hrq] at hk2
        exact h.ap p r k hp hr hne hk hk2
  · have hb : Below g w w2 := (Below.refl _ _).grown gr (Nat.le_of_lt h.B.lt) (fun k hk => by have := (ownsRow_lt hrow k hk).1; omega)
    exact hb.setCell (Nat.le_refl _) _
/-- What turns neither the network's box nor its lists keeps it, as long as there are no flows. -/
theorem Nm.hold {gN : Nat} {C : Cf} {Y : Lay} (h : Nm w g6 gN C Y) (hf : C.flows = []) (hs : w.heap.size ≤ w'.heap.size) (hb : ∀ k cs t z, k < w.heap.size → w.heap[k]? = some (.cells cs t z) → t ≠ 3 → t ≠ 72 → w'.heap[k]? = w.heap[k]?) : Nm w' g6 gN C Y := by
  have blk : ∀ {k : Nat} {t : TypeId} {cs : Array Value}, Blk w k t cs → t ≠ 3 → t ≠ 72 → Blk w' k t cs := fun {k t cs} B h1 h2 => (hb k _ _ _ B.lt B h1 h2).trans B
  have ow : ∀ {t : TypeId} {base size n : Nat} {v : Value} {xs : List Value}, w.ownsRow base t size v n xs → t ≠ 3 → t ≠ 72 → w'.ownsRow base t size v n xs := fun o h1 h2 => own_type o fun k cs z hk hh => hb k cs _ z hk hh h1 h2
  exact ⟨blk h.B6 (by decide) (by decide), h.yN, blk h.BN (by decide) (by decide), ow h.links (by decide) (by decide), ow h.flows (by decide) (by decide), h.wslen, fun i f s hfi => by rw [hf] at hfi; simp at hfi, h.lt⟩
theorem FrN.low {w0 : World} {G : Nat} (h : FrN g6 w0 w) (hb : Below G w w') (hs : w.heap.size ≤ w'.heap.size) (hG : w0.heap.size ≤ G) : FrN g6 w0 w' :=
  ⟨hb.os.trans h.os, hb.tape.trans h.tape, hb.output.trans h.output, Nat.le_trans h.size hs, fun k hk hc => (hb.block k (by omega)).trans (h.block k hk hc)⟩
/-- The blocks of other types than a row's and the box's, when the row grows. -/
theorem WB.other (h : WB w g V ys) {q : Nat} (hq : q < 2) {v2 : Value} (gr : w.grownBy w2 (V q).ownBlock) : ∀ k cs t z, k < w.heap.size → w.heap[k]? = some (.cells cs t z) → t ≠ 3 → t ≠ 72 → (w2.setCell ⟨g, q, none⟩ v2).heap[k]? = w.heap[k]? := by
  intro k cs t z hk hh h1 h2
  have hkg : k ≠ g := fun e => by
    subst e
    have B := h.B
    unfold Blk at B
    rw [B] at hh
    injection hh with hh
    injection hh with _ hh _
    exact h2 hh.symm
  refine (Below.heap_setCell w2 _ v2 k (by show k ≠ g; exact hkg)).trans ?_
  exact row_type (h.row q hq) gr h1 k cs z hk hh
end
end Go.Proofs.Ytaegngcbiefckaa

namespace Go.Proofs.Ytaegngcbiefckaa
set_option linter.unusedSimpArgs false
set_option linter.unusedVariables false
open Go.RowKit Go.WideShapes Go.ChangeShapes
attribute [local go_sem ↓] Go.wp_at_zero Go.wp_at_succ

def yv (n r i : Nat) : Nat → List Int := fun p => if p < r then wy0 n p (n + 1) else if p = r then wy0 n r i else []
theorem yv_step (n r i : Nat) : set2 r (yv n r i r ++ [((r * (n + 1) + i : Nat) : Int)]) (yv n r i) = yv n r (i + 1) := by
  funext p
  unfold set2 yv
  by_cases hp : p = r
  · subst hp
    rw [if_pos rfl, if_neg (Nat.lt_irrefl _), if_pos rfl, if_neg (Nat.lt_irrefl _), if_pos rfl, wy0_succ]
  · rw [if_neg hp, if_neg hp]
    by_cases h : p < r
    · rw [if_pos h, if_pos h]
    · rw [if_neg h, if_neg h, if_neg hp]
theorem yv_next (n r : Nat) : yv n r (n + 1) = yv n (r + 1) 0 := by
  funext p
  unfold yv
  by_cases h : p < r
  · rw [if_pos h, if_pos (by omega)]
  · rw [if_neg h]
    by_cases hp : p = r
    · subst hp; rw [if_pos rfl, if_pos (by omega)]
    · rw [if_neg hp, if_neg (by omega)]
      by_cases hq : p = r + 1
      · rw [if_pos hq]; rfl
      · rw [if_neg hq]
theorem yv_zero (n : Nat) : yv n 0 0 = fun _ => [] := by
  funext p
  unfold yv
  rw [if_neg (by omega)]
  split
  · rfl
  · rfl
def at0 (K i : Nat) : Nat := if i = 0 then 0 else K + i - 1
theorem at0_succ (K i : Nat) : at0 K (i + 1) = K + i := by
  unfold at0
  rw [if_neg (by omega)]
  omega
theorem rw0_step (K : Nat) (C : Cf) (i : Nat) : rw0 K C (i + 1) = addLink (setBr (rw0 K C i) (K + i)) (at0 K i) (K + i) := rfl
set_option maxRecDepth 100000 in
set_option maxHeartbeats 4000000 in
theorem named_zero (n : Nat) (w : World) (hn : 1 ≤ n ∧ n ≤ 6) : Calls Try.prog 16 #[.int .i64 0, .int .i64 (n : Int)] w fun e w' => (∃ Y : Lay, e = .returned (.tuple #[.agg (cfc (fl0 n 8) Y), .int .i64 0]) ∧ CfAt w' w'.heap.size (fl0 n 8) Y) ∧ Below w.heap.size w w' := by
  obtain ⟨hn2, hn8⟩ := hn
  refine calls_sm (N := 273) Try.func16 rfl (by kernel_rfl) ?_
  intro a hs hd ha
  have e0 : a.tmps[0]? = some (.int .i64 0) := ha 0 _ rfl
  have e1 : a.tmps[1]? = some (.int .i64 (n : Int)) := ha 1 _ rfl
  clear ha
  conv => arg 2; whnf
  refine wp_seq_k fun Kq1 hKq1 => ?_
  refine sm_list [] 4 2 hs hd (by kernel_rfl) agN rfl ?_
  simp only [seval]
  go_wp2_with fail
  intro a H; replace hs := H.s hs; replace hd := H.d rfl; replace e0 := H.k e0 rfl; replace e1 := H.k e1 rfl; have e4 := H.g 4 rfl rfl; clear H; refine hKq1 _ _ ?_; clear hKq1 Kq1; refine wp_seq_k fun Kq2 hKq2 => ?_
  have B4 := Blk.new w 26 #[.slice none 0 0, .slice none 0 0, .slice none 0 0, .int .i64 0, .int .i64 0, .int .i64 0, .int .i64 0, .int .i64 0]
  have L1 : Below w.heap.size w (w.alloc (.cells #[.slice none 0 0, .slice none 0 0, .slice none 0 0, .int .i64 0, .int .i64 0, .int .i64 0, .int .i64 0, .int .i64 0] 26)) := (Below.refl _ _).alloc (Nat.le_refl _) _
  have hz1 : w.heap.size < (w.alloc (.cells #[.slice none 0 0, .slice none 0 0, .slice none 0 0, .int .i64 0, .int .i64 0, .int .i64 0, .int .i64 0, .int .i64 0] 26)).heap.size := by simp
  generalize (w.alloc (.cells #[.slice none 0 0, .slice none 0 0, .slice none 0 0, .int .i64 0, .int .i64 0, .int .i64 0, .int .i64 0, .int .i64 0] 26)) = w1 at *
  obtain ⟨g4, hg4⟩ : ∃ g, g = w.heap.size := ⟨_, rfl⟩
  rw [← hg4] at B4 hz1 L1 e4
  have HG4 := Lib.hid hg4
  clear hg4
  refine sm_list [6] 24 1 hs hd (by kernel_rfl) (agU agN) rfl ?_
  simp only [seval]
  go_wp2_with (first | (refine wpList_store_new rfl 26 (.tmp 0) (.tmp 1) rfl rfl rfl rfl rfl (by kernel_rfl) (by rw [← Array.all_toList]; rfl) ?_) | fail)
  intro a H; replace hs := H.s hs; replace hd := H.d rfl; replace e0 := H.k e0 rfl; replace e1 := H.k e1 rfl; replace e4 := H.k e4 rfl; have e6 := H.g 6 rfl rfl; clear H; refine hKq2 _ _ ?_; clear hKq2 Kq2; refine wp_seq_k fun Kq3 hKq3 => ?_
  have B6 : Blk (w1.alloc (.cells #[.slice none 0 0, .slice none 0 0, .slice none 0 0, .int .i64 4000000, .int .i64 1000000, .int .i64 50, .int .i64 8, .int .i64 1000] 26)) w1.heap.size 26 (cfc (cf0 0) ⟨⟨none, 0⟩, ⟨none, 0⟩, ⟨none, 0⟩, []⟩) := Blk.new w1 _ _
  have L2 : Below g4 w (w1.alloc (.cells #[.slice none 0 0, .slice none 0 0, .slice none 0 0, .int .i64 4000000, .int .i64 1000000, .int .i64 50, .int .i64 8, .int .i64 1000] 26)) := L1.trans ((Below.refl _ _).alloc (Nat.le_of_lt hz1) _)
  replace B4 := B4.alloc (.cells #[.slice none 0 0, .slice none 0 0, .slice none 0 0, .int .i64 4000000, .int .i64 1000000, .int .i64 50, .int .i64 8, .int .i64 1000] 26)
  obtain ⟨g6, hg6⟩ : ∃ g, g = w1.heap.size := ⟨_, rfl⟩
  rw [← hg6] at B6 hz1 e6
  generalize (w1.alloc (.cells #[.slice none 0 0, .slice none 0 0, .slice none 0 0, .int .i64 4000000, .int .i64 1000000, .int .i64 50, .int .i64 8, .int .i64 1000] 26)) = w2 at *
  clear hg6 L1
  refine sm_list [6, 7] 25 1 hs hd (by kernel_rfl) (agC e6 (agU agN)) rfl ?_
  simp only [seval]
  go_wp2_with fail
  intro a H; replace hs := H.s hs; replace hd := H.d rfl; replace e6 := H.g 6 rfl rfl; replace e0 := H.k e0 rfl; replace e1 := H.k e1 rfl; replace e4 := H.k e4 rfl; have e7 := H.g 7 rfl rfl; clear H; refine hKq3 _ _ ?_; clear hKq3 Kq3; refine wp_seq_k fun Kq4 hKq4 => ?_
  refine sm_list [6, 8] 26 1 hs hd (by kernel_rfl) (agC e6 (agU agN)) rfl ?_
  simp only [seval]
  go_wp2_with fail
  intro a H; replace hs := H.s hs; replace hd := H.d rfl; replace e6 := H.g 6 rfl rfl; replace e0 := H.k e0 rfl; replace e1 := H.k e1 rfl; replace e4 := H.k e4 rfl; replace e7 := H.k e7 rfl; have e8 := H.g 8 rfl rfl; clear H; refine hKq4 _ _ ?_; clear hKq4 Kq4; refine wp_seq_k fun Kq5 hKq5 => ?_; refine wp_block ?_; refine wp_seq_k fun Kq6 hKq6 => ?_
  have dn1 : decide (1 ≤ n) = true := decide_eq_true hn2
  have dn2 : decide (n ≤ 6) = true := decide_eq_true hn8
  have dn3 : decide ((1 : Int) ≤ (n : Int)) = true := decide_eq_true (by omega)
  have dn4 : decide ((n : Int) ≤ 6) = true := decide_eq_true (by omega)
  have dk0 : ((0 : Int) == 0) = true := rfl
  refine sm_list [0, 1] 28 11 hs hd (by kernel_rfl) (agC e0 (agC e1 agN)) rfl ?_
  simp only [seval]
  go_wp2_with fail
  intro a H; replace hs := H.s hs; replace hd := H.d rfl; replace e0 := H.g 0 rfl rfl; replace e1 := H.g 1 rfl rfl; replace e4 := H.k e4 rfl; replace e6 := H.k e6 rfl; replace e7 := H.k e7 rfl; replace e8 := H.k e8 rfl; have e28 := H.g 28 rfl rfl; clear H; refine hKq6 _ _ ?_; clear hKq6 Kq6
  refine wp_cond_true (slotE e28) ?_
  clear e28; refine wp_seq_k fun Kq7 hKq7 => ?_; clear e0; clear dn1 dn2 dn3 dn4 dk0
  have hms := fun W => mk_nodes (2 + 2 * n) (2 + 2 * (n : Int)) (by omega) (by omega) W
  obtain ⟨ar, har⟩ : ∃ ar, ar = ((List.replicate (2 + 2 * n) (⟨0, false⟩ : Nd)).flatMap ndc).toArray := ⟨_, rfl⟩
  rw [← har] at hms
  obtain ⟨hNm, hFr⟩ := Nm.made (m := 2 + 2 * n) B6
  rw [← har] at hNm hFr
  have B6a := B6.alloc (.cells ar 55)
  have y0 := B6a.cellOf (v := .slice none 0 0) 0 rfl
  have yz := B6a.frozen
  have yl := B6a.lt
  have HAR := Lib.hid har
  have HN0 := Lib.hid hNm
  have HF0 := Lib.hid hFr
  obtain ⟨m, hm⟩ : ∃ m, m = 2 + 2 * n := ⟨_, rfl⟩
  rw [← hm] at hms HN0 HF0
  have HM := Lib.hid hm
  clear har hNm hFr hm B6 B6a
  refine sm_list [1, 6] 39 5 hs hd (by kernel_rfl) (agC e1 (agC e6 agN)) rfl ?_
  simp only [seval]
  go_wp2_with fail
  intro a H; replace hs := H.s hs; replace hd := H.d rfl; replace e1 := H.g 1 rfl rfl; replace e6 := H.g 6 rfl rfl; replace e4 := H.k e4 rfl; replace e7 := H.k e7 rfl; replace e8 := H.k e8 rfl; clear H; refine hKq7 _ _ ?_; clear hKq7 Kq7; refine wp_seq_k fun Kq8 hKq8 => ?_; have N0 := HN0.out; have F0 := HF0.out
  obtain ⟨gN, hgN⟩ : ∃ g, g = w2.heap.size := ⟨_, rfl⟩
  generalize ((w2.alloc (.cells ar 55)).setCell ⟨g6, 0, none⟩ (.slice (some ⟨w2.heap.size, 0, none⟩) m m)) = w3 at *
  rw [← hgN] at N0
  clear hgN hms HN0 HF0 HAR y0 yz yl
  have hc4 : cf0 m = nt0 n 0 := by rw [HM.out]; rfl
  rw [hc4] at N0
  clear hc4
  refine sm_list [] 9 1 hs hd (by kernel_rfl) agN rfl ?_
  simp only [seval]
  go_wp2_with fail
  intro a H; replace hs := H.s hs; replace hd := H.d rfl; replace e1 := H.k e1 rfl; replace e4 := H.k e4 rfl; replace e6 := H.k e6 rfl; replace e7 := H.k e7 rfl; replace e8 := H.k e8 rfl; have e9 := H.g 9 rfl rfl; clear H; refine hKq8 _ _ ?_; clear hKq8 Kq8; refine wp_seq_k fun Kq9 hKq9 => ?_; refine wp_seq_k fun Kq10 hKq10 => ?_
  have WB0 := WB.start w3
  have L4 : Below w3.heap.size w3 (w3.alloc (.cells #[.slice none 0 0, .slice none 0 0] 72)) := (Below.refl _ _).alloc (Nat.le_refl _) _
  have N4 := N0.keep L4
  have F4 := F0.trans (FrN.be L4)
  have hw29 : w2.heap.size ≤ w3.heap.size := F0.size
  have hg69 : g6 < w3.heap.size := N0.B6.lt
  obtain ⟨g9, hg9⟩ : ∃ g, g = w3.heap.size := ⟨_, rfl⟩
  rw [← hg9] at WB0 hw29 hg69 e9
  generalize (w3.alloc (.cells #[.slice none 0 0, .slice none 0 0] 72)) = w4 at *
  rw [← yv_zero n] at WB0
  clear hg9 L4 N0 F0 HM
  refine sm_list [] 44 1 hs hd (by kernel_rfl) agN rfl ?_
  simp only [seval]
  go_wp2_with fail
  intro a H; replace hs := H.s hs; replace hd := H.d rfl; replace e1 := H.k e1 rfl; replace e4 := H.k e4 rfl; replace e6 := H.k e6 rfl; replace e7 := H.k e7 rfl; replace e8 := H.k e8 rfl; replace e9 := H.k e9 rfl; have e44 := H.g 44 rfl rfl; clear H; refine hKq10 _ _ ?_; clear hKq10 Kq10; refine wp_block ?_
  refine wp_loop (fun a w' => ∃ (r : Nat) (V : Nat → Value), r ≤ 2 ∧ a.tmps.size = 273 ∧ a.defers = [] ∧ a.tmps[1]? = some (.int .i64 (n : Int)) ∧ a.tmps[4]? = some (.pointer (some ⟨g4, 0, none⟩)) ∧ a.tmps[6]? = some (.pointer (some ⟨g6, 0, none⟩)) ∧ a.tmps[7]? = some (.func (.func 27) #[] #[.pointer (some ⟨g6, 0, none⟩)]) ∧ a.tmps[8]? = some (.func (.func 28) #[] #[.pointer (some ⟨g6, 0, none⟩)]) ∧ a.tmps[9]? = some (.pointer (some ⟨g9, 0, none⟩)) ∧ a.tmps[44]? = some (.int .i64 (r : Int)) ∧ FrN g6 w2 w' ∧ NmAt w' g6 gN (nt0 n r) ∧ WB w' g9 V (yv n r 0)) (fun a _ => 2 - (intOf (a.tmps.getD 44 undef)).toNat) ?_ ?_
  · exact ⟨0, _, by omega, hs, hd, e1, e4, e6, e7, e8, e9, e44, F4, ⟨_, N4⟩, WB0⟩
  clear hs hd e44 e1 e4 e6 e7 e8 e9 a N4 F4 WB0
  rintro a w5 ⟨r, V, hr, hs, hd, e1, e4, e6, e7, e8, e9, e44, hfr, ⟨Y5, N5⟩, hWB⟩
  have hm := slot e44
  refine wp_seq_k fun Kq11 hKq11 => ?_
  by_cases hlt : r < 2
  ·
    have dj : decide ((r : Int) < 2) = true := decide_eq_true (by omega)
    have dj2 : decide (r < 2) = true := decide_eq_true hlt
    obtain ⟨K, hK⟩ : ∃ K, K = 2 + r * n := ⟨_, rfl⟩
    have hrn : (r : Int) * (n : Int) = (K : Int) - 2 := by rw [hK, Int.natCast_add, Int.natCast_mul]; omega
    have hK8 : K ≤ 8 ∧ 2 ≤ K ∧ K + n ≤ 2 + 2 * n := by
      rcases (by omega : r = 0 ∨ r = 1) with h | h
      · rw [h] at hK; omega
      · rw [h, Nat.one_mul] at hK; omega
    obtain ⟨hK8, hK2, hKn⟩ := hK8
    have hrb : r * (n + 1) ≤ 14 := by
      rcases (by omega : r = 0 ∨ r = 1) with h | h
      · rw [h]; omega
      · rw [h]; omega
    have HK := Lib.hid hK
    clear hK
    refine sm_list [44] 45 1 hs hd (by kernel_rfl) (agC e44 agN) rfl ?_
    simp only [seval]
    go_wp2_with fail
    intro a H; replace hs := H.s hs; replace hd := H.d rfl; replace e44 := H.g 44 rfl rfl; replace e1 := H.k e1 rfl; replace e4 := H.k e4 rfl; replace e6 := H.k e6 rfl; replace e7 := H.k e7 rfl; replace e8 := H.k e8 rfl; replace e9 := H.k e9 rfl; have e45 := H.g 45 rfl rfl; clear H; refine hKq11 _ _ ?_; clear hKq11 Kq11; refine wp_seq_k fun Kq12 hKq12 => ?_
    refine wp_cond_true (slotE e45) ?_
    clear e45; refine wp_skip ?_; refine hKq12 _ _ ?_; clear hKq12 Kq12; refine wp_seq_k fun Kq13 hKq13 => ?_; refine wp_block ?_; refine wp_seq_k fun Kq14 hKq14 => ?_
    refine sm_list [10, 44] 46 1 hs hd (by kernel_rfl) (agU (agC e44 agN)) rfl ?_
    simp only [seval]
    go_wp2_with fail
    intro a H; replace hs := H.s hs; replace hd := H.d rfl; replace e44 := H.g 44 rfl rfl; replace e1 := H.k e1 rfl; replace e4 := H.k e4 rfl; replace e6 := H.k e6 rfl; replace e7 := H.k e7 rfl; replace e8 := H.k e8 rfl; replace e9 := H.k e9 rfl; have e10 := H.g 10 rfl rfl; clear H; refine hKq14 _ _ ?_; clear hKq14 Kq14; refine wp_seq_k fun Kq15 hKq15 => ?_
    refine sm_list [] 11 1 hs hd (by kernel_rfl) agN rfl ?_
    simp only [seval]
    go_wp2_with fail
    intro a H; replace hs := H.s hs; replace hd := H.d rfl; replace e1 := H.k e1 rfl; replace e4 := H.k e4 rfl; replace e6 := H.k e6 rfl; replace e7 := H.k e7 rfl; replace e8 := H.k e8 rfl; replace e9 := H.k e9 rfl; replace e44 := H.k e44 rfl; replace e10 := H.k e10 rfl; have e11 := H.g 11 rfl rfl; clear H; refine hKq15 _ _ ?_; clear hKq15 Kq15; refine wp_seq_k fun Kq16 hKq16 => ?_; refine wp_seq_k fun Kq17 hKq17 => ?_
    refine sm_list [1] 47 2 hs hd (by kernel_rfl) (agC e1 agN) rfl ?_
    simp only [seval]
    go_wp2_with fail
    intro a H; replace hs := H.s hs; replace hd := H.d rfl; replace e1 := H.g 1 rfl rfl; replace e4 := H.k e4 rfl; replace e6 := H.k e6 rfl; replace e7 := H.k e7 rfl; replace e8 := H.k e8 rfl; replace e9 := H.k e9 rfl; replace e44 := H.k e44 rfl; replace e10 := H.k e10 rfl; replace e11 := H.k e11 rfl; have e47 := H.g 47 rfl rfl; have e48 := H.g 48 rfl rfl; clear H; refine hKq17 _ _ ?_; clear hKq17 Kq17
    refine wp_block ?_; clear dj dj2
    have hNF0 := nt0_facts n hn2 r
    have N50 : Nm w5 g6 gN (rw0 K (nt0 n r) 0) Y5 := N5
    have e11b : a.tmps[11]? = some (.int .i64 ((at0 K 0 : Nat) : Int)) := e11
    replace e11 := e11b
    clear e11b N5
    refine wp_loop (fun a w' => ∃ (i : Nat) (V : Nat → Value), i ≤ n ∧ a.tmps.size = 273 ∧ a.defers = [] ∧ a.tmps[1]? = some (.int .i64 (n : Int)) ∧ a.tmps[4]? = some (.pointer (some ⟨g4, 0, none⟩)) ∧ a.tmps[6]? = some (.pointer (some ⟨g6, 0, none⟩)) ∧ a.tmps[7]? = some (.func (.func 27) #[] #[.pointer (some ⟨g6, 0, none⟩)]) ∧ a.tmps[8]? = some (.func (.func 28) #[] #[.pointer (some ⟨g6, 0, none⟩)]) ∧ a.tmps[9]? = some (.pointer (some ⟨g9, 0, none⟩)) ∧ a.tmps[10]? = some (.int .i64 (r : Int)) ∧ a.tmps[44]? = some (.int .i64 (r : Int)) ∧ a.tmps[47]? = some (.int .i64 (n : Int)) ∧ a.tmps[48]? = some (.int .i64 (i : Int)) ∧ a.tmps[11]? = some (.int .i64 ((at0 K i : Nat) : Int)) ∧ FrN g6 w2 w' ∧ NmAt w' g6 gN (rw0 K (nt0 n r) i) ∧ WB w' g9 V (yv n r i)) (fun a _ => n - (intOf (a.tmps.getD 48 undef)).toNat) ?_ ?_
    · exact ⟨0, V, by omega, hs, hd, e1, e4, e6, e7, e8, e9, e10, e44, e47, e48, e11, hfr, ⟨_, N50⟩, hWB⟩
    clear hs hd e48 e11 e1 e4 e6 e7 e8 e9 e10 e44 e47 a N50 hfr hWB V
    rintro a w5 ⟨i, V, hi, hs, hd, e1, e4, e6, e7, e8, e9, e10, e44, e47, e48, e11, hfr, ⟨Y5, N5⟩, hWB⟩
    have hmi := slot e48
    refine wp_seq_k fun Kq18 hKq18 => ?_
    by_cases hli : i < n
    ·
      have dj : decide ((i : Int) < (n : Int)) = true := decide_eq_true (by omega)
      have dj2 : decide (i < n) = true := decide_eq_true hli
      have hNF := rw0_facts hNF0 hK2 i
      refine sm_list [47, 48] 49 1 hs hd (by kernel_rfl) (agC e47 (agC e48 agN)) rfl ?_
      simp only [seval]
      go_wp2_with fail
      intro a H; replace hs := H.s hs; replace hd := H.d rfl; replace e47 := H.g 47 rfl rfl; replace e48 := H.g 48 rfl rfl; replace e1 := H.k e1 rfl; replace e4 := H.k e4 rfl; replace e6 := H.k e6 rfl; replace e7 := H.k e7 rfl; replace e8 := H.k e8 rfl; replace e9 := H.k e9 rfl; replace e10 := H.k e10 rfl; replace e44 := H.k e44 rfl; replace e11 := H.k e11 rfl; have e49 := H.g 49 rfl rfl; clear H; refine hKq18 _ _ ?_
      clear hKq18 Kq18; refine wp_seq_k fun Kq19 hKq19 => ?_
      refine wp_cond_true (slotE e49) ?_
      clear e49; refine wp_skip ?_; refine hKq19 _ _ ?_; clear hKq19 Kq19; refine wp_seq_k fun Kq20 hKq20 => ?_; refine wp_block ?_; refine wp_seq_k fun Kq21 hKq21 => ?_
      refine sm_list [12, 48] 50 1 hs hd (by kernel_rfl) (agU (agC e48 agN)) rfl ?_
      simp only [seval]
      go_wp2_with fail
      intro a H; replace hs := H.s hs; replace hd := H.d rfl; replace e48 := H.g 48 rfl rfl; replace e1 := H.k e1 rfl; replace e4 := H.k e4 rfl; replace e6 := H.k e6 rfl; replace e7 := H.k e7 rfl; replace e8 := H.k e8 rfl; replace e9 := H.k e9 rfl; replace e10 := H.k e10 rfl; replace e44 := H.k e44 rfl; replace e47 := H.k e47 rfl; replace e11 := H.k e11 rfl; have e12 := H.g 12 rfl rfl; clear H; refine hKq21 _ _ ?_
      clear hKq21 Kq21; refine wp_seq_k fun Kq22 hKq22 => ?_
      refine sm_list [1, 10, 12, 13] 51 6 hs hd (by kernel_rfl) (agC e1 (agC e10 (agC e12 (agU agN)))) rfl ?_
      simp only [seval]
      go_wp2_with fail
      intro a H; replace hs := H.s hs; replace hd := H.d rfl; replace e1 := H.g 1 rfl rfl; replace e10 := H.g 10 rfl rfl; replace e12 := H.g 12 rfl rfl; replace e4 := H.k e4 rfl; replace e6 := H.k e6 rfl; replace e7 := H.k e7 rfl; replace e8 := H.k e8 rfl; replace e9 := H.k e9 rfl; replace e44 := H.k e44 rfl; replace e47 := H.k e47 rfl; replace e48 := H.k e48 rfl; replace e11 := H.k e11 rfl; have e13 := H.g 13 rfl rfl
      clear H; refine hKq22 _ _ ?_; clear hKq22 Kq22; refine wp_seq_k fun Kq23 hKq23 => ?_; clear dj dj2
      have e13b : a.tmps[13]? = some (.int .i64 ((K + i : Nat) : Int)) := by rw [e13]; exact congrArg some (congrArg (Value.int .i64) (by omega))
      replace e13 := e13b
      clear e13b
      obtain ⟨nd, hnd, _⟩ := hNF.node (a := K + i) (by omega)
      obtain ⟨N6, F6⟩ := N5.br hnd
      have hcl : (rw0 K (nt0 n r) i).nodes.length = 2 + 2 * n := hNF.nodes
      have B6 := N5.B6
      have q0 := B6.cellOf (v := .slice (some ⟨gN, 0, none⟩) (2 + 2 * n) (2 + 2 * n)) 0 (by rw [← hcl]; simp [cfc, N5.yN])
      have BN := N5.BN
      have k1 := BN.cellOf (v := .bool nd.br) ((K + i) * 2 + 1) ((nodes_at hnd 1 (by omega)).trans rfl)
      have fz := BN.frozen
      have lz := BN.lt
      have HN6 := Lib.hid N6
      have HF6 := Lib.hid F6
      have hWB6 := Lib.hid (hWB.fr F6 hg69)
      obtain ⟨kk, hkk⟩ : ∃ q, q = K + i := ⟨_, rfl⟩
      rw [← hkk] at e13 k1 HN6 HF6 hWB6
      have hkI : (kk : Int) < ((2 + 2 * n : Nat) : Int) := by omega
      have hkI2 : (kk : Int) < 2 + 2 * (n : Int) := by omega
      have hkI0 : (0 : Int) ≤ (kk : Int) := by omega
      have HKK := Lib.hid hkk
      clear N6 F6 hnd B6 BN hcl N5 hWB hkk
      refine sm_list [6, 13] 57 5 hs hd (by kernel_rfl) (agC e6 (agC e13 agN)) rfl ?_
      simp only [seval]
      go_wp2_with fail
      intro a H; replace hs := H.s hs; replace hd := H.d rfl; replace e6 := H.g 6 rfl rfl; replace e13 := H.g 13 rfl rfl; replace e1 := H.k e1 rfl; replace e4 := H.k e4 rfl; replace e7 := H.k e7 rfl; replace e8 := H.k e8 rfl; replace e9 := H.k e9 rfl; replace e10 := H.k e10 rfl; replace e44 := H.k e44 rfl; replace e47 := H.k e47 rfl; replace e48 := H.k e48 rfl; replace e11 := H.k e11 rfl; replace e12 := H.k e12 rfl
      clear H; refine hKq23 _ _ ?_; clear hKq23 Kq23; refine wp_seq_k fun Kq24 hKq24 => ?_; have N6 := HN6.out
      replace hfr := hfr.trans HF6.out
      have hWB := hWB6.out
      generalize w5.setCell ⟨gN, kk * 2 + 1, none⟩ (.bool true) = w6 at *
      clear HN6 HF6 k1 fz lz q0 hWB6
      have hNFb := hNF.br (a := kk)
      have hWr := hWB.row r (by omega)
      obtain ⟨Av, cv, hVr, _, _⟩ := ownsRow_reads hWr
      have B9 := hWB.B
      have B6 := N6.B6
      obtain ⟨mm, hmm⟩ : ∃ q, q = (yv n r i r).length := ⟨_, rfl⟩
      rw [← hmm] at hVr hWr
      have hmb : mm ≤ 100 := by rw [hmm]; unfold yv; rw [if_neg (Nat.lt_irrefl _), if_pos rfl, wy0_len]; omega
      have hcell9 := pair_at V r (by omega)
      rw [hVr] at hcell9 hWr
      have HC9 := Lib.hid hcell9
      have HVR := Lib.hid hVr
      have HMM := Lib.hid hmm
      clear hcell9 hVr hmm
      have hz9 : g9 < w6.heap.size := B9.lt
      have hz6 : g6 < w6.heap.size := B6.lt
      have hrI : (r : Int) < 2 := by omega
      have hrI0 : (0 : Int) ≤ (r : Int) := by omega
      obtain ⟨LL, hLL⟩ : ∃ q, q = (setBr (rw0 K (nt0 n r) i) kk).links.length := ⟨_, rfl⟩
      have HLL := Lib.hid hLL
      have HN := Lib.hid N6
      have HWB := Lib.hid hWB
      have HWR := Lib.hid hWr
      have q1 := B6.cellOf (v := .slice Y5.L.A LL Y5.L.c) 1 (by rw [hLL]; simp [cfc])
      have HQ1 : Hid ((cfc (setBr (rw0 K (nt0 n r) i) kk) Y5)[1]? = some (.slice Y5.L.A LL Y5.L.c)) := Lib.hid (by rw [hLL]; simp [cfc])
      clear hLL N6 hWB hWr q1
      refine sm_any [6, 9, 10] 62 10 (by kernel_rfl) hs hd (by kernel_rfl) (agC e6 (agC e9 (agC e10 agN))) rfl (any_tree [10] (.take 0 (.take 1 (.take 2 (.take 3 (.take 4 (.take 5 (.take 6 (.one 7 (.one 8 (.take 9 (.wr 10 .nil))))))))))) (fun (w' : World) => (w'.heap[g6]? = w6.heap[g6]? ∧ w'.heap[g9]? = w6.heap[g9]?)) (by kernel_rfl) (fun _ _ _ _ _ h => h) ⟨rfl, rfl⟩ ?_)
      simp only [seval]
      have hwd6 : Below w6.heap.size w6 w6.drew := (Below.refl _ _).drew
      obtain ⟨wd, hwd⟩ : ∃ wd, wd = w6.drew := ⟨_, rfl⟩
      have hcd : wd.heap[g6]? = w6.heap[g6]? ∧ wd.heap[g9]? = w6.heap[g9]? := by rw [hwd]; exact ⟨rfl, rfl⟩
      rw [← hwd] at hwd6 ⊢
      clear hwd
      iterate 7 (first | (with_reducible (refine tr_take (v := ?_) rfl ?_ ?_ ?_); rotate_left; (first | exact wanted_none rfl | exact wanted_on rfl rfl rfl); (rintro w' ⟨u1, u2⟩; have v6 := Blk.of_heap u1 B6; have v9 := Blk.of_heap u2 B9; have q1 := v6.cellOf (v := .slice Y5.L.A LL Y5.L.c) 1 HQ1.out; have q2 := v9.cellOf (v := .slice Av mm cv) r HC9.out; go_simp; with_reducible rfl); simp only [Act.put, List.setIfInBounds_toArray, List.set_cons_zero, List.set_cons_succ]))
      have hA9 : (wd.alloc (.cells #[.int .i64 (LL : Int)] 3)).heap[g6]? = w6.heap[g6]? ∧ (wd.alloc (.cells #[.int .i64 (LL : Int)] 3)).heap[g9]? = w6.heap[g9]? := ⟨(Below.heap_alloc _ _ _ (Nat.lt_of_lt_of_le hz6 hwd6.size)).trans hcd.1, (Below.heap_alloc _ _ _ (Nat.lt_of_lt_of_le hz9 hwd6.size)).trans hcd.2⟩
      have BT := Blk.new wd 3 #[.int .i64 (LL : Int)]
      have hwa : Below w6.heap.size w6 (wd.alloc (.cells #[.int .i64 (LL : Int)] 3)) := hwd6.alloc hwd6.size _
      have hrw : g9 + 1 ≤ (wd.alloc (.cells #[.int .i64 (LL : Int)] 3)).heap.size := by have := hwa.size; omega
      (with_reducible (refine tr_run (v := ?_) (w' := ?_) rfl ?_ ?_ ?_ ?_); rotate_left 2; (first | exact wanted_none rfl | exact wanted_on rfl rfl rfl); (go_simp; refine ⟨?_, ?_⟩ <;> with_reducible rfl); (exact hA9); simp only [Act.put, List.setIfInBounds_toArray, List.set_cons_zero, List.set_cons_succ])
      refine tr_pushM 1 (by omega) rfl rfl (.tmp 6) (.tmp 10) 36 rfl rsI (cs := #[.int .i64 (LL : Int)]) rfl (by intro u hu; simp at hu; subst hu; rfl) rfl (ownsRow_keep HWR.out hwa) rfl BT (by omega) hrw ?_
      intro v2 w2 own2 gr2 mv2
      have WR := HWB.out.keep hwa; have NR := HN.out.keep hwa
      rw [← HVR.out] at gr2 mv2
      have own3 : w2.ownsRow (g9 + 1) 3 1 v2 ((yv n r i r).length + 1) ((yv n r i r).map (Value.int .i64) ++ [.int .i64 (LL : Int)]) := by rw [← HMM.out]; exact own2
      obtain ⟨Bx, WX, bx⟩ := WR.push (by omega) own3 gr2 mv2
      obtain ⟨A2, c2, rfl, _, _⟩ := ownsRow_reads own2
      have NX : Nm (w2.setCell ⟨g9, r, none⟩ (.slice A2 (mm + 1) c2)) g6 gN (setBr (rw0 K (nt0 n r) i) kk) Y5 := NR.hold hNFb.flows (by have := gr2.size; simpa [World.setCell] using this) (WR.other (by omega) gr2)
      have FX := (hfr.trans (FrN.be hwa)).low bx (by have := gr2.size; simpa [World.setCell] using this) hw29
      have hN2 : w2.heap[g6]? = w6.heap[g6]? := (gr2.block g6 NR.B6.lt (fun e => own_blk_ne (WR.row r (by omega)) NR.B6 (by decide) e.symm)).trans hA9.1
      have hN3 : w2.heap[g9]? = w6.heap[g9]? := Bx.trans B9.symm
      refine ⟨⟨hN2, hN3⟩, ?_⟩
      simp only [Act.put, List.setIfInBounds_toArray, List.set_cons_zero, List.set_cons_succ]
      (with_reducible (refine tr_take (v := ?_) rfl ?_ ?_ ?_); rotate_left; (first | exact wanted_none rfl | exact wanted_on rfl rfl rfl); (rintro w' _;  go_simp; with_reducible rfl); simp only [Act.put, List.setIfInBounds_toArray, List.set_cons_zero, List.set_cons_succ])
      have fz := Bx.frozen
      have xl := Bx.lt
      have xc := Bx.cellOf (v := .slice Av mm cv) r HC9.out
      have HNX := Lib.hid NX
      have HWX := Lib.hid WX
      have HFX := Lib.hid FX
      clear NX WX FX own2 own3 gr2 mv2 WR NR hA9 BT hwa hrw hN2 hN3
      (with_reducible (refine tr_wr (w' := ?_) rfl ?_ ?_ ?_); rotate_left; (first | exact wanted_none rfl | exact wanted_on rfl rfl rfl); (go_simp; with_reducible rfl); simp only [Act.put, List.setIfInBounds_toArray, List.set_cons_zero, List.set_cons_succ])
      refine tr_nil ?_
      intro a H; replace hs := H.s hs; replace hd := H.d rfl; replace e6 := H.g 6 rfl rfl; replace e9 := H.g 9 rfl rfl; replace e10 := H.g 10 rfl rfl; replace e1 := H.k e1 rfl; replace e4 := H.k e4 rfl; replace e7 := H.k e7 rfl; replace e8 := H.k e8 rfl; replace e44 := H.k e44 rfl; replace e47 := H.k e47 rfl; replace e48 := H.k e48 rfl; replace e11 := H.k e11 rfl; replace e12 := H.k e12 rfl; replace e13 := H.k e13 rfl
      clear H; refine hKq24 _ _ ?_; clear hKq24 Kq24; refine wp_seq_k fun Kq25 hKq25 => ?_; have Nw := HNX.out; have WBw := HWX.out; have hfw := HFX.out
      generalize w2.setCell ⟨g9, r, none⟩ (.slice A2 (mm + 1) c2) = w7 at *
      have hLe := HLL.out
      rw [hNFb.links] at hLe
      rw [hLe, yv_step] at WBw
      clear HNX HWX HFX xc xl fz Bx B9 B6 HC9 HVR HMM HLL HN HWB HWR hz9 hz6 hrI hrI0 hwd6 hcd hLe bx hmb hfr
      have hkn : kk < 2 + 2 * n := by omega
      have ha0 : at0 K i < kk := by have := HKK.out; unfold at0; split <;> omega
      obtain ⟨naa, hnaa, hpaa⟩ := hNFb.node (a := at0 K i) (by omega)
      obtain ⟨nba, hnba, hpba⟩ := hNFb.node (a := kk) (by omega)
      have hlla := hNFb.links
      have eaa : ((at0 K i : Nat) : Int) = ((at0 K i : Nat) : Int) := by omega
      have eba : ((kk : Nat) : Int) = (kk : Int) := by omega
      have HLa := link_any (setBr (rw0 K (nt0 n r) i) kk) Y5 (at0 K i) (kk) g6 gN naa nba w7 Nw hnaa hnba (by omega) (by omega) (by omega)
      rw [eaa, eba] at HLa
      have HLHa := Lib.hid HLa
      clear HLa hnaa hnba hpaa hpba eaa eba hlla
      refine sm_list [7, 11, 13] 72 4 hs hd (by kernel_rfl) (agC e7 (agC e11 (agC e13 agN))) rfl ?_
      simp only [seval]
      go_wp2_with fail
      refine HLHa.out.mono ?_
      rintro e w8 ⟨rfl, ⟨Yw8, Nw8⟩, Fw8⟩
      go_wp2_with fail
      intro a H; replace hs := H.s hs; replace hd := H.d rfl; replace e7 := H.g 7 rfl rfl; replace e11 := H.g 11 rfl rfl; replace e13 := H.g 13 rfl rfl; replace e1 := H.k e1 rfl; replace e4 := H.k e4 rfl; replace e6 := H.k e6 rfl; replace e8 := H.k e8 rfl; replace e9 := H.k e9 rfl; replace e10 := H.k e10 rfl; replace e44 := H.k e44 rfl; replace e47 := H.k e47 rfl; replace e48 := H.k e48 rfl; replace e12 := H.k e12 rfl
      clear H; refine hKq25 _ _ ?_; clear hKq25 Kq25; clear HLHa
      have hst : addLink (setBr (rw0 K (nt0 n r) i) kk) (at0 K i) kk = rw0 K (nt0 n r) (i + 1) := by rw [rw0_step, HKK.out]
      rw [hst] at Nw8
      have hfr8 := hfw.trans Fw8
      have WB8 := WBw.fr Fw8 hg69
      clear hst Fw8 hfw WBw Nw hNFb hNF
      refine sm_list [11, 13] 76 1 hs hd (by kernel_rfl) (agC e11 (agC e13 agN)) rfl ?_
      simp only [seval]
      go_wp2_with fail
      intro a H; replace hs := H.s hs; replace hd := H.d rfl; replace e13 := H.g 13 rfl rfl; replace e1 := H.k e1 rfl; replace e4 := H.k e4 rfl; replace e6 := H.k e6 rfl; replace e7 := H.k e7 rfl; replace e8 := H.k e8 rfl; replace e9 := H.k e9 rfl; replace e10 := H.k e10 rfl; replace e44 := H.k e44 rfl; replace e47 := H.k e47 rfl; replace e48 := H.k e48 rfl; replace e12 := H.k e12 rfl; replace e11 := H.g 11 rfl rfl
      clear H; refine hKq20 _ _ ?_; clear hKq20 Kq20
      have e11b : a.tmps[11]? = some (.int .i64 ((at0 K (i + 1) : Nat) : Int)) := by rw [at0_succ, ← HKK.out]; exact e11
      replace e11 := e11b
      clear e11b; clear e12; clear e13
      refine sm_list [48] 77 1 hs hd (by kernel_rfl) (agC e48 agN) rfl ?_
      simp only [seval]
      go_wp2_with fail
      intro a H; replace hs := H.s hs; replace hd := H.d rfl; replace e1 := H.k e1 rfl; replace e4 := H.k e4 rfl; replace e6 := H.k e6 rfl; replace e7 := H.k e7 rfl; replace e8 := H.k e8 rfl; replace e9 := H.k e9 rfl; replace e10 := H.k e10 rfl; replace e44 := H.k e44 rfl; replace e47 := H.k e47 rfl; replace e11 := H.k e11 rfl; replace e48 := H.g 48 rfl rfl; clear H
      exact ⟨⟨i + 1, _, by omega, hs, hd, e1, e4, e6, e7, e8, e9, e10, e44, e47, e48, e11, hfr8, ⟨_, Nw8⟩, WB8⟩, by first | (simp only [hmi, slot e48, intOf]; omega) | (simp [e48, intOf]; omega)⟩
    · have hin : i = n := by omega
      have dj : decide ((i : Int) < (n : Int)) = false := decide_eq_false (by omega)
      have dj2 : decide (i < n) = false := decide_eq_false hli
      rw [hin] at N5 hWB e11
      clear hli hmi hin
      refine sm_list [47, 48] 49 1 hs hd (by kernel_rfl) (agC e47 (agC e48 agN)) rfl ?_
      simp only [seval]
      go_wp2_with fail
      intro a H; replace hs := H.s hs; replace hd := H.d rfl; replace e47 := H.g 47 rfl rfl; replace e48 := H.g 48 rfl rfl; replace e1 := H.k e1 rfl; replace e4 := H.k e4 rfl; replace e6 := H.k e6 rfl; replace e7 := H.k e7 rfl; replace e8 := H.k e8 rfl; replace e9 := H.k e9 rfl; replace e10 := H.k e10 rfl; replace e44 := H.k e44 rfl; replace e11 := H.k e11 rfl; have e49 := H.g 49 rfl rfl; clear H; refine hKq18 _ _ ?_
      clear hKq18 Kq18; refine wp_seq_k fun Kq19 hKq19 => ?_
      refine wp_cond_false (slotE e49) ?_
      clear e49; refine wp_exit ?_; refine exit_then rfl ?_; clear hKq19 Kq19; refine exit_then rfl ?_; refine exit_hit ?_; refine hKq16 _ _ ?_; clear hKq16 Kq16; refine wp_seq_k fun Kq20 hKq20 => ?_; clear e47; clear e48; clear dj dj2 hi i
      have hNF := rw0_facts hNF0 hK2 n
      have hWr := hWB.row r (by omega)
      obtain ⟨Av, cv, hVr, _, _⟩ := ownsRow_reads hWr
      have B9 := hWB.B
      have B6 := N5.B6
      obtain ⟨mm, hmm⟩ : ∃ q, q = (yv n r n r).length := ⟨_, rfl⟩
      rw [← hmm] at hVr hWr
      have hmb : mm ≤ 100 := by rw [hmm]; unfold yv; rw [if_neg (Nat.lt_irrefl _), if_pos rfl, wy0_len]; omega
      have hcell9 := pair_at V r (by omega)
      rw [hVr] at hcell9 hWr
      have HC9 := Lib.hid hcell9
      have HVR := Lib.hid hVr
      have HMM := Lib.hid hmm
      clear hcell9 hVr hmm
      have hz9 : g9 < w5.heap.size := B9.lt
      have hz6 : g6 < w5.heap.size := B6.lt
      have hrI : (r : Int) < 2 := by omega
      have hrI0 : (0 : Int) ≤ (r : Int) := by omega
      obtain ⟨LL, hLL⟩ : ∃ q, q = (rw0 K (nt0 n r) n).links.length := ⟨_, rfl⟩
      have HLL := Lib.hid hLL
      have HN := Lib.hid N5
      have HWB := Lib.hid hWB
      have HWR := Lib.hid hWr
      have q1 := B6.cellOf (v := .slice Y5.L.A LL Y5.L.c) 1 (by rw [hLL]; simp [cfc])
      have HQ1 : Hid ((cfc (rw0 K (nt0 n r) n) Y5)[1]? = some (.slice Y5.L.A LL Y5.L.c)) := Lib.hid (by rw [hLL]; simp [cfc])
      clear hLL N5 hWB hWr q1
      refine sm_any [6, 9, 10] 78 10 (by kernel_rfl) hs hd (by kernel_rfl) (agC e6 (agC e9 (agC e10 agN))) rfl (any_tree [10] (.take 0 (.take 1 (.take 2 (.take 3 (.take 4 (.take 5 (.take 6 (.one 7 (.one 8 (.take 9 (.wr 10 .nil))))))))))) (fun (w' : World) => (w'.heap[g6]? = w5.heap[g6]? ∧ w'.heap[g9]? = w5.heap[g9]?)) (by kernel_rfl) (fun _ _ _ _ _ h => h) ⟨rfl, rfl⟩ ?_)
      simp only [seval]
      have hwd6 : Below w5.heap.size w5 w5.drew := (Below.refl _ _).drew
      obtain ⟨wd, hwd⟩ : ∃ wd, wd = w5.drew := ⟨_, rfl⟩
      have hcd : wd.heap[g6]? = w5.heap[g6]? ∧ wd.heap[g9]? = w5.heap[g9]? := by rw [hwd]; exact ⟨rfl, rfl⟩
      rw [← hwd] at hwd6 ⊢
      clear hwd
      iterate 7 (first | (with_reducible (refine tr_take (v := ?_) rfl ?_ ?_ ?_); rotate_left; (first | exact wanted_none rfl | exact wanted_on rfl rfl rfl); (rintro w' ⟨u1, u2⟩; have v6 := Blk.of_heap u1 B6; have v9 := Blk.of_heap u2 B9; have q1 := v6.cellOf (v := .slice Y5.L.A LL Y5.L.c) 1 HQ1.out; have q2 := v9.cellOf (v := .slice Av mm cv) r HC9.out; go_simp; with_reducible rfl); simp only [Act.put, List.setIfInBounds_toArray, List.set_cons_zero, List.set_cons_succ]))
      have hA9 : (wd.alloc (.cells #[.int .i64 (LL : Int)] 3)).heap[g6]? = w5.heap[g6]? ∧ (wd.alloc (.cells #[.int .i64 (LL : Int)] 3)).heap[g9]? = w5.heap[g9]? := ⟨(Below.heap_alloc _ _ _ (Nat.lt_of_lt_of_le hz6 hwd6.size)).trans hcd.1, (Below.heap_alloc _ _ _ (Nat.lt_of_lt_of_le hz9 hwd6.size)).trans hcd.2⟩
      have BT := Blk.new wd 3 #[.int .i64 (LL : Int)]
      have hwa : Below w5.heap.size w5 (wd.alloc (.cells #[.int .i64 (LL : Int)] 3)) := hwd6.alloc hwd6.size _
      have hrw : g9 + 1 ≤ (wd.alloc (.cells #[.int .i64 (LL : Int)] 3)).heap.size := by have := hwa.size; omega
      (with_reducible (refine tr_run (v := ?_) (w' := ?_) rfl ?_ ?_ ?_ ?_); rotate_left 2; (first | exact wanted_none rfl | exact wanted_on rfl rfl rfl); (go_simp; refine ⟨?_, ?_⟩ <;> with_reducible rfl); (exact hA9); simp only [Act.put, List.setIfInBounds_toArray, List.set_cons_zero, List.set_cons_succ])
      refine tr_pushM 1 (by omega) rfl rfl (.tmp 6) (.tmp 10) 36 rfl rsI (cs := #[.int .i64 (LL : Int)]) rfl (by intro u hu; simp at hu; subst hu; rfl) rfl (ownsRow_keep HWR.out hwa) rfl BT (by omega) hrw ?_
      intro v2 w2 own2 gr2 mv2
      have WR := HWB.out.keep hwa; have NR := HN.out.keep hwa
      rw [← HVR.out] at gr2 mv2
      have own3 : w2.ownsRow (g9 + 1) 3 1 v2 ((yv n r n r).length + 1) ((yv n r n r).map (Value.int .i64) ++ [.int .i64 (LL : Int)]) := by rw [← HMM.out]; exact own2
      obtain ⟨Bx, WX, bx⟩ := WR.push (by omega) own3 gr2 mv2
      obtain ⟨A2, c2, rfl, _, _⟩ := ownsRow_reads own2
      have NX : Nm (w2.setCell ⟨g9, r, none⟩ (.slice A2 (mm + 1) c2)) g6 gN (rw0 K (nt0 n r) n) Y5 := NR.hold hNF.flows (by have := gr2.size; simpa [World.setCell] using this) (WR.other (by omega) gr2)
      have FX := (hfr.trans (FrN.be hwa)).low bx (by have := gr2.size; simpa [World.setCell] using this) hw29
      have hN2 : w2.heap[g6]? = w5.heap[g6]? := (gr2.block g6 NR.B6.lt (fun e => own_blk_ne (WR.row r (by omega)) NR.B6 (by decide) e.symm)).trans hA9.1
      have hN3 : w2.heap[g9]? = w5.heap[g9]? := Bx.trans B9.symm
      refine ⟨⟨hN2, hN3⟩, ?_⟩
      simp only [Act.put, List.setIfInBounds_toArray, List.set_cons_zero, List.set_cons_succ]
      (with_reducible (refine tr_take (v := ?_) rfl ?_ ?_ ?_); rotate_left; (first | exact wanted_none rfl | exact wanted_on rfl rfl rfl); (rintro w' _;  go_simp; with_reducible rfl); simp only [Act.put, List.setIfInBounds_toArray, List.set_cons_zero, List.set_cons_succ])
      have fz := Bx.frozen
      have xl := Bx.lt
      have xc := Bx.cellOf (v := .slice Av mm cv) r HC9.out
      have HNX := Lib.hid NX
      have HWX := Lib.hid WX
      have HFX := Lib.hid FX
      clear NX WX FX own2 own3 gr2 mv2 WR NR hA9 BT hwa hrw hN2 hN3
      (with_reducible (refine tr_wr (w' := ?_) rfl ?_ ?_ ?_); rotate_left; (first | exact wanted_none rfl | exact wanted_on rfl rfl rfl); (go_simp; with_reducible rfl); simp only [Act.put, List.setIfInBounds_toArray, List.set_cons_zero, List.set_cons_succ])
      refine tr_nil ?_
      intro a H; replace hs := H.s hs; replace hd := H.d rfl; replace e6 := H.g 6 rfl rfl; replace e9 := H.g 9 rfl rfl; replace e10 := H.g 10 rfl rfl; replace e1 := H.k e1 rfl; replace e4 := H.k e4 rfl; replace e7 := H.k e7 rfl; replace e8 := H.k e8 rfl; replace e44 := H.k e44 rfl; replace e11 := H.k e11 rfl; clear H; refine hKq20 _ _ ?_; clear hKq20 Kq20; have Nw := HNX.out; have WBw := HWX.out; have hfw := HFX.out
      generalize w2.setCell ⟨g9, r, none⟩ (.slice A2 (mm + 1) c2) = w6 at *
      have hLe := HLL.out
      rw [hNF.links] at hLe
      rw [hLe, yv_step] at WBw
      clear HNX HWX HFX xc xl fz Bx B9 B6 HC9 HVR HMM HLL HN HWB HWR hz9 hz6 hrI hrI0 hwd6 hcd hLe bx hmb hfr
      have ha0 : at0 K n = K + n - 1 := by unfold at0; rw [if_neg (by omega)]
      rw [ha0] at e11
      obtain ⟨aa, haa⟩ : ∃ q, q = K + n - 1 := ⟨_, rfl⟩
      rw [← haa] at e11
      have HAA := Lib.hid haa
      have haa1 : aa < 2 + 2 * n := by omega
      have haa2 : 2 ≤ aa := by omega
      clear ha0 haa
      obtain ⟨naa, hnaa, hpaa⟩ := hNF.node (a := aa) (by omega)
      obtain ⟨nba, hnba, hpba⟩ := hNF.node (a := 1) (by omega)
      have hlla := hNF.links
      have eaa : ((aa : Nat) : Int) = (aa : Int) := by omega
      have eba : ((1 : Nat) : Int) = 1 := by omega
      have HLa := link_any (rw0 K (nt0 n r) n) Y5 (aa) (1) g6 gN naa nba w6 Nw hnaa hnba (by omega) (by omega) (by omega)
      rw [eaa, eba] at HLa
      have HLHa := Lib.hid HLa
      clear HLa hnaa hnba hpaa hpba eaa eba hlla
      refine sm_list [7, 11] 88 3 hs hd (by kernel_rfl) (agC e7 (agC e11 agN)) rfl ?_
      simp only [seval]
      go_wp2_with fail
      refine HLHa.out.mono ?_
      rintro e w7 ⟨rfl, ⟨Yw7, Nw7⟩, Fw7⟩
      go_wp2_with fail
      intro a H; replace hs := H.s hs; replace hd := H.d rfl; replace e7 := H.g 7 rfl rfl; replace e11 := H.g 11 rfl rfl; replace e1 := H.k e1 rfl; replace e4 := H.k e4 rfl; replace e6 := H.k e6 rfl; replace e8 := H.k e8 rfl; replace e9 := H.k e9 rfl; replace e10 := H.k e10 rfl; replace e44 := H.k e44 rfl; clear H; refine hKq13 _ _ ?_; clear hKq13 Kq13; clear HLHa
      have hst : addLink (rw0 K (nt0 n r) n) aa 1 = nt0 n (r + 1) := by rw [nt0, ← HK.out, HAA.out]
      rw [hst] at Nw7
      rw [yv_next] at WBw
      have hfr8 := hfw.trans Fw7
      have WB8 := WBw.fr Fw7 hg69
      clear hst Fw7 hfw WBw Nw hNF; clear e10; clear e11
      refine sm_list [44] 91 1 hs hd (by kernel_rfl) (agC e44 agN) rfl ?_
      simp only [seval]
      go_wp2_with fail
      intro a H; replace hs := H.s hs; replace hd := H.d rfl; replace e1 := H.k e1 rfl; replace e4 := H.k e4 rfl; replace e6 := H.k e6 rfl; replace e7 := H.k e7 rfl; replace e8 := H.k e8 rfl; replace e9 := H.k e9 rfl; replace e44 := H.g 44 rfl rfl; clear H
      exact ⟨⟨r + 1, _, by omega, hs, hd, e1, e4, e6, e7, e8, e9, e44, hfr8, ⟨_, Nw7⟩, WB8⟩, by first | (simp only [hm, slot e44, intOf]; omega) | (simp [e44, intOf]; omega)⟩
  · have hin : r = 2 := by omega
    subst hin
    have dj : decide (((2 : Nat) : Int) < 2) = false := rfl
    have dj2 : decide (2 < 2) = false := rfl
    clear hlt hm
    refine sm_list [44] 45 1 hs hd (by kernel_rfl) (agC e44 agN) rfl ?_
    simp only [seval]
    go_wp2_with fail
    intro a H; replace hs := H.s hs; replace hd := H.d rfl; replace e44 := H.g 44 rfl rfl; replace e1 := H.k e1 rfl; replace e4 := H.k e4 rfl; replace e6 := H.k e6 rfl; replace e7 := H.k e7 rfl; replace e8 := H.k e8 rfl; replace e9 := H.k e9 rfl; have e45 := H.g 45 rfl rfl; clear H; refine hKq11 _ _ ?_; clear hKq11 Kq11; refine wp_seq_k fun Kq12 hKq12 => ?_
    refine wp_cond_false (slotE e45) ?_
    clear e45; refine wp_exit ?_; refine exit_then rfl ?_; clear hKq12 Kq12; refine exit_then rfl ?_; refine exit_hit ?_; refine hKq9 _ _ ?_; clear hKq9 Kq9; refine wp_seq_k fun Kq13 hKq13 => ?_; clear e44
    have h0 := hWB.row 0 (by omega)
    have h1 := hWB.row 1 (by omega)
    have B9 := hWB.B
    have hy0 : yv n 2 0 0 = wy0 n 0 (n + 1) := rfl
    have hy1 : yv n 2 0 1 = wy0 n 1 (n + 1) := rfl
    rw [hy0] at h0
    rw [hy1] at h1
    obtain ⟨l0, hl0⟩ : ∃ l, l = wy0 n 0 (n + 1) := ⟨_, rfl⟩
    obtain ⟨l1, hl1⟩ : ∃ l, l = wy0 n 1 (n + 1) := ⟨_, rfl⟩
    have hn0 : l0.length = n + 1 := by rw [hl0, wy0_len]
    have hn1 : l1.length = n + 1 := by rw [hl1, wy0_len]
    rw [← hl0] at h0
    rw [← hl1] at h1
    obtain ⟨A0, k0, hV0, _, _⟩ := ownsRow_reads h0
    obtain ⟨A1, k1, hV1, _, _⟩ := ownsRow_reads h1
    rw [hV0] at h0 B9
    rw [hV1] at h1 B9
    have HL := Lib.hid (And.intro hl0 hl1)
    have hb0 : l0.length ≤ 100 := by omega
    have hb1 : l1.length ≤ 100 := by omega
    have hp0 : 0 < l0.length := by omega
    have hp1 : 0 < l1.length := by omega
    clear hn0 hn1
    have N50 : Nm w5 g6 gN (fl0 n 0) Y5 := N5
    clear hV0 hV1 hy0 hy1 hl0 hl1 hWB V dj dj2 hr
    refine sm_list [] 92 1 hs hd (by kernel_rfl) agN rfl ?_
    simp only [seval]
    go_wp2_with fail
    intro a H; replace hs := H.s hs; replace hd := H.d rfl; replace e1 := H.k e1 rfl; replace e4 := H.k e4 rfl; replace e6 := H.k e6 rfl; replace e7 := H.k e7 rfl; replace e8 := H.k e8 rfl; replace e9 := H.k e9 rfl; have e92 := H.g 92 rfl rfl; clear H; refine hKq13 _ _ ?_; clear hKq13 Kq13; refine wp_block ?_
    refine wp_loop (fun a w' => ∃ j : Nat, j ≤ 8 ∧ a.tmps.size = 273 ∧ a.defers = [] ∧ a.tmps[1]? = some (.int .i64 (n : Int)) ∧ a.tmps[4]? = some (.pointer (some ⟨g4, 0, none⟩)) ∧ a.tmps[6]? = some (.pointer (some ⟨g6, 0, none⟩)) ∧ a.tmps[7]? = some (.func (.func 27) #[] #[.pointer (some ⟨g6, 0, none⟩)]) ∧ a.tmps[8]? = some (.func (.func 28) #[] #[.pointer (some ⟨g6, 0, none⟩)]) ∧ a.tmps[9]? = some (.pointer (some ⟨g9, 0, none⟩)) ∧ a.tmps[92]? = some (.int .i64 (j : Int)) ∧ FrN g6 w2 w' ∧ FrN g6 w5 w' ∧ NmAt w' g6 gN (fl0 n j)) (fun a _ => 8 - (intOf (a.tmps.getD 92 undef)).toNat) ?_ ?_
    · exact ⟨0, by omega, hs, hd, e1, e4, e6, e7, e8, e9, e92, hfr, FrN.refl, ⟨_, N50⟩⟩
    clear hs hd e92 e1 e4 e6 e7 e8 e9 a N50 N5 hfr
    rintro a w6 ⟨j, hj, hs, hd, e1, e4, e6, e7, e8, e9, e92, hfr, hfq, ⟨Y6, N6⟩⟩
    have hm := slot e92
    refine wp_seq_k fun Kq14 hKq14 => ?_
    by_cases hlt : j < 8
    ·
      have dj : decide ((j : Int) < 8) = true := decide_eq_true (by omega)
      have dj2 : decide (j < 8) = true := decide_eq_true hlt
      have p0 := hfq.own h0 (by decide) (by omega)
      have p1 := hfq.own h1 (by decide) (by omega)
      have B96 := hfq.blk B9 (by decide) (by omega)
      refine sm_list [92] 93 1 hs hd (by kernel_rfl) (agC e92 agN) rfl ?_
      simp only [seval]
      go_wp2_with fail
      intro a H; replace hs := H.s hs; replace hd := H.d rfl; replace e92 := H.g 92 rfl rfl; replace e1 := H.k e1 rfl; replace e4 := H.k e4 rfl; replace e6 := H.k e6 rfl; replace e7 := H.k e7 rfl; replace e8 := H.k e8 rfl; replace e9 := H.k e9 rfl; have e93 := H.g 93 rfl rfl; clear H; refine hKq14 _ _ ?_; clear hKq14 Kq14; refine wp_seq_k fun Kq15 hKq15 => ?_
      refine wp_cond_true (slotE e93) ?_
      clear e93; refine wp_skip ?_; refine hKq15 _ _ ?_; clear hKq15 Kq15; refine wp_seq_k fun Kq16 hKq16 => ?_; refine wp_block ?_; refine wp_seq_k fun Kq17 hKq17 => ?_
      refine sm_list [14, 92] 94 1 hs hd (by kernel_rfl) (agU (agC e92 agN)) rfl ?_
      simp only [seval]
      go_wp2_with fail
      intro a H; replace hs := H.s hs; replace hd := H.d rfl; replace e92 := H.g 92 rfl rfl; replace e1 := H.k e1 rfl; replace e4 := H.k e4 rfl; replace e6 := H.k e6 rfl; replace e7 := H.k e7 rfl; replace e8 := H.k e8 rfl; replace e9 := H.k e9 rfl; have e14 := H.g 14 rfl rfl; clear H; refine hKq17 _ _ ?_; clear hKq17 Kq17; refine wp_seq_k fun Kq18 hKq18 => ?_; clear dj dj2
      by_cases hev : j % 2 = 0
      · have h2 : (j : Int).tmod 2 = 0 := by rw [Int.tmod_eq_emod_of_nonneg (by omega)]; omega
        have HFLH := Lib.hid (flow_any (fl0 n j) Y6 j g6 gN 0 1 l0 l1 ⟨A0, k0⟩ ⟨A1, k1⟩ w6 N6 (ownsRow_base p0 (by omega)) (ownsRow_base p1 (by omega)) (by omega) (by rw [fl0_flows n (by omega)]; omega))
        have HEV := Lib.hid hev
        clear hev
        have z0 := B96.cellOf (v := .slice A0 l0.length k0) 0 rfl
        have z1 := B96.cellOf (v := .slice A1 l1.length k1) 1 rfl
        refine sm_list [14] 95 3 hs hd (by kernel_rfl) (agC e14 agN) rfl ?_
        simp only [seval]
        go_wp2_with fail
        intro a H; replace hs := H.s hs; replace hd := H.d rfl; replace e14 := H.g 14 rfl rfl; replace e1 := H.k e1 rfl; replace e4 := H.k e4 rfl; replace e6 := H.k e6 rfl; replace e7 := H.k e7 rfl; replace e8 := H.k e8 rfl; replace e9 := H.k e9 rfl; replace e92 := H.k e92 rfl; have e97 := H.g 97 rfl rfl; clear H; refine hKq18 _ _ ?_; clear hKq18 Kq18
        refine wp_cond_true (slotE e97) ?_
        clear e97; clear h2
        refine sm_list [8, 9, 14] 98 7 hs hd (by kernel_rfl) (agC e8 (agC e9 (agC e14 agN))) rfl ?_
        simp only [seval]
        go_wp2_with fail
        refine HFLH.out.mono ?_
        rintro e w9 ⟨rfl, ⟨Y9, N9⟩, F9⟩
        go_wp2_with fail
        intro a H; replace hs := H.s hs; replace hd := H.d rfl; replace e8 := H.g 8 rfl rfl; replace e9 := H.g 9 rfl rfl; replace e14 := H.g 14 rfl rfl; replace e1 := H.k e1 rfl; replace e4 := H.k e4 rfl; replace e6 := H.k e6 rfl; replace e7 := H.k e7 rfl; replace e92 := H.k e92 rfl; clear H; refine hKq16 _ _ ?_; clear hKq16 Kq16
        have hst : fl0 n (j + 1) = addFlow (fl0 n j) j 0 1 l0 l1 := by rw [fl0, if_pos HEV.out, HL.out.1, HL.out.2]
        rw [← hst] at N9
        clear hst HFLH z0 z1
        have hfr9 := hfr.trans F9
        have hfq9 := hfq.trans F9
        clear e14
        refine sm_list [92] 114 1 hs hd (by kernel_rfl) (agC e92 agN) rfl ?_
        simp only [seval]
        go_wp2_with fail
        intro a H; replace hs := H.s hs; replace hd := H.d rfl; replace e1 := H.k e1 rfl; replace e4 := H.k e4 rfl; replace e6 := H.k e6 rfl; replace e7 := H.k e7 rfl; replace e8 := H.k e8 rfl; replace e9 := H.k e9 rfl; replace e92 := H.g 92 rfl rfl; clear H
        exact ⟨⟨j + 1, by omega, hs, hd, e1, e4, e6, e7, e8, e9, e92, hfr9, hfq9, ⟨Y9, N9⟩⟩, by first | (simp only [hm, slot e92, intOf]; omega) | (simp [e92, intOf]; omega)⟩
      · have h2 : (j : Int).tmod 2 = 1 := by rw [Int.tmod_eq_emod_of_nonneg (by omega)]; omega
        have hz6 : g6 + 1 ≤ w6.heap.size := N6.B6.lt
        have hz9 : g9 < w6.heap.size := B96.lt
        have HN6 := Lib.hid N6
        have HP0 := Lib.hid p0
        have HP1 := Lib.hid p1
        have HEV := Lib.hid hev
        clear hev N6 p0 p1
        refine sm_list [14] 95 3 hs hd (by kernel_rfl) (agC e14 agN) rfl ?_
        simp only [seval]
        go_wp2_with fail
        intro a H; replace hs := H.s hs; replace hd := H.d rfl; replace e14 := H.g 14 rfl rfl; replace e1 := H.k e1 rfl; replace e4 := H.k e4 rfl; replace e6 := H.k e6 rfl; replace e7 := H.k e7 rfl; replace e8 := H.k e8 rfl; replace e9 := H.k e9 rfl; replace e92 := H.k e92 rfl; have e97 := H.g 97 rfl rfl; clear H; refine hKq18 _ _ ?_; clear hKq18 Kq18
        refine wp_cond_false (slotE e97) ?_
        clear e97; clear h2
        refine sm_any [8, 9, 14] 105 9 (by kernel_rfl) hs hd (by kernel_rfl) (agC e8 (agC e9 (agC e14 agN))) rfl (any_tree [] (.take 0 (.take 1 (.take 2 (.take 3 (.take 5 (.take 6 (.one 4 (.one 7 (.one 8 .nil))))))))) (fun (w' : World) => w'.heap[g9]? = w6.heap[g9]?) (by kernel_rfl) (fun _ _ _ _ _ h => h) rfl ?_)
        simp only [seval]
        have hwd6 : Below w6.heap.size w6 w6.drew := (Below.refl _ _).drew
        obtain ⟨wd, hwd⟩ : ∃ wd, wd = w6.drew := ⟨_, rfl⟩
        rw [← hwd] at hwd6 ⊢
        clear hwd
        iterate 6 (first | (with_reducible (refine tr_take (v := ?_) rfl ?_ ?_ ?_); rotate_left; (first | exact wanted_none rfl | exact wanted_on rfl rfl rfl); (rintro w' u1; have v9 := Blk.of_heap u1 B96; have z0 := v9.cellOf (v := .slice A0 l0.length k0) 0 rfl; have z1 := v9.cellOf (v := .slice A1 l1.length k1) 1 rfl; go_simp; with_reducible rfl); simp only [Act.put, List.setIfInBounds_toArray, List.set_cons_zero, List.set_cons_succ]))
        (with_reducible (refine tr_call 29 ?_ rfl ?_ ?_ ?_); rotate_left; (first | exact wanted_none rfl | exact wanted_on rfl rfl rfl); (go_simp; with_reducible rfl))
        refine (turned_any l0 A0 l0.length k0 wd (Reads.of_own (ownsRow_keep HP0.out hwd6)) rfl (by omega) (by omega)).mono ?_
        rintro e w7 ⟨v0, rfl, hO0, hb7⟩
        have S7 : Below w6.heap.size w6 w7 := hwd6.trans (hb7.mono hwd6.size)
        obtain ⟨B0, q0, rfl, _, _⟩ := ownsRow_reads hO0
        have HO0 := Lib.hid hO0
        clear hO0
        refine ⟨_, rfl, S7.block g9 hz9, ?_⟩
        simp only [Act.put, List.setIfInBounds_toArray, List.set_cons_zero, List.set_cons_succ]
        (with_reducible (refine tr_call 29 ?_ rfl ?_ ?_ ?_); rotate_left; (first | exact wanted_none rfl | exact wanted_on rfl rfl rfl); (go_simp; with_reducible rfl))
        refine (turned_any l1 A1 l1.length k1 w7 (Reads.of_own (ownsRow_keep HP1.out S7)) rfl (by omega) (by omega)).mono ?_
        rintro e w8 ⟨v1, rfl, hO1, hb8⟩
        have S8 : Below w6.heap.size w6 w8 := S7.trans (hb8.mono S7.size)
        obtain ⟨B1, q1, rfl, _, _⟩ := ownsRow_reads hO1
        have HO1 := Lib.hid hO1
        clear hO1
        refine ⟨_, rfl, S8.block g9 hz9, ?_⟩
        simp only [Act.put, List.setIfInBounds_toArray, List.set_cons_zero, List.set_cons_succ]
        have hl0r : l0.length = l0.reverse.length := by simp
        have hl1r : l1.length = l1.reverse.length := by simp
        have HFL := flow_any (fl0 n j) Y6 j g6 gN 1 0 l0.reverse l1.reverse ⟨B0, q0⟩ ⟨B1, q1⟩ w8 (HN6.out.keep S8) (by have h := ownsRow_base (B' := g6 + 1) (ownsRow_keep HO0.out hb8) (by have := hwd6.size; omega); rw [hl0r] at h; exact h) (by have h := ownsRow_base (B' := g6 + 1) HO1.out (by have := S7.size; omega); rw [hl1r] at h; exact h) (by omega) (by rw [fl0_flows n (by omega)]; omega)
        simp only [List.length_reverse] at HFL
        have HFLH := Lib.hid HFL
        clear HFL hl0r hl1r
        (with_reducible (refine tr_call 28 ?_ rfl ?_ ?_ ?_); rotate_left; (first | exact wanted_none rfl | exact wanted_on rfl rfl rfl); (go_simp; with_reducible rfl))
        refine HFLH.out.mono ?_
        rintro e w9 ⟨rfl, ⟨Y9, N9⟩, F9⟩
        have FA : FrN g6 w6 w9 := (FrN.be S8).trans F9
        have B99 := FA.blk B96 (by decide) (by omega)
        refine ⟨_, rfl, B99.trans B96.symm, ?_⟩
        clear HFLH F9 B99
        simp only [Act.put, List.setIfInBounds_toArray, List.set_cons_zero, List.set_cons_succ]
        refine tr_nil ?_
        intro a H; replace hs := H.s hs; replace hd := H.d rfl; replace e8 := H.g 8 rfl rfl; replace e9 := H.g 9 rfl rfl; replace e14 := H.g 14 rfl rfl; replace e1 := H.k e1 rfl; replace e4 := H.k e4 rfl; replace e6 := H.k e6 rfl; replace e7 := H.k e7 rfl; replace e92 := H.k e92 rfl; clear H; refine hKq16 _ _ ?_; clear hKq16 Kq16
        have hst : fl0 n (j + 1) = addFlow (fl0 n j) j 1 0 l0.reverse l1.reverse := by rw [fl0, if_neg HEV.out, HL.out.1, HL.out.2]
        rw [← hst] at N9
        clear hst
        have hfr9 := hfr.trans FA
        have hfq9 := hfq.trans FA
        clear e14
        refine sm_list [92] 114 1 hs hd (by kernel_rfl) (agC e92 agN) rfl ?_
        simp only [seval]
        go_wp2_with fail
        intro a H; replace hs := H.s hs; replace hd := H.d rfl; replace e1 := H.k e1 rfl; replace e4 := H.k e4 rfl; replace e6 := H.k e6 rfl; replace e7 := H.k e7 rfl; replace e8 := H.k e8 rfl; replace e9 := H.k e9 rfl; replace e92 := H.g 92 rfl rfl; clear H
        exact ⟨⟨j + 1, by omega, hs, hd, e1, e4, e6, e7, e8, e9, e92, hfr9, hfq9, ⟨Y9, N9⟩⟩, by first | (simp only [hm, slot e92, intOf]; omega) | (simp [e92, intOf]; omega)⟩
    · have hj8 : j = 8 := by omega
      subst hj8
      have dj : decide (((8 : Nat) : Int) < 8) = false := rfl
      clear hlt hm
      refine sm_list [92] 93 1 hs hd (by kernel_rfl) (agC e92 agN) rfl ?_
      simp only [seval]
      go_wp2_with fail
      intro a H; replace hs := H.s hs; replace hd := H.d rfl; replace e92 := H.g 92 rfl rfl; replace e1 := H.k e1 rfl; replace e4 := H.k e4 rfl; replace e6 := H.k e6 rfl; replace e7 := H.k e7 rfl; replace e8 := H.k e8 rfl; replace e9 := H.k e9 rfl; have e93 := H.g 93 rfl rfl; clear H; refine hKq14 _ _ ?_; clear hKq14 Kq14; refine wp_seq_k fun Kq15 hKq15 => ?_
      refine wp_cond_false (slotE e93) ?_
      clear e93; refine wp_exit ?_; refine exit_then rfl ?_; clear hKq15 Kq15; refine exit_then rfl ?_; refine exit_hit ?_; refine hKq5 _ _ ?_; clear hKq5 Kq5; refine wp_seq_k fun Kq16 hKq16 => ?_; clear e1; clear e7; clear e8; clear e9; clear e92
      have hz6 : g6 < w6.heap.size := N6.B6.lt
      have B4e : Blk w6 g4 26 #[.slice none 0 0, .slice none 0 0, .slice none 0 0, .int .i64 0, .int .i64 0, .int .i64 0, .int .i64 0, .int .i64 0] := (hfr.block g4 B4.lt (.inl hz1)).trans B4
      have HB4 := Lib.hid B4e
      have HB6 := Lib.hid N6.B6
      have HNN := Lib.hid N6
      have hg4z : g4 < w6.heap.size := B4e.lt
      clear B4e N6
      refine sm_list [4, 5, 6] 272 1 hs hd (by kernel_rfl) (agC e4 (agU (agC e6 agN))) rfl ?_
      simp only [seval]
      go_wp2_with (first | (refine wpList_load_any_d rfl 26 (.tmp 2) rfl ⟨g6, 0, none⟩ rfl (cfc (fl0 n 8) Y6) _ (blk_cells HB6.out) Try.underlying26 rfl (by kernel_rfl) ?_) | (refine wpList_store_part rfl 26 (.tmp 0) (.tmp 3) rfl (off := 0) rfl HB4.out rfl (by simp [cfc]) (by kernel_rfl) (by rw [← Array.all_toList]; rfl) ?_; intro wq Bq zq grq) | fail)
      intro a H; replace hs := H.s hs; replace hd := H.d rfl; replace e4 := H.g 4 rfl rfl; replace e6 := H.g 6 rfl rfl; have e5 := H.g 5 rfl rfl; clear H; refine hKq16 _ _ ?_; clear hKq16 Kq16; refine wp_ret ?_
      have Bq' : Blk wq g4 26 (cfc (fl0 n 8) Y6) := by simpa [putAll, cfc] using Bq
      have hlow : Below g4 w2 w6 := ⟨hfr.os, hfr.tape, hfr.output, hfr.size, fun k hk => hfr.block k (Nat.lt_trans hk B4.lt) (.inl (Nat.lt_trans hk hz1))⟩
      have hat : CfAt wq wq.heap.size (fl0 n 8) Y6 := HNN.out.set4 hz1 grq
      exact sm_ret_cell rfl hd e4 Bq' Try.underlying26 rfl (by kernel_rfl) e5 ⟨⟨_, rfl, hat⟩, by rw [← HG4.out]; exact (L2.trans hlow).grown grq (Nat.le_of_lt hg4z) (fun k hk => by cases hk; exact Nat.le_refl _)⟩
end Go.Proofs.Ytaegngcbiefckaa

namespace Go.Proofs.Ytaegngcbiefckaa
set_option linter.unusedSimpArgs false
set_option linter.unusedVariables false
open Go.RowKit Go.WideShapes Go.ChangeShapes
attribute [local go_sem ↓] Go.wp_at_zero Go.wp_at_succ

set_option maxRecDepth 100000 in
set_option maxHeartbeats 4000000 in
theorem named_one (n : Nat) (w : World) (hn : 4 ≤ n ∧ n ≤ 8) : Calls Try.prog 16 #[.int .i64 1, .int .i64 (n : Int)] w fun e w' => (∃ Y : Lay, e = .returned (.tuple #[.agg (cfc (fl1 n 8) Y), .int .i64 0]) ∧ CfAt w' w'.heap.size (fl1 n 8) Y) ∧ Below w.heap.size w w' := by
  obtain ⟨hn2, hn8⟩ := hn
  refine calls_sm (N := 273) Try.func16 rfl (by kernel_rfl) ?_
  intro a hs hd ha
  have e0 : a.tmps[0]? = some (.int .i64 1) := ha 0 _ rfl
  have e1 : a.tmps[1]? = some (.int .i64 (n : Int)) := ha 1 _ rfl
  clear ha
  conv => arg 2; whnf
  refine wp_seq_k fun Kq1 hKq1 => ?_
  refine sm_list [] 4 2 hs hd (by kernel_rfl) agN rfl ?_
  simp only [seval]
  go_wp2_with fail
  intro a H; replace hs := H.s hs; replace hd := H.d rfl; replace e0 := H.k e0 rfl; replace e1 := H.k e1 rfl; have e4 := H.g 4 rfl rfl; clear H; refine hKq1 _ _ ?_; clear hKq1 Kq1; refine wp_seq_k fun Kq2 hKq2 => ?_
  have B4 := Blk.new w 26 #[.slice none 0 0, .slice none 0 0, .slice none 0 0, .int .i64 0, .int .i64 0, .int .i64 0, .int .i64 0, .int .i64 0]
  have L1 : Below w.heap.size w (w.alloc (.cells #[.slice none 0 0, .slice none 0 0, .slice none 0 0, .int .i64 0, .int .i64 0, .int .i64 0, .int .i64 0, .int .i64 0] 26)) := (Below.refl _ _).alloc (Nat.le_refl _) _
  have hz1 : w.heap.size < (w.alloc (.cells #[.slice none 0 0, .slice none 0 0, .slice none 0 0, .int .i64 0, .int .i64 0, .int .i64 0, .int .i64 0, .int .i64 0] 26)).heap.size := by simp
  generalize (w.alloc (.cells #[.slice none 0 0, .slice none 0 0, .slice none 0 0, .int .i64 0, .int .i64 0, .int .i64 0, .int .i64 0, .int .i64 0] 26)) = w1 at *
  obtain ⟨g4, hg4⟩ : ∃ g, g = w.heap.size := ⟨_, rfl⟩
  rw [← hg4] at B4 hz1 L1 e4
  have HG4 := Lib.hid hg4
  clear hg4
  refine sm_list [6] 24 1 hs hd (by kernel_rfl) (agU agN) rfl ?_
  simp only [seval]
  go_wp2_with (first | (refine wpList_store_new rfl 26 (.tmp 0) (.tmp 1) rfl rfl rfl rfl rfl (by kernel_rfl) (by rw [← Array.all_toList]; rfl) ?_) | fail)
  intro a H; replace hs := H.s hs; replace hd := H.d rfl; replace e0 := H.k e0 rfl; replace e1 := H.k e1 rfl; replace e4 := H.k e4 rfl; have e6 := H.g 6 rfl rfl; clear H; refine hKq2 _ _ ?_; clear hKq2 Kq2; refine wp_seq_k fun Kq3 hKq3 => ?_
  have B6 : Blk (w1.alloc (.cells #[.slice none 0 0, .slice none 0 0, .slice none 0 0, .int .i64 4000000, .int .i64 1000000, .int .i64 50, .int .i64 8, .int .i64 1000] 26)) w1.heap.size 26 (cfc (cf0 0) ⟨⟨none, 0⟩, ⟨none, 0⟩, ⟨none, 0⟩, []⟩) := Blk.new w1 _ _
  have L2 : Below g4 w (w1.alloc (.cells #[.slice none 0 0, .slice none 0 0, .slice none 0 0, .int .i64 4000000, .int .i64 1000000, .int .i64 50, .int .i64 8, .int .i64 1000] 26)) := L1.trans ((Below.refl _ _).alloc (Nat.le_of_lt hz1) _)
  replace B4 := B4.alloc (.cells #[.slice none 0 0, .slice none 0 0, .slice none 0 0, .int .i64 4000000, .int .i64 1000000, .int .i64 50, .int .i64 8, .int .i64 1000] 26)
  obtain ⟨g6, hg6⟩ : ∃ g, g = w1.heap.size := ⟨_, rfl⟩
  rw [← hg6] at B6 hz1 e6
  generalize (w1.alloc (.cells #[.slice none 0 0, .slice none 0 0, .slice none 0 0, .int .i64 4000000, .int .i64 1000000, .int .i64 50, .int .i64 8, .int .i64 1000] 26)) = w2 at *
  clear hg6 L1
  refine sm_list [6, 7] 25 1 hs hd (by kernel_rfl) (agC e6 (agU agN)) rfl ?_
  simp only [seval]
  go_wp2_with fail
  intro a H; replace hs := H.s hs; replace hd := H.d rfl; replace e6 := H.g 6 rfl rfl; replace e0 := H.k e0 rfl; replace e1 := H.k e1 rfl; replace e4 := H.k e4 rfl; have e7 := H.g 7 rfl rfl; clear H; refine hKq3 _ _ ?_; clear hKq3 Kq3; refine wp_seq_k fun Kq4 hKq4 => ?_
  refine sm_list [6, 8] 26 1 hs hd (by kernel_rfl) (agC e6 (agU agN)) rfl ?_
  simp only [seval]
  go_wp2_with fail
  intro a H; replace hs := H.s hs; replace hd := H.d rfl; replace e6 := H.g 6 rfl rfl; replace e0 := H.k e0 rfl; replace e1 := H.k e1 rfl; replace e4 := H.k e4 rfl; replace e7 := H.k e7 rfl; have e8 := H.g 8 rfl rfl; clear H; refine hKq4 _ _ ?_; clear hKq4 Kq4; refine wp_seq_k fun Kq5 hKq5 => ?_; refine wp_block ?_; refine wp_seq_k fun Kq6 hKq6 => ?_
  have dn1 : decide (4 ≤ n) = true := decide_eq_true hn2
  have dn2 : decide (n ≤ 8) = true := decide_eq_true hn8
  have dn3 : decide ((4 : Int) ≤ (n : Int)) = true := decide_eq_true (by omega)
  have dn4 : decide ((n : Int) ≤ 8) = true := decide_eq_true (by omega)
  have dk0 : ((1 : Int) == 0) = false := rfl
  have dk1 : ((1 : Int) == 1) = true := rfl
  refine sm_list [0, 1] 28 11 hs hd (by kernel_rfl) (agC e0 (agC e1 agN)) rfl ?_
  simp only [seval]
  go_wp2_with fail
  intro a H; replace hs := H.s hs; replace hd := H.d rfl; replace e0 := H.g 0 rfl rfl; replace e1 := H.g 1 rfl rfl; replace e4 := H.k e4 rfl; replace e6 := H.k e6 rfl; replace e7 := H.k e7 rfl; replace e8 := H.k e8 rfl; have e28 := H.g 28 rfl rfl; clear H; refine hKq6 _ _ ?_; clear hKq6 Kq6
  refine wp_cond_false (slotE e28) ?_
  clear e28; refine wp_seq_k fun Kq7 hKq7 => ?_
  refine sm_list [0, 1] 115 11 hs hd (by kernel_rfl) (agC e0 (agC e1 agN)) rfl ?_
  simp only [seval]
  go_wp2_with fail
  intro a H; replace hs := H.s hs; replace hd := H.d rfl; replace e0 := H.g 0 rfl rfl; replace e1 := H.g 1 rfl rfl; replace e4 := H.k e4 rfl; replace e6 := H.k e6 rfl; replace e7 := H.k e7 rfl; replace e8 := H.k e8 rfl; have e115 := H.g 115 rfl rfl; clear H; refine hKq7 _ _ ?_; clear hKq7 Kq7
  refine wp_cond_true (slotE e115) ?_
  clear e115; refine wp_seq_k fun Kq8 hKq8 => ?_; clear e0; clear dn1 dn2 dn3 dn4 dk0 dk1
  have hms := fun W => mk_nodes (n + 2) ((n : Int) + 2) (by omega) (by omega) W
  obtain ⟨ar, har⟩ : ∃ ar, ar = ((List.replicate (n + 2) (⟨0, false⟩ : Nd)).flatMap ndc).toArray := ⟨_, rfl⟩
  rw [← har] at hms
  obtain ⟨hNm, hFr⟩ := Nm.made (m := n + 2) B6
  rw [← har] at hNm hFr
  have B6a := B6.alloc (.cells ar 55)
  have y0 := B6a.cellOf (v := .slice none 0 0) 0 rfl
  have yz := B6a.frozen
  have yl := B6a.lt
  have HAR := Lib.hid har
  have HN0 := Lib.hid hNm
  have HF0 := Lib.hid hFr
  obtain ⟨m, hm⟩ : ∃ m, m = n + 2 := ⟨_, rfl⟩
  rw [← hm] at hms HN0 HF0
  have HM := Lib.hid hm
  clear har hNm hFr hm B6 B6a
  refine sm_list [1, 6] 126 4 hs hd (by kernel_rfl) (agC e1 (agC e6 agN)) rfl ?_
  simp only [seval]
  go_wp2_with fail
  intro a H; replace hs := H.s hs; replace hd := H.d rfl; replace e1 := H.g 1 rfl rfl; replace e6 := H.g 6 rfl rfl; replace e4 := H.k e4 rfl; replace e7 := H.k e7 rfl; replace e8 := H.k e8 rfl; clear H; refine hKq8 _ _ ?_; clear hKq8 Kq8; refine wp_seq_k fun Kq9 hKq9 => ?_; refine wp_seq_k fun Kq10 hKq10 => ?_; have N0 := HN0.out; have F0 := HF0.out
  obtain ⟨gN, hgN⟩ : ∃ g, g = w2.heap.size := ⟨_, rfl⟩
  generalize ((w2.alloc (.cells ar 55)).setCell ⟨g6, 0, none⟩ (.slice (some ⟨w2.heap.size, 0, none⟩) m m)) = w3 at *
  rw [← hgN] at N0
  clear hgN hms HN0 HF0 HAR y0 yz yl
  have hc4 : cf0 m = br1 n 0 := by rw [HM.out]; rfl
  have hmn : m = n + 2 := HM.out
  rw [hc4] at N0
  clear hc4
  refine sm_list [1] 130 2 hs hd (by kernel_rfl) (agC e1 agN) rfl ?_
  simp only [seval]
  go_wp2_with fail
  intro a H; replace hs := H.s hs; replace hd := H.d rfl; replace e1 := H.g 1 rfl rfl; replace e4 := H.k e4 rfl; replace e6 := H.k e6 rfl; replace e7 := H.k e7 rfl; replace e8 := H.k e8 rfl; have e130 := H.g 130 rfl rfl; have e131 := H.g 131 rfl rfl; clear H; refine hKq10 _ _ ?_; clear hKq10 Kq10; refine wp_block ?_
  refine wp_loop (fun a w' => ∃ i : Nat, i ≤ n ∧ a.tmps.size = 273 ∧ a.defers = [] ∧ a.tmps[1]? = some (.int .i64 (n : Int)) ∧ a.tmps[4]? = some (.pointer (some ⟨g4, 0, none⟩)) ∧ a.tmps[6]? = some (.pointer (some ⟨g6, 0, none⟩)) ∧ a.tmps[7]? = some (.func (.func 27) #[] #[.pointer (some ⟨g6, 0, none⟩)]) ∧ a.tmps[8]? = some (.func (.func 28) #[] #[.pointer (some ⟨g6, 0, none⟩)]) ∧ a.tmps[130]? = some (.int .i64 (n : Int)) ∧ a.tmps[131]? = some (.int .i64 (i : Int)) ∧ FrN g6 w2 w' ∧ NmAt w' g6 gN (br1 n i)) (fun a _ => n - (intOf (a.tmps.getD 131 undef)).toNat) ?_ ?_
  · exact ⟨0, Nat.zero_le _, hs, hd, e1, e4, e6, e7, e8, e130, e131, F0, ⟨_, N0⟩⟩
  clear hs hd e131 e1 e4 e6 e7 e8 e130 a N0 F0 hmn HM
  rintro a w5 ⟨i, hi, hs, hd, e1, e4, e6, e7, e8, e130, e131, hfr, ⟨Y5, N5⟩⟩
  have hm := slot e131
  refine wp_seq_k fun Kq11 hKq11 => ?_
  by_cases hlt : i < n
  ·
    have dj : decide ((i : Int) < (n : Int)) = true := decide_eq_true (by omega)
    have dj2 : decide (i < n) = true := decide_eq_true hlt
    have hNF := br1_facts n i
    obtain ⟨nd, hnd, _⟩ := hNF.node (a := i) (by omega)
    obtain ⟨N6, F6⟩ := N5.br hnd
    have hcl : (br1 n i).nodes.length = n + 2 := hNF.nodes
    have B6 := N5.B6
    have q0 := B6.cellOf (v := .slice (some ⟨gN, 0, none⟩) (n + 2) (n + 2)) 0 (by rw [← hcl]; simp [cfc, N5.yN])
    have BN := N5.BN
    have k1 := BN.cellOf (v := .bool nd.br) (i * 2 + 1) ((nodes_at hnd 1 (by omega)).trans rfl)
    have fz := BN.frozen
    have lz := BN.lt
    have HN6 := Lib.hid N6
    have HF6 := Lib.hid F6
    have hi0 : (0 : Int) ≤ (i : Int) := by omega
    have hiI : (i : Int) < (n : Int) + 2 := by omega
    have hiI2 : (i : Int) < ((n + 2 : Nat) : Int) := by omega
    clear N6 F6 hnd B6 BN hcl hNF N5
    refine sm_list [130, 131] 132 1 hs hd (by kernel_rfl) (agC e130 (agC e131 agN)) rfl ?_
    simp only [seval]
    go_wp2_with fail
    intro a H; replace hs := H.s hs; replace hd := H.d rfl; replace e130 := H.g 130 rfl rfl; replace e131 := H.g 131 rfl rfl; replace e1 := H.k e1 rfl; replace e4 := H.k e4 rfl; replace e6 := H.k e6 rfl; replace e7 := H.k e7 rfl; replace e8 := H.k e8 rfl; have e132 := H.g 132 rfl rfl; clear H; refine hKq11 _ _ ?_; clear hKq11 Kq11; refine wp_seq_k fun Kq12 hKq12 => ?_
    refine wp_cond_true (slotE e132) ?_
    clear e132; refine wp_skip ?_; refine hKq12 _ _ ?_; clear hKq12 Kq12; refine wp_seq_k fun Kq13 hKq13 => ?_; refine wp_block ?_; refine wp_seq_k fun Kq14 hKq14 => ?_
    refine sm_list [15, 131] 133 1 hs hd (by kernel_rfl) (agU (agC e131 agN)) rfl ?_
    simp only [seval]
    go_wp2_with fail
    intro a H; replace hs := H.s hs; replace hd := H.d rfl; replace e131 := H.g 131 rfl rfl; replace e1 := H.k e1 rfl; replace e4 := H.k e4 rfl; replace e6 := H.k e6 rfl; replace e7 := H.k e7 rfl; replace e8 := H.k e8 rfl; replace e130 := H.k e130 rfl; have e15 := H.g 15 rfl rfl; clear H; refine hKq14 _ _ ?_; clear hKq14 Kq14
    refine sm_list [6, 15] 134 5 hs hd (by kernel_rfl) (agC e6 (agC e15 agN)) rfl ?_
    simp only [seval]
    go_wp2_with fail
    intro a H; replace hs := H.s hs; replace hd := H.d rfl; replace e6 := H.g 6 rfl rfl; replace e15 := H.g 15 rfl rfl; replace e1 := H.k e1 rfl; replace e4 := H.k e4 rfl; replace e7 := H.k e7 rfl; replace e8 := H.k e8 rfl; replace e130 := H.k e130 rfl; replace e131 := H.k e131 rfl; clear H; refine hKq13 _ _ ?_; clear hKq13 Kq13; have N6 := HN6.out
    have hfr6 := hfr.trans HF6.out
    generalize w5.setCell ⟨gN, i * 2 + 1, none⟩ (.bool true) = w6 at *
    clear HN6 HF6 k1 fz lz q0 hfr hi0 hiI hiI2; clear e15
    refine sm_list [131] 139 1 hs hd (by kernel_rfl) (agC e131 agN) rfl ?_
    simp only [seval]
    go_wp2_with fail
    intro a H; replace hs := H.s hs; replace hd := H.d rfl; replace e1 := H.k e1 rfl; replace e4 := H.k e4 rfl; replace e6 := H.k e6 rfl; replace e7 := H.k e7 rfl; replace e8 := H.k e8 rfl; replace e130 := H.k e130 rfl; replace e131 := H.g 131 rfl rfl; clear H
    exact ⟨⟨i + 1, by omega, hs, hd, e1, e4, e6, e7, e8, e130, e131, hfr6, ⟨_, N6⟩⟩, by first | (simp only [hm, slot e131, intOf]; omega) | (simp [e131, intOf]; omega)⟩
  · have hin : i = n := by omega
    have dj : decide ((i : Int) < (n : Int)) = false := decide_eq_false (by omega)
    have dj2 : decide (i < n) = false := decide_eq_false hlt
    rw [hin] at N5
    have N50 : Nm w5 g6 gN (ln1 n 0) Y5 := N5
    clear hlt hm hin
    refine sm_list [130, 131] 132 1 hs hd (by kernel_rfl) (agC e130 (agC e131 agN)) rfl ?_
    simp only [seval]
    go_wp2_with fail
    intro a H; replace hs := H.s hs; replace hd := H.d rfl; replace e130 := H.g 130 rfl rfl; replace e131 := H.g 131 rfl rfl; replace e1 := H.k e1 rfl; replace e4 := H.k e4 rfl; replace e6 := H.k e6 rfl; replace e7 := H.k e7 rfl; replace e8 := H.k e8 rfl; have e132 := H.g 132 rfl rfl; clear H; refine hKq11 _ _ ?_; clear hKq11 Kq11; refine wp_seq_k fun Kq12 hKq12 => ?_
    refine wp_cond_false (slotE e132) ?_
    clear e132; refine wp_exit ?_; refine exit_then rfl ?_; clear hKq12 Kq12; refine exit_then rfl ?_; refine exit_hit ?_; refine hKq9 _ _ ?_; clear hKq9 Kq9; refine wp_seq_k fun Kq13 hKq13 => ?_; refine wp_seq_k fun Kq14 hKq14 => ?_; clear e130; clear e131
    refine sm_list [1] 140 2 hs hd (by kernel_rfl) (agC e1 agN) rfl ?_
    simp only [seval]
    go_wp2_with fail
    intro a H; replace hs := H.s hs; replace hd := H.d rfl; replace e1 := H.g 1 rfl rfl; replace e4 := H.k e4 rfl; replace e6 := H.k e6 rfl; replace e7 := H.k e7 rfl; replace e8 := H.k e8 rfl; have e140 := H.g 140 rfl rfl; have e141 := H.g 141 rfl rfl; clear H; refine hKq14 _ _ ?_; clear hKq14 Kq14; refine wp_block ?_
    refine wp_loop (fun a w' => ∃ i : Nat, i ≤ n ∧ a.tmps.size = 273 ∧ a.defers = [] ∧ a.tmps[1]? = some (.int .i64 (n : Int)) ∧ a.tmps[4]? = some (.pointer (some ⟨g4, 0, none⟩)) ∧ a.tmps[6]? = some (.pointer (some ⟨g6, 0, none⟩)) ∧ a.tmps[7]? = some (.func (.func 27) #[] #[.pointer (some ⟨g6, 0, none⟩)]) ∧ a.tmps[8]? = some (.func (.func 28) #[] #[.pointer (some ⟨g6, 0, none⟩)]) ∧ a.tmps[140]? = some (.int .i64 (n : Int)) ∧ a.tmps[141]? = some (.int .i64 (i : Int)) ∧ FrN g6 w2 w' ∧ NmAt w' g6 gN (ln1 n i)) (fun a _ => n - (intOf (a.tmps.getD 141 undef)).toNat) ?_ ?_
    · exact ⟨0, Nat.zero_le _, hs, hd, e1, e4, e6, e7, e8, e140, e141, hfr, ⟨_, N50⟩⟩
    clear hs hd e141 e1 e4 e6 e7 e8 e140 a N50 N5 hfr hi dj dj2 i
    rintro a w5 ⟨i, hi, hs, hd, e1, e4, e6, e7, e8, e140, e141, hfr, ⟨Y5, N5⟩⟩
    have hm := slot e141
    refine wp_seq_k fun Kq15 hKq15 => ?_
    by_cases hlt : i < n
    ·
      have dj : decide ((i : Int) < (n : Int)) = true := decide_eq_true (by omega)
      have dj2 : decide (i < n) = true := decide_eq_true hlt
      have hNF := ln1_facts n (by omega) i hi
      obtain ⟨r, hr⟩ : ∃ r, r = (i + 1) % n := ⟨_, rfl⟩
      have hrn : r < n := by rw [hr]; exact Nat.mod_lt _ (by omega)
      have hrne : i ≠ r := by rw [hr]; exact mod_ne (by omega) hlt
      have hrem : ((i : Int) + 1).tmod (n : Int) = (r : Int) := by rw [hr, Int.tmod_eq_emod_of_nonneg (by omega), Int.natCast_emod, show ((i + 1 : Nat) : Int) = (i : Int) + 1 by omega]
      have hnz : (n : Int) ≠ 0 := by omega
      have hnz2 : ¬ (n = 0) := by omega
      have hwi : IntKind.i64.wrap ((i : Int) + 1) = (i : Int) + 1 := wrap64 (by omega) (by omega)
      have HR := Lib.hid hr
      clear hr
      refine sm_list [140, 141] 142 1 hs hd (by kernel_rfl) (agC e140 (agC e141 agN)) rfl ?_
      simp only [seval]
      go_wp2_with fail
      intro a H; replace hs := H.s hs; replace hd := H.d rfl; replace e140 := H.g 140 rfl rfl; replace e141 := H.g 141 rfl rfl; replace e1 := H.k e1 rfl; replace e4 := H.k e4 rfl; replace e6 := H.k e6 rfl; replace e7 := H.k e7 rfl; replace e8 := H.k e8 rfl; have e142 := H.g 142 rfl rfl; clear H; refine hKq15 _ _ ?_; clear hKq15 Kq15; refine wp_seq_k fun Kq16 hKq16 => ?_
      refine wp_cond_true (slotE e142) ?_
      clear e142; refine wp_skip ?_; refine hKq16 _ _ ?_; clear hKq16 Kq16; refine wp_seq_k fun Kq17 hKq17 => ?_; refine wp_block ?_; refine wp_seq_k fun Kq18 hKq18 => ?_
      refine sm_list [16, 141] 143 1 hs hd (by kernel_rfl) (agU (agC e141 agN)) rfl ?_
      simp only [seval]
      go_wp2_with fail
      intro a H; replace hs := H.s hs; replace hd := H.d rfl; replace e141 := H.g 141 rfl rfl; replace e1 := H.k e1 rfl; replace e4 := H.k e4 rfl; replace e6 := H.k e6 rfl; replace e7 := H.k e7 rfl; replace e8 := H.k e8 rfl; replace e140 := H.k e140 rfl; have e16 := H.g 16 rfl rfl; clear H; refine hKq18 _ _ ?_; clear hKq18 Kq18
      obtain ⟨naa, hnaa, hpaa⟩ := hNF.node (a := i) (by omega)
      obtain ⟨nba, hnba, hpba⟩ := hNF.node (a := r) (by omega)
      have hlla := hNF.links
      have eaa : ((i : Nat) : Int) = (i : Int) := by omega
      have eba : ((r : Nat) : Int) = (r : Int) := by omega
      have HLa := link_any (ln1 n i) Y5 (i) (r) g6 gN naa nba w5 N5 hnaa hnba (hrne) (by omega) (by omega)
      rw [eaa, eba] at HLa
      have HLHa := Lib.hid HLa
      clear HLa hnaa hnba hpaa hpba eaa eba hlla
      refine sm_list [1, 7, 16] 144 7 hs hd (by kernel_rfl) (agC e1 (agC e7 (agC e16 agN))) rfl ?_
      simp only [seval]
      go_wp2_with fail
      refine HLHa.out.mono ?_
      rintro e w6 ⟨rfl, ⟨Yw6, Nw6⟩, Fw6⟩
      go_wp2_with fail
      intro a H; replace hs := H.s hs; replace hd := H.d rfl; replace e1 := H.g 1 rfl rfl; replace e7 := H.g 7 rfl rfl; replace e16 := H.g 16 rfl rfl; replace e4 := H.k e4 rfl; replace e6 := H.k e6 rfl; replace e8 := H.k e8 rfl; replace e140 := H.k e140 rfl; replace e141 := H.k e141 rfl; clear H; refine hKq17 _ _ ?_; clear hKq17 Kq17; clear HLHa
      have hfr6 := hfr.trans Fw6
      have hst : addLink (ln1 n i) i r = ln1 n (i + 1) := by rw [HR.out]; rfl
      rw [hst] at Nw6
      clear hst hfr Fw6 hNF hrem hnz hnz2 hwi hrne hrn dj dj2 N5; clear e16
      refine sm_list [141] 151 1 hs hd (by kernel_rfl) (agC e141 agN) rfl ?_
      simp only [seval]
      go_wp2_with fail
      intro a H; replace hs := H.s hs; replace hd := H.d rfl; replace e1 := H.k e1 rfl; replace e4 := H.k e4 rfl; replace e6 := H.k e6 rfl; replace e7 := H.k e7 rfl; replace e8 := H.k e8 rfl; replace e140 := H.k e140 rfl; replace e141 := H.g 141 rfl rfl; clear H
      exact ⟨⟨i + 1, by omega, hs, hd, e1, e4, e6, e7, e8, e140, e141, hfr6, ⟨_, Nw6⟩⟩, by first | (simp only [hm, slot e141, intOf]; omega) | (simp [e141, intOf]; omega)⟩
    · have hin : i = n := by omega
      have dj : decide ((i : Int) < (n : Int)) = false := decide_eq_false (by omega)
      have dj2 : decide (i < n) = false := decide_eq_false hlt
      rw [hin] at N5
      clear hlt hm hin
      refine sm_list [140, 141] 142 1 hs hd (by kernel_rfl) (agC e140 (agC e141 agN)) rfl ?_
      simp only [seval]
      go_wp2_with fail
      intro a H; replace hs := H.s hs; replace hd := H.d rfl; replace e140 := H.g 140 rfl rfl; replace e141 := H.g 141 rfl rfl; replace e1 := H.k e1 rfl; replace e4 := H.k e4 rfl; replace e6 := H.k e6 rfl; replace e7 := H.k e7 rfl; replace e8 := H.k e8 rfl; have e142 := H.g 142 rfl rfl; clear H; refine hKq15 _ _ ?_; clear hKq15 Kq15; refine wp_seq_k fun Kq16 hKq16 => ?_
      refine wp_cond_false (slotE e142) ?_
      clear e142; refine wp_exit ?_; refine exit_then rfl ?_; clear hKq16 Kq16; refine exit_then rfl ?_; refine exit_hit ?_; refine hKq13 _ _ ?_; clear hKq13 Kq13; refine wp_seq_k fun Kq17 hKq17 => ?_; clear e140; clear e141; clear dj dj2 hi i
      have f0 := ln1_facts n (by omega) n (Nat.le_refl _)
      have f1 := f0.link (a := n) (b := 0) (by omega)
      have f2 := f1.link (a := n) (b := n - 1) (by omega)
      have f3 := f2.link (a := n + 1) (b := 1) (by omega)
      obtain ⟨naa, hnaa, hpaa⟩ := f0.node (a := n) (by omega)
      obtain ⟨nba, hnba, hpba⟩ := f0.node (a := 0) (by omega)
      have hlla := f0.links
      have eaa : ((n : Nat) : Int) = (n : Int) := by omega
      have eba : ((0 : Nat) : Int) = 0 := by omega
      have HLa := link_any (ln1 n n) Y5 (n) (0) g6 gN naa nba w5 N5 hnaa hnba (by omega) (by omega) (by omega)
      rw [eaa, eba] at HLa
      have HLHa := Lib.hid HLa
      clear HLa hnaa hnba hpaa hpba eaa eba hlla
      refine sm_list [1, 7] 152 3 hs hd (by kernel_rfl) (agC e1 (agC e7 agN)) rfl ?_
      simp only [seval]
      go_wp2_with fail
      refine HLHa.out.mono ?_
      rintro e w6 ⟨rfl, ⟨Yw6, Nw6⟩, Fw6⟩
      go_wp2_with fail
      intro a H; replace hs := H.s hs; replace hd := H.d rfl; replace e1 := H.g 1 rfl rfl; replace e7 := H.g 7 rfl rfl; replace e4 := H.k e4 rfl; replace e6 := H.k e6 rfl; replace e8 := H.k e8 rfl; clear H; refine hKq17 _ _ ?_; clear hKq17 Kq17; refine wp_seq_k fun Kq18 hKq18 => ?_; clear HLHa N5
      obtain ⟨nab, hnab, hpab⟩ := f1.node (a := n) (by omega)
      obtain ⟨nbb, hnbb, hpbb⟩ := f1.node (a := n - 1) (by omega)
      have hllb := f1.links
      have eab : ((n : Nat) : Int) = (n : Int) := by omega
      have ebb : ((n - 1 : Nat) : Int) = (n : Int) - 1 := by omega
      have HLb := link_any (addLink (ln1 n n) n 0) Yw6 (n) (n - 1) g6 gN nab nbb w6 Nw6 hnab hnbb (by omega) (by omega) (by omega)
      rw [eab, ebb] at HLb
      have HLHb := Lib.hid HLb
      clear HLb hnab hnbb hpab hpbb eab ebb hllb
      refine sm_list [1, 7] 155 5 hs hd (by kernel_rfl) (agC e1 (agC e7 agN)) rfl ?_
      simp only [seval]
      go_wp2_with fail
      refine HLHb.out.mono ?_
      rintro e w7 ⟨rfl, ⟨Yw7, Nw7⟩, Fw7⟩
      go_wp2_with fail
      intro a H; replace hs := H.s hs; replace hd := H.d rfl; replace e1 := H.g 1 rfl rfl; replace e7 := H.g 7 rfl rfl; replace e4 := H.k e4 rfl; replace e6 := H.k e6 rfl; replace e8 := H.k e8 rfl; clear H; refine hKq18 _ _ ?_; clear hKq18 Kq18; refine wp_seq_k fun Kq19 hKq19 => ?_; clear HLHb Nw6
      obtain ⟨nac, hnac, hpac⟩ := f2.node (a := n + 1) (by omega)
      obtain ⟨nbc, hnbc, hpbc⟩ := f2.node (a := 1) (by omega)
      have hllc := f2.links
      have eac : ((n + 1 : Nat) : Int) = (n : Int) + 1 := by omega
      have ebc : ((1 : Nat) : Int) = 1 := by omega
      have HLc := link_any (addLink (addLink (ln1 n n) n 0) n (n - 1)) Yw7 (n + 1) (1) g6 gN nac nbc w7 Nw7 hnac hnbc (by omega) (by omega) (by omega)
      rw [eac, ebc] at HLc
      have HLHc := Lib.hid HLc
      clear HLc hnac hnbc hpac hpbc eac ebc hllc
      refine sm_list [1, 7] 160 4 hs hd (by kernel_rfl) (agC e1 (agC e7 agN)) rfl ?_
      simp only [seval]
      go_wp2_with fail
      refine HLHc.out.mono ?_
      rintro e w8 ⟨rfl, ⟨Yw8, Nw8⟩, Fw8⟩
      go_wp2_with fail
      intro a H; replace hs := H.s hs; replace hd := H.d rfl; replace e1 := H.g 1 rfl rfl; replace e7 := H.g 7 rfl rfl; replace e4 := H.k e4 rfl; replace e6 := H.k e6 rfl; replace e8 := H.k e8 rfl; clear H; refine hKq19 _ _ ?_; clear hKq19 Kq19; refine wp_seq_k fun Kq20 hKq20 => ?_; clear HLHc Nw7
      obtain ⟨nad, hnad, hpad⟩ := f3.node (a := n + 1) (by omega)
      obtain ⟨nbd, hnbd, hpbd⟩ := f3.node (a := n - 2) (by omega)
      have hlld := f3.links
      have ead : ((n + 1 : Nat) : Int) = (n : Int) + 1 := by omega
      have ebd : ((n - 2 : Nat) : Int) = (n : Int) - 2 := by omega
      have HLd := link_any (addLink (addLink (addLink (ln1 n n) n 0) n (n - 1)) (n + 1) 1) Yw8 (n + 1) (n - 2) g6 gN nad nbd w8 Nw8 hnad hnbd (by omega) (by omega) (by omega)
      rw [ead, ebd] at HLd
      have HLHd := Lib.hid HLd
      clear HLd hnad hnbd hpad hpbd ead ebd hlld
      refine sm_list [1, 7] 164 6 hs hd (by kernel_rfl) (agC e1 (agC e7 agN)) rfl ?_
      simp only [seval]
      go_wp2_with fail
      refine HLHd.out.mono ?_
      rintro e w9 ⟨rfl, ⟨Yw9, Nw9⟩, Fw9⟩
      go_wp2_with fail
      intro a H; replace hs := H.s hs; replace hd := H.d rfl; replace e1 := H.g 1 rfl rfl; replace e7 := H.g 7 rfl rfl; replace e4 := H.k e4 rfl; replace e6 := H.k e6 rfl; replace e8 := H.k e8 rfl; clear H; refine hKq20 _ _ ?_; clear hKq20 Kq20; refine wp_seq_k fun Kq21 hKq21 => ?_; clear HLHd Nw8
      have hfr9 := hfr.trans (Fw6.trans (Fw7.trans (Fw8.trans Fw9)))
      have N9 : Nm w9 g6 gN (fl1 n 0) Yw9 := Nw9
      clear Fw6 Fw7 Fw8 Fw9 hfr f0 f1 f2 f3 Nw9
      have L8 : Below w9.heap.size w9 ((w9.alloc (.cells #[.int .i64 (n : Int), .int .i64 0, .int .i64 ((n : Int) + 2)] 3)).alloc (.cells #[.int .i64 ((n : Int) + 1), .int .i64 ((n : Int) - 2), .int .i64 ((n : Int) + 3)] 3)) := ((Below.refl _ _).alloc (Nat.le_refl _) _).alloc (by simp) _
      have N10 := N9.keep L8
      have hz9 : g6 + 1 ≤ w9.heap.size := N9.B6.lt
      have o0 : ((w9.alloc (.cells #[.int .i64 (n : Int), .int .i64 0, .int .i64 ((n : Int) + 2)] 3)).alloc (.cells #[.int .i64 ((n : Int) + 1), .int .i64 ((n : Int) - 2), .int .i64 ((n : Int) + 3)] 3)).ownsRow (g6 + 1) 3 1 (.slice (some ⟨w9.heap.size, 0, none⟩) 3 3) 3 ((up1 n).map (Value.int .i64)) := ownsRow_keep (ownsRow_new (size := 1) (n := 3) w9 (cs := #[.int .i64 (n : Int), .int .i64 0, .int .i64 ((n : Int) + 2)]) hz9 rfl (by unfold maxLen; omega)) ((Below.refl _ _).alloc (Nat.le_refl _) _)
      have o1 : ((w9.alloc (.cells #[.int .i64 (n : Int), .int .i64 0, .int .i64 ((n : Int) + 2)] 3)).alloc (.cells #[.int .i64 ((n : Int) + 1), .int .i64 ((n : Int) - 2), .int .i64 ((n : Int) + 3)] 3)).ownsRow (g6 + 1) 3 1 (.slice (some ⟨w9.heap.size + 1, 0, none⟩) 3 3) 3 ((dn1 n).map (Value.int .i64)) := by
        have h := ownsRow_new (size := 1) (n := 3) (e := 3) (w9.alloc (.cells #[.int .i64 (n : Int), .int .i64 0, .int .i64 ((n : Int) + 2)] 3)) (base := g6 + 1) (cs := #[.int .i64 ((n : Int) + 1), .int .i64 ((n : Int) - 2), .int .i64 ((n : Int) + 3)]) (by simp; omega) rfl (by unfold maxLen; omega)
        simpa [dn1] using h
      have hfr10 := hfr9.trans (FrN.be L8)
      clear N9 hfr9 hz9
      refine sm_list [1, 17, 18] 170 11 hs hd (by kernel_rfl) (agC e1 (agU (agU agN))) rfl ?_
      simp only [seval]
      go_wp2_with fail
      intro a H; replace hs := H.s hs; replace hd := H.d rfl; replace e1 := H.g 1 rfl rfl; replace e4 := H.k e4 rfl; replace e6 := H.k e6 rfl; replace e7 := H.k e7 rfl; replace e8 := H.k e8 rfl; have e17 := H.g 17 rfl rfl; have e18 := H.g 18 rfl rfl; clear H; refine hKq21 _ _ ?_; clear hKq21 Kq21; refine wp_seq_k fun Kq22 hKq22 => ?_
      generalize ((w9.alloc (.cells #[.int .i64 (n : Int), .int .i64 0, .int .i64 ((n : Int) + 2)] 3)).alloc (.cells #[.int .i64 ((n : Int) + 1), .int .i64 ((n : Int) - 2), .int .i64 ((n : Int) + 3)] 3)) = w10 at *
      obtain ⟨gu, hgu⟩ : ∃ g, g = w9.heap.size := ⟨_, rfl⟩
      rw [← hgu] at o0 o1
      have e17b : a.tmps[17]? = some (.slice (some ⟨gu, 0, none⟩) 3 3) := by rw [hgu]; first | exact e17 | simpa using e17
      have e18b : a.tmps[18]? = some (.slice (some ⟨gu + 1, 0, none⟩) 3 3) := by rw [hgu]; first | exact e18 | simpa using e18
      replace e17 := e17b
      replace e18 := e18b
      clear e17b e18b hgu L8
      refine sm_list [] 181 1 hs hd (by kernel_rfl) agN rfl ?_
      simp only [seval]
      go_wp2_with fail
      intro a H; replace hs := H.s hs; replace hd := H.d rfl; replace e1 := H.k e1 rfl; replace e4 := H.k e4 rfl; replace e6 := H.k e6 rfl; replace e7 := H.k e7 rfl; replace e8 := H.k e8 rfl; replace e17 := H.k e17 rfl; replace e18 := H.k e18 rfl; have e181 := H.g 181 rfl rfl; clear H; refine hKq22 _ _ ?_; clear hKq22 Kq22; refine wp_block ?_
      refine wp_loop (fun a w' => ∃ j : Nat, j ≤ 8 ∧ a.tmps.size = 273 ∧ a.defers = [] ∧ a.tmps[1]? = some (.int .i64 (n : Int)) ∧ a.tmps[4]? = some (.pointer (some ⟨g4, 0, none⟩)) ∧ a.tmps[6]? = some (.pointer (some ⟨g6, 0, none⟩)) ∧ a.tmps[7]? = some (.func (.func 27) #[] #[.pointer (some ⟨g6, 0, none⟩)]) ∧ a.tmps[8]? = some (.func (.func 28) #[] #[.pointer (some ⟨g6, 0, none⟩)]) ∧ a.tmps[17]? = some (.slice (some ⟨gu, 0, none⟩) 3 3) ∧ a.tmps[18]? = some (.slice (some ⟨gu + 1, 0, none⟩) 3 3) ∧ a.tmps[181]? = some (.int .i64 (j : Int)) ∧ FrN g6 w2 w' ∧ FrN g6 w10 w' ∧ NmAt w' g6 gN (fl1 n j)) (fun a _ => 8 - (intOf (a.tmps.getD 181 undef)).toNat) ?_ ?_
      · exact ⟨0, by omega, hs, hd, e1, e4, e6, e7, e8, e17, e18, e181, hfr10, FrN.refl, ⟨_, N10⟩⟩
      clear hs hd e181 e1 e4 e6 e7 e8 e17 e18 a N10 hfr10
      rintro a w6 ⟨j, hj, hs, hd, e1, e4, e6, e7, e8, e17, e18, e181, hfr, hfq, ⟨Y6, N6⟩⟩
      have hm := slot e181
      refine wp_seq_k fun Kq23 hKq23 => ?_
      by_cases hlt : j < 8
      ·
        have dj : decide ((j : Int) < 8) = true := decide_eq_true (by omega)
        have dj2 : decide (j < 8) = true := decide_eq_true hlt
        have p0 := hfq.own o0 (by decide) (Nat.lt_succ_self g6)
        have p1 := hfq.own o1 (by decide) (Nat.lt_succ_self g6)
        refine sm_list [181] 182 1 hs hd (by kernel_rfl) (agC e181 agN) rfl ?_
        simp only [seval]
        go_wp2_with fail
        intro a H; replace hs := H.s hs; replace hd := H.d rfl; replace e181 := H.g 181 rfl rfl; replace e1 := H.k e1 rfl; replace e4 := H.k e4 rfl; replace e6 := H.k e6 rfl; replace e7 := H.k e7 rfl; replace e8 := H.k e8 rfl; replace e17 := H.k e17 rfl; replace e18 := H.k e18 rfl; have e182 := H.g 182 rfl rfl; clear H; refine hKq23 _ _ ?_; clear hKq23 Kq23; refine wp_seq_k fun Kq24 hKq24 => ?_
        refine wp_cond_true (slotE e182) ?_
        clear e182; refine wp_skip ?_; refine hKq24 _ _ ?_; clear hKq24 Kq24; refine wp_seq_k fun Kq25 hKq25 => ?_; refine wp_block ?_; refine wp_seq_k fun Kq26 hKq26 => ?_
        refine sm_list [19, 181] 183 1 hs hd (by kernel_rfl) (agU (agC e181 agN)) rfl ?_
        simp only [seval]
        go_wp2_with fail
        intro a H; replace hs := H.s hs; replace hd := H.d rfl; replace e181 := H.g 181 rfl rfl; replace e1 := H.k e1 rfl; replace e4 := H.k e4 rfl; replace e6 := H.k e6 rfl; replace e7 := H.k e7 rfl; replace e8 := H.k e8 rfl; replace e17 := H.k e17 rfl; replace e18 := H.k e18 rfl; have e19 := H.g 19 rfl rfl; clear H; refine hKq26 _ _ ?_; clear hKq26 Kq26; refine wp_seq_k fun Kq27 hKq27 => ?_; clear dj dj2
        by_cases hev : j % 2 = 0
        · have h2 : (j : Int).tmod 2 = 0 := by rw [Int.tmod_eq_emod_of_nonneg (by omega)]; omega
          have HFLH := Lib.hid (flow_any (fl1 n j) Y6 j g6 gN (n : Int) ((n : Int) + 1) (up1 n) (dn1 n) ⟨some ⟨gu, 0, none⟩, 3⟩ ⟨some ⟨gu + 1, 0, none⟩, 3⟩ w6 N6 p0 p1 (by omega) (by rw [fl1_flows n (by omega)]; omega))
          have HEV := Lib.hid hev
          clear hev
          refine sm_list [19] 184 3 hs hd (by kernel_rfl) (agC e19 agN) rfl ?_
          simp only [seval]
          go_wp2_with fail
          intro a H; replace hs := H.s hs; replace hd := H.d rfl; replace e19 := H.g 19 rfl rfl; replace e1 := H.k e1 rfl; replace e4 := H.k e4 rfl; replace e6 := H.k e6 rfl; replace e7 := H.k e7 rfl; replace e8 := H.k e8 rfl; replace e17 := H.k e17 rfl; replace e18 := H.k e18 rfl; replace e181 := H.k e181 rfl; have e186 := H.g 186 rfl rfl; clear H; refine hKq27 _ _ ?_; clear hKq27 Kq27
          refine wp_cond_true (slotE e186) ?_
          clear e186; clear h2
          refine sm_list [1, 8, 17, 18, 19] 187 8 hs hd (by kernel_rfl) (agC e1 (agC e8 (agC e17 (agC e18 (agC e19 agN))))) rfl ?_
          simp only [seval]
          go_wp2_with fail
          refine HFLH.out.mono ?_
          rintro e w9 ⟨rfl, ⟨Y9, N9⟩, F9⟩
          go_wp2_with fail
          intro a H; replace hs := H.s hs; replace hd := H.d rfl; replace e1 := H.g 1 rfl rfl; replace e8 := H.g 8 rfl rfl; replace e17 := H.g 17 rfl rfl; replace e18 := H.g 18 rfl rfl; replace e19 := H.g 19 rfl rfl; replace e4 := H.k e4 rfl; replace e6 := H.k e6 rfl; replace e7 := H.k e7 rfl; replace e181 := H.k e181 rfl; clear H; refine hKq25 _ _ ?_; clear hKq25 Kq25
          have hst : fl1 n (j + 1) = addFlow (fl1 n j) j (n : Int) ((n : Int) + 1) (up1 n) (dn1 n) := by rw [fl1, if_pos HEV.out]
          rw [← hst] at N9
          clear hst HFLH
          have hfr9 := hfr.trans F9
          have hfq9 := hfq.trans F9
          clear e19
          refine sm_list [181] 205 1 hs hd (by kernel_rfl) (agC e181 agN) rfl ?_
          simp only [seval]
          go_wp2_with fail
          intro a H; replace hs := H.s hs; replace hd := H.d rfl; replace e1 := H.k e1 rfl; replace e4 := H.k e4 rfl; replace e6 := H.k e6 rfl; replace e7 := H.k e7 rfl; replace e8 := H.k e8 rfl; replace e17 := H.k e17 rfl; replace e18 := H.k e18 rfl; replace e181 := H.g 181 rfl rfl; clear H
          exact ⟨⟨j + 1, by omega, hs, hd, e1, e4, e6, e7, e8, e17, e18, e181, hfr9, hfq9, ⟨Y9, N9⟩⟩, by first | (simp only [hm, slot e181, intOf]; omega) | (simp [e181, intOf]; omega)⟩
        · have h2 : (j : Int).tmod 2 = 1 := by rw [Int.tmod_eq_emod_of_nonneg (by omega)]; omega
          have hz6 : g6 + 1 ≤ w6.heap.size := N6.B6.lt
          have HT0 := Lib.hid (turned_any (up1 n) _ 3 3 w6 (Reads.of_own p0) rfl (by omega) (by omega))
          have HN6 := Lib.hid N6
          have HP1 := Lib.hid p1
          have HEV := Lib.hid hev
          clear hev N6 p0 p1
          refine sm_list [19] 184 3 hs hd (by kernel_rfl) (agC e19 agN) rfl ?_
          simp only [seval]
          go_wp2_with fail
          intro a H; replace hs := H.s hs; replace hd := H.d rfl; replace e19 := H.g 19 rfl rfl; replace e1 := H.k e1 rfl; replace e4 := H.k e4 rfl; replace e6 := H.k e6 rfl; replace e7 := H.k e7 rfl; replace e8 := H.k e8 rfl; replace e17 := H.k e17 rfl; replace e18 := H.k e18 rfl; replace e181 := H.k e181 rfl; have e186 := H.g 186 rfl rfl; clear H; refine hKq27 _ _ ?_; clear hKq27 Kq27
          refine wp_cond_false (slotE e186) ?_
          clear e186; clear h2
          refine sm_list [1, 8, 17, 18, 19] 195 10 hs hd (by kernel_rfl) (agC e1 (agC e8 (agC e17 (agC e18 (agC e19 agN))))) rfl ?_
          simp only [seval]
          go_wp2_with fail
          refine HT0.out.mono ?_
          rintro e w7 ⟨v0, rfl, hO0, hb7⟩
          have HO0 := Lib.hid hO0
          have HB7 := Lib.hid hb7
          clear hO0 hb7
          go_wp2_with fail
          have HT1 := turned_any (dn1 n) _ 3 3 w7 (Reads.of_own (ownsRow_keep HP1.out HB7.out)) rfl (by omega) (by omega)
          refine HT1.mono ?_
          rintro e w8 ⟨v1, rfl, hO1, hb8⟩
          have HO1 := Lib.hid hO1
          have HB8 := Lib.hid hb8
          clear hO1 hb8 HT1
          obtain ⟨A0, k0, rfl, _, _⟩ := ownsRow_reads HO0.out
          obtain ⟨A1, k1, rfl, _, _⟩ := ownsRow_reads HO1.out
          go_wp2_with fail
          have hq7 := HB7.out.size
          have HFL := flow_any (fl1 n j) Y6 j g6 gN ((n : Int) + 1) (n : Int) (up1 n).reverse (dn1 n).reverse ⟨A0, k0⟩ ⟨A1, k1⟩ w8 ((HN6.out.keep HB7.out).keep HB8.out) (ownsRow_base (ownsRow_keep HO0.out HB8.out) (by omega)) (ownsRow_base HO1.out (by omega)) (by omega) (by rw [fl1_flows n (by omega)]; omega)
          refine HFL.mono ?_
          rintro e w9 ⟨rfl, ⟨Y9, N9⟩, F9⟩
          have FA : FrN g6 w6 w9 := (FrN.be HB7.out).trans ((FrN.be HB8.out).trans F9)
          clear HFL F9
          go_wp2_with fail
          intro a H; replace hs := H.s hs; replace hd := H.d rfl; replace e1 := H.g 1 rfl rfl; replace e8 := H.g 8 rfl rfl; replace e17 := H.g 17 rfl rfl; replace e18 := H.g 18 rfl rfl; replace e19 := H.g 19 rfl rfl; replace e4 := H.k e4 rfl; replace e6 := H.k e6 rfl; replace e7 := H.k e7 rfl; replace e181 := H.k e181 rfl; clear H; refine hKq25 _ _ ?_; clear hKq25 Kq25
          have hst : fl1 n (j + 1) = addFlow (fl1 n j) j ((n : Int) + 1) (n : Int) (up1 n).reverse (dn1 n).reverse := by rw [fl1, if_neg HEV.out]
          rw [← hst] at N9
          clear hst
          have hfr9 := hfr.trans FA
          have hfq9 := hfq.trans FA
          clear e19
          refine sm_list [181] 205 1 hs hd (by kernel_rfl) (agC e181 agN) rfl ?_
          simp only [seval]
          go_wp2_with fail
          intro a H; replace hs := H.s hs; replace hd := H.d rfl; replace e1 := H.k e1 rfl; replace e4 := H.k e4 rfl; replace e6 := H.k e6 rfl; replace e7 := H.k e7 rfl; replace e8 := H.k e8 rfl; replace e17 := H.k e17 rfl; replace e18 := H.k e18 rfl; replace e181 := H.g 181 rfl rfl; clear H
          exact ⟨⟨j + 1, by omega, hs, hd, e1, e4, e6, e7, e8, e17, e18, e181, hfr9, hfq9, ⟨Y9, N9⟩⟩, by first | (simp only [hm, slot e181, intOf]; omega) | (simp [e181, intOf]; omega)⟩
      · have hj8 : j = 8 := by omega
        subst hj8
        have dj : decide (((8 : Nat) : Int) < 8) = false := rfl
        clear hlt hm
        refine sm_list [181] 182 1 hs hd (by kernel_rfl) (agC e181 agN) rfl ?_
        simp only [seval]
        go_wp2_with fail
        intro a H; replace hs := H.s hs; replace hd := H.d rfl; replace e181 := H.g 181 rfl rfl; replace e1 := H.k e1 rfl; replace e4 := H.k e4 rfl; replace e6 := H.k e6 rfl; replace e7 := H.k e7 rfl; replace e8 := H.k e8 rfl; replace e17 := H.k e17 rfl; replace e18 := H.k e18 rfl; have e182 := H.g 182 rfl rfl; clear H; refine hKq23 _ _ ?_; clear hKq23 Kq23; refine wp_seq_k fun Kq24 hKq24 => ?_
        refine wp_cond_false (slotE e182) ?_
        clear e182; refine wp_exit ?_; refine exit_then rfl ?_; clear hKq24 Kq24; refine exit_then rfl ?_; refine exit_hit ?_; refine hKq5 _ _ ?_; clear hKq5 Kq5; refine wp_seq_k fun Kq25 hKq25 => ?_; clear e1; clear e7; clear e8; clear e17; clear e18; clear e181
        have hz6 : g6 < w6.heap.size := N6.B6.lt
        have B4e : Blk w6 g4 26 #[.slice none 0 0, .slice none 0 0, .slice none 0 0, .int .i64 0, .int .i64 0, .int .i64 0, .int .i64 0, .int .i64 0] := (hfr.block g4 B4.lt (.inl hz1)).trans B4
        have HB4 := Lib.hid B4e
        have HB6 := Lib.hid N6.B6
        have HNN := Lib.hid N6
        have hg4z : g4 < w6.heap.size := B4e.lt
        clear B4e N6
        refine sm_list [4, 5, 6] 272 1 hs hd (by kernel_rfl) (agC e4 (agU (agC e6 agN))) rfl ?_
        simp only [seval]
        go_wp2_with (first | (refine wpList_load_any_d rfl 26 (.tmp 2) rfl ⟨g6, 0, none⟩ rfl (cfc (fl1 n 8) Y6) _ (blk_cells HB6.out) Try.underlying26 rfl (by kernel_rfl) ?_) | (refine wpList_store_part rfl 26 (.tmp 0) (.tmp 3) rfl (off := 0) rfl HB4.out rfl (by simp [cfc]) (by kernel_rfl) (by rw [← Array.all_toList]; rfl) ?_; intro wq Bq zq grq) | fail)
        intro a H; replace hs := H.s hs; replace hd := H.d rfl; replace e4 := H.g 4 rfl rfl; replace e6 := H.g 6 rfl rfl; have e5 := H.g 5 rfl rfl; clear H; refine hKq25 _ _ ?_; clear hKq25 Kq25; refine wp_ret ?_
        have Bq' : Blk wq g4 26 (cfc (fl1 n 8) Y6) := by simpa [putAll, cfc] using Bq
        have hlow : Below g4 w2 w6 := ⟨hfr.os, hfr.tape, hfr.output, hfr.size, fun k hk => hfr.block k (Nat.lt_trans hk B4.lt) (.inl (Nat.lt_trans hk hz1))⟩
        have hat : CfAt wq wq.heap.size (fl1 n 8) Y6 := HNN.out.set4 hz1 grq
        exact sm_ret_cell rfl hd e4 Bq' Try.underlying26 rfl (by kernel_rfl) e5 ⟨⟨_, rfl, hat⟩, by rw [← HG4.out]; exact (L2.trans hlow).grown grq (Nat.le_of_lt hg4z) (fun k hk => by cases hk; exact Nat.le_refl _)⟩
end Go.Proofs.Ytaegngcbiefckaa
