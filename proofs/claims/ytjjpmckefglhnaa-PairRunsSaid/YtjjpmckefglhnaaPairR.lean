/-
  Layer 21: two domains' clocks: every answer, of any domain number, and of no pair.
-/
import Derived.Test.YtjjpmckefglhnaaPairC
import Derived.Test.YtjjpmckefglhnaaKitD
namespace Go.Proofs.Ytjjpmckefglhnaa
set_option linter.unusedSimpArgs false
set_option linter.unusedVariables false
open Go.RowKit Go.WideShapes Go.ChangeShapes
attribute [local go_sem ↓] Go.wp_at_zero Go.wp_at_succ

/-! ### What is right stays so -/
theorem own_wf {c : Ck} {on : Bool} {now : Int} (h : c.Wf) (hn : I64 now) : (ownV c on now).Wf := by
  unfold ownV
  split
  · exact h
  · split
    · exact ⟨hn, at_i64 now hn, now_i64 h, hn, h.at_⟩
    · exact ⟨h.here, h.there, h.rate, h.last, h.at_⟩
theorem hold_wf {c : Ck} {now t : Int} (h : c.Wf) (hn : I64 now) (ht : I64 t) : (holdV c now t).Wf := ⟨hn, ht, h.rate, hn, h.at_⟩
theorem sync_wf {c : Ck} {m : Mg} {at_ : Int} (h : c.Wf) (ha : I64 at_) : (syncV c m at_).2.Wf := by
  unfold syncV
  split
  · exact ⟨h.here, h.there, h.rate, h.last, ha⟩
  · exact h
theorem shut_wf {c : Ck} (h : c.Wf) : (shut c).Wf := ⟨h.here, h.there, h.rate, h.last, h.at_⟩
theorem follV_wf {c : Ck} {m : Mg} {delay ratio : Int} (h : c.Wf) : (follV c m delay ratio).2.Wf := by
  unfold follV
  repeat' split
  · exact h
  all_goals first | exact shut_wf h | exact foll_wf h.at_ (add_i64 _ _) (md_i64 _ _ _ _)
/-! ### Root -/
def rootV (p : Pr) (d : Int) (on : Bool) (now : Int) : Pr :=
  if d = 0 then { p with root0 := on, c0 := ownV p.c0 on now } else if d = 1 then { p with root1 := on, c1 := ownV p.c1 on now } else p
set_option maxRecDepth 100000 in
set_option maxHeartbeats 2000000 in
theorem proot0 (p : Pr) (gp g0 g1 : Nat) (on : Bool) (now : Int) (w : World) (P : PrIn w gp g0 g1 p) (hw : p.c0.Wf) (hn : I64 now) :
    Calls Try.prog 12 #[.pointer (some ⟨gp, 0, none⟩), .int .i64 0, .bool on, .int .i64 now] w fun e w' => e = .returned (.tuple #[]) ∧ PrIn w' gp g0 g1 { p with root0 := on, c0 := ownV p.c0 on now } ∧ Fr3 w w' gp g0 g1 := by
  have HO := Lib.hid (fun W B => own_any p.c0 g0 on now W B hw hn)
  have y3 := P.box.cellOf (v := .bool p.root0) 3 rfl
  have y1 := P.box.cellOf (v := .pointer (some ⟨g0, 0, none⟩)) 1 rfl
  have fz := P.box.frozen
  have P2 : PrIn (w.setCell ⟨gp, 3, none⟩ (.bool on)) gp g0 g1 { p with root0 := on } := ⟨P.box.set_ 3 _, P.k0.far (p := ⟨gp, 3, none⟩) P.np0.symm _, P.k1.far (p := ⟨gp, 3, none⟩) P.np1.symm _, P.n01, P.np0, P.np1⟩
  have F2 := (Fr3.refl w gp g0 g1).gr (gr_set (grownBy_refl w (some gp)) 3 (.bool on)) (.inl rfl)
  clear hw hn P
  go_enter Try.func12, Try.ntmps12
  go_wp2_with fail
  refine (pright_in _ _ (by omega) _).mono ?_
  rintro e w1 ⟨rfl, rfl⟩
  go_wp2_with fail
  refine (HO.out _ P2.k0).mono ?_
  rintro e w3 ⟨rfl, K3, G3⟩
  have P3 := P2.set0 K3 G3
  have F3 := F2.gr G3 (.inr (.inl rfl))
  clear y3 y1 fz P2 F2
  go_wp2_with fail
  exact bodyPost_end (results_none rfl _ _ _) rfl ⟨rfl, P3, F3⟩
theorem proot_out (g : Nat) (d : Int) (hd : ¬ (0 ≤ d ∧ d < 2)) (on : Bool) (now : Int) (w : World) :
    Calls Try.prog 12 #[.pointer (some ⟨g, 0, none⟩), .int .i64 d, .bool on, .int .i64 now] w fun e w' => e = .returned (.tuple #[]) ∧ w = w' := by
  have HO := Lib.hid hd
  clear hd
  go_enter Try.func12, Try.ntmps12
  go_wp2_with fail
  refine (pright_out _ _ HO.out _).mono ?_
  rintro e w1 ⟨rfl, rfl⟩
  go_wp2_with fail
  exact bodyPost_end (results_none rfl _ _ _) rfl ⟨rfl, rfl⟩
theorem proot_any (p : Pr) (gp g0 g1 : Nat) (d : Int) (on : Bool) (now : Int) (w : World) (P : PrIn w gp g0 g1 p) (hw : p.Wf) (hn : I64 now) :
    Calls Try.prog 12 #[.pointer (some ⟨gp, 0, none⟩), .int .i64 d, .bool on, .int .i64 now] w fun e w' => e = .returned (.tuple #[]) ∧ PrIn w' gp g0 g1 (rootV p d on now) ∧ Fr3 w w' gp g0 g1 := by
  unfold rootV
  by_cases h0 : d = 0
  · subst h0; rw [if_pos rfl]; exact proot0 p gp g0 g1 on now w P hw.w0 hn
  · rw [if_neg h0]
    by_cases h1 : d = 1
    · subst h1; rw [if_pos rfl]; exact proot1 p gp g0 g1 on now w P hw.w1 hn
    · rw [if_neg h1]
      refine (proot_out gp d (by omega) on now w).mono ?_
      rintro e w' ⟨rfl, rfl⟩
      exact ⟨rfl, P, Fr3.refl _ _ _ _⟩
/-! ### At -/
def patV (p : Pr) (now : Int) : (Int × Bool) × Pr :=
  if pickV p now < 0 then ((0, false), lasts p (pickV p now))
  else if pickV p now = 0 then (atV (lendV (lasts p 0) now).c0 now, lendV (lasts p 0) now)
  else (atV (lendV (lasts p 1) now).c1 now, lendV (lasts p 1) now)
theorem lend_wf {p : Pr} {now : Int} (h : p.Wf) (hn : I64 now) : (lendV p now).Wf := by
  unfold lendV
  split
  · exact ⟨h.w0, hold_wf h.w1 hn (at_i64 now hn)⟩
  · exact h
set_option maxRecDepth 100000 in
set_option maxHeartbeats 2000000 in
theorem pat_none (p : Pr) (gp g0 g1 : Nat) (now : Int) (w : World) (P : PrIn w gp g0 g1 p) (hw : p.Wf) (hn : I64 now) (hk : pickV p now < 0) :
    Calls Try.prog 11 #[.pointer (some ⟨gp, 0, none⟩), .int .i64 now] w fun e w' => e = .returned (.tuple #[.int .i64 0, .bool false]) ∧ PrIn w' gp g0 g1 (lasts p (pickV p now)) ∧ Fr3 w w' gp g0 g1 := by
  have H0 := Lib.hid (fun W P => pick_any p gp g0 g1 now W P hw hn)
  generalize pickV p now = d at *
  clear hw hn
  go_enter Try.func11, Try.ntmps11
  go_wp2_with fail
  refine (H0.out _ P).mono ?_
  rintro e w3 ⟨rfl, P3, F3⟩
  clear P
  go_wp2_with fail
  go_ret2
  exact ⟨rfl, P3, F3⟩
theorem pick_range {p : Pr} {now : Int} (h : p.last = -1 ∨ p.last = 0 ∨ p.last = 1) : pickV p now = -1 ∨ pickV p now = 0 ∨ pickV p now = 1 := by
  unfold pickV
  split
  · exact .inr (.inl rfl)
  · split
    · exact .inr (.inr rfl)
    · exact h
theorem pat_any (p : Pr) (gp g0 g1 : Nat) (now : Int) (w : World) (P : PrIn w gp g0 g1 p) (hw : p.Wf) (hn : I64 now) (hl : p.last = -1 ∨ p.last = 0 ∨ p.last = 1) :
    Calls Try.prog 11 #[.pointer (some ⟨gp, 0, none⟩), .int .i64 now] w fun e w' => e = .returned (.tuple #[.int .i64 (patV p now).1.1, .bool (patV p now).1.2]) ∧ PrIn w' gp g0 g1 (patV p now).2 ∧ Fr3 w w' gp g0 g1 := by
  unfold patV
  rcases pick_range (now := now) hl with h | h | h
  · rw [if_pos (by omega)]
    exact pat_none p gp g0 g1 now w P hw hn (by omega)
  · rw [if_neg (by omega), if_pos h]
    exact pat0 p gp g0 g1 now _ _ w P hw (lend_wf ⟨hw.w0, hw.w1⟩ hn) hn h rfl
  · rw [if_neg (by omega), if_neg (by omega)]
    exact pat1 p gp g0 g1 now _ _ w P hw (lend_wf ⟨hw.w0, hw.w1⟩ hn) hn h rfl
/-! ### Tell -/
noncomputable def ptellV (p : Pr) (d seq src port now : Int) : (Mg × Bool) × Pr :=
  if d = 0 then (tellV (lendV p now).c0 seq src port now, lendV p now) else if d = 1 then (tellV (lendV p now).c1 seq src port now, lendV p now) else ((zeroM, false), p)
set_option maxRecDepth 100000 in
set_option maxHeartbeats 4000000 in
theorem ptell0 (p q : Pr) (gp g0 g1 : Nat) (seq src port now : Int) (m : Mg) (b : Bool) (w : World) (P : PrIn w gp g0 g1 p) (hw : p.Wf) (hq : q.c0.Wf) (hn : I64 now) (hl : lendV p now = q) (ht : tellV q.c0 seq src port now = (m, b)) :
    Calls Try.prog 13 #[.pointer (some ⟨gp, 0, none⟩), .int .i64 0, .int .i64 seq, .int .i64 src, .int .i64 port, .int .i64 now] w fun e w' => e = .returned (.tuple #[.agg (mcells m none 0 0), .bool b]) ∧ PrIn w' gp g0 g1 q ∧ Fr3 w w' gp g0 g1 := by
  have HL : Hid (∀ W, PrIn W gp g0 g1 p → Calls Try.prog 27 #[.pointer (some ⟨gp, 0, none⟩), .int .i64 now] W fun e w' => e = .returned (.tuple #[]) ∧ PrIn w' gp g0 g1 q ∧ Fr3 W w' gp g0 g1) := Lib.hid fun W P => by
    have := lend_any p gp g0 g1 now W P hw hn
    rw [hl] at this
    exact this
  have HT := Lib.hid (fun W (B : CkIn W g0 q.c0) => tell_run ht hq hn B)
  have P0 : PrIn (w.alloc (.cells (mcells zeroM none 0 0) 35)) gp g0 g1 p := P.kept ((Below.refl _ _).alloc (Nat.le_refl _) _)
  have Z0 : Blk (w.alloc (.cells (mcells zeroM none 0 0) 35)) w.heap.size 35 (mcells zeroM none 0 0) := Blk.new _ _ _
  have F0 : Fr3 w (w.alloc (.cells (mcells zeroM none 0 0) 35)) gp g0 g1 := (Fr3.refl w gp g0 g1).be ((Below.refl _ _).alloc (Nat.le_refl _) _)
  have np := P.box.lt
  have n0 := P.k0.lt
  have n1 := P.k1.lt
  clear hw hq hn hl ht P
  go_enter Try.func13, Try.ntmps13
  go_wp2_with fail
  refine (pright_in _ _ (by omega) _).mono ?_
  rintro e w1 ⟨rfl, hw1⟩
  go_wp2_with fail
  rw [← hw1]
  refine (HL.out _ P0).mono ?_
  rintro e w2 ⟨rfl, P2, F2⟩
  have Z2 := F2.keep Z0 (by omega) (by omega) (by omega)
  have F02 := F0.trans F2
  have y2 := P2.box.cellOf (v := .pointer (some ⟨g0, 0, none⟩)) 1 rfl
  clear P0 Z0 F0 F2 hw1
  go_wp2_with fail
  refine (HT.out _ P2.k0).mono ?_
  rintro e w3 ⟨rfl, K3, L3⟩
  have P3 := P2.kept L3
  have Z3 := Z2.kept L3
  have F3 := F02.be L3
  clear K3 P2 Z2 F02 L3 y2
  go_wp2_with (refine wpList_store_part rfl 35 (.tmp 12) (.tmp 33) rfl (off := 0) rfl Z3 rfl (show 0 + 16 ≤ 16 by omega) (by kernel_rfl) (by rw [← Array.all_toList]; rfl) ?_; intro w4 R4 z4 g4)
  rw [putAll_whole (show (mcells zeroM none 0 0).size = (mcells m none 0 0).size from rfl)] at R4
  have P4 : PrIn w4 gp g0 g1 q := ⟨P3.box.keep g4 (by omega), P3.k0.keep g4 (by omega), P3.k1.keep g4 (by omega), P3.n01, P3.np0, P3.np1⟩
  have F4 : Fr3 w w4 gp g0 g1 := ⟨g4.os.trans F3.os, g4.tape.trans F3.tape, g4.output.trans F3.output, Nat.le_trans F3.size g4.size, fun k hk a b c => (g4.block k (by have := F3.size; omega) (by simp; omega)).trans (F3.block k hk a b c)⟩
  exact ptell_end rfl rfl rfl R4 ⟨rfl, P4, F4⟩
set_option maxRecDepth 100000 in
set_option maxHeartbeats 2000000 in
theorem ptell_out (g : Nat) (d : Int) (hd : ¬ (0 ≤ d ∧ d < 2)) (seq src port now : Int) (w : World) :
    Calls Try.prog 13 #[.pointer (some ⟨g, 0, none⟩), .int .i64 d, .int .i64 seq, .int .i64 src, .int .i64 port, .int .i64 now] w fun e w' => e = .returned (.tuple #[.agg (mcells zeroM none 0 0), .bool false]) ∧ Below w.heap.size w w' := by
  have Z0 : Blk (w.alloc (.cells (mcells zeroM none 0 0) 35)) w.heap.size 35 (mcells zeroM none 0 0) := Blk.new _ _ _
  have L0 : Below w.heap.size w (w.alloc (.cells (mcells zeroM none 0 0) 35)) := (Below.refl _ _).alloc (Nat.le_refl _) _
  have HO := Lib.hid hd
  clear hd
  go_enter Try.func13, Try.ntmps13
  go_wp2_with fail
  refine (pright_out _ _ HO.out _).mono ?_
  rintro e w1 ⟨rfl, hw1⟩
  replace Z0 : Blk w1 w.heap.size 35 (mcells zeroM none 0 0) := by rw [← hw1]; exact Z0
  replace L0 : Below w.heap.size w w1 := by rw [← hw1]; exact L0
  clear hw1
  go_wp2_with (refine wpList_store_part rfl 35 (.tmp 12) (.tmp 18) rfl (off := 0) rfl Z0 rfl (show 0 + 16 ≤ 16 by omega) (by kernel_rfl) (by rw [← Array.all_toList]; rfl) ?_; intro w4 R4 z4 g4)
  have R5 : Blk w4 w.heap.size 35 (putAll (mcells zeroM none 0 0) 0 (mcells zeroM none 0 0).toList) := R4
  rw [putAll_whole (show (mcells zeroM none 0 0).size = (mcells zeroM none 0 0).size from rfl)] at R5
  exact ptell_end rfl rfl rfl R5 ⟨rfl, L0.grown g4 L0.size (fun q hq => by injection hq with hq; omega)⟩
theorem ptell_any (p : Pr) (gp g0 g1 : Nat) (d seq src port now : Int) (w : World) (P : PrIn w gp g0 g1 p) (hw : p.Wf) (hn : I64 now) :
    Calls Try.prog 13 #[.pointer (some ⟨gp, 0, none⟩), .int .i64 d, .int .i64 seq, .int .i64 src, .int .i64 port, .int .i64 now] w fun e w' => e = .returned (.tuple #[.agg (mcells (ptellV p d seq src port now).1.1 none 0 0), .bool (ptellV p d seq src port now).1.2]) ∧ PrIn w' gp g0 g1 (ptellV p d seq src port now).2 ∧ Fr3 w w' gp g0 g1 := by
  unfold ptellV
  by_cases h0 : d = 0
  · subst h0; rw [if_pos rfl]; exact ptell0 p _ gp g0 g1 seq src port now _ _ w P hw (lend_wf hw hn).w0 hn rfl rfl
  · rw [if_neg h0]
    by_cases h1 : d = 1
    · subst h1; rw [if_pos rfl]; exact ptell1 p _ gp g0 g1 seq src port now _ _ w P hw (lend_wf hw hn).w1 hn rfl rfl
    · rw [if_neg h1]
      refine (ptell_out gp d (by omega) seq src port now w).mono ?_
      rintro e w' ⟨rfl, hb⟩
      exact ⟨rfl, P.kept hb, (Fr3.refl _ _ _ _).be hb⟩
/-! ### Fresh -/
def pfreshV (p : Pr) (d now : Int) : Bool := if d = 0 then freshV p.c0 now p.most else if d = 1 then freshV p.c1 now p.most else false
set_option maxRecDepth 100000 in
set_option maxHeartbeats 2000000 in
theorem pfresh_out (g : Nat) (d : Int) (hd : ¬ (0 ≤ d ∧ d < 2)) (now : Int) (w : World) :
    Calls Try.prog 14 #[.pointer (some ⟨g, 0, none⟩), .int .i64 d, .int .i64 now] w fun e w' => e = .returned (.bool false) ∧ Below w.heap.size w w' := by
  have hq : ∀ W, Calls Try.prog 28 #[.pointer (some ⟨g, 0, none⟩), .int .i64 d] W fun e w' => e = .returned (.bool false) ∧ Below W.heap.size W w' := fun W => (pright_out g d hd W).mono fun e w' h => ⟨h.1, by rw [← h.2]; exact Below.refl _ _⟩
  have HQ := Lib.hid hq
  clear hd hq
  go_enter Try.func14, Try.ntmps14
  go_wp2_with fail
  refine wp_region_class (fun w' => Below w.heap.size w w') (by kernel_rfl) (by kernel_rfl) (Below.refl _ _).drew ?_
  repeat (first | (with_reducible (refine wpQuiet_skip ?_ ?_); (first | exact wanted_off rfl rfl rfl rfl | exact wanted_off2 rfl rfl rfl); simp only [Act.put, List.setIfInBounds_toArray, List.set_cons_zero, List.set_cons_succ]) | (with_reducible (refine wpQuiet_val (v := ?_) ?_ ?_ ?_); rotate_left; (first | exact wanted_none rfl | exact wanted_on rfl rfl rfl); (intro w' hw'; obtain ⟨hc, hf⟩ := bcell hw'; go_simp; with_reducible rfl); simp only [Act.put, List.setIfInBounds_toArray, List.set_cons_zero, List.set_cons_succ]) | (with_reducible (refine wpQuiet_call (v := ?_) 28 ?_ ?_ ?_ ?_ ?_); rotate_left 2; (first | exact wanted_none rfl | exact wanted_on rfl rfl rfl); (intro w' hw'; obtain ⟨hc, hf⟩ := bcell hw'; go_simp; with_reducible rfl); (intro w' hw'; (with_reducible refine (HQ.out _).mono ?_); rintro e w2 ⟨rfl, hb⟩; refine ⟨?_, hw'.trans (hb.mono (by have h0 := hw'.size; first | omega | (simp at h0; omega)))⟩; with_reducible rfl); simp only [Act.put, List.setIfInBounds_toArray, List.set_cons_zero, List.set_cons_succ]))
  refine wpQuiet_nil ?_
  intro w4 hw4
  go_wp2_with fail
  go_ret
  exact ⟨rfl, hw4⟩
theorem pfresh_any (p : Pr) (gp g0 g1 : Nat) (d now : Int) (w : World) (P : PrIn w gp g0 g1 p) (hw : p.Wf) (hn : I64 now) :
    Calls Try.prog 14 #[.pointer (some ⟨gp, 0, none⟩), .int .i64 d, .int .i64 now] w fun e w' => e = .returned (.bool (pfreshV p d now)) ∧ PrIn w' gp g0 g1 p ∧ Below w.heap.size w w' := by
  unfold pfreshV
  by_cases h0 : d = 0
  · subst h0; rw [if_pos rfl]; exact pfresh0 p gp g0 g1 now w P hw.w0 hn
  · rw [if_neg h0]
    by_cases h1 : d = 1
    · subst h1; rw [if_pos rfl]; exact pfresh1 p gp g0 g1 now w P hw.w1 hn
    · rw [if_neg h1]
      refine (pfresh_out gp d (by omega) now w).mono ?_
      rintro e w' ⟨rfl, hb⟩
      exact ⟨rfl, P.kept hb, hb⟩
/-! ### No pair -/
theorem pright_nil (d : Int) (w : World) : Calls Try.prog 28 #[.pointer none, .int .i64 d] w fun e w' => e = .returned (.bool false) ∧ w = w' := by
  go_enter Try.func28, Try.ntmps28
  go_wp2_with fail
  go_ret
  exact ⟨rfl, rfl⟩
theorem pnew_bad (most : Int) (hm : most < 1) (w : World) : Calls Try.prog 8 #[.int .i64 most] w fun e w' => e = .returned (.tuple #[.pointer none, .int .i64 1]) ∧ w = w' := by
  go_enter Try.func8, Try.ntmps8
  go_wp2_with fail
  go_ret2
  exact ⟨rfl, rfl⟩
theorem proot_nil (d : Int) (on : Bool) (now : Int) (w : World) :
    Calls Try.prog 12 #[.pointer none, .int .i64 d, .bool on, .int .i64 now] w fun e w' => e = .returned (.tuple #[]) ∧ w = w' := by
  go_enter Try.func12, Try.ntmps12
  go_wp2_with fail
  refine (pright_nil _ _).mono ?_
  rintro e w1 ⟨rfl, rfl⟩
  go_wp2_with fail
  exact bodyPost_end (results_none rfl _ _ _) rfl ⟨rfl, rfl⟩
theorem ppick_nil (now : Int) (w : World) : Calls Try.prog 10 #[.pointer none, .int .i64 now] w fun e w' => e = .returned (.int .i64 (-1)) ∧ w = w' := by
  go_enter Try.func10, Try.ntmps10
  go_wp2_with fail
  go_ret
  exact ⟨rfl, rfl⟩
theorem pat_nil (now : Int) (w : World) : Calls Try.prog 11 #[.pointer none, .int .i64 now] w fun e w' => e = .returned (.tuple #[.int .i64 0, .bool false]) ∧ w = w' := by
  go_enter Try.func11, Try.ntmps11
  go_wp2_with fail
  refine (ppick_nil _ _).mono ?_
  rintro e w1 ⟨rfl, rfl⟩
  go_wp2_with fail
  go_ret2
  exact ⟨rfl, rfl⟩
set_option maxRecDepth 100000 in
set_option maxHeartbeats 2000000 in
theorem ptell_nil (d seq src port now : Int) (w : World) :
    Calls Try.prog 13 #[.pointer none, .int .i64 d, .int .i64 seq, .int .i64 src, .int .i64 port, .int .i64 now] w fun e w' => e = .returned (.tuple #[.agg (mcells zeroM none 0 0), .bool false]) ∧ Below w.heap.size w w' := by
  have Z0 : Blk (w.alloc (.cells (mcells zeroM none 0 0) 35)) w.heap.size 35 (mcells zeroM none 0 0) := Blk.new _ _ _
  have L0 : Below w.heap.size w (w.alloc (.cells (mcells zeroM none 0 0) 35)) := (Below.refl _ _).alloc (Nat.le_refl _) _
  go_enter Try.func13, Try.ntmps13
  go_wp2_with fail
  refine (pright_nil _ _).mono ?_
  rintro e w1 ⟨rfl, hw1⟩
  replace Z0 : Blk w1 w.heap.size 35 (mcells zeroM none 0 0) := by rw [← hw1]; exact Z0
  replace L0 : Below w.heap.size w w1 := by rw [← hw1]; exact L0
  clear hw1
  go_wp2_with (refine wpList_store_part rfl 35 (.tmp 12) (.tmp 18) rfl (off := 0) rfl Z0 rfl (show 0 + 16 ≤ 16 by omega) (by kernel_rfl) (by rw [← Array.all_toList]; rfl) ?_; intro w4 R4 z4 g4)
  have R5 : Blk w4 w.heap.size 35 (putAll (mcells zeroM none 0 0) 0 (mcells zeroM none 0 0).toList) := R4
  rw [putAll_whole (show (mcells zeroM none 0 0).size = (mcells zeroM none 0 0).size from rfl)] at R5
  exact ptell_end rfl rfl rfl R5 ⟨rfl, L0.grown g4 L0.size (fun q hq => by injection hq with hq; omega)⟩
set_option maxRecDepth 100000 in
set_option maxHeartbeats 2000000 in
theorem pfresh_nil (d now : Int) (w : World) :
    Calls Try.prog 14 #[.pointer none, .int .i64 d, .int .i64 now] w fun e w' => e = .returned (.bool false) ∧ Below w.heap.size w w' := by
  have hq : ∀ W, Calls Try.prog 28 #[.pointer none, .int .i64 d] W fun e w' => e = .returned (.bool false) ∧ Below W.heap.size W w' := fun W => (pright_nil d W).mono fun e w' h => ⟨h.1, by rw [← h.2]; exact Below.refl _ _⟩
  have HQ := Lib.hid hq
  clear hq
  go_enter Try.func14, Try.ntmps14
  go_wp2_with fail
  refine wp_region_class (fun w' => Below w.heap.size w w') (by kernel_rfl) (by kernel_rfl) (Below.refl _ _).drew ?_
  repeat (first | (with_reducible (refine wpQuiet_skip ?_ ?_); (first | exact wanted_off rfl rfl rfl rfl | exact wanted_off2 rfl rfl rfl); simp only [Act.put, List.setIfInBounds_toArray, List.set_cons_zero, List.set_cons_succ]) | (with_reducible (refine wpQuiet_val (v := ?_) ?_ ?_ ?_); rotate_left; (first | exact wanted_none rfl | exact wanted_on rfl rfl rfl); (intro w' hw'; obtain ⟨hc, hf⟩ := bcell hw'; go_simp; with_reducible rfl); simp only [Act.put, List.setIfInBounds_toArray, List.set_cons_zero, List.set_cons_succ]) | (with_reducible (refine wpQuiet_call (v := ?_) 28 ?_ ?_ ?_ ?_ ?_); rotate_left 2; (first | exact wanted_none rfl | exact wanted_on rfl rfl rfl); (intro w' hw'; obtain ⟨hc, hf⟩ := bcell hw'; go_simp; with_reducible rfl); (intro w' hw'; (with_reducible refine (HQ.out _).mono ?_); rintro e w2 ⟨rfl, hb⟩; refine ⟨?_, hw'.trans (hb.mono (by have h0 := hw'.size; first | omega | (simp at h0; omega)))⟩; with_reducible rfl); simp only [Act.put, List.setIfInBounds_toArray, List.set_cons_zero, List.set_cons_succ]))
  refine wpQuiet_nil ?_
  intro w4 hw4
  go_wp2_with fail
  go_ret
  exact ⟨rfl, hw4⟩
theorem psync_nil (at_ : Int) (w : World) : Calls Try.prog 15 #[.pointer none, .agg (mcells zeroM none 0 0), .int .i64 at_] w fun e w' => e = .returned (.int .i64 31) ∧ Below w.heap.size w w' := by
  have L0 := (Below.refl w.heap.size w).alloc (Nat.le_refl _) (.cells (mcells zeroM none 0 0) 35)
  have x1 := (Blk.new w 35 (mcells zeroM none 0 0)).cellOf (v := .int .i64 0) 1 rfl
  go_enter Try.func15, Try.ntmps15
  go_wp2_with fail
  refine (pright_nil _ _).mono ?_
  rintro e w1 ⟨rfl, rfl⟩
  go_wp2_with fail
  go_ret
  exact ⟨rfl, L0⟩
theorem pfollow_nil (delay ratio : Int) (w : World) : Calls Try.prog 16 #[.pointer none, .agg (mcells zeroM none 0 0), .int .i64 delay, .int .i64 ratio] w fun e w' => e = .returned (.int .i64 31) ∧ Below w.heap.size w w' := by
  have L0 := (Below.refl w.heap.size w).alloc (Nat.le_refl _) (.cells (mcells zeroM none 0 0) 35)
  have x1 := (Blk.new w 35 (mcells zeroM none 0 0)).cellOf (v := .int .i64 0) 1 rfl
  go_enter Try.func16, Try.ntmps16
  go_wp2_with fail
  refine (pright_nil _ _).mono ?_
  rintro e w1 ⟨rfl, rfl⟩
  go_wp2_with fail
  go_ret
  exact ⟨rfl, L0⟩
end Go.Proofs.Ytjjpmckefglhnaa
