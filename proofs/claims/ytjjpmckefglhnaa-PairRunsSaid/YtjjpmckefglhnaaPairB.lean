/-
  Layer 21: two domains' clocks: what Fresh, Pick, lend, At and a time that is told give.
-/
import Derived.Test.YtjjpmckefglhnaaPairA
namespace Go.Proofs.Ytjjpmckefglhnaa
set_option linter.unusedSimpArgs false
set_option linter.unusedVariables false
open Go.RowKit Go.WideShapes Go.ChangeShapes
attribute [local go_sem ↓] Go.wp_at_zero Go.wp_at_succ

set_option maxRecDepth 100000 in
set_option maxHeartbeats 2000000 in
theorem pfresh0 (p : Pr) (gp g0 g1 : Nat) (now : Int) (w : World) (P : PrIn w gp g0 g1 p) (hw : p.c0.Wf) (hn : I64 now) :
    Calls Try.prog 14 #[.pointer (some ⟨gp, 0, none⟩), .int .i64 0, .int .i64 now] w fun e w' => e = .returned (.bool (freshV p.c0 now p.most)) ∧ PrIn w' gp g0 g1 p ∧ Below w.heap.size w w' := by
  have y0 := P.box.cellOf (v := .int .i64 p.most) 0 rfl
  have y1 := P.box.cellOf (v := .pointer (some ⟨g0, 0, none⟩)) 1 rfl
  have sp := P.box.lt
  have sk := P.k0.lt
  have HF := Lib.hid (fun W B => fresh_any p.c0 g0 now p.most W B hw hn)
  generalize freshV p.c0 now p.most = b at *
  clear hw hn
  go_enter Try.func14, Try.ntmps14
  go_wp2_with fail
  refine wp_region_class (fun w' => Below w.heap.size w w') (by kernel_rfl) (by kernel_rfl) (Below.refl _ _).drew ?_
  repeat (first | (refine wpQuiet_skip ?_ ?_; rfl; simp only [Act.put, List.setIfInBounds_toArray, List.set_cons_zero, List.set_cons_succ]) | (refine wpQuiet_val (v := ?_) ?_ ?_ ?_; rotate_left; rfl; (intro w' hw'; obtain ⟨hc, hf⟩ := bcell hw'; go_simp; with_reducible rfl); simp only [Act.put, List.setIfInBounds_toArray, List.set_cons_zero, List.set_cons_succ]) | (refine wpQuiet_call (v := ?_) 28 ?_ ?_ ?_ ?_ ?_; rotate_left 2; (first | rfl | (go_simp; done)); (intro w' hw'; obtain ⟨hc, hf⟩ := bcell hw'; go_simp; with_reducible rfl); (intro w' hw'; (with_reducible refine (pright_in _ _ (by omega) _).mono ?_); rintro e w2 ⟨rfl, rfl⟩; refine ⟨?_, hw'⟩; with_reducible rfl); simp only [Act.put, List.setIfInBounds_toArray, List.set_cons_zero, List.set_cons_succ]) | (refine wpQuiet_call (v := ?_) 19 ?_ ?_ ?_ ?_ ?_; rotate_left 2; (first | rfl | (go_simp; done)); (intro w' hw'; obtain ⟨hc, hf⟩ := bcell hw'; go_simp; with_reducible rfl); (intro w' hw'; (with_reducible refine (HF.out _ (P.k0.below hw' sk)).mono ?_); rintro e w2 ⟨rfl, rfl⟩; refine ⟨?_, hw'⟩; with_reducible rfl); simp only [Act.put, List.setIfInBounds_toArray, List.set_cons_zero, List.set_cons_succ]) | (refine wpQuiet_val (v := ?_) ?_ ?_ ?_; rotate_left; (first | rfl | (go_simp; done)); (intro w' hw'; obtain ⟨hc, hf⟩ := bcell hw'; go_simp; with_reducible rfl); simp only [Act.put, List.setIfInBounds_toArray, List.set_cons_zero, List.set_cons_succ]) | (refine wpQuiet_skip ?_ ?_; (first | rfl | (go_simp; done)); simp only [Act.put, List.setIfInBounds_toArray, List.set_cons_zero, List.set_cons_succ]))
  refine wpQuiet_nil ?_
  intro w4 hw4
  have P4 := P.kept hw4
  clear y0 y1 sp sk P
  go_wp2_with fail
  go_ret
  exact ⟨rfl, P4, hw4⟩
set_option maxRecDepth 100000 in
set_option maxHeartbeats 2000000 in
theorem pfresh1 (p : Pr) (gp g0 g1 : Nat) (now : Int) (w : World) (P : PrIn w gp g0 g1 p) (hw : p.c1.Wf) (hn : I64 now) :
    Calls Try.prog 14 #[.pointer (some ⟨gp, 0, none⟩), .int .i64 1, .int .i64 now] w fun e w' => e = .returned (.bool (freshV p.c1 now p.most)) ∧ PrIn w' gp g0 g1 p ∧ Below w.heap.size w w' := by
  have y0 := P.box.cellOf (v := .int .i64 p.most) 0 rfl
  have y2 := P.box.cellOf (v := .pointer (some ⟨g1, 0, none⟩)) 2 rfl
  have sp := P.box.lt
  have sk := P.k1.lt
  have HF := Lib.hid (fun W B => fresh_any p.c1 g1 now p.most W B hw hn)
  generalize freshV p.c1 now p.most = b at *
  clear hw hn
  go_enter Try.func14, Try.ntmps14
  go_wp2_with fail
  refine wp_region_class (fun w' => Below w.heap.size w w') (by kernel_rfl) (by kernel_rfl) (Below.refl _ _).drew ?_
  repeat (first | (refine wpQuiet_skip ?_ ?_; rfl; simp only [Act.put, List.setIfInBounds_toArray, List.set_cons_zero, List.set_cons_succ]) | (refine wpQuiet_val (v := ?_) ?_ ?_ ?_; rotate_left; rfl; (intro w' hw'; obtain ⟨hc, hf⟩ := bcell hw'; go_simp; with_reducible rfl); simp only [Act.put, List.setIfInBounds_toArray, List.set_cons_zero, List.set_cons_succ]) | (refine wpQuiet_call (v := ?_) 28 ?_ ?_ ?_ ?_ ?_; rotate_left 2; (first | rfl | (go_simp; done)); (intro w' hw'; obtain ⟨hc, hf⟩ := bcell hw'; go_simp; with_reducible rfl); (intro w' hw'; (with_reducible refine (pright_in _ _ (by omega) _).mono ?_); rintro e w2 ⟨rfl, rfl⟩; refine ⟨?_, hw'⟩; with_reducible rfl); simp only [Act.put, List.setIfInBounds_toArray, List.set_cons_zero, List.set_cons_succ]) | (refine wpQuiet_call (v := ?_) 19 ?_ ?_ ?_ ?_ ?_; rotate_left 2; (first | rfl | (go_simp; done)); (intro w' hw'; obtain ⟨hc, hf⟩ := bcell hw'; go_simp; with_reducible rfl); (intro w' hw'; (with_reducible refine (HF.out _ (P.k1.below hw' sk)).mono ?_); rintro e w2 ⟨rfl, rfl⟩; refine ⟨?_, hw'⟩; with_reducible rfl); simp only [Act.put, List.setIfInBounds_toArray, List.set_cons_zero, List.set_cons_succ]) | (refine wpQuiet_val (v := ?_) ?_ ?_ ?_; rotate_left; (first | rfl | (go_simp; done)); (intro w' hw'; obtain ⟨hc, hf⟩ := bcell hw'; go_simp; with_reducible rfl); simp only [Act.put, List.setIfInBounds_toArray, List.set_cons_zero, List.set_cons_succ]) | (refine wpQuiet_skip ?_ ?_; (first | rfl | (go_simp; done)); simp only [Act.put, List.setIfInBounds_toArray, List.set_cons_zero, List.set_cons_succ]))
  refine wpQuiet_nil ?_
  intro w4 hw4
  have P4 := P.kept hw4
  clear y0 y2 sp sk P
  go_wp2_with fail
  go_ret
  exact ⟨rfl, P4, hw4⟩
def pickV (p : Pr) (now : Int) : Int := if freshV p.c0 now p.most = true then 0 else if freshV p.c1 now p.most = true then 1 else p.last
def lasts (p : Pr) (d : Int) : Pr := { p with last := d }
set_option maxRecDepth 100000 in
set_option maxHeartbeats 2000000 in
theorem pick_any (p : Pr) (gp g0 g1 : Nat) (now : Int) (w : World) (P : PrIn w gp g0 g1 p) (hw : p.Wf) (hn : I64 now) :
    Calls Try.prog 10 #[.pointer (some ⟨gp, 0, none⟩), .int .i64 now] w fun e w' => e = .returned (.int .i64 (pickV p now)) ∧ PrIn w' gp g0 g1 (lasts p (pickV p now)) ∧ Fr3 w w' gp g0 g1 := by
  have H0 := Lib.hid (fun W P => pfresh0 p gp g0 g1 now W P hw.w0 hn)
  have H1 := Lib.hid (fun W P => pfresh1 p gp g0 g1 now W P hw.w1 hn)
  clear hw hn
  obtain ⟨R, hR⟩ : ∃ R, R = pickV p now := ⟨_, rfl⟩
  rw [← hR]
  unfold pickV at hR
  generalize freshV p.c0 now p.most = b0 at *
  generalize freshV p.c1 now p.most = b1 at *
  have HR := Lib.hid hR
  clear hR
  go_enter Try.func10, Try.ntmps10
  go_wp2_with fail
  go_loopw [8] (fun i wr => ∃ k : Nat, k ≤ 2 ∧ i = .int .i64 k ∧ Hid ((1 ≤ k → b0 = false) ∧ (2 ≤ k → b1 = false)) ∧ PrIn wr gp g0 g1 p ∧ Fr3 w wr gp g0 g1) (fun i _ => 2 - (intOf i).toNat)
  case atStart => exact ⟨0, Nat.zero_le _, rfl, Lib.hid ⟨fun h => by omega, fun h => by omega⟩, P, Fr3.refl _ _ _ _⟩
  case round =>
    clear P
    obtain ⟨k, hk, rfl, HB, P, F⟩ := hrel
    rcases (show k = 0 ∨ k = 1 ∨ k = 2 by omega) with rfl | rfl | rfl
    · go_wp2_with fail
      refine (H0.out _ P).mono ?_
      rintro e w3 ⟨rfl, P3, L3⟩
      have F3 := F.be L3
      clear P F L3 hk
      cases b0 with
      | true =>
        have y5 := P3.box.cellOf (v := .int .i64 p.last) 5 rfl
        have fz := P3.box.frozen
        have P4 := P3.lasts 0
        have F4 := F3.gr (gr_set (grownBy_refl w3 (some gp)) 5 (.int .i64 0)) (.inl rfl)
        obtain rfl : R = 0 := by rw [HR.out, if_pos rfl]
        clear P3 F3
        go_wp2_with fail
        go_ret
        exact ⟨rfl, P4, F4⟩
      | false =>
        go_wp2_with fail
        go_roundw
        case rel => exact ⟨1, by omega, by first | rfl | go_num, Lib.hid ⟨fun _ => by first | rfl | trivial, fun h => by omega⟩, P3, F3⟩
        case measure => simp [intOf]
    · obtain rfl := HB.out.1 (by omega)
      go_wp2_with fail
      refine (H1.out _ P).mono ?_
      rintro e w3 ⟨rfl, P3, L3⟩
      have F3 := F.be L3
      clear P F L3 hk
      cases b1 with
      | true =>
        have y5 := P3.box.cellOf (v := .int .i64 p.last) 5 rfl
        have fz := P3.box.frozen
        have P4 := P3.lasts 1
        have F4 := F3.gr (gr_set (grownBy_refl w3 (some gp)) 5 (.int .i64 1)) (.inl rfl)
        obtain rfl : R = 1 := by rw [HR.out, if_neg (by simp), if_pos rfl]
        clear P3 F3
        go_wp2_with fail
        go_ret
        exact ⟨rfl, P4, F4⟩
      | false =>
        go_wp2_with fail
        go_roundw
        case rel => exact ⟨2, by omega, by first | rfl | go_num, Lib.hid ⟨fun _ => by first | rfl | trivial, fun _ => by first | rfl | trivial⟩, P3, F3⟩
        case measure => simp [intOf]
    · obtain rfl := HB.out.1 (by omega)
      obtain rfl := HB.out.2 (by omega)
      have y5 := P.box.cellOf (v := .int .i64 p.last) 5 rfl
      obtain rfl : R = p.last := by rw [HR.out, if_neg (by simp), if_neg (by simp)]
      go_wp2_with fail
      go_ret
      exact ⟨rfl, P, F⟩
def lendV (p : Pr) (now : Int) : Pr := if p.root1 = true ∧ freshV p.c0 now p.most = true ∧ (atV p.c0 now).2 = true then { p with c1 := holdV p.c1 now (atV p.c0 now).1 } else p
set_option maxRecDepth 100000 in
set_option maxHeartbeats 2000000 in
theorem lend_any (p : Pr) (gp g0 g1 : Nat) (now : Int) (w : World) (P : PrIn w gp g0 g1 p) (hw : p.Wf) (hn : I64 now) :
    Calls Try.prog 27 #[.pointer (some ⟨gp, 0, none⟩), .int .i64 now] w fun e w' => e = .returned (.tuple #[]) ∧ PrIn w' gp g0 g1 (lendV p now) ∧ Fr3 w w' gp g0 g1 := by
  have H0 := Lib.hid (fun W P => pfresh0 p gp g0 g1 now W P hw.w0 hn)
  have HA := Lib.hid (fun W B => at_any p.c0 g0 now W B hw.w0 hn)
  clear hw hn
  obtain ⟨R, hR⟩ : ∃ R, R = lendV p now := ⟨_, rfl⟩
  rw [← hR]
  unfold lendV at hR
  generalize freshV p.c0 now p.most = b0 at *
  generalize atV p.c0 now = x at *
  obtain ⟨t, ok⟩ := x
  simp only at hR
  have HR := Lib.hid hR
  have y4 := P.box.cellOf (v := .bool p.root1) 4 rfl
  clear hR
  cases hr : p.root1 with
  | false =>
    have h : R = p := by rw [HR.out, if_neg (by rw [hr]; simp)]
    subst h
    rw [hr] at y4
    clear hr HR
    go_enter Try.func27, Try.ntmps27
    go_wp2_with fail
    exact bodyPost_ret (results_none rfl _ _ _) rfl ⟨rfl, P, Fr3.refl _ _ _ _⟩
  | true =>
    rw [hr] at y4
    cases b0 with
    | false =>
      have h : R = p := by rw [HR.out, if_neg (by simp)]
      subst h
      clear hr HR
      go_enter Try.func27, Try.ntmps27
      go_wp2_with fail
      refine (H0.out _ P).mono ?_
      rintro e w3 ⟨rfl, P3, L3⟩
      go_wp2_with fail
      exact bodyPost_ret (results_none rfl _ _ _) rfl ⟨rfl, P3, (Fr3.refl _ _ _ _).be L3⟩
    | true =>
      cases ok with
      | false =>
        have h : R = p := by rw [HR.out, if_neg (by simp)]
        subst h
        clear hr HR
        go_enter Try.func27, Try.ntmps27
        go_wp2_with fail
        refine (H0.out _ P).mono ?_
        rintro e w3 ⟨rfl, P3, L3⟩
        have z1 := P3.box.cellOf (v := .pointer (some ⟨g0, 0, none⟩)) 1 rfl
        clear P y4
        go_wp2_with fail
        refine (HA.out _ P3.k0).mono ?_
        rintro e w4 ⟨rfl, L4⟩
        have P4 := P3.kept L4
        have F4 := ((Fr3.refl _ gp g0 g1).be L3).be L4
        clear P3 z1 L3 L4
        go_wp2_with fail
        exact bodyPost_end (results_none rfl _ _ _) rfl ⟨rfl, P4, F4⟩
      | true =>
        have h : R = { p with c1 := holdV p.c1 now t } := by rw [HR.out, if_pos ⟨hr, rfl, rfl⟩]
        subst h
        clear hr HR
        go_enter Try.func27, Try.ntmps27
        go_wp2_with fail
        refine (H0.out _ P).mono ?_
        rintro e w3 ⟨rfl, P3, L3⟩
        have z1 := P3.box.cellOf (v := .pointer (some ⟨g0, 0, none⟩)) 1 rfl
        clear P y4
        go_wp2_with fail
        refine (HA.out _ P3.k0).mono ?_
        rintro e w4 ⟨rfl, L4⟩
        have P4 := P3.kept L4
        have F4 := ((Fr3.refl _ gp g0 g1).be L3).be L4
        have z2 := P4.box.cellOf (v := .pointer (some ⟨g1, 0, none⟩)) 2 rfl
        clear P3 z1 L3 L4
        go_wp2_with fail
        refine (hold_any p.c1 g1 now t w4 P4.k1).mono ?_
        rintro e w5 ⟨rfl, K5, G5⟩
        have P5 := P4.set1 K5 G5
        have F5 := F4.gr G5 (.inr (.inr rfl))
        clear P4 F4 z2
        go_wp2_with fail
        exact bodyPost_end (results_none rfl _ _ _) rfl ⟨rfl, P5, F5⟩
set_option maxRecDepth 100000 in
set_option maxHeartbeats 2000000 in
theorem pat0 (p : Pr) (gp g0 g1 : Nat) (now t : Int) (ok : Bool) (w : World) (P : PrIn w gp g0 g1 p) (hw : p.Wf) (hq : (lendV (lasts p 0) now).Wf) (hn : I64 now) (hk : pickV p now = 0) (ha : atV (lendV (lasts p 0) now).c0 now = (t, ok)) :
    Calls Try.prog 11 #[.pointer (some ⟨gp, 0, none⟩), .int .i64 now] w fun e w' => e = .returned (.tuple #[.int .i64 t, .bool ok]) ∧ PrIn w' gp g0 g1 (lendV (lasts p 0) now) ∧ Fr3 w w' gp g0 g1 := by
  have H0 := Lib.hid (fun W P => pick_any p gp g0 g1 now W P hw hn)
  have H1 := Lib.hid (fun W P => lend_any (lasts p 0) gp g0 g1 now W P ⟨hw.w0, hw.w1⟩ hn)
  have H2 := Lib.hid (fun W B => at_any (lendV (lasts p 0) now).c0 g0 now W B hq.w0 hn)
  rw [hk] at H0
  rw [ha] at H2
  generalize lendV (lasts p 0) now = q at *
  clear hw hq hn hk ha
  go_enter Try.func11, Try.ntmps11
  go_wp2_with fail
  refine (H0.out _ P).mono ?_
  rintro e w3 ⟨rfl, P3, F3⟩
  go_wp2_with fail
  refine (H1.out _ P3).mono ?_
  rintro e w4 ⟨rfl, P4, F4⟩
  have y1 := P4.box.cellOf (v := .pointer (some ⟨g0, 0, none⟩)) 1 rfl
  clear P P3
  go_wp2_with fail
  refine (H2.out _ P4.k0).mono ?_
  rintro e w5 ⟨rfl, L5⟩
  have P5 := P4.kept L5
  clear P4 y1
  go_wp2_with fail
  go_ret2
  exact ⟨rfl, P5, (F3.trans F4).be L5⟩
set_option maxRecDepth 100000 in
set_option maxHeartbeats 2000000 in
theorem pat1 (p : Pr) (gp g0 g1 : Nat) (now t : Int) (ok : Bool) (w : World) (P : PrIn w gp g0 g1 p) (hw : p.Wf) (hq : (lendV (lasts p 1) now).Wf) (hn : I64 now) (hk : pickV p now = 1) (ha : atV (lendV (lasts p 1) now).c1 now = (t, ok)) :
    Calls Try.prog 11 #[.pointer (some ⟨gp, 0, none⟩), .int .i64 now] w fun e w' => e = .returned (.tuple #[.int .i64 t, .bool ok]) ∧ PrIn w' gp g0 g1 (lendV (lasts p 1) now) ∧ Fr3 w w' gp g0 g1 := by
  have H0 := Lib.hid (fun W P => pick_any p gp g0 g1 now W P hw hn)
  have H1 := Lib.hid (fun W P => lend_any (lasts p 1) gp g0 g1 now W P ⟨hw.w0, hw.w1⟩ hn)
  have H2 := Lib.hid (fun W B => at_any (lendV (lasts p 1) now).c1 g1 now W B hq.w1 hn)
  rw [hk] at H0
  rw [ha] at H2
  generalize lendV (lasts p 1) now = q at *
  clear hw hq hn hk ha
  go_enter Try.func11, Try.ntmps11
  go_wp2_with fail
  refine (H0.out _ P).mono ?_
  rintro e w3 ⟨rfl, P3, F3⟩
  go_wp2_with fail
  refine (H1.out _ P3).mono ?_
  rintro e w4 ⟨rfl, P4, F4⟩
  have y2 := P4.box.cellOf (v := .pointer (some ⟨g1, 0, none⟩)) 2 rfl
  clear P P3
  go_wp2_with fail
  refine (H2.out _ P4.k1).mono ?_
  rintro e w5 ⟨rfl, L5⟩
  have P5 := P4.kept L5
  clear P4 y2
  go_wp2_with fail
  go_ret2
  exact ⟨rfl, P5, (F3.trans F4).be L5⟩
def toldC (c : Ck) (at_ t : Int) : Ck := { c with known := true, here := at_, there := t, rate := 2199023255552, last := at_, opn := false, seq := 1, src := 9, at_ := at_ }
theorem told_wf {c : Ck} {at_ t : Int} (ha : I64 at_) (ht : I64 t) : (toldC c at_ t).Wf := ⟨ha, ht, by show I64 2199023255552; unfold I64; omega, ha, ha⟩
theorem told_steps {c : Ck} {d at_ t : Int} (ho : c.own = false) (hd : c.domain = d) (h2 : 0 ≤ d ∧ d < 2) (ht : I64 t) :
    syncV c ⟨0, d, 1, 9, 0, 0, 0, 0, 0, 0, 0, 0, 0, 0, 0, []⟩ at_ = (0, syncC c ⟨0, d, 1, 9, 0, 0, 0, 0, 0, 0, 0, 0, 0, 0, 0, []⟩ at_) ∧
    follV (syncC c ⟨0, d, 1, 9, 0, 0, 0, 0, 0, 0, 0, 0, 0, 0, 0, []⟩ at_) ⟨8, d, 1, 9, 0, 0, t, 0, 0, 2199023255552, 0, 0, 0, 0, 0, []⟩ 0 2199023255552 = (0, toldC c at_ t) := by
  have hr : Rg 2199023255552 := by unfold Rg; omega
  exact ⟨sync_ok rfl (sync_right (by omega) (by omega) (by omega) (by omega)) hd.symm ho,
    foll_ok (d := 0) rfl (foll_right (by omega) (by omega) (by omega) (by omega)) hd.symm ho rfl rfl rfl (by_one (rg_i64 hr)) hr (by simpa using ht) (by_zero (by omega)) ht (by simp)⟩
theorem at_told {c : Ck} {at_ t now : Int} (ho : c.own = false) (h1 : I64 (now - at_)) (h2 : I64 (t + (now - at_))) : atV (toldC c at_ t) now = (t + (now - at_), true) :=
  at_known (x := now - at_) rfl h1 (by show mulDivV (now - at_) (nowV (toldC c at_ t)) 2199023255552 2 = _; unfold nowV; rw [show (toldC c at_ t).own = false from ho, if_neg (by simp)]; exact by_one h1) h2 rfl
theorem fresh_told {c : Ck} {at_ t now most : Int} (ho : c.own = false) (h1 : I64 (now - at_)) : freshV (toldC c at_ t) now most = decide (now - at_ ≤ most) := by
  unfold freshV
  rw [show (toldC c at_ t).own = false from ho, if_neg (by simp), if_neg (by simp [toldC])]
  have e : subV now (toldC c at_ t).last = (now - at_, 0) := if_pos h1
  rw [e]
  simp
set_option maxRecDepth 100000 in
set_option maxHeartbeats 2000000 in
theorem ptold0 (p : Pr) (gp g0 g1 : Nat) (at_ t : Int) (w : World) (P : PrIn w gp g0 g1 p) (ho : p.c0.own = false) (hd : p.c0.domain = 0) (ht : I64 t) :
    Calls Try.prog 9 #[.pointer (some ⟨gp, 0, none⟩), .int .i64 0, .int .i64 at_, .int .i64 t] w fun e w' => e = .returned (.bool true) ∧ PrIn w' gp g0 g1 { p with c0 := toldC p.c0 at_ t } ∧ Fr3 w w' gp g0 g1 := by
  obtain ⟨h1, h2⟩ := told_steps (at_ := at_) ho hd (by omega) ht
  have e1 : pSync p ⟨0, 0, 1, 9, 0, 0, 0, 0, 0, 0, 0, 0, 0, 0, 0, []⟩ at_ = (0, { p with c0 := syncC p.c0 ⟨0, 0, 1, 9, 0, 0, 0, 0, 0, 0, 0, 0, 0, 0, 0, []⟩ at_ }) := by
    unfold pSync
    rw [if_pos rfl, h1]
  have e2 : pFollow { p with c0 := syncC p.c0 ⟨0, 0, 1, 9, 0, 0, 0, 0, 0, 0, 0, 0, 0, 0, 0, []⟩ at_ } ⟨8, 0, 1, 9, 0, 0, t, 0, 0, 2199023255552, 0, 0, 0, 0, 0, []⟩ 0 2199023255552 = (0, { p with c0 := toldC p.c0 at_ t }) := by
    unfold pFollow
    rw [if_pos rfl, h2]
  have HS : Hid (∀ W, PrIn W gp g0 g1 p → Calls Try.prog 15 #[.pointer (some ⟨gp, 0, none⟩), .agg (mcells ⟨0, 0, 1, 9, 0, 0, 0, 0, 0, 0, 0, 0, 0, 0, 0, []⟩ none 0 0), .int .i64 at_] W fun e w' => e = .returned (.int .i64 0) ∧ PrIn w' gp g0 g1 { p with c0 := syncC p.c0 ⟨0, 0, 1, 9, 0, 0, 0, 0, 0, 0, 0, 0, 0, 0, 0, []⟩ at_ } ∧ Fr3 W w' gp g0 g1) := Lib.hid fun W P => by
    have := psync_any p gp g0 g1 ⟨0, 0, 1, 9, 0, 0, 0, 0, 0, 0, 0, 0, 0, 0, 0, []⟩ none 0 0 at_ W P (MsgIn.bare rfl)
    rw [e1] at this
    exact this
  have HF : Hid (∀ W, PrIn W gp g0 g1 { p with c0 := syncC p.c0 ⟨0, 0, 1, 9, 0, 0, 0, 0, 0, 0, 0, 0, 0, 0, 0, []⟩ at_ } → Calls Try.prog 16 #[.pointer (some ⟨gp, 0, none⟩), .agg (mcells ⟨8, 0, 1, 9, 0, 0, t, 0, 0, 2199023255552, 0, 0, 0, 0, 0, []⟩ none 0 0), .int .i64 0, .int .i64 2199023255552] W fun e w' => e = .returned (.int .i64 0) ∧ PrIn w' gp g0 g1 { p with c0 := toldC p.c0 at_ t } ∧ Fr3 W w' gp g0 g1) := Lib.hid fun W P => by
    have := pfollow_any { p with c0 := syncC p.c0 ⟨0, 0, 1, 9, 0, 0, 0, 0, 0, 0, 0, 0, 0, 0, 0, []⟩ at_ } gp g0 g1 ⟨8, 0, 1, 9, 0, 0, t, 0, 0, 2199023255552, 0, 0, 0, 0, 0, []⟩ none 0 0 0 2199023255552 W P (MsgIn.bare rfl) ⟨i64_zero, ht, i64_of (by simp) (by simp)⟩ i64_zero (i64_of (by simp) (by simp))
    rw [e2] at this
    exact this
  clear h1 h2 e1 e2 ho hd ht
  go_enter Try.func9, Try.ntmps9
  go_wp2_with fail
  refine (HS.out _ P).mono ?_
  rintro e w3 ⟨rfl, P3, F3⟩
  go_wp2_with fail
  refine (HF.out _ P3).mono ?_
  rintro e w4 ⟨rfl, P4, F4⟩
  go_wp2_with fail
  go_ret
  exact ⟨rfl, P4, F3.trans F4⟩
set_option maxRecDepth 100000 in
set_option maxHeartbeats 2000000 in
theorem ptold1 (p : Pr) (gp g0 g1 : Nat) (at_ t : Int) (w : World) (P : PrIn w gp g0 g1 p) (ho : p.c1.own = false) (hd : p.c1.domain = 1) (ht : I64 t) :
    Calls Try.prog 9 #[.pointer (some ⟨gp, 0, none⟩), .int .i64 1, .int .i64 at_, .int .i64 t] w fun e w' => e = .returned (.bool true) ∧ PrIn w' gp g0 g1 { p with c1 := toldC p.c1 at_ t } ∧ Fr3 w w' gp g0 g1 := by
  obtain ⟨h1, h2⟩ := told_steps (at_ := at_) ho hd (by omega) ht
  have e1 : pSync p ⟨0, 1, 1, 9, 0, 0, 0, 0, 0, 0, 0, 0, 0, 0, 0, []⟩ at_ = (0, { p with c1 := syncC p.c1 ⟨0, 1, 1, 9, 0, 0, 0, 0, 0, 0, 0, 0, 0, 0, 0, []⟩ at_ }) := by
    unfold pSync
    rw [if_neg (by simp), if_pos rfl, h1]
  have e2 : pFollow { p with c1 := syncC p.c1 ⟨0, 1, 1, 9, 0, 0, 0, 0, 0, 0, 0, 0, 0, 0, 0, []⟩ at_ } ⟨8, 1, 1, 9, 0, 0, t, 0, 0, 2199023255552, 0, 0, 0, 0, 0, []⟩ 0 2199023255552 = (0, { p with c1 := toldC p.c1 at_ t }) := by
    unfold pFollow
    rw [if_neg (by simp), if_pos rfl, h2]
  have HS : Hid (∀ W, PrIn W gp g0 g1 p → Calls Try.prog 15 #[.pointer (some ⟨gp, 0, none⟩), .agg (mcells ⟨0, 1, 1, 9, 0, 0, 0, 0, 0, 0, 0, 0, 0, 0, 0, []⟩ none 0 0), .int .i64 at_] W fun e w' => e = .returned (.int .i64 0) ∧ PrIn w' gp g0 g1 { p with c1 := syncC p.c1 ⟨0, 1, 1, 9, 0, 0, 0, 0, 0, 0, 0, 0, 0, 0, 0, []⟩ at_ } ∧ Fr3 W w' gp g0 g1) := Lib.hid fun W P => by
    have := psync_any p gp g0 g1 ⟨0, 1, 1, 9, 0, 0, 0, 0, 0, 0, 0, 0, 0, 0, 0, []⟩ none 0 0 at_ W P (MsgIn.bare rfl)
    rw [e1] at this
    exact this
  have HF : Hid (∀ W, PrIn W gp g0 g1 { p with c1 := syncC p.c1 ⟨0, 1, 1, 9, 0, 0, 0, 0, 0, 0, 0, 0, 0, 0, 0, []⟩ at_ } → Calls Try.prog 16 #[.pointer (some ⟨gp, 0, none⟩), .agg (mcells ⟨8, 1, 1, 9, 0, 0, t, 0, 0, 2199023255552, 0, 0, 0, 0, 0, []⟩ none 0 0), .int .i64 0, .int .i64 2199023255552] W fun e w' => e = .returned (.int .i64 0) ∧ PrIn w' gp g0 g1 { p with c1 := toldC p.c1 at_ t } ∧ Fr3 W w' gp g0 g1) := Lib.hid fun W P => by
    have := pfollow_any { p with c1 := syncC p.c1 ⟨0, 1, 1, 9, 0, 0, 0, 0, 0, 0, 0, 0, 0, 0, 0, []⟩ at_ } gp g0 g1 ⟨8, 1, 1, 9, 0, 0, t, 0, 0, 2199023255552, 0, 0, 0, 0, 0, []⟩ none 0 0 0 2199023255552 W P (MsgIn.bare rfl) ⟨i64_zero, ht, i64_of (by simp) (by simp)⟩ i64_zero (i64_of (by simp) (by simp))
    rw [e2] at this
    exact this
  clear h1 h2 e1 e2 ho hd ht
  go_enter Try.func9, Try.ntmps9
  go_wp2_with fail
  refine (HS.out _ P).mono ?_
  rintro e w3 ⟨rfl, P3, F3⟩
  go_wp2_with fail
  refine (HF.out _ P3).mono ?_
  rintro e w4 ⟨rfl, P4, F4⟩
  go_wp2_with fail
  go_ret
  exact ⟨rfl, P4, F3.trans F4⟩
end Go.Proofs.Ytjjpmckefglhnaa
