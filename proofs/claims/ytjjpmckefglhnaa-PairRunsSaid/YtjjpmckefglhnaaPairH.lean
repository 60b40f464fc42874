/-
  Layer 21: the document's example; Pick as a law meets it.
-/
import Derived.Test.YtjjpmckefglhnaaPairB
namespace Go.Proofs.Ytjjpmckefglhnaa
set_option linter.unusedSimpArgs false
set_option linter.unusedVariables false
open Go.RowKit Go.WideShapes Go.ChangeShapes
attribute [local go_sem ↓] Go.wp_at_zero Go.wp_at_succ

theorem pick_run {p : Pr} {gp g0 g1 : Nat} {now d : Int} {w : World} (h : pickV p now = d) (hw : p.Wf) (hn : I64 now) (P : PrIn w gp g0 g1 p) :
    Calls Try.prog 10 #[.pointer (some ⟨gp, 0, none⟩), .int .i64 now] w fun e w' => e = .returned (.int .i64 d) ∧ PrIn w' gp g0 g1 (lasts p d) ∧ Fr3 w w' gp g0 g1 := by
  have := pick_any p gp g0 g1 now w P hw hn
  rw [h] at this
  exact this
theorem pick_first {p : Pr} {now : Int} (h : freshV p.c0 now p.most = true) : pickV p now = 0 := if_pos h
theorem pick_second {p : Pr} {now : Int} (h : freshV p.c0 now p.most = false) (h1 : freshV p.c1 now p.most = true) : pickV p now = 1 := by unfold pickV; rw [if_neg (by rw [h]; simp), if_pos h1]
theorem pick_none {p : Pr} {now : Int} (h : freshV p.c0 now p.most = false) (h1 : freshV p.c1 now p.most = false) : pickV p now = p.last := by unfold pickV; rw [if_neg (by rw [h]; simp), if_neg (by rw [h1]; simp)]
theorem lend_none {p : Pr} {now : Int} (h : p.root1 = false) : lendV p now = p := by unfold lendV; rw [if_neg (by rw [h]; simp)]
theorem fresh_yes {c : Ck} {at_ t now most : Int} (ho : c.own = false) (h0 : 0 ≤ at_) (h1 : at_ ≤ now) (h2 : now < 9223372036854775808) (hm : now - at_ ≤ most) : freshV (toldC c at_ t) now most = true := by rw [fresh_told ho (i64_of (by omega) (by omega)), decide_eq_true hm]
theorem fresh_no {c : Ck} {at_ t now most : Int} (ho : c.own = false) (h0 : 0 ≤ at_) (h1 : at_ ≤ now) (h2 : now < 9223372036854775808) (hm : most < now - at_) : freshV (toldC c at_ t) now most = false := by rw [fresh_told ho (i64_of (by omega) (by omega)), decide_eq_false (by omega)]
theorem ck_new_wf (d : Int) : (ckNew d).Wf := ckNew_wf d

set_option maxRecDepth 100000 in
set_option maxHeartbeats 4000000 in
theorem head21 (w : World) : Calls Try.prog 7 #[] w fun e w' => e = .returned (.bool true) ∧ Below w.heap.size w w' := by
  obtain ⟨p2, hp2⟩ : ∃ p2 : Pr, p2 = { { prNew 196608000 with c0 := toldC (ckNew 0) 65536000 589824 } with c1 := toldC (ckNew 1) 327680000 458752 } := ⟨_, rfl⟩
  have hw2 : p2.Wf := by rw [hp2]; exact ⟨told_wf (i64_of (by omega) (by omega)) (i64_of (by omega) (by omega)), told_wf (i64_of (by omega) (by omega)) (i64_of (by omega) (by omega))⟩
  have k1 : pickV p2 131072000 = 0 := by rw [hp2]; exact pick_first (fresh_yes rfl (by omega) (by omega) (by omega) (by show (131072000 : Int) - 65536000 ≤ 196608000; omega))
  have k2 : pickV (lasts p2 0) 393216000 = 1 := by rw [hp2]; exact pick_second (fresh_no rfl (by omega) (by omega) (by omega) (by show (196608000 : Int) < 393216000 - 65536000; omega)) (fresh_yes rfl (by omega) (by omega) (by omega) (by show (393216000 : Int) - 327680000 ≤ 196608000; omega))
  have k3 : pickV (lasts (lasts p2 0) 1) 1310720000 = 1 := by rw [hp2]; exact pick_none (fresh_no rfl (by omega) (by omega) (by omega) (by show (196608000 : Int) < 1310720000 - 65536000; omega)) (fresh_no rfl (by omega) (by omega) (by omega) (by show (196608000 : Int) < 1310720000 - 327680000; omega))
  have HK := Lib.hid (And.intro k1 (And.intro k2 (And.intro k3 hw2)))
  have HP := Lib.hid hp2
  clear k1 k2 k3 hw2 hp2
  go_enter Try.func7, Try.ntmps7
  go_wp2_with fail
  refine (pnew_any 196608000 (by omega) w).mono ?_
  rintro e w1 ⟨gp, g0, g1, rfl, P1, hgp, hg0, hg1, L1⟩
  go_wp2_with fail
  refine (ptold0 _ gp g0 g1 65536000 589824 w1 P1 rfl rfl (i64_of (by omega) (by omega))).mono ?_
  rintro e w2 ⟨rfl, P2, F2⟩
  go_wp2_with fail
  refine (ptold1 _ gp g0 g1 327680000 458752 w2 P2 rfl rfl (i64_of (by omega) (by omega))).mono ?_
  rintro e w3 ⟨rfl, P3, F3⟩
  replace P3 : PrIn w3 gp g0 g1 p2 := by rw [HP.out]; exact P3
  go_wp2_with fail
  refine (pick_run HK.out.1 HK.out.2.2.2 (i64_of (by omega) (by omega)) P3).mono ?_
  rintro e w4 ⟨rfl, P4, F4⟩
  go_wp2_with fail
  refine (pick_run HK.out.2.1 ⟨HK.out.2.2.2.w0, HK.out.2.2.2.w1⟩ (i64_of (by omega) (by omega)) P4).mono ?_
  rintro e w5 ⟨rfl, P5, F5⟩
  go_wp2_with fail
  refine (pick_run HK.out.2.2.1 ⟨HK.out.2.2.2.w0, HK.out.2.2.2.w1⟩ (i64_of (by omega) (by omega)) P5).mono ?_
  rintro e w6 ⟨rfl, P6, F6⟩
  have L := L1.trans ((F2.trans (F3.trans (F4.trans (F5.trans F6)))).below L1.size hgp hg0 hg1)
  clear P1 P2 P3 P4 P5 P6 F2 F3 F4 F5 F6 L1
  go_wp2_with fail
  go_ret
  exact ⟨rfl, L⟩
end Go.Proofs.Ytjjpmckefglhnaa
