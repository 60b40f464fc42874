/-
  (ptp.Msg).Check: what it gives.
-/
import Derived.Test.YthhlfojaloaooaaGreatMsgBase
namespace Go.Proofs.YthhlfojaloaooaaGreat
open Go.RowKit
attribute [local go_sem ↓] Go.wp_at_zero Go.wp_at_succ

section
variable (most : Int) {b : Bool} (W : World) (g : Nat) (hg : g = W.heap.size)
include hg
theorem within1 (x0 : Int) (h : okN most [x0] = b) : Calls Tryz.prog 50 #[.int .i64 most, .slice (some ⟨g, 0, none⟩) 1 1] (W.alloc (.cells #[.int .i64 x0] 3)) fun e w' => e = .returned (.bool b) ∧ W.alloc (.cells #[.int .i64 x0] 3) = w' := by
  subst hg h
  exact within_any most _ 1 1 [x0] _ _ (Reads.of_own (ownsRow_new W (n := 1) (base := 0) (Nat.zero_le _) rfl (by simp [maxLen]))) (by simp [maxLen])
theorem within2 (x0 x1 : Int) (h : okN most [x0, x1] = b) : Calls Tryz.prog 50 #[.int .i64 most, .slice (some ⟨g, 0, none⟩) 2 2] (W.alloc (.cells #[.int .i64 x0, .int .i64 x1] 3)) fun e w' => e = .returned (.bool b) ∧ W.alloc (.cells #[.int .i64 x0, .int .i64 x1] 3) = w' := by
  subst hg h
  exact within_any most _ 2 2 [x0, x1] _ _ (Reads.of_own (ownsRow_new W (n := 2) (base := 0) (Nat.zero_le _) rfl (by simp [maxLen]))) (by simp [maxLen])
theorem within3 (x0 x1 x2 : Int) (h : okN most [x0, x1, x2] = b) : Calls Tryz.prog 50 #[.int .i64 most, .slice (some ⟨g, 0, none⟩) 3 3] (W.alloc (.cells #[.int .i64 x0, .int .i64 x1, .int .i64 x2] 3)) fun e w' => e = .returned (.bool b) ∧ W.alloc (.cells #[.int .i64 x0, .int .i64 x1, .int .i64 x2] 3) = w' := by
  subst hg h
  exact within_any most _ 3 3 [x0, x1, x2] _ _ (Reads.of_own (ownsRow_new W (n := 3) (base := 0) (Nat.zero_le _) rfl (by simp [maxLen]))) (by simp [maxLen])
theorem within4 (x0 x1 x2 x3 : Int) (h : okN most [x0, x1, x2, x3] = b) : Calls Tryz.prog 50 #[.int .i64 most, .slice (some ⟨g, 0, none⟩) 4 4] (W.alloc (.cells #[.int .i64 x0, .int .i64 x1, .int .i64 x2, .int .i64 x3] 3)) fun e w' => e = .returned (.bool b) ∧ W.alloc (.cells #[.int .i64 x0, .int .i64 x1, .int .i64 x2, .int .i64 x3] 3) = w' := by
  subst hg h
  exact within_any most _ 4 4 [x0, x1, x2, x3] _ _ (Reads.of_own (ownsRow_new W (n := 4) (base := 0) (Nat.zero_le _) rfl (by simp [maxLen]))) (by simp [maxLen])
end
theorem within_b (most : Int) (A : Option Addr) (n c : Nat) (xs : List Int) (w : World) (B : Nat) {b : Bool} (hr : Reads w B 1 A n (vs xs)) (hn : n ≤ maxLen) (h : okN most xs = b) :
    Calls Tryz.prog 50 #[.int .i64 most, .slice A n c] w fun e w' => e = .returned (.bool b) ∧ w = w' := by
  subst h
  exact within_any most A n c xs w B hr hn
theorem not_true {b : Bool} (h : ¬ b = true) : b = false := by simpa using h

set_option maxRecDepth 100000 in
set_option maxHeartbeats 20000000 in
theorem check_any (m : Mg) (A : Option Addr) (n c : Nat) (w : World) (hr : Reads w w.heap.size 1 A n (vs m.path)) (hl : m.path.length = n) (hn : n ≤ maxLen) :
    Calls Tryz.prog 32 #[.agg #[.int .i64 m.kind, .int .i64 m.domain, .int .i64 m.seq, .int .i64 m.src, .int .i64 m.port, .int .i64 m.corr, .int .i64 m.time, .int .i64 m.to, .int .i64 m.toPort, .int .i64 m.rate, .int .i64 m.one, .int .i64 m.cls, .int .i64 m.two, .int .i64 m.id, .int .i64 m.steps, .slice A n c]] w fun e w' => e = .returned (.int .i64 (checkV m)) ∧ Below w.heap.size w w' := by
  unfold maxLen at hn
  by_cases hk : Known m.kind
  · obtain ⟨kind, domain, seq, src, port, corr, time, to, toPort, rate, one, cls, two, id, steps, path⟩ := m
    have hk0 := Lib.hid hk
    have HL := Lib.hid hl
    dsimp only at hk
    unfold Known at hk
    clear hl
    rcases hk with rfl | rfl | rfl | rfl | rfl | rfl
    case inr.inr.inr.inr.inr =>
      go_enter Tryz.func32, Tryz.ntmps32
      go_wp2_with fail
      by_cases a1 : okN 127 [domain] = true; rotate_left
      · refine (within1 127 _ _ (by simp) domain (not_true a1)).mono ?_
        rintro e w' ⟨rfl, rfl⟩
        have A := Lib.hid a1
        clear a1
        go_wp2_with fail
        go_ret
        exact ⟨ret_int (check_range hk0.out (fun h => A.out h.1.1)).symm, (by (repeat (refine Below.alloc ?_ (by first | omega | (simp; done) | (simp; omega)) _)); exact Below.refl _ _)⟩
      refine (within1 127 _ _ (by simp) domain a1).mono ?_
      rintro e w' ⟨rfl, rfl⟩
      have A1 := Lib.hid a1
      clear a1
      go_wp2_with fail
      by_cases a2 : okN 65535 [seq, port, toPort] = true; rotate_left
      · refine (within3 65535 _ _ (by simp) seq port toPort (not_true a2)).mono ?_
        rintro e w' ⟨rfl, rfl⟩
        have A := Lib.hid a2
        clear a2
        go_wp2_with fail
        go_ret
        exact ⟨ret_int (check_range hk0.out (fun h => A.out h.1.2.1)).symm, (by (repeat (refine Below.alloc ?_ (by first | omega | (simp; done) | (simp; omega)) _)); exact Below.refl _ _)⟩
      refine (within3 65535 _ _ (by simp) seq port toPort a2).mono ?_
      rintro e w' ⟨rfl, rfl⟩
      have A2 := Lib.hid a2
      clear a2
      go_wp2_with fail
      by_cases a3 : okN ids [src, to] = true; rotate_left
      · refine (within2 281474976710655 _ _ (by simp) src to (not_true a3)).mono ?_
        rintro e w' ⟨rfl, rfl⟩
        have A := Lib.hid a3
        clear a3
        go_wp2_with fail
        go_ret
        exact ⟨ret_int (check_range hk0.out (fun h => A.out h.1.2.2)).symm, (by (repeat (refine Below.alloc ?_ (by first | omega | (simp; done) | (simp; omega)) _)); exact Below.refl _ _)⟩
      refine (within2 281474976710655 _ _ (by simp) src to a3).mono ?_
      rintro e w' ⟨rfl, rfl⟩
      have A3 := Lib.hid a3
      clear a3
      go_wp2_with fail
      by_cases a4 : okN 255 [one, cls, two, steps] = true; rotate_left
      · refine (within4 255 _ _ (by simp) one cls two steps (not_true a4)).mono ?_
        rintro e w' ⟨rfl, rfl⟩
        have A := Lib.hid a4
        clear a4
        go_wp2_with fail
        go_ret
        exact ⟨ret_int (check_range hk0.out (fun h => A.out h.2.1)).symm, (by (repeat (refine Below.alloc ?_ (by first | omega | (simp; done) | (simp; omega)) _)); exact Below.refl _ _)⟩
      refine (within4 255 _ _ (by simp) one cls two steps a4).mono ?_
      rintro e w' ⟨rfl, rfl⟩
      have A4 := Lib.hid a4
      clear a4
      go_wp2_with fail
      by_cases a5 : okN ids [id] = true; rotate_left
      · refine (within1 281474976710655 _ _ (by simp) id (not_true a5)).mono ?_
        rintro e w' ⟨rfl, rfl⟩
        have A := Lib.hid a5
        clear a5
        go_wp2_with fail
        go_ret
        exact ⟨ret_int (check_range hk0.out (fun h => A.out h.2.2)).symm, (by (repeat (refine Below.alloc ?_ (by first | omega | (simp; done) | (simp; omega)) _)); exact Below.refl _ _)⟩
      refine (within1 281474976710655 _ _ (by simp) id a5).mono ?_
      rintro e w' ⟨rfl, rfl⟩
      have A5 := Lib.hid a5
      clear a5
      by_cases z : to = 0; rotate_left
      · have z0 : (to == 0) = false := beq_eq_false_iff_ne.2 z
        have z1 : (to != 0) = true := bne_iff_ne.2 z
        have Z := Lib.hid z
        clear z
        go_wp2_with fail
        go_ret
        exact ⟨ret_int (check_apt hk0.out (fun h => Z.out (h.1 (by simp) (by simp)).1)).symm, (by (repeat (refine Below.alloc ?_ (by first | omega | (simp; done) | (simp; omega)) _)); exact Below.refl _ _)⟩
      obtain rfl := z
      by_cases z : toPort = 0; rotate_left
      · have z0 : (toPort == 0) = false := beq_eq_false_iff_ne.2 z
        have z1 : (toPort != 0) = true := bne_iff_ne.2 z
        have Z := Lib.hid z
        clear z
        go_wp2_with fail
        go_ret
        exact ⟨ret_int (check_apt hk0.out (fun h => Z.out (h.1 (by simp) (by simp)).2.1)).symm, (by (repeat (refine Below.alloc ?_ (by first | omega | (simp; done) | (simp; omega)) _)); exact Below.refl _ _)⟩
      obtain rfl := z
      by_cases z : time = 0; rotate_left
      · have z0 : (time == 0) = false := beq_eq_false_iff_ne.2 z
        have z1 : (time != 0) = true := bne_iff_ne.2 z
        have Z := Lib.hid z
        clear z
        go_wp2_with fail
        go_ret
        exact ⟨ret_int (check_apt hk0.out (fun h => Z.out ((h.1 (by simp) (by simp)).2.2 (by simp)))).symm, (by (repeat (refine Below.alloc ?_ (by first | omega | (simp; done) | (simp; omega)) _)); exact Below.refl _ _)⟩
      obtain rfl := z
      by_cases z : rate = 0; rotate_left
      · have z0 : (rate == 0) = false := beq_eq_false_iff_ne.2 z
        have z1 : (rate != 0) = true := bne_iff_ne.2 z
        have Z := Lib.hid z
        clear z
        go_wp2_with fail
        go_ret
        exact ⟨ret_int (check_apt hk0.out (fun h => Z.out (h.2 (by simp)))).symm, (by (repeat (refine Below.alloc ?_ (by first | omega | (simp; done) | (simp; omega)) _)); exact Below.refl _ _)⟩
      obtain rfl := z
      by_cases z : 32 < n
      · go_wp2_with fail
        go_ret
        exact ⟨ret_int (check_many hk0.out ⟨⟨A1.out, A2.out, A3.out⟩, A4.out, A5.out⟩ ⟨fun _ _ => ⟨rfl, rfl, fun _ => rfl⟩, fun _ => rfl⟩ (fun h => absurd rfl h) (by rw [show path.length = n from HL.out]; omega)).symm, (by (repeat (refine Below.alloc ?_ (by first | omega | (simp; done) | (simp; omega)) _)); exact Below.refl _ _)⟩
      have z' : n ≤ 32 := by omega
      clear z
      go_wp2_with fail
      have hlast := check_last (m := (⟨11, domain, seq, src, port, corr, 0, 0, 0, 0, one, cls, two, id, steps, path⟩ : Mg)) hk0.out ⟨⟨A1.out, A2.out, A3.out⟩, A4.out, A5.out⟩ ⟨fun _ _ => ⟨rfl, rfl, fun _ => rfl⟩, fun _ => rfl⟩ (fun h => absurd rfl h) (by rw [show path.length = n from HL.out]; omega)
      have HLAST := Lib.hid hlast
      clear hlast
      by_cases y : okN 281474976710655 path = true
      · refine (within_b 281474976710655 A n c path _ w.heap.size (by (repeat (refine Reads.alloc ?_ (by first | omega | (simp; done) | (simp; omega)) _)); exact hr) (by unfold maxLen; omega) y).mono ?_
        rintro e w' ⟨rfl, rfl⟩
        have Y := Lib.hid y
        clear y
        go_wp2_with fail
        go_ret
        exact ⟨ret_int (by rw [HLAST.out]; exact (if_pos Y.out).symm), (by (repeat (refine Below.alloc ?_ (by first | omega | (simp; done) | (simp; omega)) _)); exact Below.refl _ _)⟩
      · refine (within_b 281474976710655 A n c path _ w.heap.size (by (repeat (refine Reads.alloc ?_ (by first | omega | (simp; done) | (simp; omega)) _)); exact hr) (by unfold maxLen; omega) (not_true y)).mono ?_
        rintro e w' ⟨rfl, rfl⟩
        have Y := Lib.hid y
        clear y
        go_wp2_with fail
        go_ret
        exact ⟨ret_int (by rw [HLAST.out]; exact (if_neg Y.out).symm), (by (repeat (refine Below.alloc ?_ (by first | omega | (simp; done) | (simp; omega)) _)); exact Below.refl _ _)⟩
    case inl =>
      go_enter Tryz.func32, Tryz.ntmps32
      go_wp2_with fail
      by_cases a1 : okN 127 [domain] = true; rotate_left
      · refine (within1 127 _ _ (by simp) domain (not_true a1)).mono ?_
        rintro e w' ⟨rfl, rfl⟩
        have A := Lib.hid a1
        clear a1
        go_wp2_with fail
        go_ret
        exact ⟨ret_int (check_range hk0.out (fun h => A.out h.1.1)).symm, (by (repeat (refine Below.alloc ?_ (by first | omega | (simp; done) | (simp; omega)) _)); exact Below.refl _ _)⟩
      refine (within1 127 _ _ (by simp) domain a1).mono ?_
      rintro e w' ⟨rfl, rfl⟩
      have A1 := Lib.hid a1
      clear a1
      go_wp2_with fail
      by_cases a2 : okN 65535 [seq, port, toPort] = true; rotate_left
      · refine (within3 65535 _ _ (by simp) seq port toPort (not_true a2)).mono ?_
        rintro e w' ⟨rfl, rfl⟩
        have A := Lib.hid a2
        clear a2
        go_wp2_with fail
        go_ret
        exact ⟨ret_int (check_range hk0.out (fun h => A.out h.1.2.1)).symm, (by (repeat (refine Below.alloc ?_ (by first | omega | (simp; done) | (simp; omega)) _)); exact Below.refl _ _)⟩
      refine (within3 65535 _ _ (by simp) seq port toPort a2).mono ?_
      rintro e w' ⟨rfl, rfl⟩
      have A2 := Lib.hid a2
      clear a2
      go_wp2_with fail
      by_cases a3 : okN ids [src, to] = true; rotate_left
      · refine (within2 281474976710655 _ _ (by simp) src to (not_true a3)).mono ?_
        rintro e w' ⟨rfl, rfl⟩
        have A := Lib.hid a3
        clear a3
        go_wp2_with fail
        go_ret
        exact ⟨ret_int (check_range hk0.out (fun h => A.out h.1.2.2)).symm, (by (repeat (refine Below.alloc ?_ (by first | omega | (simp; done) | (simp; omega)) _)); exact Below.refl _ _)⟩
      refine (within2 281474976710655 _ _ (by simp) src to a3).mono ?_
      rintro e w' ⟨rfl, rfl⟩
      have A3 := Lib.hid a3
      clear a3
      go_wp2_with fail
      by_cases a4 : okN 255 [one, cls, two, steps] = true; rotate_left
      · refine (within4 255 _ _ (by simp) one cls two steps (not_true a4)).mono ?_
        rintro e w' ⟨rfl, rfl⟩
        have A := Lib.hid a4
        clear a4
        go_wp2_with fail
        go_ret
        exact ⟨ret_int (check_range hk0.out (fun h => A.out h.2.1)).symm, (by (repeat (refine Below.alloc ?_ (by first | omega | (simp; done) | (simp; omega)) _)); exact Below.refl _ _)⟩
      refine (within4 255 _ _ (by simp) one cls two steps a4).mono ?_
      rintro e w' ⟨rfl, rfl⟩
      have A4 := Lib.hid a4
      clear a4
      go_wp2_with fail
      by_cases a5 : okN ids [id] = true; rotate_left
      · refine (within1 281474976710655 _ _ (by simp) id (not_true a5)).mono ?_
        rintro e w' ⟨rfl, rfl⟩
        have A := Lib.hid a5
        clear a5
        go_wp2_with fail
        go_ret
        exact ⟨ret_int (check_range hk0.out (fun h => A.out h.2.2)).symm, (by (repeat (refine Below.alloc ?_ (by first | omega | (simp; done) | (simp; omega)) _)); exact Below.refl _ _)⟩
      refine (within1 281474976710655 _ _ (by simp) id a5).mono ?_
      rintro e w' ⟨rfl, rfl⟩
      have A5 := Lib.hid a5
      clear a5
      by_cases z : to = 0; rotate_left
      · have z0 : (to == 0) = false := beq_eq_false_iff_ne.2 z
        have z1 : (to != 0) = true := bne_iff_ne.2 z
        have Z := Lib.hid z
        clear z
        go_wp2_with fail
        go_ret
        exact ⟨ret_int (check_apt hk0.out (fun h => Z.out (h.1 (by simp) (by simp)).1)).symm, (by (repeat (refine Below.alloc ?_ (by first | omega | (simp; done) | (simp; omega)) _)); exact Below.refl _ _)⟩
      obtain rfl := z
      by_cases z : toPort = 0; rotate_left
      · have z0 : (toPort == 0) = false := beq_eq_false_iff_ne.2 z
        have z1 : (toPort != 0) = true := bne_iff_ne.2 z
        have Z := Lib.hid z
        clear z
        go_wp2_with fail
        go_ret
        exact ⟨ret_int (check_apt hk0.out (fun h => Z.out (h.1 (by simp) (by simp)).2.1)).symm, (by (repeat (refine Below.alloc ?_ (by first | omega | (simp; done) | (simp; omega)) _)); exact Below.refl _ _)⟩
      obtain rfl := z
      by_cases z : time = 0; rotate_left
      · have z0 : (time == 0) = false := beq_eq_false_iff_ne.2 z
        have z1 : (time != 0) = true := bne_iff_ne.2 z
        have Z := Lib.hid z
        clear z
        go_wp2_with fail
        go_ret
        exact ⟨ret_int (check_apt hk0.out (fun h => Z.out ((h.1 (by simp) (by simp)).2.2 (by simp)))).symm, (by (repeat (refine Below.alloc ?_ (by first | omega | (simp; done) | (simp; omega)) _)); exact Below.refl _ _)⟩
      obtain rfl := z
      by_cases z : rate = 0; rotate_left
      · have z0 : (rate == 0) = false := beq_eq_false_iff_ne.2 z
        have z1 : (rate != 0) = true := bne_iff_ne.2 z
        have Z := Lib.hid z
        clear z
        go_wp2_with fail
        go_ret
        exact ⟨ret_int (check_apt hk0.out (fun h => Z.out (h.2 (by simp)))).symm, (by (repeat (refine Below.alloc ?_ (by first | omega | (simp; done) | (simp; omega)) _)); exact Below.refl _ _)⟩
      obtain rfl := z
      by_cases z : one = 0; rotate_left
      · have z0 : (one == 0) = false := beq_eq_false_iff_ne.2 z
        have z1 : (one != 0) = true := bne_iff_ne.2 z
        have Z := Lib.hid z
        clear z
        go_wp2_with fail
        go_ret
        exact ⟨ret_int (check_bare hk0.out (fun h => Z.out (h (by simp)).1)).symm, (by (repeat (refine Below.alloc ?_ (by first | omega | (simp; done) | (simp; omega)) _)); exact Below.refl _ _)⟩
      obtain rfl := z
      by_cases z : cls = 0; rotate_left
      · have z0 : (cls == 0) = false := beq_eq_false_iff_ne.2 z
        have z1 : (cls != 0) = true := bne_iff_ne.2 z
        have Z := Lib.hid z
        clear z
        go_wp2_with fail
        go_ret
        exact ⟨ret_int (check_bare hk0.out (fun h => Z.out (h (by simp)).2.1)).symm, (by (repeat (refine Below.alloc ?_ (by first | omega | (simp; done) | (simp; omega)) _)); exact Below.refl _ _)⟩
      obtain rfl := z
      by_cases z : two = 0; rotate_left
      · have z0 : (two == 0) = false := beq_eq_false_iff_ne.2 z
        have z1 : (two != 0) = true := bne_iff_ne.2 z
        have Z := Lib.hid z
        clear z
        go_wp2_with fail
        go_ret
        exact ⟨ret_int (check_bare hk0.out (fun h => Z.out (h (by simp)).2.2.1)).symm, (by (repeat (refine Below.alloc ?_ (by first | omega | (simp; done) | (simp; omega)) _)); exact Below.refl _ _)⟩
      obtain rfl := z
      by_cases z : id = 0; rotate_left
      · have z0 : (id == 0) = false := beq_eq_false_iff_ne.2 z
        have z1 : (id != 0) = true := bne_iff_ne.2 z
        have Z := Lib.hid z
        clear z
        go_wp2_with fail
        go_ret
        exact ⟨ret_int (check_bare hk0.out (fun h => Z.out (h (by simp)).2.2.2.1)).symm, (by (repeat (refine Below.alloc ?_ (by first | omega | (simp; done) | (simp; omega)) _)); exact Below.refl _ _)⟩
      obtain rfl := z
      by_cases z : steps = 0; rotate_left
      · have z0 : (steps == 0) = false := beq_eq_false_iff_ne.2 z
        have z1 : (steps != 0) = true := bne_iff_ne.2 z
        have Z := Lib.hid z
        clear z
        go_wp2_with fail
        go_ret
        exact ⟨ret_int (check_bare hk0.out (fun h => Z.out (h (by simp)).2.2.2.2.1)).symm, (by (repeat (refine Below.alloc ?_ (by first | omega | (simp; done) | (simp; omega)) _)); exact Below.refl _ _)⟩
      obtain rfl := z
      by_cases z : n = 0; rotate_left
      · have z0 : ((n : Int) == 0) = false := beq_eq_false_iff_ne.2 (by omega)
        have z1 : ((n : Int) != 0) = true := bne_iff_ne.2 (by omega)
        have Z := Lib.hid z
        clear z
        go_wp2_with fail
        go_ret
        exact ⟨ret_int (check_bare hk0.out (fun h => Z.out (HL.out.symm.trans (h (by simp)).2.2.2.2.2))).symm, (by (repeat (refine Below.alloc ?_ (by first | omega | (simp; done) | (simp; omega)) _)); exact Below.refl _ _)⟩
      obtain rfl := z
      go_wp2_with fail
      have hlast := check_last (m := (⟨0, domain, seq, src, port, corr, 0, 0, 0, 0, 0, 0, 0, 0, 0, path⟩ : Mg)) hk0.out ⟨⟨A1.out, A2.out, A3.out⟩, A4.out, A5.out⟩ ⟨fun _ _ => ⟨rfl, rfl, fun _ => rfl⟩, fun _ => rfl⟩ (fun _ => ⟨rfl, rfl, rfl, rfl, rfl, HL.out⟩) (by rw [show path.length = 0 from HL.out]; omega)
      have HLAST := Lib.hid hlast
      clear hlast
      by_cases y : okN 281474976710655 path = true
      · refine (within_b 281474976710655 A 0 c path _ w.heap.size (by (repeat (refine Reads.alloc ?_ (by first | omega | (simp; done) | (simp; omega)) _)); exact hr) (by unfold maxLen; omega) y).mono ?_
        rintro e w' ⟨rfl, rfl⟩
        have Y := Lib.hid y
        clear y
        go_wp2_with fail
        go_ret
        exact ⟨ret_int (by rw [HLAST.out]; exact (if_pos Y.out).symm), (by (repeat (refine Below.alloc ?_ (by first | omega | (simp; done) | (simp; omega)) _)); exact Below.refl _ _)⟩
      · refine (within_b 281474976710655 A 0 c path _ w.heap.size (by (repeat (refine Reads.alloc ?_ (by first | omega | (simp; done) | (simp; omega)) _)); exact hr) (by unfold maxLen; omega) (not_true y)).mono ?_
        rintro e w' ⟨rfl, rfl⟩
        have Y := Lib.hid y
        clear y
        go_wp2_with fail
        go_ret
        exact ⟨ret_int (by rw [HLAST.out]; exact (if_neg Y.out).symm), (by (repeat (refine Below.alloc ?_ (by first | omega | (simp; done) | (simp; omega)) _)); exact Below.refl _ _)⟩
    case inr.inl =>
      go_enter Tryz.func32, Tryz.ntmps32
      go_wp2_with fail
      by_cases a1 : okN 127 [domain] = true; rotate_left
      · refine (within1 127 _ _ (by simp) domain (not_true a1)).mono ?_
        rintro e w' ⟨rfl, rfl⟩
        have A := Lib.hid a1
        clear a1
        go_wp2_with fail
        go_ret
        exact ⟨ret_int (check_range hk0.out (fun h => A.out h.1.1)).symm, (by (repeat (refine Below.alloc ?_ (by first | omega | (simp; done) | (simp; omega)) _)); exact Below.refl _ _)⟩
      refine (within1 127 _ _ (by simp) domain a1).mono ?_
      rintro e w' ⟨rfl, rfl⟩
      have A1 := Lib.hid a1
      clear a1
      go_wp2_with fail
      by_cases a2 : okN 65535 [seq, port, toPort] = true; rotate_left
      · refine (within3 65535 _ _ (by simp) seq port toPort (not_true a2)).mono ?_
        rintro e w' ⟨rfl, rfl⟩
        have A := Lib.hid a2
        clear a2
        go_wp2_with fail
        go_ret
        exact ⟨ret_int (check_range hk0.out (fun h => A.out h.1.2.1)).symm, (by (repeat (refine Below.alloc ?_ (by first | omega | (simp; done) | (simp; omega)) _)); exact Below.refl _ _)⟩
      refine (within3 65535 _ _ (by simp) seq port toPort a2).mono ?_
      rintro e w' ⟨rfl, rfl⟩
      have A2 := Lib.hid a2
      clear a2
      go_wp2_with fail
      by_cases a3 : okN ids [src, to] = true; rotate_left
      · refine (within2 281474976710655 _ _ (by simp) src to (not_true a3)).mono ?_
        rintro e w' ⟨rfl, rfl⟩
        have A := Lib.hid a3
        clear a3
        go_wp2_with fail
        go_ret
        exact ⟨ret_int (check_range hk0.out (fun h => A.out h.1.2.2)).symm, (by (repeat (refine Below.alloc ?_ (by first | omega | (simp; done) | (simp; omega)) _)); exact Below.refl _ _)⟩
      refine (within2 281474976710655 _ _ (by simp) src to a3).mono ?_
      rintro e w' ⟨rfl, rfl⟩
      have A3 := Lib.hid a3
      clear a3
      go_wp2_with fail
      by_cases a4 : okN 255 [one, cls, two, steps] = true; rotate_left
      · refine (within4 255 _ _ (by simp) one cls two steps (not_true a4)).mono ?_
        rintro e w' ⟨rfl, rfl⟩
        have A := Lib.hid a4
        clear a4
        go_wp2_with fail
        go_ret
        exact ⟨ret_int (check_range hk0.out (fun h => A.out h.2.1)).symm, (by (repeat (refine Below.alloc ?_ (by first | omega | (simp; done) | (simp; omega)) _)); exact Below.refl _ _)⟩
      refine (within4 255 _ _ (by simp) one cls two steps a4).mono ?_
      rintro e w' ⟨rfl, rfl⟩
      have A4 := Lib.hid a4
      clear a4
      go_wp2_with fail
      by_cases a5 : okN ids [id] = true; rotate_left
      · refine (within1 281474976710655 _ _ (by simp) id (not_true a5)).mono ?_
        rintro e w' ⟨rfl, rfl⟩
        have A := Lib.hid a5
        clear a5
        go_wp2_with fail
        go_ret
        exact ⟨ret_int (check_range hk0.out (fun h => A.out h.2.2)).symm, (by (repeat (refine Below.alloc ?_ (by first | omega | (simp; done) | (simp; omega)) _)); exact Below.refl _ _)⟩
      refine (within1 281474976710655 _ _ (by simp) id a5).mono ?_
      rintro e w' ⟨rfl, rfl⟩
      have A5 := Lib.hid a5
      clear a5
      by_cases z : to = 0; rotate_left
      · have z0 : (to == 0) = false := beq_eq_false_iff_ne.2 z
        have z1 : (to != 0) = true := bne_iff_ne.2 z
        have Z := Lib.hid z
        clear z
        go_wp2_with fail
        go_ret
        exact ⟨ret_int (check_apt hk0.out (fun h => Z.out (h.1 (by simp) (by simp)).1)).symm, (by (repeat (refine Below.alloc ?_ (by first | omega | (simp; done) | (simp; omega)) _)); exact Below.refl _ _)⟩
      obtain rfl := z
      by_cases z : toPort = 0; rotate_left
      · have z0 : (toPort == 0) = false := beq_eq_false_iff_ne.2 z
        have z1 : (toPort != 0) = true := bne_iff_ne.2 z
        have Z := Lib.hid z
        clear z
        go_wp2_with fail
        go_ret
        exact ⟨ret_int (check_apt hk0.out (fun h => Z.out (h.1 (by simp) (by simp)).2.1)).symm, (by (repeat (refine Below.alloc ?_ (by first | omega | (simp; done) | (simp; omega)) _)); exact Below.refl _ _)⟩
      obtain rfl := z
      by_cases z : time = 0; rotate_left
      · have z0 : (time == 0) = false := beq_eq_false_iff_ne.2 z
        have z1 : (time != 0) = true := bne_iff_ne.2 z
        have Z := Lib.hid z
        clear z
        go_wp2_with fail
        go_ret
        exact ⟨ret_int (check_apt hk0.out (fun h => Z.out ((h.1 (by simp) (by simp)).2.2 (by simp)))).symm, (by (repeat (refine Below.alloc ?_ (by first | omega | (simp; done) | (simp; omega)) _)); exact Below.refl _ _)⟩
      obtain rfl := z
      by_cases z : rate = 0; rotate_left
      · have z0 : (rate == 0) = false := beq_eq_false_iff_ne.2 z
        have z1 : (rate != 0) = true := bne_iff_ne.2 z
        have Z := Lib.hid z
        clear z
        go_wp2_with fail
        go_ret
        exact ⟨ret_int (check_apt hk0.out (fun h => Z.out (h.2 (by simp)))).symm, (by (repeat (refine Below.alloc ?_ (by first | omega | (simp; done) | (simp; omega)) _)); exact Below.refl _ _)⟩
      obtain rfl := z
      by_cases z : one = 0; rotate_left
      · have z0 : (one == 0) = false := beq_eq_false_iff_ne.2 z
        have z1 : (one != 0) = true := bne_iff_ne.2 z
        have Z := Lib.hid z
        clear z
        go_wp2_with fail
        go_ret
        exact ⟨ret_int (check_bare hk0.out (fun h => Z.out (h (by simp)).1)).symm, (by (repeat (refine Below.alloc ?_ (by first | omega | (simp; done) | (simp; omega)) _)); exact Below.refl _ _)⟩
      obtain rfl := z
      by_cases z : cls = 0; rotate_left
      · have z0 : (cls == 0) = false := beq_eq_false_iff_ne.2 z
        have z1 : (cls != 0) = true := bne_iff_ne.2 z
        have Z := Lib.hid z
        clear z
        go_wp2_with fail
        go_ret
        exact ⟨ret_int (check_bare hk0.out (fun h => Z.out (h (by simp)).2.1)).symm, (by (repeat (refine Below.alloc ?_ (by first | omega | (simp; done) | (simp; omega)) _)); exact Below.refl _ _)⟩
      obtain rfl := z
      by_cases z : two = 0; rotate_left
      · have z0 : (two == 0) = false := beq_eq_false_iff_ne.2 z
        have z1 : (two != 0) = true := bne_iff_ne.2 z
        have Z := Lib.hid z
        clear z
        go_wp2_with fail
        go_ret
        exact ⟨ret_int (check_bare hk0.out (fun h => Z.out (h (by simp)).2.2.1)).symm, (by (repeat (refine Below.alloc ?_ (by first | omega | (simp; done) | (simp; omega)) _)); exact Below.refl _ _)⟩
      obtain rfl := z
      by_cases z : id = 0; rotate_left
      · have z0 : (id == 0) = false := beq_eq_false_iff_ne.2 z
        have z1 : (id != 0) = true := bne_iff_ne.2 z
        have Z := Lib.hid z
        clear z
        go_wp2_with fail
        go_ret
        exact ⟨ret_int (check_bare hk0.out (fun h => Z.out (h (by simp)).2.2.2.1)).symm, (by (repeat (refine Below.alloc ?_ (by first | omega | (simp; done) | (simp; omega)) _)); exact Below.refl _ _)⟩
      obtain rfl := z
      by_cases z : steps = 0; rotate_left
      · have z0 : (steps == 0) = false := beq_eq_false_iff_ne.2 z
        have z1 : (steps != 0) = true := bne_iff_ne.2 z
        have Z := Lib.hid z
        clear z
        go_wp2_with fail
        go_ret
        exact ⟨ret_int (check_bare hk0.out (fun h => Z.out (h (by simp)).2.2.2.2.1)).symm, (by (repeat (refine Below.alloc ?_ (by first | omega | (simp; done) | (simp; omega)) _)); exact Below.refl _ _)⟩
      obtain rfl := z
      by_cases z : n = 0; rotate_left
      · have z0 : ((n : Int) == 0) = false := beq_eq_false_iff_ne.2 (by omega)
        have z1 : ((n : Int) != 0) = true := bne_iff_ne.2 (by omega)
        have Z := Lib.hid z
        clear z
        go_wp2_with fail
        go_ret
        exact ⟨ret_int (check_bare hk0.out (fun h => Z.out (HL.out.symm.trans (h (by simp)).2.2.2.2.2))).symm, (by (repeat (refine Below.alloc ?_ (by first | omega | (simp; done) | (simp; omega)) _)); exact Below.refl _ _)⟩
      obtain rfl := z
      go_wp2_with fail
      have hlast := check_last (m := (⟨2, domain, seq, src, port, corr, 0, 0, 0, 0, 0, 0, 0, 0, 0, path⟩ : Mg)) hk0.out ⟨⟨A1.out, A2.out, A3.out⟩, A4.out, A5.out⟩ ⟨fun _ _ => ⟨rfl, rfl, fun _ => rfl⟩, fun _ => rfl⟩ (fun _ => ⟨rfl, rfl, rfl, rfl, rfl, HL.out⟩) (by rw [show path.length = 0 from HL.out]; omega)
      have HLAST := Lib.hid hlast
      clear hlast
      by_cases y : okN 281474976710655 path = true
      · refine (within_b 281474976710655 A 0 c path _ w.heap.size (by (repeat (refine Reads.alloc ?_ (by first | omega | (simp; done) | (simp; omega)) _)); exact hr) (by unfold maxLen; omega) y).mono ?_
        rintro e w' ⟨rfl, rfl⟩
        have Y := Lib.hid y
        clear y
        go_wp2_with fail
        go_ret
        exact ⟨ret_int (by rw [HLAST.out]; exact (if_pos Y.out).symm), (by (repeat (refine Below.alloc ?_ (by first | omega | (simp; done) | (simp; omega)) _)); exact Below.refl _ _)⟩
      · refine (within_b 281474976710655 A 0 c path _ w.heap.size (by (repeat (refine Reads.alloc ?_ (by first | omega | (simp; done) | (simp; omega)) _)); exact hr) (by unfold maxLen; omega) (not_true y)).mono ?_
        rintro e w' ⟨rfl, rfl⟩
        have Y := Lib.hid y
        clear y
        go_wp2_with fail
        go_ret
        exact ⟨ret_int (by rw [HLAST.out]; exact (if_neg Y.out).symm), (by (repeat (refine Below.alloc ?_ (by first | omega | (simp; done) | (simp; omega)) _)); exact Below.refl _ _)⟩
    case inr.inr.inl =>
      go_enter Tryz.func32, Tryz.ntmps32
      go_wp2_with fail
      by_cases a1 : okN 127 [domain] = true; rotate_left
      · refine (within1 127 _ _ (by simp) domain (not_true a1)).mono ?_
        rintro e w' ⟨rfl, rfl⟩
        have A := Lib.hid a1
        clear a1
        go_wp2_with fail
        go_ret
        exact ⟨ret_int (check_range hk0.out (fun h => A.out h.1.1)).symm, (by (repeat (refine Below.alloc ?_ (by first | omega | (simp; done) | (simp; omega)) _)); exact Below.refl _ _)⟩
      refine (within1 127 _ _ (by simp) domain a1).mono ?_
      rintro e w' ⟨rfl, rfl⟩
      have A1 := Lib.hid a1
      clear a1
      go_wp2_with fail
      by_cases a2 : okN 65535 [seq, port, toPort] = true; rotate_left
      · refine (within3 65535 _ _ (by simp) seq port toPort (not_true a2)).mono ?_
        rintro e w' ⟨rfl, rfl⟩
        have A := Lib.hid a2
        clear a2
        go_wp2_with fail
        go_ret
        exact ⟨ret_int (check_range hk0.out (fun h => A.out h.1.2.1)).symm, (by (repeat (refine Below.alloc ?_ (by first | omega | (simp; done) | (simp; omega)) _)); exact Below.refl _ _)⟩
      refine (within3 65535 _ _ (by simp) seq port toPort a2).mono ?_
      rintro e w' ⟨rfl, rfl⟩
      have A2 := Lib.hid a2
      clear a2
      go_wp2_with fail
      by_cases a3 : okN ids [src, to] = true; rotate_left
      · refine (within2 281474976710655 _ _ (by simp) src to (not_true a3)).mono ?_
        rintro e w' ⟨rfl, rfl⟩
        have A := Lib.hid a3
        clear a3
        go_wp2_with fail
        go_ret
        exact ⟨ret_int (check_range hk0.out (fun h => A.out h.1.2.2)).symm, (by (repeat (refine Below.alloc ?_ (by first | omega | (simp; done) | (simp; omega)) _)); exact Below.refl _ _)⟩
      refine (within2 281474976710655 _ _ (by simp) src to a3).mono ?_
      rintro e w' ⟨rfl, rfl⟩
      have A3 := Lib.hid a3
      clear a3
      go_wp2_with fail
      by_cases a4 : okN 255 [one, cls, two, steps] = true; rotate_left
      · refine (within4 255 _ _ (by simp) one cls two steps (not_true a4)).mono ?_
        rintro e w' ⟨rfl, rfl⟩
        have A := Lib.hid a4
        clear a4
        go_wp2_with fail
        go_ret
        exact ⟨ret_int (check_range hk0.out (fun h => A.out h.2.1)).symm, (by (repeat (refine Below.alloc ?_ (by first | omega | (simp; done) | (simp; omega)) _)); exact Below.refl _ _)⟩
      refine (within4 255 _ _ (by simp) one cls two steps a4).mono ?_
      rintro e w' ⟨rfl, rfl⟩
      have A4 := Lib.hid a4
      clear a4
      go_wp2_with fail
      by_cases a5 : okN ids [id] = true; rotate_left
      · refine (within1 281474976710655 _ _ (by simp) id (not_true a5)).mono ?_
        rintro e w' ⟨rfl, rfl⟩
        have A := Lib.hid a5
        clear a5
        go_wp2_with fail
        go_ret
        exact ⟨ret_int (check_range hk0.out (fun h => A.out h.2.2)).symm, (by (repeat (refine Below.alloc ?_ (by first | omega | (simp; done) | (simp; omega)) _)); exact Below.refl _ _)⟩
      refine (within1 281474976710655 _ _ (by simp) id a5).mono ?_
      rintro e w' ⟨rfl, rfl⟩
      have A5 := Lib.hid a5
      clear a5
      by_cases z : rate = 0; rotate_left
      · have z0 : (rate == 0) = false := beq_eq_false_iff_ne.2 z
        have z1 : (rate != 0) = true := bne_iff_ne.2 z
        have Z := Lib.hid z
        clear z
        go_wp2_with fail
        go_ret
        exact ⟨ret_int (check_apt hk0.out (fun h => Z.out (h.2 (by simp)))).symm, (by (repeat (refine Below.alloc ?_ (by first | omega | (simp; done) | (simp; omega)) _)); exact Below.refl _ _)⟩
      obtain rfl := z
      by_cases z : one = 0; rotate_left
      · have z0 : (one == 0) = false := beq_eq_false_iff_ne.2 z
        have z1 : (one != 0) = true := bne_iff_ne.2 z
        have Z := Lib.hid z
        clear z
        go_wp2_with fail
        go_ret
        exact ⟨ret_int (check_bare hk0.out (fun h => Z.out (h (by simp)).1)).symm, (by (repeat (refine Below.alloc ?_ (by first | omega | (simp; done) | (simp; omega)) _)); exact Below.refl _ _)⟩
      obtain rfl := z
      by_cases z : cls = 0; rotate_left
      · have z0 : (cls == 0) = false := beq_eq_false_iff_ne.2 z
        have z1 : (cls != 0) = true := bne_iff_ne.2 z
        have Z := Lib.hid z
        clear z
        go_wp2_with fail
        go_ret
        exact ⟨ret_int (check_bare hk0.out (fun h => Z.out (h (by simp)).2.1)).symm, (by (repeat (refine Below.alloc ?_ (by first | omega | (simp; done) | (simp; omega)) _)); exact Below.refl _ _)⟩
      obtain rfl := z
      by_cases z : two = 0; rotate_left
      · have z0 : (two == 0) = false := beq_eq_false_iff_ne.2 z
        have z1 : (two != 0) = true := bne_iff_ne.2 z
        have Z := Lib.hid z
        clear z
        go_wp2_with fail
        go_ret
        exact ⟨ret_int (check_bare hk0.out (fun h => Z.out (h (by simp)).2.2.1)).symm, (by (repeat (refine Below.alloc ?_ (by first | omega | (simp; done) | (simp; omega)) _)); exact Below.refl _ _)⟩
      obtain rfl := z
      by_cases z : id = 0; rotate_left
      · have z0 : (id == 0) = false := beq_eq_false_iff_ne.2 z
        have z1 : (id != 0) = true := bne_iff_ne.2 z
        have Z := Lib.hid z
        clear z
        go_wp2_with fail
        go_ret
        exact ⟨ret_int (check_bare hk0.out (fun h => Z.out (h (by simp)).2.2.2.1)).symm, (by (repeat (refine Below.alloc ?_ (by first | omega | (simp; done) | (simp; omega)) _)); exact Below.refl _ _)⟩
      obtain rfl := z
      by_cases z : steps = 0; rotate_left
      · have z0 : (steps == 0) = false := beq_eq_false_iff_ne.2 z
        have z1 : (steps != 0) = true := bne_iff_ne.2 z
        have Z := Lib.hid z
        clear z
        go_wp2_with fail
        go_ret
        exact ⟨ret_int (check_bare hk0.out (fun h => Z.out (h (by simp)).2.2.2.2.1)).symm, (by (repeat (refine Below.alloc ?_ (by first | omega | (simp; done) | (simp; omega)) _)); exact Below.refl _ _)⟩
      obtain rfl := z
      by_cases z : n = 0; rotate_left
      · have z0 : ((n : Int) == 0) = false := beq_eq_false_iff_ne.2 (by omega)
        have z1 : ((n : Int) != 0) = true := bne_iff_ne.2 (by omega)
        have Z := Lib.hid z
        clear z
        go_wp2_with fail
        go_ret
        exact ⟨ret_int (check_bare hk0.out (fun h => Z.out (HL.out.symm.trans (h (by simp)).2.2.2.2.2))).symm, (by (repeat (refine Below.alloc ?_ (by first | omega | (simp; done) | (simp; omega)) _)); exact Below.refl _ _)⟩
      obtain rfl := z
      go_wp2_with fail
      have hlast := check_last (m := (⟨3, domain, seq, src, port, corr, time, to, toPort, 0, 0, 0, 0, 0, 0, path⟩ : Mg)) hk0.out ⟨⟨A1.out, A2.out, A3.out⟩, A4.out, A5.out⟩ ⟨fun h => absurd rfl h, fun _ => rfl⟩ (fun _ => ⟨rfl, rfl, rfl, rfl, rfl, HL.out⟩) (by rw [show path.length = 0 from HL.out]; omega)
      have HLAST := Lib.hid hlast
      clear hlast
      by_cases y : okN 281474976710655 path = true
      · refine (within_b 281474976710655 A 0 c path _ w.heap.size (by (repeat (refine Reads.alloc ?_ (by first | omega | (simp; done) | (simp; omega)) _)); exact hr) (by unfold maxLen; omega) y).mono ?_
        rintro e w' ⟨rfl, rfl⟩
        have Y := Lib.hid y
        clear y
        go_wp2_with fail
        go_ret
        exact ⟨ret_int (by rw [HLAST.out]; exact (if_pos Y.out).symm), (by (repeat (refine Below.alloc ?_ (by first | omega | (simp; done) | (simp; omega)) _)); exact Below.refl _ _)⟩
      · refine (within_b 281474976710655 A 0 c path _ w.heap.size (by (repeat (refine Reads.alloc ?_ (by first | omega | (simp; done) | (simp; omega)) _)); exact hr) (by unfold maxLen; omega) (not_true y)).mono ?_
        rintro e w' ⟨rfl, rfl⟩
        have Y := Lib.hid y
        clear y
        go_wp2_with fail
        go_ret
        exact ⟨ret_int (by rw [HLAST.out]; exact (if_neg Y.out).symm), (by (repeat (refine Below.alloc ?_ (by first | omega | (simp; done) | (simp; omega)) _)); exact Below.refl _ _)⟩
    case inr.inr.inr.inl =>
      go_enter Tryz.func32, Tryz.ntmps32
      go_wp2_with fail
      by_cases a1 : okN 127 [domain] = true; rotate_left
      · refine (within1 127 _ _ (by simp) domain (not_true a1)).mono ?_
        rintro e w' ⟨rfl, rfl⟩
        have A := Lib.hid a1
        clear a1
        go_wp2_with fail
        go_ret
        exact ⟨ret_int (check_range hk0.out (fun h => A.out h.1.1)).symm, (by (repeat (refine Below.alloc ?_ (by first | omega | (simp; done) | (simp; omega)) _)); exact Below.refl _ _)⟩
      refine (within1 127 _ _ (by simp) domain a1).mono ?_
      rintro e w' ⟨rfl, rfl⟩
      have A1 := Lib.hid a1
      clear a1
      go_wp2_with fail
      by_cases a2 : okN 65535 [seq, port, toPort] = true; rotate_left
      · refine (within3 65535 _ _ (by simp) seq port toPort (not_true a2)).mono ?_
        rintro e w' ⟨rfl, rfl⟩
        have A := Lib.hid a2
        clear a2
        go_wp2_with fail
        go_ret
        exact ⟨ret_int (check_range hk0.out (fun h => A.out h.1.2.1)).symm, (by (repeat (refine Below.alloc ?_ (by first | omega | (simp; done) | (simp; omega)) _)); exact Below.refl _ _)⟩
      refine (within3 65535 _ _ (by simp) seq port toPort a2).mono ?_
      rintro e w' ⟨rfl, rfl⟩
      have A2 := Lib.hid a2
      clear a2
      go_wp2_with fail
      by_cases a3 : okN ids [src, to] = true; rotate_left
      · refine (within2 281474976710655 _ _ (by simp) src to (not_true a3)).mono ?_
        rintro e w' ⟨rfl, rfl⟩
        have A := Lib.hid a3
        clear a3
        go_wp2_with fail
        go_ret
        exact ⟨ret_int (check_range hk0.out (fun h => A.out h.1.2.2)).symm, (by (repeat (refine Below.alloc ?_ (by first | omega | (simp; done) | (simp; omega)) _)); exact Below.refl _ _)⟩
      refine (within2 281474976710655 _ _ (by simp) src to a3).mono ?_
      rintro e w' ⟨rfl, rfl⟩
      have A3 := Lib.hid a3
      clear a3
      go_wp2_with fail
      by_cases a4 : okN 255 [one, cls, two, steps] = true; rotate_left
      · refine (within4 255 _ _ (by simp) one cls two steps (not_true a4)).mono ?_
        rintro e w' ⟨rfl, rfl⟩
        have A := Lib.hid a4
        clear a4
        go_wp2_with fail
        go_ret
        exact ⟨ret_int (check_range hk0.out (fun h => A.out h.2.1)).symm, (by (repeat (refine Below.alloc ?_ (by first | omega | (simp; done) | (simp; omega)) _)); exact Below.refl _ _)⟩
      refine (within4 255 _ _ (by simp) one cls two steps a4).mono ?_
      rintro e w' ⟨rfl, rfl⟩
      have A4 := Lib.hid a4
      clear a4
      go_wp2_with fail
      by_cases a5 : okN ids [id] = true; rotate_left
      · refine (within1 281474976710655 _ _ (by simp) id (not_true a5)).mono ?_
        rintro e w' ⟨rfl, rfl⟩
        have A := Lib.hid a5
        clear a5
        go_wp2_with fail
        go_ret
        exact ⟨ret_int (check_range hk0.out (fun h => A.out h.2.2)).symm, (by (repeat (refine Below.alloc ?_ (by first | omega | (simp; done) | (simp; omega)) _)); exact Below.refl _ _)⟩
      refine (within1 281474976710655 _ _ (by simp) id a5).mono ?_
      rintro e w' ⟨rfl, rfl⟩
      have A5 := Lib.hid a5
      clear a5
      by_cases z : to = 0; rotate_left
      · have z0 : (to == 0) = false := beq_eq_false_iff_ne.2 z
        have z1 : (to != 0) = true := bne_iff_ne.2 z
        have Z := Lib.hid z
        clear z
        go_wp2_with fail
        go_ret
        exact ⟨ret_int (check_apt hk0.out (fun h => Z.out (h.1 (by simp) (by simp)).1)).symm, (by (repeat (refine Below.alloc ?_ (by first | omega | (simp; done) | (simp; omega)) _)); exact Below.refl _ _)⟩
      obtain rfl := z
      by_cases z : toPort = 0; rotate_left
      · have z0 : (toPort == 0) = false := beq_eq_false_iff_ne.2 z
        have z1 : (toPort != 0) = true := bne_iff_ne.2 z
        have Z := Lib.hid z
        clear z
        go_wp2_with fail
        go_ret
        exact ⟨ret_int (check_apt hk0.out (fun h => Z.out (h.1 (by simp) (by simp)).2.1)).symm, (by (repeat (refine Below.alloc ?_ (by first | omega | (simp; done) | (simp; omega)) _)); exact Below.refl _ _)⟩
      obtain rfl := z
      by_cases z : one = 0; rotate_left
      · have z0 : (one == 0) = false := beq_eq_false_iff_ne.2 z
        have z1 : (one != 0) = true := bne_iff_ne.2 z
        have Z := Lib.hid z
        clear z
        go_wp2_with fail
        go_ret
        exact ⟨ret_int (check_bare hk0.out (fun h => Z.out (h (by simp)).1)).symm, (by (repeat (refine Below.alloc ?_ (by first | omega | (simp; done) | (simp; omega)) _)); exact Below.refl _ _)⟩
      obtain rfl := z
      by_cases z : cls = 0; rotate_left
      · have z0 : (cls == 0) = false := beq_eq_false_iff_ne.2 z
        have z1 : (cls != 0) = true := bne_iff_ne.2 z
        have Z := Lib.hid z
        clear z
        go_wp2_with fail
        go_ret
        exact ⟨ret_int (check_bare hk0.out (fun h => Z.out (h (by simp)).2.1)).symm, (by (repeat (refine Below.alloc ?_ (by first | omega | (simp; done) | (simp; omega)) _)); exact Below.refl _ _)⟩
      obtain rfl := z
      by_cases z : two = 0; rotate_left
      · have z0 : (two == 0) = false := beq_eq_false_iff_ne.2 z
        have z1 : (two != 0) = true := bne_iff_ne.2 z
        have Z := Lib.hid z
        clear z
        go_wp2_with fail
        go_ret
        exact ⟨ret_int (check_bare hk0.out (fun h => Z.out (h (by simp)).2.2.1)).symm, (by (repeat (refine Below.alloc ?_ (by first | omega | (simp; done) | (simp; omega)) _)); exact Below.refl _ _)⟩
      obtain rfl := z
      by_cases z : id = 0; rotate_left
      · have z0 : (id == 0) = false := beq_eq_false_iff_ne.2 z
        have z1 : (id != 0) = true := bne_iff_ne.2 z
        have Z := Lib.hid z
        clear z
        go_wp2_with fail
        go_ret
        exact ⟨ret_int (check_bare hk0.out (fun h => Z.out (h (by simp)).2.2.2.1)).symm, (by (repeat (refine Below.alloc ?_ (by first | omega | (simp; done) | (simp; omega)) _)); exact Below.refl _ _)⟩
      obtain rfl := z
      by_cases z : steps = 0; rotate_left
      · have z0 : (steps == 0) = false := beq_eq_false_iff_ne.2 z
        have z1 : (steps != 0) = true := bne_iff_ne.2 z
        have Z := Lib.hid z
        clear z
        go_wp2_with fail
        go_ret
        exact ⟨ret_int (check_bare hk0.out (fun h => Z.out (h (by simp)).2.2.2.2.1)).symm, (by (repeat (refine Below.alloc ?_ (by first | omega | (simp; done) | (simp; omega)) _)); exact Below.refl _ _)⟩
      obtain rfl := z
      by_cases z : n = 0; rotate_left
      · have z0 : ((n : Int) == 0) = false := beq_eq_false_iff_ne.2 (by omega)
        have z1 : ((n : Int) != 0) = true := bne_iff_ne.2 (by omega)
        have Z := Lib.hid z
        clear z
        go_wp2_with fail
        go_ret
        exact ⟨ret_int (check_bare hk0.out (fun h => Z.out (HL.out.symm.trans (h (by simp)).2.2.2.2.2))).symm, (by (repeat (refine Below.alloc ?_ (by first | omega | (simp; done) | (simp; omega)) _)); exact Below.refl _ _)⟩
      obtain rfl := z
      go_wp2_with fail
      have hlast := check_last (m := (⟨8, domain, seq, src, port, corr, time, 0, 0, rate, 0, 0, 0, 0, 0, path⟩ : Mg)) hk0.out ⟨⟨A1.out, A2.out, A3.out⟩, A4.out, A5.out⟩ ⟨fun _ _ => ⟨rfl, rfl, fun h => absurd rfl h⟩, fun h => absurd rfl h⟩ (fun _ => ⟨rfl, rfl, rfl, rfl, rfl, HL.out⟩) (by rw [show path.length = 0 from HL.out]; omega)
      have HLAST := Lib.hid hlast
      clear hlast
      by_cases y : okN 281474976710655 path = true
      · refine (within_b 281474976710655 A 0 c path _ w.heap.size (by (repeat (refine Reads.alloc ?_ (by first | omega | (simp; done) | (simp; omega)) _)); exact hr) (by unfold maxLen; omega) y).mono ?_
        rintro e w' ⟨rfl, rfl⟩
        have Y := Lib.hid y
        clear y
        go_wp2_with fail
        go_ret
        exact ⟨ret_int (by rw [HLAST.out]; exact (if_pos Y.out).symm), (by (repeat (refine Below.alloc ?_ (by first | omega | (simp; done) | (simp; omega)) _)); exact Below.refl _ _)⟩
      · refine (within_b 281474976710655 A 0 c path _ w.heap.size (by (repeat (refine Reads.alloc ?_ (by first | omega | (simp; done) | (simp; omega)) _)); exact hr) (by unfold maxLen; omega) (not_true y)).mono ?_
        rintro e w' ⟨rfl, rfl⟩
        have Y := Lib.hid y
        clear y
        go_wp2_with fail
        go_ret
        exact ⟨ret_int (by rw [HLAST.out]; exact (if_neg Y.out).symm), (by (repeat (refine Below.alloc ?_ (by first | omega | (simp; done) | (simp; omega)) _)); exact Below.refl _ _)⟩
    case inr.inr.inr.inr.inl =>
      go_enter Tryz.func32, Tryz.ntmps32
      go_wp2_with fail
      by_cases a1 : okN 127 [domain] = true; rotate_left
      · refine (within1 127 _ _ (by simp) domain (not_true a1)).mono ?_
        rintro e w' ⟨rfl, rfl⟩
        have A := Lib.hid a1
        clear a1
        go_wp2_with fail
        go_ret
        exact ⟨ret_int (check_range hk0.out (fun h => A.out h.1.1)).symm, (by (repeat (refine Below.alloc ?_ (by first | omega | (simp; done) | (simp; omega)) _)); exact Below.refl _ _)⟩
      refine (within1 127 _ _ (by simp) domain a1).mono ?_
      rintro e w' ⟨rfl, rfl⟩
      have A1 := Lib.hid a1
      clear a1
      go_wp2_with fail
      by_cases a2 : okN 65535 [seq, port, toPort] = true; rotate_left
      · refine (within3 65535 _ _ (by simp) seq port toPort (not_true a2)).mono ?_
        rintro e w' ⟨rfl, rfl⟩
        have A := Lib.hid a2
        clear a2
        go_wp2_with fail
        go_ret
        exact ⟨ret_int (check_range hk0.out (fun h => A.out h.1.2.1)).symm, (by (repeat (refine Below.alloc ?_ (by first | omega | (simp; done) | (simp; omega)) _)); exact Below.refl _ _)⟩
      refine (within3 65535 _ _ (by simp) seq port toPort a2).mono ?_
      rintro e w' ⟨rfl, rfl⟩
      have A2 := Lib.hid a2
      clear a2
      go_wp2_with fail
      by_cases a3 : okN ids [src, to] = true; rotate_left
      · refine (within2 281474976710655 _ _ (by simp) src to (not_true a3)).mono ?_
        rintro e w' ⟨rfl, rfl⟩
        have A := Lib.hid a3
        clear a3
        go_wp2_with fail
        go_ret
        exact ⟨ret_int (check_range hk0.out (fun h => A.out h.1.2.2)).symm, (by (repeat (refine Below.alloc ?_ (by first | omega | (simp; done) | (simp; omega)) _)); exact Below.refl _ _)⟩
      refine (within2 281474976710655 _ _ (by simp) src to a3).mono ?_
      rintro e w' ⟨rfl, rfl⟩
      have A3 := Lib.hid a3
      clear a3
      go_wp2_with fail
      by_cases a4 : okN 255 [one, cls, two, steps] = true; rotate_left
      · refine (within4 255 _ _ (by simp) one cls two steps (not_true a4)).mono ?_
        rintro e w' ⟨rfl, rfl⟩
        have A := Lib.hid a4
        clear a4
        go_wp2_with fail
        go_ret
        exact ⟨ret_int (check_range hk0.out (fun h => A.out h.2.1)).symm, (by (repeat (refine Below.alloc ?_ (by first | omega | (simp; done) | (simp; omega)) _)); exact Below.refl _ _)⟩
      refine (within4 255 _ _ (by simp) one cls two steps a4).mono ?_
      rintro e w' ⟨rfl, rfl⟩
      have A4 := Lib.hid a4
      clear a4
      go_wp2_with fail
      by_cases a5 : okN ids [id] = true; rotate_left
      · refine (within1 281474976710655 _ _ (by simp) id (not_true a5)).mono ?_
        rintro e w' ⟨rfl, rfl⟩
        have A := Lib.hid a5
        clear a5
        go_wp2_with fail
        go_ret
        exact ⟨ret_int (check_range hk0.out (fun h => A.out h.2.2)).symm, (by (repeat (refine Below.alloc ?_ (by first | omega | (simp; done) | (simp; omega)) _)); exact Below.refl _ _)⟩
      refine (within1 281474976710655 _ _ (by simp) id a5).mono ?_
      rintro e w' ⟨rfl, rfl⟩
      have A5 := Lib.hid a5
      clear a5
      by_cases z : rate = 0; rotate_left
      · have z0 : (rate == 0) = false := beq_eq_false_iff_ne.2 z
        have z1 : (rate != 0) = true := bne_iff_ne.2 z
        have Z := Lib.hid z
        clear z
        go_wp2_with fail
        go_ret
        exact ⟨ret_int (check_apt hk0.out (fun h => Z.out (h.2 (by simp)))).symm, (by (repeat (refine Below.alloc ?_ (by first | omega | (simp; done) | (simp; omega)) _)); exact Below.refl _ _)⟩
      obtain rfl := z
      by_cases z : one = 0; rotate_left
      · have z0 : (one == 0) = false := beq_eq_false_iff_ne.2 z
        have z1 : (one != 0) = true := bne_iff_ne.2 z
        have Z := Lib.hid z
        clear z
        go_wp2_with fail
        go_ret
        exact ⟨ret_int (check_bare hk0.out (fun h => Z.out (h (by simp)).1)).symm, (by (repeat (refine Below.alloc ?_ (by first | omega | (simp; done) | (simp; omega)) _)); exact Below.refl _ _)⟩
      obtain rfl := z
      by_cases z : cls = 0; rotate_left
      · have z0 : (cls == 0) = false := beq_eq_false_iff_ne.2 z
        have z1 : (cls != 0) = true := bne_iff_ne.2 z
        have Z := Lib.hid z
        clear z
        go_wp2_with fail
        go_ret
        exact ⟨ret_int (check_bare hk0.out (fun h => Z.out (h (by simp)).2.1)).symm, (by (repeat (refine Below.alloc ?_ (by first | omega | (simp; done) | (simp; omega)) _)); exact Below.refl _ _)⟩
      obtain rfl := z
      by_cases z : two = 0; rotate_left
      · have z0 : (two == 0) = false := beq_eq_false_iff_ne.2 z
        have z1 : (two != 0) = true := bne_iff_ne.2 z
        have Z := Lib.hid z
        clear z
        go_wp2_with fail
        go_ret
        exact ⟨ret_int (check_bare hk0.out (fun h => Z.out (h (by simp)).2.2.1)).symm, (by (repeat (refine Below.alloc ?_ (by first | omega | (simp; done) | (simp; omega)) _)); exact Below.refl _ _)⟩
      obtain rfl := z
      by_cases z : id = 0; rotate_left
      · have z0 : (id == 0) = false := beq_eq_false_iff_ne.2 z
        have z1 : (id != 0) = true := bne_iff_ne.2 z
        have Z := Lib.hid z
        clear z
        go_wp2_with fail
        go_ret
        exact ⟨ret_int (check_bare hk0.out (fun h => Z.out (h (by simp)).2.2.2.1)).symm, (by (repeat (refine Below.alloc ?_ (by first | omega | (simp; done) | (simp; omega)) _)); exact Below.refl _ _)⟩
      obtain rfl := z
      by_cases z : steps = 0; rotate_left
      · have z0 : (steps == 0) = false := beq_eq_false_iff_ne.2 z
        have z1 : (steps != 0) = true := bne_iff_ne.2 z
        have Z := Lib.hid z
        clear z
        go_wp2_with fail
        go_ret
        exact ⟨ret_int (check_bare hk0.out (fun h => Z.out (h (by simp)).2.2.2.2.1)).symm, (by (repeat (refine Below.alloc ?_ (by first | omega | (simp; done) | (simp; omega)) _)); exact Below.refl _ _)⟩
      obtain rfl := z
      by_cases z : n = 0; rotate_left
      · have z0 : ((n : Int) == 0) = false := beq_eq_false_iff_ne.2 (by omega)
        have z1 : ((n : Int) != 0) = true := bne_iff_ne.2 (by omega)
        have Z := Lib.hid z
        clear z
        go_wp2_with fail
        go_ret
        exact ⟨ret_int (check_bare hk0.out (fun h => Z.out (HL.out.symm.trans (h (by simp)).2.2.2.2.2))).symm, (by (repeat (refine Below.alloc ?_ (by first | omega | (simp; done) | (simp; omega)) _)); exact Below.refl _ _)⟩
      obtain rfl := z
      go_wp2_with fail
      have hlast := check_last (m := (⟨10, domain, seq, src, port, corr, time, to, toPort, 0, 0, 0, 0, 0, 0, path⟩ : Mg)) hk0.out ⟨⟨A1.out, A2.out, A3.out⟩, A4.out, A5.out⟩ ⟨fun _ h => absurd rfl h, fun _ => rfl⟩ (fun _ => ⟨rfl, rfl, rfl, rfl, rfl, HL.out⟩) (by rw [show path.length = 0 from HL.out]; omega)
      have HLAST := Lib.hid hlast
      clear hlast
      by_cases y : okN 281474976710655 path = true
      · refine (within_b 281474976710655 A 0 c path _ w.heap.size (by (repeat (refine Reads.alloc ?_ (by first | omega | (simp; done) | (simp; omega)) _)); exact hr) (by unfold maxLen; omega) y).mono ?_
        rintro e w' ⟨rfl, rfl⟩
        have Y := Lib.hid y
        clear y
        go_wp2_with fail
        go_ret
        exact ⟨ret_int (by rw [HLAST.out]; exact (if_pos Y.out).symm), (by (repeat (refine Below.alloc ?_ (by first | omega | (simp; done) | (simp; omega)) _)); exact Below.refl _ _)⟩
      · refine (within_b 281474976710655 A 0 c path _ w.heap.size (by (repeat (refine Reads.alloc ?_ (by first | omega | (simp; done) | (simp; omega)) _)); exact hr) (by unfold maxLen; omega) (not_true y)).mono ?_
        rintro e w' ⟨rfl, rfl⟩
        have Y := Lib.hid y
        clear y
        go_wp2_with fail
        go_ret
        exact ⟨ret_int (by rw [HLAST.out]; exact (if_neg Y.out).symm), (by (repeat (refine Below.alloc ?_ (by first | omega | (simp; done) | (simp; omega)) _)); exact Below.refl _ _)⟩
  · rw [check_unknown hk]
    have HK := Lib.hid hk
    have k0 : (m.kind == 0) = false := beq_eq_false_iff_ne.2 (fun h => HK.out (.inl h))
    have k2 : (m.kind == 2) = false := beq_eq_false_iff_ne.2 (fun h => HK.out (.inr (.inl h)))
    have k3 : (m.kind == 3) = false := beq_eq_false_iff_ne.2 (fun h => HK.out (.inr (.inr (.inl h))))
    have k8 : (m.kind == 8) = false := beq_eq_false_iff_ne.2 (fun h => HK.out (.inr (.inr (.inr (.inl h)))))
    have k10 : (m.kind == 10) = false := beq_eq_false_iff_ne.2 (fun h => HK.out (.inr (.inr (.inr (.inr (.inl h))))))
    have k11 : (m.kind == 11) = false := beq_eq_false_iff_ne.2 (fun h => HK.out (.inr (.inr (.inr (.inr (.inr h))))))
    have HL := Lib.hid hl
    clear hk hl hr
    go_enter Tryz.func32, Tryz.ntmps32
    go_wp2_with fail
    go_ret
    exact ⟨rfl, ((Below.refl _ _).alloc (Nat.le_refl _) _).alloc (by simp) _⟩
end Go.Proofs.YthhlfojaloaooaaGreat
