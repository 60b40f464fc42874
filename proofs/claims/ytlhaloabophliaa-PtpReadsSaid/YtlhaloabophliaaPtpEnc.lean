/-
  Layer 6: ptp.Encode: what it gives.
-/
import Derived.Test.YtlhaloabophliaaPtpCheck
namespace Go.Proofs.Ytlhaloabophliaa
open Go.RowKit
attribute [local go_sem ↓] Go.wp_at_zero Go.wp_at_succ

def EncRet (m : Mg) (w : World) (e : Ending) (w' : World) : Prop :=
  ∃ v, e = .returned (.tuple #[v, .int .i64 0]) ∧ w'.ownsRow w.heap.size 5 1 v (encB m).length (us (encB m)) ∧ Below w.heap.size w w'
theorem or16 {k : Int} (h : Known k) : bits .or .i64 16 k = 16 + k := by
  rcases h with rfl | rfl | rfl | rfl | rfl | rfl <;> rfl

set_option maxRecDepth 100000 in
set_option maxHeartbeats 4000000 in
theorem enc_bad (m : Mg) (A : Option Addr) (n c : Nat) (w : World) (hr : Reads w w.heap.size 1 A n (vs m.path)) (hl : m.path.length = n) (hn : n ≤ maxLen) (hbad : checkV m ≠ 0) :
    Calls Try.prog 10 #[.agg #[.int .i64 m.kind, .int .i64 m.domain, .int .i64 m.seq, .int .i64 m.src, .int .i64 m.port, .int .i64 m.corr, .int .i64 m.time, .int .i64 m.to, .int .i64 m.toPort, .int .i64 m.rate, .int .i64 m.one, .int .i64 m.cls, .int .i64 m.two, .int .i64 m.id, .int .i64 m.steps, .slice A n c]] w fun e w' => e = .returned (.tuple #[.slice none 0 0, .int .i64 (checkV m)]) ∧ Below w.heap.size w w' := by
  have hck := fun W hr => check_any m A n c W hr hl hn
  have hb1 : (checkV m != 0) = true := bne_iff_ne.2 hbad
  generalize checkV m = x at *
  have HC := Lib.hid hck
  have HL := Lib.hid hl
  have HB := Lib.hid hbad
  clear hck hl hbad
  go_enter Try.func10, Try.ntmps10
  go_wp2_with fail
  refine (HC.out _ ((hr.alloc (Nat.le_refl _) _).more (by simp))).mono ?_
  rintro e w1 ⟨rfl, hb⟩
  go_wp2_with fail
  go_ret2
  exact ⟨rfl, ((Below.refl _ _).alloc (Nat.le_refl _) _).trans (hb.mono (by simp))⟩

set_option maxRecDepth 100000 in
set_option maxHeartbeats 8000000 in
theorem enc_right (m : Mg) (A : Option Addr) (n c : Nat) (w : World) (hr : Reads w w.heap.size 1 A n (vs m.path)) (hl : m.path.length = n) (hm : m.Right) :
    Calls Try.prog 10 #[.agg #[.int .i64 m.kind, .int .i64 m.domain, .int .i64 m.seq, .int .i64 m.src, .int .i64 m.port, .int .i64 m.corr, .int .i64 m.time, .int .i64 m.to, .int .i64 m.toPort, .int .i64 m.rate, .int .i64 m.one, .int .i64 m.cls, .int .i64 m.two, .int .i64 m.id, .int .i64 m.steps, .slice A n c]] w (EncRet m w) := by
  have hn : n ≤ 32 := by rw [← hl]; exact hm.few
  have hck := fun W hr => check_any m A n c W hr hl (by unfold maxLen; omega)
  rw [check_zero.2 hm] at hck
  have HC := Lib.hid hck
  have HL := Lib.hid hl
  have hor := or16 hm.known
  have HM := Lib.hid hm
  clear hck hl hm
  go_enter Try.func10, Try.ntmps10
  go_wp2_with fail
  refine (HC.out _ ((hr.alloc (Nat.le_refl _) _).more (by simp))).mono ?_
  rintro e w1 ⟨rfl, hb⟩
  have C0 : Blk w1 w.heap.size 28 _ := (Blk.new w 28 #[.int .i64 m.kind, .int .i64 m.domain, .int .i64 m.seq, .int .i64 m.src, .int .i64 m.port, .int .i64 m.corr, .int .i64 m.time, .int .i64 m.to, .int .i64 m.toPort, .int .i64 m.rate, .int .i64 m.one, .int .i64 m.cls, .int .i64 m.two, .int .i64 m.id, .int .i64 m.steps, .slice A n c]).below hb (by simp)
  have hb1 : Below w.heap.size w w1 := ((Below.refl _ _).alloc (Nat.le_refl _) _).trans (hb.mono (by simp))
  have hz := hb.size
  simp only [World.size_alloc] at hz
  clear hb
  have hcc := fun i => C0.cell i
  go_wp2_with fail
  clear hcc
  have S0 := C0.alloc (.cells #[.int .u8 ((16 + m.kind) % 256), .int .u8 (m.domain % 256)] 5)
  have N0 := ownsRow_new w1 (base := w1.heap.size) (n := 2) (size := 1) (cs := #[.int .u8 ((16 + m.kind) % 256), .int .u8 (m.domain % 256)]) (e := 5) (Nat.le_refl _) rfl (by simp [maxLen])
  have E0 : (#[.int .u8 ((16 + m.kind) % 256), .int .u8 (m.domain % 256)] : Array Value).toList = us [(16 + m.kind) % 256, m.domain % 256] := rfl
  rw [E0] at N0
  clear E0
  have N0d : (w1.alloc (.cells #[.int .u8 ((16 + m.kind) % 256), .int .u8 (m.domain % 256)] 5)).drew.ownsRow w1.heap.size 5 1 _ 2 _ := N0
  have BB0 : Below w.heap.size w (w1.alloc (.cells #[.int .u8 ((16 + m.kind) % 256), .int .u8 (m.domain % 256)] 5)) := hb1.alloc (by omega) _
  have Z0 : w1.heap.size ≤ (w1.alloc (.cells #[.int .u8 ((16 + m.kind) % 256), .int .u8 (m.domain % 256)] 5)).heap.size := by simp
  refine wp_region_script [(0, true), (1, true), (2, true), (4, true), (5, true), (7, true), (8, true), (10, true), (11, true), (3, false), (6, false), (9, false), (12, false), (13, false)] (fun w' => Blk w' w.heap.size 28 #[.int .i64 m.kind, .int .i64 m.domain, .int .i64 m.seq, .int .i64 m.src, .int .i64 m.port, .int .i64 m.corr, .int .i64 m.time, .int .i64 m.to, .int .i64 m.toPort, .int .i64 m.rate, .int .i64 m.one, .int .i64 m.cls, .int .i64 m.two, .int .i64 m.id, .int .i64 m.steps, .slice A n c]) (by kernel_rfl) (by kernel_rfl) (fun _ _ _ _ _ h => h) S0.drew ?_
  repeat (refine script_take (v := ?_) rfl ?_ ?_ ?_; rotate_left; (first | rfl | (go_simp; done)); (intro w' hw'; have hcq := fun i => Blk.cell hw' i; (try simp only [mcells] at hcq); (try simp only [ckc] at hcq); go_simp; with_reducible rfl); simp only [Act.put, List.setIfInBounds_toArray, List.set_cons_zero, List.set_cons_succ])
  (refine script_call 19 ?_ rfl ?_ ?_ ?_; rotate_left; (first | rfl | (go_simp; done)); (go_simp; with_reducible rfl))
  refine (put_b _ 2 ([(16 + m.kind) % 256, m.domain % 256]) m.seq 2 _ rfl _ w1.heap.size N0d Z0 (by omega) (by omega)).mono ?_
  rintro e W1 ⟨V1, rfl, N1, B1⟩
  have S1 : Blk W1 w.heap.size _ _ := S0.drew.below B1 (by omega)
  have Z1 : w1.heap.size ≤ W1.heap.size := Nat.le_trans Z0 B1.size
  refine ⟨_, rfl, S1, ?_⟩
  simp only [Act.put, List.setIfInBounds_toArray, List.set_cons_zero, List.set_cons_succ]
  (refine script_call 19 ?_ rfl ?_ ?_ ?_; rotate_left; (first | rfl | (go_simp; done)); (go_simp; with_reducible rfl))
  refine (put_b _ (2 + 2) (_) m.src 6 _ rfl _ w1.heap.size N1 Z1 (by omega) (by omega)).mono ?_
  rintro e W2 ⟨V2, rfl, N2, B2⟩
  have S2 : Blk W2 w.heap.size _ _ := S1.below B2 (by omega)
  have Z2 : w1.heap.size ≤ W2.heap.size := Nat.le_trans Z1 B2.size
  refine ⟨_, rfl, S2, ?_⟩
  simp only [Act.put, List.setIfInBounds_toArray, List.set_cons_zero, List.set_cons_succ]
  (refine script_call 19 ?_ rfl ?_ ?_ ?_; rotate_left; (first | rfl | (go_simp; done)); (go_simp; with_reducible rfl))
  refine (put_b _ (2 + 2 + 6) (_) m.port 2 _ rfl _ w1.heap.size N2 Z2 (by omega) (by omega)).mono ?_
  rintro e W3 ⟨V3, rfl, N3, B3⟩
  have S3 : Blk W3 w.heap.size _ _ := S2.below B3 (by omega)
  have Z3 : w1.heap.size ≤ W3.heap.size := Nat.le_trans Z2 B3.size
  refine ⟨_, rfl, S3, ?_⟩
  simp only [Act.put, List.setIfInBounds_toArray, List.set_cons_zero, List.set_cons_succ]
  (refine script_call 19 ?_ rfl ?_ ?_ ?_; rotate_left; (first | rfl | (go_simp; done)); (go_simp; with_reducible rfl))
  refine (put_b _ (2 + 2 + 6 + 2) (_) m.corr 8 _ rfl _ w1.heap.size N3 Z3 (by omega) (by omega)).mono ?_
  rintro e W4 ⟨V4, rfl, N4, B4⟩
  have S4 : Blk W4 w.heap.size _ _ := S3.below B4 (by omega)
  have Z4 : w1.heap.size ≤ W4.heap.size := Nat.le_trans Z3 B4.size
  refine ⟨_, rfl, S4, ?_⟩
  simp only [Act.put, List.setIfInBounds_toArray, List.set_cons_zero, List.set_cons_succ]
  (refine script_run (v := ?_) (w' := ?_) rfl ?_ ?_ ?_ ?_; rotate_left 2; (first | rfl | (go_simp; done)); (go_simp; refine ⟨?_, ?_⟩ <;> with_reducible rfl); (exact S4); simp only [Act.put, List.setIfInBounds_toArray, List.set_cons_zero, List.set_cons_succ])
  refine script_nil ?_
  have BB4 : Below w.heap.size w W4 := BB0.drew.trans (((((B1.trans B2).trans B3).trans B4)).mono (by omega))
  have N4' : W4.ownsRow w1.heap.size 5 1 V4 20 (us (headB m)) := N4
  clear N0 N0d N1 N2 N3 N4 B1 B2 B3 B4 S1 S2 S3 Z1 Z2 Z3 C0 S0 hb1 BB0
  have c0 := S4.cell 0
  simp at c0
  have hk := HM.out.known
  unfold Known at hk
  have HK := Lib.hid (show W4.ownsRow w1.heap.size 5 1 V4 20 (us (headB m)) from N4')
  clear N4'
  rcases hk with hk | hk | hk | hk | hk | hk
  · have htl := Lib.hid (show tailB m = [] by simp [tailB, hk])
    go_wp2_with fail
    go_ret2
    exact ⟨_, rfl, by unfold encB; rw [htl.out, List.append_nil, headB_length]; exact ownsRow_base HK.out (by omega), BB4⟩
  · have htl := Lib.hid (show tailB m = [] by simp [tailB, hk])
    go_wp2_with fail
    go_ret2
    exact ⟨_, rfl, by unfold encB; rw [htl.out, List.append_nil, headB_length]; exact ownsRow_base HK.out (by omega), BB4⟩
  · have htl := Lib.hid (show tailB m = be m.time 8 ++ be m.to 6 ++ be m.toPort 2 by simp [tailB, hk])
    have HKK := Lib.hid hk
    go_wp2_with fail
    clear hk
    refine wp_region_script [(0, true), (1, true), (2, true), (4, true), (5, true), (7, true), (8, true), (3, false), (6, false), (9, false), (10, false)] (fun w' => Blk w' w.heap.size 28 #[.int .i64 m.kind, .int .i64 m.domain, .int .i64 m.seq, .int .i64 m.src, .int .i64 m.port, .int .i64 m.corr, .int .i64 m.time, .int .i64 m.to, .int .i64 m.toPort, .int .i64 m.rate, .int .i64 m.one, .int .i64 m.cls, .int .i64 m.two, .int .i64 m.id, .int .i64 m.steps, .slice A n c]) (by kernel_rfl) (by kernel_rfl) (fun _ _ _ _ _ h => h) S4.drew ?_
    repeat (refine script_take (v := ?_) rfl ?_ ?_ ?_; rotate_left; (first | rfl | (go_simp; done)); (intro w' hw'; have hcq := fun i => Blk.cell hw' i; (try simp only [mcells] at hcq); (try simp only [ckc] at hcq); go_simp; with_reducible rfl); simp only [Act.put, List.setIfInBounds_toArray, List.set_cons_zero, List.set_cons_succ])
    have N4d : W4.drew.ownsRow w1.heap.size 5 1 V4 20 (us (headB m)) := HK.out
    (refine script_call 19 ?_ rfl ?_ ?_ ?_; rotate_left; (first | rfl | (go_simp; done)); (go_simp; with_reducible rfl))
    refine (put_b _ 20 (_) m.time 8 _ rfl _ w1.heap.size N4d Z4 (by omega) (by omega)).mono ?_
    rintro e W5 ⟨V5, rfl, N5, B5⟩
    have S5 : Blk W5 w.heap.size _ _ := S4.drew.below B5 (by omega)
    have Z5 : w1.heap.size ≤ W5.heap.size := Nat.le_trans Z4 B5.size
    refine ⟨_, rfl, S5, ?_⟩
    simp only [Act.put, List.setIfInBounds_toArray, List.set_cons_zero, List.set_cons_succ]
    (refine script_call 19 ?_ rfl ?_ ?_ ?_; rotate_left; (first | rfl | (go_simp; done)); (go_simp; with_reducible rfl))
    refine (put_b _ (20 + 8) (_) m.to 6 _ rfl _ w1.heap.size N5 Z5 (by omega) (by omega)).mono ?_
    rintro e W6 ⟨V6, rfl, N6, B6⟩
    have S6 : Blk W6 w.heap.size _ _ := S5.below B6 (by omega)
    have Z6 : w1.heap.size ≤ W6.heap.size := Nat.le_trans Z5 B6.size
    refine ⟨_, rfl, S6, ?_⟩
    simp only [Act.put, List.setIfInBounds_toArray, List.set_cons_zero, List.set_cons_succ]
    (refine script_call 19 ?_ rfl ?_ ?_ ?_; rotate_left; (first | rfl | (go_simp; done)); (go_simp; with_reducible rfl))
    refine (put_b _ (20 + 8 + 6) (_) m.toPort 2 _ rfl _ w1.heap.size N6 Z6 (by omega) (by omega)).mono ?_
    rintro e W7 ⟨V7, rfl, N7, B7⟩
    have S7 : Blk W7 w.heap.size _ _ := S6.below B7 (by omega)
    have Z7 : w1.heap.size ≤ W7.heap.size := Nat.le_trans Z6 B7.size
    refine ⟨_, rfl, S7, ?_⟩
    simp only [Act.put, List.setIfInBounds_toArray, List.set_cons_zero, List.set_cons_succ]
    (refine script_run (v := ?_) (w' := ?_) rfl ?_ ?_ ?_ ?_; rotate_left 2; (first | rfl | (go_simp; done)); (go_simp; refine ⟨?_, ?_⟩ <;> with_reducible rfl); (exact S7); simp only [Act.put, List.setIfInBounds_toArray, List.set_cons_zero, List.set_cons_succ])
    refine script_nil ?_
    have BB7 : Below w.heap.size w W7 := BB4.drew.trans ((((B5.trans B6).trans B7)).mono (by omega))
    go_wp2_with fail
    go_ret2
    exact ⟨_, rfl, by unfold encB; rw [htl.out, List.length_append, headB_length, ← List.append_assoc, ← List.append_assoc]; simp only [List.length_append, be_length]; exact ownsRow_base N7 (by omega), BB7⟩
  · have htl := Lib.hid (show tailB m = be m.time 8 ++ be m.rate 8 by simp [tailB, hk])
    go_wp2_with fail
    clear hk
    refine wp_region_script [(0, true), (1, true), (2, true), (4, true), (5, true), (3, false), (6, false), (7, false)] (fun w' => Blk w' w.heap.size 28 #[.int .i64 m.kind, .int .i64 m.domain, .int .i64 m.seq, .int .i64 m.src, .int .i64 m.port, .int .i64 m.corr, .int .i64 m.time, .int .i64 m.to, .int .i64 m.toPort, .int .i64 m.rate, .int .i64 m.one, .int .i64 m.cls, .int .i64 m.two, .int .i64 m.id, .int .i64 m.steps, .slice A n c]) (by kernel_rfl) (by kernel_rfl) (fun _ _ _ _ _ h => h) S4.drew ?_
    repeat (refine script_take (v := ?_) rfl ?_ ?_ ?_; rotate_left; (first | rfl | (go_simp; done)); (intro w' hw'; have hcq := fun i => Blk.cell hw' i; (try simp only [mcells] at hcq); (try simp only [ckc] at hcq); go_simp; with_reducible rfl); simp only [Act.put, List.setIfInBounds_toArray, List.set_cons_zero, List.set_cons_succ])
    have N4d : W4.drew.ownsRow w1.heap.size 5 1 V4 20 (us (headB m)) := HK.out
    (refine script_call 19 ?_ rfl ?_ ?_ ?_; rotate_left; (first | rfl | (go_simp; done)); (go_simp; with_reducible rfl))
    refine (put_b _ 20 (_) m.time 8 _ rfl _ w1.heap.size N4d Z4 (by omega) (by omega)).mono ?_
    rintro e W5 ⟨V5, rfl, N5, B5⟩
    have S5 : Blk W5 w.heap.size _ _ := S4.drew.below B5 (by omega)
    have Z5 : w1.heap.size ≤ W5.heap.size := Nat.le_trans Z4 B5.size
    refine ⟨_, rfl, S5, ?_⟩
    simp only [Act.put, List.setIfInBounds_toArray, List.set_cons_zero, List.set_cons_succ]
    (refine script_call 19 ?_ rfl ?_ ?_ ?_; rotate_left; (first | rfl | (go_simp; done)); (go_simp; with_reducible rfl))
    refine (put_b _ (20 + 8) (_) m.rate 8 _ rfl _ w1.heap.size N5 Z5 (by omega) (by omega)).mono ?_
    rintro e W6 ⟨V6, rfl, N6, B6⟩
    have S6 : Blk W6 w.heap.size _ _ := S5.below B6 (by omega)
    have Z6 : w1.heap.size ≤ W6.heap.size := Nat.le_trans Z5 B6.size
    refine ⟨_, rfl, S6, ?_⟩
    simp only [Act.put, List.setIfInBounds_toArray, List.set_cons_zero, List.set_cons_succ]
    (refine script_run (v := ?_) (w' := ?_) rfl ?_ ?_ ?_ ?_; rotate_left 2; (first | rfl | (go_simp; done)); (go_simp; refine ⟨?_, ?_⟩ <;> with_reducible rfl); (exact S6); simp only [Act.put, List.setIfInBounds_toArray, List.set_cons_zero, List.set_cons_succ])
    refine script_nil ?_
    have BB6 : Below w.heap.size w W6 := BB4.drew.trans (((B5.trans B6)).mono (by omega))
    go_wp2_with fail
    go_ret2
    exact ⟨_, rfl, by unfold encB; rw [htl.out, List.length_append, headB_length, ← List.append_assoc]; simp only [List.length_append, be_length]; exact ownsRow_base N6 (by omega), BB6⟩
  · have htl := Lib.hid (show tailB m = be m.time 8 ++ be m.to 6 ++ be m.toPort 2 by simp [tailB, hk])
    have HKK := Lib.hid hk
    go_wp2_with fail
    clear hk
    refine wp_region_script [(0, true), (1, true), (2, true), (4, true), (5, true), (7, true), (8, true), (3, false), (6, false), (9, false), (10, false)] (fun w' => Blk w' w.heap.size 28 #[.int .i64 m.kind, .int .i64 m.domain, .int .i64 m.seq, .int .i64 m.src, .int .i64 m.port, .int .i64 m.corr, .int .i64 m.time, .int .i64 m.to, .int .i64 m.toPort, .int .i64 m.rate, .int .i64 m.one, .int .i64 m.cls, .int .i64 m.two, .int .i64 m.id, .int .i64 m.steps, .slice A n c]) (by kernel_rfl) (by kernel_rfl) (fun _ _ _ _ _ h => h) S4.drew ?_
    repeat (refine script_take (v := ?_) rfl ?_ ?_ ?_; rotate_left; (first | rfl | (go_simp; done)); (intro w' hw'; have hcq := fun i => Blk.cell hw' i; (try simp only [mcells] at hcq); (try simp only [ckc] at hcq); go_simp; with_reducible rfl); simp only [Act.put, List.setIfInBounds_toArray, List.set_cons_zero, List.set_cons_succ])
    have N4d : W4.drew.ownsRow w1.heap.size 5 1 V4 20 (us (headB m)) := HK.out
    (refine script_call 19 ?_ rfl ?_ ?_ ?_; rotate_left; (first | rfl | (go_simp; done)); (go_simp; with_reducible rfl))
    refine (put_b _ 20 (_) m.time 8 _ rfl _ w1.heap.size N4d Z4 (by omega) (by omega)).mono ?_
    rintro e W5 ⟨V5, rfl, N5, B5⟩
    have S5 : Blk W5 w.heap.size _ _ := S4.drew.below B5 (by omega)
    have Z5 : w1.heap.size ≤ W5.heap.size := Nat.le_trans Z4 B5.size
    refine ⟨_, rfl, S5, ?_⟩
    simp only [Act.put, List.setIfInBounds_toArray, List.set_cons_zero, List.set_cons_succ]
    (refine script_call 19 ?_ rfl ?_ ?_ ?_; rotate_left; (first | rfl | (go_simp; done)); (go_simp; with_reducible rfl))
    refine (put_b _ (20 + 8) (_) m.to 6 _ rfl _ w1.heap.size N5 Z5 (by omega) (by omega)).mono ?_
    rintro e W6 ⟨V6, rfl, N6, B6⟩
    have S6 : Blk W6 w.heap.size _ _ := S5.below B6 (by omega)
    have Z6 : w1.heap.size ≤ W6.heap.size := Nat.le_trans Z5 B6.size
    refine ⟨_, rfl, S6, ?_⟩
    simp only [Act.put, List.setIfInBounds_toArray, List.set_cons_zero, List.set_cons_succ]
    (refine script_call 19 ?_ rfl ?_ ?_ ?_; rotate_left; (first | rfl | (go_simp; done)); (go_simp; with_reducible rfl))
    refine (put_b _ (20 + 8 + 6) (_) m.toPort 2 _ rfl _ w1.heap.size N6 Z6 (by omega) (by omega)).mono ?_
    rintro e W7 ⟨V7, rfl, N7, B7⟩
    have S7 : Blk W7 w.heap.size _ _ := S6.below B7 (by omega)
    have Z7 : w1.heap.size ≤ W7.heap.size := Nat.le_trans Z6 B7.size
    refine ⟨_, rfl, S7, ?_⟩
    simp only [Act.put, List.setIfInBounds_toArray, List.set_cons_zero, List.set_cons_succ]
    (refine script_run (v := ?_) (w' := ?_) rfl ?_ ?_ ?_ ?_; rotate_left 2; (first | rfl | (go_simp; done)); (go_simp; refine ⟨?_, ?_⟩ <;> with_reducible rfl); (exact S7); simp only [Act.put, List.setIfInBounds_toArray, List.set_cons_zero, List.set_cons_succ])
    refine script_nil ?_
    have BB7 : Below w.heap.size w W7 := BB4.drew.trans ((((B5.trans B6).trans B7)).mono (by omega))
    go_wp2_with fail
    go_ret2
    exact ⟨_, rfl, by unfold encB; rw [htl.out, List.length_append, headB_length, ← List.append_assoc, ← List.append_assoc]; simp only [List.length_append, be_length]; exact ownsRow_base N7 (by omega), BB7⟩
  · have htl := Lib.hid (show tailB m = [m.one % 256, m.cls % 256, m.two % 256] ++ be m.id 6 ++ [m.steps % 256, (m.path.length : Int) % 256] ++ m.path.flatMap fun x => be x 6 by simp [tailB, hk])
    have c10 := S4.cell 10
    have c11 := S4.cell 11
    have c12 := S4.cell 12
    simp at c10 c11 c12
    have hown4 := HK.out
    go_wp2_with (at_builtin; refine wpList_pushes 3 rfl (.tmp 60) (.tmp 73) 32 rfl styB (cs := #[.int .u8 (m.one % 256), .int .u8 (m.cls % 256), .int .u8 (m.two % 256)]) rfl (by intro u hu; simp at hu; rcases hu with rfl | rfl | rfl <;> rfl) rfl hown4 rfl rfl (by omega) (by omega) ?_; intro V5 W5 N5 B5)
    have S5 : Blk W5 w.heap.size _ _ := S4.below B5 (by omega)
    have Z5 : w1.heap.size ≤ W5.heap.size := Nat.le_trans Z4 B5.size
    clear c10 c11 c12 hown4 hk
    have N5' : W5.ownsRow w1.heap.size 5 1 V5 (20 + 3) (us (headB m ++ [m.one % 256, m.cls % 256, m.two % 256])) := by rw [us_append]; exact N5
    have hln : ((m.path.length : Nat) : Int) % 256 = (n : Int) % 256 := by rw [HL.out]
    have HLN := Lib.hid hln
    clear N5 hln
    refine wp_region_script2 [(0, true), (1, true), (2, true), (3, true), (5, true), (6, true), (7, true), (8, true), (9, true), (10, true), (11, true)] 4 12 [(12, false), (13, false), (14, false)] [(4, false), (13, false), (14, false)] (fun w' => Blk w' w.heap.size 28 #[.int .i64 m.kind, .int .i64 m.domain, .int .i64 m.seq, .int .i64 m.src, .int .i64 m.port, .int .i64 m.corr, .int .i64 m.time, .int .i64 m.to, .int .i64 m.toPort, .int .i64 m.rate, .int .i64 m.one, .int .i64 m.cls, .int .i64 m.two, .int .i64 m.id, .int .i64 m.steps, .slice A n c]) (by kernel_rfl) (by kernel_rfl) (fun _ _ _ _ _ h => h) S5.drew ?_
    repeat (refine script_take (v := ?_) rfl ?_ ?_ ?_; rotate_left; (first | rfl | (go_simp; done)); (intro w' hw'; have hcq := fun i => Blk.cell hw' i; (try simp only [mcells] at hcq); (try simp only [ckc] at hcq); go_simp; with_reducible rfl); simp only [Act.put, List.setIfInBounds_toArray, List.set_cons_zero, List.set_cons_succ])
    refine script_nil ?_
    have N5d : W5.drew.ownsRow w1.heap.size 5 1 V5 (20 + 3) (us (headB m ++ [m.one % 256, m.cls % 256, m.two % 256])) := N5'
    refine ⟨?_, ?_⟩
    · (refine script_call 19 ?_ rfl ?_ ?_ ?_; rotate_left; (first | rfl | (go_simp; done)); (go_simp; with_reducible rfl))
      refine (put_b _ (20 + 3) (_) m.id 6 _ rfl _ w1.heap.size N5d Z5 (by omega) (by omega)).mono ?_
      rintro e W6 ⟨V6, rfl, N6, B6⟩
      have S6 : Blk W6 w.heap.size _ _ := S5.drew.below B6 (by omega)
      have Z6 : w1.heap.size ≤ W6.heap.size := Nat.le_trans Z5 B6.size
      refine ⟨_, rfl, S6, ?_⟩
      simp only [Act.put, List.setIfInBounds_toArray, List.set_cons_zero, List.set_cons_succ]
      (refine script_run (v := ?_) (w' := ?_) rfl ?_ ?_ ?_ ?_; rotate_left 2; (first | rfl | (go_simp; done)); (go_simp; refine ⟨?_, ?_⟩ <;> with_reducible rfl); (exact (S6.alloc _)); simp only [Act.put, List.setIfInBounds_toArray, List.set_cons_zero, List.set_cons_succ])
      refine script_pushes 2 rfl rfl (.tmp 79) (.tmp 87) 32 rfl styB (cs := #[.int .u8 (m.steps % 256), .int .u8 ((n : Int) % 256)]) rfl (by intro u hu; simp at hu; rcases hu with rfl | rfl <;> rfl) rfl N6 rfl rfl (by omega) (by omega) ?_
      intro V8 W8 N8' B8 G8
      have S8 : Blk W8 w.heap.size _ _ := S6.below B8 (by omega)
      refine ⟨S8, ?_⟩
      simp only [Act.put, List.setIfInBounds_toArray, List.set_cons_zero, List.set_cons_succ]
      (refine script_run (v := ?_) (w' := ?_) rfl ?_ ?_ ?_ ?_; rotate_left 2; (first | rfl | (go_simp; done)); (go_simp; refine ⟨?_, ?_⟩ <;> with_reducible rfl); (exact S8); simp only [Act.put, List.setIfInBounds_toArray, List.set_cons_zero, List.set_cons_succ])
      have Z8 : w1.heap.size ≤ W8.heap.size := Nat.le_trans Z6 B8.size
      have BB8 : Below w.heap.size w W8 := BB4.trans ((((B5.drew).trans B6).trans B8).mono (by omega))
      have N8 : W8.ownsRow w1.heap.size 5 1 V8 31 (us (headB m ++ [m.one % 256, m.cls % 256, m.two % 256] ++ be m.id 6 ++ [m.steps % 256, (m.path.length : Int) % 256])) := by
        rw [us_append, HLN.out]; exact N8'
      clear N8' B8 G8 N6 B6 B5 S6 Z6 N5d N5' S5 Z5 BB4 S4 Z4 c0
      refine script_nil ?_
      have HN8 := Lib.hid N8
      clear N8
      have c15 := S8.cell 15
      simp at c15
      go_wp2_with fail
      go_loopw [5, 92] (fun b i wr => ∃ k : Nat, k ≤ n ∧ i = .int .i64 k ∧ wr.ownsRow w1.heap.size 5 1 b (31 + 6 * k) (us ((headB m ++ [m.one % 256, m.cls % 256, m.two % 256] ++ be m.id 6 ++ [m.steps % 256, (m.path.length : Int) % 256]) ++ (m.path.take k).flatMap fun x => be x 6)) ∧ Below w.heap.size w wr ∧ w1.heap.size ≤ wr.heap.size) (fun _ i _ => n - (intOf i).toNat)
      case atStart => exact ⟨0, Nat.zero_le _, rfl, by simpa using HN8.out, BB8, Z8⟩
      case round =>
        clear c15 S8 BB8 Z8
        obtain ⟨k, hk, rfl, ho, hb, hz8⟩ := hrel
        by_cases hlt : k < n
        · obtain ⟨ad, v, rfl, _, hx, hc⟩ := (hr.below hb).at_ hlt
          obtain ⟨x, hx1, rfl⟩ := getElem?_map_some hx
          have HV := Lib.hid (take_get hx1)
          clear hx hx1
          go_wp2_with fail
          refine (put_b _ (31 + 6 * k) _ x 6 _ rfl _ w1.heap.size ho hz8 (by omega) (by omega)).mono ?_
          rintro e w9 ⟨v9, rfl, ho9, hb9⟩
          go_wp2_with fail
          go_roundw
          case rel => exact ⟨k + 1, by omega, by go_num, by rw [HV.out, List.flatMap_append, ← List.append_assoc, show [x].flatMap (fun x => be x 6) = be x 6 from by simp, show 31 + 6 * (k + 1) = 31 + 6 * k + 6 from by omega]; exact ho9, hb.trans (hb9.mono (by omega)), Nat.le_trans hz8 hb9.size⟩
          case measure => simp [intOf]; omega
        · obtain rfl : n = k := by omega
          go_wp2_with fail
          go_ret2
          refine ⟨_, rfl, ?_, hb⟩
          have e1 : encB m = (headB m ++ [m.one % 256, m.cls % 256, m.two % 256] ++ be m.id 6 ++ [m.steps % 256, (m.path.length : Int) % 256]) ++ m.path.flatMap fun x => be x 6 := by
            unfold encB
            rw [htl.out]
            simp only [List.append_assoc]
          have e2 : (encB m).length = 31 + 6 * n := by
            rw [e1]
            simp only [List.length_append, headB_length, be_length, flatMap_be_length, List.length_cons, List.length_nil, HL.out]
          rw [e2, e1]
          rw [List.take_of_length_le (by rw [HL.out]; exact Nat.le_refl _)] at ho
          exact ownsRow_base ho (by omega)
    · (refine script_run (v := ?_) (w' := ?_) rfl ?_ ?_ ?_ ?_; rotate_left 2; (first | rfl | (go_simp; done)); (go_simp; refine ⟨?_, ?_⟩ <;> with_reducible rfl); (exact (S5.drew.alloc _)); simp only [Act.put, List.setIfInBounds_toArray, List.set_cons_zero, List.set_cons_succ])
      have Q6 : Blk (W5.drew.alloc (.cells #[.int .u8 (m.steps % 256), .int .u8 ((n : Int) % 256)] 5)) W5.heap.size 5 _ := Blk.new W5.drew 5 #[.int .u8 (m.steps % 256), .int .u8 ((n : Int) % 256)]
      have S5e := S5.drew.alloc (.cells #[.int .u8 (m.steps % 256), .int .u8 ((n : Int) % 256)] 5)
      have N5e := N5d.alloc (.cells #[.int .u8 (m.steps % 256), .int .u8 ((n : Int) % 256)] 5)
      have hne : V5.ownBlock ≠ some W5.heap.size := fun h => by have := (ownsRow_lt N5' _ h).2; omega
      have Z5e : w1.heap.size ≤ (W5.drew.alloc (.cells #[.int .u8 (m.steps % 256), .int .u8 ((n : Int) % 256)] 5)).heap.size := by simp; omega
      (refine script_call 19 ?_ rfl ?_ ?_ ?_; rotate_left; (first | rfl | (go_simp; done)); (go_simp; with_reducible rfl))
      refine (put_gb V5 (20 + 3) _ m.id 6 _ rfl _ w1.heap.size N5e Z5e (by omega) (by omega)).mono ?_
      rintro e W6 ⟨V6, rfl, N6, G6, M6⟩
      have B6 := below_of_grown G6 N5e Z5e
      have S6 : Blk W6 w.heap.size _ _ := S5e.below B6 (by omega)
      have Q7 : Blk W6 W5.heap.size _ _ := Q6.grown G6 (fun h => hne h.symm)
      have Z6 : w1.heap.size ≤ W6.heap.size := Nat.le_trans Z5e B6.size
      refine ⟨_, rfl, S6, ?_⟩
      simp only [Act.put, List.setIfInBounds_toArray, List.set_cons_zero, List.set_cons_succ]
      refine script_pushes_at 2 rfl rfl (.tmp 79) (.tmp 87) 32 rfl styB (cs := #[.int .u8 (m.steps % 256), .int .u8 ((n : Int) % 256)]) rfl (by intro u hu; simp at hu; rcases hu with rfl | rfl <;> rfl) rfl N6 rfl Q7 (by omega) (by omega) ?_
      intro V8 W8 N8' B8 G8
      have S8 : Blk W8 w.heap.size _ _ := S6.below B8 (by omega)
      refine ⟨S8, ?_⟩
      simp only [Act.put, List.setIfInBounds_toArray, List.set_cons_zero, List.set_cons_succ]
      (refine script_run (v := ?_) (w' := ?_) rfl ?_ ?_ ?_ ?_; rotate_left 2; (first | rfl | (go_simp; done)); (go_simp; refine ⟨?_, ?_⟩ <;> with_reducible rfl); (exact S8); simp only [Act.put, List.setIfInBounds_toArray, List.set_cons_zero, List.set_cons_succ])
      have Z8 : w1.heap.size ≤ W8.heap.size := Nat.le_trans Z6 B8.size
      have BB5 : Below w.heap.size w (W5.drew.alloc (.cells #[.int .u8 (m.steps % 256), .int .u8 ((n : Int) % 256)] 5)) := (BB4.trans (B5.drew.mono (by omega))).alloc (by simp; omega) _
      have BB8 : Below w.heap.size w W8 := BB5.trans ((B6.trans B8).mono (by omega))
      have N8 : W8.ownsRow w1.heap.size 5 1 V8 31 (us (headB m ++ [m.one % 256, m.cls % 256, m.two % 256] ++ be m.id 6 ++ [m.steps % 256, (m.path.length : Int) % 256])) := by
        rw [us_append, HLN.out]; exact N8'
      clear N8' B8 G8 N6 B6 B5 S6 Z6 N5d N5' S5 Z5 BB4 S4 Z4 c0 BB5 Q6 Q7 S5e N5e Z5e G6 M6 hne
      refine script_nil ?_
      have HN8 := Lib.hid N8
      clear N8
      have c15 := S8.cell 15
      simp at c15
      go_wp2_with fail
      go_loopw [5, 92] (fun b i wr => ∃ k : Nat, k ≤ n ∧ i = .int .i64 k ∧ wr.ownsRow w1.heap.size 5 1 b (31 + 6 * k) (us ((headB m ++ [m.one % 256, m.cls % 256, m.two % 256] ++ be m.id 6 ++ [m.steps % 256, (m.path.length : Int) % 256]) ++ (m.path.take k).flatMap fun x => be x 6)) ∧ Below w.heap.size w wr ∧ w1.heap.size ≤ wr.heap.size) (fun _ i _ => n - (intOf i).toNat)
      case atStart => exact ⟨0, Nat.zero_le _, rfl, by simpa using HN8.out, BB8, Z8⟩
      case round =>
        clear c15 S8 BB8 Z8
        obtain ⟨k, hk, rfl, ho, hb, hz8⟩ := hrel
        by_cases hlt : k < n
        · obtain ⟨ad, v, rfl, _, hx, hc⟩ := (hr.below hb).at_ hlt
          obtain ⟨x, hx1, rfl⟩ := getElem?_map_some hx
          have HV := Lib.hid (take_get hx1)
          clear hx hx1
          go_wp2_with fail
          refine (put_b _ (31 + 6 * k) _ x 6 _ rfl _ w1.heap.size ho hz8 (by omega) (by omega)).mono ?_
          rintro e w9 ⟨v9, rfl, ho9, hb9⟩
          go_wp2_with fail
          go_roundw
          case rel => exact ⟨k + 1, by omega, by go_num, by rw [HV.out, List.flatMap_append, ← List.append_assoc, show [x].flatMap (fun x => be x 6) = be x 6 from by simp, show 31 + 6 * (k + 1) = 31 + 6 * k + 6 from by omega]; exact ho9, hb.trans (hb9.mono (by omega)), Nat.le_trans hz8 hb9.size⟩
          case measure => simp [intOf]; omega
        · obtain rfl : n = k := by omega
          go_wp2_with fail
          go_ret2
          refine ⟨_, rfl, ?_, hb⟩
          have e1 : encB m = (headB m ++ [m.one % 256, m.cls % 256, m.two % 256] ++ be m.id 6 ++ [m.steps % 256, (m.path.length : Int) % 256]) ++ m.path.flatMap fun x => be x 6 := by
            unfold encB
            rw [htl.out]
            simp only [List.append_assoc]
          have e2 : (encB m).length = 31 + 6 * n := by
            rw [e1]
            simp only [List.length_append, headB_length, be_length, flatMap_be_length, List.length_cons, List.length_nil, HL.out]
          rw [e2, e1]
          rw [List.take_of_length_le (by rw [HL.out]; exact Nat.le_refl _)] at ho
          exact ownsRow_base ho (by omega)
end Go.Proofs.Ytlhaloabophliaa
