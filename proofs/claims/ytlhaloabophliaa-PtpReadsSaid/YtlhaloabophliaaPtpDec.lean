/-
  Layer 6: Decode, walked.
-/
import Derived.Test.YtlhaloabophliaaPtpDecA
import Derived.Test.YtlhaloabophliaaKitC
import Derived.Deep.DeepCutAuto
import Derived.Deep.CutBlock
namespace Go.Proofs.Ytlhaloabophliaa
set_option linter.unusedSimpArgs false
set_option linter.unusedVariables false
open Go.RowKit Go.WideShapes Go.ChangeShapes
attribute [local go_sem ↓] Go.wp_at_zero Go.wp_at_succ

theorem GetSt.drew {w : World} {B Bb Bs : Nat} {r : List Int} {s : Bool} (h : GetSt w B Bb Bs r s) : GetSt w.drew B Bb Bs r s := ⟨h.bytes, h.short, h.le1, h.le2, h.ne⟩
theorem GetSt.grown {w w' : World} {B Bb Bs : Nat} {row : Option Nat} {r : List Int} {s : Bool} (h : GetSt w B Bb Bs r s) (hg : w.grownBy w' row) (hr : ∀ g, row = some g → B ≤ g ∧ Bb ≠ g ∧ Bs ≠ g) : GetSt w' B Bb Bs r s := by
  obtain ⟨⟨A, len, cap, k1, k2, k3, B1, hrd⟩, B2, h4, h5, h6⟩ := h
  have hlt := B1.lt
  exact ⟨⟨A, len, cap, k1, k2, k3, B1.grown hg (fun e => (hr _ e.symm).2.1 rfl), hrd.grown hg (by omega) (fun k hk => (hr k hk).1)⟩, B2.grown hg (fun e => (hr _ e.symm).2.2 rfl), h4, h5, h6⟩
theorem styI : SliceTy Try.prog 26 3 1 8 := sliceTy_mk (z := .int .i64 0) Try.underlying26 (by kernel_rfl) rfl
theorem path_step {N k : Nat} {p r : List Int} {P0 : List Int × List Int × Bool} (hlt : k < N) (h : P0 = (p ++ (pathG (N - k) r).1, (pathG (N - k) r).2)) :
    P0 = if getS 6 r false = true then (p ++ [getV 6 r], getR 6 r, true) else ((p ++ [getV 6 r]) ++ (pathG (N - (k + 1)) (getR 6 r)).1, (pathG (N - (k + 1)) (getR 6 r)).2) := by
  rw [h, show N - k = (N - (k + 1)) + 1 from by omega, pathG]
  by_cases h6 : 6 ≤ r.length
  · obtain ⟨e1, e2, e3⟩ := getT rfl h6 false
    rw [if_pos h6, e1, e2, e3, if_neg (by simp)]
    simp
  · obtain ⟨e1, e2, e3⟩ := getF (n := 6) rfl (by omega : r.length < 6) false
    rw [if_neg h6, e1, e2, e3, if_pos rfl]

set_option maxRecDepth 100000 in
set_option maxHeartbeats 4000000 in
theorem dec_any (A : Option Addr) (n c : Nat) (b : List Int) (w : World) (hr : Reads w w.heap.size 1 A n (us b)) (hl : b.length = n) (hbt : Bytes b) (hnc : n ≤ c) (hc : c ≤ maxLen) :
    Calls Try.prog 15 #[.slice A n c] w (DecRet b w) := by
  have S0 : GetSt (((w.alloc (.cells #[.slice A n c] 32)).alloc (.cells (mcells ⟨0, 0, 0, 0, 0, 0, 0, 0, 0, 0, 0, 0, 0, 0, 0, []⟩ none 0 0) 28)).alloc (.cells #[.bool false] 4)) w.heap.size w.heap.size (w.heap.size + 1 + 1) b false :=
    ⟨⟨A, n, c, hnc, hc, hl, ((Blk.new _ _ _).alloc _).alloc _, (((hr.alloc (Nat.le_refl _) _).alloc (by simp) _).alloc (by simp; omega) _)⟩, Blk.at_new _ _ _ (by simp), by omega, by omega, by omega⟩
  have R0 : Blk (((w.alloc (.cells #[.slice A n c] 32)).alloc (.cells (mcells ⟨0, 0, 0, 0, 0, 0, 0, 0, 0, 0, 0, 0, 0, 0, 0, []⟩ none 0 0) 28)).alloc (.cells #[.bool false] 4)) (w.heap.size + 1) 28 (mcells ⟨0, 0, 0, 0, 0, 0, 0, 0, 0, 0, 0, 0, 0, 0, 0, []⟩ none 0 0) := (Blk.at_new _ _ _ (by simp)).alloc _
  have BB0 : Below w.heap.size w (((w.alloc (.cells #[.slice A n c] 32)).alloc (.cells (mcells ⟨0, 0, 0, 0, 0, 0, 0, 0, 0, 0, 0, 0, 0, 0, 0, []⟩ none 0 0) 28)).alloc (.cells #[.bool false] 4)) := (by (repeat (refine Below.alloc ?_ (by first | omega | (simp; done) | (simp; omega)) _)); exact Below.refl _ _)
  have z0 : (0 : Nat) = 0 := rfl
  have HB0 := Lib.hid hbt
  have HV1 := Lib.hid (getV_small (n := 1) (by omega) hbt)
  go_enter Try.func15, Try.ntmps15
  go_wp2_with fail
  clear hbt
  refine (get_any 1 1 rfl (by omega) _ w.heap.size w.heap.size (w.heap.size + 1 + 1) b false S0 HB0.out).mono ?_
  rintro e w1 ⟨rfl, S1, F1⟩
  have R1 := F1.2.2 _ _ _ (by omega) (by omega) R0
  have BB1 := BB0.trans F1.2.1
  have z1 : w1.heap.size = w.heap.size + 3 := F1.1.trans (by simp [z0])
  generalize hv : getV 1 b = v1
  have HB1 := Lib.hid (getR_bytes (n := 1) HB0.out)
  generalize hr1 : getR 1 b = r1 at S1 HB1
  generalize hs1 : getS 1 b false = s1 at S1
  have E1 := Lib.hid (And.intro hv (And.intro hr1 hs1))
  clear hv hr1 hs1 F1 S0 R0 BB0 HB0
  go_wp2_with fail
  refine (get_any 1 1 rfl (by omega) _ w.heap.size w.heap.size (w.heap.size + 1 + 1) r1 s1 S1 HB1.out).mono ?_
  rintro e w2 ⟨rfl, S2, F2⟩
  have R2 := F2.2.2 _ _ _ (by omega) (by omega) R1
  have BB2 := BB1.trans F2.2.1
  have z2 : w2.heap.size = w.heap.size + 3 := F2.1.trans (by simp [z1])
  generalize hv : getV 1 r1 = v2
  have HB2 := Lib.hid (getR_bytes (n := 1) HB1.out)
  generalize hr2 : getR 1 r1 = r2 at S2 HB2
  generalize hs2 : getS 1 r1 s1 = s2 at S2
  have E2 := Lib.hid (And.intro hv (And.intro hr2 hs2))
  clear hv hr2 hs2 F2 S1 R1 BB1 HB1
  go_wp2_with fail
  refine (get_any 2 2 rfl (by omega) _ w.heap.size w.heap.size (w.heap.size + 1 + 1) r2 s2 S2 HB2.out).mono ?_
  rintro e w3 ⟨rfl, S3, F3⟩
  have R3 := F3.2.2 _ _ _ (by omega) (by omega) R2
  have BB3 := BB2.trans F3.2.1
  have z3 : w3.heap.size = w.heap.size + 3 := F3.1.trans (by simp [z2])
  generalize hv : getV 2 r2 = v3
  have HB3 := Lib.hid (getR_bytes (n := 2) HB2.out)
  generalize hr3 : getR 2 r2 = r3 at S3 HB3
  generalize hs3 : getS 2 r2 s2 = s3 at S3
  have E3 := Lib.hid (And.intro hv (And.intro hr3 hs3))
  clear hv hr3 hs3 F3 S2 R2 BB2 HB2
  go_wp2_with fail
  refine (get_any 6 6 rfl (by omega) _ w.heap.size w.heap.size (w.heap.size + 1 + 1) r3 s3 S3 HB3.out).mono ?_
  rintro e w4 ⟨rfl, S4, F4⟩
  have R4 := F4.2.2 _ _ _ (by omega) (by omega) R3
  have BB4 := BB3.trans F4.2.1
  have z4 : w4.heap.size = w.heap.size + 3 := F4.1.trans (by simp [z3])
  generalize hv : getV 6 r3 = v4
  have HB4 := Lib.hid (getR_bytes (n := 6) HB3.out)
  generalize hr4 : getR 6 r3 = r4 at S4 HB4
  generalize hs4 : getS 6 r3 s3 = s4 at S4
  have E4 := Lib.hid (And.intro hv (And.intro hr4 hs4))
  clear hv hr4 hs4 F4 S3 R3 BB3 HB3
  go_wp2_with fail
  refine (get_any 2 2 rfl (by omega) _ w.heap.size w.heap.size (w.heap.size + 1 + 1) r4 s4 S4 HB4.out).mono ?_
  rintro e w5 ⟨rfl, S5, F5⟩
  have R5 := F5.2.2 _ _ _ (by omega) (by omega) R4
  have BB5 := BB4.trans F5.2.1
  have z5 : w5.heap.size = w.heap.size + 3 := F5.1.trans (by simp [z4])
  generalize hv : getV 2 r4 = v5
  have HB5 := Lib.hid (getR_bytes (n := 2) HB4.out)
  generalize hr5 : getR 2 r4 = r5 at S5 HB5
  generalize hs5 : getS 2 r4 s4 = s5 at S5
  have E5 := Lib.hid (And.intro hv (And.intro hr5 hs5))
  clear hv hr5 hs5 F5 S4 R4 BB4 HB4
  go_wp2_with fail
  refine (get_any 8 8 rfl (by omega) _ w.heap.size w.heap.size (w.heap.size + 1 + 1) r5 s5 S5 HB5.out).mono ?_
  rintro e w6 ⟨rfl, S6, F6⟩
  have R6 := F6.2.2 _ _ _ (by omega) (by omega) R5
  have BB6 := BB5.trans F6.2.1
  have z6 : w6.heap.size = w.heap.size + 3 := F6.1.trans (by simp [z5])
  generalize hv : getV 8 r5 = v6
  have HB6 := Lib.hid (getR_bytes (n := 8) HB5.out)
  generalize hr6 : getR 8 r5 = r6 at S6 HB6
  generalize hs6 : getS 8 r5 s5 = s6 at S6
  have E6 := Lib.hid (And.intro hv (And.intro hr6 hs6))
  clear hv hr6 hs6 F6 S5 R5 BB5 HB5
  have q6 := S6.short.cell 0
  simp at q6
  have hv1 : 0 ≤ v1 ∧ v1 < 256 := by
    have := HV1.out
    rw [E1.out.1] at this
    simpa using this
  have hkd := and15 v1 hv1
  have hs6e : headS b = s6 := by
    unfold headS
    rw [E1.out.2.1, E1.out.2.2, E2.out.2.1, E2.out.2.2, E3.out.2.1, E3.out.2.2, E4.out.2.1, E4.out.2.2, E5.out.2.1, E5.out.2.2, E6.out.2.2]
  have HSE := Lib.hid hs6e
  clear hs6e
  by_cases hs6 : s6 = true
  · subst hs6
    go_wp2_with (refine wpList_store_blk rfl 28 (.tmp 2) (.tmp 27) rfl rfl (R6.alloc _) rfl rfl (by kernel_rfl) (by rw [← Array.all_toList]; rfl) ?_; intro w7 R7 z7 k7 b7 o7)
    have BB7 := (BB6.alloc BB6.size _).trans (b7 w.heap.size (by omega))
    clear k7 b7 o7 z7 S6 q6 R6
    refine dec_end rfl rfl rfl (show Blk w7 (w.heap.size + 1) 28 (mcells zeroM none 0 0) from R7) ?_
    exact dec_zero rfl BB7 (by unfold dec; rw [if_pos HSE.out])
  · have hs6' : s6 = false := by simpa using hs6
    subst hs6'
    clear hs6
    by_cases hf : v1 / 16 = 1
    · obtain ⟨k, hk⟩ : ∃ k, k = v1 % 16 := ⟨_, rfl⟩
      rw [← hk] at hkd
      have HK := Lib.hid hk
      clear hk
      have HD0 := fun m r s h => dec_of (b := b) (m := m) (r := r) (s := s) HSE.out (by rw [E1.out.1]; exact hf) h
      have HD := Lib.hid HD0
      clear HD0
      go_upto_block 0 with fail
      have HF := Lib.hid hf
      clear hf
      have W7 : Blk (w6.alloc (.cells (mcells ⟨k, v2, v3, v4, v5, v6, 0, 0, 0, 0, 0, 0, 0, 0, 0, []⟩ none 0 0) 28)) (w.heap.size + 3) 28 (mcells ⟨k, v2, v3, v4, v5, v6, 0, 0, 0, 0, 0, 0, 0, 0, 0, []⟩ none 0 0) := Blk.at_new _ _ _ z6.symm
      go_cut [8] (fun _ wx => ∃ (m : Mg) (A' : Option Addr) (n' c' : Nat) (r : List Int) (s : Bool), Blk wx (w.heap.size + 3) 28 (mcells m A' n' c') ∧ Blk wx (w.heap.size + 1) 28 (mcells zeroM none 0 0) ∧ GetSt wx w.heap.size w.heap.size (w.heap.size + 1 + 1) r s ∧ Below w.heap.size w wx ∧ m.path.length = n' ∧ n' ≤ 32 ∧ wx.ownsRow (w.heap.size + 4) 3 1 (.slice A' n' c') n' (vs m.path) ∧ w.heap.size + 4 ≤ wx.heap.size ∧ Hid (bodyG (headM_ b) (headR b) = .ok (m, r, s)))
      case first =>
        have S7 := S6.alloc (.cells (mcells ⟨k, v2, v3, v4, v5, v6, 0, 0, 0, 0, 0, 0, 0, 0, 0, []⟩ none 0 0) 28)
        have hhd : headM_ b = ⟨k, v2, v3, v4, v5, v6, 0, 0, 0, 0, 0, 0, 0, 0, 0, []⟩ ∧ headR b = r6 := by
          unfold headM_ headR
          rw [E1.out.2.1, E2.out.2.1, E3.out.2.1, E4.out.2.1, E5.out.2.1, E6.out.2.1, E1.out.1, E2.out.1, E3.out.1, E4.out.1, E5.out.1, E6.out.1, HK.out]
          exact ⟨rfl, rfl⟩
        have HHD := Lib.hid hhd
        have hbad : ∀ x, bodyG (headM_ b) (headR b) = .error x → dec b = (zeroM, x) := fun x h => by
          unfold dec
          rw [if_neg (by rw [HSE.out]; simp), if_neg (by rw [E1.out.1]; exact fun h => h HF.out), h]
        have HBAD := Lib.hid hbad
        clear hbad hhd E1 E2 E3 E4 E5 E6 HV1 hv1 HD HSE hkd hr HK S6 HF
        have hz7 : w.heap.size + 4 ≤ (w6.alloc (.cells (mcells ⟨k, v2, v3, v4, v5, v6, 0, 0, 0, 0, 0, 0, 0, 0, 0, []⟩ none 0 0) 28)).heap.size := by simp; omega
        have B7 := BB6.alloc BB6.size (.cells (mcells ⟨k, v2, v3, v4, v5, v6, 0, 0, 0, 0, 0, 0, 0, 0, 0, []⟩ none 0 0) 28)
        have R7 := R6.alloc (.cells (mcells ⟨k, v2, v3, v4, v5, v6, 0, 0, 0, 0, 0, 0, 0, 0, 0, []⟩ none 0 0) 28)
        by_cases k0 : k = 0
        · subst k0
          go_wp2_with fail
          go_meet
          exact ⟨_, none, 0, 0, r6, false, W7, R7, S7, B7, rfl, by omega, ownsRow_nil _ _ _ _, hz7, by rw [HHD.out.1, HHD.out.2]; unfold bodyG; rw [if_pos (.inl rfl)]; exact Lib.hid rfl⟩
        · by_cases k2 : k = 2
          · subst k2
            go_wp2_with fail
            go_meet
            exact ⟨_, none, 0, 0, r6, false, W7, R7, S7, B7, rfl, by omega, ownsRow_nil _ _ _ _, hz7, by rw [HHD.out.1, HHD.out.2]; unfold bodyG; rw [if_pos (.inr rfl)]; exact Lib.hid rfl⟩
          · by_cases hkn : k = 3 ∨ k = 10 ∨ k = 8 ∨ k = 11
            · by_cases k8 : k = 8
              · subst k8
                have S20 := S7
                have R20 := R7
                have BB20 := B7
                have M20 := W7
                have HB20 := HB6
                have z20 : (w6.alloc (.cells (mcells ⟨8, v2, v3, v4, v5, v6, 0, 0, 0, 0, 0, 0, 0, 0, 0, []⟩ none 0 0) 28)).heap.size = w.heap.size + 4 := by simp [z6]
                clear S7 R7 B7 W7 hz7 HBAD hkn k0 k2
                go_wp2_with fail
                refine (get_any 8 8 rfl (by omega) _ w.heap.size w.heap.size (w.heap.size + 1 + 1) r6 false S20 HB20.out).mono ?_
                rintro e w21 ⟨rfl, S21, F21⟩
                have R21 := F21.2.2 _ _ _ (by omega) (by omega) R20
                have BB21 := BB20.trans F21.2.1
                have z21 : w21.heap.size = w.heap.size + 4 := F21.1.trans (by simp [z20])
                have M21 := F21.2.2 _ _ _ (by omega) (by omega) M20
                generalize hv : getV 8 r6 = v21
                have HB21 := Lib.hid (getR_bytes (n := 8) HB20.out)
                generalize hr21 : getR 8 r6 = r21 at S21 HB21
                generalize hs21 : getS 8 r6 false = s21 at S21
                have E21 := Lib.hid (And.intro hv (And.intro hr21 hs21))
                clear hv hr21 hs21 F21 S20 R20 BB20 HB20 M20
                go_wp2_with fail
                refine (get_any 8 8 rfl (by omega) _ w.heap.size w.heap.size (w.heap.size + 1 + 1) r21 s21 S21 HB21.out).mono ?_
                rintro e w22 ⟨rfl, S22, F22⟩
                have R22 := F22.2.2 _ _ _ (by omega) (by omega) R21
                have BB22 := BB21.trans F22.2.1
                have z22 : w22.heap.size = w.heap.size + 4 := F22.1.trans (by simp [z21])
                have M22 := F22.2.2 _ _ _ (by omega) (by omega) M21
                generalize hv : getV 8 r21 = v22
                have HB22 := Lib.hid (getR_bytes (n := 8) HB21.out)
                generalize hr22 : getR 8 r21 = r22 at S22 HB22
                generalize hs22 : getS 8 r21 s21 = s22 at S22
                have E22 := Lib.hid (And.intro hv (And.intro hr22 hs22))
                clear hv hr22 hs22 F22 S21 R21 BB21 HB21 M21
                obtain ⟨y0, y1, y2, y3, y4, y5, y6, y7, y8, y9, y10, y11, y12, y13, y14, y15⟩ := mcells_at M22
                have fz := M22.frozen
                clear y0 y1 y2 y3 y4 y5 y7 y8 y10 y11 y12 y13 y14 y15
                go_wp2_with fail
                go_meet
                exact ⟨⟨8, v2, v3, v4, v5, v6, v21, 0, 0, v22, 0, 0, 0, 0, 0, []⟩, none, 0, 0, r22, s22, (M22.set_ 6 _).set_ 9 _, (R22.far (by simp) _).far (by simp) _, (S22.far (by omega) (by omega) (by omega) _ _).far (by omega) (by omega) (by omega) _ _, (BB22.setCell (by simp) _).setCell (by simp) _, rfl, by omega, ownsRow_nil _ _ _ _, by simp; omega, by rw [HHD.out.1, HHD.out.2]; unfold bodyG; rw [if_neg (by simp), if_neg (by simp), if_pos rfl, E21.out.2.1, E21.out.2.2, E21.out.1, E22.out.1, E22.out.2.1, E22.out.2.2]; exact Lib.hid rfl⟩
              · by_cases k3 : k = 3
                · subst k3
                  have S20 := S7
                  have R20 := R7
                  have BB20 := B7
                  have M20 := W7
                  have HB20 := HB6
                  have z20 : (w6.alloc (.cells (mcells ⟨3, v2, v3, v4, v5, v6, 0, 0, 0, 0, 0, 0, 0, 0, 0, []⟩ none 0 0) 28)).heap.size = w.heap.size + 4 := by simp [z6]
                  clear S7 R7 B7 W7 hz7 HBAD hkn k0 k2 k8
                  go_wp2_with fail
                  refine (get_any 8 8 rfl (by omega) _ w.heap.size w.heap.size (w.heap.size + 1 + 1) r6 false S20 HB20.out).mono ?_
                  rintro e w21 ⟨rfl, S21, F21⟩
                  have R21 := F21.2.2 _ _ _ (by omega) (by omega) R20
                  have BB21 := BB20.trans F21.2.1
                  have z21 : w21.heap.size = w.heap.size + 4 := F21.1.trans (by simp [z20])
                  have M21 := F21.2.2 _ _ _ (by omega) (by omega) M20
                  generalize hv : getV 8 r6 = v21
                  have HB21 := Lib.hid (getR_bytes (n := 8) HB20.out)
                  generalize hr21 : getR 8 r6 = r21 at S21 HB21
                  generalize hs21 : getS 8 r6 false = s21 at S21
                  have E21 := Lib.hid (And.intro hv (And.intro hr21 hs21))
                  clear hv hr21 hs21 F21 S20 R20 BB20 HB20 M20
                  go_wp2_with fail
                  refine (get_any 6 6 rfl (by omega) _ w.heap.size w.heap.size (w.heap.size + 1 + 1) r21 s21 S21 HB21.out).mono ?_
                  rintro e w22 ⟨rfl, S22, F22⟩
                  have R22 := F22.2.2 _ _ _ (by omega) (by omega) R21
                  have BB22 := BB21.trans F22.2.1
                  have z22 : w22.heap.size = w.heap.size + 4 := F22.1.trans (by simp [z21])
                  have M22 := F22.2.2 _ _ _ (by omega) (by omega) M21
                  generalize hv : getV 6 r21 = v22
                  have HB22 := Lib.hid (getR_bytes (n := 6) HB21.out)
                  generalize hr22 : getR 6 r21 = r22 at S22 HB22
                  generalize hs22 : getS 6 r21 s21 = s22 at S22
                  have E22 := Lib.hid (And.intro hv (And.intro hr22 hs22))
                  clear hv hr22 hs22 F22 S21 R21 BB21 HB21 M21
                  go_wp2_with fail
                  refine (get_any 2 2 rfl (by omega) _ w.heap.size w.heap.size (w.heap.size + 1 + 1) r22 s22 S22 HB22.out).mono ?_
                  rintro e w23 ⟨rfl, S23, F23⟩
                  have R23 := F23.2.2 _ _ _ (by omega) (by omega) R22
                  have BB23 := BB22.trans F23.2.1
                  have z23 : w23.heap.size = w.heap.size + 4 := F23.1.trans (by simp [z22])
                  have M23 := F23.2.2 _ _ _ (by omega) (by omega) M22
                  generalize hv : getV 2 r22 = v23
                  have HB23 := Lib.hid (getR_bytes (n := 2) HB22.out)
                  generalize hr23 : getR 2 r22 = r23 at S23 HB23
                  generalize hs23 : getS 2 r22 s22 = s23 at S23
                  have E23 := Lib.hid (And.intro hv (And.intro hr23 hs23))
                  clear hv hr23 hs23 F23 S22 R22 BB22 HB22 M22
                  obtain ⟨y0, y1, y2, y3, y4, y5, y6, y7, y8, y9, y10, y11, y12, y13, y14, y15⟩ := mcells_at M23
                  have fz := M23.frozen
                  clear y0 y1 y2 y3 y4 y5 y9 y10 y11 y12 y13 y14 y15
                  go_wp2_with fail
                  go_meet
                  exact ⟨⟨3, v2, v3, v4, v5, v6, v21, v22, v23, 0, 0, 0, 0, 0, 0, []⟩, none, 0, 0, r23, s23, ((M23.set_ 6 _).set_ 7 _).set_ 8 _, ((R23.far (by simp) _).far (by simp) _).far (by simp) _, ((S23.far (by omega) (by omega) (by omega) _ _).far (by omega) (by omega) (by omega) _ _).far (by omega) (by omega) (by omega) _ _, ((BB23.setCell (by simp) _).setCell (by simp) _).setCell (by simp) _, rfl, by omega, ownsRow_nil _ _ _ _, by simp; omega, by rw [HHD.out.1, HHD.out.2]; unfold bodyG; rw [if_neg (by simp), if_pos (by simp), E21.out.2.1, E21.out.2.2, E21.out.1, E22.out.1, E22.out.2.1, E22.out.2.2, E23.out.1, E23.out.2.1, E23.out.2.2]; exact Lib.hid rfl⟩
                · by_cases k10 : k = 10
                  · subst k10
                    have S20 := S7
                    have R20 := R7
                    have BB20 := B7
                    have M20 := W7
                    have HB20 := HB6
                    have z20 : (w6.alloc (.cells (mcells ⟨10, v2, v3, v4, v5, v6, 0, 0, 0, 0, 0, 0, 0, 0, 0, []⟩ none 0 0) 28)).heap.size = w.heap.size + 4 := by simp [z6]
                    clear S7 R7 B7 W7 hz7 HBAD hkn k0 k2 k8 k3
                    go_wp2_with fail
                    refine (get_any 8 8 rfl (by omega) _ w.heap.size w.heap.size (w.heap.size + 1 + 1) r6 false S20 HB20.out).mono ?_
                    rintro e w21 ⟨rfl, S21, F21⟩
                    have R21 := F21.2.2 _ _ _ (by omega) (by omega) R20
                    have BB21 := BB20.trans F21.2.1
                    have z21 : w21.heap.size = w.heap.size + 4 := F21.1.trans (by simp [z20])
                    have M21 := F21.2.2 _ _ _ (by omega) (by omega) M20
                    generalize hv : getV 8 r6 = v21
                    have HB21 := Lib.hid (getR_bytes (n := 8) HB20.out)
                    generalize hr21 : getR 8 r6 = r21 at S21 HB21
                    generalize hs21 : getS 8 r6 false = s21 at S21
                    have E21 := Lib.hid (And.intro hv (And.intro hr21 hs21))
                    clear hv hr21 hs21 F21 S20 R20 BB20 HB20 M20
                    go_wp2_with fail
                    refine (get_any 6 6 rfl (by omega) _ w.heap.size w.heap.size (w.heap.size + 1 + 1) r21 s21 S21 HB21.out).mono ?_
                    rintro e w22 ⟨rfl, S22, F22⟩
                    have R22 := F22.2.2 _ _ _ (by omega) (by omega) R21
                    have BB22 := BB21.trans F22.2.1
                    have z22 : w22.heap.size = w.heap.size + 4 := F22.1.trans (by simp [z21])
                    have M22 := F22.2.2 _ _ _ (by omega) (by omega) M21
                    generalize hv : getV 6 r21 = v22
                    have HB22 := Lib.hid (getR_bytes (n := 6) HB21.out)
                    generalize hr22 : getR 6 r21 = r22 at S22 HB22
                    generalize hs22 : getS 6 r21 s21 = s22 at S22
                    have E22 := Lib.hid (And.intro hv (And.intro hr22 hs22))
                    clear hv hr22 hs22 F22 S21 R21 BB21 HB21 M21
                    go_wp2_with fail
                    refine (get_any 2 2 rfl (by omega) _ w.heap.size w.heap.size (w.heap.size + 1 + 1) r22 s22 S22 HB22.out).mono ?_
                    rintro e w23 ⟨rfl, S23, F23⟩
                    have R23 := F23.2.2 _ _ _ (by omega) (by omega) R22
                    have BB23 := BB22.trans F23.2.1
                    have z23 : w23.heap.size = w.heap.size + 4 := F23.1.trans (by simp [z22])
                    have M23 := F23.2.2 _ _ _ (by omega) (by omega) M22
                    generalize hv : getV 2 r22 = v23
                    have HB23 := Lib.hid (getR_bytes (n := 2) HB22.out)
                    generalize hr23 : getR 2 r22 = r23 at S23 HB23
                    generalize hs23 : getS 2 r22 s22 = s23 at S23
                    have E23 := Lib.hid (And.intro hv (And.intro hr23 hs23))
                    clear hv hr23 hs23 F23 S22 R22 BB22 HB22 M22
                    obtain ⟨y0, y1, y2, y3, y4, y5, y6, y7, y8, y9, y10, y11, y12, y13, y14, y15⟩ := mcells_at M23
                    have fz := M23.frozen
                    clear y0 y1 y2 y3 y4 y5 y9 y10 y11 y12 y13 y14 y15
                    go_wp2_with fail
                    go_meet
                    exact ⟨⟨10, v2, v3, v4, v5, v6, v21, v22, v23, 0, 0, 0, 0, 0, 0, []⟩, none, 0, 0, r23, s23, ((M23.set_ 6 _).set_ 7 _).set_ 8 _, ((R23.far (by simp) _).far (by simp) _).far (by simp) _, ((S23.far (by omega) (by omega) (by omega) _ _).far (by omega) (by omega) (by omega) _ _).far (by omega) (by omega) (by omega) _ _, ((BB23.setCell (by simp) _).setCell (by simp) _).setCell (by simp) _, rfl, by omega, ownsRow_nil _ _ _ _, by simp; omega, by rw [HHD.out.1, HHD.out.2]; unfold bodyG; rw [if_neg (by simp), if_pos (by simp), E21.out.2.1, E21.out.2.2, E21.out.1, E22.out.1, E22.out.2.1, E22.out.2.2, E23.out.1, E23.out.2.1, E23.out.2.2]; exact Lib.hid rfl⟩
                  · have k11 : k = 11 := by omega
                    subst k11
                    have S20 := S7
                    have R20 := R7
                    have BB20 := B7
                    have M20 := W7
                    have HB20 := HB6
                    have z20 : (w6.alloc (.cells (mcells ⟨11, v2, v3, v4, v5, v6, 0, 0, 0, 0, 0, 0, 0, 0, 0, []⟩ none 0 0) 28)).heap.size = w.heap.size + 4 := by simp [z6]
                    clear S7 R7 B7 W7 hz7 hkn k0 k2 k8 k3 k10
                    go_wp2_with fail
                    refine (get_any 1 1 rfl (by omega) _ w.heap.size w.heap.size (w.heap.size + 1 + 1) r6 false S20 HB20.out).mono ?_
                    rintro e w21 ⟨rfl, S21, F21⟩
                    have R21 := F21.2.2 _ _ _ (by omega) (by omega) R20
                    have BB21 := BB20.trans F21.2.1
                    have z21 : w21.heap.size = w.heap.size + 4 := F21.1.trans (by simp [z20])
                    have M21 := F21.2.2 _ _ _ (by omega) (by omega) M20
                    generalize hv : getV 1 r6 = v21
                    have HB21 := Lib.hid (getR_bytes (n := 1) HB20.out)
                    generalize hr21 : getR 1 r6 = r21 at S21 HB21
                    generalize hs21 : getS 1 r6 false = s21 at S21
                    have E21 := Lib.hid (And.intro hv (And.intro hr21 hs21))
                    clear hv hr21 hs21 F21 S20 R20 BB20 HB20 M20
                    go_wp2_with fail
                    refine (get_any 1 1 rfl (by omega) _ w.heap.size w.heap.size (w.heap.size + 1 + 1) r21 s21 S21 HB21.out).mono ?_
                    rintro e w22 ⟨rfl, S22, F22⟩
                    have R22 := F22.2.2 _ _ _ (by omega) (by omega) R21
                    have BB22 := BB21.trans F22.2.1
                    have z22 : w22.heap.size = w.heap.size + 4 := F22.1.trans (by simp [z21])
                    have M22 := F22.2.2 _ _ _ (by omega) (by omega) M21
                    generalize hv : getV 1 r21 = v22
                    have HB22 := Lib.hid (getR_bytes (n := 1) HB21.out)
                    generalize hr22 : getR 1 r21 = r22 at S22 HB22
                    generalize hs22 : getS 1 r21 s21 = s22 at S22
                    have E22 := Lib.hid (And.intro hv (And.intro hr22 hs22))
                    clear hv hr22 hs22 F22 S21 R21 BB21 HB21 M21
                    go_wp2_with fail
                    refine (get_any 1 1 rfl (by omega) _ w.heap.size w.heap.size (w.heap.size + 1 + 1) r22 s22 S22 HB22.out).mono ?_
                    rintro e w23 ⟨rfl, S23, F23⟩
                    have R23 := F23.2.2 _ _ _ (by omega) (by omega) R22
                    have BB23 := BB22.trans F23.2.1
                    have z23 : w23.heap.size = w.heap.size + 4 := F23.1.trans (by simp [z22])
                    have M23 := F23.2.2 _ _ _ (by omega) (by omega) M22
                    generalize hv : getV 1 r22 = v23
                    have HB23 := Lib.hid (getR_bytes (n := 1) HB22.out)
                    generalize hr23 : getR 1 r22 = r23 at S23 HB23
                    generalize hs23 : getS 1 r22 s22 = s23 at S23
                    have E23 := Lib.hid (And.intro hv (And.intro hr23 hs23))
                    clear hv hr23 hs23 F23 S22 R22 BB22 HB22 M22
                    go_wp2_with fail
                    refine (get_any 6 6 rfl (by omega) _ w.heap.size w.heap.size (w.heap.size + 1 + 1) r23 s23 S23 HB23.out).mono ?_
                    rintro e w24 ⟨rfl, S24, F24⟩
                    have R24 := F24.2.2 _ _ _ (by omega) (by omega) R23
                    have BB24 := BB23.trans F24.2.1
                    have z24 : w24.heap.size = w.heap.size + 4 := F24.1.trans (by simp [z23])
                    have M24 := F24.2.2 _ _ _ (by omega) (by omega) M23
                    generalize hv : getV 6 r23 = v24
                    have HB24 := Lib.hid (getR_bytes (n := 6) HB23.out)
                    generalize hr24 : getR 6 r23 = r24 at S24 HB24
                    generalize hs24 : getS 6 r23 s23 = s24 at S24
                    have E24 := Lib.hid (And.intro hv (And.intro hr24 hs24))
                    clear hv hr24 hs24 F24 S23 R23 BB23 HB23 M23
                    go_wp2_with (refine wpList_store_part rfl 25 (.tmp 69) (.tmp 68) rfl rfl M24 rfl (show 10 + 4 ≤ 16 by omega) (by kernel_rfl) (by rw [← Array.all_toList]; rfl) ?_; intro wp1 M24 zp1 gp1)
                    have M24 : Blk wp1 (w.heap.size + 3) 28 (mcells ⟨11, v2, v3, v4, v5, v6, 0, 0, 0, 0, v21, v22, v23, v24, 0, []⟩ none 0 0) := M24
                    have S24 := S24.gr gp1 (by omega) (by omega) (by omega)
                    have R24 := R24.keep gp1 (by omega)
                    have BB24 := BB24.trans (below_one gp1 BB24.size (by omega))
                    have z24 : wp1.heap.size = w.heap.size + 4 := by omega
                    clear zp1 gp1
                    refine (get_any 1 1 rfl (by omega) _ w.heap.size w.heap.size (w.heap.size + 1 + 1) r24 s24 S24 HB24.out).mono ?_
                    rintro e w25 ⟨rfl, S25, F25⟩
                    have R25 := F25.2.2 _ _ _ (by omega) (by omega) R24
                    have BB25 := BB24.trans F25.2.1
                    have z25 : w25.heap.size = w.heap.size + 4 := F25.1.trans (by simp [z24])
                    have M25 := F25.2.2 _ _ _ (by omega) (by omega) M24
                    generalize hv : getV 1 r24 = v25
                    have HB25 := Lib.hid (getR_bytes (n := 1) HB24.out)
                    generalize hr25 : getR 1 r24 = r25 at S25 HB25
                    generalize hs25 : getS 1 r24 s24 = s25 at S25
                    have E25 := Lib.hid (And.intro hv (And.intro hr25 hs25))
                    clear hv hr25 hs25 F25 S24 R24 BB24 HB24 M24
                    obtain ⟨y0, y1, y2, y3, y4, y5, y6, y7, y8, y9, y10, y11, y12, y13, y14, y15⟩ := mcells_at M25
                    have fz := M25.frozen
                    clear y0 y1 y2 y3 y4 y5 y6 y7 y8 y9 y10 y11 y12 y13 y15
                    go_wp2_with fail
                    clear y14 fz
                    have M25 : Blk (w25.setCell ⟨w.heap.size + 3, 14, none⟩ (.int .i64 v25)) (w.heap.size + 3) 28 (mcells ⟨11, v2, v3, v4, v5, v6, 0, 0, 0, 0, v21, v22, v23, v24, v25, []⟩ none 0 0) := M25.set_ 14 _
                    have S25 := S25.far (g := w.heap.size + 3) (by omega) (by omega) (by omega) 14 (.int .i64 v25)
                    have R25 := R25.far (p := ⟨w.heap.size + 3, 14, none⟩) (by simp) (.int .i64 v25)
                    have BB25 := BB25.setCell (p := ⟨w.heap.size + 3, 14, none⟩) (by simp) (.int .i64 v25)
                    have z25 : (w25.setCell ⟨w.heap.size + 3, 14, none⟩ (.int .i64 v25)).heap.size = w.heap.size + 4 := by simpa using z25
                    have HV26 := Lib.hid (getV_small (n := 1) (by omega) HB25.out)
                    refine (get_any 1 1 rfl (by omega) _ w.heap.size w.heap.size (w.heap.size + 1 + 1) r25 s25 S25 HB25.out).mono ?_
                    rintro e w26 ⟨rfl, S26, F26⟩
                    have R26 := F26.2.2 _ _ _ (by omega) (by omega) R25
                    have BB26 := BB25.trans F26.2.1
                    have z26 : w26.heap.size = w.heap.size + 4 := F26.1.trans (by simp [z25])
                    have M26 := F26.2.2 _ _ _ (by omega) (by omega) M25
                    generalize hv : getV 1 r25 = v26
                    have HB26 := Lib.hid (getR_bytes (n := 1) HB25.out)
                    generalize hr26 : getR 1 r25 = r26 at S26 HB26
                    generalize hs26 : getS 1 r25 s25 = s26 at S26
                    have E26 := Lib.hid (And.intro hv (And.intro hr26 hs26))
                    clear hv hr26 hs26 F26 S25 R25 BB25 HB25 M25
                    have hv26 : 0 ≤ v26 ∧ v26 < 256 := by
                      have := HV26.out
                      rw [E26.out.1] at this
                      simpa using this
                    clear HV26
                    obtain ⟨N, rfl⟩ : ∃ N : Nat, v26 = N := ⟨v26.toNat, by omega⟩
                    by_cases hn : 32 < (N : Int)
                    · have HU := Lib.hid (HBAD.out 4 (by rw [HHD.out.1, HHD.out.2]; unfold bodyG; rw [if_neg (by simp), if_neg (by simp), if_neg (by simp), if_pos rfl]; simp only; rw [E21.out.2.1, E22.out.2.1, E23.out.2.1, E24.out.2.1, E25.out.2.1, E26.out.1, if_pos hn]))
                      clear HBAD HHD hv26
                      go_wp2_with (refine wpList_store_blk rfl 28 (.tmp 2) (.tmp 77) rfl rfl R26 rfl rfl (by kernel_rfl) (by rw [← Array.all_toList]; rfl) ?_; intro w11 R11 z11 k11 b11 o11)
                      have BB11 := BB26.trans (b11 w.heap.size (by omega))
                      refine dec_end rfl rfl rfl (show Blk w11 (w.heap.size + 1) 28 (mcells zeroM none 0 0) from R11) ?_
                      exact dec_zero rfl BB11 HU.out
                    · obtain ⟨P0, hP0⟩ : ∃ P0 : List Int × List Int × Bool, P0 = if s26 = true then ([], r26, true) else pathG N r26 := ⟨_, rfl⟩
                      have hbody : ∀ p r s, P0 = (p, r, s) → bodyG (headM_ b) (headR b) = .ok (⟨11, v2, v3, v4, v5, v6, 0, 0, 0, 0, v21, v22, v23, v24, v25, p⟩, r, s) := by
                        intro p r s hp
                        rw [HHD.out.1, HHD.out.2]
                        unfold bodyG
                        rw [if_neg (by simp), if_neg (by simp), if_neg (by simp), if_pos rfl]
                        simp only
                        rw [E21.out.2.1, E21.out.2.2, E21.out.1, E22.out.2.1, E22.out.2.2, E22.out.1, E23.out.2.1, E23.out.2.2, E23.out.1, E24.out.2.1, E24.out.2.2, E24.out.1, E25.out.2.1, E25.out.2.2, E25.out.1, E26.out.2.1, E26.out.2.2, E26.out.1, if_neg hn, Int.toNat_natCast, ← hP0, hp]
                      have HBODY := Lib.hid hbody
                      have HP0 := Lib.hid hP0
                      have hN : N ≤ 32 := by omega
                      clear hbody hP0 E21 E22 E23 E24 E25 E26 HBAD HHD hv26 hn
                      go_wp2_with fail
                      go_loopw [9] (fun i wr => ∃ (k : Nat) (A' : Option Addr) (c' : Nat) (p r : List Int) (s : Bool), k ≤ N ∧ i = .int .i64 k ∧ p.length = k ∧ Blk wr (w.heap.size + 3) 28 (mcells ⟨11, v2, v3, v4, v5, v6, 0, 0, 0, 0, v21, v22, v23, v24, v25, p⟩ A' k c') ∧ wr.ownsRow (w.heap.size + 4) 3 1 (.slice A' k c') k (vs p) ∧ GetSt wr w.heap.size w.heap.size (w.heap.size + 1 + 1) r s ∧ Blk wr (w.heap.size + 1) 28 (mcells zeroM none 0 0) ∧ Below w.heap.size w wr ∧ w.heap.size + 4 ≤ wr.heap.size ∧ Hid (Bytes r) ∧ Hid (P0 = if s = true then (p, r, true) else (p ++ (pathG (N - k) r).1, (pathG (N - k) r).2))) (fun i _ => N - (intOf i).toNat)
                      case atStart => exact ⟨0, none, 0, [], r26, s26, Nat.zero_le _, rfl, rfl, M26, ownsRow_nil _ _ _ _, S26, R26, BB26, by omega, HB26, by rw [HP0.out]; exact Lib.hid rfl⟩
                      case round =>
                        clear M26 S26 R26 BB26 HB26 z26 HP0
                        obtain ⟨k, A', c', p, r, s, hk, rfl, hp, M, O, S, R, BB, hz, HBr, HP⟩ := hrel
                        have q := S.short.cell 0
                        simp at q
                        have HPL := Lib.hid hp
                        clear hp
                        by_cases hlt : k < N
                        · cases s with
                          | true =>
                            go_wp2_with fail
                            go_meet
                            have e := HP.out
                            simp only [if_true] at e
                            exact ⟨⟨11, v2, v3, v4, v5, v6, 0, 0, 0, 0, v21, v22, v23, v24, v25, p⟩, A', k, c', r, true, M, R, S, BB, HPL.out, by omega, O, hz, Lib.hid (HBODY.out _ _ _ e)⟩
                          | false =>
                            go_wp2_with fail
                            refine wp_region_scriptK 7 [(0, true), (1, true), (2, true), (3, false), (4, false), (5, false), (6, true)] [(0, true), (1, true), (2, true), (3, false), (4, false), (5, false), (6, true), (7, false)] rfl (fun w' => Blk w' (w.heap.size + 3) 28 (mcells ⟨11, v2, v3, v4, v5, v6, 0, 0, 0, 0, v21, v22, v23, v24, v25, p⟩ A' k c')) (by kernel_rfl) (by kernel_rfl) (fun _ _ _ _ _ h => h) M.drew ?_
                            have hlb : ∀ g, (Value.slice A' k c').ownBlock = some g → w.heap.size + 4 ≤ g := fun g hg => (ownsRow_lt O g hg).1
                            have Od : wr.drew.ownsRow (w.heap.size + 4) 3 1 (.slice A' k c') k (vs p) := O
                            (refine scriptK_take (v := ?_) rfl ?_ ?_ ?_; rotate_left; (first | rfl | (go_simp; done)); (intro w' hw'; have hcq := fun i => Blk.cell hw' i; (try simp only [mcells] at hcq); (try simp only [ckc] at hcq); go_simp; with_reducible rfl); simp only [Act.put, List.setIfInBounds_toArray, List.set_cons_zero, List.set_cons_succ])
                            (refine scriptK_take (v := ?_) rfl ?_ ?_ ?_; rotate_left; (first | rfl | (go_simp; done)); (intro w' hw'; have hcq := fun i => Blk.cell hw' i; (try simp only [mcells] at hcq); (try simp only [ckc] at hcq); go_simp; with_reducible rfl); simp only [Act.put, List.setIfInBounds_toArray, List.set_cons_zero, List.set_cons_succ])
                            (refine scriptK_take (v := ?_) rfl ?_ ?_ ?_; rotate_left; (first | rfl | (go_simp; done)); (intro w' hw'; have hcq := fun i => Blk.cell hw' i; (try simp only [mcells] at hcq); (try simp only [ckc] at hcq); go_simp; with_reducible rfl); simp only [Act.put, List.setIfInBounds_toArray, List.set_cons_zero, List.set_cons_succ])
                            (refine scriptK_call 23 ?_ rfl ?_ ?_ ?_; rotate_left; (first | rfl | (go_simp; done)); (go_simp; with_reducible rfl))
                            refine (get_any 6 6 rfl (by omega) _ w.heap.size w.heap.size (w.heap.size + 1 + 1) r false S.drew HBr.out).mono ?_
                            rintro e wc ⟨rfl, Sc, Fc⟩
                            have Mc := Fc.2.2 _ _ _ (by omega) (by omega) M.drew
                            have Rc := Fc.2.2 _ _ _ (by omega) (by omega) R.drew
                            have Oc := own_far Fc Od (by omega) (by omega)
                            have BBc := BB.drew.trans Fc.2.1
                            have zc : w.heap.size + 4 ≤ wc.heap.size := by rw [Fc.1]; exact hz
                            refine ⟨_, rfl, fun _ => Mc, ?_⟩
                            simp only [Act.put, List.setIfInBounds_toArray, List.set_cons_zero, List.set_cons_succ]
                            (refine scriptK_run (v := ?_) (w' := ?_) rfl ?_ ?_ ?_ ?_; rotate_left 2; (first | rfl | (go_simp; done)); (go_simp; refine ⟨?_, ?_⟩ <;> with_reducible rfl); (exact fun _ => (Mc.alloc _)); simp only [Act.put, List.setIfInBounds_toArray, List.set_cons_zero, List.set_cons_succ])
                            refine scriptK_pushes 1 rfl rfl (.tmp 88) (.tmp 91) 26 rfl styI (cs := #[.int .i64 (getV 6 r)]) rfl (by intro u hu; simp at hu; subst hu; rfl) rfl Oc rfl rfl (by omega) (by omega) ?_
                            intro v8 w8 O8 G8 _
                            obtain ⟨A2, c2, rfl, _, _⟩ := ownsRow_reads O8
                            have M8 := Mc.grown G8 (fun h => by have := hlb _ h.symm; omega)
                            have S8 := Sc.grown G8 (fun g hg => by have := hlb _ hg; omega)
                            have R8 := Rc.grown G8 (fun h => by have := hlb _ h.symm; omega)
                            have BB8 := BBc.grown G8 BBc.size (fun g hg => by have := hlb _ hg; omega)
                            have z8 : w.heap.size + 4 ≤ w8.heap.size := Nat.le_trans zc G8.size
                            have y15 := M8.cellOf 15 rfl
                            have fz := M8.frozen
                            refine ⟨fun _ => M8, ?_⟩
                            simp only [Act.put, List.setIfInBounds_toArray, List.set_cons_zero, List.set_cons_succ]
                            (refine scriptK_take (v := ?_) rfl ?_ ?_ ?_; rotate_left; (first | rfl | (go_simp; done)); (intro w' hw'; have hcq := fun i => Blk.cell hw' i; (try simp only [mcells] at hcq); (try simp only [ckc] at hcq); go_simp; with_reducible rfl); simp only [Act.put, List.setIfInBounds_toArray, List.set_cons_zero, List.set_cons_succ])
                            (refine scriptK_run0 (w' := ?_) rfl ?_ ?_ ?_ ?_; rotate_left; (first | rfl | (go_simp; done)); (go_simp; with_reducible rfl); (exact fun h => absurd rfl h); simp only [Act.put, List.setIfInBounds_toArray, List.set_cons_zero, List.set_cons_succ])
                            refine scriptK_nil ?_
                            have HPN := Lib.hid (path_step hlt (by have e := HP.out; simpa using e))
                            clear y15 fz Mc Rc Sc Oc BBc zc Fc M S R O Od BB hz HP q
                            go_wp2_with fail
                            go_roundw
                            case rel =>
                              refine ⟨k + 1, A2, c2, p ++ [getV 6 r], getR 6 r, getS 6 r false, by omega, by go_num, by rw [List.length_append, HPL.out]; rfl, M8.set_ 15 _, ownsRow_setCell_below (by rw [show vs (p ++ [getV 6 r]) = vs p ++ [.int .i64 (getV 6 r)] from by simp [vs]]; exact O8) (by show w.heap.size + 3 < w.heap.size + 4; omega) _, S8.far (by omega) (by omega) (by omega) _ _, R8.far (by simp) _, BB8.setCell (by simp) _, by simpa using z8, Lib.hid (getR_bytes HBr.out), HPN⟩
                            case measure => simp [intOf]; omega
                        · obtain rfl : N = k := by omega
                          cases s with
                          | true =>
                            go_wp2_with fail
                            go_meet
                            have e := HP.out
                            simp only [if_true] at e
                            exact ⟨⟨11, v2, v3, v4, v5, v6, 0, 0, 0, 0, v21, v22, v23, v24, v25, p⟩, A', N, c', r, true, M, R, S, BB, HPL.out, by omega, O, hz, Lib.hid (HBODY.out _ _ _ e)⟩
                          | false =>
                            go_wp2_with fail
                            go_meet
                            have e := HP.out
                            simp [pathG] at e
                            exact ⟨⟨11, v2, v3, v4, v5, v6, 0, 0, 0, 0, v21, v22, v23, v24, v25, p⟩, A', N, c', r, false, M, R, S, BB, HPL.out, by omega, O, hz, Lib.hid (HBODY.out _ _ _ e)⟩
            · have n3 : ¬ k = 3 := fun h => hkn (.inl h)
              have n10 : ¬ k = 10 := fun h => hkn (.inr (.inl h))
              have n8 : ¬ k = 8 := fun h => hkn (.inr (.inr (.inl h)))
              have n11 : ¬ k = 11 := fun h => hkn (.inr (.inr (.inr h)))
              have HU := Lib.hid (HBAD.out 23 (by rw [HHD.out.1]; unfold bodyG; rw [if_neg (by simp [k0, k2]), if_neg (by simp [n3, n10]), if_neg n8, if_neg n11]))
              have m0 : (k == 0) = false := beq_eq_false_iff_ne.2 k0
              have m2 : (k == 2) = false := beq_eq_false_iff_ne.2 k2
              have m3 : (k == 3) = false := beq_eq_false_iff_ne.2 n3
              have m10 : (k == 10) = false := beq_eq_false_iff_ne.2 n10
              have m8 : (k == 8) = false := beq_eq_false_iff_ne.2 n8
              have m11 : (k == 11) = false := beq_eq_false_iff_ne.2 n11
              clear hkn HBAD HHD
              go_wp2_with (refine wpList_store_blk rfl 28 (.tmp 2) (.tmp 34) rfl rfl R7 rfl rfl (by kernel_rfl) (by rw [← Array.all_toList]; rfl) ?_; intro w11 R11 z11 k11 b11 o11)
              have BB11 := B7.trans (b11 w.heap.size (by omega))
              refine dec_end rfl rfl rfl (show Blk w11 (w.heap.size + 1) 28 (mcells zeroM none 0 0) from R11) ?_
              exact dec_zero rfl BB11 HU.out
      case rest =>
        clear W7 S6 R6 BB6 q6 HV1 E1 E2 E3 E4 E5 E6 hv1 hkd HK HB6 HSE HF
        obtain ⟨m, A', n', c', r, s, M8, R8, S8, BB8, hl8, hn8, O8, z8, HG⟩ := hcut
        have hd := HD.out m r s HG.out
        obtain ⟨⟨A9, l9, c9, h91, h92, h93, B9, hr9⟩, C9, hx1, hx2, hx3⟩ := S8
        have q1 := B9.cell 0
        have q2 := C9.cell 0
        simp at q1 q2
        clear hr9 h91 h92 HD
        cases s with
        | true =>
          rw [if_pos rfl] at hd
          have HE := Lib.hid hd
          clear hd
          go_wp2_with (refine wpList_store_blk rfl 28 (.tmp 2) (.tmp 96) rfl rfl R8 rfl rfl (by kernel_rfl) (by rw [← Array.all_toList]; rfl) ?_; intro w11 R11 z11 k11 b11 o11)
          have BB11 := BB8.trans (b11 w.heap.size (by omega))
          refine dec_end rfl rfl rfl (show Blk w11 (w.heap.size + 1) 28 (mcells zeroM none 0 0) from R11) ?_
          exact dec_zero rfl BB11 HE.out
        | false =>
          rw [if_neg (by simp)] at hd
          by_cases hl0 : 0 < l9
          · rw [if_pos (by omega)] at hd
            have HE := Lib.hid hd
            have hi0 : (0 : Int) < l9 := by omega
            clear hd
            go_wp2_with (refine wpList_store_blk rfl 28 (.tmp 2) (.tmp 101) rfl rfl R8 rfl rfl (by kernel_rfl) (by rw [← Array.all_toList]; rfl) ?_; intro w11 R11 z11 k11 b11 o11)
            have BB11 := BB8.trans (b11 w.heap.size (by omega))
            refine dec_end rfl rfl rfl (show Blk w11 (w.heap.size + 1) 28 (mcells zeroM none 0 0) from R11) ?_
            exact dec_zero rfl BB11 HE.out
          · rw [if_neg (by omega)] at hd
            have hi0 : ¬ (0 : Int) < l9 := by omega
            have hi1 : (l9 : Int) ≤ 0 := by omega
            obtain ⟨A2, c2, he2, _, hR8⟩ := ownsRow_reads O8
            injection he2 with he2 _ he3
            subst he2 he3
            go_wp2_with (refine wpList_load_row_g (by first | rfl | (go_simp; done)) 28 (.tmp 7) rfl (w.heap.size + 3) rfl 28 (mcells m A' n' c') (0, 0) _ M8 Try.underlying28 rfl (by kernel_rfl) ?_)
            refine (check_any m A' n' c' _ hR8 hl8 (by unfold maxLen; omega)).mono ?_
            rintro e w10 ⟨rfl, hb10⟩
            have R10 := R8.below hb10 R8.lt
            have M10 := M8.below hb10 M8.lt
            have O10 := ownsRow_keep O8 hb10
            have BB10 := BB8.trans (hb10.mono BB8.size)
            clear R8 M8 O8 BB8 B9 C9 q1 q2 hb10 hR8
            by_cases hk0 : checkV m = 0
            · rw [if_neg (by simp [hk0])] at hd
              have HE := Lib.hid hd
              rw [hk0]
              clear hd hk0
              go_wp2_with (first | (refine wpList_load_row_g (by first | rfl | (go_simp; done)) 28 (.tmp 7) rfl (w.heap.size + 3) rfl 28 (mcells m A' n' c') (0, 0) _ M10 Try.underlying28 rfl (by kernel_rfl) ?_) | (refine wpList_store_blk rfl 28 (.tmp 2) (.tmp 107) rfl rfl R10 rfl rfl (by kernel_rfl) (by rw [← Array.all_toList]; rfl) ?_; intro w11 R11 z11 k11 b11 o11))
              have BB11 := BB10.trans (b11 w.heap.size (by omega))
              have O11 := o11 _ _ _ _ _ _ (fun h => by have := (ownsRow_lt O10 _ h).1; omega) O10
              obtain ⟨A2, c2, he2, _, hR11⟩ := ownsRow_reads O11
              injection he2 with he2 _ he3
              subst he2 he3
              refine dec_end rfl rfl rfl R11 ?_
              exact ⟨m, A', n', c', 0, rfl, hl8, hn8, hR11, BB11, HE.out⟩
            · rw [if_pos hk0] at hd
              have HE := Lib.hid hd
              have hk1 : (checkV m != 0) = true := by simp [hk0]
              clear hd
              go_wp2_with (refine wpList_store_blk rfl 28 (.tmp 2) (.tmp 106) rfl rfl R10 rfl rfl (by kernel_rfl) (by rw [← Array.all_toList]; rfl) ?_; intro w11 R11 z11 k11 b11 o11)
              have BB11 := BB10.trans (b11 w.heap.size (by omega))
              refine dec_end rfl rfl rfl (show Blk w11 (w.heap.size + 1) 28 (mcells zeroM none 0 0) from R11) ?_
              exact dec_zero rfl BB11 HE.out
    · have hf2 : (v1 / 16 != 1) = true := by simp [hf]
      have HNF := Lib.hid hf
      go_wp2_with (refine wpList_store_blk rfl 28 (.tmp 2) (.tmp 31) rfl rfl (R6.alloc _) rfl rfl (by kernel_rfl) (by rw [← Array.all_toList]; rfl) ?_; intro w7 R7 z7 k7 b7 o7)
      have BB7 := (BB6.alloc BB6.size _).trans (b7 w.heap.size (by omega))
      clear k7 b7 o7 z7 S6 q6 R6
      refine dec_end rfl rfl rfl (show Blk w7 (w.heap.size + 1) 28 (mcells zeroM none 0 0) from R7) ?_
      exact dec_zero rfl BB7 (by unfold dec; rw [if_neg (by rw [HSE.out]; simp), if_pos (by rw [E1.out.1]; exact HNF.out)])
end Go.Proofs.Ytlhaloabophliaa
