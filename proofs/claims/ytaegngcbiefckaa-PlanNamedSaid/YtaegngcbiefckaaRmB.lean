/-
  The reference sees whether spans meet.
-/
import Derived.Test.YtaegngcbiefckaaRmA
import Derived.Test.YtaegngcbiefckaaPlnX
namespace Go.Proofs.Ytaegngcbiefckaa
set_option linter.unusedSimpArgs false
set_option linter.unusedVariables false
open Go.RowKit Go.WideShapes Go.ChangeShapes
attribute [local go_sem ↓] Go.wp_at_zero Go.wp_at_succ

def NoHit (x y : Sp) : Prop := ¬ (x.1 = y.1 ∧ x.2.1 < y.2.2 ∧ y.2.1 < x.2.2)
def NoOv (S : List Sp) (n : Nat) : Prop := ∀ (i j : Nat) (x y : Sp), i < n → j < i → S[i]? = some x → S[j]? = some y → NoHit x y
theorem NoOv.zero {S : List Sp} : NoOv S 0 := fun i j x y hi => by omega
theorem NoOv.step {S : List Sp} {n : Nat} {x : Sp} (h : NoOv S n) (hx : S[n]? = some x) (hn : ∀ (j : Nat) (y : Sp), j < n → S[j]? = some y → NoHit x y) : NoOv S (n + 1) := fun i j x' y hi hj h1 h2 => by
  rcases Nat.lt_or_ge i n with hlt | hge
  · exact h i j x' y hlt hj h1 h2
  · obtain rfl : i = n := by omega
    rw [hx] at h1
    cases h1
    exact hn j y hj h2
theorem slice_spans (ad : Addr) (n c i : Nat) (hi : i ≤ c) (W : World) : (Instr.slice 45 (.slice (some ad) n c) none (some (.int .i64 (i : Int))) none).run Try.prog W = .ok (.slice (some ad) i c) W := by
  have hsz : (sizeOf (Try.prog.elem 45)).run Try.prog W = .ok 4 W := by kernel_rfl
  rw [run_slice_h W 45 (some ad) n c (by kernel_rfl) .i64 (i : Int) (by omega) (by omega), hsz]
  have h0 : ad.add 0 = ad := by unfold Addr.add; simp
  simp [sliced, Result.andThen, h0]
theorem hit_dec (x1 x2 x3 x4 y1 y2 y3 y4 : Int) : NoHit ((x1, x2), (x3, x4)) ((y1, y2), (y3, y4)) ↔ ¬ (x1 = y1 ∧ x2 = y2 ∧ x3 < y4 ∧ y3 < x4) := by
  unfold NoHit
  simp only [Prod.mk.injEq, and_assoc]
set_option maxRecDepth 100000 in
set_option maxHeartbeats 4000000 in
theorem rm_over (off : Int) (g2 g5 : Nat) (S : List Sp) (W : List (Int × Int)) (vW vS : Value) (a : Act) (w : World) (Q : Exit → Act → World → Prop)
    (hs : a.tmps.size = 388) (hd : a.defers = []) (e2 : a.tmps[2]? = some (.pointer (some ⟨g2, 0, none⟩))) (e5 : a.tmps[5]? = some (.pointer (some ⟨g5, 0, none⟩)))
    (B2 : Blk w g2 47 #[.int .i64 0, .slice none 0 0, .slice none 0 0]) (hP : PBx w g5 off W S vW vS) (ho2 : g2 < g5) (hS : S.length ≤ 1000)
    (hend : ∀ (a : Act) (w' : World), a.tmps.size = 388 → a.defers = [] → a.tmps[2]? = some (.pointer (some ⟨g2, 0, none⟩)) → a.tmps[5]? = some (.pointer (some ⟨g5, 0, none⟩)) → Below w.heap.size w w' → NoOv S S.length → Q .normal a w')
    (hret : ∀ (a : Act) (w' : World), a.tmps.size = 388 → a.defers = [] → a.tmps[2]? = some (.pointer (some ⟨g2, 0, none⟩)) → a.tmps[3]? = some (.int .i64 61) → Below g2 w w' → Blk w' g2 47 #[.int .i64 0, .slice none 0 0, .slice none 0 0] → (¬ NoOv S S.length) → Q .ret a w') :
    Code.wp Try.prog (sub [true, true, true, true, true, false] (bodyOf Try.f13)) Q a w := by
  conv => arg 2; whnf
  have HEND := Lib.hid (And.intro hend hret)
  clear hend hret
  have hrS := hP.rS
  obtain ⟨A, c, rfl, hnc, hr⟩ := ownsRow_reads hrS
  obtain ⟨n, hn⟩ : ∃ n, n = S.length := ⟨_, rfl⟩
  rw [← hn] at hnc hr hS
  have HN := Lib.hid hn
  have HP := Lib.hid hP
  have HR := Lib.hid hr
  have p2 := hP.B.cellOf (v := .slice A S.length c) 2 rfl
  rw [← hn] at p2
  have hg5 : g5 < w.heap.size := hP.B.lt
  clear hr hrS hn hP; refine wp_seq_k fun Kq1 hKq1 => ?_
  refine sm_list [5] 341 4 hs hd (by kernel_rfl) (agC e5 agN) rfl ?_
  simp only [seval]
  go_wp2_with fail
  intro a H; replace hs := H.s hs; replace hd := H.d rfl; replace e5 := H.g 5 rfl rfl; replace e2 := H.k e2 rfl; have e342 := H.g 342 rfl rfl; have e343 := H.g 343 rfl rfl; have e344 := H.g 344 rfl rfl; clear H; refine hKq1 _ _ ?_; clear hKq1 Kq1; refine wp_block ?_
  obtain ⟨Z, hZ⟩ : ∃ Z, Z = w.heap.size := ⟨_, rfl⟩
  rw [← hZ] at hg5
  have HZ := Lib.hid hZ
  clear hZ; clear p2
  refine wp_loop (fun a w' => ∃ i : Nat, i ≤ n ∧ a.tmps.size = 388 ∧ a.defers = [] ∧ a.tmps[2]? = some (.pointer (some ⟨g2, 0, none⟩)) ∧ a.tmps[5]? = some (.pointer (some ⟨g5, 0, none⟩)) ∧ a.tmps[342]? = some (.slice A n c) ∧ a.tmps[343]? = some (.int .i64 (n : Int)) ∧ a.tmps[344]? = some (.int .i64 (i : Int)) ∧ Below Z w w' ∧ Z ≤ w'.heap.size ∧ Hid (NoOv S i)) (fun a _ => n - (intOf (a.tmps.getD 344 undef)).toNat) ?_ ?_
  · exact ⟨0, Nat.zero_le _, hs, hd, e2, e5, e342, e343, e344, Below.refl _ _, by rw [HZ.out]; exact Nat.le_refl _, Lib.hid NoOv.zero⟩
  clear hs hd e344 e2 e5 e342 e343 a
  rintro a w3 ⟨i, hi, hs, hd, e2, e5, e342, e343, e344, hb3, hz3, HO⟩
  have hm := slot e344
  refine wp_seq_k fun Kq2 hKq2 => ?_
  by_cases hlt : i < n
  ·
    have dj : decide ((i : Int) < (n : Int)) = true := decide_eq_true (by omega)
    obtain ⟨⟨⟨x1, x2⟩, x3, x4⟩, hx⟩ : ∃ x, S[i]? = some x := ⟨_, List.getElem?_eq_getElem (by rw [← HN.out]; omega)⟩
    obtain ⟨ad0, hA0, hadb0, hcl0⟩ := reads_at rsp_len (HR.out.below (by have h := HZ.out; rw [← h]; exact hb3)) hx hlt
    have HCL0 := Lib.hid hcl0
    have HA0 := Lib.hid hA0
    have HX0 := Lib.hid hx
    clear hcl0 hA0 hx hadb0
    rw [HA0.out] at e342
    refine sm_list [343, 344] 345 1 hs hd (by kernel_rfl) (agC e343 (agC e344 agN)) rfl ?_
    simp only [seval]
    go_wp2_with fail
    intro a H; replace hs := H.s hs; replace hd := H.d rfl; replace e343 := H.g 343 rfl rfl; replace e344 := H.g 344 rfl rfl; replace e2 := H.k e2 rfl; replace e5 := H.k e5 rfl; replace e342 := H.k e342 rfl; have e345 := H.g 345 rfl rfl; clear H; refine hKq2 _ _ ?_; clear hKq2 Kq2; refine wp_seq_k fun Kq3 hKq3 => ?_
    refine wp_cond_true (slotE e345) ?_
    clear e345; refine wp_skip ?_; refine hKq3 _ _ ?_; clear hKq3 Kq3; refine wp_seq_k fun Kq4 hKq4 => ?_; refine wp_block ?_; refine wp_seq_k fun Kq5 hKq5 => ?_
    have B33 := Blk.new w3 103 #[.int .i64 x1, .int .i64 x2, .int .i64 x3, .int .i64 x4]
    have hb5 : Below Z w (w3.alloc (.cells #[.int .i64 x1, .int .i64 x2, .int .i64 x3, .int .i64 x4] 103)) := hb3.alloc hz3 _
    have hz5 : Z ≤ (w3.alloc (.cells #[.int .i64 x1, .int .i64 x2, .int .i64 x3, .int .i64 x4] 103)).heap.size := Nat.le_trans hz3 (by simp)
    refine sm_list [32, 33, 342, 344] 346 3 hs hd (by kernel_rfl) (agU (agU (agC e342 (agC e344 agN)))) rfl ?_
    simp only [seval]
    go_wp2_with (first | (refine wpList_load_any_d rfl 103 (.tmp 5) rfl (ad0.add (i * 4)) rfl (#[.int .i64 x1, .int .i64 x2, .int .i64 x3, .int .i64 x4]) _ (fun j u hu => HCL0.out j u hu) Try.underlying103 rfl (by kernel_rfl) ?_) | (refine wpList_store_new rfl 103 (.tmp 1) (.tmp 6) rfl rfl rfl rfl rfl (by kernel_rfl) (by rw [← Array.all_toList]; rfl) ?_) | fail)
    intro a H; replace hs := H.s hs; replace hd := H.d rfl; replace e342 := H.g 342 rfl rfl; replace e344 := H.g 344 rfl rfl; replace e2 := H.k e2 rfl; replace e5 := H.k e5 rfl; replace e343 := H.k e343 rfl; have e32 := H.g 32 rfl rfl; have e33 := H.g 33 rfl rfl; clear H; refine hKq5 _ _ ?_; clear hKq5 Kq5; refine wp_seq_k fun Kq6 hKq6 => ?_
    generalize (w3.alloc (.cells #[.int .i64 x1, .int .i64 x2, .int .i64 x3, .int .i64 x4] 103)) = w5 at *
    obtain ⟨g33, hg33⟩ : ∃ g, g = w3.heap.size := ⟨_, rfl⟩
    rw [← hg33] at B33 e33 hz3
    clear hg33 hb3 dj
    have hP5 := HP.out.keep (by have h := HZ.out; rw [← h]; exact hb5)
    have p2 := hP5.B.cellOf (v := .slice A S.length c) 2 rfl
    rw [← HN.out, HA0.out] at p2
    have hsl := slice_spans ad0 n c i (by omega)
    refine sm_list [5, 32] 349 6 hs hd (by kernel_rfl) (agC e5 (agC e32 agN)) rfl ?_
    simp only [seval]
    go_wp2_with fail
    intro a H; replace hs := H.s hs; replace hd := H.d rfl; replace e5 := H.g 5 rfl rfl; replace e32 := H.g 32 rfl rfl; replace e2 := H.k e2 rfl; replace e342 := H.k e342 rfl; replace e343 := H.k e343 rfl; replace e344 := H.k e344 rfl; replace e33 := H.k e33 rfl; have e352 := H.g 352 rfl rfl; have e353 := H.g 353 rfl rfl; have e354 := H.g 354 rfl rfl; clear H; refine hKq6 _ _ ?_; clear hKq6 Kq6; refine wp_block ?_
    clear hsl p2 hP5; clear e32
    refine wp_loop (fun a w' => ∃ k : Nat, k ≤ i ∧ a.tmps.size = 388 ∧ a.defers = [] ∧ a.tmps[2]? = some (.pointer (some ⟨g2, 0, none⟩)) ∧ a.tmps[5]? = some (.pointer (some ⟨g5, 0, none⟩)) ∧ a.tmps[33]? = some (.pointer (some ⟨g33, 0, none⟩)) ∧ a.tmps[342]? = some (.slice (some ad0) n c) ∧ a.tmps[343]? = some (.int .i64 (n : Int)) ∧ a.tmps[344]? = some (.int .i64 (i : Int)) ∧ a.tmps[352]? = some (.slice (some ad0) i c) ∧ a.tmps[353]? = some (.int .i64 (i : Int)) ∧ a.tmps[354]? = some (.int .i64 (k : Int)) ∧ Below Z w w' ∧ Z ≤ w'.heap.size ∧ Blk w' g33 103 #[.int .i64 x1, .int .i64 x2, .int .i64 x3, .int .i64 x4] ∧ Hid (∀ (j : Nat) (y : Sp), j < k → S[j]? = some y → NoHit ((x1, x2), (x3, x4)) y)) (fun a _ => i - (intOf (a.tmps.getD 354 undef)).toNat) ?_ ?_
    · exact ⟨0, Nat.zero_le _, hs, hd, e2, e5, e33, e342, e343, e344, e352, e353, e354, hb5, hz5, B33, Lib.hid (fun j y h => by omega)⟩
    clear hs hd e354 e2 e5 e33 e342 e343 e344 e352 e353 a hb5 hz5 B33
    rintro a w6 ⟨k, hk, hs, hd, e2, e5, e33, e342, e343, e344, e352, e353, e354, hb6, hz6, B33, HK⟩
    have hmk := slot e354
    refine wp_seq_k fun Kq7 hKq7 => ?_
    by_cases hlk : k < i
    ·
      have dk : decide ((k : Int) < (i : Int)) = true := decide_eq_true (by omega)
      obtain ⟨⟨⟨y1, y2⟩, y3, y4⟩, hy⟩ : ∃ x, S[k]? = some x := ⟨_, List.getElem?_eq_getElem (by rw [← HN.out]; omega)⟩
      obtain ⟨ad1, hA1, hadb1, hcl1⟩ := reads_at rsp_len (HR.out.below (by have h := HZ.out; rw [← h]; exact hb6)) hy (by omega : k < n)
      have HCL1 := Lib.hid hcl1
      have HA1 := Lib.hid hA1
      have HX1 := Lib.hid hy
      clear hcl1 hA1 hy hadb1
      have had : ad1 = ad0 := by have h := HA1.out; rw [HA0.out] at h; exact (Option.some.inj h).symm
      subst had
      refine sm_list [353, 354] 355 1 hs hd (by kernel_rfl) (agC e353 (agC e354 agN)) rfl ?_
      simp only [seval]
      go_wp2_with fail
      intro a H; replace hs := H.s hs; replace hd := H.d rfl; replace e353 := H.g 353 rfl rfl; replace e354 := H.g 354 rfl rfl; replace e2 := H.k e2 rfl; replace e5 := H.k e5 rfl; replace e33 := H.k e33 rfl; replace e342 := H.k e342 rfl; replace e343 := H.k e343 rfl; replace e344 := H.k e344 rfl; replace e352 := H.k e352 rfl; have e355 := H.g 355 rfl rfl; clear H; refine hKq7 _ _ ?_; clear hKq7 Kq7
      refine wp_seq_k fun Kq8 hKq8 => ?_
      refine wp_cond_true (slotE e355) ?_
      clear e355; refine wp_skip ?_; refine hKq8 _ _ ?_; clear hKq8 Kq8; refine wp_seq_k fun Kq9 hKq9 => ?_; refine wp_block ?_; refine wp_seq_k fun Kq10 hKq10 => ?_
      have B35 := Blk.new w6 103 #[.int .i64 y1, .int .i64 y2, .int .i64 y3, .int .i64 y4]
      have hb7 : Below Z w (w6.alloc (.cells #[.int .i64 y1, .int .i64 y2, .int .i64 y3, .int .i64 y4] 103)) := hb6.alloc hz6 _
      have hz7 : Z ≤ (w6.alloc (.cells #[.int .i64 y1, .int .i64 y2, .int .i64 y3, .int .i64 y4] 103)).heap.size := Nat.le_trans hz6 (by simp)
      have B337 := B33.alloc (.cells #[.int .i64 y1, .int .i64 y2, .int .i64 y3, .int .i64 y4] 103)
      refine sm_list [35, 352, 354] 356 2 hs hd (by kernel_rfl) (agU (agC e352 (agC e354 agN))) rfl ?_
      simp only [seval]
      go_wp2_with (first | (refine wpList_load_any_d rfl 103 (.tmp 3) rfl (ad1.add (k * 4)) rfl (#[.int .i64 y1, .int .i64 y2, .int .i64 y3, .int .i64 y4]) _ (fun j u hu => HCL1.out j u hu) Try.underlying103 rfl (by kernel_rfl) ?_) | (refine wpList_store_new rfl 103 (.tmp 0) (.tmp 4) rfl rfl rfl rfl rfl (by kernel_rfl) (by rw [← Array.all_toList]; rfl) ?_) | fail)
      intro a H; replace hs := H.s hs; replace hd := H.d rfl; replace e352 := H.g 352 rfl rfl; replace e354 := H.g 354 rfl rfl; replace e2 := H.k e2 rfl; replace e5 := H.k e5 rfl; replace e33 := H.k e33 rfl; replace e342 := H.k e342 rfl; replace e343 := H.k e343 rfl; replace e344 := H.k e344 rfl; replace e353 := H.k e353 rfl; have e35 := H.g 35 rfl rfl; clear H; refine hKq10 _ _ ?_; clear hKq10 Kq10
      refine wp_seq_k fun Kq11 hKq11 => ?_
      generalize (w6.alloc (.cells #[.int .i64 y1, .int .i64 y2, .int .i64 y3, .int .i64 y4] 103)) = w7 at *
      obtain ⟨g35, hg35⟩ : ∃ g, g = w6.heap.size := ⟨_, rfl⟩
      rw [← hg35] at B35 e35
      clear hg35 hb6 hz6 B33 dk
      have u0 := B337.cellOf (v := .int .i64 x1) 0 rfl
      have u1 := B337.cellOf (v := .int .i64 x2) 1 rfl
      have u2 := B337.cellOf (v := .int .i64 x3) 2 rfl
      have u3 := B337.cellOf (v := .int .i64 x4) 3 rfl
      have s0 := B35.cellOf (v := .int .i64 y1) 0 rfl
      have s1 := B35.cellOf (v := .int .i64 y2) 1 rfl
      have s2 := B35.cellOf (v := .int .i64 y3) 2 rfl
      have s3 := B35.cellOf (v := .int .i64 y4) 3 rfl
      suffices HK : ∀ (a' : Act), a'.tmps.size = a.tmps.size → a'.defers = [] → a'.tmps[2]? = a.tmps[2]? → a'.tmps[5]? = a.tmps[5]? → a'.tmps[33]? = a.tmps[33]? → a'.tmps[342]? = a.tmps[342]? → a'.tmps[343]? = a.tmps[343]? → a'.tmps[344]? = a.tmps[344]? → a'.tmps[352]? = a.tmps[352]? → a'.tmps[353]? = a.tmps[353]? → a'.tmps[354]? = a.tmps[354]? → a'.tmps[35]? = a.tmps[35]? → a'.tmps[383]? = some (.bool (decide (x1 = y1 ∧ x2 = y2 ∧ x3 < y4 ∧ y3 < x4))) → Kq11 a' w7 by
        by_cases q1 : x1 = y1
        all_goals by_cases q2 : x2 = y2
        all_goals by_cases q3 : x3 < y4
        all_goals first | (have d1 : (x1 == y1) = true := beq_iff_eq.2 q1) | (have d1 : (x1 == y1) = false := beq_eq_false_iff_ne.2 q1)
        all_goals first | (have d2 : (x2 == y2) = true := beq_iff_eq.2 q2) | (have d2 : (x2 == y2) = false := beq_eq_false_iff_ne.2 q2)
        all_goals first | (have d3 : decide (x3 < y4) = true := decide_eq_true q3) | (have d3 : decide (x3 < y4) = false := decide_eq_false q3)
        all_goals
          refine sm_list [33, 35] 358 26 hs hd (by kernel_rfl) (agC e33 (agC e35 agN)) rfl ?_
          simp only [seval]
          go_wp2_with fail
          all_goals
            intro a' H
            refine HK a' H.size H.defers (H.out 2 rfl) (H.out 5 rfl) ((H.got rfl rfl).trans e33.symm) (H.out 342 rfl) (H.out 343 rfl) (H.out 344 rfl) (H.out 352 rfl) (H.out 353 rfl) (H.out 354 rfl) ((H.got rfl rfl).trans e35.symm) ?_
            · (refine (H.got (t := 383) rfl rfl).trans (congrArg some ?_); refine congrArg Value.bool ?_; first | exact (decide_eq_true (by omega)).symm | exact (decide_eq_false (by omega)).symm | (rw [Bool.eq_iff_iff]; simp only [Bool.and_eq_true, decide_eq_true_eq, beq_iff_eq] <;> omega))
      intro a' g_s g_d g2 g5 g33 g342 g343 g344 g352 g353 g354 g35 f383
      replace hs := g_s.trans hs; replace hd := g_d; replace e2 := g2.trans e2; replace e5 := g5.trans e5; replace e33 := g33.trans e33; replace e342 := g342.trans e342; replace e343 := g343.trans e343; replace e344 := g344.trans e344; replace e352 := g352.trans e352; replace e353 := g353.trans e353; replace e354 := g354.trans e354; replace e35 := g35.trans e35; clear g_s g_d g2 g5 g33 g342 g343 g344 g352 g353 g354 g35
      have e383 := f383
      clear f383; clear a
      obtain ⟨a, rfl⟩ : ∃ a, a = a' := ⟨_, rfl⟩
      refine hKq11 _ _ ?_; clear hKq11 Kq11; clear u0 s0 u1 s1 u2 s2 u3 s3; clear e35
      by_cases hv : x1 = y1 ∧ x2 = y2 ∧ x3 < y4 ∧ y3 < x4
      · rw [decide_eq_true hv] at e383
        have HNO : Hid (¬ NoOv S S.length) := Lib.hid (fun h => (hit_dec _ _ _ _ _ _ _ _).1 (h i k _ _ (by rw [← HN.out]; exact hlt) hlk HX0.out HX1.out) hv)
        have hgz : g2 < Z := by omega
        have B2x : Blk w7 g2 47 #[.int .i64 0, .slice none 0 0, .slice none 0 0] := B2.below hb7 hgz
        clear hv B35 B337 B2 hlt hlk
        have B2 := B2x
        clear B2x
        refine wp_cond_true (slotE e383) ?_
        clear e383; refine wp_seq_k fun Kq12 hKq12 => ?_
        have HB2 := Lib.hid B2
        refine sm_list [2, 3] 384 1 hs hd (by kernel_rfl) (agC e2 (agU agN)) rfl ?_
        simp only [seval]
        go_wp2_with (first | (refine wpList_store_part rfl 47 (.tmp 0) (.tmp 2) rfl (off := 0) rfl HB2.out rfl (by simp) (by kernel_rfl) (by rw [← Array.all_toList]; rfl) ?_; intro wq Bq zq grq) | fail)
        intro a H; replace hs := H.s hs; replace hd := H.d rfl; replace e2 := H.g 2 rfl rfl; replace e5 := H.k e5 rfl; replace e33 := H.k e33 rfl; replace e342 := H.k e342 rfl; replace e343 := H.k e343 rfl; replace e344 := H.k e344 rfl; replace e352 := H.k e352 rfl; replace e353 := H.k e353 rfl; replace e354 := H.k e354 rfl; have e3 := H.g 3 rfl rfl; clear H; refine hKq12 _ _ ?_; clear hKq12 Kq12; refine wp_ret ?_
        refine ret_block ?_; refine exit_then rfl ?_; refine exit_then rfl ?_; refine ret_block ?_; refine ret_block ?_; refine exit_then rfl ?_; refine exit_then rfl ?_; refine ret_block ?_
        have Bq' : Blk wq g2 47 #[.int .i64 0, .slice none 0 0, .slice none 0 0] := by simpa [putAll] using Bq
        exact HEND.out.2 a wq hs hd e2 e3 ((hb7.mono (Nat.le_of_lt hgz)).grown grq (by omega) (fun k hk => by cases hk; exact Nat.le_refl _)) Bq' HNO.out
      · rw [decide_eq_false hv] at e383
        have HK2 : Hid (∀ (j : Nat) (y : Sp), j < k + 1 → S[j]? = some y → NoHit ((x1, x2), (x3, x4)) y) := Lib.hid fun j y hj hy => by
          rcases Nat.lt_or_ge j k with h | h
          · exact HK.out j y h hy
          · obtain rfl : j = k := by omega
            rw [HX1.out] at hy
            cases hy
            exact (hit_dec _ _ _ _ _ _ _ _).2 hv
        clear hv
        refine wp_cond_false (slotE e383) ?_
        clear e383; refine wp_skip ?_; refine hKq9 _ _ ?_; clear hKq9 Kq9
        refine sm_list [354] 385 1 hs hd (by kernel_rfl) (agC e354 agN) rfl ?_
        simp only [seval]
        go_wp2_with fail
        intro a H; replace hs := H.s hs; replace hd := H.d rfl; replace e2 := H.k e2 rfl; replace e5 := H.k e5 rfl; replace e33 := H.k e33 rfl; replace e342 := H.k e342 rfl; replace e343 := H.k e343 rfl; replace e344 := H.k e344 rfl; replace e352 := H.k e352 rfl; replace e353 := H.k e353 rfl; replace e354 := H.g 354 rfl rfl; clear H
        exact ⟨⟨k + 1, by omega, hs, hd, e2, e5, e33, e342, e343, e344, e352, e353, e354, hb7, hz7, B337, HK2⟩, by first | (simp only [hmk, slot e354, intOf]; omega) | (simp [e354, intOf]; omega)⟩
    · have hke : k = i := by omega
      have dk : decide ((k : Int) < (i : Int)) = false := decide_eq_false (by omega)
      have dk2 : decide (k < i) = false := decide_eq_false hlk
      have HO2 : Hid (NoOv S (i + 1)) := Lib.hid (HO.out.step HX0.out (by have h := HK.out; rw [hke] at h; exact h))
      clear hlk hmk hke
      refine sm_list [353, 354] 355 1 hs hd (by kernel_rfl) (agC e353 (agC e354 agN)) rfl ?_
      simp only [seval]
      go_wp2_with fail
      intro a H; replace hs := H.s hs; replace hd := H.d rfl; replace e353 := H.g 353 rfl rfl; replace e354 := H.g 354 rfl rfl; replace e2 := H.k e2 rfl; replace e5 := H.k e5 rfl; replace e33 := H.k e33 rfl; replace e342 := H.k e342 rfl; replace e343 := H.k e343 rfl; replace e344 := H.k e344 rfl; replace e352 := H.k e352 rfl; have e355 := H.g 355 rfl rfl; clear H; refine hKq7 _ _ ?_; clear hKq7 Kq7
      refine wp_seq_k fun Kq8 hKq8 => ?_
      refine wp_cond_false (slotE e355) ?_
      clear e355; refine wp_exit ?_; refine exit_then rfl ?_; clear hKq8 Kq8; refine exit_then rfl ?_; refine exit_hit ?_; refine hKq4 _ _ ?_; clear hKq4 Kq4; clear e33; clear e352; clear e353; clear e354
      rw [← HA0.out] at e342
      refine sm_list [344] 386 1 hs hd (by kernel_rfl) (agC e344 agN) rfl ?_
      simp only [seval]
      go_wp2_with fail
      intro a H; replace hs := H.s hs; replace hd := H.d rfl; replace e2 := H.k e2 rfl; replace e5 := H.k e5 rfl; replace e342 := H.k e342 rfl; replace e343 := H.k e343 rfl; replace e344 := H.g 344 rfl rfl; clear H
      exact ⟨⟨i + 1, by omega, hs, hd, e2, e5, e342, e343, e344, hb6, hz6, HO2⟩, by first | (simp only [hm, slot e344, intOf]; omega) | (simp [e344, intOf]; omega)⟩
  · have hje : i = n := by omega
    have dj : decide ((i : Int) < (n : Int)) = false := decide_eq_false (by omega)
    have dj2 : decide (i < n) = false := decide_eq_false hlt
    have HNE : Hid (NoOv S S.length) := Lib.hid (by have h := HO.out; rw [hje, HN.out] at h; exact h)
    clear hlt hm hje
    refine sm_list [343, 344] 345 1 hs hd (by kernel_rfl) (agC e343 (agC e344 agN)) rfl ?_
    simp only [seval]
    go_wp2_with fail
    intro a H; replace hs := H.s hs; replace hd := H.d rfl; replace e343 := H.g 343 rfl rfl; replace e344 := H.g 344 rfl rfl; replace e2 := H.k e2 rfl; replace e5 := H.k e5 rfl; replace e342 := H.k e342 rfl; have e345 := H.g 345 rfl rfl; clear H; refine hKq2 _ _ ?_; clear hKq2 Kq2; refine wp_seq_k fun Kq3 hKq3 => ?_
    refine wp_cond_false (slotE e345) ?_
    clear e345; refine wp_exit ?_; refine exit_then rfl ?_; clear hKq3 Kq3; refine exit_then rfl ?_; refine exit_hit ?_
    exact HEND.out.1 a w3 hs hd e2 e5 (by rw [← HZ.out]; exact hb3) HNE.out
end Go.Proofs.Ytaegngcbiefckaa

namespace Go.Proofs.Ytaegngcbiefckaa
set_option linter.unusedSimpArgs false
set_option linter.unusedVariables false

def PortIn (C : Cf) (e : Int × Int) : Prop := ∃ nd, 0 ≤ e.1 ∧ C.nodes[e.1.toNat]? = some nd ∧ 0 ≤ e.2 ∧ e.2 < nd.ports
theorem badEnd_in {C : Cf} {used : List (Int × Int)} {e : Int × Int} (h : ¬ badEnd C used e = true) : PortIn C e := by
  have h := Bool.eq_false_iff.2 h
  unfold badEnd at h
  cases hn : C.nodes[e.1.toNat]? with
  | none => rw [hn] at h; simp at h
  | some nd =>
    rw [hn] at h
    simp only [Bool.or_eq_false_iff, decide_eq_false_iff_not] at h
    exact ⟨nd, by omega, hn, by omega, by omega⟩
theorem linksV_in {C : Cf} : ∀ (ls : List Lk) (used : List (Int × Int)), linksV C used ls = 0 → ∀ l ∈ ls, PortIn C (l.n0, l.p0) ∧ PortIn C (l.n1, l.p1)
  | [], _, _, _, hl => by cases hl
  | m :: ls, used, h, l, hl => by
    rw [linksV] at h
    by_cases h0 : badEnd C used (m.n0, m.p0) = true
    · rw [if_pos h0] at h; cases h
    rw [if_neg h0] at h
    by_cases h1 : badEnd C ((m.n0, m.p0) :: used) (m.n1, m.p1) = true
    · rw [if_pos h1] at h; cases h
    rw [if_neg h1] at h
    by_cases h2 : badLink m = true
    · rw [if_pos h2] at h; cases h
    rw [if_neg h2] at h
    rcases List.mem_cons.1 hl with rfl | hl
    · exact ⟨badEnd_in h0, badEnd_in h1⟩
    · exact linksV_in ls _ h l hl
theorem PortIn.to {C : Cf} {e : Int × Int} (h : PortIn C e) : e ∈ endsTo C C.nodes.length := by
  obtain ⟨nd, h1, h2, h3, h4⟩ := h
  obtain ⟨x, y⟩ := e
  simp only at h1 h2 h3 h4
  refine List.mem_flatMap.2 ⟨x.toNat, List.mem_range.2 (List.getElem?_eq_some_iff.1 h2).1, ?_⟩
  rw [endsOf_some h2]
  refine List.mem_map.2 ⟨y.toNat, List.mem_range.2 (by omega), ?_⟩
  rw [Int.toNat_of_nonneg h1, Int.toNat_of_nonneg h3]
theorem steps_mem {C : Cf} {e : Int × Int} : ∀ (es : List (Int × Int)) (ks : List Int) (at_ : Int), Steps C at_ es ks → e ∈ es → ∃ l ∈ C.links, e = (l.n0, l.p0) ∨ e = (l.n1, l.p1)
  | [], _, _, _, h => by cases h
  | x :: es, [], _, hs, _ => hs.elim
  | x :: es, k :: ks, at_, hs, h => by
    obtain ⟨_, l, nxt, _, h2, h3, h4⟩ := hs
    rcases List.mem_cons.1 h with rfl | h
    · exact ⟨l, List.mem_of_getElem? h2, h3.imp (fun h => h.1) (fun h => h.1)⟩
    · exact steps_mem es ks nxt h4 h
end Go.Proofs.Ytaegngcbiefckaa
