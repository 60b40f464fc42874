/-
  Do two ways share nothing?
-/
import Derived.Test.YtaegngcbiefckaaPlnCon
namespace Go.Proofs.Ytaegngcbiefckaa
set_option linter.unusedSimpArgs false
set_option linter.unusedVariables false
open Go.RowKit Go.WideShapes Go.ChangeShapes
attribute [local go_sem ↓] Go.wp_at_zero Go.wp_at_succ

def ecc (e : Int × Int) : List Value := [.int .i64 e.1, .int .i64 e.2]
theorem ecc_len (e : Int × Int) : (ecc e).length = 2 := rfl
def apartV (w0 w1 : List Int) (xs ys : List (Int × Int)) : Bool :=
  (!w0.any fun k => w1.contains k) && (List.range xs.length).all fun i => (List.range ys.length).all fun k => match xs[i]?, ys[k]? with | some x, some y => !(decide (x.1 = y.1 ∧ 0 < i + k)) | _, _ => true
def Met (x : Int × Int) (i : Nat) (ys : List (Int × Int)) (k : Nat) : Prop := ∀ (q : Nat) (y : Int × Int), q < k → ys[q]? = some y → ¬ (x.1 = y.1 ∧ 0 < i + q)
def MetAll (xs ys : List (Int × Int)) (i : Nat) : Prop := ∀ (p : Nat) (x : Int × Int), p < i → xs[p]? = some x → Met x p ys ys.length
theorem apartV_link {w0 w1 : List Int} {xs ys : List (Int × Int)} {z : Int} (h0 : z ∈ w0) (h1 : z ∈ w1) : apartV w0 w1 xs ys = false := by
  unfold apartV
  rw [List.any_eq_true.2 ⟨z, h0, List.contains_iff_mem.2 h1⟩]
  rfl
theorem apartV_node {w0 w1 : List Int} {xs ys : List (Int × Int)} {i k : Nat} {x y : Int × Int} (hx : xs[i]? = some x) (hy : ys[k]? = some y) (h : x.1 = y.1 ∧ 0 < i + k) : apartV w0 w1 xs ys = false := by
  unfold apartV
  rw [Bool.and_eq_false_iff]
  refine .inr (List.all_eq_false.2 ⟨i, List.mem_range.2 (List.getElem?_eq_some_iff.1 hx).1, fun h2 => ?_⟩)
  have := List.all_eq_true.1 h2 k (List.mem_range.2 (List.getElem?_eq_some_iff.1 hy).1)
  simp [hx, hy, h.1] at this
  omega
theorem apartV_true {w0 w1 : List Int} {xs ys : List (Int × Int)} (h0 : ∀ z ∈ w0, z ∉ w1) (h : ∀ (i k : Nat) (x y : Int × Int), xs[i]? = some x → ys[k]? = some y → ¬ (x.1 = y.1 ∧ 0 < i + k)) : apartV w0 w1 xs ys = true := by
  unfold apartV
  have e0 : (w0.any fun k => w1.contains k) = false := List.any_eq_false.2 fun z hz => by simpa using h0 z hz
  rw [e0, Bool.not_false, Bool.true_and]
  refine List.all_eq_true.2 fun i hi => List.all_eq_true.2 fun k hk => ?_
  have hi' := List.mem_range.1 hi
  have hk' := List.mem_range.1 hk
  rw [List.getElem?_eq_getElem hi', List.getElem?_eq_getElem hk']
  have h2 := h i k _ _ (List.getElem?_eq_getElem hi') (List.getElem?_eq_getElem hk')
  simp only [decide_eq_false h2, Bool.not_false]
set_option maxRecDepth 100000 in
set_option maxHeartbeats 4000000 in
theorem apart_any (C : Cf) (Y : Lay) (f : Fw) (s : Sl × Sl) (xs ys : List (Int × Int)) (Aa Ab : Option Addr) (ca cb : Nat) (w : World)
    (h0 : Reads w w.heap.size 1 s.1.A f.w0.length (f.w0.map (Value.int .i64))) (h1 : Reads w w.heap.size 1 s.2.A f.w1.length (f.w1.map (Value.int .i64)))
    (ha : Reads w w.heap.size 2 Aa xs.length (xs.flatMap ecc)) (hb : Reads w w.heap.size 2 Ab ys.length (ys.flatMap ecc)) (hla : xs.length ≤ 100) (hlb : ys.length ≤ 100) (hl0 : f.w0.length ≤ 100) (hl1 : f.w1.length ≤ 100) :
    Calls Try.prog 21 #[.agg (cfc C Y), .agg (fwc f s).toArray, .slice Aa xs.length ca, .slice Ab ys.length cb] w fun e w' => e = .returned (.bool (apartV f.w0 f.w1 xs ys)) ∧ Below w.heap.size w w' := by
  refine calls_sm (N := 56) Try.func21 rfl (by kernel_rfl) ?_
  intro a hs hd ha
  have e0 : a.tmps[0]? = some (.agg (cfc C Y)) := ha 0 _ rfl
  have e1 : a.tmps[1]? = some (.agg (fwc f s).toArray) := ha 1 _ rfl
  have e2 : a.tmps[2]? = some (.slice Aa xs.length ca) := ha 2 _ rfl
  have e3 : a.tmps[3]? = some (.slice Ab ys.length cb) := ha 3 _ rfl
  clear ha
  conv => arg 2; whnf
  refine wp_seq_k fun Kq1 hKq1 => ?_
  refine sm_list [0, 1, 4, 5] 8 1 hs hd (by kernel_rfl) (agC e0 (agC e1 (agU (agU agN)))) rfl ?_
  simp only [seval]
  go_wp2_with fail
  intro a H; replace hs := H.s hs; replace hd := H.d rfl; replace e2 := H.k e2 rfl; replace e3 := H.k e3 rfl; clear e0; clear e1; have e5 := H.g 5 rfl rfl; clear H; refine hKq1 _ _ ?_; clear hKq1 Kq1; refine wp_seq_k fun Kq2 hKq2 => ?_; refine wp_seq_k fun Kq3 hKq3 => ?_
  have BF := Blk.new (w.alloc (.cells (cfc C Y) 26)) 74 (fwc f s).toArray
  have L0 : Below w.heap.size w ((w.alloc (.cells (cfc C Y) 26)).alloc (.cells (fwc f s).toArray 74)) := ((Below.refl _ _).alloc (Nat.le_refl _) _).alloc (by simp) _
  have hz1 : w.heap.size ≤ (w.alloc (.cells (cfc C Y) 26)).heap.size := by simp
  replace h0 := h0.below L0
  replace h1 := h1.below L0
  replace ha := ha.below L0
  replace hb := hb.below L0
  generalize (w.alloc (.cells (cfc C Y) 26)).alloc (.cells (fwc f s).toArray 74) = w1 at *
  obtain ⟨g, hg⟩ : ∃ g, g = (w.alloc (.cells (cfc C Y) 26)).heap.size := ⟨_, rfl⟩
  obtain ⟨B, hB⟩ : ∃ B, B = w.heap.size := ⟨_, rfl⟩
  have e5q : a.tmps[5]? = some (.pointer (some ⟨g, 0, none⟩)) := by rw [hg]; simpa using e5
  replace e5 := e5q
  clear e5q
  rw [← hg] at BF hz1
  rw [← hB] at h0 h1 ha hb L0 hz1
  have HG := Lib.hid hB
  clear hg hB
  have f2 := BF.cellOf (v := .slice s.1.A f.w0.length s.1.c) 2 rfl
  have f3 := BF.cellOf (v := .slice s.2.A f.w1.length s.2.c) 3 rfl
  refine sm_list [5] 15 5 hs hd (by kernel_rfl) (agC e5 agN) rfl ?_
  simp only [seval]
  go_wp2_with fail
  intro a H; replace hs := H.s hs; replace hd := H.d rfl; replace e5 := H.g 5 rfl rfl; replace e2 := H.k e2 rfl; replace e3 := H.k e3 rfl; have e17 := H.g 17 rfl rfl; have e18 := H.g 18 rfl rfl; have e19 := H.g 19 rfl rfl; clear H; refine hKq3 _ _ ?_; clear hKq3 Kq3; refine wp_block ?_
  refine wp_loop (fun a w' => ∃ j : Nat, j ≤ f.w0.length ∧ a.tmps.size = 56 ∧ a.defers = [] ∧ a.tmps[2]? = some (.slice Aa xs.length ca) ∧ a.tmps[3]? = some (.slice Ab ys.length cb) ∧ a.tmps[5]? = some (.pointer (some ⟨g, 0, none⟩)) ∧ a.tmps[17]? = some (.slice s.1.A f.w0.length s.1.c) ∧ a.tmps[18]? = some (.int .i64 (f.w0.length : Int)) ∧ a.tmps[19]? = some (.int .i64 (j : Int)) ∧ w' = w1 ∧ ∀ z ∈ f.w0.take j, z ∉ f.w1) (fun a _ => f.w0.length - (intOf (a.tmps.getD 19 undef)).toNat) ?_ ?_
  · exact ⟨0, Nat.zero_le _, hs, hd, e2, e3, e5, e17, e18, e19, rfl, by simp⟩
  clear hs hd e19 e2 e3 e5 e17 e18 a
  rintro a w3 ⟨j, hj, hs, hd, e2, e3, e5, e17, e18, e19, hw3, hno⟩
  subst hw3
  have HN := Lib.hid hno
  clear hno
  have hm := slot e19
  refine wp_seq_k fun Kq4 hKq4 => ?_
  by_cases hlt : j < f.w0.length
  ·
    have dj : decide ((j : Int) < (f.w0.length : Int)) = true := decide_eq_true (by omega)
    obtain ⟨ad, u, hA, hadb, hu, hc⟩ := h0.at_ hlt
    obtain ⟨z, hz, rfl⟩ := getElem?_map_some hu
    have HZ := Lib.hid hz
    clear hz hu
    rw [hA] at e17
    have HA := Lib.hid hA
    clear hA
    have hj0 : (0 : Int) ≤ (j : Int) := by omega
    refine sm_list [18, 19] 20 1 hs hd (by kernel_rfl) (agC e18 (agC e19 agN)) rfl ?_
    simp only [seval]
    go_wp2_with fail
    intro a H; replace hs := H.s hs; replace hd := H.d rfl; replace e18 := H.g 18 rfl rfl; replace e19 := H.g 19 rfl rfl; replace e2 := H.k e2 rfl; replace e3 := H.k e3 rfl; replace e5 := H.k e5 rfl; replace e17 := H.k e17 rfl; have e20 := H.g 20 rfl rfl; clear H; refine hKq4 _ _ ?_; clear hKq4 Kq4; refine wp_seq_k fun Kq5 hKq5 => ?_
    refine wp_cond_true (slotE e20) ?_
    clear e20; refine wp_skip ?_; refine hKq5 _ _ ?_; clear hKq5 Kq5; refine wp_seq_k fun Kq6 hKq6 => ?_; refine wp_block ?_; refine wp_seq_k fun Kq7 hKq7 => ?_
    refine sm_list [10, 17, 19] 21 2 hs hd (by kernel_rfl) (agU (agC e17 (agC e19 agN))) rfl ?_
    simp only [seval]
    go_wp2_with fail
    intro a H; replace hs := H.s hs; replace hd := H.d rfl; replace e17 := H.g 17 rfl rfl; replace e19 := H.g 19 rfl rfl; replace e2 := H.k e2 rfl; replace e3 := H.k e3 rfl; replace e5 := H.k e5 rfl; replace e18 := H.k e18 rfl; have e10 := H.g 10 rfl rfl; clear H; refine hKq7 _ _ ?_; clear hKq7 Kq7; refine wp_seq_k fun Kq8 hKq8 => ?_
    have HC := Lib.hid (con_any s.2.A f.w1.length s.2.c B f.w1 z w3 h1 rfl (by omega))
    refine sm_list [5, 10] 23 5 hs hd (by kernel_rfl) (agC e5 (agC e10 agN)) rfl ?_
    simp only [seval]
    go_wp2_with fail
    refine HC.out.mono ?_
    rintro e w4 ⟨rfl, rfl⟩
    go_wp2_with fail
    intro a H; replace hs := H.s hs; replace hd := H.d rfl; replace e5 := H.g 5 rfl rfl; replace e10 := H.g 10 rfl rfl; replace e2 := H.k e2 rfl; replace e3 := H.k e3 rfl; replace e17 := H.k e17 rfl; replace e18 := H.k e18 rfl; replace e19 := H.k e19 rfl; have e27 := H.g 27 rfl rfl; clear H; refine hKq8 _ _ ?_; clear hKq8 Kq8
    have HM : ∀ q, Hid (f.w1.contains z = q) → (q = true ↔ z ∈ f.w1) := fun q hq => by rw [← hq.out]; exact List.contains_iff_mem
    obtain ⟨q, hq⟩ : ∃ q, f.w1.contains z = q := ⟨_, rfl⟩
    have e27q : a.tmps[27]? = some (.bool q) := by rw [e27, ← hq]; simp
    replace e27 := e27q
    have HQ := Lib.hid hq
    clear hq e27q
    cases q
    · have hnz : z ∉ f.w1 := fun h => by have := (HM _ HQ).2 h; cases this
      have HNZ := Lib.hid hnz
      clear hnz HM HQ
      refine wp_cond_false (slotE e27) ?_
      clear e27; refine wp_skip ?_; refine hKq6 _ _ ?_; clear hKq6 Kq6
      refine sm_list [19] 28 1 hs hd (by kernel_rfl) (agC e19 agN) rfl ?_
      simp only [seval]
      go_wp2_with fail
      intro a H; replace hs := H.s hs; replace hd := H.d rfl; replace e2 := H.k e2 rfl; replace e3 := H.k e3 rfl; replace e5 := H.k e5 rfl; replace e17 := H.k e17 rfl; replace e18 := H.k e18 rfl; replace e10 := H.k e10 rfl; replace e19 := H.g 19 rfl rfl; clear H
      rw [← HA.out] at e17
      refine ⟨⟨j + 1, by omega, hs, hd, e2, e3, e5, e17, e18, e19, rfl, fun y hy => ?_⟩, by simp only [hm, slot e19, intOf]; omega⟩
      rw [List.take_add_one, HZ.out] at hy
      rcases List.mem_append.1 hy with hy | hy
      · exact HN.out y hy
      · simp at hy; rw [hy]; exact HNZ.out
    · have hnz : z ∈ f.w1 := (HM _ HQ).1 rfl
      have HV := Lib.hid (apartV_link (xs := xs) (ys := ys) (List.mem_of_getElem? HZ.out) hnz)
      clear HM HQ hnz
      refine wp_cond_true (slotE e27) ?_
      clear e27; refine wp_seq_k fun Kq9 hKq9 => ?_
      refine sm_list [] 8 1 hs hd (by kernel_rfl) agN rfl ?_
      simp only [seval]
      go_wp2_with fail
      intro a H; replace hs := H.s hs; replace hd := H.d rfl; replace e2 := H.k e2 rfl; replace e3 := H.k e3 rfl; replace e5 := H.k e5 rfl; replace e17 := H.k e17 rfl; replace e18 := H.k e18 rfl; replace e19 := H.k e19 rfl; replace e10 := H.k e10 rfl; have e8 := H.g 8 rfl rfl; clear H; refine hKq9 _ _ ?_; clear hKq9 Kq9; refine wp_ret ?_; refine ret_block ?_; refine exit_then rfl ?_; refine exit_then rfl ?_
      refine ret_block ?_; refine exit_then rfl ?_
      rw [← HV.out] at e8
      exact sm_ret rfl hd e8 ⟨rfl, by rw [← HG.out]; exact L0⟩
  · obtain rfl : j = f.w0.length := by omega
    have dj : decide ((f.w0.length : Int) < (f.w0.length : Int)) = false := decide_eq_false (by omega)
    clear hlt hm
    refine sm_list [18, 19] 20 1 hs hd (by kernel_rfl) (agC e18 (agC e19 agN)) rfl ?_
    simp only [seval]
    go_wp2_with fail
    intro a H; replace hs := H.s hs; replace hd := H.d rfl; replace e18 := H.g 18 rfl rfl; replace e19 := H.g 19 rfl rfl; replace e2 := H.k e2 rfl; replace e3 := H.k e3 rfl; replace e5 := H.k e5 rfl; replace e17 := H.k e17 rfl; have e20 := H.g 20 rfl rfl; clear H; refine hKq4 _ _ ?_; clear hKq4 Kq4; refine wp_seq_k fun Kq5 hKq5 => ?_
    refine wp_cond_false (slotE e20) ?_
    clear e20; refine wp_exit ?_; refine exit_then rfl ?_; clear hKq5 Kq5; refine exit_then rfl ?_; refine exit_hit ?_; refine hKq2 _ _ ?_; clear hKq2 Kq2; refine wp_seq_k fun Kq6 hKq6 => ?_; refine wp_seq_k fun Kq7 hKq7 => ?_; clear e17; clear e18; clear e19
    rw [List.take_length] at HN
    clear f2 f3 dj
    refine sm_list [2] 29 3 hs hd (by kernel_rfl) (agC e2 agN) rfl ?_
    simp only [seval]
    go_wp2_with fail
    intro a H; replace hs := H.s hs; replace hd := H.d rfl; replace e2 := H.g 2 rfl rfl; replace e3 := H.k e3 rfl; replace e5 := H.k e5 rfl; have e29 := H.g 29 rfl rfl; have e30 := H.g 30 rfl rfl; have e31 := H.g 31 rfl rfl; clear H; refine hKq7 _ _ ?_; clear hKq7 Kq7; refine wp_block ?_; clear e2; clear e5
    refine wp_loop (fun a w' => ∃ i : Nat, i ≤ xs.length ∧ a.tmps.size = 56 ∧ a.defers = [] ∧ a.tmps[3]? = some (.slice Ab ys.length cb) ∧ a.tmps[29]? = some (.slice Aa xs.length ca) ∧ a.tmps[30]? = some (.int .i64 (xs.length : Int)) ∧ a.tmps[31]? = some (.int .i64 (i : Int)) ∧ Below B w3 w' ∧ MetAll xs ys i) (fun a _ => xs.length - (intOf (a.tmps.getD 31 undef)).toNat) ?_ ?_
    · exact ⟨0, Nat.zero_le _, hs, hd, e3, e29, e30, e31, Below.refl _ _, fun p x hp => by omega⟩
    clear hs hd e31 e3 e29 e30 a
    rintro a w5 ⟨i, hi, hs, hd, e3, e29, e30, e31, hb5, hno⟩
    have HO := Lib.hid hno
    clear hno
    have hm := slot e31
    refine wp_seq_k fun Kq8 hKq8 => ?_
    by_cases hlt : i < xs.length
    ·
      have dj : decide ((i : Int) < (xs.length : Int)) = true := decide_eq_true (by omega)
      obtain ⟨x, hx⟩ : ∃ x, xs[i]? = some x := ⟨_, List.getElem?_eq_getElem hlt⟩
      obtain ⟨ad, hA, hadb, hcl⟩ := reads_at ecc_len (ha.below hb5) hx hlt
      have HX := Lib.hid hx
      have HC := Lib.hid hcl
      clear hx hcl
      rw [hA] at e29
      have HA := Lib.hid hA
      clear hA
      have hz5 : B ≤ w5.heap.size := by have := hb5.size; have := L0.size; rw [← HG.out] at this; omega
      refine sm_list [30, 31] 32 1 hs hd (by kernel_rfl) (agC e30 (agC e31 agN)) rfl ?_
      simp only [seval]
      go_wp2_with fail
      intro a H; replace hs := H.s hs; replace hd := H.d rfl; replace e30 := H.g 30 rfl rfl; replace e31 := H.g 31 rfl rfl; replace e3 := H.k e3 rfl; replace e29 := H.k e29 rfl; have e32 := H.g 32 rfl rfl; clear H; refine hKq8 _ _ ?_; clear hKq8 Kq8; refine wp_seq_k fun Kq9 hKq9 => ?_
      refine wp_cond_true (slotE e32) ?_
      clear e32; refine wp_skip ?_; refine hKq9 _ _ ?_; clear hKq9 Kq9; refine wp_seq_k fun Kq10 hKq10 => ?_; refine wp_block ?_; refine wp_seq_k fun Kq11 hKq11 => ?_
      have B12 := Blk.new w5 61 (ecc x).toArray
      have hb6 := hb5.alloc hz5 (.cells (ecc x).toArray 61)
      refine sm_list [11, 12, 29, 31] 33 3 hs hd (by kernel_rfl) (agU (agU (agC e29 (agC e31 agN)))) rfl ?_
      simp only [seval]
      go_wp2_with (first | (refine wpList_load_any_d rfl 61 (.tmp 5) rfl (ad.add (i * 2)) rfl ((ecc x).toArray) _ (by simpa using HC.out) Try.underlying61 rfl (by kernel_rfl) ?_) | (refine wpList_store_new rfl 61 (.tmp 1) (.tmp 6) rfl rfl rfl rfl rfl (by kernel_rfl) (by rw [← Array.all_toList]; rfl) ?_) | fail)
      intro a H; replace hs := H.s hs; replace hd := H.d rfl; replace e29 := H.g 29 rfl rfl; replace e31 := H.g 31 rfl rfl; replace e3 := H.k e3 rfl; replace e30 := H.k e30 rfl; have e11 := H.g 11 rfl rfl; have e12 := H.g 12 rfl rfl; clear H; refine hKq11 _ _ ?_; clear hKq11 Kq11; refine wp_seq_k fun Kq12 hKq12 => ?_
      generalize w5.alloc (.cells (ecc x).toArray 61) = w6 at *
      obtain ⟨g12, hq12⟩ : ∃ g12, g12 = w5.heap.size := ⟨_, rfl⟩
      rw [← hq12] at B12 e12
      have hz12 : B ≤ g12 := by omega
      clear hq12 hb5 hz5
      refine sm_list [3] 36 3 hs hd (by kernel_rfl) (agC e3 agN) rfl ?_
      simp only [seval]
      go_wp2_with fail
      intro a H; replace hs := H.s hs; replace hd := H.d rfl; replace e3 := H.g 3 rfl rfl; replace e29 := H.k e29 rfl; replace e30 := H.k e30 rfl; replace e31 := H.k e31 rfl; replace e11 := H.k e11 rfl; replace e12 := H.k e12 rfl; have e36 := H.g 36 rfl rfl; have e37 := H.g 37 rfl rfl; have e38 := H.g 38 rfl rfl; clear H; refine hKq12 _ _ ?_; clear hKq12 Kq12; refine wp_block ?_
      refine wp_loop (fun a w' => ∃ k : Nat, k ≤ ys.length ∧ a.tmps.size = 56 ∧ a.defers = [] ∧ a.tmps[3]? = some (.slice Ab ys.length cb) ∧ a.tmps[11]? = some (.int .i64 (i : Int)) ∧ a.tmps[12]? = some (.pointer (some ⟨g12, 0, none⟩)) ∧ a.tmps[29]? = some (.slice (some ad) xs.length ca) ∧ a.tmps[30]? = some (.int .i64 (xs.length : Int)) ∧ a.tmps[31]? = some (.int .i64 (i : Int)) ∧ a.tmps[36]? = some (.slice Ab ys.length cb) ∧ a.tmps[37]? = some (.int .i64 (ys.length : Int)) ∧ a.tmps[38]? = some (.int .i64 (k : Int)) ∧ Below B w3 w' ∧ Blk w' g12 61 (ecc x).toArray ∧ Met x i ys k) (fun a _ => ys.length - (intOf (a.tmps.getD 38 undef)).toNat) ?_ ?_
      · exact ⟨0, Nat.zero_le _, hs, hd, e3, e11, e12, e29, e30, e31, e36, e37, e38, hb6, B12, fun q y hq => by omega⟩
      clear hs hd e38 e3 e11 e12 e29 e30 e31 e36 e37 a B12 hb6
      rintro a w7 ⟨k, hk, hs, hd, e3, e11, e12, e29, e30, e31, e36, e37, e38, hb7, B12, hno⟩
      have HP := Lib.hid hno
      clear hno
      have hmk := slot e38
      refine wp_seq_k fun Kq13 hKq13 => ?_
      by_cases hlk : k < ys.length
      ·
        have dk : decide ((k : Int) < (ys.length : Int)) = true := decide_eq_true (by omega)
        obtain ⟨y, hy⟩ : ∃ y, ys[k]? = some y := ⟨_, List.getElem?_eq_getElem hlk⟩
        obtain ⟨bd, hD, hbdb, hcl⟩ := reads_at ecc_len (hb.below hb7) hy hlk
        have HY := Lib.hid hy
        have HD := Lib.hid hcl
        clear hy hcl
        rw [hD] at e36
        have HDD := Lib.hid hD
        clear hD
        have hz7 : B ≤ w7.heap.size := by have := B12.lt; omega
        refine sm_list [37, 38] 39 1 hs hd (by kernel_rfl) (agC e37 (agC e38 agN)) rfl ?_
        simp only [seval]
        go_wp2_with fail
        intro a H; replace hs := H.s hs; replace hd := H.d rfl; replace e37 := H.g 37 rfl rfl; replace e38 := H.g 38 rfl rfl; replace e3 := H.k e3 rfl; replace e11 := H.k e11 rfl; replace e12 := H.k e12 rfl; replace e29 := H.k e29 rfl; replace e30 := H.k e30 rfl; replace e31 := H.k e31 rfl; replace e36 := H.k e36 rfl; have e39 := H.g 39 rfl rfl; clear H; refine hKq13 _ _ ?_; clear hKq13 Kq13; refine wp_seq_k fun Kq14 hKq14 => ?_
        refine wp_cond_true (slotE e39) ?_
        clear e39; refine wp_skip ?_; refine hKq14 _ _ ?_; clear hKq14 Kq14; refine wp_seq_k fun Kq15 hKq15 => ?_; refine wp_block ?_; refine wp_seq_k fun Kq16 hKq16 => ?_
        have B14 := Blk.new w7 61 (ecc y).toArray
        have hb8 := hb7.alloc hz7 (.cells (ecc y).toArray 61)
        have B12b := B12.alloc (.cells (ecc y).toArray 61)
        refine sm_list [13, 14, 36, 38] 40 3 hs hd (by kernel_rfl) (agU (agU (agC e36 (agC e38 agN)))) rfl ?_
        simp only [seval]
        go_wp2_with (first | (refine wpList_load_any_d rfl 61 (.tmp 5) rfl (bd.add (k * 2)) rfl ((ecc y).toArray) _ (by simpa using HD.out) Try.underlying61 rfl (by kernel_rfl) ?_) | (refine wpList_store_new rfl 61 (.tmp 1) (.tmp 6) rfl rfl rfl rfl rfl (by kernel_rfl) (by rw [← Array.all_toList]; rfl) ?_) | fail)
        intro a H; replace hs := H.s hs; replace hd := H.d rfl; replace e36 := H.g 36 rfl rfl; replace e38 := H.g 38 rfl rfl; replace e3 := H.k e3 rfl; replace e11 := H.k e11 rfl; replace e12 := H.k e12 rfl; replace e29 := H.k e29 rfl; replace e30 := H.k e30 rfl; replace e31 := H.k e31 rfl; replace e37 := H.k e37 rfl; have e13 := H.g 13 rfl rfl; have e14 := H.g 14 rfl rfl; clear H; refine hKq16 _ _ ?_
        clear hKq16 Kq16; refine wp_seq_k fun Kq17 hKq17 => ?_
        obtain ⟨x1, x2⟩ := x
        obtain ⟨y1, y2⟩ := y
        have u0 := B12b.cellOf (v := .int .i64 x1) 0 rfl
        have u1 := B14.cellOf (v := .int .i64 y1) 0 rfl
        generalize w7.alloc (.cells (ecc (y1, y2)).toArray 61) = w8 at *
        suffices HK : ∀ (a' : Act), a'.tmps.size = a.tmps.size → a'.defers = [] → a'.tmps[3]? = a.tmps[3]? → a'.tmps[11]? = a.tmps[11]? → a'.tmps[12]? = a.tmps[12]? → a'.tmps[29]? = a.tmps[29]? → a'.tmps[30]? = a.tmps[30]? → a'.tmps[31]? = a.tmps[31]? → a'.tmps[36]? = a.tmps[36]? → a'.tmps[37]? = a.tmps[37]? → a'.tmps[38]? = a.tmps[38]? → a'.tmps[13]? = a.tmps[13]? → a'.tmps[14]? = a.tmps[14]? → a'.tmps[53]? = some (.bool (decide (x1 = y1 ∧ 0 < i + k))) → Kq17 a' w8 by
          obtain ⟨q, hq⟩ : ∃ q, (x1 == y1) = q := ⟨_, rfl⟩
          cases q
          all_goals
            refine sm_list [11, 12, 13, 14] 43 11 hs hd (by kernel_rfl) (agC e11 (agC e12 (agC e13 (agC e14 agN)))) rfl ?_
            simp only [seval]
            go_wp2_with fail
            all_goals
              intro a' H
              refine HK a' H.size H.defers (H.out 3 rfl) ((H.got rfl rfl).trans e11.symm) ((H.got rfl rfl).trans e12.symm) (H.out 29 rfl) (H.out 30 rfl) (H.out 31 rfl) (H.out 36 rfl) (H.out 37 rfl) (H.out 38 rfl) ((H.got rfl rfl).trans e13.symm) ((H.got rfl rfl).trans e14.symm) ?_
              · (refine (H.got (t := 53) rfl rfl).trans (congrArg some ?_); refine congrArg Value.bool ?_; first | exact (decide_eq_true (by have := eq_of_beq hq; omega)).symm | exact (decide_eq_false (by have := ne_of_beq_false hq; omega)).symm | exact decide_eq_decide.2 (by have := eq_of_beq hq; omega) | (have := eq_of_beq hq; rw [Bool.eq_iff_iff]; simp only [Bool.and_eq_true, decide_eq_true_eq] <;> omega))
        intro a' g_s g_d g3 g11 g12 g29 g30 g31 g36 g37 g38 g13 g14 f53
        replace hs := g_s.trans hs; replace hd := g_d; replace e3 := g3.trans e3; replace e11 := g11.trans e11; replace e12 := g12.trans e12; replace e29 := g29.trans e29; replace e30 := g30.trans e30; replace e31 := g31.trans e31; replace e36 := g36.trans e36; replace e37 := g37.trans e37; replace e38 := g38.trans e38; replace e13 := g13.trans e13; replace e14 := g14.trans e14; clear g_s g_d g3 g11 g12 g29 g30 g31 g36 g37 g38 g13 g14
        have e53 := f53
        clear f53; clear a
        obtain ⟨a, rfl⟩ : ∃ a, a = a' := ⟨_, rfl⟩
        refine hKq17 _ _ ?_; clear hKq17 Kq17; clear e14; clear e13; clear u0 u1 B14 B12
        by_cases hv : x1 = y1 ∧ 0 < i + k
        · rw [decide_eq_true hv] at e53
          have HV := Lib.hid (apartV_node (w0 := f.w0) (w1 := f.w1) HX.out HY.out hv)
          clear hv
          refine wp_cond_true (slotE e53) ?_
          clear e53; refine wp_seq_k fun Kq18 hKq18 => ?_
          refine sm_list [] 8 1 hs hd (by kernel_rfl) agN rfl ?_
          simp only [seval]
          go_wp2_with fail
          intro a H; replace hs := H.s hs; replace hd := H.d rfl; replace e3 := H.k e3 rfl; replace e11 := H.k e11 rfl; replace e12 := H.k e12 rfl; replace e29 := H.k e29 rfl; replace e30 := H.k e30 rfl; replace e31 := H.k e31 rfl; replace e36 := H.k e36 rfl; replace e37 := H.k e37 rfl; replace e38 := H.k e38 rfl; have e8 := H.g 8 rfl rfl; clear H; refine hKq18 _ _ ?_; clear hKq18 Kq18; refine wp_ret ?_
          refine ret_block ?_; refine exit_then rfl ?_; refine exit_then rfl ?_; refine ret_block ?_; refine ret_block ?_; refine exit_then rfl ?_; refine exit_then rfl ?_; refine ret_block ?_; refine exit_then rfl ?_
          rw [← HV.out] at e8
          exact sm_ret rfl hd e8 ⟨rfl, by rw [← HG.out]; exact L0.trans hb8⟩
        · rw [decide_eq_false hv] at e53
          have HV := Lib.hid hv
          clear hv
          refine wp_cond_false (slotE e53) ?_
          clear e53; refine wp_skip ?_; refine hKq15 _ _ ?_; clear hKq15 Kq15
          refine sm_list [38] 54 1 hs hd (by kernel_rfl) (agC e38 agN) rfl ?_
          simp only [seval]
          go_wp2_with fail
          intro a H; replace hs := H.s hs; replace hd := H.d rfl; replace e3 := H.k e3 rfl; replace e11 := H.k e11 rfl; replace e12 := H.k e12 rfl; replace e29 := H.k e29 rfl; replace e30 := H.k e30 rfl; replace e31 := H.k e31 rfl; replace e36 := H.k e36 rfl; replace e37 := H.k e37 rfl; replace e38 := H.g 38 rfl rfl; clear H
          rw [← HDD.out] at e36
          refine ⟨⟨k + 1, by omega, hs, hd, e3, e11, e12, e29, e30, e31, e36, e37, e38, hb8, B12b, fun q y hq hy => ?_⟩, by first | (simp only [hmk, slot e38, intOf]; omega) | (simp [e38, intOf]; omega)⟩
          rcases Nat.lt_succ_iff_lt_or_eq.1 hq with hq | rfl
          · exact HP.out q y hq hy
          · rw [HY.out] at hy; obtain rfl := Option.some.inj hy; exact HV.out
      · obtain rfl : k = ys.length := by omega
        have dk : decide ((ys.length : Int) < (ys.length : Int)) = false := decide_eq_false (by omega)
        clear hlk hmk
        refine sm_list [37, 38] 39 1 hs hd (by kernel_rfl) (agC e37 (agC e38 agN)) rfl ?_
        simp only [seval]
        go_wp2_with fail
        intro a H; replace hs := H.s hs; replace hd := H.d rfl; replace e37 := H.g 37 rfl rfl; replace e38 := H.g 38 rfl rfl; replace e3 := H.k e3 rfl; replace e11 := H.k e11 rfl; replace e12 := H.k e12 rfl; replace e29 := H.k e29 rfl; replace e30 := H.k e30 rfl; replace e31 := H.k e31 rfl; replace e36 := H.k e36 rfl; have e39 := H.g 39 rfl rfl; clear H; refine hKq13 _ _ ?_; clear hKq13 Kq13; refine wp_seq_k fun Kq14 hKq14 => ?_
        refine wp_cond_false (slotE e39) ?_
        clear e39; refine wp_exit ?_; refine exit_then rfl ?_; clear hKq14 Kq14; refine exit_then rfl ?_; refine exit_hit ?_; refine hKq10 _ _ ?_; clear hKq10 Kq10; clear e11; clear e12; clear e36; clear e37; clear e38
        refine sm_list [31] 55 1 hs hd (by kernel_rfl) (agC e31 agN) rfl ?_
        simp only [seval]
        go_wp2_with fail
        intro a H; replace hs := H.s hs; replace hd := H.d rfl; replace e3 := H.k e3 rfl; replace e29 := H.k e29 rfl; replace e30 := H.k e30 rfl; replace e31 := H.g 31 rfl rfl; clear H
        rw [← HA.out] at e29
        refine ⟨⟨i + 1, by omega, hs, hd, e3, e29, e30, e31, hb7, fun p x2 hp hx => ?_⟩, by first | (simp only [hm, slot e31, intOf]; omega) | (simp [e31, intOf]; omega)⟩
        rcases Nat.lt_succ_iff_lt_or_eq.1 hp with hp | rfl
        · exact HO.out p x2 hp hx
        · rw [HX.out] at hx; obtain rfl := Option.some.inj hx; exact HP.out
    · obtain rfl : i = xs.length := by omega
      have dj : decide ((xs.length : Int) < (xs.length : Int)) = false := decide_eq_false (by omega)
      clear hlt hm
      refine sm_list [30, 31] 32 1 hs hd (by kernel_rfl) (agC e30 (agC e31 agN)) rfl ?_
      simp only [seval]
      go_wp2_with fail
      intro a H; replace hs := H.s hs; replace hd := H.d rfl; replace e30 := H.g 30 rfl rfl; replace e31 := H.g 31 rfl rfl; replace e3 := H.k e3 rfl; replace e29 := H.k e29 rfl; have e32 := H.g 32 rfl rfl; clear H; refine hKq8 _ _ ?_; clear hKq8 Kq8; refine wp_seq_k fun Kq9 hKq9 => ?_
      refine wp_cond_false (slotE e32) ?_
      clear e32; refine wp_exit ?_; refine exit_then rfl ?_; clear hKq9 Kq9; refine exit_then rfl ?_; refine exit_hit ?_; refine hKq6 _ _ ?_; clear hKq6 Kq6; refine wp_seq_k fun Kq10 hKq10 => ?_
      refine sm_list [] 8 1 hs hd (by kernel_rfl) agN rfl ?_
      simp only [seval]
      go_wp2_with fail
      intro a H; replace hs := H.s hs; replace hd := H.d rfl; replace e3 := H.k e3 rfl; replace e29 := H.k e29 rfl; replace e30 := H.k e30 rfl; replace e31 := H.k e31 rfl; have e8 := H.g 8 rfl rfl; clear H; refine hKq10 _ _ ?_; clear hKq10 Kq10; refine wp_ret ?_
      have hV : apartV f.w0 f.w1 xs ys = true := apartV_true HN.out fun p q x y hx hy => HO.out p x (List.getElem?_eq_some_iff.1 hx).1 hx q y (List.getElem?_eq_some_iff.1 hy).1 hy
      rw [← hV] at e8
      exact sm_ret rfl hd e8 ⟨rfl, by rw [← HG.out]; exact L0.trans hb5⟩
end Go.Proofs.Ytaegngcbiefckaa
