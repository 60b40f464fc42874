/-
  TreeForms: the entry, and the clocks.
-/
import Derived.Test.YtcdgofndfajekaaFmM
import Derived.Test.YtcdgofndfajekaaFmR
namespace Go.Proofs.Ytcdgofndfajekaa
set_option linter.unusedSimpArgs false
set_option linter.unusedVariables false
open Go.RowKit Go.WideShapes Go.ChangeShapes
attribute [local go_sem ↓] Go.wp_at_zero Go.wp_at_succ

set_option maxRecDepth 100000 in
set_option maxHeartbeats 4000000 in
theorem tf_enter (R : Nat → Pr) (A0 A1 A2 : Option Addr) (n c0 nl c1 ns c2 : Nat) (w0 : World) (hr : Reads w0 w0.heap.size 4 A0 n ((List.range n).flatMap fun k => pcl (R k))) (hn : n ≤ maxLen) (hnl : nl ≤ maxLen)
    (hend : ∀ (a : Act) (w : World) (g0 g8 c0 : Nat) (v8 : Value) (F : List Nat) (Bs : List Bks) (L : List Tre) (PS : List (List Value)), a.tmps.size = 463 → a.defers = [] → a.tmps[0]? = some (.slice (some ⟨g0, 0, none⟩) n c0) → a.tmps[1]? = some (.slice A1 nl c1) → a.tmps[2]? = some (.slice A2 ns c2) → a.tmps[6]? = some (.bool false) → a.tmps[7]? = some (.int .i64 (n : Int)) → a.tmps[8]? = some (.pointer (some ⟨g8, 0, none⟩)) → Sa w0 w g0 g8 n n v8 R F Bs L PS → 1 ≤ n → n ≤ 7 → nl ≤ 12 → Code.wp Try.prog (sub [true, true, true, true, true, true, true] (bodyOf Try.f4)) (bodyPost Try.prog Try.f4 fun e w' => e = .returned (.bool true) ∧ Below w0.heap.size w0 w') a w) :
    Calls Try.prog 4 #[.slice A0 n c0, .slice A1 nl c1, .slice A2 ns c2] w0 fun e w' => e = .returned (.bool true) ∧ Below w0.heap.size w0 w' := by
  have HEND := Lib.hid hend
  have HR := Lib.hid hr
  clear hend hr
  refine calls_sm (N := 463) Try.func4 rfl (by kernel_rfl) ?_
  intro a hs hd ha
  have e0 : a.tmps[0]? = some (.slice A0 n c0) := ha 0 _ rfl
  have e1 : a.tmps[1]? = some (.slice A1 nl c1) := ha 1 _ rfl
  have e2 : a.tmps[2]? = some (.slice A2 ns c2) := ha 2 _ rfl
  clear ha
  conv => arg 2; whnf
  refine wp_seq_k fun Kq1 hKq1 => ?_
  refine sm_list [] 6 1 hs hd (by kernel_rfl) agN rfl ?_
  simp only [seval]
  go_wp2_with fail
  intro a H; replace hs := H.s hs; replace hd := H.d rfl; replace e0 := H.k e0 rfl; replace e1 := H.k e1 rfl; replace e2 := H.k e2 rfl; have e6 := H.g 6 rfl rfl; clear H; refine hKq1 _ _ ?_; clear hKq1 Kq1; refine wp_seq_k fun Kq2 hKq2 => ?_; refine wp_seq_k fun Kq3 hKq3 => ?_
  refine sm_list [] 46 2 hs hd (by kernel_rfl) agN rfl ?_
  simp only [seval]
  go_wp2_with fail
  refine (head_any w0).mono ?_
  rintro e w1 ⟨rfl, b1⟩
  have HB1 := Lib.hid b1
  clear b1
  go_wp2_with fail
  intro a H; replace hs := H.s hs; replace hd := H.d rfl; replace e0 := H.k e0 rfl; replace e1 := H.k e1 rfl; replace e2 := H.k e2 rfl; replace e6 := H.k e6 rfl; have e47 := H.g 47 rfl rfl; clear H; refine hKq3 _ _ ?_; clear hKq3 Kq3
  refine wp_cond_false (slotE e47) ?_
  clear e47; refine wp_skip ?_; refine hKq2 _ _ ?_; clear hKq2 Kq2; refine wp_seq_k fun Kq4 hKq4 => ?_
  refine sm_list [0, 7] 48 2 hs hd (by kernel_rfl) (agC e0 (agU agN)) rfl ?_
  simp only [seval]
  go_wp2_with fail
  intro a H; replace hs := H.s hs; replace hd := H.d rfl; replace e0 := H.g 0 rfl rfl; replace e1 := H.k e1 rfl; replace e2 := H.k e2 rfl; replace e6 := H.k e6 rfl; have e7 := H.g 7 rfl rfl; clear H; refine hKq4 _ _ ?_; clear hKq4 Kq4; refine wp_seq_k fun Kq5 hKq5 => ?_; refine wp_seq_k fun Kq6 hKq6 => ?_
  have hn2 : (n : Int) ≤ 9223372036854775807 := by unfold maxLen at hn; omega
  have hnl2 : (nl : Int) ≤ 9223372036854775807 := by unfold maxLen at hnl; omega
  obtain ⟨B, hB⟩ : ∃ B, B = decide (n < 1 ∨ 7 < n ∨ 12 < nl) := ⟨_, rfl⟩
  have hcase : (decide ((n : Int) < 1) = true ∧ B = true) ∨ (decide ((n : Int) < 1) = false ∧ decide ((7 : Int) < (n : Int)) = true ∧ B = true) ∨ (decide ((n : Int) < 1) = false ∧ decide ((7 : Int) < (n : Int)) = false ∧ decide ((12 : Int) < (nl : Int)) = true ∧ B = true) ∨ (decide ((n : Int) < 1) = false ∧ decide ((7 : Int) < (n : Int)) = false ∧ decide ((12 : Int) < (nl : Int)) = false ∧ B = false) := by
      have e1 : decide ((n : Int) < 1) = decide (n < 1) := decide_eq_decide.2 (by omega)
      have e2 : decide ((7 : Int) < (n : Int)) = decide (7 < n) := decide_eq_decide.2 (by omega)
      have e3 : decide ((12 : Int) < (nl : Int)) = decide (12 < nl) := decide_eq_decide.2 (by omega)
      rw [hB, e1, e2, e3]; by_cases a1 : n < 1 <;> by_cases a2 : 7 < n <;> by_cases a3 : 12 < nl <;> simp [a1, a2, a3]
  have HB := Lib.hid hB
  clear hB
  suffices HK : ∀ (a' : Act), a'.tmps.size = a.tmps.size → a'.defers = [] → a'.tmps[0]? = a.tmps[0]? → a'.tmps[1]? = a.tmps[1]? → a'.tmps[2]? = a.tmps[2]? → a'.tmps[6]? = a.tmps[6]? → a'.tmps[7]? = a.tmps[7]? → a'.tmps[60]? = some (.bool B) → Kq6 a' w1 by
    rcases hcase with ⟨k1, rfl⟩ | ⟨k1, k2, rfl⟩ | ⟨k1, k2, k3, rfl⟩ | ⟨k1, k2, k3, rfl⟩
    all_goals
      refine sm_list [1, 7] 50 11 hs hd (by kernel_rfl) (agC e1 (agC e7 agN)) rfl ?_
      simp only [seval]
      go_wp2_with fail
      all_goals
        intro a' H
        refine HK a' H.size H.defers (H.out 0 rfl) ((H.got rfl rfl).trans e1.symm) (H.out 2 rfl) (H.out 6 rfl) ((H.got rfl rfl).trans e7.symm) ?_
        · exact H.got rfl rfl
  intro a' g_s g_d g0 g1 g2 g6 g7 f60
  replace hs := g_s.trans hs; replace hd := g_d; replace e0 := g0.trans e0; replace e1 := g1.trans e1; replace e2 := g2.trans e2; replace e6 := g6.trans e6; replace e7 := g7.trans e7; clear g_s g_d g0 g1 g2 g6 g7
  have e60 := f60
  clear f60; clear a
  obtain ⟨a, rfl⟩ : ∃ a, a = a' := ⟨_, rfl⟩
  refine hKq6 _ _ ?_; clear hKq6 Kq6; clear hcase
  by_cases hsk : n < 1 ∨ 7 < n ∨ 12 < nl
  · obtain rfl : B = true := HB.out.trans (decide_eq_true hsk)
    refine wp_cond_true (slotE e60) ?_
    clear e60; refine wp_seq_k fun Kq7 hKq7 => ?_
    refine sm_list [] 6 1 hs hd (by kernel_rfl) agN rfl ?_
    simp only [seval]
    go_wp2_with fail
    intro a H; replace hs := H.s hs; replace hd := H.d rfl; replace e0 := H.k e0 rfl; replace e1 := H.k e1 rfl; replace e2 := H.k e2 rfl; replace e7 := H.k e7 rfl; replace e6 := H.g 6 rfl rfl; clear H; refine hKq7 _ _ ?_; clear hKq7 Kq7; refine wp_ret ?_; refine exit_then rfl ?_
    exact sm_ret rfl hd e6 ⟨rfl, HB1.out⟩
  obtain rfl : B = false := HB.out.trans (decide_eq_false hsk)
  have hn1 : 1 ≤ n ∧ n ≤ 7 ∧ nl ≤ 12 := by omega
  clear HB hsk
  refine wp_cond_false (slotE e60) ?_
  clear e60; refine wp_skip ?_; refine hKq5 _ _ ?_; clear hKq5 Kq5; refine wp_seq_k fun Kq7 hKq7 => ?_
  refine sm_list [8] 61 1 hs hd (by kernel_rfl) (agU agN) rfl ?_
  simp only [seval]
  go_wp2_with fail
  intro a H; replace hs := H.s hs; replace hd := H.d rfl; replace e0 := H.k e0 rfl; replace e1 := H.k e1 rfl; replace e2 := H.k e2 rfl; replace e6 := H.k e6 rfl; replace e7 := H.k e7 rfl; have e8 := H.g 8 rfl rfl; clear H; refine hKq7 _ _ ?_; clear hKq7 Kq7; refine wp_seq_k fun Kq8 hKq8 => ?_
  have L2 : Below w0.heap.size w0 ((w1.alloc (.cells #[] 26)).alloc (.cells #[.slice (some ⟨w1.heap.size, 0, none⟩) 0 0] 61)) := (HB1.out.alloc HB1.out.size _).alloc (by have := HB1.out.size; simp; omega) _
  have B8 : Blk ((w1.alloc (.cells #[] 26)).alloc (.cells #[.slice (some ⟨w1.heap.size, 0, none⟩) 0 0] 61)) (w1.heap.size + 1) 61 #[.slice (some ⟨w1.heap.size, 0, none⟩) 0 0] := Blk.at_new _ _ _ (by simp)
  have O8 : ((w1.alloc (.cells #[] 26)).alloc (.cells #[.slice (some ⟨w1.heap.size, 0, none⟩) 0 0] 61)).ownsRow w0.heap.size 26 1 (.slice (some ⟨w1.heap.size, 0, none⟩) 0 0) 0 [] := by
      have h := ownsRow_new (e := 26) (size := 1) (n := 0) (cs := #[]) w1 (base := w0.heap.size) HB1.out.size rfl (Nat.zero_le _)
      exact h.alloc _
  have hz : w0.heap.size ≤ w1.heap.size := HB1.out.size
  generalize ((w1.alloc (.cells #[] 26)).alloc (.cells #[.slice (some ⟨w1.heap.size, 0, none⟩) 0 0] 61)) = w2 at *
  obtain ⟨g8, hg8⟩ : ∃ g, g = w1.heap.size + 1 := ⟨_, rfl⟩
  rw [← hg8] at B8 e8
  have hg8w : w0.heap.size ≤ g8 := by omega
  obtain ⟨v8, hv8⟩ : ∃ v, v = Value.slice (some ⟨w1.heap.size, 0, none⟩) 0 0 := ⟨_, rfl⟩
  rw [← hv8] at B8 O8
  clear hg8 hv8 hz HB1 w1
  have LL := (Below.refl w2.heap.size w2).alloc (Nat.le_refl _) (.cells #[] 23)
  have O7 := ownsRow_new (e := 23) (size := 4) (n := 0) (cs := #[]) w2 (base := w0.heap.size) L2.size rfl (Nat.zero_le _)
  have L3 := L2.trans (LL.mono L2.size)
  have B83 := B8.kept LL
  have O83 := ownsRow_keep O8 LL
  have R3 := HR.out.below L3
  have hone : ∀ u ∈ ((List.range n).flatMap fun k => pcl (R k)), u.oneCell' = true := by
      intro u hu
      obtain ⟨k, _, hk⟩ := List.mem_flatMap.1 hu
      simp [pcl] at hk
      rcases hk with rfl | rfl | rfl | rfl <;> rfl
  have hz3 : w0.heap.size ≤ (w2.alloc (.cells #[] 23)).heap.size := L3.size
  have HY := Lib.hid (And.intro B83 (And.intro O83 L3))
  clear B83 O83 L3 LL L2 B8 O8
  refine sm_list [0] 62 3 hs hd (by kernel_rfl) (agC e0 agN) rfl ?_
  simp only [seval]
  go_wp2_with (refine wpList_pushR rfl (.tmp 1) (.tmp 2) 59 rfl styP rfl R3 hone rfl O7 (by omega) hz3 ?_; intro v0 w4 own4 gr4)
  intro a H; replace hs := H.s hs; replace hd := H.d rfl; replace e1 := H.k e1 rfl; replace e2 := H.k e2 rfl; replace e6 := H.k e6 rfl; replace e7 := H.k e7 rfl; replace e8 := H.k e8 rfl; replace e0 := H.g 0 rfl rfl; clear H; refine hKq8 _ _ ?_; clear hKq8 Kq8; refine wp_seq_k fun Kq9 hKq9 => ?_; refine wp_seq_k fun Kq10 hKq10 => ?_
  obtain ⟨B83, O83, L3⟩ := HY.out
  have L4 := L3.trans (below_of_grown gr4 O7 hz3)
  have B84 := B83.grown gr4 (own_blk_ne O7 B83 (by decide)).symm
  have O84 := own_type O83 (row_type O7 gr4 (by decide))
  rw [Nat.zero_add] at own4
  have own5 : w4.ownsRow w0.heap.size 23 4 v0 n ((List.range n).flatMap fun k => pcl (R k)) := by simpa using own4
  obtain ⟨g0, c0', rfl, hg0, pr4⟩ := PrR.of_row own5 (by omega)
  clear own4 own5 gr4 O7 R3 hone hz3 HY B83 O83 L3 c0 HR
  obtain ⟨c0, rfl⟩ : ∃ c, c = c0' := ⟨_, rfl⟩
  have SA : Sa w0 w4 g0 g8 n 0 v8 R [] [] [] [] := ⟨L4, hg0, hg8w, pr4, B84, O84, Nt.nil _, by simp, rfl⟩
  clear L4 pr4 B84 O84 hg0 hg8w
  refine sm_list [0] 65 3 hs hd (by kernel_rfl) (agC e0 agN) rfl ?_
  simp only [seval]
  go_wp2_with fail
  intro a H; replace hs := H.s hs; replace hd := H.d rfl; replace e0 := H.g 0 rfl rfl; replace e1 := H.k e1 rfl; replace e2 := H.k e2 rfl; replace e6 := H.k e6 rfl; replace e7 := H.k e7 rfl; replace e8 := H.k e8 rfl; have e65 := H.g 65 rfl rfl; have e66 := H.g 66 rfl rfl; have e67 := H.g 67 rfl rfl; clear H; refine hKq10 _ _ ?_; clear hKq10 Kq10; refine wp_block ?_
  refine wp_loop (fun a w => ∃ (i : Nat) (v8 : Value) (F : List Nat) (Bs : List Bks) (L : List Tre) (PS : List (List Value)), i ≤ n ∧ a.tmps.size = 463 ∧ a.defers = [] ∧ a.tmps[0]? = some (.slice (some ⟨g0, 0, none⟩) n c0) ∧ a.tmps[1]? = some (.slice A1 nl c1) ∧ a.tmps[2]? = some (.slice A2 ns c2) ∧ a.tmps[6]? = some (.bool false) ∧ a.tmps[7]? = some (.int .i64 (n : Int)) ∧ a.tmps[8]? = some (.pointer (some ⟨g8, 0, none⟩)) ∧ a.tmps[65]? = some (.slice (some ⟨g0, 0, none⟩) n c0) ∧ a.tmps[66]? = some (.int .i64 (n : Int)) ∧ a.tmps[67]? = some (.int .i64 (i : Int)) ∧ Sa w0 w g0 g8 n i v8 R F Bs L PS) (fun a _ => n - (intOf (a.tmps.getD 67 undef)).toNat) ?_ ?_
  · exact ⟨0, v8, [], [], [], [], Nat.zero_le _, hs, hd, e0, e1, e2, e6, e7, e8, e65, e66, e67, SA⟩
  clear hs hd e67 e0 e1 e2 e6 e7 e8 e65 e66 a SA v8
  rintro a w5 ⟨i, v8, F, Bs, L, PS, hi, hs, hd, e0, e1, e2, e6, e7, e8, e65, e66, e67, SA⟩
  have hm := slot e67
  refine wp_seq_k fun Kq11 hKq11 => ?_
  by_cases hlt3 : i < n
  ·
    have dj : decide ((i : Int) < (n : Int)) = true := decide_eq_true (by omega)
    have hi0 : (0 : Int) ≤ (i : Int) := by omega
    have hi1 : (i : Int) < (n : Int) := by omega
    have hn7 : (n : Int) ≤ 7 := by omega
    refine sm_list [66, 67] 68 1 hs hd (by kernel_rfl) (agC e66 (agC e67 agN)) rfl ?_
    simp only [seval]
    go_wp2_with fail
    intro a H; replace hs := H.s hs; replace hd := H.d rfl; replace e66 := H.g 66 rfl rfl; replace e67 := H.g 67 rfl rfl; replace e0 := H.k e0 rfl; replace e1 := H.k e1 rfl; replace e2 := H.k e2 rfl; replace e6 := H.k e6 rfl; replace e7 := H.k e7 rfl; replace e8 := H.k e8 rfl; replace e65 := H.k e65 rfl; have e68 := H.g 68 rfl rfl; clear H; refine hKq11 _ _ ?_; clear hKq11 Kq11; refine wp_seq_k fun Kq12 hKq12 => ?_
    refine wp_cond_true (slotE e68) ?_
    clear e68; refine wp_skip ?_; refine hKq12 _ _ ?_; clear hKq12 Kq12; refine wp_seq_k fun Kq13 hKq13 => ?_; refine wp_block ?_; refine wp_seq_k fun Kq14 hKq14 => ?_
    have hpr : ∀ (r : Nat) (v : Value), (#[.int .i64 (R i).one, .int .i64 (R i).cls, .int .i64 (R i).two, .int .i64 (R i).id] : Array Value).toList[r]? = some v → w5.cell? ((⟨g0, i * 4, none⟩ : Addr).add r) = some v := fun r v hv => SA.pr.cellA hlt3 (by simp only [Nat.lt_irrefl, if_false]; exact hv)
    have HC := Lib.hid hpr
    have HSA := Lib.hid SA
    clear hpr SA
    refine sm_list [9, 10, 65, 67] 69 3 hs hd (by kernel_rfl) (agU (agU (agC e65 (agC e67 agN)))) rfl ?_
    simp only [seval]
    go_wp2_with (first | (refine wpList_load_any_d rfl 23 (.tmp 5) rfl ⟨g0, i * 4, none⟩ rfl (#[.int .i64 (R i).one, .int .i64 (R i).cls, .int .i64 (R i).two, .int .i64 (R i).id]) _ HC.out Try.underlying23 rfl (by kernel_rfl) ?_) | (refine wpList_store_new rfl 23 (.tmp 1) (.tmp 6) rfl rfl rfl rfl rfl (by kernel_rfl) (by rw [← Array.all_toList]; rfl) ?_) | fail)
    intro a H; replace hs := H.s hs; replace hd := H.d rfl; replace e65 := H.g 65 rfl rfl; replace e67 := H.g 67 rfl rfl; replace e0 := H.k e0 rfl; replace e1 := H.k e1 rfl; replace e2 := H.k e2 rfl; replace e6 := H.k e6 rfl; replace e7 := H.k e7 rfl; replace e8 := H.k e8 rfl; replace e66 := H.k e66 rfl; have e9 := H.g 9 rfl rfl; have e10 := H.g 10 rfl rfl; clear H; refine hKq14 _ _ ?_; clear hKq14 Kq14
    refine wp_seq_k fun Kq15 hKq15 => ?_
    have LL : Below w5.heap.size w5 (w5.alloc (.cells #[.int .i64 (R i).one, .int .i64 (R i).cls, .int .i64 (R i).two, .int .i64 (R i).id] 23)) := (Below.refl _ _).alloc (Nat.le_refl _) _
    have B10 := Blk.new w5 23 #[.int .i64 (R i).one, .int .i64 (R i).cls, .int .i64 (R i).two, .int .i64 (R i).id]
    have hgz : g0 < w5.heap.size := HSA.out.pr.lt
    obtain ⟨g10, hg10⟩ : ∃ g, g = w5.heap.size := ⟨_, rfl⟩
    rw [← hg10] at B10 e10
    generalize (w5.alloc (.cells #[.int .i64 (R i).one, .int .i64 (R i).cls, .int .i64 (R i).two, .int .i64 (R i).id] 23)) = w6 at *
    have hg01 : g10 ≠ g0 := by omega
    have HL6 := Lib.hid (And.intro LL hg10)
    clear LL hg10 HC hgz
    have x0 := B10.cellOf (v := .int .i64 (R i).one) 0 rfl
    have x1 := B10.cellOf (v := .int .i64 (R i).cls) 1 rfl
    have x2 := B10.cellOf (v := .int .i64 (R i).two) 2 rfl
    have w10 : IntKind.i64.wrap (10 + (i : Int)) = 10 + (i : Int) := IntWalk.i64_in _ ⟨by omega, by omega⟩
    have HB10 := Lib.hid B10
    clear B10
    refine sm_list [9, 10] 72 12 hs hd (by kernel_rfl) (agC e9 (agC e10 agN)) rfl ?_
    simp only [seval]
    go_wp2_with (first | (refine wpList_store_part rfl 23 (.tmp 1) (.tmp 13) rfl (off := 0) rfl HB10.out rfl (by simp) (by kernel_rfl) (by rw [← Array.all_toList]; rfl) ?_; intro w7 B7 z7 gr7) | fail)
    intro a H; replace hs := H.s hs; replace hd := H.d rfl; replace e9 := H.g 9 rfl rfl; replace e10 := H.g 10 rfl rfl; replace e0 := H.k e0 rfl; replace e1 := H.k e1 rfl; replace e2 := H.k e2 rfl; replace e6 := H.k e6 rfl; replace e7 := H.k e7 rfl; replace e8 := H.k e8 rfl; replace e65 := H.k e65 rfl; replace e66 := H.k e66 rfl; replace e67 := H.k e67 rfl; clear H; refine hKq15 _ _ ?_; clear hKq15 Kq15
    refine wp_seq_k fun Kq16 hKq16 => ?_
    have B7' : Blk w7 g10 23 #[.int .i64 (maskP (R i) i).one, .int .i64 (maskP (R i) i).cls, .int .i64 (maskP (R i) i).two, .int .i64 (maskP (R i) i).id] := by simpa [putAll, maskP] using B7
    have hb67 : Below w5.heap.size w5 w7 := HL6.out.1.grown gr7 HL6.out.1.size (fun k hk => by cases hk; exact Nat.le_of_eq HL6.out.2.symm)
    have pr7 := HSA.out.pr.kept hb67
    obtain ⟨cur, BC, hcs, hcc⟩ := pr7
    have hi4 : i * 4 + 4 ≤ cur.size := by omega
    have HB7 := Lib.hid B7'
    have HBC := Lib.hid BC
    have HC7 := Lib.hid (And.intro hcs (And.intro hcc hb67))
    clear B7 B7' gr7 z7 x0 x1 x2 w10 HL6 HB10 BC hcs hcc hb67
    refine sm_list [0, 9, 10] 84 4 hs hd (by kernel_rfl) (agC e0 (agC e9 (agC e10 agN))) rfl ?_
    simp only [seval]
    go_wp2_with (first | (refine wpList_load_any_d rfl 23 (.tmp 2) rfl ⟨g10, 0, none⟩ rfl (#[.int .i64 (maskP (R i) i).one, .int .i64 (maskP (R i) i).cls, .int .i64 (maskP (R i) i).two, .int .i64 (maskP (R i) i).id]) _ (blk_cells HB7.out) Try.underlying23 rfl (by kernel_rfl) ?_) | (refine wpList_store_part rfl 23 (.tmp 6) (.tmp 5) rfl (off := i * 4) rfl HBC.out rfl hi4 (by kernel_rfl) (by rw [← Array.all_toList]; rfl) ?_; intro w8 B8 z8 gr8) | fail)
    intro a H; replace hs := H.s hs; replace hd := H.d rfl; replace e0 := H.g 0 rfl rfl; replace e9 := H.g 9 rfl rfl; replace e10 := H.g 10 rfl rfl; replace e1 := H.k e1 rfl; replace e2 := H.k e2 rfl; replace e6 := H.k e6 rfl; replace e7 := H.k e7 rfl; replace e8 := H.k e8 rfl; replace e65 := H.k e65 rfl; replace e66 := H.k e66 rfl; replace e67 := H.k e67 rfl; clear H; refine hKq16 _ _ ?_; clear hKq16 Kq16
    refine wp_seq_k fun Kq17 hKq17 => ?_
    have B108 := HB7.out.grown gr8 (by simp; exact hg01)
    have hb7 := HC7.out.2.2
    have pr8 : PrR w8 g0 n (fun k => if k < i + 1 then maskP (R k) k else R k) := PrR.put HC7.out.1 HC7.out.2.1 hlt3 (maskP (R i) i) B8 (fun k hk => by
      by_cases h : k = i
      · subst h; simp
      · by_cases h2 : k < i
        · rw [if_pos (by omega), if_neg h, if_pos h2]
        · rw [if_neg (by omega), if_neg h, if_neg h2])
    have bx7 := HSA.out.box.kept hb7
    have rw7 := ownsRow_keep HSA.out.row hb7
    have nt7 := HSA.out.nt.kept hb7; have hg0 := HSA.out.b0
    have lo7 : Below w0.heap.size w0 w7 := HSA.out.low.trans (hb7.mono HSA.out.low.size)
    have lo8 : Below w0.heap.size w0 w8 := lo7.grown gr8 lo7.size (fun k hk => by cases hk; exact hg0)
    have bx8 := bx7.grown gr8 (by intro e; injection e with e; exact Blk.ne_ bx7 HBC.out (by decide) e)
    have rw8 := own_kept rw7 gr8 (fun k hk e => by injection e with e; subst e; exact own_blk_ne rw7 HBC.out (by decide) hk)
    have nt8 := nt7.blk0 HSA.out.paths HBC.out (by decide) gr8
    have HS8 := Lib.hid (And.intro lo8 (And.intro pr8 (And.intro bx8 (And.intro rw8 (And.intro nt8 B108)))))
    clear B108 hb7 pr8 bx7 rw7 nt7 lo7 lo8 bx8 rw8 nt8 B8 z8 gr8 HC7 HBC HB7 hg0
    have hWho := mask_who (R := R) (n := n) hn1.2.1
    have hok1 : okN 255 [(maskP (R i) i).one, (maskP (R i) i).cls, (maskP (R i) i).two, 0] = true := (hWho.okr hlt3).1
    have hok2 : okN ids [(maskP (R i) i).id] = true := (hWho.okr hlt3).2.1
    have HN := Lib.hid (new_right 0 (maskP (R i) i) 8 5 w8 (by omega) (by omega) (by omega) hok1 hok2)
    have HTK := Lib.hid (new_tok hWho hlt3)
    have HB10 := Lib.hid HS8.out.2.2.2.2.2
    clear hWho hok1 hok2
    refine sm_list [10, 11, 12] 88 5 hs hd (by kernel_rfl) (agC e10 (agU (agU agN))) rfl ?_
    simp only [seval]
    go_wp2_with (first | (refine wpList_load_any_d rfl 23 (.tmp 0) rfl ⟨g10, 0, none⟩ rfl (#[.int .i64 (maskP (R i) i).one, .int .i64 (maskP (R i) i).cls, .int .i64 (maskP (R i) i).two, .int .i64 (maskP (R i) i).id]) _ (blk_cells HB10.out) Try.underlying23 rfl (by kernel_rfl) ?_) | fail)
    refine HN.out.mono ?_
    rintro e w9 ⟨b, ps, rfl, T9, f9, b9⟩
    have H9 := Lib.hid (And.intro T9 (And.intro f9 b9))
    clear T9 f9 b9
    go_wp2_with fail
    intro a H; replace hs := H.s hs; replace hd := H.d rfl; replace e0 := H.k e0 rfl; replace e1 := H.k e1 rfl; replace e2 := H.k e2 rfl; replace e6 := H.k e6 rfl; replace e7 := H.k e7 rfl; replace e8 := H.k e8 rfl; replace e65 := H.k e65 rfl; replace e66 := H.k e66 rfl; replace e67 := H.k e67 rfl; replace e9 := H.k e9 rfl; clear e10; have e11 := H.g 11 rfl rfl; have e12 := H.g 12 rfl rfl; clear H
    refine hKq17 _ _ ?_; clear hKq17 Kq17; refine wp_seq_k fun Kq18 hKq18 => ?_; refine wp_seq_k fun Kq19 hKq19 => ?_
    refine sm_list [12] 93 2 hs hd (by kernel_rfl) (agC e12 agN) rfl ?_
    simp only [seval]
    go_wp2_with fail
    intro a H; replace hs := H.s hs; replace hd := H.d rfl; replace e12 := H.g 12 rfl rfl; replace e0 := H.k e0 rfl; replace e1 := H.k e1 rfl; replace e2 := H.k e2 rfl; replace e6 := H.k e6 rfl; replace e7 := H.k e7 rfl; replace e8 := H.k e8 rfl; replace e65 := H.k e65 rfl; replace e66 := H.k e66 rfl; replace e67 := H.k e67 rfl; replace e9 := H.k e9 rfl; replace e11 := H.k e11 rfl; have e94 := H.g 94 rfl rfl
    clear H; refine hKq19 _ _ ?_; clear hKq19 Kq19
    refine wp_cond_false (slotE e94) ?_
    clear e94; refine wp_skip ?_; refine hKq18 _ _ ?_; clear hKq18 Kq18
    obtain ⟨T9, f9, b9⟩ := H9.out
    obtain ⟨lo8, pr8, bx8, rw8, nt8, _⟩ := HS8.out
    have nt9 := nt8.push b9 T9 f9 (new_rows T9 (new_paths _ _ _ _))
    have lo9 := lo8.trans (b9.mono lo8.size)
    have pr9 := pr8.kept b9
    have bx9 := bx8.kept b9
    have rw9 := ownsRow_keep rw8 b9
    have hpz : ∀ t ∈ L ++ [Tre.new 0 (maskP (R i) i) 5 8], ∀ e ∈ t.es, e.path = [] := fun t ht => by
      rcases List.mem_append.1 ht with h | h
      · exact HSA.out.paths t h
      · simp at h; subst h; exact new_paths _ _ _ _
    have HPZ := Lib.hid hpz
    have flz : ∀ g ∈ b.all ++ F, w0.heap.size ≤ g := fun g hg => by
      rcases List.mem_append.1 hg with h | h
      · exact Nat.le_trans lo8.size (f9 g h)
      · exact HSA.out.fl g h
    have HFL := Lib.hid flz
    have c8 := bx9.cellOf (v := v8) 0 rfl
    have H99 := Lib.hid (And.intro lo9 (And.intro pr9 (And.intro bx9 nt9)))
    have hz9 : w0.heap.size ≤ w9.heap.size := lo9.size
    clear T9 f9 b9 lo8 pr8 bx8 rw8 nt8 nt9 lo9 pr9 bx9 hpz flz HS8 HN
    refine sm_list [8, 11] 95 4 hs hd (by kernel_rfl) (agC e8 (agC e11 agN)) rfl ?_
    simp only [seval]
    go_wp2_with (first | (at_builtin; refine wpList_pushG 1 rfl (.tmp 2) (.tmp 4) 61 rfl styT (wr := w9) (cs := #[.pointer (some ⟨b.g, 0, none⟩)]) rfl (by intro u hu; simp at hu; rw [hu]; rfl) rfl rw9 rfl rfl (by omega) hz9 ?_; intro v8n wa owna gra mva; obtain ⟨A8n, c8n, rfl, _, _⟩ := ownsRow_reads owna; have bxa := H99.out.2.2.1.grown gra (own_blk_ne rw9 H99.out.2.2.1 (by decide)).symm; have ca := bxa.cellOf (v := v8) 0 rfl; have fza := bxa.frozen) | fail)
    intro a H; replace hs := H.s hs; replace hd := H.d rfl; replace e8 := H.g 8 rfl rfl; replace e11 := H.g 11 rfl rfl; replace e0 := H.k e0 rfl; replace e1 := H.k e1 rfl; replace e2 := H.k e2 rfl; replace e6 := H.k e6 rfl; replace e7 := H.k e7 rfl; replace e65 := H.k e65 rfl; replace e66 := H.k e66 rfl; replace e67 := H.k e67 rfl; replace e9 := H.k e9 rfl; replace e12 := H.k e12 rfl; clear H; refine hKq13 _ _ ?_
    clear hKq13 Kq13
    obtain ⟨lo9, pr9, bx9, nt9⟩ := H99.out
    have gs : wa.grownBy (wa.setCell ⟨g8, 0, none⟩ (.slice A8n (i + 1) c8n)) (some g8) := gr_set (grownBy_refl _ _) _ _
    have bxb : Blk (wa.setCell ⟨g8, 0, none⟩ (.slice A8n (i + 1) c8n)) g8 61 #[(.slice A8n (i + 1) c8n)] := bxa.set_ 0 (.slice A8n (i + 1) c8n)
    have loa := lo9.trans (below_of_grown gra rw9 hz9)
    have lob : Below w0.heap.size w0 (wa.setCell ⟨g8, 0, none⟩ (.slice A8n (i + 1) c8n)) := loa.grown gs loa.size (fun k hk => by cases hk; exact HSA.out.b8)
    have pra := pr9.grown gra (by
      obtain ⟨cur, BC, _⟩ := pr9
      exact own_blk_ne rw9 BC (by decide))
    have prb := pra.grown gs (by
      obtain ⟨cur, BC, _⟩ := pra
      intro e; injection e with e; exact Blk.ne_ bxa BC (by decide) e)
    have rwb := own_kept owna gs (fun k hk e => by injection e with e; subst e; exact own_blk_ne owna bxa (by decide) hk)
    have nta := nt9.row0 HPZ.out rw9 (by decide) gra
    have ntb := nta.blk0 HPZ.out bxa (by decide) gs
    have SA2 : Sa w0 (wa.setCell ⟨g8, 0, none⟩ (.slice A8n (i + 1) c8n)) g0 g8 n (i + 1) (.slice A8n (i + 1) c8n) R (b.all ++ F) (Bs ++ [b]) (L ++ [Tre.new 0 (maskP (R i) i) 5 8]) (PS ++ [ps]) := ⟨lob, HSA.out.b0, HSA.out.b8, prb, bxb, by simpa [ptrs] using rwb, ntb, HFL.out, by rw [HSA.out.lis, List.range_succ, List.map_append]; rfl⟩
    generalize wa.setCell ⟨g8, 0, none⟩ (.slice A8n (i + 1) c8n) = wb at *
    clear gs bxb loa lob pra prb rwb nta ntb lo9 pr9 bx9 nt9 owna gra mva bxa ca fza H99 rw9 hz9 c8 HPZ HFL H9 HTK HSA; clear e11; clear e12
    refine sm_list [67] 99 1 hs hd (by kernel_rfl) (agC e67 agN) rfl ?_
    simp only [seval]
    go_wp2_with fail
    intro a H; replace hs := H.s hs; replace hd := H.d rfl; replace e0 := H.k e0 rfl; replace e1 := H.k e1 rfl; replace e2 := H.k e2 rfl; replace e6 := H.k e6 rfl; replace e7 := H.k e7 rfl; replace e8 := H.k e8 rfl; replace e65 := H.k e65 rfl; replace e66 := H.k e66 rfl; replace e9 := H.k e9 rfl; replace e67 := H.g 67 rfl rfl; clear H
    exact ⟨⟨i + 1, (.slice A8n (i + 1) c8n), _, _, _, _, by omega, hs, hd, e0, e1, e2, e6, e7, e8, e65, e66, e67, SA2⟩, by first | (simp only [hm, slot e67, intOf]; omega) | (simp [hm, slot e67, intOf]; omega)⟩
  · obtain rfl : i = n := by omega
    have dj : decide ((i : Int) < (i : Int)) = false := decide_eq_false (by omega)
    clear hlt3 hm
    refine sm_list [66, 67] 68 1 hs hd (by kernel_rfl) (agC e66 (agC e67 agN)) rfl ?_
    simp only [seval]
    go_wp2_with fail
    intro a H; replace hs := H.s hs; replace hd := H.d rfl; replace e66 := H.g 66 rfl rfl; replace e67 := H.g 67 rfl rfl; replace e0 := H.k e0 rfl; replace e1 := H.k e1 rfl; replace e2 := H.k e2 rfl; replace e6 := H.k e6 rfl; replace e7 := H.k e7 rfl; replace e8 := H.k e8 rfl; replace e65 := H.k e65 rfl; have e68 := H.g 68 rfl rfl; clear H; refine hKq11 _ _ ?_; clear hKq11 Kq11; refine wp_seq_k fun Kq12 hKq12 => ?_
    refine wp_cond_false (slotE e68) ?_
    clear e68; refine wp_exit ?_; refine exit_then rfl ?_; clear hKq12 Kq12; refine exit_then rfl ?_; refine exit_hit ?_; refine hKq9 _ _ ?_; clear hKq9 Kq9
    exact HEND.out a w5 g0 g8 c0 v8 F Bs L PS hs hd e0 e1 e2 e6 e7 e8 SA hn1.1 hn1.2.1 hn1.2.2
end Go.Proofs.Ytcdgofndfajekaa
