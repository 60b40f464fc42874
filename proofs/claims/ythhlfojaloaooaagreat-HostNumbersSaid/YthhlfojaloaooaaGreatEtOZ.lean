/-
  ether: a frame is read.
-/
import Derived.Test.YthhlfojaloaooaaGreatRows
import Derived.Test.YthhlfojaloaooaaGreatEtNZ
import Derived.WalkKit
import Derived.ProofKit
import Derived.OpenShut
import Derived.LoopTactic
import Derived.WalkLawsBesides
import Derived.WalkSpells
import Derived.Outline
import Derived.Lib.Hide
import Derived.Deep.DrawnRows
import Derived.Laws.CopyOwn
import Derived.MapKept
namespace Go.Proofs.YthhlfojaloaooaaGreat
set_option linter.unusedSimpArgs false
set_option linter.unusedVariables false
open Go.RowKit Go.WideShapes Go.ChangeShapes
attribute [local go_sem ↓] Go.wp_at_zero Go.wp_at_succ

theorem openV_some {bs ys : List Int} (h : openV bs = some ys) : ys = bs.take (bs.length - 4) ∧ 4 ≤ bs.length := by
  unfold openV at h
  split at h
  · cases h
  · split at h
    · injection h with h
      exact ⟨h.symm, by omega⟩
    · cases h
set_option maxRecDepth 100000 in
set_option maxHeartbeats 4000000 in
theorem decode_any (A : Option Addr) (n c : Nat) (bs : List Int) (w : World) (hr : Reads w w.heap.size 1 A n (us bs)) (hb : ∀ b ∈ bs, 0 ≤ b ∧ b ≤ 255) (hn : n ≤ 1000000) (hnc : n ≤ c) : Calls Tryz.prog 11 #[.slice A n c] w fun e w' => DecR w (decV bs) e w' := by
  have hl : bs.length = n := by have := hr.1; rw [us_length] at this; omega
  have HB := Lib.hid hb
  have HL := Lib.hid hl
  have HR := Lib.hid hr
  clear hb hl hr
  refine calls_sm (N := 118) Tryz.func11 rfl (by kernel_rfl) ?_
  intro a hs hd ha
  have e0 : a.tmps[0]? = some (.slice A n c) := ha 0 _ rfl
  clear ha
  conv => arg 2; whnf
  refine wp_seq_k fun Kq1 hKq1 => ?_
  refine sm_list [] 2 2 hs hd (by kernel_rfl) agN rfl ?_
  simp only [seval]
  go_wp2_with fail
  intro a H; replace hs := H.s hs; replace hd := H.d rfl; replace e0 := H.k e0 rfl; have e2 := H.g 2 rfl rfl; have e3 := H.g 3 rfl rfl; clear H; refine hKq1 _ _ ?_; clear hKq1 Kq1; refine wp_seq_k fun Kq2 hKq2 => ?_; refine wp_block ?_; refine wp_seq_k fun Kq3 hKq3 => ?_
  obtain ⟨w1, hw1⟩ : ∃ z, z = w.alloc (.cells #[.int .u8 0, .int .u8 0, .int .u8 0, .int .u8 0, .int .u8 0, .int .u8 0, .int .u8 0, .int .u8 0, .int .u8 0, .int .u8 0, .int .u8 0, .int .u8 0, .bool false, .int .i64 0, .int .i64 0, .bool false, .bool false, .int .i64 0, .int .i64 0, .slice none 0 0] 52) := ⟨_, rfl⟩
  have B1 : Blk w1 w.heap.size 52 zeroFm := by rw [hw1]; exact Blk.new w _ _
  have F1 : Fr [] w w1 := by rw [hw1]; exact Fr.be ((Below.refl w.heap.size w).alloc (Nat.le_refl _) _)
  have L1 : Below w.heap.size w w1 := by rw [hw1]; exact (Below.refl w.heap.size w).alloc (Nat.le_refl _) _
  rw [← hw1]
  obtain ⟨g2, hg2⟩ : ∃ g, g = w.heap.size := ⟨_, rfl⟩
  have hgw : w.heap.size ≤ g2 := by omega
  rw [← hg2] at e2 B1
  have rd1 : Reads w1 w1.heap.size 1 A n (us bs) := ⟨HR.out.1, fun h0 => by
      obtain ⟨ad, e, hl, hc⟩ := HR.out.2 h0
      exact ⟨ad, e, Nat.lt_of_lt_of_le hl F1.size, fun j u hu => by rw [F1.cell (by rw [block_of_add]; exact hl) (by simp)]; exact hc j u hu⟩⟩
  have H1 := Lib.hid (And.intro B1 (And.intro L1 rd1))
  clear hw1 hg2 B1 L1 F1 rd1
  by_cases h64 : n < 64
  · have dj : decide ((n : Int) < 64) = true := decide_eq_true (by omega)
    have j1 : (n : Int) < 64 := by omega
    refine sm_list [0] 13 4 hs hd (by kernel_rfl) (agC e0 agN) rfl ?_
    simp only [seval]
    go_wp2_with fail
    intro a H; replace hs := H.s hs; replace hd := H.d rfl; replace e0 := H.g 0 rfl rfl; replace e2 := H.k e2 rfl; replace e3 := H.k e3 rfl; have e13 := H.g 13 rfl rfl; clear H; refine hKq3 _ _ ?_; clear hKq3 Kq3
    refine wp_cond_true (slotE e13) ?_
    clear e13; refine wp_seq_k fun Kq4 hKq4 => ?_
    have hlaw : decV bs = .error 20 := by unfold decV; rw [if_pos (by rw [HL.out]; exact h64)]
    have HW := Lib.hid hlaw
    clear hlaw
    refine sm_list [2, 3] 17 1 hs hd (by kernel_rfl) (agC e2 (agC e3 agN)) rfl ?_
    simp only [seval]
    go_wp2_with (first | (refine wpList_store_part rfl 52 (.tmp 0) (.tmp 2) rfl (off := 0) rfl H1.out.1 rfl (by simp [zeroFm]) (by kernel_rfl) (by rw [← Array.all_toList]; rfl) ?_; intro wz Bz zz gz) | fail)
    intro a H; replace hs := H.s hs; replace hd := H.d rfl; replace e2 := H.g 2 rfl rfl; replace e0 := H.k e0 rfl; replace e3 := H.g 3 rfl rfl; clear H; refine hKq4 _ _ ?_; clear hKq4 Kq4; refine wp_ret ?_; refine ret_block ?_; refine exit_then rfl ?_
    have Bz2 : Blk wz g2 52 zeroFm := by simpa [putAll, zeroFm] using Bz
    have bz := (H1.out.2.1).grown gz (H1.out.2.1).size (fun k hk => by cases hk; exact hgw)
    exact sm_ret_cell rfl hd e2 Bz2 Tryz.underlying52 rfl (by kernel_rfl) e3 (by rw [HW.out]; exact ⟨bz, rfl⟩)
  have dj : decide ((n : Int) < 64) = false := decide_eq_false (by omega)
  have dj2 : decide (n < 64) = false := decide_eq_false h64
  refine sm_list [0] 13 4 hs hd (by kernel_rfl) (agC e0 agN) rfl ?_
  simp only [seval]
  go_wp2_with fail
  intro a H; replace hs := H.s hs; replace hd := H.d rfl; replace e0 := H.g 0 rfl rfl; replace e2 := H.k e2 rfl; replace e3 := H.k e3 rfl; have e13 := H.g 13 rfl rfl; clear H; refine hKq3 _ _ ?_; clear hKq3 Kq3
  refine wp_cond_false (slotE e13) ?_
  clear e13; refine wp_seq_k fun Kq4 hKq4 => ?_
  by_cases h16 : 1600 < n
  · have dk : decide ((1600 : Int) < (n : Int)) = true := decide_eq_true (by omega)
    have k1 : (1600 : Int) < (n : Int) := by omega
    refine sm_list [0] 18 4 hs hd (by kernel_rfl) (agC e0 agN) rfl ?_
    simp only [seval]
    go_wp2_with fail
    intro a H; replace hs := H.s hs; replace hd := H.d rfl; replace e0 := H.g 0 rfl rfl; replace e2 := H.k e2 rfl; replace e3 := H.k e3 rfl; have e18 := H.g 18 rfl rfl; clear H; refine hKq4 _ _ ?_; clear hKq4 Kq4
    refine wp_cond_true (slotE e18) ?_
    clear e18; refine wp_seq_k fun Kq5 hKq5 => ?_
    have hlaw : decV bs = .error 3 := by unfold decV; rw [if_neg (by rw [HL.out]; exact h64), if_pos (by rw [HL.out]; exact h16)]
    have HW := Lib.hid hlaw
    clear hlaw
    refine sm_list [2, 3] 22 1 hs hd (by kernel_rfl) (agC e2 (agC e3 agN)) rfl ?_
    simp only [seval]
    go_wp2_with (first | (refine wpList_store_part rfl 52 (.tmp 0) (.tmp 2) rfl (off := 0) rfl H1.out.1 rfl (by simp [zeroFm]) (by kernel_rfl) (by rw [← Array.all_toList]; rfl) ?_; intro wz Bz zz gz) | fail)
    intro a H; replace hs := H.s hs; replace hd := H.d rfl; replace e2 := H.g 2 rfl rfl; replace e0 := H.k e0 rfl; replace e3 := H.g 3 rfl rfl; clear H; refine hKq5 _ _ ?_; clear hKq5 Kq5; refine wp_ret ?_; refine ret_block ?_; refine exit_then rfl ?_
    have Bz2 : Blk wz g2 52 zeroFm := by simpa [putAll, zeroFm] using Bz
    have bz := (H1.out.2.1).grown gz (H1.out.2.1).size (fun k hk => by cases hk; exact hgw)
    exact sm_ret_cell rfl hd e2 Bz2 Tryz.underlying52 rfl (by kernel_rfl) e3 (by rw [HW.out]; exact ⟨bz, rfl⟩)
  have dk : decide ((1600 : Int) < (n : Int)) = false := decide_eq_false (by omega)
  have dk2 : decide (1600 < n) = false := decide_eq_false h16
  refine sm_list [0] 18 4 hs hd (by kernel_rfl) (agC e0 agN) rfl ?_
  simp only [seval]
  go_wp2_with fail
  intro a H; replace hs := H.s hs; replace hd := H.d rfl; replace e0 := H.g 0 rfl rfl; replace e2 := H.k e2 rfl; replace e3 := H.k e3 rfl; have e18 := H.g 18 rfl rfl; clear H; refine hKq4 _ _ ?_; clear hKq4 Kq4
  refine wp_cond_false (slotE e18) ?_
  clear e18; refine wp_skip ?_; refine hKq2 _ _ ?_; clear hKq2 Kq2; refine wp_seq_k fun Kq5 hKq5 => ?_; clear dj dj2 dk dk2
  refine sm_list [0, 4] 23 5 hs hd (by kernel_rfl) (agC e0 (agU agN)) rfl ?_
  simp only [seval]
  go_wp2_with fail
  refine (open_any A n c bs w1 H1.out.2.2 HB.out hn hnc).mono ?_
  rintro e w3 ⟨hb3, hor⟩
  obtain ⟨v, ok, rfl, hok⟩ : ∃ v ok, e = .returned (.tuple #[v, .bool ok]) ∧ Hid ((ok = false ∧ openV bs = none) ∨ (ok = true ∧ ∃ ys, openV bs = some ys ∧ w3.ownsRow w1.heap.size 5 1 v ys.length (us ys))) := by
    rcases hor with ⟨h1, h2⟩ | ⟨ys, v, h1, h2, h3⟩
    · exact ⟨_, _, h2, Lib.hid (.inl ⟨rfl, h1⟩)⟩
    · exact ⟨_, _, h2, Lib.hid (.inr ⟨rfl, ys, h1, h3⟩)⟩
  have HB3 := Lib.hid hb3
  clear hor hb3
  go_wp2_with fail
  intro a H; replace hs := H.s hs; replace hd := H.d rfl; replace e2 := H.k e2 rfl; replace e3 := H.k e3 rfl; replace e0 := H.g 0 rfl rfl; have e4 := H.g 4 rfl rfl; clear H; refine hKq5 _ _ ?_; clear hKq5 Kq5; refine wp_seq_k fun Kq6 hKq6 => ?_; refine wp_seq_k fun Kq7 hKq7 => ?_
  have L3 : Below w.heap.size w w3 := H1.out.2.1.trans (HB3.out.mono H1.out.2.1.size)
  have B3 := H1.out.1.kept HB3.out
  have H3 := Lib.hid (And.intro B3 L3)
  clear L3 B3
  cases ok
  ·
    refine sm_list [4] 28 2 hs hd (by kernel_rfl) (agC e4 agN) rfl ?_
    simp only [seval]
    go_wp2_with fail
    intro a H; replace hs := H.s hs; replace hd := H.d rfl; replace e4 := H.g 4 rfl rfl; replace e2 := H.k e2 rfl; replace e3 := H.k e3 rfl; replace e0 := H.k e0 rfl; have e29 := H.g 29 rfl rfl; clear H; refine hKq7 _ _ ?_; clear hKq7 Kq7
    refine wp_cond_true (slotE e29) ?_
    clear e29; refine wp_seq_k fun Kq8 hKq8 => ?_
    have hno : openV bs = none := by
      rcases hok.out with h | h
      · exact h.2
      · cases h.1
    have hlaw : decV bs = .error 22 := by unfold decV; rw [if_neg (by rw [HL.out]; exact h64), if_neg (by rw [HL.out]; exact h16), hno]
    have HW := Lib.hid hlaw
    clear hlaw hno
    refine sm_list [2, 3] 30 1 hs hd (by kernel_rfl) (agC e2 (agC e3 agN)) rfl ?_
    simp only [seval]
    go_wp2_with (first | (refine wpList_store_part rfl 52 (.tmp 0) (.tmp 2) rfl (off := 0) rfl H3.out.1 rfl (by simp [zeroFm]) (by kernel_rfl) (by rw [← Array.all_toList]; rfl) ?_; intro wz Bz zz gz) | fail)
    intro a H; replace hs := H.s hs; replace hd := H.d rfl; replace e2 := H.g 2 rfl rfl; replace e0 := H.k e0 rfl; replace e4 := H.k e4 rfl; replace e3 := H.g 3 rfl rfl; clear H; refine hKq8 _ _ ?_; clear hKq8 Kq8; refine wp_ret ?_; refine exit_then rfl ?_
    have Bz2 : Blk wz g2 52 zeroFm := by simpa [putAll, zeroFm] using Bz
    have bz := (H3.out.2).grown gz (H3.out.2).size (fun k hk => by cases hk; exact hgw)
    exact sm_ret_cell rfl hd e2 Bz2 Tryz.underlying52 rfl (by kernel_rfl) e3 (by rw [HW.out]; exact ⟨bz, rfl⟩)
  ·
    refine sm_list [4] 28 2 hs hd (by kernel_rfl) (agC e4 agN) rfl ?_
    simp only [seval]
    go_wp2_with fail
    intro a H; replace hs := H.s hs; replace hd := H.d rfl; replace e4 := H.g 4 rfl rfl; replace e2 := H.k e2 rfl; replace e3 := H.k e3 rfl; replace e0 := H.k e0 rfl; have e29 := H.g 29 rfl rfl; clear H; refine hKq7 _ _ ?_; clear hKq7 Kq7
    refine wp_cond_false (slotE e29) ?_
    clear e29; refine wp_skip ?_; refine hKq6 _ _ ?_; clear hKq6 Kq6
    obtain ⟨ys, hys, own⟩ : ∃ ys, openV bs = some ys ∧ w3.ownsRow w1.heap.size 5 1 v ys.length (us ys) := by
      rcases hok.out with h | h
      · cases h.1
      · exact h.2
    obtain ⟨hyt, h4⟩ := openV_some hys
    have hyl : ys.length = n - 4 := by rw [hyt, List.length_take, HL.out]; omega
    have own0 := own
    rcases own.2 with ⟨_, hz⟩ | ⟨q, cap, cur, rfl, hq, hcur, hcap, hcm, _⟩
    · omega
    have hE : DeA w w3 g2 q ys.length cap ys := ⟨H3.out.2, H3.out.1, hgw, Nat.le_trans H1.out.2.1.size hq, Reads.of_own own0, ⟨cur, hcur⟩, hcap, hcm, fun b hb => HB.out b (by rw [hyt] at hb; exact List.mem_of_mem_take hb), rfl⟩
    refine dec_a ys ys.length cap g2 q w w3 hE (by omega) (by omega) _ (fun e w' h => ?_) a hs hd e0 e2 e3
    have hlaw : decV bs = decB (fm0 ys) (ys.drop 14) ((ys.length : Int) + 4) := by unfold decV; rw [if_neg (by rw [HL.out]; exact h64), if_neg (by rw [HL.out]; exact h16), hys]
    rw [hlaw]; exact h
end Go.Proofs.YthhlfojaloaooaaGreat
