/-
  bridge: a numbered frame.
-/
import Derived.Test.YthhlfojaloaooaaGreatRows
import Derived.Test.YthhlfojaloaooaaGreatHnHZ
import Derived.WalkKit
import Derived.ProofKit
import Derived.OpenShut
import Derived.LoopTactic
import Derived.WalkLawsBesides
import Derived.WalkSpells
import Derived.Outline
import Derived.Lib.Hide
import Derived.Deep.DrawnRows
import Derived.Laws.CopyOwn
import Derived.MapKept
namespace Go.Proofs.YthhlfojaloaooaaGreat
set_option linter.unusedSimpArgs false
set_option linter.unusedVariables false
open Go.RowKit Go.WideShapes Go.ChangeShapes
attribute [local go_sem ↓] Go.wp_at_zero Go.wp_at_succ

set_option maxRecDepth 100000 in
set_option maxHeartbeats 4000000 in
theorem ptpMac_any (w : World) : Calls Tryz.prog 45 #[] w fun e w' => e = .returned (.agg #[.int .u8 1, .int .u8 128, .int .u8 194, .int .u8 0, .int .u8 0, .int .u8 14]) ∧ Below w.heap.size w w' := by
  refine calls_sm (N := 2) Tryz.func45 rfl (by kernel_rfl) ?_
  intro a hs hd ha
  clear ha
  conv => arg 2; whnf
  refine wp_seq_k fun Kq1 hKq1 => ?_
  refine sm_list [] 0 1 hs hd (by kernel_rfl) agN rfl ?_
  simp only [seval]
  go_wp2_with fail
  intro a H; replace hs := H.s hs; replace hd := H.d rfl; have e0 := H.g 0 rfl rfl; clear H; refine hKq1 _ _ ?_; clear hKq1 Kq1; refine wp_seq_k fun Kq2 hKq2 => ?_
  have B := Blk.new w 27 #[.int .u8 0, .int .u8 0, .int .u8 0, .int .u8 0, .int .u8 0, .int .u8 0]
  have L1 := (Below.refl w.heap.size w).alloc (Nat.le_refl _) (.cells #[.int .u8 0, .int .u8 0, .int .u8 0, .int .u8 0, .int .u8 0, .int .u8 0] 27)
  generalize hw1 : w.alloc (.cells #[.int .u8 0, .int .u8 0, .int .u8 0, .int .u8 0, .int .u8 0, .int .u8 0] 27) = w1 at B L1 ⊢
  obtain ⟨q, hq⟩ : ∃ q, q = w.heap.size := ⟨_, rfl⟩
  have hqw : w.heap.size ≤ q := by omega
  rw [← hq] at B e0
  clear hw1 hq
  refine sm_list [0] 1 1 hs hd (by kernel_rfl) (agC e0 agN) rfl ?_
  simp only [seval]
  go_wp2_with (first | (refine wpList_store_part rfl 27 (.tmp 0) (.tmp 1) rfl (off := 0) rfl B rfl (by simp) (by kernel_rfl) (by rw [← Array.all_toList]; rfl) ?_; intro wz Bz zz gz) | fail)
  intro a H; replace hs := H.s hs; replace hd := H.d rfl; replace e0 := H.g 0 rfl rfl; clear H; refine hKq2 _ _ ?_; clear hKq2 Kq2; refine wp_ret ?_
  have Bz2 : Blk wz q 27 #[.int .u8 1, .int .u8 128, .int .u8 194, .int .u8 0, .int .u8 0, .int .u8 14] := by simpa [putAll] using Bz
  exact sm_ret_box rfl hd e0 Bz2 Tryz.underlying27 rfl (by kernel_rfl) ⟨rfl, L1.grown gz L1.size (fun k hk => by cases hk; exact hqw)⟩
theorem mac_sub1 {vid m0 m1 m2 m3 m4 m5 fi fo fm : Int} : ∀ j v, (#[.int .u8 m0, .int .u8 m1, .int .u8 m2, .int .u8 m3, .int .u8 m4, .int .u8 m5] : Array Value).toList[j]? = some v → (#[.int .i64 vid, .int .u8 m0, .int .u8 m1, .int .u8 m2, .int .u8 m3, .int .u8 m4, .int .u8 m5, .int .i64 fi, .int .i64 fo, .int .i64 fm] : Array Value)[1 + j]? = some v
  | 0, v, h => h
  | 1, v, h => h
  | 2, v, h => h
  | 3, v, h => h
  | 4, v, h => h
  | 5, v, h => h
  | n + 6, v, h => by simp at h
set_option maxRecDepth 100000 in
set_option maxHeartbeats 4000000 in
theorem numbered_any (m0 m1 m2 m3 m4 m5 s0 s1 s2 s3 s4 s5 vid fi fo fm seq : Int) (A : Option Addr) (n c : Nat) (data : List Int) (w : World) (f : Fm) (hf : f = ⟨[m0, m1, m2, m3, m4, m5], [s0, s1, s2, s3, s4, s5], true, vid, 7, false, true, seq % 65536, 2048, data⟩) (hw : f.Wf) (hr : Reads w w.heap.size 1 A n (us data)) (hn : n ≤ 1000000) (hsq : -1000000000000 ≤ seq ∧ seq ≤ 1000000000000 ∨ True) : Calls Tryz.prog 14 #[.agg #[.int .i64 vid, .int .u8 m0, .int .u8 m1, .int .u8 m2, .int .u8 m3, .int .u8 m4, .int .u8 m5, .int .i64 fi, .int .i64 fo, .int .i64 fm], .agg #[.int .u8 s0, .int .u8 s1, .int .u8 s2, .int .u8 s3, .int .u8 s4, .int .u8 s5], .int .i64 seq, .slice A n c] w fun e w' => Below w.heap.size w w' ∧ ((checkF f ≠ 0 ∧ e = .returned (.tuple #[.slice none 0 0, .int .i64 (checkF f)])) ∨ (checkF f = 0 ∧ ∃ v, e = .returned (.tuple #[v, .int .i64 0]) ∧ w'.ownsRow w.heap.size 5 1 v (encF f).length (us (encF f)))) := by
  have hdl : f.data.length = n := by have := hr.1; rw [us_length] at this; rw [hf]; show data.length = n; omega
  have hdd : f.data = data := by rw [hf]
  refine calls_sm (N := 22) Tryz.func14 rfl (by kernel_rfl) ?_
  intro a hs hd ha
  have e0 : a.tmps[0]? = some (.agg #[.int .i64 vid, .int .u8 m0, .int .u8 m1, .int .u8 m2, .int .u8 m3, .int .u8 m4, .int .u8 m5, .int .i64 fi, .int .i64 fo, .int .i64 fm]) := ha 0 _ rfl
  have e1 : a.tmps[1]? = some (.agg #[.int .u8 s0, .int .u8 s1, .int .u8 s2, .int .u8 s3, .int .u8 s4, .int .u8 s5]) := ha 1 _ rfl
  have e2 : a.tmps[2]? = some (.int .i64 seq) := ha 2 _ rfl
  have e3 : a.tmps[3]? = some (.slice A n c) := ha 3 _ rfl
  clear ha
  conv => arg 2; whnf
  refine wp_seq_k fun Kq1 hKq1 => ?_
  refine sm_list [0, 1, 4, 5] 8 2 hs hd (by kernel_rfl) (agC e0 (agC e1 (agU (agU agN)))) rfl ?_
  simp only [seval]
  go_wp2_with fail
  intro a H; replace hs := H.s hs; replace hd := H.d rfl; replace e0 := H.g 0 rfl rfl; replace e1 := H.g 1 rfl rfl; replace e2 := H.k e2 rfl; replace e3 := H.k e3 rfl; have e4 := H.g 4 rfl rfl; have e5 := H.g 5 rfl rfl; have e8 := H.g 8 rfl rfl; have e9 := H.g 9 rfl rfl; clear H; refine hKq1 _ _ ?_; clear hKq1 Kq1; refine wp_seq_k fun Kq2 hKq2 => ?_
  have B4 := Blk.new w 29 #[.int .i64 vid, .int .u8 m0, .int .u8 m1, .int .u8 m2, .int .u8 m3, .int .u8 m4, .int .u8 m5, .int .i64 fi, .int .i64 fo, .int .i64 fm]
  have L1 := (Below.refl w.heap.size w).alloc (Nat.le_refl _) (.cells #[.int .i64 vid, .int .u8 m0, .int .u8 m1, .int .u8 m2, .int .u8 m3, .int .u8 m4, .int .u8 m5, .int .i64 fi, .int .i64 fo, .int .i64 fm] 29)
  obtain ⟨wa, hwa⟩ : ∃ z, z = w.alloc (.cells #[.int .i64 vid, .int .u8 m0, .int .u8 m1, .int .u8 m2, .int .u8 m3, .int .u8 m4, .int .u8 m5, .int .i64 fi, .int .i64 fo, .int .i64 fm] 29) := ⟨_, rfl⟩
  rw [← hwa] at B4 L1
  skip
  have B5 := Blk.new wa 27 #[.int .u8 s0, .int .u8 s1, .int .u8 s2, .int .u8 s3, .int .u8 s4, .int .u8 s5]
  have B4b := B4.kept ((Below.refl wa.heap.size wa).alloc (Nat.le_refl _) (.cells #[.int .u8 s0, .int .u8 s1, .int .u8 s2, .int .u8 s3, .int .u8 s4, .int .u8 s5] 27))
  have L2 := L1.alloc L1.size (.cells #[.int .u8 s0, .int .u8 s1, .int .u8 s2, .int .u8 s3, .int .u8 s4, .int .u8 s5] 27)
  refine (?_ : ∀ (W : World), W = wa.alloc (.cells #[.int .u8 s0, .int .u8 s1, .int .u8 s2, .int .u8 s3, .int .u8 s4, .int .u8 s5] 27) → Code.wp Tryz.prog _ _ _ W) _ (by rw [hwa])
  intro w2 hw2
  rw [← hw2] at B5 B4b L2
  obtain ⟨q4, hq4⟩ : ∃ q, q = w.heap.size := ⟨_, rfl⟩
  rw [← hq4] at B4b e4
  obtain ⟨q5, hq5⟩ : ∃ q, q = wa.heap.size := ⟨_, rfl⟩
  have hsz : wa.heap.size = w.heap.size + 1 := by rw [hwa]; exact Array.size_push _
  have e5b : a.tmps[5]? = some (.pointer (some ⟨q5, 0, none⟩)) := by rw [e5, hq5, hsz]
  rw [← hq5] at B5
  have q0 := B4b.cellOf (v := .int .i64 vid) 0 rfl
  have rd2 : Reads w2 w2.heap.size 1 A n (us data) := (hr.below L2).more L2.size
  obtain ⟨sq, hsqe⟩ : ∃ z, z = seq % 65536 := ⟨_, rfl⟩
  have ha : bits .and .i64 seq 65535 = sq := by rw [hsqe]; exact andI seq 16 (by omega) _ rfl
  rw [← hsqe] at hf
  have HF := Lib.hid hf
  clear hw2 hq5 hq4 hsz hwa B4 L1 hr hsqe hf hsq
  replace e5 := e5b
  clear e5b
  refine sm_list [2, 3, 4, 5] 8 14 hs hd (by kernel_rfl) (agC e2 (agC e3 (agC e4 (agC e5 agN)))) rfl ?_
  simp only [seval]
  go_wp2_with (first | (refine wpList_load_any_d rfl 27 (.tmp 6) rfl ⟨q4, 1, none⟩ rfl #[.int .u8 m0, .int .u8 m1, .int .u8 m2, .int .u8 m3, .int .u8 m4, .int .u8 m5] _ (blk_sub B4b mac_sub1) Tryz.underlying27 rfl (by kernel_rfl) ?_) | (refine wpList_load_any_d rfl 27 (.tmp 3) rfl ⟨q5, 0, none⟩ rfl #[.int .u8 s0, .int .u8 s1, .int .u8 s2, .int .u8 s3, .int .u8 s4, .int .u8 s5] _ (blk_cells B5) Tryz.underlying27 rfl (by kernel_rfl) ?_) | fail)
  refine (encode_any f A n c #[.int .u8 m0, .int .u8 m1, .int .u8 m2, .int .u8 m3, .int .u8 m4, .int .u8 m5, .int .u8 s0, .int .u8 s1, .int .u8 s2, .int .u8 s3, .int .u8 s4, .int .u8 s5, .bool true, .int .i64 vid, .int .i64 7, .bool false, .bool true, .int .i64 sq, .int .i64 2048, .slice A n c] (by rw [HF.out]; rfl) hw hdl hn w2 (by rw [hdd]; exact rd2)).mono ?_
  rintro e w3 ⟨hb3, hor⟩
  obtain ⟨v, k, rfl, hvk⟩ : ∃ v k, e = .returned (.tuple #[v, .int .i64 k]) ∧ Hid ((checkF f ≠ 0 ∧ v = .slice none 0 0 ∧ k = checkF f) ∨ (checkF f = 0 ∧ k = 0 ∧ w3.ownsRow w2.heap.size 5 1 v (encF f).length (us (encF f)))) := by
    rcases hor with ⟨h1, h2⟩ | ⟨h1, v, h2, h3⟩
    · exact ⟨_, _, h2, Lib.hid (.inl ⟨h1, rfl, rfl⟩)⟩
    · exact ⟨_, _, h2, Lib.hid (.inr ⟨h1, rfl, h3⟩)⟩
  have HB3 := Lib.hid hb3
  clear hor hb3
  go_wp2_with fail
  intro a H; replace hs := H.s hs; replace hd := H.d rfl; replace e2 := H.g 2 rfl rfl; replace e3 := H.g 3 rfl rfl; replace e4 := H.g 4 rfl rfl; replace e5 := H.g 5 rfl rfl; replace e0 := H.k e0 rfl; replace e1 := H.k e1 rfl; replace e8 := H.g 8 rfl rfl; replace e9 := H.g 9 rfl rfl; clear H; refine hKq2 _ _ ?_; clear hKq2 Kq2; refine wp_ret ?_
  refine sm_ret2 rfl hd e8 e9 ⟨L2.trans (HB3.out.mono L2.size), ?_⟩
  rcases hvk.out with ⟨h1, rfl, rfl⟩ | ⟨h1, rfl, h3⟩
  · exact .inl ⟨h1, rfl⟩
  · exact .inr ⟨h1, v, rfl, ownsRow_base h3 L2.size⟩
end Go.Proofs.YthhlfojaloaooaaGreat
