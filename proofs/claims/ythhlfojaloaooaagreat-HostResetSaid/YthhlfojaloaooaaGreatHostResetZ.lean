/-
  HostReset: behind long silence a number that was taken is taken again. There are no conditions.
-/
import Derived.Test.YthhlfojaloaooaaGreatRows
import Derived.Test.YthhlfojaloaooaaGreatHnLbZ
import Derived.Test.YthhlfojaloaooaaGreatMask
import Derived.WalkKit
import Derived.ProofKit
import Derived.OpenShut
import Derived.LoopTactic
import Derived.WalkLawsBesides
import Derived.WalkSpells
import Derived.Outline
import Derived.Lib.Hide
import Derived.Deep.DrawnRows
import Derived.Laws.CopyOwn
import Derived.MapKept
namespace Go.Proofs.YthhlfojaloaooaaGreat
set_option linter.unusedSimpArgs false
set_option linter.unusedVariables false
open Go.RowKit Go.WideShapes Go.ChangeShapes
attribute [local go_sem ↓] Go.wp_at_zero Go.wp_at_succ

theorem own : ownKnob Tryz.prog.godebug = none := by kernel_rfl
theorem laidOut : laidOutB Tryz.prog = true := by kernel_rfl
set_option maxRecDepth 100000 in
set_option maxHeartbeats 4000000 in
theorem hostReset_calls (x y z : Int) (w : World) : Calls Tryz.prog 4 #[.int .i64 x, .int .i64 y, .int .i64 z] w fun e w' => e = .returned (.bool true) ∧ Below w.heap.size w w' := by
  have a1 : bits .and .i64 x 16777215 = x % 16777216 := andI x 24 (by omega) _ rfl
  have a2 : bits .and .i64 y 33554431 = y % 33554432 := andI y 25 (by omega) _ rfl
  obtain ⟨xa, hxa⟩ : ∃ xa, xa = x % 16777216 := ⟨_, rfl⟩
  obtain ⟨wt, hwt⟩ : ∃ wt, wt = y % 33554432 := ⟨_, rfl⟩
  rw [← hxa] at a1
  rw [← hwt] at a2
  have x0 : 0 ≤ xa ∧ xa < 16777216 := by omega
  have y0 : 0 ≤ wt ∧ wt < 33554432 := by omega
  obtain ⟨r, hr⟩ : ∃ r, r = 1 + xa := ⟨_, rfl⟩
  have a3 : RowKit.wrap64 (1 + xa) = r := by rw [hr]; exact IntWalk.wrap64_in _ (by omega)
  obtain ⟨m2, hm2⟩ : ∃ m2, m2 = wt * 65536 := ⟨_, rfl⟩
  have a4 : RowKit.wrap64 (wt * 65536) = m2 := by rw [hm2]; exact IntWalk.wrap64_in _ (by omega)
  obtain ⟨h2, hh2⟩ : ∃ h2, h2 = 1099511627776 + m2 := ⟨_, rfl⟩
  have a5 : RowKit.wrap64 (1099511627776 + m2) = h2 := by rw [hh2]; exact IntWalk.wrap64_in _ (by omega)
  have r0 : 1 ≤ r ∧ r ≤ 16777216 := by omega
  obtain ⟨sq, hsq⟩ : ∃ sq, sq = z % 65536 := ⟨_, rfl⟩
  have s0 : 0 ≤ sq ∧ sq < 65536 := by omega
  have n2 : 16777216 + wt = h2 / 65536 := by omega
  obtain ⟨f, hf⟩ : ∃ f : Fm, f = ⟨[1, 2, 0, 0, 0, 0], [0, 0, 0, 0, 0, 0], true, 5, 7, false, true, sq, 2048, [120]⟩ := ⟨_, rfl⟩
  have hck : checkF f = 0 := by rw [hf]; exact ckF_ok (by omega) s0 (by decide)
  have hwf : f.Wf := by
    rw [hf]
    exact ⟨rfl, rfl, by intro b hb; simp at hb; omega, by intro b hb; simp at hb; omega, by intro b hb; simp at hb; omega⟩
  have hde : decV (encF f) = .ok ⟨[1, 2, 0, 0, 0, 0], [0, 0, 0, 0, 0, 0], true, 5, 7, false, true, sq, 2048, [120]⟩ := by rw [← hf]; exact dec_enc f hwf hck
  obtain ⟨el, hel⟩ : ∃ el, el = encF f := ⟨_, rfl⟩
  have hlen : el.length ≤ 2000 ∧ ∀ b ∈ el, 0 ≤ b ∧ b ≤ 255 := by rw [hel]; exact encF_len f hwf hck
  have HF := Lib.hid (And.intro hck (And.intro hwf (And.intro (hel ▸ hde) (And.intro hlen (And.intro hel (And.intro hf hsq))))))
  have HN := Lib.hid (And.intro r0 (And.intro y0 (And.intro s0 n2)))
  have HA := Lib.hid (And.intro a1 (And.intro a2 (And.intro a3 (And.intro a4 a5))))
  clear hck hwf hde hel hlen hf hsq n2 s0 hh2 hm2 hr hxa hwt x0 r0 y0 a1 a2 a3 a4 a5
  refine calls_sm (N := 73) Tryz.func4 rfl (by kernel_rfl) ?_
  intro a hs hd ha
  have e0 : a.tmps[0]? = some (.int .i64 x) := ha 0 _ rfl
  have e1 : a.tmps[1]? = some (.int .i64 y) := ha 1 _ rfl
  have e2 : a.tmps[2]? = some (.int .i64 z) := ha 2 _ rfl
  clear ha
  conv => arg 2; whnf
  refine wp_seq_k fun Kq1 hKq1 => ?_
  refine sm_list [] 6 1 hs hd (by kernel_rfl) agN rfl ?_
  simp only [seval]
  go_wp2_with fail
  intro a H; replace hs := H.s hs; replace hd := H.d rfl; replace e0 := H.k e0 rfl; replace e1 := H.k e1 rfl; replace e2 := H.k e2 rfl; have e6 := H.g 6 rfl rfl; clear H; refine hKq1 _ _ ?_; clear hKq1 Kq1; refine wp_seq_k fun Kq2 hKq2 => ?_; refine wp_seq_k fun Kq3 hKq3 => ?_
  refine sm_list [] 16 2 hs hd (by kernel_rfl) agN rfl ?_
  simp only [seval]
  go_wp2_with fail
  refine (head_any w).mono ?_
  rintro e w1 ⟨rfl, hb1⟩
  have HL1 := Lib.hid hb1
  clear hb1
  go_wp2_with fail
  intro a H; replace hs := H.s hs; replace hd := H.d rfl; replace e0 := H.k e0 rfl; replace e1 := H.k e1 rfl; replace e2 := H.k e2 rfl; replace e6 := H.k e6 rfl; have e17 := H.g 17 rfl rfl; clear H; refine hKq3 _ _ ?_; clear hKq3 Kq3
  refine wp_cond_false (slotE e17) ?_
  clear e17; refine wp_skip ?_; refine hKq2 _ _ ?_; clear hKq2 Kq2; refine wp_seq_k fun Kq4 hKq4 => ?_; have a1 := HA.out.1; have a3 := HA.out.2.2.1
  refine sm_list [0] 18 3 hs hd (by kernel_rfl) (agC e0 agN) rfl ?_
  simp only [seval]
  go_wp2_with fail
  intro a H; replace hs := H.s hs; replace hd := H.d rfl; replace e1 := H.k e1 rfl; replace e2 := H.k e2 rfl; replace e6 := H.k e6 rfl; replace e0 := H.g 0 rfl rfl; clear H; refine hKq4 _ _ ?_; clear hKq4 Kq4; refine wp_seq_k fun Kq5 hKq5 => ?_
  rw [a3] at e0
  clear a1 a3; have a2 := HA.out.2.1
  refine sm_list [1] 21 2 hs hd (by kernel_rfl) (agC e1 agN) rfl ?_
  simp only [seval]
  go_wp2_with fail
  intro a H; replace hs := H.s hs; replace hd := H.d rfl; replace e2 := H.k e2 rfl; replace e6 := H.k e6 rfl; replace e0 := H.k e0 rfl; replace e1 := H.g 1 rfl rfl; clear H; refine hKq5 _ _ ?_; clear hKq5 Kq5; refine wp_seq_k fun Kq6 hKq6 => ?_; clear a2
  refine sm_list [0, 7, 8] 23 7 hs hd (by kernel_rfl) (agC e0 (agU (agU agN))) rfl ?_
  simp only [seval]
  go_wp2_with fail
  refine (conf_any 4 2 w1).mono ?_
  rintro x w2 ⟨rfl, hb2⟩
  go_wp2_with fail
  refine (ends_any w2).mono ?_
  rintro x w3 ⟨A, c, rfl, rd3, hb3⟩
  have L3 := HL1.out.trans ((hb2.trans (hb3.mono hb2.size)).mono HL1.out.size); clear hb2 hb3
  go_wp2_with fail
  refine (hoNew_any 4 2 r [⟨5, 1, 2, 0, 0, 0, 0, 0, 0, 0, 0, 1, true⟩, ⟨5, 1, 2, 0, 0, 0, 0, 0, 0, 0, 0, 1, false⟩] A 2 c w3 rfl rd3).mono ?_
  rintro x w4 ⟨hb4, hor⟩
  obtain ⟨g, gb, ve, hg, vm, ms, rfl, hml, hX⟩ : ∃ g gb ve hg vm ms, x = .returned (.tuple #[.pointer (some ⟨g, 0, none⟩), .int .i64 0]) ∧ ms.length = ([⟨5, 1, 2, 0, 0, 0, 0, 0, 0, 0, 0, 1, true⟩, ⟨5, 1, 2, 0, 0, 0, 0, 0, 0, 0, 0, 1, false⟩] : List Ed).length ∧ HoX w3 w4 g gb ve hg vm ms 4 2 r [⟨5, 1, 2, 0, 0, 0, 0, 0, 0, 0, 0, 1, true⟩, ⟨5, 1, 2, 0, 0, 0, 0, 0, 0, 0, 0, 1, false⟩] := by
    rcases hor with ⟨h1, _⟩ | ⟨_, g, gb, ve, hg, vm, ms, h1, h2, h3⟩
    · exact absurd (hoV_two ⟨by omega, by omega⟩ ⟨HN.out.1.1, by have := HN.out.1.2; omega⟩) h1
    · exact ⟨g, gb, ve, hg, vm, ms, h1, h2, h3⟩
  obtain ⟨b0, b1, S4⟩ := st2_of hX hml
  have HS4 := Lib.hid (And.intro S4 (And.intro (L3.trans (hb4.mono L3.size)) L3.size))
  clear hor hb4 hX S4 hml L3 rd3
  go_wp2_with fail
  intro a H; replace hs := H.s hs; replace hd := H.d rfl; replace e0 := H.g 0 rfl rfl; replace e2 := H.k e2 rfl; replace e6 := H.k e6 rfl; replace e1 := H.k e1 rfl; have e7 := H.g 7 rfl rfl; have e8 := H.g 8 rfl rfl; clear H; refine hKq6 _ _ ?_; clear hKq6 Kq6; refine wp_seq_k fun Kq7 hKq7 => ?_; refine wp_seq_k fun Kq8 hKq8 => ?_
  refine sm_list [8] 30 2 hs hd (by kernel_rfl) (agC e8 agN) rfl ?_
  simp only [seval]
  go_wp2_with fail
  intro a H; replace hs := H.s hs; replace hd := H.d rfl; replace e8 := H.g 8 rfl rfl; replace e2 := H.k e2 rfl; replace e6 := H.k e6 rfl; replace e0 := H.k e0 rfl; replace e1 := H.k e1 rfl; replace e7 := H.k e7 rfl; have e31 := H.g 31 rfl rfl; clear H; refine hKq8 _ _ ?_; clear hKq8 Kq8
  refine wp_cond_false (slotE e31) ?_
  clear e31; refine wp_skip ?_; refine hKq7 _ _ ?_; clear hKq7 Kq7; refine wp_seq_k fun Kq9 hKq9 => ?_
  have hcvb := fun (w : World) (C : Array Value) (n c : Nat) => Lib.run_convert_bytes_const (P := Tryz.prog) w 23 5 C n c Tryz.underlying23 Tryz.underlying5
  refine sm_list [2, 9, 10] 32 10 hs hd (by kernel_rfl) (agC e2 (agU (agU agN))) rfl ?_
  simp only [seval]
  go_wp2_with fail
  have hal := (Below.refl w4.heap.size w4).alloc (Nat.le_refl _) (.cells #[.int .u8 120] 5 (1, 2))
  have BD := heap_alloc_new w4 (.cells #[.int .u8 120] 5 (1, 2))
  have S5 := HS4.out.1.kept hal; have L5 := HS4.out.2.1.trans (hal.mono HS4.out.2.1.size)
  obtain ⟨q, hq⟩ : ∃ q, q = w4.heap.size := ⟨_, rfl⟩
  rw [← hq] at BD ⊢
  generalize w4.alloc (.cells #[.int .u8 120] 5 (1, 2)) = w5 at BD S5 L5 ⊢
  clear hal hq
  have rdd : Reads w5 w5.heap.size 1 (some ⟨q, 0, none⟩) 1 (us [120]) := ⟨rfl, fun _ => ⟨_, rfl, lt_of_block BD, fun j v hv => cells_of_row BD j v hv⟩⟩
  refine (numbered_any 1 2 0 0 0 0 0 0 0 0 0 0 5 0 0 0 z (some ⟨q, 0, none⟩) 1 1 [120] w5 f (by rw [HF.out.2.2.2.2.2.1, HF.out.2.2.2.2.2.2]) HF.out.2.1 rdd (by omega) (.inr trivial)).mono ?_
  rintro x w6 ⟨hb6, hor⟩
  obtain ⟨v, rfl, own6⟩ : ∃ v, x = .returned (.tuple #[v, .int .i64 0]) ∧ w6.ownsRow w5.heap.size 5 1 v (encF f).length (us (encF f)) := by
    rcases hor with ⟨h1, _⟩ | ⟨_, v, h2, h3⟩
    · exact absurd HF.out.1 h1
    · exact ⟨v, h2, h3⟩
  obtain ⟨Ab, cb, rfl, hcb, rb⟩ := ownsRow_reads own6
  rw [← HF.out.2.2.2.2.1] at hcb rb ⊢
  obtain ⟨L, hL⟩ : ∃ L, L = el.length := ⟨_, rfl⟩
  rw [← hL] at hcb rb ⊢
  have S6 := S5.kept hb6
  have HS6 := Lib.hid (And.intro S6 (And.intro (L5.trans (hb6.mono L5.size)) (And.intro rb (And.intro hcb (And.intro hL HS4.out.2.2)))))
  clear hor hb6 own6 S5 L5 S6 rb hcb hL rdd BD HS4
  go_wp2_with fail
  intro a H; replace hs := H.s hs; replace hd := H.d rfl; replace e2 := H.g 2 rfl rfl; replace e6 := H.k e6 rfl; replace e0 := H.k e0 rfl; replace e1 := H.k e1 rfl; replace e7 := H.k e7 rfl; replace e8 := H.k e8 rfl; have e9 := H.g 9 rfl rfl; have e10 := H.g 10 rfl rfl; clear H; refine hKq9 _ _ ?_; clear hKq9 Kq9; refine wp_seq_k fun Kq10 hKq10 => ?_; refine wp_seq_k fun Kq11 hKq11 => ?_; clear hcvb
  refine sm_list [10] 42 2 hs hd (by kernel_rfl) (agC e10 agN) rfl ?_
  simp only [seval]
  go_wp2_with fail
  intro a H; replace hs := H.s hs; replace hd := H.d rfl; replace e10 := H.g 10 rfl rfl; replace e2 := H.k e2 rfl; replace e6 := H.k e6 rfl; replace e0 := H.k e0 rfl; replace e1 := H.k e1 rfl; replace e7 := H.k e7 rfl; replace e8 := H.k e8 rfl; replace e9 := H.k e9 rfl; have e43 := H.g 43 rfl rfl; clear H; refine hKq11 _ _ ?_; clear hKq11 Kq11
  refine wp_cond_false (slotE e43) ?_
  clear e43; refine wp_skip ?_; refine hKq10 _ _ ?_; clear hKq10 Kq10; refine wp_seq_k fun Kq12 hKq12 => ?_
  refine sm_list [] 11 1 hs hd (by kernel_rfl) agN rfl ?_
  simp only [seval]
  go_wp2_with fail
  intro a H; replace hs := H.s hs; replace hd := H.d rfl; replace e2 := H.k e2 rfl; replace e6 := H.k e6 rfl; replace e0 := H.k e0 rfl; replace e1 := H.k e1 rfl; replace e7 := H.k e7 rfl; replace e8 := H.k e8 rfl; replace e9 := H.k e9 rfl; replace e10 := H.k e10 rfl; have e11 := H.g 11 rfl rfl; clear H; refine hKq12 _ _ ?_; clear hKq12 Kq12; refine wp_seq_k fun Kq13 hKq13 => ?_
  refine sm_list [7, 9, 11, 12, 13] 44 7 hs hd (by kernel_rfl) (agC e7 (agC e9 (agC e11 (agU (agU agN))))) rfl ?_
  simp only [seval]
  go_wp2_with fail
  refine (hIn_0true w3.heap.size g gb ve hg vm b0 b1 _ rfl 4 [0, 0] 0 0 r 1099511627776 16777216 ⟨true, 0, 0, 0⟩ ⟨true, 0, 0, 0⟩ ⟨true, 0, 0, 0⟩ ⟨false, sq, 1, 16777216⟩ ⟨true, 0, 0, 0⟩ ⟨false, sq, 1, 16777216⟩ Ab L cb el 0 0 0 0 0 0 sq [120] w6 HS6.out.1.at_ HS6.out.1.mg (by decide) HS6.out.2.2.1 HF.out.2.2.2.1.2 (by have := HF.out.2.2.2.1.1; have := HS6.out.2.2.2.2.1; omega) HS6.out.2.2.2.1 HF.out.2.2.1 (fun W M => mgIn_take0 b1 r 16777216 sq W _ _ _ M (by have := HN.out.2.1; omega) (by have := HN.out.1; omega) HN.out.2.2.1 (by simp) (by simp) (.inl rfl) (.inl rfl))).mono ?_
  rintro x w7 ⟨vq, A2, l, c2, rfl, hl, own7, rd7, X7, M7, f7, y7, F7⟩
  obtain ⟨Aq, cq, rfl, _, _⟩ := ownsRow_reads own7
  have L7 : Below w.heap.size w w7 := HS6.out.2.1.trans (le_four F7 HS6.out.2.1.size (Nat.le_trans HS6.out.2.2.2.2.2 HS6.out.1.ge.1) (fun k hk => Nat.le_trans HS6.out.2.2.2.2.2 (HS6.out.1.ge.2.2 k hk)))
  have S7 : St2 w3.heap.size w7 g gb ve hg vm b0 b1 4 r [0, 0] 0 ⟨false, sq, 1, 16777216⟩ ⟨true, 0, 0, 0⟩ ⟨false, sq, 1, 16777216⟩ := ⟨X7, M7, HS6.out.1.ge⟩
  have HS7 := Lib.hid (And.intro S7 (And.intro L7 (y7 _ _ _ HS6.out.2.2.1)))
  clear X7 M7 f7 y7 F7 L7 S7 own7 rd7 hl
  go_wp2_with fail
  intro a H; replace hs := H.s hs; replace hd := H.d rfl; replace e7 := H.g 7 rfl rfl; replace e9 := H.g 9 rfl rfl; replace e11 := H.g 11 rfl rfl; replace e2 := H.k e2 rfl; replace e6 := H.k e6 rfl; replace e0 := H.k e0 rfl; replace e1 := H.k e1 rfl; replace e8 := H.k e8 rfl; replace e10 := H.k e10 rfl; have e13 := H.g 13 rfl rfl; clear H; refine hKq13 _ _ ?_; clear hKq13 Kq13; refine wp_seq_k fun Kq14 hKq14 => ?_
  by_cases hc : r ≤ wt
  ·
    have dc : decide (r ≤ wt) = true := decide_eq_true hc
    refine sm_list [1, 7, 9, 11, 14, 15] 51 10 hs hd (by kernel_rfl) (agC e1 (agC e7 (agC e9 (agC e11 (agU (agU agN)))))) rfl ?_
    simp only [seval]
    go_wp2_with fail
    rw [HA.out.2.2.2.1, HA.out.2.2.2.2]
    refine (hIn_0true w3.heap.size g gb ve hg vm b0 b1 _ rfl 4 [0, 0] 0 0 r h2 (16777216 + wt) ⟨false, sq, 1, 16777216⟩ ⟨true, 0, 0, 0⟩ ⟨false, sq, 1, 16777216⟩ ⟨false, sq, 1, 16777216 + wt⟩ ⟨true, 0, 0, 0⟩ ⟨false, sq, 1, 16777216 + wt⟩ Ab L cb el 0 0 0 0 0 0 sq [120] w7 HS7.out.1.at_ HS7.out.1.mg HN.out.2.2.2 HS7.out.2.2 HF.out.2.2.2.1.2 (by have := HF.out.2.2.2.1.1; have := HS6.out.2.2.2.2.1; omega) HS6.out.2.2.2.1 HF.out.2.2.1 (fun W M => mgIn_take0 b1 r (16777216 + wt) sq W _ _ _ M (by have := HN.out.2.1; omega) (by have := HN.out.1; omega) HN.out.2.2.1 (by simp) (by simp) (.inr ⟨by have := HN.out.2.1; show (16777216 : Int) ≤ _; omega, by show r ≤ (16777216 + wt) - 16777216; omega⟩) (.inr ⟨by have := HN.out.2.1; show (16777216 : Int) ≤ _; omega, by show r ≤ (16777216 + wt) - 16777216; omega⟩))).mono ?_
    rintro x w8 ⟨vq, A3, l3, c3, rfl, hl, own8, rd8, X8, M8, f8, y8, F8⟩
    obtain ⟨Aq8, cq8, rfl, _, _⟩ := ownsRow_reads own8
    have L8 : Below w.heap.size w w8 := HS7.out.2.1.trans (le_four F8 HS7.out.2.1.size (Nat.le_trans HS6.out.2.2.2.2.2 HS6.out.1.ge.1) (fun k hk => Nat.le_trans HS6.out.2.2.2.2.2 (HS6.out.1.ge.2.2 k hk)))
    clear X8 M8 f8 y8 F8 own8 rd8 hl
    go_wp2_with fail
    intro a H; replace hs := H.s hs; replace hd := H.d rfl; replace e1 := H.g 1 rfl rfl; replace e7 := H.g 7 rfl rfl; replace e9 := H.g 9 rfl rfl; replace e11 := H.g 11 rfl rfl; replace e2 := H.k e2 rfl; replace e6 := H.k e6 rfl; replace e0 := H.k e0 rfl; replace e8 := H.k e8 rfl; replace e10 := H.k e10 rfl; replace e13 := H.k e13 rfl; have e15 := H.g 15 rfl rfl; clear H; refine hKq14 _ _ ?_; clear hKq14 Kq14
    refine wp_seq_k fun Kq15 hKq15 => ?_
    refine sm_list [0, 1, 6, 13, 15] 61 12 hs hd (by kernel_rfl) (agC e0 (agC e1 (agC e6 (agC e13 (agC e15 agN))))) rfl ?_
    simp only [seval]
    go_wp2_with fail
    intro a H; replace hs := H.s hs; replace hd := H.d rfl; replace e0 := H.g 0 rfl rfl; replace e1 := H.g 1 rfl rfl; replace e13 := H.g 13 rfl rfl; replace e15 := H.g 15 rfl rfl; replace e2 := H.k e2 rfl; replace e7 := H.k e7 rfl; replace e8 := H.k e8 rfl; replace e9 := H.k e9 rfl; replace e10 := H.k e10 rfl; replace e11 := H.k e11 rfl; replace e6 := H.g 6 rfl rfl; clear H; refine hKq15 _ _ ?_; clear hKq15 Kq15
    refine wp_ret ?_
    exact sm_ret rfl hd e6 ⟨rfl, L8⟩
  ·
    have dc : decide (r ≤ wt) = false := decide_eq_false hc
    refine sm_list [1, 7, 9, 11, 14, 15] 51 10 hs hd (by kernel_rfl) (agC e1 (agC e7 (agC e9 (agC e11 (agU (agU agN)))))) rfl ?_
    simp only [seval]
    go_wp2_with fail
    rw [HA.out.2.2.2.1, HA.out.2.2.2.2]
    refine (hIn_0false w3.heap.size g gb ve hg vm b0 b1 _ rfl 4 [0, 0] 0 0 r h2 (16777216 + wt) ⟨false, sq, 1, 16777216⟩ ⟨true, 0, 0, 0⟩ ⟨false, sq, 1, 16777216⟩ ⟨false, sq, 1, 16777216⟩ ⟨true, 0, 0, 0⟩ ⟨false, sq, 1, 16777216⟩ Ab L cb el 0 0 0 0 0 0 sq [120] w7 HS7.out.1.at_ HS7.out.1.mg HN.out.2.2.2 HS7.out.2.2 HF.out.2.2.2.1.2 (by have := HF.out.2.2.2.1.1; have := HS6.out.2.2.2.2.1; omega) HS6.out.2.2.2.1 HF.out.2.2.1 (fun W M => mgIn_again0 b1 r (16777216 + wt) sq W _ _ 16777216 M (by have := HN.out.2.1; omega) (by have := HN.out.1; omega) HN.out.2.2.1 (by omega) (by rintro ⟨_, h⟩; omega))).mono ?_
    rintro x w8 ⟨rfl, X8, M8, f8, y8, F8⟩
    have L8 : Below w.heap.size w w8 := HS7.out.2.1.trans (le_four F8 HS7.out.2.1.size (Nat.le_trans HS6.out.2.2.2.2.2 HS6.out.1.ge.1) (fun k hk => Nat.le_trans HS6.out.2.2.2.2.2 (HS6.out.1.ge.2.2 k hk)))
    clear X8 M8 f8 y8 F8
    go_wp2_with fail
    intro a H; replace hs := H.s hs; replace hd := H.d rfl; replace e1 := H.g 1 rfl rfl; replace e7 := H.g 7 rfl rfl; replace e9 := H.g 9 rfl rfl; replace e11 := H.g 11 rfl rfl; replace e2 := H.k e2 rfl; replace e6 := H.k e6 rfl; replace e0 := H.k e0 rfl; replace e8 := H.k e8 rfl; replace e10 := H.k e10 rfl; replace e13 := H.k e13 rfl; have e15 := H.g 15 rfl rfl; clear H; refine hKq14 _ _ ?_; clear hKq14 Kq14
    refine wp_seq_k fun Kq15 hKq15 => ?_
    refine sm_list [0, 1, 6, 13, 15] 61 12 hs hd (by kernel_rfl) (agC e0 (agC e1 (agC e6 (agC e13 (agC e15 agN))))) rfl ?_
    simp only [seval]
    go_wp2_with fail
    intro a H; replace hs := H.s hs; replace hd := H.d rfl; replace e0 := H.g 0 rfl rfl; replace e1 := H.g 1 rfl rfl; replace e13 := H.g 13 rfl rfl; replace e15 := H.g 15 rfl rfl; replace e2 := H.k e2 rfl; replace e7 := H.k e7 rfl; replace e8 := H.k e8 rfl; replace e9 := H.k e9 rfl; replace e10 := H.k e10 rfl; replace e11 := H.k e11 rfl; replace e6 := H.g 6 rfl rfl; clear H; refine hKq15 _ _ ?_; clear hKq15 Kq15
    refine wp_ret ?_
    exact sm_ret rfl hd e6 ⟨rfl, L8⟩

/-! ### The row's step -/
set_option maxRecDepth 100000 in
theorem hostReset_lifted (os : Os) (started : os.Started) (H : Type) (enc : TypeId × Value → H) :
    ReturnsInHanded {} Tryz.checked os 4 .any (Rows.hostResetSpec.pre6 enc Tryz.prog Tryz.f4 Rows.hostResetRow.domain false) (Rows.hostResetSpec.post enc Tryz.prog Tryz.f4 false true false false) := by
  refine returnsInHanded_of_change (C := Tryz.checked) own started (by kernel_rfl) Tryz.func4
    (ChangeSpec.witness6 (enc := enc) (C := Tryz.checked) false ⟨#[], #[.int .i64 0, .int .i64 0, .int .i64 0], []⟩ 8 (by kernel_rfl) (by kernel_rfl) (by kernel_rfl) (by kernel_rfl)) ?_
  intro W base args ds gs before hval0 hW _ _
  have hval : ∀ (j : Nat) t v, Tryz.f4.params[j]? = some t → args[j]? = some v → Value.okWide Tryz.prog W .any base t v := hval0
  have hW' := hW
  obtain ⟨p, q, hA0, hV, rfl, hfz, hnd⟩ := hW
  have hA : DataW.TrodAll enc Tryz.prog W 0 (fun _ => true) true Tryz.f4.params.toList args.toList ds p := hA0
  rw [Tryz.params4] at hA hval
  obtain ⟨v0, v1, v2, d0, d1, d2, p0, p1, p2, rfl, rfl, rfl, h0, h1, h2⟩ := trodAll_three hA
  obtain ⟨x0, rfl⟩ := okWide_int Tryz.underlying3 (hval 0 3 v0 rfl rfl)
  obtain ⟨x1, rfl⟩ := okWide_int Tryz.underlying3 (hval 1 3 v1 rfl rfl)
  obtain ⟨x2, rfl⟩ := okWide_int Tryz.underlying3 (hval 2 3 v2 rfl rfl)
  exact law_post laidOut (by kernel_rfl) rfl (by kernel_rfl) Tryz.underlying4 rfl hW' (hostReset_calls x0 x1 x2 W)

theorem hostReset_holds : Rows.HostResetSaid :=
  OpenClaim.holds_of_wide 4 Tryz.f4 rfl rfl rfl rfl rfl rfl rfl ⟨rfl, rfl, rfl, rfl, rfl⟩ rfl rfl rfl rfl rfl (by kernel_rfl) Tryz.func4 (by kernel_rfl)
    (of_decide_eq_true (by kernel_rfl)) (by unfold Func.isWrapper; first | (rw [if_pos (by decide +kernel)]; kernel_rfl) | (rw [if_neg (by decide +kernel)]; exact ⟨rfl, rfl⟩))
    (fun os started H enc _ => hostReset_lifted os started H enc)

#print axioms hostReset_holds

end Go.Proofs.YthhlfojaloaooaaGreat
