/-
  the laws of stations: the document's example.
-/
import Derived.Test.YthhlfojaloaooaaGreatRows
import Derived.Test.YthhlfojaloaooaaGreatHnLaZ
import Derived.Test.YthhlfojaloaooaaGreatHnZaZ
import Derived.Test.YthhlfojaloaooaaGreatHnZbZ
import Derived.WalkKit
import Derived.ProofKit
import Derived.OpenShut
import Derived.LoopTactic
import Derived.WalkLawsBesides
import Derived.WalkSpells
import Derived.Outline
import Derived.Lib.Hide
import Derived.Deep.DrawnRows
import Derived.Laws.CopyOwn
import Derived.MapKept
namespace Go.Proofs.YthhlfojaloaooaaGreat
set_option linter.unusedSimpArgs false
set_option linter.unusedVariables false
open Go.RowKit Go.WideShapes Go.ChangeShapes
attribute [local go_sem ↓] Go.wp_at_zero Go.wp_at_succ

theorem cells_of_row {w : World} {g : Nat} {t : TypeId} {cs : Array Value} {fr : Nat × Nat} (h : w.heap[g]? = some (.cells cs t fr)) (j : Nat) (v : Value) (hv : cs.toList[j]? = some v) : w.cell? ((⟨g, 0, none⟩ : Addr).add j) = some v := by
  have e : (⟨g, 0, none⟩ : Addr).add j = ⟨g, j, none⟩ := by unfold Addr.add; split <;> simp_all
  rw [e, cell_of_row w g j cs t fr h]
  simpa using hv
/-- A station of two ends, made: what stands. -/
structure St2 (B : Nat) (w : World) (g gb : Nat) (ve : Value) (hg : Nat) (vm : Value) (b0 b1 : MgB) (id r : Int) (gens : List Int) (ag : Int) (s0 s1 sa : SqS) : Prop where
  at_ : HoAt B w g gb ve hg vm 2 [.pointer (some ⟨b0.g, 0, none⟩), .pointer (some ⟨b1.g, 0, none⟩)] id 2 [⟨5, 1, 2, 0, 0, 0, 0, 0, 0, 0, 0, 1, true⟩, ⟨5, 1, 2, 0, 0, 0, 0, 0, 0, 0, 0, 1, false⟩] gens ag 0
  mg : MgAt w b1 r s0 s1 sa
  ge : B ≤ g ∧ B ≤ hg ∧ ∀ k ∈ b1.all, B ≤ k
theorem st2_of {w wk : World} {g gb : Nat} {ve : Value} {hg : Nat} {vm : Value} {ms : List MgB} {id r : Int} (h : HoX w wk g gb ve hg vm ms id 2 r [⟨5, 1, 2, 0, 0, 0, 0, 0, 0, 0, 0, 1, true⟩, ⟨5, 1, 2, 0, 0, 0, 0, 0, 0, 0, 0, 1, false⟩]) (hl : ms.length = ([⟨5, 1, 2, 0, 0, 0, 0, 0, 0, 0, 0, 1, true⟩, ⟨5, 1, 2, 0, 0, 0, 0, 0, 0, 0, 0, 1, false⟩] : List Ed).length) :
    ∃ b0 b1, St2 w.heap.size wk g gb ve hg vm b0 b1 id r [0, 0] 0 ⟨true, 0, 0, 0⟩ ⟨true, 0, 0, 0⟩ ⟨true, 0, 0, 0⟩ := by
  obtain ⟨b0, b1, rfl⟩ : ∃ b0 b1, ms = [b0, b1] := by
    match ms, hl with
    | [b0, b1], _ => exact ⟨b0, b1, rfl⟩
  exact ⟨b0, b1, h.at_, h.mg b1 (by simp), h.ge, h.geh, h.gem b1 (by simp)⟩
theorem St2.kept {B : Nat} {w w' : World} {g gb : Nat} {ve : Value} {hg : Nat} {vm : Value} {b0 b1 : MgB} {id r : Int} {gens : List Int} {ag : Int} {s0 s1 sa : SqS} (h : St2 B w g gb ve hg vm b0 b1 id r gens ag s0 s1 sa) (hb : Below w.heap.size w w') : St2 B w' g gb ve hg vm b0 b1 id r gens ag s0 s1 sa :=
  ⟨h.at_.kept hb, (FTy.be (T := []) hb).mg h.mg (by simp) (by simp) (by simp), h.ge⟩
theorem le_four {B : Nat} {w w' : World} {g : Nat} {b : MgB} (hf : Fr (g :: b.all) w w') (hB : B ≤ w.heap.size) (hg : B ≤ g) (hb : ∀ k ∈ b.all, B ≤ k) : Below B w w' :=
  hf.below hB fun k hk => by
    rcases List.mem_cons.1 hk with hk | hk
    · rw [hk]; exact hg
    · exact hb k hk
theorem hoV_two {id r : Int} (hi : 1 ≤ id ∧ id < 281474976710656) (hr : 1 ≤ r ∧ r ≤ 1099511627776) : hoV id 2 r [⟨5, 1, 2, 0, 0, 0, 0, 0, 0, 0, 0, 1, true⟩, ⟨5, 1, 2, 0, 0, 0, 0, 0, 0, 0, 0, 1, false⟩] = 0 := by
  rw [hoV_ok (by simp; omega) (by decide)]
  exact ckB_ok hi.1 hi.2 (by omega) (by omega)
theorem conv_abc {A2 : Option Addr} {c2 : Nat} {w : World} (h : Reads w w.heap.size 1 A2 3 (us [97, 98, 99])) : (convert 23 9 (.slice A2 3 c2)).run Tryz.prog w = .ok (.string ⟨#[97, 98, 99]⟩) w :=
  run_conv_reads (P := Tryz.prog) (src := 23) (dst := 9) Tryz.underlying23 Tryz.underlying5 Tryz.underlying9 (c := c2) h
def fH : Fm := ⟨[1, 2, 0, 0, 0, 0], [0, 0, 0, 0, 0, 3], true, 5, 7, false, true, 0, 2048, [97, 98, 99]⟩
set_option maxRecDepth 100000 in
set_option maxHeartbeats 4000000 in
theorem head_any (w : World) : Calls Tryz.prog 6 #[] w fun e w' => e = .returned (.bool true) ∧ Below w.heap.size w w' := by
  have hck : checkF fH = 0 := ckF_ok (by omega) (by omega) (by decide)
  have hwf : fH.Wf := ⟨rfl, rfl, by unfold fH; intro b hb; simp at hb; omega, by unfold fH; intro b hb; simp at hb; omega, by unfold fH; intro b hb; simp at hb; omega⟩
  have hde : decV (encF fH) = .ok fH := dec_enc fH hwf hck
  obtain ⟨el, hel⟩ : ∃ el, el = encF fH := ⟨_, rfl⟩
  have hlen : el.length ≤ 2000 ∧ ∀ b ∈ el, 0 ≤ b ∧ b ≤ 255 := by rw [hel]; exact encF_len fH hwf hck
  have HF := Lib.hid (And.intro hck (And.intro hwf (And.intro (hel ▸ hde) (And.intro hlen hel))))
  clear hck hwf hde hel hlen
  refine calls_sm (N := 101) Tryz.func6 rfl (by kernel_rfl) ?_
  intro a hs hd ha
  clear ha
  conv => arg 2; whnf
  refine wp_seq_k fun Kq1 hKq1 => ?_
  refine sm_list [] 0 1 hs hd (by kernel_rfl) agN rfl ?_
  simp only [seval]
  go_wp2_with fail
  intro a H; replace hs := H.s hs; replace hd := H.d rfl; have e0 := H.g 0 rfl rfl; clear H; refine hKq1 _ _ ?_; clear hKq1 Kq1; refine wp_seq_k fun Kq2 hKq2 => ?_
  refine sm_list [1, 2] 10 6 hs hd (by kernel_rfl) (agU (agU agN)) rfl ?_
  simp only [seval]
  go_wp2_with fail
  refine (conf_any 3 2 w).mono ?_
  rintro x w1 ⟨rfl, hb1⟩
  go_wp2_with fail
  refine (ends_any w1).mono ?_
  rintro x w2 ⟨A, c, rfl, rd2, hb2⟩
  have L2 := hb1.trans (hb2.mono hb1.size)
  clear hb1 hb2
  go_wp2_with fail
  refine (hoNew_any 3 2 1000 [⟨5, 1, 2, 0, 0, 0, 0, 0, 0, 0, 0, 1, true⟩, ⟨5, 1, 2, 0, 0, 0, 0, 0, 0, 0, 0, 1, false⟩] A 2 c w2 rfl rd2).mono ?_
  rintro x w3 ⟨hb3, hor⟩
  obtain ⟨g, gb, ve, hg, vm, ms, rfl, hml, hX⟩ : ∃ g gb ve hg vm ms, x = .returned (.tuple #[.pointer (some ⟨g, 0, none⟩), .int .i64 0]) ∧ ms.length = ([⟨5, 1, 2, 0, 0, 0, 0, 0, 0, 0, 0, 1, true⟩, ⟨5, 1, 2, 0, 0, 0, 0, 0, 0, 0, 0, 1, false⟩] : List Ed).length ∧ HoX w2 w3 g gb ve hg vm ms 3 2 1000 [⟨5, 1, 2, 0, 0, 0, 0, 0, 0, 0, 0, 1, true⟩, ⟨5, 1, 2, 0, 0, 0, 0, 0, 0, 0, 0, 1, false⟩] := by
    rcases hor with ⟨h1, _⟩ | ⟨_, g, gb, ve, hg, vm, ms, h1, h2, h3⟩
    · exact absurd (hoV_two ⟨by omega, by omega⟩ ⟨by omega, by omega⟩) h1
    · exact ⟨g, gb, ve, hg, vm, ms, h1, h2, h3⟩
  obtain ⟨b0, b1, S3⟩ := st2_of hX hml
  have L3 := L2.trans (hb3.mono L2.size)
  have HS3 := Lib.hid (And.intro S3 (And.intro L3 L2.size))
  have HLX : Hid (w.heap.size ≤ w2.heap.size) := Lib.hid L2.size
  clear hor hb3 hX S3 L3 hml L2 rd2
  go_wp2_with fail
  intro a H; replace hs := H.s hs; replace hd := H.d rfl; replace e0 := H.k e0 rfl; have e1 := H.g 1 rfl rfl; have e2 := H.g 2 rfl rfl; clear H; refine hKq2 _ _ ?_; clear hKq2 Kq2; refine wp_seq_k fun Kq3 hKq3 => ?_; refine wp_seq_k fun Kq4 hKq4 => ?_
  refine sm_list [1, 2] 16 6 hs hd (by kernel_rfl) (agC e1 (agC e2 agN)) rfl ?_
  simp only [seval]
  go_wp2_with fail
  intro a H; replace hs := H.s hs; replace hd := H.d rfl; replace e1 := H.g 1 rfl rfl; replace e2 := H.g 2 rfl rfl; replace e0 := H.k e0 rfl; have e21 := H.g 21 rfl rfl; clear H; refine hKq4 _ _ ?_; clear hKq4 Kq4
  refine wp_cond_false (slotE e21) ?_
  clear e21; refine wp_skip ?_; refine hKq3 _ _ ?_; clear hKq3 Kq3; refine wp_seq_k fun Kq5 hKq5 => ?_
  have hcvb := fun (w : World) (C : Array Value) (n c : Nat) => Lib.run_convert_bytes_const (P := Tryz.prog) w 23 5 C n c Tryz.underlying23 Tryz.underlying5
  refine sm_list [1, 3, 4, 5] 22 8 hs hd (by kernel_rfl) (agC e1 (agU (agU (agU agN)))) rfl ?_
  simp only [seval]
  go_wp2_with fail
  have hal := (Below.refl w3.heap.size w3).alloc (Nat.le_refl _) (.cells #[.int .u8 97, .int .u8 98, .int .u8 99] 5 (3, 4))
  have BD := heap_alloc_new w3 (.cells #[.int .u8 97, .int .u8 98, .int .u8 99] 5 (3, 4))
  have S4 := HS3.out.1.kept hal; have L4 := HS3.out.2.1.trans (hal.mono HS3.out.2.1.size)
  obtain ⟨q, hq⟩ : ∃ q, q = w3.heap.size := ⟨_, rfl⟩
  have hqh : q ≠ hg := by have := HS3.out.1.at_.gnb.lt; omega
  rw [← hq] at BD ⊢
  generalize w3.alloc (.cells #[.int .u8 97, .int .u8 98, .int .u8 99] 5 (3, 4)) = w4 at BD S4 L4 ⊢
  clear hal hq
  have rdd : Reads w4 w4.heap.size 1 (some ⟨q, 0, none⟩) 3 (us [97, 98, 99]) := ⟨rfl, fun _ => ⟨_, rfl, lt_of_block BD, fun j v hv => cells_of_row BD j v hv⟩⟩
  refine (hSend_any w2.heap.size g gb ve hg vm 2 _ 3 2 _ [0, 0] 0 0 0 ⟨5, 1, 2, 0, 0, 0, 0, 0, 0, 0, 0, 1, true⟩ 0 (some ⟨q, 0, none⟩) 3 3 [97, 98, 99] fH w4 S4.at_ rfl rfl rfl (by omega) (by omega) rfl HF.out.2.1 HF.out.1 rdd (fun ad h => by injection h with h; rw [← h]; exact hqh) (by omega) (by decide)).mono ?_
  rintro x w5 ⟨vo, o0, o1, rfl, own5, r05, r15, f5, X5, F5⟩
  obtain ⟨Ao, co, rfl, _, rdo⟩ := ownsRow_reads own5
  obtain ⟨Ao, hAo, _, hco⟩ := rdo.2 (by decide)
  subst hAo
  have S5 : St2 w2.heap.size w5 g gb ve hg vm b0 b1 3 1000 [1, 0] 0 ⟨true, 0, 0, 0⟩ ⟨true, 0, 0, 0⟩ ⟨true, 0, 0, 0⟩ := ⟨X5, f5.mg S4.mg (by decide) (by decide) (by decide), S4.ge⟩
  have L5 : Below w.heap.size w w5 := L4.trans (F5.below L4.size (fun k hk => by rw [List.mem_singleton.1 hk]; exact Nat.le_trans HS3.out.2.2 S4.ge.2.1))
  have HS5 := Lib.hid (And.intro S5 (And.intro L5 (And.intro own5 (And.intro r05 (And.intro r15 F5.size)))))
  clear rdd BD S4 L4 f5 X5 F5 S5 L5 own5 r05 r15 HS3 hqh rdo
  go_wp2_with fail
  intro a H; replace hs := H.s hs; replace hd := H.d rfl; replace e1 := H.g 1 rfl rfl; replace e0 := H.k e0 rfl; replace e2 := H.k e2 rfl; have e3 := H.g 3 rfl rfl; have e4 := H.g 4 rfl rfl; have e5 := H.g 5 rfl rfl; clear H; refine hKq5 _ _ ?_; clear hKq5 Kq5; refine wp_seq_k fun Kq6 hKq6 => ?_; refine wp_seq_k fun Kq7 hKq7 => ?_; clear hcvb
  have c0 : w5.cell? Ao = some (.int .i64 0) := hco 0 _ rfl
  have c5 : w5.cell? ⟨Ao.block, Ao.off + 5, none⟩ = some (.int .i64 1) := hco 5 _ rfl
  have c4 : w5.cell? ⟨Ao.block, Ao.off + 4, none⟩ = some o0 := hco 4 _ rfl
  have c9 : w5.cell? ⟨Ao.block, Ao.off + 9, none⟩ = some o1 := hco 9 _ rfl
  obtain ⟨A0, cc0, rfl, hc0, rd0⟩ := ownsRow_reads HS5.out.2.2.2.1
  obtain ⟨A1, cc1, rfl, hc1, rd1⟩ := ownsRow_reads HS5.out.2.2.2.2.1
  rw [← HF.out.2.2.2.2] at c4 c9 hc0 hc1 rd0 rd1
  obtain ⟨L, hL⟩ : ∃ L, L = el.length := ⟨_, rfl⟩
  rw [← hL] at c4 c9 hc0 hc1 rd0 rd1
  have HR := Lib.hid (And.intro hc0 (And.intro hc1 (And.intro rd0 (And.intro rd1 (And.intro hL hco)))))
  clear hc0 hc1 rd0 rd1 hL hco
  refine sm_list [3, 4, 5] 30 25 hs hd (by kernel_rfl) (agC e3 (agC e4 (agC e5 agN))) rfl ?_
  simp only [seval]
  go_wp2_with fail
  intro a H; replace hs := H.s hs; replace hd := H.d rfl; replace e3 := H.g 3 rfl rfl; replace e4 := H.g 4 rfl rfl; replace e5 := H.g 5 rfl rfl; replace e0 := H.k e0 rfl; replace e1 := H.k e1 rfl; replace e2 := H.k e2 rfl; have e54 := H.g 54 rfl rfl; clear H; refine hKq7 _ _ ?_; clear hKq7 Kq7
  refine wp_cond_false (slotE e54) ?_
  clear e54; refine wp_skip ?_; refine hKq6 _ _ ?_; clear hKq6 Kq6; refine wp_seq_k fun Kq8 hKq8 => ?_; clear c0 c5 c9
  refine sm_list [1, 3, 6, 7] 55 9 hs hd (by kernel_rfl) (agC e1 (agC e3 (agU (agU agN)))) rfl ?_
  simp only [seval]
  go_wp2_with fail
  refine (hIn_0true w2.heap.size g gb ve hg vm b0 b1 _ rfl 3 [1, 0] 0 0 1000 0 0 ⟨true, 0, 0, 0⟩ ⟨true, 0, 0, 0⟩ ⟨true, 0, 0, 0⟩ ⟨false, 0, 1, 0⟩ ⟨true, 0, 0, 0⟩ ⟨false, 0, 1, 0⟩ A0 L cc0 el 0 0 0 0 0 3 0 [97, 98, 99] w5 HS5.out.1.at_ HS5.out.1.mg rfl HR.out.2.2.1 HF.out.2.2.2.1.2 (by have := HF.out.2.2.2.1.1; have := HR.out.2.2.2.2.1; omega) HR.out.1 HF.out.2.2.1 (fun W M => mgIn_take0 b1 1000 0 0 W _ _ _ M (by omega) (by omega) (by omega) (by simp) (by simp) (.inl rfl) (.inl rfl))).mono ?_
  rintro x w6 ⟨vq, A2, l, c2, rfl, hl, own6, rd6, X6, M6, f6, y6, F6⟩
  subst hl
  obtain ⟨Aq, cq, rfl, _, _⟩ := ownsRow_reads own6
  have L6 : Below w.heap.size w w6 := HS5.out.2.1.trans (le_four F6 HS5.out.2.1.size (Nat.le_trans (Nat.le_trans HLX.out (Nat.le_refl _)) HS5.out.1.ge.1) (fun k hk => Nat.le_trans HLX.out (HS5.out.1.ge.2.2 k hk)))
  have c9 : w6.cell? ⟨Ao.block, Ao.off + 9, none⟩ = some (.slice A1 L cc1) := by
    obtain ⟨A_, c_, hv_, _, rr⟩ := ownsRow_reads (f6.own HS5.out.2.2.1 (by decide))
    injection hv_ with hv_
    subst hv_
    obtain ⟨A_, e_, _, hcc⟩ := rr.2 (by decide)
    injection e_ with e_
    subst e_
    rw [HR.out.2.2.2.2.1, HF.out.2.2.2.2]
    exact hcc 9 _ rfl
  have rd1 := y6 _ _ _ HR.out.2.2.2.1
  have HS6 := Lib.hid (And.intro X6 (And.intro M6 (And.intro L6 (And.intro own6 (And.intro rd6 rd1)))))
  clear X6 M6 f6 y6 F6 L6 own6 rd6 rd1
  go_wp2_with fail
  intro a H; replace hs := H.s hs; replace hd := H.d rfl; replace e1 := H.g 1 rfl rfl; replace e3 := H.g 3 rfl rfl; replace e0 := H.k e0 rfl; replace e2 := H.k e2 rfl; replace e4 := H.k e4 rfl; replace e5 := H.k e5 rfl; have e7 := H.g 7 rfl rfl; clear H; refine hKq8 _ _ ?_; clear hKq8 Kq8; refine wp_seq_k fun Kq9 hKq9 => ?_; clear c4
  refine sm_list [1, 3, 8, 9] 64 9 hs hd (by kernel_rfl) (agC e1 (agC e3 (agU (agU agN)))) rfl ?_
  simp only [seval]
  go_wp2_with fail
  refine (hIn_1false w2.heap.size g gb ve hg vm b0 b1 _ rfl 3 [1, 0] 0 0 1000 0 0 ⟨false, 0, 1, 0⟩ ⟨true, 0, 0, 0⟩ ⟨false, 0, 1, 0⟩ ⟨false, 0, 1, 0⟩ ⟨false, 0, 1, 0⟩ ⟨false, 0, 1, 0⟩ A1 L cc1 el 0 0 0 0 0 3 0 [97, 98, 99] w6 HS6.out.1 HS6.out.2.1 rfl HS6.out.2.2.2.2.2 HF.out.2.2.2.1.2 (by have := HF.out.2.2.2.1.1; have := HR.out.2.2.2.2.1; omega) HR.out.2.1 HF.out.2.2.1 (fun W M => mgIn_alla1 b1 1000 0 0 W _ _ _ M (by omega) (by omega) (by omega) (by simp) (by omega) (.inl rfl) (by omega))).mono ?_
  rintro x w7 ⟨rfl, X7, M7, f7, y7, F7⟩
  have L7 : Below w.heap.size w w7 := HS6.out.2.2.1.trans (le_four F7 HS6.out.2.2.1.size (Nat.le_trans HLX.out HS5.out.1.ge.1) (fun k hk => Nat.le_trans HLX.out (HS5.out.1.ge.2.2 k hk)))
  have HS7 := Lib.hid (And.intro X7 (And.intro L7 (And.intro (f7.own HS6.out.2.2.2.1 (by decide)) (y7 _ _ _ HS6.out.2.2.2.2.1))))
  clear X7 M7 f7 y7 F7 L7
  go_wp2_with fail
  intro a H; replace hs := H.s hs; replace hd := H.d rfl; replace e1 := H.g 1 rfl rfl; replace e3 := H.g 3 rfl rfl; replace e0 := H.k e0 rfl; replace e2 := H.k e2 rfl; replace e4 := H.k e4 rfl; replace e5 := H.k e5 rfl; replace e7 := H.k e7 rfl; have e9 := H.g 9 rfl rfl; clear H; refine hKq9 _ _ ?_; clear hKq9 Kq9; refine wp_seq_k fun Kq10 hKq10 => ?_; clear c9
  obtain ⟨A_, c_, hv_, _, rr⟩ := ownsRow_reads HS7.out.2.2.1
  injection hv_ with hv_
  subst hv_
  obtain ⟨Aq, e_, _, hcc⟩ := rr.2 (by decide)
  subst e_
  have c0 : w7.cell? Aq = some (.int .i64 1) := hcc 0 _ rfl
  have c2_ : w7.cell? ⟨Aq.block, Aq.off + 2, none⟩ = some (.slice A2 3 c2) := hcc 2 _ rfl
  have hcv := conv_abc (c2 := c2) HS7.out.2.2.2
  clear rr hcc
  have HAG := Lib.hid (hAgain_any g (RowKit.wrap64 (0 + 1)) _ w7 HS7.out.1.box rfl)
  rw [show RowKit.wrap64 (0 + 1) = 1 from by kernel_rfl] at HAG
  refine sm_list [0, 1, 7, 9] 73 28 hs hd (by kernel_rfl) (agC e0 (agC e1 (agC e7 (agC e9 agN)))) rfl ?_
  simp only [seval]
  go_wp2_with fail
  refine HAG.out.mono ?_
  rintro x w8 ⟨rfl, rfl⟩
  go_wp2_with fail
  intro a H; replace hs := H.s hs; replace hd := H.d rfl; replace e1 := H.g 1 rfl rfl; replace e7 := H.g 7 rfl rfl; replace e9 := H.g 9 rfl rfl; replace e2 := H.k e2 rfl; replace e3 := H.k e3 rfl; replace e4 := H.k e4 rfl; replace e5 := H.k e5 rfl; replace e0 := H.g 0 rfl rfl; clear H; refine hKq10 _ _ ?_; clear hKq10 Kq10; refine wp_ret ?_
  exact sm_ret rfl hd e0 ⟨rfl, HS7.out.2.1⟩
end Go.Proofs.YthhlfojaloaooaaGreat
