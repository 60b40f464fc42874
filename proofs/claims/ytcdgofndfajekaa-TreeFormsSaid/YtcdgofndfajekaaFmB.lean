/-
  TreeForms: the wires are laid.
-/
import Derived.Test.YtcdgofndfajekaaFmN
import Derived.Test.YtcdgofndfajekaaFmA
namespace Go.Proofs.Ytcdgofndfajekaa
set_option linter.unusedSimpArgs false
set_option linter.unusedVariables false
open Go.RowKit Go.WideShapes Go.ChangeShapes
attribute [local go_sem ↓] Go.wp_at_zero Go.wp_at_succ

set_option maxRecDepth 100000 in
set_option maxHeartbeats 4000000 in
theorem tf_links (R : Nat → Pr) (A1 A2 : Option Addr) (n c0 nl c1 ns c2 g0 g8 : Nat) (v8 : Value) (F : List Nat) (Bs : List Bks) (L0 : List Tre) (PS0 : List (List Value)) (X Y : Nat → Int) (w0 w1 : World) (a : Act)
    (hr : Reads w0 w0.heap.size 2 A1 nl ((List.range nl).flatMap fun k => [.int .i64 (X k), .int .i64 (Y k)])) (SA : Sa w0 w1 g0 g8 n n v8 R F Bs L0 PS0) (hn : 1 ≤ n ∧ n ≤ 7) (hnl : nl ≤ 12)
    (hs : a.tmps.size = 463) (hd : a.defers = []) (e0 : a.tmps[0]? = some (.slice (some ⟨g0, 0, none⟩) n c0)) (e1 : a.tmps[1]? = some (.slice A1 nl c1)) (e2 : a.tmps[2]? = some (.slice A2 ns c2)) (e6 : a.tmps[6]? = some (.bool false)) (e7 : a.tmps[7]? = some (.int .i64 (n : Int))) (e8 : a.tmps[8]? = some (.pointer (some ⟨g8, 0, none⟩)))
    (hend : ∀ (a : Act) (w : World) (g13 g14 h8 c8 h14 c14 : Nat) (fr : List Nat) (W : List Wire) (L : List Tre) (PS : List (List Value)), a.tmps.size = 463 → a.defers = [] → a.tmps[0]? = some (.slice (some ⟨g0, 0, none⟩) n c0) → a.tmps[1]? = some (.slice A1 nl c1) → a.tmps[2]? = some (.slice A2 ns c2) → a.tmps[6]? = some (.bool false) → a.tmps[7]? = some (.int .i64 (n : Int)) → a.tmps[8]? = some (.pointer (some ⟨g8, 0, none⟩)) → a.tmps[13]? = some (.slice (some ⟨g13, 0, none⟩) n n) → a.tmps[14]? = some (.pointer (some ⟨g14, 0, none⟩)) → Sb w0 w g0 g8 g13 g14 n h8 c8 h14 c14 (fun k => maskP (R k) k) fr W F Bs L PS → Lnk (fun k => maskP (R k) k) n fr W L → W.length ≤ 12 → Code.wp Try.prog (sub [true, true, true, true, true, true, true, true, true, true] (bodyOf Try.f4)) (bodyPost Try.prog Try.f4 fun e w' => e = .returned (.bool true) ∧ Below w0.heap.size w0 w') a w) :
    Code.wp Try.prog (sub [true, true, true, true, true, true, true] (bodyOf Try.f4)) (bodyPost Try.prog Try.f4 fun e w' => e = .returned (.bool true) ∧ Below w0.heap.size w0 w') a w1 := by
  have HEND := Lib.hid hend
  have HR := Lib.hid hr
  clear hend hr
  conv => arg 2; whnf
  refine wp_seq_k fun Kq1 hKq1 => ?_
  obtain ⟨h8, c8, rfl, ST⟩ := SA.st (by omega)
  have hnI : (n : Int) ≤ 7 := by omega
  have hnz : (n : Int) ≠ 0 := by omega
  have hmk : ∀ W, (Instr.makeSlice 32 (.int .i64 (n : Int)) (.int .i64 (n : Int))).run Try.prog W = .ok (.slice (some ⟨W.heap.size, 0, none⟩) n n) (W.alloc (.cells (rowF n fun _ => .int .i64 0) 3)) := fun W => make_row (bytes := 8) Try.underlying32 (by kernel_rfl) rfl (by omega) (by omega) W
  refine sm_list [7, 13] 100 2 hs hd (by kernel_rfl) (agC e7 (agU agN)) rfl ?_
  simp only [seval]
  go_wp2_with fail
  intro a H; replace hs := H.s hs; replace hd := H.d rfl; replace e7 := H.g 7 rfl rfl; replace e0 := H.k e0 rfl; replace e1 := H.k e1 rfl; replace e2 := H.k e2 rfl; replace e6 := H.k e6 rfl; replace e8 := H.k e8 rfl; have e13 := H.g 13 rfl rfl; clear H; refine hKq1 _ _ ?_; clear hKq1 Kq1; refine wp_seq_k fun Kq2 hKq2 => ?_
  rw [made_frc]
  have LL := (Below.refl w1.heap.size w1).alloc (Nat.le_refl _) (.cells (frc (List.replicate n 0)) 3)
  have B13 := Blk.new w1 3 (frc (List.replicate n 0))
  have h13 : ∀ b ∈ Bs, w1.heap.size ∉ b.all := fun b hb hm => by have := SA.nt.old _ (SA.nt.sub b hb _ hm); omega
  obtain ⟨g13, hg13⟩ : ∃ g, g = w1.heap.size := ⟨_, rfl⟩
  rw [← hg13] at B13 e13 h13
  have hb13 : w0.heap.size ≤ g13 := by rw [hg13]; exact SA.low.size
  have lo2 := SA.low.trans (LL.mono SA.low.size)
  have st2 := ST.ft (.be LL)
  have nt2 := SA.nt.kept LL
  generalize w1.alloc (.cells (frc (List.replicate n 0)) 3) = w2 at *
  clear hg13 hmk LL ST
  refine sm_list [14] 102 1 hs hd (by kernel_rfl) (agU agN) rfl ?_
  simp only [seval]
  go_wp2_with fail
  intro a H; replace hs := H.s hs; replace hd := H.d rfl; replace e0 := H.k e0 rfl; replace e1 := H.k e1 rfl; replace e2 := H.k e2 rfl; replace e6 := H.k e6 rfl; replace e7 := H.k e7 rfl; replace e8 := H.k e8 rfl; replace e13 := H.k e13 rfl; have e14 := H.g 14 rfl rfl; clear H; refine hKq2 _ _ ?_; clear hKq2 Kq2; refine wp_seq_k fun Kq3 hKq3 => ?_; refine wp_seq_k fun Kq4 hKq4 => ?_
  have LL : Below w2.heap.size w2 ((w2.alloc (.cells #[] 66)).alloc (.cells #[.slice (some ⟨w2.heap.size, 0, none⟩) 0 0] 62)) := ((Below.refl _ _).alloc (Nat.le_refl _) _).alloc (by simp) _
  have B14 : Blk ((w2.alloc (.cells #[] 66)).alloc (.cells #[.slice (some ⟨w2.heap.size, 0, none⟩) 0 0] 62)) (w2.heap.size + 1) 62 #[.slice (some ⟨w2.heap.size, 0, none⟩) 0 0] := Blk.at_new _ _ _ (by simp)
  have BR : Blk ((w2.alloc (.cells #[] 66)).alloc (.cells #[.slice (some ⟨w2.heap.size, 0, none⟩) 0 0] 62)) w2.heap.size 66 #[] := (Blk.new w2 66 #[]).alloc _
  have O14 : ((w2.alloc (.cells #[] 66)).alloc (.cells #[.slice (some ⟨w2.heap.size, 0, none⟩) 0 0] 62)).ownsRow w0.heap.size 66 4 (.slice (some ⟨w2.heap.size, 0, none⟩) 0 0) 0 [] := by
      have h := ownsRow_new (e := 66) (size := 4) (n := 0) (cs := #[]) w2 (base := w0.heap.size) lo2.size rfl (Nat.zero_le _)
      exact h.alloc _
  have hz := lo2.size
  have SB0 : Sb w0 ((w2.alloc (.cells #[] 66)).alloc (.cells #[.slice (some ⟨w2.heap.size, 0, none⟩) 0 0] 62)) g0 g8 g13 (w2.heap.size + 1) n h8 c8 w2.heap.size 0 (fun k => maskP (R k) k) (List.replicate n 0) [] F Bs L0 PS0 := ⟨lo2.trans (LL.mono lo2.size), st2.ft (.be LL), hb13, by omega, h13, B13.kept LL, B14, O14, ⟨_, BR⟩, nt2.kept LL, SA.fl, SA.paths⟩
  have HLK : Lnk (fun k => maskP (R k) k) n (List.replicate n 0) [] L0 := by
      have h := Lnk.start (n := n) (P := fun k => maskP (R k) k) (fun i hi => new_tok (mask_who (R := R) hn.2) hi)
      rw [SA.lis]; exact h
  obtain ⟨g14, hg14⟩ : ∃ g, g = w2.heap.size + 1 := ⟨_, rfl⟩
  rw [← hg14] at SB0 e14
  generalize ((w2.alloc (.cells #[] 66)).alloc (.cells #[.slice (some ⟨w2.heap.size, 0, none⟩) 0 0] 62)) = w3 at *
  generalize w2.heap.size = h14 at *
  clear hg14 LL B14 BR O14 B13 h13 hb13 lo2 st2 nt2 hz SA w2
  refine sm_list [1] 103 3 hs hd (by kernel_rfl) (agC e1 agN) rfl ?_
  simp only [seval]
  go_wp2_with fail
  intro a H; replace hs := H.s hs; replace hd := H.d rfl; replace e1 := H.g 1 rfl rfl; replace e0 := H.k e0 rfl; replace e2 := H.k e2 rfl; replace e6 := H.k e6 rfl; replace e7 := H.k e7 rfl; replace e8 := H.k e8 rfl; replace e13 := H.k e13 rfl; replace e14 := H.k e14 rfl; have e103 := H.g 103 rfl rfl; have e104 := H.g 104 rfl rfl; have e105 := H.g 105 rfl rfl; clear H; refine hKq4 _ _ ?_; clear hKq4 Kq4
  refine wp_block ?_
  refine wp_loop (fun a w => ∃ (i h14 c14 : Nat) (fr : List Nat) (W : List Wire) (L : List Tre) (PS : List (List Value)), i ≤ nl ∧ W.length ≤ i ∧ a.tmps.size = 463 ∧ a.defers = [] ∧ a.tmps[0]? = some (.slice (some ⟨g0, 0, none⟩) n c0) ∧ a.tmps[1]? = some (.slice A1 nl c1) ∧ a.tmps[2]? = some (.slice A2 ns c2) ∧ a.tmps[6]? = some (.bool false) ∧ a.tmps[7]? = some (.int .i64 (n : Int)) ∧ a.tmps[8]? = some (.pointer (some ⟨g8, 0, none⟩)) ∧ a.tmps[13]? = some (.slice (some ⟨g13, 0, none⟩) n n) ∧ a.tmps[14]? = some (.pointer (some ⟨g14, 0, none⟩)) ∧ a.tmps[103]? = some (.slice A1 nl c1) ∧ a.tmps[104]? = some (.int .i64 (nl : Int)) ∧ a.tmps[105]? = some (.int .i64 (i : Int)) ∧ Sb w0 w g0 g8 g13 g14 n h8 c8 h14 c14 (fun k => maskP (R k) k) fr W F Bs L PS ∧ Lnk (fun k => maskP (R k) k) n fr W L) (fun a _ => nl - (intOf (a.tmps.getD 105 undef)).toNat) ?_ ?_
  · exact ⟨0, h14, 0, _, [], L0, PS0, Nat.zero_le _, Nat.le_refl _, hs, hd, e0, e1, e2, e6, e7, e8, e13, e14, e103, e104, e105, SB0, HLK⟩
  clear hs hd e105 e0 e1 e2 e6 e7 e8 e13 e14 e103 e104 a SB0 HLK h14 L0 PS0
  rintro a w4 ⟨i, h14, c14, fr, W, L, PS, hi, hWi, hs, hd, e0, e1, e2, e6, e7, e8, e13, e14, e103, e104, e105, SB, LK⟩
  have hm := slot e105
  refine wp_seq_k fun Kq5 hKq5 => ?_
  by_cases hlt3 : i < nl
  ·
    have dj : decide ((i : Int) < (nl : Int)) = true := decide_eq_true (by omega)
    have hi0 : (0 : Int) ≤ (i : Int) := by omega
    have hi1 : (i : Int) < (nl : Int) := by omega
    have hnl12 : (nl : Int) ≤ 12 := by omega
    obtain ⟨ad, rfl, hadl, hcc⟩ := (HR.out.below SB.low).2 (by omega)
    have hc : ∀ (r : Nat) (v : Value), (#[.int .i64 (X i), .int .i64 (Y i)] : Array Value).toList[r]? = some v → w4.cell? ((ad.add (i * 2)).add r) = some v := fun r v hv => by
        rw [add_of_add]; refine hcc _ _ ?_
        have h1 := flatMap_get (f := fun k => [Value.int .i64 (X k), Value.int .i64 (Y k)]) (size := 2) (fun _ => rfl) (List.getElem?_range hlt3) r (List.getElem?_eq_some_iff.1 hv).1
        rw [h1]; exact hv
    have HC := Lib.hid hc
    have HLK := Lib.hid LK
    have HSB := Lib.hid SB
    clear hcc hc LK SB hadl
    refine sm_list [104, 105] 106 1 hs hd (by kernel_rfl) (agC e104 (agC e105 agN)) rfl ?_
    simp only [seval]
    go_wp2_with fail
    intro a H; replace hs := H.s hs; replace hd := H.d rfl; replace e104 := H.g 104 rfl rfl; replace e105 := H.g 105 rfl rfl; replace e0 := H.k e0 rfl; replace e1 := H.k e1 rfl; replace e2 := H.k e2 rfl; replace e6 := H.k e6 rfl; replace e7 := H.k e7 rfl; replace e8 := H.k e8 rfl; replace e13 := H.k e13 rfl; replace e14 := H.k e14 rfl; replace e103 := H.k e103 rfl; have e106 := H.g 106 rfl rfl; clear H
    refine hKq5 _ _ ?_; clear hKq5 Kq5; refine wp_seq_k fun Kq6 hKq6 => ?_
    refine wp_cond_true (slotE e106) ?_
    clear e106; refine wp_skip ?_; refine hKq6 _ _ ?_; clear hKq6 Kq6; refine wp_seq_k fun Kq7 hKq7 => ?_; refine wp_block ?_; refine wp_seq_k fun Kq8 hKq8 => ?_
    refine sm_list [16, 103, 105] 107 2 hs hd (by kernel_rfl) (agU (agC e103 (agC e105 agN))) rfl ?_
    simp only [seval]
    go_wp2_with (first | (refine wpList_load_any_d rfl 63 (.tmp 3) rfl (ad.add (i * 2)) rfl (#[.int .i64 (X i), .int .i64 (Y i)]) _ HC.out Try.underlying63 rfl (by kernel_rfl) ?_) | (refine wpList_store_new rfl 63 (.tmp 0) (.tmp 4) rfl rfl rfl rfl rfl (by kernel_rfl) (by rw [← Array.all_toList]; rfl) ?_) | fail)
    intro a H; replace hs := H.s hs; replace hd := H.d rfl; replace e103 := H.g 103 rfl rfl; replace e105 := H.g 105 rfl rfl; replace e0 := H.k e0 rfl; replace e1 := H.k e1 rfl; replace e2 := H.k e2 rfl; replace e6 := H.k e6 rfl; replace e7 := H.k e7 rfl; replace e8 := H.k e8 rfl; replace e13 := H.k e13 rfl; replace e14 := H.k e14 rfl; replace e104 := H.k e104 rfl; have e16 := H.g 16 rfl rfl; clear H
    refine hKq8 _ _ ?_; clear hKq8 Kq8; refine wp_seq_k fun Kq9 hKq9 => ?_
    have LL : Below w4.heap.size w4 (w4.alloc (.cells #[.int .i64 (X i), .int .i64 (Y i)] 63)) := (Below.refl _ _).alloc (Nat.le_refl _) _
    have B16 := Blk.new w4 63 #[.int .i64 (X i), .int .i64 (Y i)]
    have SB5 := HSB.out.kept LL
    obtain ⟨g16, hg16⟩ : ∃ g, g = w4.heap.size := ⟨_, rfl⟩
    rw [← hg16] at B16 e16
    generalize (w4.alloc (.cells #[.int .i64 (X i), .int .i64 (Y i)] 63)) = w5 at *
    clear hg16 LL HSB HC
    have x0 := B16.cellOf (v := .int .i64 (X i)) 0 rfl
    have x1 := B16.cellOf (v := .int .i64 (Y i)) 1 rfl
    have HSB := Lib.hid SB5
    clear SB5 B16
    obtain ⟨ma, hma, hma0, hma1⟩ := and_mask (X i) 10 1023 rfl (by omega)
    obtain ⟨qa, hqa⟩ : ∃ i : Nat, ma.tmod (n : Int) = (i : Int) := ⟨(ma.tmod (n : Int)).toNat, (Int.toNat_of_nonneg (Int.tmod_nonneg _ hma0)).symm⟩
    have hqan : qa < n := by
      have h1 : ma.tmod (n : Int) < (n : Int) := Int.tmod_lt_of_pos _ (by omega)
      omega
    refine sm_list [7, 16, 17] 109 5 hs hd (by kernel_rfl) (agC e7 (agC e16 (agU agN))) rfl ?_
    simp only [seval]
    go_wp2_with fail
    intro a H; replace hs := H.s hs; replace hd := H.d rfl; replace e7 := H.g 7 rfl rfl; replace e16 := H.g 16 rfl rfl; replace e0 := H.k e0 rfl; replace e1 := H.k e1 rfl; replace e2 := H.k e2 rfl; replace e6 := H.k e6 rfl; replace e8 := H.k e8 rfl; replace e13 := H.k e13 rfl; replace e14 := H.k e14 rfl; replace e103 := H.k e103 rfl; replace e104 := H.k e104 rfl; replace e105 := H.k e105 rfl; have e17 := H.g 17 rfl rfl
    clear H; refine hKq9 _ _ ?_; clear hKq9 Kq9; refine wp_seq_k fun Kq10 hKq10 => ?_; clear hma hma0 hma1 hqa
    obtain ⟨mb, hmb, hmb0, hmb1⟩ := and_mask (Y i) 10 1023 rfl (by omega)
    obtain ⟨qb, hqb⟩ : ∃ i : Nat, mb.tmod (n : Int) = (i : Int) := ⟨(mb.tmod (n : Int)).toNat, (Int.toNat_of_nonneg (Int.tmod_nonneg _ hmb0)).symm⟩
    have hqbn : qb < n := by
      have h1 : mb.tmod (n : Int) < (n : Int) := Int.tmod_lt_of_pos _ (by omega)
      omega
    refine sm_list [7, 16, 18] 114 5 hs hd (by kernel_rfl) (agC e7 (agC e16 (agU agN))) rfl ?_
    simp only [seval]
    go_wp2_with fail
    intro a H; replace hs := H.s hs; replace hd := H.d rfl; replace e7 := H.g 7 rfl rfl; replace e16 := H.g 16 rfl rfl; replace e0 := H.k e0 rfl; replace e1 := H.k e1 rfl; replace e2 := H.k e2 rfl; replace e6 := H.k e6 rfl; replace e8 := H.k e8 rfl; replace e13 := H.k e13 rfl; replace e14 := H.k e14 rfl; replace e103 := H.k e103 rfl; replace e104 := H.k e104 rfl; replace e105 := H.k e105 rfl; replace e17 := H.k e17 rfl
    have e18 := H.g 18 rfl rfl; clear H; refine hKq10 _ _ ?_; clear hKq10 Kq10; refine wp_seq_k fun Kq11 hKq11 => ?_; refine wp_seq_k fun Kq12 hKq12 => ?_; clear hmb hmb0 hmb1 hqb; clear e16; clear x0 x1; have hfl := HLK.out.flen
    obtain ⟨fa, hfa⟩ : ∃ x, x = frAt fr qa := ⟨_, rfl⟩
    obtain ⟨fb, hfb⟩ : ∃ x, x = frAt fr qb := ⟨_, rfl⟩
    have hfa8 : fa ≤ 8 := by rw [hfa]; exact HLK.out.most qa hqan
    have hfb8 : fb ≤ 8 := by rw [hfb]; exact HLK.out.most qb hqbn
    have ca : (frc fr)[qa]? = some (.int .i64 (fa : Int)) := by rw [frc_at (by omega), hfa]
    have cb : (frc fr)[qb]? = some (.int .i64 (fb : Int)) := by rw [frc_at (by omega), hfb]
    have y0 := HSB.out.free.cellOf _ ca; have y1 := HSB.out.free.cellOf _ cb; have l13 := HSB.out.free.lt
    have a0 : (0 : Int) ≤ (qa : Int) := by omega
    have a1 : (qa : Int) < (n : Int) := by omega
    have b0 : (0 : Int) ≤ (qb : Int) := by omega
    have b1 : (qb : Int) < (n : Int) := by omega
    obtain ⟨B, hB⟩ : ∃ B, B = decide (qa = qb ∨ fa = 8 ∨ fb = 8) := ⟨_, rfl⟩
    have hcase : (((qa : Int) == (qb : Int)) = true ∧ (qa == qb) = true ∧ decide ((qa : Int) = (qb : Int)) = true ∧ B = true) ∨ (((qa : Int) == (qb : Int)) = false ∧ (qa == qb) = false ∧ ((fa : Int) == 8) = true ∧ B = true) ∨ (((qa : Int) == (qb : Int)) = false ∧ (qa == qb) = false ∧ ((fa : Int) == 8) = false ∧ ((fb : Int) == 8) = true ∧ B = true) ∨ (((qa : Int) == (qb : Int)) = false ∧ (qa == qb) = false ∧ ((fa : Int) == 8) = false ∧ ((fb : Int) == 8) = false ∧ B = false) := by
        rw [hB]
        by_cases z1 : qa = qb <;> by_cases z2 : fa = 8 <;> by_cases z3 : fb = 8 <;> simp [z1, z2, z3] <;> omega
    have HB := Lib.hid hB
    have HFA := Lib.hid (And.intro hfa hfb)
    clear hB hfa hfb hfl
    suffices HK : ∀ (a' : Act), a'.tmps.size = a.tmps.size → a'.defers = [] → a'.tmps[0]? = a.tmps[0]? → a'.tmps[1]? = a.tmps[1]? → a'.tmps[2]? = a.tmps[2]? → a'.tmps[6]? = a.tmps[6]? → a'.tmps[7]? = a.tmps[7]? → a'.tmps[8]? = a.tmps[8]? → a'.tmps[13]? = a.tmps[13]? → a'.tmps[14]? = a.tmps[14]? → a'.tmps[103]? = a.tmps[103]? → a'.tmps[104]? = a.tmps[104]? → a'.tmps[105]? = a.tmps[105]? → a'.tmps[17]? = a.tmps[17]? → a'.tmps[18]? = a.tmps[18]? → a'.tmps[135]? = some (.bool B) → Kq12 a' w5 by
      rcases hcase with ⟨k1, k2, k3, rfl⟩ | ⟨k1, k2, k3, rfl⟩ | ⟨k1, k2, k3, k4, rfl⟩ | ⟨k1, k2, k3, k4, rfl⟩
      all_goals
        refine sm_list [13, 17, 18] 119 17 hs hd (by kernel_rfl) (agC e13 (agC e17 (agC e18 agN))) rfl ?_
        simp only [seval]
        go_wp2_with fail
        all_goals
          intro a' H
          refine HK a' H.size H.defers (H.out 0 rfl) (H.out 1 rfl) (H.out 2 rfl) (H.out 6 rfl) (H.out 7 rfl) (H.out 8 rfl) ((H.got rfl rfl).trans e13.symm) (H.out 14 rfl) (H.out 103 rfl) (H.out 104 rfl) (H.out 105 rfl) ((H.got rfl rfl).trans e17.symm) ((H.got rfl rfl).trans e18.symm) ?_
          · exact H.got rfl rfl
    intro a' g_s g_d g0 g1 g2 g6 g7 g8 g13 g14 g103 g104 g105 g17 g18 f135
    replace hs := g_s.trans hs; replace hd := g_d; replace e0 := g0.trans e0; replace e1 := g1.trans e1; replace e2 := g2.trans e2; replace e6 := g6.trans e6; replace e7 := g7.trans e7; replace e8 := g8.trans e8; replace e13 := g13.trans e13; replace e14 := g14.trans e14; replace e103 := g103.trans e103; replace e104 := g104.trans e104; replace e105 := g105.trans e105; replace e17 := g17.trans e17
    replace e18 := g18.trans e18; clear g_s g_d g0 g1 g2 g6 g7 g8 g13 g14 g103 g104 g105 g17 g18
    have e135 := f135
    clear f135; clear a
    obtain ⟨a, rfl⟩ : ∃ a, a = a' := ⟨_, rfl⟩
    refine hKq12 _ _ ?_; clear hKq12 Kq12; clear hcase y0 y1
    by_cases hsk : qa = qb ∨ fa = 8 ∨ fb = 8
    · obtain rfl : B = true := HB.out.trans (decide_eq_true hsk)
      refine wp_cond_true (slotE e135) ?_
      clear e135; refine wp_exit ?_; refine exit_then rfl ?_; clear hKq11 Kq11; refine exit_hit ?_; refine hKq7 _ _ ?_; clear hKq7 Kq7; clear e17; clear e18
      refine sm_list [105] 182 1 hs hd (by kernel_rfl) (agC e105 agN) rfl ?_
      simp only [seval]
      go_wp2_with fail
      intro a H; replace hs := H.s hs; replace hd := H.d rfl; replace e0 := H.k e0 rfl; replace e1 := H.k e1 rfl; replace e2 := H.k e2 rfl; replace e6 := H.k e6 rfl; replace e7 := H.k e7 rfl; replace e8 := H.k e8 rfl; replace e13 := H.k e13 rfl; replace e14 := H.k e14 rfl; replace e103 := H.k e103 rfl; replace e104 := H.k e104 rfl; replace e105 := H.g 105 rfl rfl; clear H
      exact ⟨⟨i + 1, h14, c14, fr, W, L, PS, by omega, by omega, hs, hd, e0, e1, e2, e6, e7, e8, e13, e14, e103, e104, e105, HSB.out, HLK.out⟩, by first | (simp only [hm, slot e105, intOf]; omega) | (simp [hm, slot e105, intOf]; omega)⟩
    obtain rfl : B = false := HB.out.trans (decide_eq_false hsk)
    have hne : qa ≠ qb := fun h => hsk (.inl h)
    have hfa7 : fa < 8 := by omega
    have hfb7 : fb < 8 := by omega
    clear HB hsk
    refine wp_cond_false (slotE e135) ?_
    clear e135; refine wp_skip ?_; refine hKq11 _ _ ?_; clear hKq11 Kq11; refine wp_seq_k fun Kq13 hKq13 => ?_
    refine sm_any [13, 14, 17, 18] 136 16 (by kernel_rfl) hs hd (by kernel_rfl) (agC e13 (agC e14 (agC e17 (agC e18 agN)))) rfl (any_tree [16] (.take 0 (.take 1 (.take 2 (.take 3 (.take 4 (.take 5 (.take 6 (.take 7 (.take 8 (.take 9 (.take 10 (.take 11 (.take 12 (.take 13 (.one 14 (.one 15 (.wr 16 .nil))))))))))))))))) (fun (w' : World) => (Blk w' g14 62 #[.slice (some ⟨h14, 0, none⟩) W.length c14] ∧ Blk w' g13 3 (frc fr))) (by kernel_rfl) (fun _ _ _ _ _ h => h) ⟨HSB.out.box14.kept (Below.refl w5.heap.size w5).drew, HSB.out.free.kept (Below.refl w5.heap.size w5).drew⟩ ?_)
    simp only [seval]; have S0 := HSB.out.kept (Below.refl w5.heap.size w5).drew
    obtain ⟨wd, hwd⟩ : ∃ wd, wd = w5.drew := ⟨_, rfl⟩
    rw [← hwd] at S0 ⊢
    clear hwd
    iterate 14 (with_reducible (refine tr_take (v := ?_) rfl ?_ ?_ ?_); rotate_left; (first | exact wanted_none rfl | exact wanted_on rfl rfl rfl); (rintro w' ⟨u1, u2⟩; (have q0 := u1.cellOf (v := .slice (some ⟨h14, 0, none⟩) W.length c14) 0 rfl); (have q1 := u2.cellOf _ ca); (have q2 := u2.cellOf _ cb); (have q3 := u1.lt); (have q4 := u2.lt); go_simp; with_reducible rfl); simp only [Act.put, List.setIfInBounds_toArray, List.set_cons_zero, List.set_cons_succ])
    have L1 := (Below.refl wd.heap.size wd).alloc (Nat.le_refl _) (.cells #[.int .i64 (qa : Int), .int .i64 (fa : Int), .int .i64 (qb : Int), .int .i64 (fb : Int)] 66)
    have S1 := S0.kept L1
    have BN := Blk.new wd 66 #[.int .i64 (qa : Int), .int .i64 (fa : Int), .int .i64 (qb : Int), .int .i64 (fb : Int)]
    (with_reducible (refine tr_run (v := ?_) (w' := ?_) rfl ?_ ?_ ?_ ?_); rotate_left 2; (first | exact wanted_none rfl | exact wanted_on rfl rfl rfl); (go_simp; refine ⟨?_, ?_⟩ <;> with_reducible rfl); (exact ⟨S1.box14, S1.free⟩); simp only [Act.put, List.setIfInBounds_toArray, List.set_cons_zero, List.set_cons_succ])
    have hbz := S1.low.size
    refine tr_pushes_at 1 rfl rfl (.tmp 4) (.tmp 18) 62 rfl styE (cs := #[.int .i64 (qa : Int), .int .i64 (fa : Int), .int .i64 (qb : Int), .int .i64 (fb : Int)]) rfl (by intro u hu; simp at hu; rcases hu with rfl | rfl | rfl | rfl <;> rfl) rfl S1.row14 rfl BN (by omega) hbz ?_
    intro v7 w7 own7 hb7 gr7
    obtain ⟨A7, c7, rfl, _, _⟩ := ownsRow_reads own7
    have bx7 := S1.box14.grown gr7 (own_blk_ne S1.row14 S1.box14 (by decide)).symm
    have fr7 := S1.free.grown gr7 (own_blk_ne S1.row14 S1.free (by decide)).symm
    have q7 := bx7.cellOf (v := .slice (some ⟨h14, 0, none⟩) W.length c14) 0 rfl
    have fz7 := bx7.frozen
    have HP7 := Lib.hid (S1.push (x := ((qa, fa), (qb, fb))) own7 gr7)
    refine ⟨⟨bx7, fr7⟩, ?_⟩
    simp only [Act.put, List.setIfInBounds_toArray, List.set_cons_zero, List.set_cons_succ]
    clear own7 hb7 gr7 fr7 S0 S1 L1 BN
    (with_reducible (refine tr_wr (w' := ?_) rfl ?_ ?_ ?_); rotate_left; (first | exact wanted_none rfl | exact wanted_on rfl rfl rfl); (go_simp; with_reducible rfl); simp only [Act.put, List.setIfInBounds_toArray, List.set_cons_zero, List.set_cons_succ])
    refine tr_nil ?_
    intro a H; replace hs := H.s hs; replace hd := H.d rfl; replace e13 := H.g 13 rfl rfl; replace e14 := H.g 14 rfl rfl; replace e17 := H.g 17 rfl rfl; replace e18 := H.g 18 rfl rfl; replace e0 := H.k e0 rfl; replace e1 := H.k e1 rfl; replace e2 := H.k e2 rfl; replace e6 := H.k e6 rfl; replace e7 := H.k e7 rfl; replace e8 := H.k e8 rfl; replace e103 := H.k e103 rfl; replace e104 := H.k e104 rfl; replace e105 := H.k e105 rfl
    clear H; refine hKq13 _ _ ?_; clear hKq13 Kq13; refine wp_seq_k fun Kq14 hKq14 => ?_
    obtain ⟨h15, c15, hv15, SB6⟩ := HP7.out
    clear HP7 q7 fz7 bx7 HSB ca cb l13
    obtain ⟨w6, hw6⟩ : ∃ w6, w6 = w7.setCell ⟨g14, 0, none⟩ (.slice A7 (W.length + 1) c7) := ⟨_, rfl⟩
    rw [← hw6] at SB6
    rw [← hw6]
    clear hw6 hv15
    obtain ⟨ta, hta⟩ : ∃ t, L[qa]? = some t := ⟨_, List.getElem?_eq_getElem (by rw [HLK.out.len]; exact hqan)⟩
    obtain ⟨tb, htb⟩ : ∃ t, L[qb]? = some t := ⟨_, List.getElem?_eq_getElem (by rw [HLK.out.len]; exact hqbn)⟩
    have HTA := Lib.hid (And.intro hta htb)
    clear hta htb
    have HSB6 := Lib.hid SB6
    clear SB6
    obtain ⟨ba, pa, hba, hpa, Ta⟩ := HSB6.out.nt.get (t := ta) (i := qa) (by exact HTA.out.1)
    have hfl : fr.length = n := HLK.out.flen
    have cq : (frc fr)[qa]? = some (.int .i64 (fa : Int)) := by rw [frc_at (by omega), HFA.out.1]
    have y0 := HSB6.out.free.cellOf _ cq; have l13 := HSB6.out.free.lt; have y8 := HSB6.out.st.box.cellOf (v := .slice (some ⟨h8, 0, none⟩) n c8) 0 rfl; have l8 := HSB6.out.st.box.lt; have yp := HSB6.out.st.pt hba; have lp := HSB6.out.st.lt8
    have HQa := Lib.hid (And.intro hba hpa)
    clear Ta hba hpa hfl cq
    refine sm_any [8, 13, 17] 152 9 (by kernel_rfl) hs hd (by kernel_rfl) (agC e8 (agC e13 (agC e17 agN))) rfl (any_tail 8 (fun w' => Below w6.heap.size w6 w') (by kernel_rfl) ((Below.refl _ _).drew) ?_)
    simp only [seval]
    iterate 8 (first | (with_reducible (refine wpQuiet_skip ?_ ?_); (first | exact wanted_off rfl rfl rfl rfl | exact wanted_off2 rfl rfl rfl); simp only [Act.put, List.setIfInBounds_toArray, List.set_cons_zero, List.set_cons_succ]) | (with_reducible (refine wpQuiet_val (v := ?_) ?_ ?_ ?_); rotate_left; (first | exact wanted_none rfl | exact wanted_on rfl rfl rfl); (intro w' hw'; obtain ⟨hc, hf⟩ := bcell hw'; go_simp; with_reducible rfl); simp only [Act.put, List.setIfInBounds_toArray, List.set_cons_zero, List.set_cons_succ]))
    refine wpQuiet_nil ?_
    intro wx hwx
    have Sx := HSB6.out.kept hwx
    have Tx := Sx.nt.tat _ _ _ _ HQa.out.1 (show L[qa]? = some ta by exact HTA.out.1) HQa.out.2
    have HU := Lib.hid (up_anyN ba ta pa (fa : Int) true wx Tx)
    have HSx := Lib.hid Sx
    clear Tx Sx hwx
    go_wp2_with fail
    refine HU.out.mono ?_
    rintro e w8 ⟨rfl, ⟨pa2, T2, N2⟩, F2⟩
    have SB8 := HSx.out.up (fa : Int) HQa.out.1 (show L[qa]? = some ta by exact HTA.out.1) HQa.out.2 T2 N2 F2
    have HSB8 := Lib.hid SB8
    clear SB8 T2 N2 F2 HSx HU
    go_wp2_with fail
    intro a H; replace hs := H.s hs; replace hd := H.d rfl; replace e8 := H.g 8 rfl rfl; replace e13 := H.g 13 rfl rfl; replace e17 := H.g 17 rfl rfl; replace e0 := H.k e0 rfl; replace e1 := H.k e1 rfl; replace e2 := H.k e2 rfl; replace e6 := H.k e6 rfl; replace e7 := H.k e7 rfl; replace e14 := H.k e14 rfl; replace e103 := H.k e103 rfl; replace e104 := H.k e104 rfl; replace e105 := H.k e105 rfl; replace e18 := H.k e18 rfl
    clear H; refine hKq14 _ _ ?_; clear hKq14 Kq14; refine wp_seq_k fun Kq15 hKq15 => ?_; clear y0 l13 y8 l8 yp lp HSB6 HQa
    obtain ⟨bb, pb, hbb, hpb, Tb⟩ := HSB8.out.nt.get (t := tb) (i := qb) (by rw [List.getElem?_set_ne hne]; exact HTA.out.2)
    have hfl : fr.length = n := HLK.out.flen
    have cq : (frc fr)[qb]? = some (.int .i64 (fb : Int)) := by rw [frc_at (by omega), HFA.out.2]
    have y0 := HSB8.out.free.cellOf _ cq; have l13 := HSB8.out.free.lt; have y8 := HSB8.out.st.box.cellOf (v := .slice (some ⟨h8, 0, none⟩) n c8) 0 rfl; have l8 := HSB8.out.st.box.lt; have yp := HSB8.out.st.pt hbb; have lp := HSB8.out.st.lt8
    have HQb := Lib.hid (And.intro hbb hpb)
    clear Tb hbb hpb hfl cq
    refine sm_any [8, 13, 18] 161 9 (by kernel_rfl) hs hd (by kernel_rfl) (agC e8 (agC e13 (agC e18 agN))) rfl (any_tail 8 (fun w' => Below w8.heap.size w8 w') (by kernel_rfl) ((Below.refl _ _).drew) ?_)
    simp only [seval]
    iterate 8 (first | (with_reducible (refine wpQuiet_skip ?_ ?_); (first | exact wanted_off rfl rfl rfl rfl | exact wanted_off2 rfl rfl rfl); simp only [Act.put, List.setIfInBounds_toArray, List.set_cons_zero, List.set_cons_succ]) | (with_reducible (refine wpQuiet_val (v := ?_) ?_ ?_ ?_); rotate_left; (first | exact wanted_none rfl | exact wanted_on rfl rfl rfl); (intro w' hw'; obtain ⟨hc, hf⟩ := bcell hw'; go_simp; with_reducible rfl); simp only [Act.put, List.setIfInBounds_toArray, List.set_cons_zero, List.set_cons_succ]))
    refine wpQuiet_nil ?_
    intro wx hwx
    have Sx := HSB8.out.kept hwx
    have Tx := Sx.nt.tat _ _ _ _ HQb.out.1 (show (L.set qa (ta.upI ((fa : Nat) : Int) true))[qb]? = some tb by rw [List.getElem?_set_ne hne]; exact HTA.out.2) HQb.out.2
    have HU := Lib.hid (up_anyN bb tb pb (fb : Int) true wx Tx)
    have HSx := Lib.hid Sx
    clear Tx Sx hwx
    go_wp2_with fail
    refine HU.out.mono ?_
    rintro e w10 ⟨rfl, ⟨pb2, T2, N2⟩, F2⟩
    have SB10 := HSx.out.up (fb : Int) HQb.out.1 (show (L.set qa (ta.upI ((fa : Nat) : Int) true))[qb]? = some tb by rw [List.getElem?_set_ne hne]; exact HTA.out.2) HQb.out.2 T2 N2 F2
    have HSB10 := Lib.hid SB10
    clear SB10 T2 N2 F2 HSx HU
    go_wp2_with fail
    intro a H; replace hs := H.s hs; replace hd := H.d rfl; replace e8 := H.g 8 rfl rfl; replace e13 := H.g 13 rfl rfl; replace e18 := H.g 18 rfl rfl; replace e0 := H.k e0 rfl; replace e1 := H.k e1 rfl; replace e2 := H.k e2 rfl; replace e6 := H.k e6 rfl; replace e7 := H.k e7 rfl; replace e14 := H.k e14 rfl; replace e103 := H.k e103 rfl; replace e104 := H.k e104 rfl; replace e105 := H.k e105 rfl; replace e17 := H.k e17 rfl
    clear H; refine hKq15 _ _ ?_; clear hKq15 Kq15; refine wp_seq_k fun Kq16 hKq16 => ?_; clear y0 l13 y8 l8 yp lp HSB8 HQb
    have hfl : fr.length = n := HLK.out.flen
    have cq : (frc fr)[qa]? = some (.int .i64 (fa : Int)) := by
      rw [frc_at (by omega)]
      rw [HFA.out.1]
    have y0 := HSB10.out.free.cellOf _ cq; have fz := HSB10.out.free.frozen
    have hwr : IntKind.i64.wrap ((fa : Int) + 1) = ((fa + 1 : Nat) : Int) := (IntWalk.i64_in _ ⟨by omega, by omega⟩).trans (by omega)
    clear hfl cq
    refine sm_list [13, 17] 170 6 hs hd (by kernel_rfl) (agC e13 (agC e17 agN)) rfl ?_
    simp only [seval]
    go_wp2_with fail
    intro a H; replace hs := H.s hs; replace hd := H.d rfl; replace e13 := H.g 13 rfl rfl; replace e17 := H.g 17 rfl rfl; replace e0 := H.k e0 rfl; replace e1 := H.k e1 rfl; replace e2 := H.k e2 rfl; replace e6 := H.k e6 rfl; replace e7 := H.k e7 rfl; replace e8 := H.k e8 rfl; replace e14 := H.k e14 rfl; replace e103 := H.k e103 rfl; replace e104 := H.k e104 rfl; replace e105 := H.k e105 rfl; replace e18 := H.k e18 rfl
    clear H; refine hKq16 _ _ ?_; clear hKq16 Kq16; have S2 := HSB10.out.fre qa (fa + 1)
    rw [show ((fa + 1 : Nat) : Int) = (fa : Int) + 1 from rfl] at S2
    obtain ⟨w11, hwn⟩ : ∃ z, z = w10.setCell ⟨g13, qa, none⟩ (.int .i64 ((fa : Int) + 1)) := ⟨_, rfl⟩
    rw [← hwn] at S2
    rw [← hwn]
    clear y0 fz hwr hwn HSB10
    have HSB11 := Lib.hid S2
    clear S2
    have hfl : fr.length = n := HLK.out.flen
    have cq : (frc (fr.set qa (fa + 1)))[qb]? = some (.int .i64 (fb : Int)) := by
      rw [frc_at (by rw [List.length_set]; omega)]
      rw [frAt_set (by omega), if_neg (fun h => hne h.symm), HFA.out.2]
    have y0 := HSB11.out.free.cellOf _ cq; have fz := HSB11.out.free.frozen
    have hwr : IntKind.i64.wrap ((fb : Int) + 1) = ((fb + 1 : Nat) : Int) := (IntWalk.i64_in _ ⟨by omega, by omega⟩).trans (by omega)
    clear hfl cq
    refine sm_list [13, 18] 176 6 hs hd (by kernel_rfl) (agC e13 (agC e18 agN)) rfl ?_
    simp only [seval]
    go_wp2_with fail
    intro a H; replace hs := H.s hs; replace hd := H.d rfl; replace e13 := H.g 13 rfl rfl; replace e18 := H.g 18 rfl rfl; replace e0 := H.k e0 rfl; replace e1 := H.k e1 rfl; replace e2 := H.k e2 rfl; replace e6 := H.k e6 rfl; replace e7 := H.k e7 rfl; replace e8 := H.k e8 rfl; replace e14 := H.k e14 rfl; replace e103 := H.k e103 rfl; replace e104 := H.k e104 rfl; replace e105 := H.k e105 rfl; replace e17 := H.k e17 rfl
    clear H; refine hKq7 _ _ ?_; clear hKq7 Kq7; have S2 := HSB11.out.fre qb (fb + 1)
    rw [show ((fb + 1 : Nat) : Int) = (fb : Int) + 1 from rfl] at S2
    obtain ⟨w12, hwn⟩ : ∃ z, z = w11.setCell ⟨g13, qb, none⟩ (.int .i64 ((fb : Int) + 1)) := ⟨_, rfl⟩
    rw [← hwn] at S2
    rw [← hwn]
    clear y0 fz hwr hwn HSB11
    have SB12 := S2
    clear S2; clear e17; clear e18
    have LK2 := HLK.out.wire HTA.out.1 HTA.out.2 hne (by rw [← HFA.out.1]; exact hfa7) (by rw [← HFA.out.2]; exact hfb7)
    rw [← HFA.out.1, ← HFA.out.2] at LK2
    refine sm_list [105] 182 1 hs hd (by kernel_rfl) (agC e105 agN) rfl ?_
    simp only [seval]
    go_wp2_with fail
    intro a H; replace hs := H.s hs; replace hd := H.d rfl; replace e0 := H.k e0 rfl; replace e1 := H.k e1 rfl; replace e2 := H.k e2 rfl; replace e6 := H.k e6 rfl; replace e7 := H.k e7 rfl; replace e8 := H.k e8 rfl; replace e13 := H.k e13 rfl; replace e14 := H.k e14 rfl; replace e103 := H.k e103 rfl; replace e104 := H.k e104 rfl; replace e105 := H.g 105 rfl rfl; clear H
    exact ⟨⟨i + 1, h15, c15, _, W ++ [((qa, fa), (qb, fb))], _, _, by omega, by simp; omega, hs, hd, e0, e1, e2, e6, e7, e8, e13, e14, e103, e104, e105, (by simpa using SB12), LK2⟩, by first | (simp only [hm, slot e105, intOf]; omega) | (simp [hm, slot e105, intOf]; omega)⟩
  · obtain rfl : i = nl := by omega
    have dj : decide ((i : Int) < (i : Int)) = false := decide_eq_false (by omega)
    clear hlt3 hm
    refine sm_list [104, 105] 106 1 hs hd (by kernel_rfl) (agC e104 (agC e105 agN)) rfl ?_
    simp only [seval]
    go_wp2_with fail
    intro a H; replace hs := H.s hs; replace hd := H.d rfl; replace e104 := H.g 104 rfl rfl; replace e105 := H.g 105 rfl rfl; replace e0 := H.k e0 rfl; replace e1 := H.k e1 rfl; replace e2 := H.k e2 rfl; replace e6 := H.k e6 rfl; replace e7 := H.k e7 rfl; replace e8 := H.k e8 rfl; replace e13 := H.k e13 rfl; replace e14 := H.k e14 rfl; replace e103 := H.k e103 rfl; have e106 := H.g 106 rfl rfl; clear H
    refine hKq5 _ _ ?_; clear hKq5 Kq5; refine wp_seq_k fun Kq6 hKq6 => ?_
    refine wp_cond_false (slotE e106) ?_
    clear e106; refine wp_exit ?_; refine exit_then rfl ?_; clear hKq6 Kq6; refine exit_then rfl ?_; refine exit_hit ?_; refine hKq3 _ _ ?_; clear hKq3 Kq3
    exact HEND.out a w4 g13 g14 h8 c8 h14 c14 fr W L PS hs hd e0 e1 e2 e6 e7 e8 e13 e14 SB LK (by omega)
end Go.Proofs.Ytcdgofndfajekaa
