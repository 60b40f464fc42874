/-
  Layer 6's reference: Decode, walked: it gives what the program's gives.
-/
import Derived.Test.YtlhaloabophliaaRefF
import Derived.Deep.DeepCutAuto
import Derived.Deep.CutBlock
namespace Go.Proofs.Ytlhaloabophliaa
set_option linter.unusedSimpArgs false
set_option linter.unusedVariables false
open Go.RowKit Go.WideShapes Go.ChangeShapes
attribute [local go_sem ↓] Go.wp_at_zero Go.wp_at_succ

theorem size_pos : ∀ x, x < 15 → 1 ≤ x → 1 ≤ sizeNN.getD x 0 := by decide
theorem us_drop (b : List Int) (q : Nat) : (us b).drop q = us (b.drop q) := by simp [us, List.map_drop]
theorem us_take (b : List Int) (q : Nat) : (us b).take q = us (b.take q) := by simp [us, List.map_take]
theorem reads_mid {w : World} {B n q y c : Nat} {A A' : Option Addr} {b : List Int} (h : Reads w B 1 A n (us b)) (hc : n ≤ c) (hq : q + y ≤ n) (hA : A' = if c = q then A else A.map (·.add (q * 1))) : Reads w B 1 A' y (us ((b.drop q).take y)) := by
  have h1 := (h.cut (k := q) (cap := c) (by omega) hc).take_ (k := y) (by omega)
  rw [Nat.mul_one, us_drop, us_take] at h1
  rw [hA, Nat.mul_one]
  exact h1
set_option maxHeartbeats 1000000 in
theorem rdec_end {a : Act} {w' : World} {g n c : Nat} {x : Int} {m : Mg} {A : Option Addr} {Q : Ending → World → Prop} (hd : a.defers = []) (h2 : a.eval (.tmp 2) = .pointer (some ⟨g, 0, none⟩)) (h3 : a.eval (.tmp 3) = .int .i64 x)
    (R : Blk w' g 40 (mcells m A n c)) (h : Q (.returned (.tuple #[.agg (mcells m A n c), .int .i64 x])) w') : bodyPost Try.prog Try.f17 Q Exit.ret a w' := by
  obtain ⟨y0, y1, y2, y3, y4, y5, y6, y7, y8, y9, y10, y11, y12, y13, y14, y15⟩ := mcells_at R
  refine bodyPost_ret (v := .tuple #[.agg (mcells m A n c), .int .i64 x]) ?_ hd h
  simp only [Act.eval, Array.getD_eq_getD_getElem?] at h2 h3
  simp [results, Try.results17, go_sem, mcells, h2, h3, y0, y1, y2, y3, y4, y5, y6, y7, y8, y9, y10, y11, y12, y13, y14, y15]
set_option maxRecDepth 100000 in
set_option maxHeartbeats 16000000 in
theorem rdec_any (A : Option Addr) (n c : Nat) (b : List Int) (w : World) (hr : Reads w w.heap.size 1 A n (us b)) (hl : b.length = n) (hbt : Bytes b) (hnc : n ≤ c) (hn : n ≤ 500) :
    Calls Try.prog 17 #[.slice A n c] w (DecRet b w) := by
  have R0 := Blk.new w 40 #[.int .i64 0, .int .i64 0, .int .i64 0, .int .i64 0, .int .i64 0, .int .i64 0, .int .i64 0, .int .i64 0, .int .i64 0, .int .i64 0, .int .i64 0, .int .i64 0, .int .i64 0, .int .i64 0, .int .i64 0, .slice none 0 0]
  have B0 : Below w.heap.size w (w.alloc (.cells #[.int .i64 0, .int .i64 0, .int .i64 0, .int .i64 0, .int .i64 0, .int .i64 0, .int .i64 0, .int .i64 0, .int .i64 0, .int .i64 0, .int .i64 0, .int .i64 0, .int .i64 0, .int .i64 0, .int .i64 0, .slice none 0 0] 40)) := (Below.refl _ _).alloc (Nat.le_refl _) _
  have z0 : w.heap.size + 1 = (w.alloc (.cells #[.int .i64 0, .int .i64 0, .int .i64 0, .int .i64 0, .int .i64 0, .int .i64 0, .int .i64 0, .int .i64 0, .int .i64 0, .int .i64 0, .int .i64 0, .int .i64 0, .int .i64 0, .int .i64 0, .int .i64 0, .slice none 0 0] 40)).heap.size := by simp
  have HL := Lib.hid (And.intro hr (And.intro hl (And.intro hbt (And.intro hnc hn))))
  by_cases h20 : n < 20
  · have HE := Lib.hid (dec_less20 hbt (by omega))
    clear hr hl hbt hnc hn
    go_enter Try.func17, Try.ntmps17
    go_wp2_with (refine wpList_store_blk rfl 40 (.tmp 2) (.tmp 16) rfl rfl R0 rfl rfl (by kernel_rfl) (by rw [← Array.all_toList]; rfl) ?_; intro w11 R11 z11 k11 b11 o11)
    have BB11 := (B0).trans (b11 w.heap.size (Nat.le_refl _))
    refine rdec_end rfl rfl rfl (show Blk w11 w.heap.size 40 (mcells zeroM none 0 0) from R11) ?_
    exact dec_zero rfl BB11 (HE.out)
  obtain ⟨x0, hx0⟩ : ∃ x, b[0]? = some x := ⟨_, List.getElem?_eq_getElem (by omega)⟩
  obtain ⟨ad, rfl, hblk, hcell⟩ := hr.2 (by omega)
  have hx0r := hbt x0 (List.mem_of_getElem? hx0)
  have hV := first_byte hx0 hx0r
  have p00 : w.cell? (ad.add 0) = some (.int .u8 x0) := hcell 0 _ (by unfold us; rw [List.getElem?_map, hx0]; rfl)
  have ead : ad.add 0 = ad := by unfold Addr.add; split <;> simp_all
  rw [ead] at p00
  have p0 : (w.alloc (.cells #[.int .i64 0, .int .i64 0, .int .i64 0, .int .i64 0, .int .i64 0, .int .i64 0, .int .i64 0, .int .i64 0, .int .i64 0, .int .i64 0, .int .i64 0, .int .i64 0, .int .i64 0, .int .i64 0, .int .i64 0, .slice none 0 0] 40)).cell? ad = some (.int .u8 x0) := (B0.cell hblk).trans p00
  have h20' : 20 ≤ n := by omega
  have hi0 : (0 : Int) < n := by omega
  have d20 : decide ((n : Int) < 20) = false := decide_eq_false (by omega)
  have HX := Lib.hid (And.intro h20' (And.intro hx0r (And.intro hV hblk)))
  clear hr hl hbt hnc hn h20 hx0 hcell p00 ead hV h20'
  have hform : x0 < 16 ∨ (decide (x0 < 16) = false ∧ 31 < x0) ∨ (decide (x0 < 16) = false ∧ decide (31 < x0) = false) := by
    by_cases h1 : x0 < 16
    · exact .inl h1
    · by_cases h2 : 31 < x0
      · exact .inr (.inl ⟨decide_eq_false h1, h2⟩)
      · exact .inr (.inr ⟨decide_eq_false h1, decide_eq_false h2⟩)
  clear hx0r hblk
  rcases hform with f1 | ⟨f1, f2⟩ | ⟨f1, f2⟩
  · have HE := Lib.hid (dec_form HL.out.2.2.1 (by rw [HL.out.2.1]; exact HX.out.1) (by rw [HX.out.2.2.1]; have := HX.out.2.1; omega))
    go_enter Try.func17, Try.ntmps17
    go_wp2_with (refine wpList_store_blk rfl 40 (.tmp 2) (.tmp 27) rfl rfl R0 rfl rfl (by kernel_rfl) (by rw [← Array.all_toList]; rfl) ?_; intro w11 R11 z11 k11 b11 o11)
    have BB11 := (B0).trans (b11 w.heap.size (Nat.le_refl _))
    refine rdec_end rfl rfl rfl (show Blk w11 w.heap.size 40 (mcells zeroM none 0 0) from R11) ?_
    exact dec_zero rfl BB11 (HE.out)
  · have HE := Lib.hid (dec_form HL.out.2.2.1 (by rw [HL.out.2.1]; exact HX.out.1) (by rw [HX.out.2.2.1]; have := HX.out.2.1; omega))
    go_enter Try.func17, Try.ntmps17
    go_wp2_with (refine wpList_store_blk rfl 40 (.tmp 2) (.tmp 27) rfl rfl R0 rfl rfl (by kernel_rfl) (by rw [← Array.all_toList]; rfl) ?_; intro w11 R11 z11 k11 b11 o11)
    have BB11 := (B0).trans (b11 w.heap.size (Nat.le_refl _))
    refine rdec_end rfl rfl rfl (show Blk w11 w.heap.size 40 (mcells zeroM none 0 0) from R11) ?_
    exact dec_zero rfl BB11 (HE.out)
  have h1631 : 16 ≤ x0 ∧ x0 ≤ 31 := ⟨Int.not_lt.1 (of_decide_eq_false f1), Int.not_lt.1 (of_decide_eq_false f2)⟩
  obtain ⟨k, hk⟩ : ∃ k, k = x0 - 16 := ⟨_, rfl⟩
  have hk1 : getV 1 b / 16 = 1 := by rw [HX.out.2.2.1]; omega
  have hk2 : getV 1 b % 16 = k := by rw [HX.out.2.2.1]; omega
  have g1 : IntKind.i64.wrap x0 = x0 := IntWalk.i64_in _ ⟨by omega, by omega⟩
  have g2 : IntKind.i64.wrap (x0 - 16) = k := by rw [hk]; exact IntWalk.i64_in _ ⟨by omega, by omega⟩
  have HK := Lib.hid (And.intro hk1 hk2)
  clear hk1 hk2 h1631 hk
  go_enter Try.func17, Try.ntmps17
  go_upto_if 26 with fail
  generalize w.alloc (.cells #[.int .i64 0, .int .i64 0, .int .i64 0, .int .i64 0, .int .i64 0, .int .i64 0, .int .i64 0, .int .i64 0, .int .i64 0, .int .i64 0, .int .i64 0, .int .i64 0, .int .i64 0, .int .i64 0, .int .i64 0, .slice none 0 0] 40) = w0 at *
  have p1 : (w0.alloc (.cells #[.int .i64 0, .int .i64 0, .int .i64 0, .int .i64 0, .int .i64 0, .int .i64 0, .int .i64 0, .int .i64 0, .int .i64 0, .int .i64 0, .int .i64 0, .int .i64 0, .int .i64 0, .int .i64 0, .int .i64 0, .slice none 0 0] 40)).cell? ad = some (.int .u8 x0) := (World.cell?_alloc_lt w0 _ ad (by have := HX.out.2.2.2; omega)).trans p0
  have M2 : Blk (w0.alloc (.cells #[.int .i64 k, .int .i64 0, .int .i64 0, .int .i64 0, .int .i64 0, .int .i64 0, .int .i64 0, .int .i64 0, .int .i64 0, .int .i64 0, .int .i64 0, .int .i64 0, .int .i64 0, .int .i64 0, .int .i64 0, .slice none 0 0] 40)) w0.heap.size 40 (mcells (mgN (N0 k) []) none 0 0) := Blk.new w0 40 #[.int .i64 k, .int .i64 0, .int .i64 0, .int .i64 0, .int .i64 0, .int .i64 0, .int .i64 0, .int .i64 0, .int .i64 0, .int .i64 0, .int .i64 0, .int .i64 0, .int .i64 0, .int .i64 0, .int .i64 0, .slice none 0 0]
  have m0 : (w0.alloc (.cells #[.int .i64 k, .int .i64 0, .int .i64 0, .int .i64 0, .int .i64 0, .int .i64 0, .int .i64 0, .int .i64 0, .int .i64 0, .int .i64 0, .int .i64 0, .int .i64 0, .int .i64 0, .int .i64 0, .int .i64 0, .slice none 0 0] 40)).cell? ⟨w0.heap.size, 0, none⟩ = some (.int .i64 k) := M2.cellOf 0 rfl
  have R2 : Blk (w0.alloc (.cells #[.int .i64 k, .int .i64 0, .int .i64 0, .int .i64 0, .int .i64 0, .int .i64 0, .int .i64 0, .int .i64 0, .int .i64 0, .int .i64 0, .int .i64 0, .int .i64 0, .int .i64 0, .int .i64 0, .int .i64 0, .slice none 0 0] 40)) w.heap.size 40 (mcells zeroM none 0 0) := R0.alloc _
  have B2 : Below w.heap.size w (w0.alloc (.cells #[.int .i64 k, .int .i64 0, .int .i64 0, .int .i64 0, .int .i64 0, .int .i64 0, .int .i64 0, .int .i64 0, .int .i64 0, .int .i64 0, .int .i64 0, .int .i64 0, .int .i64 0, .int .i64 0, .int .i64 0, .slice none 0 0] 40)) := B0.alloc (by omega) _
  have z2 : w.heap.size + 2 = (w0.alloc (.cells #[.int .i64 k, .int .i64 0, .int .i64 0, .int .i64 0, .int .i64 0, .int .i64 0, .int .i64 0, .int .i64 0, .int .i64 0, .int .i64 0, .int .i64 0, .int .i64 0, .int .i64 0, .int .i64 0, .int .i64 0, .slice none 0 0] 40)).heap.size := by simp; omega
  go_wp2_with fail
  refine (fields_any k _).mono ?_
  rintro e w3 ⟨F, kf, cF, rfl, hfl, hF, hFo, hb3⟩
  have M3 := M2.kept hb3
  have R3 := R2.kept hb3
  have B3 := B2.trans (hb3.mono (by omega))
  have z3 : w.heap.size + 2 ≤ w3.heap.size := by have := hb3.size; omega
  have hFo3 : ∀ ad, F = some ad → w.heap.size + 2 ≤ ad.block := fun ad h => by have := hFo ad h; omega
  have hg4 : w0.heap.size = w.heap.size + 1 := z0.symm
  clear M2 R2 B2 z2 hb3 m0 p1 p0 R0 B0 z0 hFo
  rw [hg4] at M3 ⊢
  clear hg4
  by_cases hkn : Known k
  rotate_left
  · have HE := Lib.hid (dec_kind HL.out.2.2.1 (by rw [HL.out.2.1]; exact HX.out.1) HK.out.1 (by rw [HK.out.2]; exact hkn))
    rw [decide_eq_false hkn]
    clear hkn hF
    go_wp2_with (refine wpList_store_blk rfl 40 (.tmp 2) (.tmp 45) rfl rfl R3 rfl rfl (by kernel_rfl) (by rw [← Array.all_toList]; rfl) ?_; intro w11 R11 z11 k11 b11 o11)
    have BB11 := (B3).trans (b11 w.heap.size (Nat.le_refl _))
    refine rdec_end rfl rfl rfl (show Blk w11 w.heap.size 40 (mcells zeroM none 0 0) from R11) ?_
    exact dec_zero rfl BB11 (HE.out)
  rw [decide_eq_true hkn]
  have hg := fgood HL.out.2.2.1 (by rw [HL.out.2.1]; exact HX.out.1) HK.out.1 (by rw [HK.out.2]; exact hkn)
  rw [HK.out.2] at hg
  have HG : Hid (∀ r, fdec b (fieldsL k) 1 (N0 k) = r → FGood b r) := Lib.hid fun r h => h ▸ hg
  have HF := Lib.hid (And.intro hF (And.intro hfl (And.intro hFo3 hkn)))
  have HI3 : Hid (Blk w3 (w.heap.size + 1) 40 (mcells (mgN (N0 k) []) none 0 0) ∧ Blk w3 w.heap.size 40 (mcells zeroM none 0 0) ∧ Below w.heap.size w w3 ∧ w.heap.size + 2 ≤ w3.heap.size ∧ Below w3.heap.size w3 w3) := Lib.hid ⟨M3, R3, B3, z3, Below.refl _ _⟩
  clear hg hkn hF hfl hFo3 M3 R3 B3 z3
  go_upto_block 0 with fail
  go_cut [7, 8] (fun s7 s8 wx => ∃ (q : Nat) (N : Nat → Int) (s : Bool), s7 = .int .i64 (q : Nat) ∧ s8 = .bool s ∧ Hid (FGood b (q, N, s) ∧ Blk wx (w.heap.size + 1) 40 (mcells (mgN N []) none 0 0) ∧ Blk wx w.heap.size 40 (mcells zeroM none 0 0) ∧ Below w.heap.size w wx ∧ w.heap.size + 2 ≤ wx.heap.size ∧ N 0 = k))
  case first =>
    go_wp2_with fail
    go_loopw [7, 8, 48] (fun qv sv i wr => ∃ (j q : Nat) (N : Nat → Int), j ≤ kf ∧ i = .int .i64 (j : Nat) ∧ sv = .bool false ∧ qv = .int .i64 (q : Nat) ∧ q ≤ 1 + 8 * j ∧ Hid (q ≤ n ∧ fdec b ((fieldsL k).drop j) q N = fdec b (fieldsL k) 1 (N0 k) ∧ Blk wr (w.heap.size + 1) 40 (mcells (mgN N []) none 0 0) ∧ Blk wr w.heap.size 40 (mcells zeroM none 0 0) ∧ Below w.heap.size w wr ∧ w.heap.size + 2 ≤ wr.heap.size ∧ Reads wr wr.heap.size 2 F kf (fcells (fieldsL k)) ∧ N 0 = k)) (fun _ _ i _ => kf - (intOf i).toNat)
    case atStart => exact ⟨0, 1, N0 k, Nat.zero_le _, rfl, rfl, rfl, by omega, Lib.hid ⟨by have := HX.out.1; omega, rfl, HI3.out.1, HI3.out.2.1, HI3.out.2.2.1, HI3.out.2.2.2.1, HF.out.1, rfl⟩⟩
    case round =>
      clear HI3
      obtain ⟨j, q, N, hj, rfl, rfl, rfl, hqj, hinv⟩ := hrel
      obtain ⟨wo, rfl⟩ : ∃ wo : World, wo = wr := ⟨_, rfl⟩
      by_cases hlt : j < kf
      rotate_left
      · obtain rfl : j = kf := by omega
        have HO : Hid (FGood b (q, N, false) ∧ Blk wo (w.heap.size + 1) 40 (mcells (mgN N []) none 0 0) ∧ Blk wo w.heap.size 40 (mcells zeroM none 0 0) ∧ Below w.heap.size w wo ∧ w.heap.size + 2 ≤ wo.heap.size ∧ N 0 = k) := Lib.hid (by
          obtain ⟨h1, h2, h3, h4, h5, h6, h7, h8⟩ := hinv.out
          rw [List.drop_of_length_le (by rw [HF.out.2.1]; exact Nat.le_refl _)] at h2
          exact ⟨HG.out _ h2.symm, h3, h4, h5, h6, h8⟩)
        clear hinv
        go_wp2_with fail
        go_meet
        exact ⟨q, N, false, rfl, rfl, HO⟩
      obtain ⟨f, hf⟩ : ∃ f, (fieldsL k)[j]? = some f := ⟨_, List.getElem?_eq_getElem (by rw [HF.out.2.1]; exact hlt)⟩
      obtain ⟨x, y, rfl, hx1, hx, hy, hsz⟩ := fields_fit (List.mem_of_getElem? hf)
      have hy1 : 1 ≤ y := by rw [← hsz]; exact size_pos x hx hx1
      obtain ⟨hqn, hfd, M, R, Lb, hz, hR, hN⟩ := hinv.out
      obtain ⟨adF, rfl, hblk, hc0, hcj⟩ := Reads.elem (f := fun f : Int × Int => [Value.int .i64 f.1, Value.int .i64 f.2]) (fun _ => rfl) hR hf hlt
      have p0 := hc0 _ rfl
      have p1 := hcj 1 _ (by omega) rfl
      simp only at p0 p1
      have hk10 : kf ≤ 10 := by rw [← HF.out.2.1]; exact fields_len _
      obtain ⟨K, hK⟩ : ∃ K, K = j + 1 := ⟨_, rfl⟩
      obtain ⟨Q, hQ⟩ : ∃ Q, Q = q + y := ⟨_, rfl⟩
      have fk : IntKind.i64.wrap ((j : Int) + 1) = (K : Int) := by rw [hK]; exact IntWalk.i64_in _ ⟨by omega, by omega⟩
      have fQ : IntKind.i64.wrap ((q : Int) + (y : Int)) = (Q : Int) := by rw [hQ]; exact IntWalk.i64_in _ ⟨by omega, by omega⟩
      have hcons : (fieldsL k).drop j = ((x : Int), (y : Int)) :: (fieldsL k).drop (j + 1) := by
        rw [List.drop_eq_getElem_cons (by rw [HF.out.2.1]; exact hlt), (List.getElem?_eq_some_iff.1 hf).2]
      rw [hcons] at hfd
      have hFl : adF.block < wo.heap.size := by obtain ⟨ad', e1, e2, _⟩ := hR.2 (by omega); injection e1 with e1; rw [e1]; exact e2
      have HX2 := Lib.hid (And.intro hK (And.intro hQ (And.intro hqn (And.intro hfd (And.intro hy (And.intro hy1 (And.intro hx1 (And.intro Lb (And.intro hz (And.intro hR (And.intro hN (And.intro hqj (And.intro hk10 hlt)))))))))))))
      have B9 := Blk.new wo 59 #[.int .i64 (x : Int), .int .i64 (y : Int)]
      have HMR := Lib.hid (And.intro (M.alloc (.cells #[.int .i64 (x : Int), .int .i64 (y : Int)] 59)) (And.intro (R.alloc (.cells #[.int .i64 (x : Int), .int .i64 (y : Int)] 59)) (And.intro (Lb.alloc Lb.size (.cells #[.int .i64 (x : Int), .int .i64 (y : Int)] 59)) (hR.alloc (Nat.le_refl _) (.cells #[.int .i64 (x : Int), .int .i64 (y : Int)] 59)))))
      have hsz9 : wo.heap.size + 1 = (wo.alloc (.cells #[.int .i64 (x : Int), .int .i64 (y : Int)] 59)).heap.size := by simp
      have b0 := B9.cellOf (v := .int .i64 (x : Int)) 0 rfl
      have b1 := B9.cellOf (v := .int .i64 (y : Int)) 1 rfl
      have hcut' : n < Q ∨ (decide (n < Q) = false ∧ Q ≤ n) := by
        by_cases h : n < Q
        · exact .inl h
        · exact .inr ⟨decide_eq_false (by omega), by omega⟩
      clear hK hQ hqn hfd hy hy1 hx1 Lb hz hR hN hqj hk10 hc0 hcj hinv M R hf hsz hcons
      rcases hcut' with hc | ⟨hc, hQn⟩
      · have hci : (n : Int) < (Q : Int) := by clear fk fQ; omega
        go_wp2_with fail
        go_meet
        refine ⟨q, N, true, rfl, rfl, Lib.hid ⟨HG.out _ ?_, HMR.out.1, HMR.out.2.1, HMR.out.2.2.1, by have := HX2.out.2.2.2.2.2.2.2.2.1; omega, HX2.out.2.2.2.2.2.2.2.2.2.2.1⟩⟩
        rw [← HX2.out.2.2.2.1]
        exact fdec_stop (by rw [HL.out.2.1, Int.toNat_natCast]; have := HX2.out.2.1; omega)
      have hcq : ¬ c = q := by have := HL.out.2.2.2.1; have := HX2.out.2.1; have := HX2.out.2.2.2.2.2.1; clear fk fQ; omega
      have s1 : (q : Int) ≤ (Q : Int) := by have := HX2.out.2.1; clear fk fQ; omega
      have s2 : (Q : Int) ≤ (c : Int) := by have := HL.out.2.2.2.1; clear fk fQ; omega
      have s3 : q ≤ Q := by have := HX2.out.2.1; clear fk fQ; omega
      have s4 : Q ≤ c := by have := HL.out.2.2.2.1; clear fk fQ; omega
      obtain ⟨V, hV⟩ : ∃ V, num 0 ((b.drop q).take y) = V := ⟨_, rfl⟩
      have hnum : ∀ w10, Reads w10 w.heap.size 1 (some ad) n (us b) → Calls Try.prog 24 #[.slice (some (ad.add q)) (Q - q) (c - q)] w10 fun e w' => e = .returned (.int .i64 V) ∧ w10 = w' := fun w10 hR => by
        have eQ : Q - q = y := by have := HX2.out.2.1; omega
        rw [eQ, ← hV]
        exact number_r (some (ad.add q)) y (c - q) ((b.drop q).take y) w10 w.heap.size (reads_mid (c := c) hR HL.out.2.2.2.1 (by have := HX2.out.2.1; omega) (by rw [if_neg hcq, Nat.mul_one]; rfl)) (by rw [List.length_take, List.length_drop, HL.out.2.1]; have := HX2.out.2.1; omega) ((HL.out.2.2.1.drop q).take y) (by have := HL.out.2.2.2.2; omega)
      have HNum := Lib.hid hnum
      have HV := Lib.hid hV
      have HQn := Lib.hid hQn
      clear hQn hV hnum
      go_wp2_with fail
      clear p0 p1
      generalize wo.alloc (.cells #[.int .i64 (x : Int), .int .i64 (y : Int)] 59) = w9 at *
      refine wp_region_script [(0, true), (1, true), (2, true), (3, true), (4, true), (5, true), (6, true), (7, true), (8, true), (10, true), (9, false), (11, true), (12, false)] (fun w' => Blk w' wo.heap.size 59 #[.int .i64 (x : Int), .int .i64 (y : Int)]) (by kernel_rfl) (by kernel_rfl) (fun _ _ _ _ _ h => h) B9.drew ?_
      have HMB : Hid (Blk w9.drew (w.heap.size + 1) 40 (mcells (mgN N []) none 0 0) ∧ Blk w9.drew w.heap.size 40 (mcells zeroM none 0 0) ∧ Below w.heap.size w w9.drew ∧ Reads w9.drew wo.heap.size 2 (some adF) kf (fcells (fieldsL k)) ∧ Blk w9.drew wo.heap.size 59 #[.int .i64 (x : Int), .int .i64 (y : Int)] ∧ wo.heap.size + 1 = w9.drew.heap.size ∧ Reads w9.drew w.heap.size 1 (some ad) n (us b)) := Lib.hid ⟨HMR.out.1.drew, HMR.out.2.1.drew, HMR.out.2.2.1.drew, HMR.out.2.2.2.drew, B9.drew, hsz9, HL.out.1.below HMR.out.2.2.1.drew⟩
      clear B9 hsz9 b0 b1 HMR
      have hx15 : (x : Int) < 15 := by clear fk fQ; omega
      generalize w9.drew = w10 at *
      repeat (refine script_take (v := ?_) rfl ?_ ?_ ?_; rotate_left; (first | rfl | (go_simp; done)); (rintro w' u2; (have q0 := u2.cellOf (v := .int .i64 (x : Int)) 0 rfl); (have q1 := u2.cellOf (v := .int .i64 (y : Int)) 1 rfl); go_simp; with_reducible rfl); simp only [Act.put, List.setIfInBounds_toArray, List.set_cons_zero, List.set_cons_succ])
      (refine script_call 24 ?_ rfl ?_ ?_ ?_; rotate_left; (first | rfl | (go_simp; done)); (go_simp; with_reducible rfl))
      refine (HNum.out w10 HMB.out.2.2.2.2.2.2).mono ?_
      rintro e w2 ⟨rfl, rfl⟩
      refine ⟨_, rfl, HMB.out.2.2.2.2.1, ?_⟩
      simp only [Act.put, List.setIfInBounds_toArray, List.set_cons_zero, List.set_cons_succ]
      have q9 := HMB.out.1.cellOf x (ints_get (mgN N []) none 0 0 x hx)
      have fz := HMB.out.1.frozen x
      repeat (refine script_take (v := ?_) rfl ?_ ?_ ?_; rotate_left; (first | rfl | (go_simp; done)); (rintro w' u2; (have q0 := u2.cellOf (v := .int .i64 (x : Int)) 0 rfl); (have q1 := u2.cellOf (v := .int .i64 (y : Int)) 1 rfl); go_simp; with_reducible rfl); simp only [Act.put, List.setIfInBounds_toArray, List.set_cons_zero, List.set_cons_succ])
      (refine script_run0 (w' := ?_) rfl ?_ ?_ ?_ ?_; rotate_left; (first | rfl | (go_simp; done)); (go_simp; with_reducible rfl); (exact (HMB.out.2.2.2.2.1.far (by show wo.heap.size ≠ w.heap.size + 1; have := HX2.out.2.2.2.2.2.2.2.2.1; omega) _)); simp only [Act.put, List.setIfInBounds_toArray, List.set_cons_zero, List.set_cons_succ])
      refine script_nil ?_
      have HW : Hid (Blk (w10.setCell ⟨w.heap.size + 1, x, none⟩ (.int .i64 V)) (w.heap.size + 1) 40 (mcells (mgN (upd N x V) []) none 0 0) ∧ Blk (w10.setCell ⟨w.heap.size + 1, x, none⟩ (.int .i64 V)) w.heap.size 40 (mcells zeroM none 0 0) ∧ Below w.heap.size w (w10.setCell ⟨w.heap.size + 1, x, none⟩ (.int .i64 V)) ∧ w.heap.size + 2 ≤ (w10.setCell ⟨w.heap.size + 1, x, none⟩ (.int .i64 V)).heap.size ∧ Reads (w10.setCell ⟨w.heap.size + 1, x, none⟩ (.int .i64 V)) (w10.setCell ⟨w.heap.size + 1, x, none⟩ (.int .i64 V)).heap.size 2 (some adF) kf (fcells (fieldsL k))) := Lib.hid (by
        obtain ⟨h1, h2, h3, h4, h5, h6, h7⟩ := HMB.out
        have hzz := HX2.out.2.2.2.2.2.2.2.2.1
        refine ⟨?_, h2.far (by show w.heap.size ≠ w.heap.size + 1; omega) _, h3.setCell (by show w.heap.size ≤ w.heap.size + 1; omega) _, by simp; omega, ?_⟩
        · rw [← mgN_set _ _ _ _ _ _ hx]
          exact h1.set_ x _
        · refine ⟨h4.1, fun h0 => ?_⟩
          obtain ⟨a', e1, e2, e3⟩ := h4.2 h0
          refine ⟨a', e1, by simp; omega, fun i u hu => ?_⟩
          have hF0 := HF.out.2.2.1 a' e1
          rw [World.cell?_setCell_other _ _ _ _ (fun e => by have := congrArg Addr.block e; rw [block_of_add] at this; simp at this; omega)]
          exact e3 i u hu)
      have b1 : (w10.setCell ⟨w.heap.size + 1, x, none⟩ (.int .i64 V)).cell? ⟨wo.heap.size, 1, none⟩ = some (.int .i64 (y : Int)) := (HMB.out.2.2.2.2.1.far (p := ⟨w.heap.size + 1, x, none⟩) (by show wo.heap.size ≠ w.heap.size + 1; have := HX2.out.2.2.2.2.2.2.2.2.1; omega) _).cellOf 1 rfl
      clear q9 fz HMB hcq s1 s2 s3 s4
      generalize w10.setCell ⟨w.heap.size + 1, x, none⟩ (.int .i64 V) = w11 at *
      go_wp2_with fail
      clear fk fQ
      go_roundw
      case rel =>
        obtain ⟨hK, hQ, hqn, hfd, hy, hy1, hx1, Lb, hz, hR, hN, hqj, hk10, hlt⟩ := HX2.out
        refine ⟨K, Q, upd N x V, by omega, by first | rfl | (rw [hK]; rfl), rfl, rfl, by omega, Lib.hid ⟨HQn.out, ?_, HW.out.1, HW.out.2.1, HW.out.2.2.1, HW.out.2.2.2.1, HW.out.2.2.2.2, by unfold upd; rw [if_neg (by omega)]; exact hN⟩⟩
        rw [← hfd, fdec, if_neg (by rw [HL.out.2.1, Int.toNat_natCast]; have := HQn.out; omega), hK, hQ, ← HV.out]
        simp only [Int.toNat_natCast]
      case measure => have := HX2.out.1; have := HX2.out.2.2.2.2.2.2.2.2.2.2.2.2.2; simp [intOf]; omega
  case rest =>
    obtain ⟨q, N, s, rfl, rfl, hI⟩ := hcut
    obtain ⟨hG, M, R, Lb, hz, hN⟩ := hI.out
    have c0 : wc.cell? ⟨w.heap.size + 1, 0, none⟩ = some (.int .i64 k) := (M.cellOf (v := .int .i64 (N 0)) 0 rfl).trans (by rw [hN])
    have HGG := Lib.hid hG
    clear HI3 HG hI hG hN
    cases s with
    | true =>
      have HE := Lib.hid (HGG.out.1 rfl)
      clear HGG M hz
      have hk11 : (k == 11) = true ∨ (k == 11) = false := by cases (k == 11) <;> simp
      rcases hk11 with d1 | d1
      · go_wp2_with (refine wpList_store_blk rfl 40 (.tmp 2) (.tmp 126) rfl rfl R rfl rfl (by kernel_rfl) (by rw [← Array.all_toList]; rfl) ?_; intro w11 R11 z11 k11 b11 o11)
        have BB11 := (Lb).trans (b11 w.heap.size (Nat.le_refl _))
        refine rdec_end rfl rfl rfl (show Blk w11 w.heap.size 40 (mcells zeroM none 0 0) from R11) ?_
        exact dec_zero rfl BB11 (HE.out)
      · go_wp2_with (refine wpList_store_blk rfl 40 (.tmp 2) (.tmp 126) rfl rfl R rfl rfl (by kernel_rfl) (by rw [← Array.all_toList]; rfl) ?_; intro w11 R11 z11 k11 b11 o11)
        have BB11 := (Lb).trans (b11 w.heap.size (Nat.le_refl _))
        refine rdec_end rfl rfl rfl (show Blk w11 w.heap.size 40 (mcells zeroM none 0 0) from R11) ?_
        exact dec_zero rfl BB11 (HE.out)
    | false =>
    by_cases h11 : k = 11
    rotate_left
    · have d1 : (k == 11) = false := beq_eq_false_iff_ne.2 h11
      have hE : Hid (q = decW b ∧ q ≤ n ∧ mgN N [] = decM b ∧ (k = 11 → decN b ≤ 32) ∧ ([] : List Int).length = 0 ∧ 0 ≤ 32 ∧ Blk wc (w.heap.size + 1) 40 (mcells (mgN N []) none 0 0) ∧ Blk wc w.heap.size 40 (mcells zeroM none 0 0) ∧ Below w.heap.size w wc ∧ w.heap.size + 2 ≤ wc.heap.size ∧ wc.ownsRow (w.heap.size + 2) 3 1 (.slice none 0 0) 0 (vs [])) := Lib.hid (by
        obtain ⟨e1, e2, e3⟩ := HGG.out.2.1 rfl (by rw [HK.out.2]; exact h11)
        exact ⟨e1, by rw [HL.out.2.1] at e2; exact e2, e3, fun h => absurd h h11, rfl, by omega, M, R, Lb, hz, ownsRow_nil _ _ _ _⟩)
      clear h11 M R Lb hz HGG
      obtain ⟨hq, hqn, hmg, h11, hpl, hn2, M, R, Lb, hz, O⟩ := hE.out
      have hd := dec_long HL.out.2.2.1 (by rw [HL.out.2.1]; exact HX.out.1) HK.out.1 (by rw [HK.out.2]; exact HF.out.2.2.2) (fun h => h11 (by rw [← HK.out.2]; exact h)) (by rw [HL.out.2.1, ← hq]; exact hqn)
      rw [HL.out.2.1, ← hq, ← hmg] at hd
      clear hE hq hmg h11
      by_cases hlt : q < n
      · rw [if_pos hlt] at hd
        have HE := Lib.hid hd
        have hlti : (q : Int) < (n : Int) := by omega
        clear hd
        go_wp2_with (refine wpList_store_blk rfl 40 (.tmp 2) (.tmp 131) rfl rfl R rfl rfl (by kernel_rfl) (by rw [← Array.all_toList]; rfl) ?_; intro w11 R11 z11 k11 b11 o11)
        have BB11 := (Lb).trans (b11 w.heap.size (Nat.le_refl _))
        refine rdec_end rfl rfl rfl (show Blk w11 w.heap.size 40 (mcells zeroM none 0 0) from R11) ?_
        exact dec_zero rfl BB11 (HE.out)
      rw [if_neg hlt] at hd
      have dlt : decide (q < n) = false := decide_eq_false hlt
      obtain ⟨A3, c3, he2, _, hR3⟩ := ownsRow_reads O
      injection he2 with he2 _ he3
      subst he2 he3
      have HC := Lib.hid (rcheck_any (mgN N []) none 0 0 _ hR3 hpl (by omega))
      have HH := Lib.hid (And.intro hd (And.intro hpl (And.intro hn2 (And.intro Lb (And.intro hz O)))))
      clear hd hpl hn2 Lb hz O hR3 hlt hqn
      go_wp2_with (refine wpList_load_row_g (by first | rfl | (go_simp; done)) 40 (.tmp 4) rfl (w.heap.size + 1) rfl 40 (mcells (mgN N []) none 0 0) (0, 0) _ M Try.underlying40 rfl (by kernel_rfl) ?_)
      refine HC.out.mono ?_
      rintro e w10 ⟨rfl, hb10⟩
      obtain ⟨hd, hpl, hn2, Lb, hz, O⟩ := HH.out
      have R10 := R.below hb10 R.lt
      have M10 := M.below hb10 M.lt
      have O10 := ownsRow_keep O hb10
      have B10 := Lb.trans (hb10.mono Lb.size)
      clear R M O Lb hb10 HC HH hz
      by_cases hk0 : checkV (mgN N []) = 0
      · rw [if_neg (by simp [hk0])] at hd
        have HE := Lib.hid hd
        rw [hk0]
        clear hd hk0
        go_wp2_with (first | (refine wpList_load_row_g (by first | rfl | (go_simp; done)) 40 (.tmp 4) rfl (w.heap.size + 1) rfl 40 (mcells (mgN N []) none 0 0) (0, 0) _ M10 Try.underlying40 rfl (by kernel_rfl) ?_) | (refine wpList_store_blk rfl 40 (.tmp 2) (.tmp 136) rfl rfl R10 rfl rfl (by kernel_rfl) (by rw [← Array.all_toList]; rfl) ?_; intro w11 R11 z11 k11 b11 o11))
        have BB11 := B10.trans (b11 w.heap.size (Nat.le_refl _))
        have O11 := o11 _ _ _ _ _ _ (fun h => by have := (ownsRow_lt O10 _ h).1; omega) O10
        obtain ⟨A3, c3, he2, _, hR11⟩ := ownsRow_reads O11
        injection he2 with he2 _ he3
        subst he2 he3
        refine rdec_end rfl rfl rfl R11 ?_
        exact ⟨mgN N [], none, 0, 0, 0, rfl, hpl, hn2, hR11, BB11, HE.out⟩
      · rw [if_pos hk0] at hd
        have HE := Lib.hid hd
        have hk1 : (checkV (mgN N []) != 0) = true := bne_iff_ne.2 hk0
        clear hd
        go_wp2_with (refine wpList_store_blk rfl 40 (.tmp 2) (.tmp 135) rfl rfl R10 rfl rfl (by kernel_rfl) (by rw [← Array.all_toList]; rfl) ?_; intro w11 R11 z11 k11 b11 o11)
        have BB11 := (B10).trans (b11 w.heap.size (Nat.le_refl _))
        refine rdec_end rfl rfl rfl (show Blk w11 w.heap.size 40 (mcells zeroM none 0 0) from R11) ?_
        exact dec_zero rfl BB11 (HE.out)
    have d1 : (k == 11) = true := beq_iff_eq.2 h11
    have hb11 : getV 1 b % 16 = 11 := by rw [HK.out.2]; exact h11
    obtain ⟨hq30, h30, hmg⟩ := HGG.out.2.2 rfl hb11
    simp only at hq30
    subst hq30
    rw [HL.out.2.1] at h30
    have HB := Lib.hid (And.intro hb11 hmg)
    have HMR := Lib.hid (And.intro M (And.intro Lb hz))
    have HkN := Lib.hid HF.out.2.2.2
    clear hb11 hmg h11 HGG M Lb hz
    by_cases h31 : n ≤ 30
    · obtain rfl : n = 30 := by omega
      have HE := Lib.hid (dec_short HL.out.2.2.1 (by rw [HL.out.2.1]; exact HX.out.1) HK.out.1 (by rw [HK.out.2]; exact HkN.out) (fun _ => by rw [decN_few (by rw [HL.out.2.1]; omega)]; decide) (by rw [decW_11 HB.out.1, decN_few (by rw [HL.out.2.1]; omega), HL.out.2.1]; decide))
      clear h31 h30
      go_wp2_with (refine wpList_store_blk rfl 40 (.tmp 2) (.tmp 88) rfl rfl R rfl rfl (by kernel_rfl) (by rw [← Array.all_toList]; rfl) ?_; intro w11 R11 z11 k11 b11 o11)
      have BB11 := (HMR.out.2.1).trans (b11 w.heap.size (Nat.le_refl _))
      refine rdec_end rfl rfl rfl (show Blk w11 w.heap.size 40 (mcells zeroM none 0 0) from R11) ?_
      exact dec_zero rfl BB11 (HE.out)
    have c31 : decide ((n : Int) ≤ 30) = false := decide_eq_false (by omega)
    have c31' : (30 : Int) < (n : Int) := by omega
    have c31n : decide (n ≤ 30) = false := decide_eq_false (by omega)
    obtain ⟨x30, hx30⟩ : ∃ x, b[30]? = some x := ⟨_, List.getElem?_eq_getElem (by rw [HL.out.2.1]; omega)⟩
    have hx30r := HL.out.2.2.1 x30 (List.mem_of_getElem? hx30)
    have hdn := decN_byte hx30 hx30r
    have p30 : wc.cell? ⟨ad.block, ad.off + 30, none⟩ = some (.int .u8 x30) := show wc.cell? (ad.add 30) = some (.int .u8 x30) from (HL.out.1.below HMR.out.2.1).cellAt (by unfold us; rw [List.getElem?_map, hx30]; rfl)
    obtain ⟨NN, rfl⟩ : ∃ NN : Nat, x30 = (NN : Int) := ⟨x30.toNat, by omega⟩
    have fN : IntKind.i64.wrap (NN : Int) = (NN : Int) := IntWalk.i64_in _ ⟨by omega, by omega⟩
    have HN2 := Lib.hid (And.intro hdn (And.intro hx30r (show 31 ≤ n by omega)))
    clear hx30 hx30r hdn h30 h31
    by_cases hN32 : 32 < NN
    · have cN : (32 : Int) < (NN : Int) := by clear fN; omega
      have HE := Lib.hid (dec_many HL.out.2.2.1 (by rw [HL.out.2.1]; exact HX.out.1) HK.out.1 HB.out.1 (by rw [HN2.out.1]; exact cN))
      clear hN32
      go_wp2_with (refine wpList_store_blk rfl 40 (.tmp 2) (.tmp 98) rfl rfl R rfl rfl (by kernel_rfl) (by rw [← Array.all_toList]; rfl) ?_; intro w11 R11 z11 k11 b11 o11)
      have BB11 := (HMR.out.2.1).trans (b11 w.heap.size (Nat.le_refl _))
      refine rdec_end rfl rfl rfl (show Blk w11 w.heap.size 40 (mcells zeroM none 0 0) from R11) ?_
      exact dec_zero rfl BB11 (HE.out)
    have cN : decide ((32 : Int) < (NN : Int)) = false := decide_eq_false (by clear fN; omega)
    obtain ⟨S6, hS6⟩ : ∃ S6, S6 = 6 * NN := ⟨_, rfl⟩
    obtain ⟨E, hE⟩ : ∃ E, E = 31 + S6 := ⟨_, rfl⟩
    have fS : IntKind.i64.wrap (6 * (NN : Int)) = (S6 : Int) := by rw [hS6, IntWalk.i64_in _ ⟨by clear fN; omega, by clear fN; omega⟩]; clear fN; omega
    have fE : IntKind.i64.wrap (31 + (S6 : Int)) = (E : Int) := by rw [hE, IntWalk.i64_in _ ⟨by clear fN fS; omega, by clear fN fS; omega⟩]; clear fN fS; omega
    have hNN32 : NN ≤ 32 := by clear fN fS fE; omega
    have HS := Lib.hid (And.intro hS6 (And.intro hE hNN32))
    clear hS6 hE hNN32 hN32
    have hcases : n < E ∨ (decide (n < E) = false ∧ E ≤ n) := by
      clear fN fS fE
      by_cases h : n < E
      · exact .inl h
      · exact .inr ⟨decide_eq_false h, by omega⟩
    rcases hcases with hc | ⟨hc, hEn⟩
    · have hci : (n : Int) < (E : Int) := by clear fN fS fE; omega
      have HE := Lib.hid (dec_short HL.out.2.2.1 (by rw [HL.out.2.1]; exact HX.out.1) HK.out.1 (by rw [HK.out.2]; exact HkN.out) (fun _ => by rw [HN2.out.1]; have := HS.out.2.2; clear fN fS fE; omega) (by rw [decW_11 HB.out.1, HN2.out.1, HL.out.2.1, Int.toNat_natCast]; have := HS.out.1; have := HS.out.2.1; clear fN fS fE; omega))
      go_wp2_with (refine wpList_store_blk rfl 40 (.tmp 2) (.tmp 106) rfl rfl R rfl rfl (by kernel_rfl) (by rw [← Array.all_toList]; rfl) ?_; intro w11 R11 z11 k11 b11 o11)
      have BB11 := (HMR.out.2.1).trans (b11 w.heap.size (Nat.le_refl _))
      refine rdec_end rfl rfl rfl (show Blk w11 w.heap.size 40 (mcells zeroM none 0 0) from R11) ?_
      exact dec_zero rfl BB11 (HE.out)
    have HEn := Lib.hid hEn
    have HR0 := Lib.hid R
    clear hEn R
    go_wp2_with fail
    clear fN fS fE c0 p30 c31 c31' c31n
    go_loopw [7, 12] (fun qv iv wr => ∃ (i q : Nat) (p : List Int) (A' : Option Addr) (c' : Nat), i ≤ NN ∧ iv = .int .i64 (i : Nat) ∧ qv = .int .i64 (q : Nat) ∧ Hid (q = 31 + 6 * i ∧ p.length = i ∧ (pathG NN (b.drop 31)).1 = p ++ (pathG (NN - i) (b.drop (31 + 6 * i))).1 ∧ Blk wr (w.heap.size + 1) 40 (mcells (mgN N p) A' i c') ∧ Blk wr w.heap.size 40 (mcells zeroM none 0 0) ∧ Below w.heap.size w wr ∧ w.heap.size + 2 ≤ wr.heap.size ∧ wr.ownsRow (w.heap.size + 2) 3 1 (.slice A' i c') i (vs p))) (fun _ i _ => NN - (intOf i).toNat)
    case atStart => exact ⟨0, 31, [], none, 0, Nat.zero_le _, rfl, rfl, Lib.hid ⟨rfl, rfl, rfl, HMR.out.1, HR0.out, HMR.out.2.1, HMR.out.2.2, ownsRow_nil _ _ _ _⟩⟩
    case round =>
      clear HMR HR0
      obtain ⟨i, q, p, A', c', hi, rfl, rfl, hinv⟩ := hrel
      obtain ⟨wo, rfl⟩ : ∃ wo : World, wo = wr := ⟨_, rfl⟩
      by_cases hlt : i < NN
      rotate_left
      · obtain rfl : i = NN := by omega
        have hE : Hid (q = decW b ∧ q ≤ n ∧ mgN N p = decM b ∧ (k = 11 → decN b ≤ 32) ∧ p.length = i ∧ i ≤ 32 ∧ Blk wo (w.heap.size + 1) 40 (mcells (mgN N p) A' i c') ∧ Blk wo w.heap.size 40 (mcells zeroM none 0 0) ∧ Below w.heap.size w wo ∧ w.heap.size + 2 ≤ wo.heap.size ∧ wo.ownsRow (w.heap.size + 2) 3 1 (.slice A' i c') i (vs p)) := Lib.hid (by
          obtain ⟨h1, h2, h3, h4, h5, h6, h7, h8⟩ := hinv.out
          have hS := HS.out
          have hEn := HEn.out
          refine ⟨by rw [decW_11 HB.out.1, HN2.out.1, Int.toNat_natCast]; exact h1, by omega, ?_, fun _ => by rw [HN2.out.1]; omega, h2, hS.2.2, h4, h5, h6, h7, h8⟩
          have h9 := decM_of_path HB.out.2 HB.out.1 (by rw [HL.out.2.1]; exact HN2.out.2.2)
          rw [HN2.out.1, Int.toNat_natCast, h3, Nat.sub_self] at h9
          rw [← h9]
          simp [pathG])
        clear hinv
        obtain ⟨hq, hqn, hmg, h11, hpl, hn2, M, R, Lb, hz, O⟩ := hE.out
        have hd := dec_long HL.out.2.2.1 (by rw [HL.out.2.1]; exact HX.out.1) HK.out.1 (by rw [HK.out.2]; exact HF.out.2.2.2) (fun h => h11 (by rw [← HK.out.2]; exact h)) (by rw [HL.out.2.1, ← hq]; exact hqn)
        rw [HL.out.2.1, ← hq, ← hmg] at hd
        clear hE hq hmg h11
        by_cases hlt : q < n
        · rw [if_pos hlt] at hd
          have HE := Lib.hid hd
          have hlti : (q : Int) < (n : Int) := by omega
          clear hd
          go_wp2_with (refine wpList_store_blk rfl 40 (.tmp 2) (.tmp 131) rfl rfl R rfl rfl (by kernel_rfl) (by rw [← Array.all_toList]; rfl) ?_; intro w11 R11 z11 k11 b11 o11)
          have BB11 := (Lb).trans (b11 w.heap.size (Nat.le_refl _))
          refine rdec_end rfl rfl rfl (show Blk w11 w.heap.size 40 (mcells zeroM none 0 0) from R11) ?_
          exact dec_zero rfl BB11 (HE.out)
        rw [if_neg hlt] at hd
        have dlt : decide (q < n) = false := decide_eq_false hlt
        obtain ⟨A3, c3, he2, _, hR3⟩ := ownsRow_reads O
        injection he2 with he2 _ he3
        subst he2 he3
        have HC := Lib.hid (rcheck_any (mgN N p) A' i c' _ hR3 hpl (by omega))
        have HH := Lib.hid (And.intro hd (And.intro hpl (And.intro hn2 (And.intro Lb (And.intro hz O)))))
        clear hd hpl hn2 Lb hz O hR3 hlt hqn
        go_wp2_with (refine wpList_load_row_g (by first | rfl | (go_simp; done)) 40 (.tmp 4) rfl (w.heap.size + 1) rfl 40 (mcells (mgN N p) A' i c') (0, 0) _ M Try.underlying40 rfl (by kernel_rfl) ?_)
        refine HC.out.mono ?_
        rintro e w10 ⟨rfl, hb10⟩
        obtain ⟨hd, hpl, hn2, Lb, hz, O⟩ := HH.out
        have R10 := R.below hb10 R.lt
        have M10 := M.below hb10 M.lt
        have O10 := ownsRow_keep O hb10
        have B10 := Lb.trans (hb10.mono Lb.size)
        clear R M O Lb hb10 HC HH hz
        by_cases hk0 : checkV (mgN N p) = 0
        · rw [if_neg (by simp [hk0])] at hd
          have HE := Lib.hid hd
          rw [hk0]
          clear hd hk0
          go_wp2_with (first | (refine wpList_load_row_g (by first | rfl | (go_simp; done)) 40 (.tmp 4) rfl (w.heap.size + 1) rfl 40 (mcells (mgN N p) A' i c') (0, 0) _ M10 Try.underlying40 rfl (by kernel_rfl) ?_) | (refine wpList_store_blk rfl 40 (.tmp 2) (.tmp 136) rfl rfl R10 rfl rfl (by kernel_rfl) (by rw [← Array.all_toList]; rfl) ?_; intro w11 R11 z11 k11 b11 o11))
          have BB11 := B10.trans (b11 w.heap.size (Nat.le_refl _))
          have O11 := o11 _ _ _ _ _ _ (fun h => by have := (ownsRow_lt O10 _ h).1; omega) O10
          obtain ⟨A3, c3, he2, _, hR11⟩ := ownsRow_reads O11
          injection he2 with he2 _ he3
          subst he2 he3
          refine rdec_end rfl rfl rfl R11 ?_
          exact ⟨mgN N p, A', i, c', 0, rfl, hpl, hn2, hR11, BB11, HE.out⟩
        · rw [if_pos hk0] at hd
          have HE := Lib.hid hd
          have hk1 : (checkV (mgN N p) != 0) = true := bne_iff_ne.2 hk0
          clear hd
          go_wp2_with (refine wpList_store_blk rfl 40 (.tmp 2) (.tmp 135) rfl rfl R10 rfl rfl (by kernel_rfl) (by rw [← Array.all_toList]; rfl) ?_; intro w11 R11 z11 k11 b11 o11)
          have BB11 := (B10).trans (b11 w.heap.size (Nat.le_refl _))
          refine rdec_end rfl rfl rfl (show Blk w11 w.heap.size 40 (mcells zeroM none 0 0) from R11) ?_
          exact dec_zero rfl BB11 (HE.out)
      obtain ⟨K, hK⟩ : ∃ K, K = i + 1 := ⟨_, rfl⟩
      obtain ⟨Q, hQ⟩ : ∃ Q, Q = q + 6 := ⟨_, rfl⟩
      obtain ⟨hq, hpl, hP, M, R, Lb, hz, O⟩ := hinv.out
      have hQn : Q ≤ n := by have := HS.out; have := HEn.out; omega
      have hn500 := HL.out.2.2.2.2
      have hi32 := HS.out.2.2
      have fk : IntKind.i64.wrap ((i : Int) + 1) = (K : Int) := by rw [hK]; exact IntWalk.i64_in _ ⟨by omega, by omega⟩
      have fQ : IntKind.i64.wrap ((q : Int) + 6) = (Q : Int) := by rw [hQ]; exact IntWalk.i64_in _ ⟨by clear fk; omega, by clear fk; omega⟩
      have hcne : ¬ c = q := by have := HL.out.2.2.2.1; clear fk fQ; omega
      have s1 : (q : Int) ≤ (Q : Int) := by clear fk fQ; omega
      have s2 : (Q : Int) ≤ (c : Int) := by have := HL.out.2.2.2.1; clear fk fQ; omega
      have s3 : q ≤ Q := by clear fk fQ; omega
      have s4 : Q ≤ c := by have := HL.out.2.2.2.1; clear fk fQ; omega
      obtain ⟨V, hV⟩ : ∃ V, num 0 ((b.drop q).take 6) = V := ⟨_, rfl⟩
      have hnum : ∀ w10, Reads w10 w.heap.size 1 (some ad) n (us b) → Calls Try.prog 24 #[.slice (some (ad.add q)) (Q - q) (c - q)] w10 fun e w' => e = .returned (.int .i64 V) ∧ w10 = w' := fun w10 hR => by
        have eQ : Q - q = 6 := by clear fk fQ; omega
        rw [eQ, ← hV]
        exact number_r (some (ad.add q)) 6 (c - q) ((b.drop q).take 6) w10 w.heap.size (reads_mid (c := c) hR HL.out.2.2.2.1 (by clear fk fQ; omega) (by rw [if_neg hcne, Nat.mul_one]; rfl)) (by rw [List.length_take, List.length_drop, HL.out.2.1]; clear fk fQ; omega) ((HL.out.2.2.1.drop q).take 6) (by clear fk fQ; omega)
      have HNum := Lib.hid (hnum wo.drew (HL.out.1.below Lb.drew))
      have HP : Hid (K = i + 1 ∧ Q = q + 6 ∧ i < NN ∧ Q = 31 + 6 * K ∧ (p ++ [V]).length = K ∧ (pathG NN (b.drop 31)).1 = (p ++ [V]) ++ (pathG (NN - K) (b.drop (31 + 6 * K))).1) := Lib.hid (by
        refine ⟨hK, hQ, hlt, by omega, by rw [List.length_append, hpl, hK]; rfl, ?_⟩
        rw [hK, ← hV, hq]
        exact path_next hP hlt (by rw [HL.out.2.1]; have := HS.out; have := HEn.out; omega))
      have hlb : ∀ g, (Value.slice A' i c').ownBlock = some g → w.heap.size + 2 ≤ g := fun g hg => (ownsRow_lt O g hg).1
      have HFr := Lib.hid (And.intro R (And.intro Lb (And.intro hz (And.intro O (And.intro hlb hi32)))))
      clear hK hQ hq hpl hP hV hnum hQn hn500 hinv R Lb hz O hlb hi32
      go_wp2_with fail
      refine wp_region_scriptK 11 [(0, true), (1, true), (2, true), (3, true), (4, true), (5, true), (6, true), (7, false), (8, false), (9, false), (10, true)] [(0, true), (1, true), (2, true), (3, true), (4, true), (5, true), (6, true), (7, false), (8, false), (9, false), (10, true), (11, false)] rfl (fun w' => Blk w' (w.heap.size + 1) 40 (mcells (mgN N p) A' i c')) (by kernel_rfl) (by kernel_rfl) (fun _ _ _ _ _ h => h) M.drew ?_
      (refine scriptK_take (v := ?_) rfl ?_ ?_ ?_; rotate_left; (first | rfl | (go_simp; done)); (intro w' hw'; have hcq := fun i => Blk.cell hw' i; (try simp only [mcells] at hcq); (try simp only [ckc] at hcq); go_simp; with_reducible rfl); simp only [Act.put, List.setIfInBounds_toArray, List.set_cons_zero, List.set_cons_succ])
      (refine scriptK_take (v := ?_) rfl ?_ ?_ ?_; rotate_left; (first | rfl | (go_simp; done)); (intro w' hw'; have hcq := fun i => Blk.cell hw' i; (try simp only [mcells] at hcq); (try simp only [ckc] at hcq); go_simp; with_reducible rfl); simp only [Act.put, List.setIfInBounds_toArray, List.set_cons_zero, List.set_cons_succ])
      (refine scriptK_take (v := ?_) rfl ?_ ?_ ?_; rotate_left; (first | rfl | (go_simp; done)); (intro w' hw'; have hcq := fun i => Blk.cell hw' i; (try simp only [mcells] at hcq); (try simp only [ckc] at hcq); go_simp; with_reducible rfl); simp only [Act.put, List.setIfInBounds_toArray, List.set_cons_zero, List.set_cons_succ])
      (refine scriptK_take (v := ?_) rfl ?_ ?_ ?_; rotate_left; (first | rfl | (go_simp; done)); (intro w' hw'; have hcq := fun i => Blk.cell hw' i; (try simp only [mcells] at hcq); (try simp only [ckc] at hcq); go_simp; with_reducible rfl); simp only [Act.put, List.setIfInBounds_toArray, List.set_cons_zero, List.set_cons_succ])
      (refine scriptK_take (v := ?_) rfl ?_ ?_ ?_; rotate_left; (first | rfl | (go_simp; done)); (intro w' hw'; have hcq := fun i => Blk.cell hw' i; (try simp only [mcells] at hcq); (try simp only [ckc] at hcq); go_simp; with_reducible rfl); simp only [Act.put, List.setIfInBounds_toArray, List.set_cons_zero, List.set_cons_succ])
      (refine scriptK_take (v := ?_) rfl ?_ ?_ ?_; rotate_left; (first | rfl | (go_simp; done)); (intro w' hw'; have hcq := fun i => Blk.cell hw' i; (try simp only [mcells] at hcq); (try simp only [ckc] at hcq); go_simp; with_reducible rfl); simp only [Act.put, List.setIfInBounds_toArray, List.set_cons_zero, List.set_cons_succ])
      (refine scriptK_take (v := ?_) rfl ?_ ?_ ?_; rotate_left; (first | rfl | (go_simp; done)); (intro w' hw'; have hcq := fun i => Blk.cell hw' i; (try simp only [mcells] at hcq); (try simp only [ckc] at hcq); go_simp; with_reducible rfl); simp only [Act.put, List.setIfInBounds_toArray, List.set_cons_zero, List.set_cons_succ])
      (refine scriptK_call 24 ?_ rfl ?_ ?_ ?_; rotate_left; (first | rfl | (go_simp; done)); (go_simp; with_reducible rfl))
      refine HNum.out.mono ?_
      rintro e w9 ⟨rfl, rfl⟩
      refine ⟨_, rfl, fun _ => M.drew, ?_⟩
      simp only [Act.put, List.setIfInBounds_toArray, List.set_cons_zero, List.set_cons_succ]
      obtain ⟨R, Lb, hz, O, hlb, hi32⟩ := HFr.out
      have Od : wo.drew.ownsRow (w.heap.size + 2) 3 1 (.slice A' i c') i (vs p) := O
      have hzd : w.heap.size + 2 ≤ wo.drew.heap.size := hz
      have hpb : (i + 1) * 8 ≤ 140737488355328 := by clear fk fQ; omega
      (refine scriptK_run (v := ?_) (w' := ?_) rfl ?_ ?_ ?_ ?_; rotate_left 2; (first | rfl | (go_simp; done)); (go_simp; refine ⟨?_, ?_⟩ <;> with_reducible rfl); (exact fun _ => (M.drew.alloc _)); simp only [Act.put, List.setIfInBounds_toArray, List.set_cons_zero, List.set_cons_succ])
      refine scriptK_pushes 1 rfl rfl (.tmp 113) (.tmp 120) 26 rfl styI (cs := #[.int .i64 V]) rfl (by intro u hu; simp at hu; subst hu; rfl) rfl Od rfl rfl hpb hzd ?_
      intro v8 w8 O8 G8 _
      obtain ⟨A2, c2, rfl, _, _⟩ := ownsRow_reads O8
      have M8 := M.drew.grown G8 (fun h => by have := hlb _ h.symm; omega)
      have R8 := R.drew.grown G8 (fun h => by have := hlb _ h.symm; omega)
      have L8 := Lb.drew.grown G8 (by omega) (fun g hg => by have := hlb _ hg; omega)
      have z8 : w.heap.size + 2 ≤ w8.heap.size := Nat.le_trans hzd G8.size
      have y15 := M8.cellOf 15 rfl
      have fz := M8.frozen
      refine ⟨fun _ => M8, ?_⟩
      simp only [Act.put, List.setIfInBounds_toArray, List.set_cons_zero, List.set_cons_succ]
      (refine scriptK_take (v := ?_) rfl ?_ ?_ ?_; rotate_left; (first | rfl | (go_simp; done)); (intro w' hw'; have hcq := fun i => Blk.cell hw' i; (try simp only [mcells] at hcq); (try simp only [ckc] at hcq); go_simp; with_reducible rfl); simp only [Act.put, List.setIfInBounds_toArray, List.set_cons_zero, List.set_cons_succ])
      (refine scriptK_run0 (w' := ?_) rfl ?_ ?_ ?_ ?_; rotate_left; (first | rfl | (go_simp; done)); (go_simp; with_reducible rfl); (exact fun h => absurd rfl h); simp only [Act.put, List.setIfInBounds_toArray, List.set_cons_zero, List.set_cons_succ])
      refine scriptK_nil ?_
      have HI8 : Hid (Blk (w8.setCell ⟨w.heap.size + 1, 15, none⟩ (.slice A2 (i + 1) c2)) (w.heap.size + 1) 40 (mcells (mgN N (p ++ [V])) A2 (i + 1) c2) ∧ Blk (w8.setCell ⟨w.heap.size + 1, 15, none⟩ (.slice A2 (i + 1) c2)) w.heap.size 40 (mcells zeroM none 0 0) ∧ Below w.heap.size w (w8.setCell ⟨w.heap.size + 1, 15, none⟩ (.slice A2 (i + 1) c2)) ∧ w.heap.size + 2 ≤ (w8.setCell ⟨w.heap.size + 1, 15, none⟩ (.slice A2 (i + 1) c2)).heap.size ∧ (w8.setCell ⟨w.heap.size + 1, 15, none⟩ (.slice A2 (i + 1) c2)).ownsRow (w.heap.size + 2) 3 1 (.slice A2 (i + 1) c2) (i + 1) (vs (p ++ [V]))) := Lib.hid ⟨M8.set_ 15 _, R8.far (by show w.heap.size ≠ w.heap.size + 1; omega) _, L8.setCell (by show w.heap.size ≤ w.heap.size + 1; omega) _, by simpa using z8, ownsRow_setCell_below (by rw [show vs (p ++ [V]) = vs p ++ [.int .i64 V] from by simp [vs]]; exact O8) (by show w.heap.size + 1 < w.heap.size + 2; omega) _⟩
      clear y15 fz M8 R8 L8 z8 O8 G8 M R Lb hz O Od hzd hlb HFr HNum hcne s1 s2 s3 s4
      generalize w8.setCell ⟨w.heap.size + 1, 15, none⟩ (.slice A2 (i + 1) c2) = w11 at *
      go_wp2_with fail
      clear fk fQ
      go_roundw
      case rel =>
        obtain ⟨hK, hQ, hlt, hq, hpl, hP⟩ := HP.out
        subst hK
        exact ⟨i + 1, Q, p ++ [V], A2, c2, by omega, by first | rfl | go_num, rfl, Lib.hid ⟨hq, hpl, hP, HI8.out⟩⟩
      case measure => have := HP.out.1; have := HP.out.2.2.1; simp [intOf]; omega
end Go.Proofs.Ytlhaloabophliaa
