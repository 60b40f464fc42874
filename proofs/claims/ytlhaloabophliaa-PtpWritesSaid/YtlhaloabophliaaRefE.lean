/-
  Layer 6's reference: Encode: what it gives.
-/
import Derived.Test.YtlhaloabophliaaRefD
namespace Go.Proofs.Ytlhaloabophliaa
set_option linter.unusedSimpArgs false
set_option linter.unusedVariables false
open Go.RowKit Go.WideShapes Go.ChangeShapes
attribute [local go_sem ↓] Go.wp_at_zero Go.wp_at_succ

def fieldB (m : Mg) (f : Int × Int) : List Int := be (m.ints.getD f.1.toNat 0) f.2.toNat
def outF (m : Mg) (j : Nat) : List Int := (16 + m.kind) :: ((fieldsL m.kind).take j).flatMap (fieldB m)
theorem outF_step {m : Mg} {j x y : Nat} (h : (fieldsL m.kind)[j]? = some ((x : Int), (y : Int))) : outF m (j + 1) = outF m j ++ be (m.ints.getD x 0) y := by
  unfold outF
  rw [take_get h, List.flatMap_append]
  simp [fieldB]
theorem out_enc {m : Mg} (hk : Known m.kind) (hn : m.kind ≠ 11) : outF m (fieldsL m.kind).length = encB m := by
  obtain ⟨k, d, s, src, port, corr, time, tt, tp, rate, one, cls, two, id, steps, path⟩ := m
  simp only at hk hn
  rcases hk with rfl | rfl | rfl | rfl | rfl | rfl
  all_goals first | (exact absurd rfl hn) | (simp [outF, fieldsL, fields0, fieldB, encB, headB, tailB, Mg.ints, be_one])
theorem out_enc11 {m : Mg} (hk : m.kind = 11) : outF m (fieldsL m.kind).length ++ [(m.path.length : Int) % 256] ++ (m.path.flatMap fun x => be x 6) = encB m := by
  obtain ⟨k, d, s, src, port, corr, time, tt, tp, rate, one, cls, two, id, steps, path⟩ := m
  simp only at hk
  subst hk
  simp [outF, fieldsL, fields0, fieldB, encB, headB, tailB, Mg.ints, be_one]
def REnc (m : Mg) (w : World) (e : Ending) (w' : World) : Prop :=
  ∃ (B : Option Addr) (k d : Nat), e = .returned (.tuple #[.slice B k d, .int .i64 (checkV m)]) ∧ k ≤ 300 ∧ Below w.heap.size w w' ∧ Hid (m.Right → Reads w' w'.heap.size 1 B k (us (encB m)) ∧ k = (encB m).length) ∧ (checkV m ≠ 0 → k = 0)
theorem renc_end {m : Mg} {w w' : World} {A : Option Addr} {L c : Nat} {out : List Int} {base : Nat} (hm : m.Right) (he : out = encB m) (ho : w'.ownsRow base 5 1 (.slice A L c) L (us out)) (hb : Below w.heap.size w w') (hL : L ≤ 300) : REnc m w (.returned (.tuple #[.slice A L c, .int .i64 0])) w' := by
  subst he
  have h0 : checkV m = 0 := check_zero.2 hm
  refine ⟨A, L, c, by rw [h0], hL, hb, Lib.hid fun _ => ⟨Reads.of_own ho, ?_⟩, fun h => absurd h0 h⟩
  have := ho.1
  rw [us_length] at this
  omega
theorem renc_bad (m : Mg) (A : Option Addr) (n c : Nat) (w : World) (hr : Reads w w.heap.size 1 A n (vs m.path)) (hl : m.path.length = n) (hn : n ≤ 100000) (hbad : checkV m ≠ 0) :
    Calls Try.prog 14 #[.agg (mcells m A n c)] w (REnc m w) := by
  have hck := fun W hr => rcheck_any m A n c W hr hl hn
  have hb1 : (checkV m != 0) = true := bne_iff_ne.2 hbad
  have M0 := Blk.new w 40 (mcells m A n c)
  have L0 := (Below.refl w.heap.size w).alloc (Nat.le_refl _) (.cells (mcells m A n c) 40)
  have hz0 : w.heap.size + 1 = (w.alloc (.cells (mcells m A n c) 40)).heap.size := by simp
  have R0 := hr.alloc (Nat.le_refl _) (.cells (mcells m A n c) 40)
  have HX : Hid (∀ X, X = checkV m → ∀ w', Below w.heap.size w w' → REnc m w (.returned (.tuple #[.slice none 0 0, .int .i64 X])) w') := Lib.hid fun X hX w' hb => ⟨none, 0, 0, by rw [hX], by omega, hb, Lib.hid fun hm => absurd (check_zero.2 hm) hbad, fun _ => rfl⟩
  generalize checkV m = x at *
  have HC := Lib.hid hck
  have HL := Lib.hid hl
  clear hck hl hbad
  go_enter Try.func14, Try.ntmps14
  go_wp2_with (refine wpList_load_row_g (by first | rfl | (go_simp; done)) 40 (.tmp 1) rfl (w.heap.size) rfl 40 (mcells m A n c) (0, 0) _ M0 Try.underlying40 rfl (by kernel_rfl) ?_)
  generalize w.alloc (.cells (mcells m A n c) 40) = w0 at *
  refine (HC.out _ (R0.more (by omega))).mono ?_
  rintro e w1 ⟨rfl, hb⟩
  have L1 := L0.trans (hb.mono (by omega))
  clear hb M0 L0 R0 hz0
  go_wp2_with fail
  go_ret2
  exact HX.out _ rfl _ L1
set_option maxRecDepth 100000 in
set_option maxHeartbeats 8000000 in
theorem renc_right (m : Mg) (A : Option Addr) (n c : Nat) (w : World) (hr : Reads w w.heap.size 1 A n (vs m.path)) (hl : m.path.length = n) (hm : m.Right) :
    Calls Try.prog 14 #[.agg (mcells m A n c)] w (REnc m w) := by
  have hn : n ≤ 32 := by rw [← hl]; exact hm.few
  have hck := fun W hr => rcheck_any m A n c W hr hl (by omega)
  rw [check_zero.2 hm] at hck
  have M0 := Blk.new w 40 (mcells m A n c)
  have L0 := (Below.refl w.heap.size w).alloc (Nat.le_refl _) (.cells (mcells m A n c) 40)
  have hz0 : w.heap.size + 1 = (w.alloc (.cells (mcells m A n c) 40)).heap.size := by simp
  have R0 := hr.alloc (Nat.le_refl _) (.cells (mcells m A n c) 40)
  have hk := hm.known
  have hk11 : 0 ≤ m.kind ∧ m.kind ≤ 11 := by unfold Known at hk; omega
  obtain ⟨V, hV⟩ : ∃ V, V = 16 + m.kind := ⟨_, rfl⟩
  have fV : IntKind.i64.wrap (16 + m.kind) = V := by rw [← hV]; exact IntWalk.i64_in _ ⟨by omega, by omega⟩
  have fV8 : IntKind.u8.wrap V = V := by
    have h : 16 ≤ V ∧ V ≤ 27 := by omega
    obtain ⟨h1, h2⟩ := h
    have : V = 16 ∨ V = 17 ∨ V = 18 ∨ V = 19 ∨ V = 20 ∨ V = 21 ∨ V = 22 ∨ V = 23 ∨ V = 24 ∨ V = 25 ∨ V = 26 ∨ V = 27 := by omega
    rcases this with rfl | rfl | rfl | rfl | rfl | rfl | rfl | rfl | rfl | rfl | rfl | rfl <;> rfl
  have fV9 : V % 256 = V := by omega
  have HC := Lib.hid hck
  have HL := Lib.hid (And.intro hl (And.intro hm (And.intro hV hn)))
  have HKD : Hid (decide (Known m.kind) = true) := Lib.hid (decide_eq_true hk)
  clear hck hl hm hk hk11 hV hn
  go_enter Try.func14, Try.ntmps14
  go_wp2_with (refine wpList_load_row_g (by first | rfl | (go_simp; done)) 40 (.tmp 1) rfl (w.heap.size) rfl 40 (mcells m A n c) (0, 0) _ M0 Try.underlying40 rfl (by kernel_rfl) ?_)
  generalize w.alloc (.cells (mcells m A n c) 40) = w0 at *
  refine (HC.out _ (R0.more (by omega))).mono ?_
  rintro e w1 ⟨rfl, hb⟩
  have M1 := M0.kept hb
  have L1 := L0.trans (hb.mono (by omega))
  have R1 := hr.below L1
  have hz1 : w.heap.size < w1.heap.size := M1.lt
  have x0 := M1.cellOf (v := .int .i64 m.kind) 0 rfl
  have HRd := Lib.hid hr
  clear hb M0 L0 R0 hz0 hr
  go_wp2_with fail
  clear fV fV8 fV9
  refine (fields_any m.kind _).mono ?_
  rintro e w3 ⟨F, k, cF, rfl, hfl, hF, hFo, hb3⟩
  rw [HKD.out]
  have O0 := ownsRow_new (e := 5) (size := 1) w1 (base := w1.heap.size) (cs := #[.int .u8 V]) (n := 1) (Nat.le_refl _) rfl (by simp [maxLen])
  have hz2 : w1.heap.size + 1 = (w1.alloc (.cells #[.int .u8 V] 5)).heap.size := by simp
  have O3 := ownsRow_keep O0 hb3
  have M3 := (M1.alloc (.cells #[.int .u8 V] 5)).kept hb3
  have L3 := (L1.alloc (by omega) (.cells #[.int .u8 V] 5)).trans (hb3.mono (by omega))
  have hz3 : w1.heap.size ≤ w3.heap.size := by have := hb3.size; omega
  have HF := Lib.hid (And.intro hF (And.intro hfl (show ∀ ad, F = some ad → w1.heap.size < ad.block from fun ad h => by have := hFo ad h; omega)))
  have HO : Hid (w3.ownsRow w1.heap.size 5 1 (.slice (some ⟨w1.heap.size, 0, none⟩) 1 1) 1 (us (outF m 0)) ∧ Blk w3 w.heap.size 40 (mcells m A n c) ∧ Below w.heap.size w w3 ∧ w1.heap.size ≤ w3.heap.size ∧ Below w3.heap.size w3 w3) := Lib.hid ⟨by rw [show us (outF m 0) = [.int .u8 V] from by rw [HL.out.2.2.1]; simp [outF, us]]; exact O3, M3, L3, hz3, Below.refl _ _⟩
  clear O0 hz2 O3 M3 L3 hz3 hF hFo hfl hb3 M1 L1 x0
  go_wp2_with fail
  go_loopw [5, 32] (fun v i wr => ∃ (j L : Nat) (A' : Option Addr) (c' : Nat), j ≤ k ∧ i = .int .i64 (j : Nat) ∧ v = .slice A' L c' ∧ L ≤ 1 + 8 * j ∧ Hid (wr.ownsRow w1.heap.size 5 1 (.slice A' L c') L (us (outF m j)) ∧ Blk wr w.heap.size 40 (mcells m A n c) ∧ Below w.heap.size w wr ∧ w1.heap.size ≤ wr.heap.size ∧ Reads wr wr.heap.size 2 F k (fcells (fieldsL m.kind)) ∧ ∀ ad q, F = some ad → (Value.slice A' L c').ownBlock = some q → ad.block ≠ q)) (fun _ i _ => k - (intOf i).toNat)
  case atStart => exact ⟨0, 1, _, _, Nat.zero_le _, rfl, rfl, by omega, Lib.hid ⟨HO.out.1, HO.out.2.1, HO.out.2.2.1, HO.out.2.2.2.1, HF.out.1, fun ad q h1 h2 => by have h3 := HF.out.2.2 ad h1; have h4 : some w1.heap.size = some q := h2; injection h4 with h4; omega⟩⟩
  case round =>
    clear HO
    obtain ⟨j, L, A', c', hj, rfl, rfl, hLj, hinv⟩ := hrel
    obtain ⟨wo, rfl⟩ : ∃ wo : World, wo = wr := ⟨_, rfl⟩
    by_cases hlt : j < k
    · obtain ⟨f, hf⟩ : ∃ f, (fieldsL m.kind)[j]? = some f := ⟨_, List.getElem?_eq_getElem (by rw [HF.out.2.1]; exact hlt)⟩
      obtain ⟨x, y, rfl, hx1, hx, hy, _⟩ := fields_fit (List.mem_of_getElem? hf)
      obtain ⟨O, M, Lb, hz, hR, hne⟩ := hinv.out
      obtain ⟨ad, rfl, hblk, hc0, hcj⟩ := Reads.elem (f := fun f : Int × Int => [Value.int .i64 f.1, Value.int .i64 f.2]) (fun _ => rfl) hR hf hlt
      have p0 := hc0 _ rfl
      have p1 := hcj 1 _ (by omega) rfl
      simp only at p0 p1
      have B9 := Blk.new wo 59 #[.int .i64 (x : Int), .int .i64 (y : Int)]
      have M9 := M.alloc (.cells #[.int .i64 (x : Int), .int .i64 (y : Int)] 59)
      have O9 := O.alloc (.cells #[.int .i64 (x : Int), .int .i64 (y : Int)] 59)
      have hb9 := (Below.refl wo.heap.size wo).alloc (Nat.le_refl _) (.cells #[.int .i64 (x : Int), .int .i64 (y : Int)] 59)
      have hk10 : k ≤ 10 := by rw [← HF.out.2.1]; exact fields_len _
      obtain ⟨K, hK⟩ : ∃ K, K = j + 1 := ⟨_, rfl⟩
      have fk : IntKind.i64.wrap ((j : Int) + 1) = (K : Int) := by rw [hK]; exact IntWalk.i64_in _ ⟨by omega, by omega⟩
      have HX := Lib.hid (And.intro hK (And.intro hlt (And.intro hf (And.intro hy (And.intro hk10 (And.intro hLj (And.intro Lb (And.intro hz (And.intro hR (And.intro hb9 hne))))))))))
      have HO9 := Lib.hid O9
      have HinvO := Lib.hid O
      have q9 := ints_get m A n c x hx
      have hx15 : ¬ (15 : Int) ≤ (x : Int) := by omega
      clear hK hf hy hk10 hLj Lb hz hR hb9 hne O M hc0 hcj O9 hinv
      go_wp2_with fail
      have hsz : wo.heap.size + 1 = (wo.alloc (.cells #[.int .i64 (x : Int), .int .i64 (y : Int)] 59)).heap.size := by simp
      generalize wo.alloc (.cells #[.int .i64 (x : Int), .int .i64 (y : Int)] 59) = w9 at *
      clear p0 p1
      refine wp_region_script [(0, true), (1, true), (2, true), (3, true), (4, true), (5, true), (6, true), (7, true), (8, false), (9, false), (10, true)] (fun w' => Blk w' w.heap.size 40 (mcells m A n c) ∧ Blk w' wo.heap.size 59 #[.int .i64 (x : Int), .int .i64 (y : Int)]) (by kernel_rfl) (by kernel_rfl) (fun _ _ _ _ _ h => h) ⟨M9.drew, B9.drew⟩ ?_
      have HMB : Hid (Blk w9.drew w.heap.size 40 (mcells m A n c) ∧ Blk w9.drew wo.heap.size 59 #[.int .i64 (x : Int), .int .i64 (y : Int)] ∧ w9.drew.ownsRow w1.heap.size 5 1 (.slice A' L c') L (us (outF m j)) ∧ wo.heap.size + 1 = w9.drew.heap.size ∧ Below wo.heap.size wo w9.drew) := Lib.hid ⟨M9.drew, B9.drew, HO9.out, hsz, HX.out.2.2.2.2.2.2.2.2.2.1.drew⟩
      clear M9 B9 HO9 hsz
      generalize w9.drew = w10 at *
      repeat (refine script_take (v := ?_) rfl ?_ ?_ ?_; rotate_left; (first | rfl | (go_simp; done)); (rintro w' ⟨u1, u2⟩; (have q0 := u2.cellOf (v := .int .i64 (x : Int)) 0 rfl); (have q1 := u2.cellOf (v := .int .i64 (y : Int)) 1 rfl); (have q2 := u1.cellOf x q9); go_simp; with_reducible rfl); simp only [Act.put, List.setIfInBounds_toArray, List.set_cons_zero, List.set_cons_succ])
      obtain ⟨hK, hlt, hf, hy, hk10, hLj, Lb, hz, hR, hb9, hne⟩ := HX.out
      obtain ⟨M, B, O, hsz, hbd⟩ := HMB.out
      have hown := fun q hq => ownsRow_lt HinvO.out q hq
      (refine script_call 22 ?_ rfl ?_ ?_ ?_; rotate_left; (first | rfl | (go_simp; done)); (go_simp; with_reducible rfl))
      refine (bytes_r (m.ints.getD x 0) y (by omega) w10).mono ?_
      rintro e w2 ⟨v2, rfl, own2, hb2⟩
      obtain ⟨A2, c2, rfl, _, R2⟩ := ownsRow_reads own2
      refine ⟨_, rfl, ⟨M.kept hb2, B.kept hb2⟩, ?_⟩
      simp only [Act.put, List.setIfInBounds_toArray, List.set_cons_zero, List.set_cons_succ]
      have hz2 := hb2.size
      refine script_pushM rfl rfl (.tmp 36) (.tmp 44) 32 rfl styB rfl R2 (us_one _) (v := .slice A' L c') rfl (ownsRow_keep O hb2) (by omega) (by omega) ?_
      intro v7 w7 O7 G7 V7
      have M7 := (M.kept hb2).grown G7 (fun e => by have := hown _ e.symm; omega)
      have B7 := (B.kept hb2).grown G7 (fun e => by have := hown _ e.symm; omega)
      refine ⟨⟨M7, B7⟩, ?_⟩
      simp only [Act.put, List.setIfInBounds_toArray, List.set_cons_zero, List.set_cons_succ]
      (refine script_take (v := ?_) rfl ?_ ?_ ?_; rotate_left; (first | rfl | (go_simp; done)); (intro w' _; go_simp; with_reducible rfl); simp only [Act.put, List.setIfInBounds_toArray, List.set_cons_zero, List.set_cons_succ])
      refine script_nil ?_
      obtain ⟨A7, c7, rfl, _, _⟩ := ownsRow_reads O7
      rw [← us_append, ← outF_step hf] at O7
      have L7 := (Lb.trans ((hbd.trans (hb2.mono (by omega))).mono (by omega))).grown G7 (by omega) (fun q hq => by have := hown q hq; omega)
      have hb2' : Below wo.heap.size wo w2 := hbd.trans (hb2.mono (by omega))
      have hFl : ad.block < wo.heap.size := by obtain ⟨ad', e1, e2, _⟩ := hR.2 (by omega); injection e1 with e1; rw [e1]; exact e2
      have R7 : Reads w7 w7.heap.size 2 (some ad) k (fcells (fieldsL m.kind)) := by
        refine ⟨hR.1, fun h0 => ?_⟩
        obtain ⟨ad', e1, e2, e3⟩ := hR.2 h0
        injection e1 with e1
        subst e1
        refine ⟨ad, rfl, by have := hb2'.size; have := G7.size; omega, fun q u hu => ?_⟩
        have hbk : w7.heap[ad.block]? = wo.heap[ad.block]? := (G7.block ad.block (by have := hb2'.size; omega) (fun e => hne ad ad.block rfl e.symm rfl)).trans (hb2'.block ad.block hFl)
        rw [World.cell?_of_block (w := wo) (by rw [block_of_add]; exact hbk)]
        exact e3 q u hu
      have hne7 : ∀ ad' q, some ad = some ad' → (Value.slice A7 (L + y) c7).ownBlock = some q → ad'.block ≠ q := fun ad' q h1 h2 => by
        injection h1 with h1
        subst h1
        rcases V7 with h | ⟨q', h, hge⟩
        · exact hne ad q rfl (by rw [← h]; exact h2)
        · rw [h] at h2
          injection h2 with h2
          have := hb2'.size
          omega
      have HI7 : Hid (w7.ownsRow w1.heap.size 5 1 (.slice A7 (L + y) c7) (L + y) (us (outF m (j + 1))) ∧ Blk w7 w.heap.size 40 (mcells m A n c) ∧ Below w.heap.size w w7 ∧ w1.heap.size ≤ w7.heap.size ∧ Reads w7 w7.heap.size 2 (some ad) k (fcells (fieldsL m.kind)) ∧ ∀ ad' q, some ad = some ad' → (Value.slice A7 (L + y) c7).ownBlock = some q → ad'.block ≠ q) := Lib.hid ⟨O7, M7, L7, by have := G7.size; omega, R7, hne7⟩
      have HK2 : Hid (K = j + 1 ∧ L + y ≤ 1 + 8 * K ∧ j < k) := Lib.hid ⟨hK, by omega, hlt⟩
      clear O7 M7 L7 R7 hne7 G7 V7 B7 M B O hb2' hFl hb2 own2 R2 hown hsz hbd hz2 HMB HX HinvO hf hR hne hb9 Lb hz hLj hy
      go_wp2_with fail
      clear fk
      go_roundw
      case rel => exact ⟨K, L + y, A7, c7, by have := HK2.out; omega, by first | rfl | (rw [HK2.out.1]; rfl), rfl, HK2.out.2.1, by rw [HK2.out.1]; exact HI7⟩
      case measure => have := HK2.out; simp [intOf]; omega
    · obtain rfl : k = j := by omega
      obtain ⟨O, M, Lb, hz, hR, hne⟩ := hinv.out
      have hk10 : k ≤ 10 := by rw [← HF.out.2.1]; exact fields_len _
      have x0 := M.cellOf (v := .int .i64 m.kind) 0 rfl
      have x15 := M.cellOf (v := .slice A n c) 15 rfl
      rw [← HF.out.2.1] at O
      by_cases h11 : m.kind = 11
      rotate_left
      · have d1 : (m.kind == 11) = false := beq_eq_false_iff_ne.2 h11
        have HE := Lib.hid (renc_end HL.out.2.1 (out_enc HL.out.2.1.known h11) O Lb (by omega))
        clear O M Lb hz hR hne h11 hinv
        go_wp2_with fail
        go_ret2
        exact HE.out
      have d1 : (m.kind == 11) = true := beq_iff_eq.2 h11
      have hn32 := HL.out.2.2.2
      have fn8 : IntKind.u8.wrap (n : Int) = (n : Int) := by unfold IntKind.wrap; simp [IntKind.signed, IntKind.bits]; omega
      have fn9 : (n : Int) % 256 = (n : Int) := by omega
      have HM := Lib.hid (And.intro M (And.intro Lb hz))
      have HOO := Lib.hid O
      have H11 := Lib.hid h11
      clear h11 hR hne hinv M
      go_wp2_with (first | (at_builtin; refine wpList_pushes 1 rfl (.tmp 51) (.tmp 56) 32 rfl styB (cs := #[.int .u8 (n : Int)]) rfl (by intro u hu; simp at hu; subst hu; rfl) (base := w1.heap.size) (v := .slice A' L c') rfl HOO.out rfl rfl (by omega) hz ?_; intro v7 w7 O7 B7; obtain ⟨A7, c7, rfl, _, _⟩ := ownsRow_reads O7; have M7 := HM.out.1.below B7 hz1; have x15 := M7.cellOf (v := .slice A n c) 15 rfl) | fail)
      have HI7 : Hid (w7.ownsRow w1.heap.size 5 1 (.slice A7 (L + 1) c7) (L + 1) (us (outF m (fieldsL m.kind).length ++ [(m.path.length : Int) % 256] ++ ((m.path.take 0).flatMap fun x => be x 6))) ∧ Below w.heap.size w w7 ∧ w1.heap.size ≤ w7.heap.size) := Lib.hid ⟨by
        have e : us (outF m (fieldsL m.kind).length ++ [(m.path.length : Int) % 256] ++ ((m.path.take 0).flatMap fun x => be x 6)) = us (outF m (fieldsL m.kind).length) ++ [.int .u8 (n : Int)] := by
          rw [HL.out.1, fn9]; simp [us]
        rw [e]; exact O7, HM.out.2.1.trans (B7.mono (by omega)), Nat.le_trans hz B7.size⟩
      have hL81 : L ≤ 81 := by omega
      have HL81 := Lib.hid hL81
      clear O7 B7 M7 HM HOO O Lb fn8 fn9 x0 x15 hz hL81 hLj
      go_loopw [5, 61] (fun v i wr => ∃ (q L2 : Nat) (A2 : Option Addr) (c2 : Nat), q ≤ n ∧ i = .int .i64 (q : Nat) ∧ v = .slice A2 L2 c2 ∧ L2 ≤ 82 + 6 * q ∧ Hid (wr.ownsRow w1.heap.size 5 1 (.slice A2 L2 c2) L2 (us (outF m (fieldsL m.kind).length ++ [(m.path.length : Int) % 256] ++ ((m.path.take q).flatMap fun x => be x 6))) ∧ Below w.heap.size w wr ∧ w1.heap.size ≤ wr.heap.size)) (fun _ i _ => n - (intOf i).toNat)
      case atStart => exact ⟨0, L + 1, A7, c7, Nat.zero_le _, rfl, rfl, by have := HL81.out; omega, HI7⟩
      case round =>
        clear HI7
        obtain ⟨q, L2, A2, c2, hq, rfl, rfl, hL2, hinv⟩ := hrel
        obtain ⟨w8, rfl⟩ : ∃ w8 : World, w8 = wr := ⟨_, rfl⟩
        obtain ⟨O, Lb, hz⟩ := hinv.out
        by_cases hlq : q < n
        · obtain ⟨y, hy⟩ := getElem?_some_of_lt HL.out.1 hlq
          obtain ⟨ad, rfl, hblk, hcell⟩ := (HRd.out.below Lb).2 (by omega)
          have p0 := hcell q (.int .i64 y) (by unfold vs; rw [List.getElem?_map, hy]; rfl)
          obtain ⟨Q, hQ⟩ : ∃ Q, Q = q + 1 := ⟨_, rfl⟩
          have fq : IntKind.i64.wrap ((q : Int) + 1) = (Q : Int) := by rw [hQ]; exact IntWalk.i64_in _ ⟨by omega, by omega⟩
          have HQ := Lib.hid (And.intro hQ (And.intro hlq (And.intro hy (And.intro hL2 (And.intro O (And.intro Lb hz))))))
          have hB := bytes_r y 6 (by omega) w8
          rw [show ((6 : Nat) : Int) = 6 from rfl] at hB
          have HB := Lib.hid hB
          clear hQ hcell hy hL2 O Lb hz hinv hB hblk
          go_wp2_with fail
          refine HB.out.mono ?_
          rintro e w9 ⟨v9, rfl, own9, hb9⟩
          obtain ⟨A9, c9, rfl, _, R9⟩ := ownsRow_reads own9
          have hL2 := HQ.out.2.2.2.1
          have hz9 := hb9.size
          have hz8 := HQ.out.2.2.2.2.2.2
          have O9 := ownsRow_keep HQ.out.2.2.2.2.1 hb9
          clear p0 HB own9
          go_wp2_with (at_builtin; refine wpList_pushR rfl (.tmp 65) (.tmp 67) 32 rfl styB rfl R9 (us_one _) (v := .slice A2 L2 c2) rfl O9 (by omega) (by omega) ?_; intro v10 w10 O10 G10)
          obtain ⟨A10, c10, rfl, _, _⟩ := ownsRow_reads O10
          have HI10 : Hid (w10.ownsRow w1.heap.size 5 1 (.slice A10 (L2 + 6) c10) (L2 + 6) (us (outF m (fieldsL m.kind).length ++ [(m.path.length : Int) % 256] ++ ((m.path.take Q).flatMap fun x => be x 6))) ∧ Below w.heap.size w w10 ∧ w1.heap.size ≤ w10.heap.size ∧ L2 + 6 ≤ 82 + 6 * Q) := Lib.hid (by
            obtain ⟨hQ, hlq, hy, hL2, O, Lb, hz⟩ := HQ.out
            refine ⟨?_, (Lb.trans (hb9.mono (by omega))).grown G10 (by omega) (fun k hk => by have := (ownsRow_lt O9 k hk).1; omega), by have := G10.size; omega, by omega⟩
            rw [hQ, take_get hy, List.flatMap_append, ← List.append_assoc, us_append]
            simp only [List.flatMap_cons, List.flatMap_nil, List.append_nil]
            exact O10)
          have HK2 : Hid (Q = q + 1 ∧ q < n) := Lib.hid ⟨HQ.out.1, hlq⟩
          clear O10 G10 O9 R9 hb9 hz9 hz8 hL2 HQ
          go_wp2_with fail
          clear fq
          go_roundw
          case rel => exact ⟨Q, L2 + 6, A10, c10, by have := HK2.out; omega, by first | rfl | (rw [HK2.out.1]; rfl), rfl, HI10.out.2.2.2, Lib.hid ⟨HI10.out.1, HI10.out.2.1, HI10.out.2.2.1⟩⟩
          case measure => have := HK2.out; simp [intOf]; omega
        · obtain rfl : q = n := by omega
          rw [List.take_of_length_le (by rw [HL.out.1]; exact Nat.le_refl _)] at O
          have HE := Lib.hid (renc_end HL.out.2.1 (out_enc11 H11.out) O Lb (by omega))
          clear O Lb hz hinv
          go_wp2_with fail
          go_ret2
          exact HE.out
theorem renc_any (m : Mg) (A : Option Addr) (n c : Nat) (w : World) (hr : Reads w w.heap.size 1 A n (vs m.path)) (hl : m.path.length = n) (hn : n ≤ 100000) :
    Calls Try.prog 14 #[.agg (mcells m A n c)] w (REnc m w) := by
  by_cases h : checkV m = 0
  · exact renc_right m A n c w hr hl (check_zero.1 h)
  · exact renc_bad m A n c w hr hl hn h
end Go.Proofs.Ytlhaloabophliaa
