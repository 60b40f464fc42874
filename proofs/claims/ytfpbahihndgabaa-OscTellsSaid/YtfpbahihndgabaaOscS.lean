/-
  Layer 7: the reference: what a clock of its kind tells and marks, and what it is refused for.
-/
import Derived.Test.YtfpbahihndgabaaOscR
namespace Go.Proofs.Ytfpbahihndgabaa
set_option linter.unusedSimpArgs false
set_option linter.unusedVariables false
open Go.RowKit

theorem run_zero (r : Int) (hr : 2181843386368 ≤ r ∧ r ≤ 2216203124736) : runV 0 r = 0 := by rw [run_val (by omega) (by omega) hr]; simp
theorem pc_here {n : Nat} {tA tR : Nat → Int} (hT : Turns n tA tR) {at_ : Int} {k : Nat} (hk : k < n) (h : tA k ≤ at_) (h2 : k + 1 < n → at_ < tA (k + 1)) : pcV tA at_ n = k :=
  pcV_is hk h (fun i hi hn => by have h3 := hT.mono (i := k + 1) (j := i) (by omega) hn; have h4 := h2 (by omega); omega)
theorem tell_here {n : Nat} {tA tR bs : Nat → Int} (hT : Turns n tA tR) {at_ : Int} {k : Nat} (hk : k < n) (h : tA k ≤ at_) (h2 : k + 1 < n → at_ < tA (k + 1)) : tellV n tA tR bs at_ = bs k + runV (at_ - tA k) (tR k) := by
  unfold tellV
  rw [pc_here hT hk h h2]
theorem tell_next {S : Int} {n : Nat} {tA tR bs : Nat → Int} (hT : Turns n tA tR) (hB : Bases S n tA tR bs) {at_ : Int} {k : Nat} (hk : k + 1 < n) (h : tA (k + 1) = at_) : tellV n tA tR bs at_ = bs k + runV (tA (k + 1) - tA k) (tR k) := by
  rw [tell_here hT hk (by omega) (fun h2 => by have := hT.rise (k + 1) h2; omega), ← hB.next k hk, h, Int.sub_self, run_zero _ (hT.rate _ hk), Int.add_zero]
set_option maxRecDepth 100000 in
set_option maxHeartbeats 4000000 in
theorem refTell_any (S gr at_ : Int) (g1 g2 n c1 c2 : Nat) (tA tR bs : Nat → Int) (w : World) (I1 : Ints w g1 n tA) (I2 : Ints w g2 n tR) (k1 : n ≤ c1) (k2 : n ≤ c2) (hT : Turns n tA tR) (hB : Bases S n tA tR bs) (h0 : 0 ≤ at_) (h1 : at_ ≤ 1099511627776) :
    Calls Try.prog 17 #[ccv S gr g1 n c1 g2 c2, .int .i64 at_] w fun e w' => e = .returned (.int .i64 (tellV n tA tR bs at_)) ∧ Below w.heap.size w w' := by
  unfold ccv
  have HI := Lib.hid (And.intro I1 I2)
  have HT := Lib.hid (And.intro hT hB)
  have s1 := I1.lt
  have s2 := I2.lt
  have hn64 := hT.most
  have H0 := Lib.hid (And.intro h0 h1)
  have hp0 := hT.pos
  have HS0 := Lib.hid hB.start
  have HA0 := Lib.hid hT.first
  clear I1 I2 hT hB h0 h1
  go_enter Try.func17, Try.ntmps17
  go_wp2_with fail
  have B0 := Blk.new w 43 #[.int .i64 S, .int .i64 gr, .slice (some ⟨g1, 0, none⟩) n c1, .slice (some ⟨g2, 0, none⟩) n c2]
  have L0 := (Below.refl w.heap.size w).alloc (Nat.le_refl _) (.cells #[.int .i64 S, .int .i64 gr, .slice (some ⟨g1, 0, none⟩) n c1, .slice (some ⟨g2, 0, none⟩) n c2] 43)
  have I1 := HI.out.1.below L0
  have I2 := HI.out.2.below L0
  generalize w.alloc (.cells #[.int .i64 S, .int .i64 gr, .slice (some ⟨g1, 0, none⟩) n c1, .slice (some ⟨g2, 0, none⟩) n c2] 43) = w1 at *
  have HB1 := Lib.hid B0
  have HII := Lib.hid (And.intro I1 I2)
  have HL := Lib.hid L0
  clear B0 L0 I1 I2 HI
  have HR1 := Lib.hid (Below.refl w1.heap.size w1)
  go_loopw [5, 13] (fun x i wr => ∃ k : Nat, i = .int .i64 (k : Nat) ∧ k < n ∧ x = .int .i64 (bs k) ∧ Hid (tA k ≤ at_) ∧ Below w1.heap.size w1 wr) (fun _ i _ => n - (intOf i).toNat)
  case atStart => exact ⟨0, rfl, hp0, by rw [HS0.out], Lib.hid (by rw [HA0.out]; exact H0.out.1), HR1.out⟩
  case round =>
    obtain ⟨k, rfl, hlt, rfl, hle, hb⟩ := hrel
    have x1 := (HII.out.1.below hb).at_ k hlt
    have x2 := (HII.out.2.below hb).at_ k hlt
    have y2 := (HB1.out.below hb HB1.out.lt).cellOf (v := .slice (some ⟨g1, 0, none⟩) n c1) 2 rfl
    have y3 := (HB1.out.below hb HB1.out.lt).cellOf (v := .slice (some ⟨g2, 0, none⟩) n c2) 3 rfl
    have q0 := (HB1.out.below hb HB1.out.lt).lt
    have q1 := (HII.out.1.below hb).lt
    have q2 := (HII.out.2.below hb).lt
    obtain ⟨K, hK⟩ : ∃ K, K = k + 1 := ⟨_, rfl⟩
    have fk : IntKind.i64.wrap ((k : Int) + 1) = (K : Int) := by rw [hK]; exact IntWalk.i64_in _ ⟨by omega, by omega⟩
    have HK := Lib.hid hK
    have HBR := Lib.hid hb
    have hlb := base_lim HT.out.1 HT.out.2 hlt
    have hlow := HT.out.1.low hlt
    have hlate := HT.out.1.late k hlt
    have hrate := HT.out.1.rate k hlt
    have hSS := And.intro HT.out.2.low HT.out.2.high
    have h00 := H0.out
    clear hb
    by_cases hkn : k + 1 < n
    · have dkn : (K : Int) < (n : Int) := by omega
      have dkN : K < n := by omega
      have x3 := (HII.out.1.below HBR.out).at_ K (by omega)
      have hrise : tA k < tA K := by rw [hK]; exact HT.out.1.rise k hkn
      have hlate3 := HT.out.1.late K (by omega)
      by_cases hle2 : tA K ≤ at_
      · obtain ⟨d, hd⟩ : ∃ d, d = tA K - tA k := ⟨_, rfl⟩
        have hrun := fun W => refRun_any d (tR k) (by have := hle.out; unfold I64; omega) (by unfold I64; omega) W
        have hrl := run_lim (ns := d) (r := tR k) (by have := hle.out; omega) (by have := hle.out; omega) hrate
        have f1 : IntKind.i64.wrap (tA K - tA k) = d := by rw [← hd]; exact IntWalk.i64_in _ ⟨by have := hle.out; omega, by have := hle.out; omega⟩
        have HRUN := Lib.hid hrun
        clear hrun
        have hnext : bs K = bs k + runV d (tR k) := by rw [hd, hK]; exact HT.out.2.next k hkn
        have f2 : IntKind.i64.wrap (bs k + runV d (tR k)) = bs K := by rw [← hnext]; exact IntWalk.i64_in _ ⟨by omega, by omega⟩
        have HN := Lib.hid hnext
        have HKN := Lib.hid hkn
        have HLE := Lib.hid hle2
        have HD := Lib.hid hd
        by_cases heq : tA K = at_
        · have HE : Hid (bs K = tellV n tA tR bs at_) := Lib.hid (by rw [tell_next HT.out.1 HT.out.2 hkn (by rw [← hK]; exact heq), ← hK, ← hd]; exact hnext)
          subst heq
          clear hlb hlow hlate hrate hSS h00 hkn hle2 hd hnext hK hrise hlate3 HLE hp0
          go_wp2_with fail
          refine wp_region_class (fun w' => Below wr.heap.size wr w') (by kernel_rfl) (by kernel_rfl) (Below.refl _ _).drew ?_
          repeat (first | (with_reducible (refine wpQuiet_skip ?_ ?_); (first | exact wanted_off rfl rfl rfl rfl | exact wanted_off2 rfl rfl rfl); simp only [Act.put, List.setIfInBounds_toArray, List.set_cons_zero, List.set_cons_succ]) | (with_reducible (refine wpQuiet_val (v := ?_) ?_ ?_ ?_); rotate_left; (first | exact wanted_none rfl | exact wanted_on rfl rfl rfl); (intro w' hw'; obtain ⟨hc, hf⟩ := bcell hw'; go_simp; with_reducible rfl); simp only [Act.put, List.setIfInBounds_toArray, List.set_cons_zero, List.set_cons_succ]) | (with_reducible (refine wpQuiet_call (v := ?_) 28 ?_ ?_ ?_ ?_ ?_); rotate_left 2; (first | exact wanted_none rfl | exact wanted_on rfl rfl rfl); (intro w' hw'; obtain ⟨hc, hf⟩ := bcell hw'; go_simp; with_reducible rfl); (intro w' hw'; (with_reducible refine (HRUN.out _).mono ?_); rintro e w2 ⟨rfl, hb⟩; refine ⟨?_, hw'.trans (hb.mono (by have h0 := hw'.size; first | omega | (simp at h0; omega)))⟩; with_reducible rfl); simp only [Act.put, List.setIfInBounds_toArray, List.set_cons_zero, List.set_cons_succ]))
          refine wpQuiet_nil ?_
          intro w4 hw4
          have hw := HL.out.trans ((HBR.out.trans (hw4.mono HBR.out.size)).mono HL.out.size)
          clear x1 x2 x3 y2 y3 hw4 HRUN q0 q1 q2
          go_wp2_with fail
          rw [HE.out]
          go_ret
          exact ⟨rfl, hw⟩
        · have deq : (tA K == at_) = false := beq_eq_false_iff_ne.2 heq
          have hKlt : K < n := by omega
          have hm : n - K < n - k := by omega
          have HM := Lib.hid (And.intro hKlt hm)
          clear hlb hlow hlate hrate hSS h00 hkn hd hnext hK hrise hlate3 heq hp0 hKlt hm
          go_wp2_with fail
          refine wp_region_class (fun w' => Below wr.heap.size wr w') (by kernel_rfl) (by kernel_rfl) (Below.refl _ _).drew ?_
          repeat (first | (with_reducible (refine wpQuiet_skip ?_ ?_); (first | exact wanted_off rfl rfl rfl rfl | exact wanted_off2 rfl rfl rfl); simp only [Act.put, List.setIfInBounds_toArray, List.set_cons_zero, List.set_cons_succ]) | (with_reducible (refine wpQuiet_val (v := ?_) ?_ ?_ ?_); rotate_left; (first | exact wanted_none rfl | exact wanted_on rfl rfl rfl); (intro w' hw'; obtain ⟨hc, hf⟩ := bcell hw'; go_simp; with_reducible rfl); simp only [Act.put, List.setIfInBounds_toArray, List.set_cons_zero, List.set_cons_succ]) | (with_reducible (refine wpQuiet_call (v := ?_) 28 ?_ ?_ ?_ ?_ ?_); rotate_left 2; (first | exact wanted_none rfl | exact wanted_on rfl rfl rfl); (intro w' hw'; obtain ⟨hc, hf⟩ := bcell hw'; go_simp; with_reducible rfl); (intro w' hw'; (with_reducible refine (HRUN.out _).mono ?_); rintro e w2 ⟨rfl, hb⟩; refine ⟨?_, hw'.trans (hb.mono (by have h0 := hw'.size; first | omega | (simp at h0; omega)))⟩; with_reducible rfl); simp only [Act.put, List.setIfInBounds_toArray, List.set_cons_zero, List.set_cons_succ]))
          refine wpQuiet_nil ?_
          intro w4 hw4
          have hw := HBR.out.trans (hw4.mono HBR.out.size)
          clear x1 x2 x3 y2 y3 hw4 HRUN q0 q1 q2
          go_wp2_with fail
          go_roundw
          case rel => exact ⟨K, rfl, HM.out.1, rfl, HLE, hw⟩
          case measure => show n - ((K : Nat) : Int).toNat < n - ((k : Nat) : Int).toNat; rw [Int.toNat_natCast, Int.toNat_natCast]; exact HM.out.2
      · have dle : decide (tA K ≤ at_) = false := decide_eq_false hle2
        have hT2 : k + 1 < n → at_ < tA (k + 1) := fun _ => by rw [← hK]; omega
        clear hrise hlate3 hle2
        obtain ⟨d, hd⟩ : ∃ d, d = at_ - tA k := ⟨_, rfl⟩
        have hrun := fun W => refRun_any d (tR k) (by have := hle.out; unfold I64; omega) (by unfold I64; omega) W
        have hrl := run_lim (ns := d) (r := tR k) (by have := hle.out; omega) (by have := hle.out; omega) hrate
        have f1 : IntKind.i64.wrap (at_ - tA k) = d := by rw [← hd]; exact IntWalk.i64_in _ ⟨by have := hle.out; omega, by have := hle.out; omega⟩
        have HRUN := Lib.hid hrun
        clear hrun
        have hv : tellV n tA tR bs at_ = bs k + runV d (tR k) := by rw [hd]; exact tell_here HT.out.1 hlt hle.out hT2
        have HV := Lib.hid hv
        have f2 : IntKind.i64.wrap (bs k + runV d (tR k)) = bs k + runV d (tR k) := IntWalk.i64_in _ ⟨by omega, by omega⟩
        clear hlb hlow hlate hrate hSS h00 hkn hd hv hT2 hK hp0
        go_wp2_with fail
        refine wp_region_class (fun w' => Below wr.heap.size wr w') (by kernel_rfl) (by kernel_rfl) (Below.refl _ _).drew ?_
        repeat (first | (with_reducible (refine wpQuiet_skip ?_ ?_); (first | exact wanted_off rfl rfl rfl rfl | exact wanted_off2 rfl rfl rfl); simp only [Act.put, List.setIfInBounds_toArray, List.set_cons_zero, List.set_cons_succ]) | (with_reducible (refine wpQuiet_val (v := ?_) ?_ ?_ ?_); rotate_left; (first | exact wanted_none rfl | exact wanted_on rfl rfl rfl); (intro w' hw'; obtain ⟨hc, hf⟩ := bcell hw'; go_simp; with_reducible rfl); simp only [Act.put, List.setIfInBounds_toArray, List.set_cons_zero, List.set_cons_succ]) | (with_reducible (refine wpQuiet_call (v := ?_) 28 ?_ ?_ ?_ ?_ ?_); rotate_left 2; (first | exact wanted_none rfl | exact wanted_on rfl rfl rfl); (intro w' hw'; obtain ⟨hc, hf⟩ := bcell hw'; go_simp; with_reducible rfl); (intro w' hw'; (with_reducible refine (HRUN.out _).mono ?_); rintro e w2 ⟨rfl, hb⟩; refine ⟨?_, hw'.trans (hb.mono (by have h0 := hw'.size; first | omega | (simp at h0; omega)))⟩; with_reducible rfl); simp only [Act.put, List.setIfInBounds_toArray, List.set_cons_zero, List.set_cons_succ]))
        refine wpQuiet_nil ?_
        intro w4 hw4
        have hw := HL.out.trans ((HBR.out.trans (hw4.mono HBR.out.size)).mono HL.out.size)
        clear x1 x2 y2 y3 hw4 HRUN q0 q1 q2
        go_wp2_with fail
        rw [HV.out]
        go_ret
        exact ⟨rfl, hw⟩
    · have dkn : decide (K < n) = false := decide_eq_false (by omega)
      have hT2 : k + 1 < n → at_ < tA (k + 1) := fun h => absurd h hkn
      obtain ⟨d, hd⟩ : ∃ d, d = at_ - tA k := ⟨_, rfl⟩
      have hrun := fun W => refRun_any d (tR k) (by have := hle.out; unfold I64; omega) (by unfold I64; omega) W
      have hrl := run_lim (ns := d) (r := tR k) (by have := hle.out; omega) (by have := hle.out; omega) hrate
      have f1 : IntKind.i64.wrap (at_ - tA k) = d := by rw [← hd]; exact IntWalk.i64_in _ ⟨by have := hle.out; omega, by have := hle.out; omega⟩
      have HRUN := Lib.hid hrun
      clear hrun
      have hv : tellV n tA tR bs at_ = bs k + runV d (tR k) := by rw [hd]; exact tell_here HT.out.1 hlt hle.out hT2
      have HV := Lib.hid hv
      have f2 : IntKind.i64.wrap (bs k + runV d (tR k)) = bs k + runV d (tR k) := IntWalk.i64_in _ ⟨by omega, by omega⟩
      clear hlb hlow hlate hrate hSS h00 hkn hd hv hT2 hK hp0
      go_wp2_with fail
      refine wp_region_class (fun w' => Below wr.heap.size wr w') (by kernel_rfl) (by kernel_rfl) (Below.refl _ _).drew ?_
      repeat (first | (with_reducible (refine wpQuiet_skip ?_ ?_); (first | exact wanted_off rfl rfl rfl rfl | exact wanted_off2 rfl rfl rfl); simp only [Act.put, List.setIfInBounds_toArray, List.set_cons_zero, List.set_cons_succ]) | (with_reducible (refine wpQuiet_val (v := ?_) ?_ ?_ ?_); rotate_left; (first | exact wanted_none rfl | exact wanted_on rfl rfl rfl); (intro w' hw'; obtain ⟨hc, hf⟩ := bcell hw'; go_simp; with_reducible rfl); simp only [Act.put, List.setIfInBounds_toArray, List.set_cons_zero, List.set_cons_succ]) | (with_reducible (refine wpQuiet_call (v := ?_) 28 ?_ ?_ ?_ ?_ ?_); rotate_left 2; (first | exact wanted_none rfl | exact wanted_on rfl rfl rfl); (intro w' hw'; obtain ⟨hc, hf⟩ := bcell hw'; go_simp; with_reducible rfl); (intro w' hw'; (with_reducible refine (HRUN.out _).mono ?_); rintro e w2 ⟨rfl, hb⟩; refine ⟨?_, hw'.trans (hb.mono (by have h0 := hw'.size; first | omega | (simp at h0; omega)))⟩; with_reducible rfl); simp only [Act.put, List.setIfInBounds_toArray, List.set_cons_zero, List.set_cons_succ]))
      refine wpQuiet_nil ?_
      intro w4 hw4
      have hw := HL.out.trans ((HBR.out.trans (hw4.mono HBR.out.size)).mono HL.out.size)
      clear x1 x2 y2 y3 hw4 HRUN q0 q1 q2
      go_wp2_with fail
      rw [HV.out]
      go_ret
      exact ⟨rfl, hw⟩

theorem refMark_any (S gr at_ : Int) (g1 g2 n c1 c2 : Nat) (tA tR bs : Nat → Int) (w : World) (I1 : Ints w g1 n tA) (I2 : Ints w g2 n tR) (k1 : n ≤ c1) (k2 : n ≤ c2) (hT : Turns n tA tR) (hB : Bases S n tA tR bs) (h0 : 0 ≤ at_) (h1 : at_ ≤ 1099511627776) (hg1 : 1 ≤ gr) (hg2 : gr ≤ 1000) :
    Calls Try.prog 18 #[ccv S gr g1 n c1 g2 c2, .int .i64 at_] w fun e w' => e = .returned (.int .i64 (markV n tA tR bs gr at_)) ∧ Below w.heap.size w w' := by
  have HTE : Hid (∀ W, Below w.heap.size w W → Calls Try.prog 17 #[ccv S gr g1 n c1 g2 c2, .int .i64 at_] W fun e w' => e = .returned (.int .i64 (tellV n tA tR bs at_)) ∧ Below W.heap.size W w') :=
    Lib.hid fun W hW => refTell_any S gr at_ g1 g2 n c1 c2 tA tR bs W (I1.below hW) (I2.below hW) k1 k2 hT hB h0 h1
  have hl := tell_lim hT hB h0 h1
  have hl1 := hB.low
  have hl2 := hB.high
  unfold markV
  generalize tellV n tA tR bs at_ = V at *
  have HG := Lib.hid (fun W => refGrain_any V gr (by omega) (by omega) hg1 hg2 W)
  generalize V - V % (gr * 65536) = U at *
  unfold ccv at HTE ⊢
  clear hT hB h0 h1 hl hl1 hl2 I1 I2 hg1 hg2
  go_enter Try.func18, Try.ntmps18
  go_wp2_with fail
  have B0 := Blk.new w 43 #[.int .i64 S, .int .i64 gr, .slice (some ⟨g1, 0, none⟩) n c1, .slice (some ⟨g2, 0, none⟩) n c2]
  have L0 := (Below.refl w.heap.size w).alloc (Nat.le_refl _) (.cells #[.int .i64 S, .int .i64 gr, .slice (some ⟨g1, 0, none⟩) n c1, .slice (some ⟨g2, 0, none⟩) n c2] 43)
  generalize w.alloc (.cells #[.int .i64 S, .int .i64 gr, .slice (some ⟨g1, 0, none⟩) n c1, .slice (some ⟨g2, 0, none⟩) n c2] 43) = w1 at *
  have y1 := B0.cellOf (v := .int .i64 gr) 1 rfl
  have q0 := B0.lt
  have HL := Lib.hid L0
  have HB0 := Lib.hid B0
  clear B0 L0
  refine wp_region_class (fun w' => Below w1.heap.size w1 w') (by kernel_rfl) (by kernel_rfl) (Below.refl _ _).drew ?_
  repeat (first | (with_reducible (refine wpQuiet_skip ?_ ?_); (first | exact wanted_off rfl rfl rfl rfl | exact wanted_off2 rfl rfl rfl); simp only [Act.put, List.setIfInBounds_toArray, List.set_cons_zero, List.set_cons_succ]) | (refine wpQuiet_val (v := .agg (#[.int .i64 S, .int .i64 gr, .slice (some ⟨g1, 0, none⟩) n c1, .slice (some ⟨g2, 0, none⟩) n c2])) ?_ (fun w' hw' => run_load_whole_d 43 (.tmp 2) rfl rfl (HB0.out.below hw' q0) Try.underlying43 rfl (by kernel_rfl)) ?_; (first | exact wanted_none rfl | exact wanted_on rfl rfl rfl); simp only [Act.put, List.setIfInBounds_toArray, List.set_cons_zero, List.set_cons_succ]) | (with_reducible (refine wpQuiet_val (v := ?_) ?_ ?_ ?_); rotate_left; (first | exact wanted_none rfl | exact wanted_on rfl rfl rfl); (intro w' hw'; obtain ⟨hc, hf⟩ := bcell hw'; go_simp; with_reducible rfl); simp only [Act.put, List.setIfInBounds_toArray, List.set_cons_zero, List.set_cons_succ]) | (with_reducible (refine wpQuiet_call (v := ?_) 17 ?_ ?_ ?_ ?_ ?_); rotate_left 2; (first | exact wanted_none rfl | exact wanted_on rfl rfl rfl); (intro w' hw'; obtain ⟨hc, hf⟩ := bcell hw'; go_simp; with_reducible rfl); (intro w' hw'; (with_reducible refine (HTE.out _ (HL.out.trans (hw'.mono HL.out.size))).mono ?_); rintro e w2 ⟨rfl, hb⟩; refine ⟨?_, hw'.trans (hb.mono (by have h0 := hw'.size; first | omega | (simp at h0; omega)))⟩; with_reducible rfl); simp only [Act.put, List.setIfInBounds_toArray, List.set_cons_zero, List.set_cons_succ]) | (with_reducible (refine wpQuiet_call (v := ?_) 29 ?_ ?_ ?_ ?_ ?_); rotate_left 2; (first | exact wanted_none rfl | exact wanted_on rfl rfl rfl); (intro w' hw'; obtain ⟨hc, hf⟩ := bcell hw'; go_simp; with_reducible rfl); (intro w' hw'; (with_reducible refine (HG.out _).mono ?_); rintro e w2 ⟨rfl, hb⟩; refine ⟨?_, hw'.trans (hb.mono (by have h0 := hw'.size; first | omega | (simp at h0; omega)))⟩; with_reducible rfl); simp only [Act.put, List.setIfInBounds_toArray, List.set_cons_zero, List.set_cons_succ]))
  refine wpQuiet_nil ?_
  intro w4 hw4
  have hw := HL.out.trans (hw4.mono HL.out.size)
  clear y1 q0 hw4
  go_wp2_with fail
  go_ret
  exact ⟨rfl, hw⟩
end Go.Proofs.Ytfpbahihndgabaa
