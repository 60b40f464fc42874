/-
  Layer 7: a clock that is made: the walk.
-/
import Derived.Test.YtfpbahihndgabaaOscN
namespace Go.Proofs.Ytfpbahihndgabaa
set_option linter.unusedSimpArgs false
set_option linter.unusedVariables false
open Go.RowKit

def NewPB (w : World) (E : Int) (n : Nat) (tA tR bs : Nat → Int) (gr : Int) (e : Ending) (w' : World) : Prop :=
  (E ≠ 0 ∧ e = .returned (.tuple #[.pointer none, .int .i64 E]) ∨ E = 0 ∧ ∃ g, e = .returned (.tuple #[.pointer (some ⟨g, 0, none⟩), .int .i64 0]) ∧ w.heap.size ≤ g ∧ ClkB (w.heap.size + 1) w' g n tA tR bs gr) ∧ Below w.heap.size w w'
set_option maxRecDepth 100000 in
set_option maxHeartbeats 4000000 in
theorem new_anyB (S gr : Int) (A : Option Addr) (n c : Nat) (tA tR : Nat → Int) (w : World) (hT : TIn w A n tA tR) :
    Calls Try.prog 9 #[.int .i64 S, .int .i64 gr, .slice A n c] w (NewPB w (newE S gr n tA tR) n tA tR (baseV S tA tR) gr) := by
  by_cases hn : 64 < n
  · have e : newE S gr n tA tR = 4 := if_pos hn
    rw [e]
    have d1 : (64 : Int) < (n : Int) := by omega
    clear e hT hn
    go_enter Try.func9, Try.ntmps9
    go_wp2_with fail
    go_ret2
    exact ⟨.inl ⟨by decide, rfl⟩, Below.refl _ _⟩
  have d1 : decide ((64 : Int) < (n : Int)) = false := by simp; omega
  by_cases hbad : n = 0 ∨ tA 0 ≠ 0 ∨ gr < 1 ∨ 1000 < gr ∨ S < -1152921504606846976 ∨ 1152921504606846976 < S
  · have e : newE S gr n tA tR = 1 := by rw [newE, if_neg hn, if_pos hbad]
    rw [e]
    clear e
    by_cases h0 : n = 0
    · subst h0
      clear hT hn d1
      go_enter Try.func9, Try.ntmps9
      go_wp2_with fail
      go_ret2
      exact ⟨.inl ⟨by decide, rfl⟩, Below.refl _ _⟩
    have d2 : ((n : Int) == 0) = false := beq_eq_false_iff_ne.2 (by omega)
    obtain ⟨ad, rfl, _, hcl⟩ := hT (by omega)
    have c0 := hcl 0 (by omega) 0 (.int .i64 (tA 0)) rfl
    have ez : (ad.add (0 * 2)).add 0 = ad := by cases ad; simp [Addr.add]
    rw [ez] at c0
    have dn : 0 < n := by omega
    clear hcl hT ez
    generalize tA 0 = a0 at *
    by_cases h1 : a0 ≠ 0
    · have d3 : (a0 != 0) = true := bne_iff_ne.2 h1
      clear hn hbad h0 h1
      go_enter Try.func9, Try.ntmps9
      go_wp2_with fail
      go_ret2
      exact ⟨.inl ⟨by decide, rfl⟩, Below.refl _ _⟩
    obtain rfl : a0 = 0 := Decidable.not_not.1 h1
    by_cases h2 : gr < 1
    · clear hn hbad h0 h1
      go_enter Try.func9, Try.ntmps9
      go_wp2_with fail
      go_ret2
      exact ⟨.inl ⟨by decide, rfl⟩, Below.refl _ _⟩
    have d4 : decide (gr < 1) = false := decide_eq_false h2
    by_cases h3 : 1000 < gr
    · clear hn hbad h0 h1 h2
      go_enter Try.func9, Try.ntmps9
      go_wp2_with fail
      go_ret2
      exact ⟨.inl ⟨by decide, rfl⟩, Below.refl _ _⟩
    have d5 : decide (1000 < gr) = false := decide_eq_false h3
    by_cases h4 : S < -1152921504606846976
    · clear hn hbad h0 h1 h2 h3
      go_enter Try.func9, Try.ntmps9
      go_wp2_with fail
      go_ret2
      exact ⟨.inl ⟨by decide, rfl⟩, Below.refl _ _⟩
    have d6 : decide (S < -1152921504606846976) = false := decide_eq_false h4
    have h5 : 1152921504606846976 < S := by omega
    clear hn hbad h0 h1 h2 h3 h4
    go_enter Try.func9, Try.ntmps9
    go_wp2_with fail
    go_ret2
    exact ⟨.inl ⟨by decide, rfl⟩, Below.refl _ _⟩
  · have e : newE S gr n tA tR = scanE tA tR n := by rw [newE, if_neg hn, if_neg hbad]
    rw [e]
    obtain ⟨E, hE⟩ : ∃ E, E = scanE tA tR n := ⟨_, rfl⟩
    rw [← hE]
    have hn0 : 0 < n := by omega
    have hn64 : n ≤ 64 := by omega
    have ht0 : tA 0 = 0 := by omega
    have d2 : ((n : Int) == 0) = false := beq_eq_false_iff_ne.2 (by omega)
    have d4 : decide (gr < 1) = false := decide_eq_false (by omega)
    have d5 : decide (1000 < gr) = false := decide_eq_false (by omega)
    have d6 : decide (S < -1152921504606846976) = false := decide_eq_false (by omega)
    have d7 : decide (1152921504606846976 < S) = false := decide_eq_false (by omega)
    have hS : Hid (-1152921504606846976 ≤ S ∧ S ≤ 1152921504606846976) := Lib.hid ⟨by omega, by omega⟩
    have HT := Lib.hid hT
    have HE := Lib.hid hE
    obtain ⟨ad, rfl, _, hcl⟩ := hT (by omega)
    have c0 := hcl 0 (by omega) 0 (.int .i64 0) (by rw [← ht0]; rfl)
    have ez : (ad.add (0 * 2)).add 0 = ad := by cases ad; simp [Addr.add]
    rw [ez] at c0
    have HT0 := Lib.hid ht0
    clear e hE hbad hn hT hcl ez ht0
    go_enter Try.func9, Try.ntmps9
    go_wp2_with fail
    have B0 := Blk.new w 52 #[.slice none 0 0, .slice none 0 0, .int .i64 gr]
    have L0 := (Below.refl w.heap.size w).alloc (Nat.le_refl _) (.cells #[.slice none 0 0, .slice none 0 0, .int .i64 gr] 52)
    have Z0 : w.heap.size < (w.alloc (.cells #[.slice none 0 0, .slice none 0 0, .int .i64 gr] 52)).heap.size := by simp
    clear c0 d2 d4 d5 d6 d7
    go_loopw [9, 50] (fun at_ i wr => ∃ (k : Nat) (s1 s2 : Value), i = .int .i64 (k : Nat) ∧ k ≤ n ∧ at_ = .int .i64 (baseV S tA tR (k - 1)) ∧ Hid (scanE tA tR k = 0) ∧ Blk wr w.heap.size 52 #[s1, s2, .int .i64 gr] ∧ wr.ownsRow (w.heap.size + 1) 38 2 s1 k (xs1 tA tR k) ∧ wr.ownsRow (w.heap.size + 1) 22 1 s2 k (xs2 (baseV S tA tR) k) ∧ w.heap.size < wr.heap.size ∧ Below w.heap.size w wr) (fun _ i _ => n - (intOf i).toNat)
    case atStart => exact ⟨0, .slice none 0 0, .slice none 0 0, rfl, Nat.zero_le _, rfl, Lib.hid rfl, B0, ownsRow_nil _ _ _ _, ownsRow_nil _ _ _ _, Z0, L0⟩
    case round =>
      clear B0 L0 Z0
      obtain ⟨k, s1, s2, rfl, hk, rfl, hsc, hbx, hO1, hO2, hz, hb⟩ := hrel
      by_cases hlt : k < n
      · have hTw := HT.out.below hb
        obtain ⟨ad', ha, hadl, hcl⟩ := hTw hn0
        injection ha with ha
        subst ha
        have hck := hcl k hlt
        have B5 := Blk.new wr 38 #[.int .i64 (tA k), .int .i64 (tR k)]
        have X5 := hbx.alloc (.cells #[.int .i64 (tA k), .int .i64 (tR k)] 38)
        have O15 := ownsRow_keep hO1 ((Below.refl wr.heap.size wr).alloc (Nat.le_refl _) (.cells #[.int .i64 (tA k), .int .i64 (tR k)] 38))
        have O25 := ownsRow_keep hO2 ((Below.refl wr.heap.size wr).alloc (Nat.le_refl _) (.cells #[.int .i64 (tA k), .int .i64 (tR k)] 38))
        have L5 := hb.alloc (Nat.le_of_lt hz) (.cells #[.int .i64 (tA k), .int .i64 (tR k)] 38)
        have Z5 : (wr.alloc (.cells #[.int .i64 (tA k), .int .i64 (tR k)] 38)).heap.size = wr.heap.size + 1 := by simp
        have T5 := hTw.below ((Below.refl wr.heap.size wr).alloc (Nat.le_refl _) (.cells #[.int .i64 (tA k), .int .i64 (tR k)] 38))
        have HCK := Lib.hid hck
        have HT5 := Lib.hid T5
        have HB := Lib.hid (And.intro X5 (And.intro O15 (And.intro O25 L5)))
        have y0 := B5.cellOf (v := .int .i64 (tA k)) 0 rfl
        have y1 := B5.cellOf (v := .int .i64 (tR k)) 1 rfl
        have B5' := Lib.hid B5
        have HGL : Hid (∀ b, s1.ownBlock = some b → b < wr.heap.size) := Lib.hid fun b h => (ownsRow_lt hO1 b h).2
        clear hck hTw hcl hbx hO1 hO2 hb T5 X5 O15 O25 L5 B5
        have sb : wr.heap.size < (wr.alloc (.cells #[.int .i64 (tA k), .int .i64 (tR k)] 38)).heap.size := by omega
        have hEt : turnE tA tR k ≠ 0 → E = turnE tA tR k := fun h => by
          have h1 : scanE tA tR (k + 1) = turnE tA tR k := by rw [scanE, if_neg (by rw [hsc.out]; decide)]
          rw [HE.out, scan_keep (m := k + 1) (by rw [h1]; exact h) (by omega), h1]
        have HET := Lib.hid hEt
        clear hEt
        obtain ⟨K, hK⟩ : ∃ K, K = turnE tA tR k := ⟨_, rfl⟩
        have HKK := Lib.hid hK
        clear hK
        by_cases hl : 1099511627776 < tA k
        · have hk31 : turnE tA tR k = 31 := if_pos (.inl hl)
          have hE31 : E = 31 := by rw [HET.out (by rw [hk31]; decide), hk31]
          have H31 := Lib.hid hE31
          clear hk31 hE31
          go_wp2_with ((refine wpList_load_any_d rfl 38 (.tmp 53) rfl (ad.add (k * 2)) rfl #[.int .i64 (tA k), .int .i64 (tR k)] _ (fun j v h => HCK.out j v h) Try.underlying38 rfl (by kernel_rfl) ?_))
          generalize wr.alloc (.cells #[.int .i64 (tA k), .int .i64 (tR k)] 38) = w5 at *
          refine wp_region_class (fun w' => Below w5.heap.size w5 w') (by kernel_rfl) (by kernel_rfl) (Below.refl _ _).drew ?_
          repeat (first | (with_reducible (refine wpQuiet_skip ?_ ?_); (first | exact wanted_off rfl rfl rfl rfl | exact wanted_off2 rfl rfl rfl); simp only [Act.put, List.setIfInBounds_toArray, List.set_cons_zero, List.set_cons_succ]) | (with_reducible (refine wpQuiet_val (v := ?_) ?_ ?_ ?_); rotate_left; (first | exact wanted_none rfl | exact wanted_on rfl rfl rfl); (intro w' hw'; obtain ⟨hc, hf⟩ := bcell hw'; go_simp; with_reducible rfl); simp only [Act.put, List.setIfInBounds_toArray, List.set_cons_zero, List.set_cons_succ]))
          refine wpQuiet_nil ?_
          intro w6 hw6
          have L6 := HB.out.2.2.2.trans (hw6.mono (by omega))
          clear y0 y1 HB sb
          go_wp2_with fail
          go_ret2
          exact ⟨.inl ⟨by rw [H31.out]; decide, by rw [H31.out]; rfl⟩, L6⟩
        have dl : decide (1099511627776 < tA k) = false := decide_eq_false hl
        rcases Nat.eq_zero_or_pos k with hk0 | hkp
        · have ik : decide (0 < k) = false := by simp; omega
          have HJ : Hid (¬ 1099511627776 < tA k ∧ ¬ (0 < k ∧ tA k ≤ tA (k - 1))) := Lib.hid ⟨hl, by omega⟩
          have HK0 := Lib.hid hk0
          clear hk0 hl
          go_wp2_with ((refine wpList_load_any_d rfl 38 (.tmp 53) rfl (ad.add (k * 2)) rfl #[.int .i64 (tA k), .int .i64 (tR k)] _ (fun j v h => HCK.out j v h) Try.underlying38 rfl (by kernel_rfl) ?_))
          generalize wr.alloc (.cells #[.int .i64 (tA k), .int .i64 (tR k)] 38) = w5 at *
          refine wp_region_class (fun w' => Below w5.heap.size w5 w') (by kernel_rfl) (by kernel_rfl) (Below.refl _ _).drew ?_
          repeat (first | (with_reducible (refine wpQuiet_skip ?_ ?_); (first | exact wanted_off rfl rfl rfl rfl | exact wanted_off2 rfl rfl rfl); simp only [Act.put, List.setIfInBounds_toArray, List.set_cons_zero, List.set_cons_succ]) | (with_reducible (refine wpQuiet_val (v := ?_) ?_ ?_ ?_); rotate_left; (first | exact wanted_none rfl | exact wanted_on rfl rfl rfl); (intro w' hw'; obtain ⟨hc, hf⟩ := bcell hw'; go_simp; with_reducible rfl); simp only [Act.put, List.setIfInBounds_toArray, List.set_cons_zero, List.set_cons_succ]) | (with_reducible (refine wpQuiet_val (v := ?_) ?_ ?_ ?_); rotate_left; (first | exact wanted_none rfl | exact wanted_on rfl rfl rfl); (intro w' hw'; have q0 := hcx0 w' hw'; go_simp; with_reducible rfl); simp only [Act.put, List.setIfInBounds_toArray, List.set_cons_zero, List.set_cons_succ]))
          refine wpQuiet_nil ?_
          intro w6 hw6
          have T6 := B5'.out.below hw6 (by omega)
          have y1 := T6.cellOf (v := .int .i64 (tR k)) 1 rfl
          have y0 := T6.cellOf (v := .int .i64 (tA k)) 0 rfl
          have sb6 : wr.heap.size < w6.heap.size := by have := hw6.size; omega
          have HT6 := Lib.hid T6
          clear T6
          by_cases hrt : 2181843386368 ≤ tR k ∧ tR k ≤ 2216203124736
          rotate_left
          · have hk50 : turnE tA tR k = 50 := by unfold turnE; rw [if_neg (by have := HJ.out; omega), if_neg hrt]
            have hE50 : E = 50 := by rw [HET.out (by rw [hk50]; decide), hk50]
            have H50 := Lib.hid hE50
            have HC := Lib.hid (rcheck_bad (tR k) hrt w6)
            have L6 := HB.out.2.2.2.trans (hw6.mono (by omega))
            clear hk50 hE50 hrt HB
            go_wp2_with fail
            refine HC.out.mono ?_
            rintro e w7 ⟨rfl, rfl⟩
            go_wp2_with fail
            go_ret2
            exact ⟨.inl ⟨by rw [H50.out]; decide, by rw [H50.out]; rfl⟩, L6⟩
          have hk0t : turnE tA tR k = 0 := by unfold turnE; rw [if_neg (by have := HJ.out; omega), if_pos hrt]
          have hs1 : scanE tA tR (k + 1) = 0 := by rw [scanE, if_neg (by rw [hsc.out]; decide), hk0t]
          have HS1 := Lib.hid hs1
          have HTU := Lib.hid (scan_turns hs1 (Nat.succ_pos k) (by omega) HT0.out)
          have HC := Lib.hid (rcheck_ok (tR k) hrt w6)
          clear hk0t hs1 hrt
          go_wp2_with fail
          refine HC.out.mono ?_
          rintro e w7 ⟨rfl, rfl⟩
          go_upto_if 80 with fail
          go_cut [9] (fun s9 wx => s9 = .int .i64 (baseV S tA tR k) ∧ Below w5.heap.size w5 wx)
          case first =>
            have e0 : baseV S tA tR (k - 1) = baseV S tA tR k := by rw [HK0.out]
            have HE0 := Lib.hid e0
            clear e0
            go_wp2_with fail
            go_meet
            exact ⟨by rw [HE0.out], hw6⟩
          case rest =>
            obtain ⟨rfl, hwx⟩ := hcut
            rename World => w8
            clear y0 y1 hw6 HT6 sb6 HC
            have P0 : St w w8 w.heap.size wr.heap.size #[s1, s2, .int .i64 gr] (tA k) (tR k) s1 s2 k k tA tR (baseV S tA tR) := ⟨HB.out.1.below hwx (by omega), B5'.out.below hwx (by omega), ownsRow_keep HB.out.2.1 hwx, ownsRow_keep HB.out.2.2.1 hwx, HB.out.2.2.2.trans (hwx.mono (by omega)), by have := hwx.size; omega⟩
            have hgt : s1.ownBlock ≠ some wr.heap.size := fun h => by have := HGL.out _ h; omega
            have hgl := HGL.out
            clear hwx
            go_wp2_with fail
            refine wp_region_tree [18, 21] (.take 0 (.free 1 (.take 2 (.take 3 (.take 4 (.take 5 (.take 6 (.free 9 (.free 10 (.free 11 (.take 12 (.free 13 (.two 7 14 (.two 8 14 (.one 14 (.one 15 (.free 16 (.free 17 (.wr 18 (.free 19 (.free 20 (.wr 21 .nil)))))))) (.one 8 (.one 15 (.free 16 (.free 17 (.wr 18 (.free 19 (.free 20 (.wr 21 .nil))))))))) (.one 7 (.one 8 (.one 15 (.free 16 (.free 17 (.wr 18 (.free 19 (.free 20 (.wr 21 .nil)))))))))))))))))))))) (fun w' => Blk w' w.heap.size 52 #[s1, s2, .int .i64 gr] ∧ Blk w' wr.heap.size 38 #[.int .i64 (tA k), .int .i64 (tR k)]) (by kernel_rfl) (by kernel_rfl) (fun _ _ _ _ _ h => h) ⟨P0.X, P0.T⟩ ?_
            have P0 := P0.drew
            generalize w8.drew = w9 at *
            (with_reducible (refine tr_take (v := ?_) rfl ?_ ?_ ?_); rotate_left; (first | exact wanted_none rfl | exact wanted_on rfl rfl rfl); (rintro w' ⟨u1, u2⟩; (have q0 := u1.cellOf (v := s1) 0 rfl); (have q1 := u1.cellOf (v := s2) 1 rfl); go_simp; with_reducible rfl); simp only [Act.put, List.setIfInBounds_toArray, List.set_cons_zero, List.set_cons_succ])
            (with_reducible (refine tr_free (v := ?_) rfl ?_ ?_ ?_); rotate_left; (first | exact wanted_none rfl | exact wanted_on rfl rfl rfl); (intro w'; go_simp; with_reducible rfl); simp only [Act.put, List.setIfInBounds_toArray, List.set_cons_zero, List.set_cons_succ])
            (with_reducible (refine tr_take (v := ?_) rfl ?_ ?_ ?_); rotate_left; (first | exact wanted_none rfl | exact wanted_on rfl rfl rfl); (rintro w' ⟨u1, u2⟩; (have q0 := u1.cellOf (v := s1) 0 rfl); (have q1 := u1.cellOf (v := s2) 1 rfl); go_simp; with_reducible rfl); simp only [Act.put, List.setIfInBounds_toArray, List.set_cons_zero, List.set_cons_succ])
            (with_reducible (refine tr_take (v := ?_) rfl ?_ ?_ ?_); rotate_left; (first | exact wanted_none rfl | exact wanted_on rfl rfl rfl); (rintro w' ⟨u1, u2⟩; (have q0 := u1.cellOf (v := s1) 0 rfl); (have q1 := u1.cellOf (v := s2) 1 rfl); go_simp; with_reducible rfl); simp only [Act.put, List.setIfInBounds_toArray, List.set_cons_zero, List.set_cons_succ])
            (with_reducible (refine tr_take (v := ?_) rfl ?_ ?_ ?_); rotate_left; (first | exact wanted_none rfl | exact wanted_on rfl rfl rfl); (rintro w' ⟨u1, u2⟩; (have q0 := u1.cellOf (v := s1) 0 rfl); (have q1 := u1.cellOf (v := s2) 1 rfl); go_simp; with_reducible rfl); simp only [Act.put, List.setIfInBounds_toArray, List.set_cons_zero, List.set_cons_succ])
            (with_reducible (refine tr_take (v := ?_) rfl ?_ ?_ ?_); rotate_left; (first | exact wanted_none rfl | exact wanted_on rfl rfl rfl); (rintro w' ⟨u1, u2⟩; (have q0 := u1.cellOf (v := s1) 0 rfl); (have q1 := u1.cellOf (v := s2) 1 rfl); go_simp; with_reducible rfl); simp only [Act.put, List.setIfInBounds_toArray, List.set_cons_zero, List.set_cons_succ])
            (refine tr_take (v := .agg (#[.int .i64 (tA k), .int .i64 (tR k)])) rfl ?_ (fun w' hw' => run_load_whole_d 38 (.tmp 11) rfl rfl (hw'.2) Try.underlying38 rfl (by kernel_rfl)) ?_; (first | exact wanted_none rfl | exact wanted_on rfl rfl rfl); simp only [Act.put, List.setIfInBounds_toArray, List.set_cons_zero, List.set_cons_succ])
            (with_reducible (refine tr_free (v := ?_) rfl ?_ ?_ ?_); rotate_left; (first | exact wanted_none rfl | exact wanted_on rfl rfl rfl); (intro w'; go_simp; with_reducible rfl); simp only [Act.put, List.setIfInBounds_toArray, List.set_cons_zero, List.set_cons_succ])
            (with_reducible (refine tr_free (v := ?_) rfl ?_ ?_ ?_); rotate_left; (first | exact wanted_none rfl | exact wanted_on rfl rfl rfl); (intro w'; go_simp; with_reducible rfl); simp only [Act.put, List.setIfInBounds_toArray, List.set_cons_zero, List.set_cons_succ])
            (with_reducible (refine tr_free (v := ?_) rfl ?_ ?_ ?_); rotate_left; (first | exact wanted_none rfl | exact wanted_on rfl rfl rfl); (intro w'; go_simp; with_reducible rfl); simp only [Act.put, List.setIfInBounds_toArray, List.set_cons_zero, List.set_cons_succ])
            (with_reducible (refine tr_take (v := ?_) rfl ?_ ?_ ?_); rotate_left; (first | exact wanted_none rfl | exact wanted_on rfl rfl rfl); (rintro w' ⟨u1, u2⟩; (have q0 := u1.cellOf (v := s1) 0 rfl); (have q1 := u1.cellOf (v := s2) 1 rfl); go_simp; with_reducible rfl); simp only [Act.put, List.setIfInBounds_toArray, List.set_cons_zero, List.set_cons_succ])
            (with_reducible (refine tr_free (v := ?_) rfl ?_ ?_ ?_); rotate_left; (first | exact wanted_none rfl | exact wanted_on rfl rfl rfl); (intro w'; go_simp; with_reducible rfl); simp only [Act.put, List.setIfInBounds_toArray, List.set_cons_zero, List.set_cons_succ])
            refine tr_two ?_ ?_
            · have P1 := P0.alloc (.cells #[.int .i64 (tA k), .int .i64 (tR k)] 38)
              have E1 := Blk.new w9 38 #[.int .i64 (tA k), .int .i64 (tR k)]
              (with_reducible (refine tr_run (v := ?_) (w' := ?_) rfl ?_ ?_ ?_ ?_); rotate_left 2; (first | exact wanted_none rfl | exact wanted_on rfl rfl rfl); (go_simp; refine ⟨?_, ?_⟩ <;> with_reducible rfl); (exact ⟨P1.X, P1.T⟩); simp only [Act.put, List.setIfInBounds_toArray, List.set_cons_zero, List.set_cons_succ])
              refine tr_two ?_ ?_
              · refine tr_pushes_at 1 rfl rfl (.tmp 104) (.tmp 106) 23 rfl styT (cs := #[.int .i64 (tA k), .int .i64 (tR k)]) rfl (by intro u hu; simp at hu; rcases hu with rfl | rfl <;> rfl) rfl P1.o1 (g := w9.heap.size) rfl E1 (by omega) (by have := P1.z; omega) ?_
                intro v1 wa own1 bel1 gr1
                obtain ⟨A1, cc1, rfl, _, _⟩ := ownsRow_reads own1
                have P2 := P1.grow1 hgt gr1 own1
                refine ⟨⟨P2.X, P2.T⟩, ?_⟩
                simp only [Act.put, List.setIfInBounds_toArray, List.set_cons_zero, List.set_cons_succ]
                have P3 := P2.alloc (.cells #[.int .i64 (baseV S tA tR k)] 22)
                have E2 := Blk.new wa 22 #[.int .i64 (baseV S tA tR k)]
                clear P1 E1 P0 gr1 own1 bel1
                (with_reducible (refine tr_run (v := ?_) (w' := ?_) rfl ?_ ?_ ?_ ?_); rotate_left 2; (first | exact wanted_none rfl | exact wanted_on rfl rfl rfl); (go_simp; refine ⟨?_, ?_⟩ <;> with_reducible rfl); (exact ⟨P3.X, P3.T⟩); simp only [Act.put, List.setIfInBounds_toArray, List.set_cons_zero, List.set_cons_succ])
                refine tr_pushes_at 1 rfl rfl (.tmp 111) (.tmp 113) 50 rfl styS (cs := #[.int .i64 (baseV S tA tR k)]) rfl (by intro u hu; simp at hu; subst hu; rfl) rfl P3.o2 (g := wa.heap.size) rfl E2 (by omega) (by have := P3.z; omega) ?_
                intro v2 wb own2 bel2 gr2
                obtain ⟨A2, cc2, rfl, _, _⟩ := ownsRow_reads own2
                have P2 := P3.grow2 gr2 own2
                refine ⟨⟨P2.X, P2.T⟩, ?_⟩
                clear P3 E2 gr2 own2 bel2
                simp only [Act.put, List.setIfInBounds_toArray, List.set_cons_zero, List.set_cons_succ]
                have D := P2.done (Nat.le_refl _) ⟨s1, s2, rfl⟩
                have x0 := P2.X.cellOf (v := s1) 0 rfl
                have x1 := P2.X.cellOf (v := s2) 1 rfl
                have fz := P2.X.frozen
                have HD := Lib.hid D
                clear D P2
                (with_reducible (refine tr_free (v := ?_) rfl ?_ ?_ ?_); rotate_left; (first | exact wanted_none rfl | exact wanted_on rfl rfl rfl); (intro w'; go_simp; with_reducible rfl); simp only [Act.put, List.setIfInBounds_toArray, List.set_cons_zero, List.set_cons_succ])
                (with_reducible (refine tr_free (v := ?_) rfl ?_ ?_ ?_); rotate_left; (first | exact wanted_none rfl | exact wanted_on rfl rfl rfl); (intro w'; go_simp; with_reducible rfl); simp only [Act.put, List.setIfInBounds_toArray, List.set_cons_zero, List.set_cons_succ])
                (with_reducible (refine tr_wr (w' := ?_) rfl ?_ ?_ ?_); rotate_left; (first | exact wanted_none rfl | exact wanted_on rfl rfl rfl); (go_simp; with_reducible rfl); simp only [Act.put, List.setIfInBounds_toArray, List.set_cons_zero, List.set_cons_succ])
                (with_reducible (refine tr_free (v := ?_) rfl ?_ ?_ ?_); rotate_left; (first | exact wanted_none rfl | exact wanted_on rfl rfl rfl); (intro w'; go_simp; with_reducible rfl); simp only [Act.put, List.setIfInBounds_toArray, List.set_cons_zero, List.set_cons_succ])
                (with_reducible (refine tr_free (v := ?_) rfl ?_ ?_ ?_); rotate_left; (first | exact wanted_none rfl | exact wanted_on rfl rfl rfl); (intro w'; go_simp; with_reducible rfl); simp only [Act.put, List.setIfInBounds_toArray, List.set_cons_zero, List.set_cons_succ])
                have x1' : (wb.setCell ⟨w.heap.size, 0, none⟩ (.slice A1 (k + 1) cc1)).cell? ⟨w.heap.size, 1, none⟩ = some s2 := by rw [World.cell?_setCell_other _ _ _ _ (by simp)]; exact x1
                (with_reducible (refine tr_wr (w' := ?_) rfl ?_ ?_ ?_); rotate_left; (first | exact wanted_none rfl | exact wanted_on rfl rfl rfl); (go_simp; with_reducible rfl); simp only [Act.put, List.setIfInBounds_toArray, List.set_cons_zero, List.set_cons_succ])
                refine tr_nil ?_
                obtain ⟨d1, d2, d3, d4, d5⟩ := HD.out
                clear x0 x1 x1' fz HD
                generalize (wb.setCell ⟨w.heap.size, 0, none⟩ (.slice A1 (k + 1) cc1)).setCell ⟨w.heap.size, 1, none⟩ (.slice A2 (k + 1) cc2) = wz at *
                go_wp2_with fail
                go_roundw
                case rel => exact ⟨k + 1, _, _, by first | rfl | (refine congrArg (Value.int IntKind.i64) ?_; rw [IntWalk.wrap64_in _ ⟨by omega, by omega⟩]; rfl), by omega, rfl, HS1, d1, d2, d3, d4, d5⟩
                case measure => simp [intOf]; omega
              · have P2 := P1.alloc (.cells #[.int .i64 (baseV S tA tR k)] 22)
                have E1' := E1.alloc (.cells #[.int .i64 (baseV S tA tR k)] 22)
                have E2 := Blk.at_new (g := w9.heap.size + 1) (w9.alloc (.cells #[.int .i64 (tA k), .int .i64 (tR k)] 38)) 22 #[.int .i64 (baseV S tA tR k)] (by simp)
                (with_reducible (refine tr_run (v := ?_) (w' := ?_) rfl ?_ ?_ ?_ ?_); rotate_left 2; (first | exact wanted_none rfl | exact wanted_on rfl rfl rfl); (go_simp; refine ⟨?_, ?_⟩ <;> with_reducible rfl); (exact ⟨P2.X, P2.T⟩); simp only [Act.put, List.setIfInBounds_toArray, List.set_cons_zero, List.set_cons_succ])
                refine tr_pushes_at 1 rfl rfl (.tmp 104) (.tmp 106) 23 rfl styT (cs := #[.int .i64 (tA k), .int .i64 (tR k)]) rfl (by intro u hu; simp at hu; rcases hu with rfl | rfl <;> rfl) rfl P2.o1 (g := w9.heap.size) rfl E1' (by omega) (by have := P2.z; omega) ?_
                intro v1 wa own1 bel1 gr1
                obtain ⟨A1, cc1, rfl, _, _⟩ := ownsRow_reads own1
                have P3 := P2.grow1 hgt gr1 own1
                have E2' := E2.grown gr1 (fun h => by have := (hgl _ h.symm); have := P0.T.lt; simp at *; omega)
                refine ⟨⟨P3.X, P3.T⟩, ?_⟩
                simp only [Act.put, List.setIfInBounds_toArray, List.set_cons_zero, List.set_cons_succ]
                clear P1 P2 E1 E1' gr1 own1 bel1 E2
                refine tr_pushes_at 1 rfl rfl (.tmp 111) (.tmp 113) 50 rfl styS (cs := #[.int .i64 (baseV S tA tR k)]) rfl (by intro u hu; simp at hu; subst hu; rfl) rfl P3.o2 (g := _) rfl E2' (by omega) (by have := P3.z; omega) ?_
                intro v2 wb own2 bel2 gr2
                obtain ⟨A2, cc2, rfl, _, _⟩ := ownsRow_reads own2
                have P2 := P3.grow2 gr2 own2
                refine ⟨⟨P2.X, P2.T⟩, ?_⟩
                clear P0 P3 E2' gr2 own2 bel2
                simp only [Act.put, List.setIfInBounds_toArray, List.set_cons_zero, List.set_cons_succ]
                have D := P2.done (Nat.le_refl _) ⟨s1, s2, rfl⟩
                have x0 := P2.X.cellOf (v := s1) 0 rfl
                have x1 := P2.X.cellOf (v := s2) 1 rfl
                have fz := P2.X.frozen
                have HD := Lib.hid D
                clear D P2
                (with_reducible (refine tr_free (v := ?_) rfl ?_ ?_ ?_); rotate_left; (first | exact wanted_none rfl | exact wanted_on rfl rfl rfl); (intro w'; go_simp; with_reducible rfl); simp only [Act.put, List.setIfInBounds_toArray, List.set_cons_zero, List.set_cons_succ])
                (with_reducible (refine tr_free (v := ?_) rfl ?_ ?_ ?_); rotate_left; (first | exact wanted_none rfl | exact wanted_on rfl rfl rfl); (intro w'; go_simp; with_reducible rfl); simp only [Act.put, List.setIfInBounds_toArray, List.set_cons_zero, List.set_cons_succ])
                (with_reducible (refine tr_wr (w' := ?_) rfl ?_ ?_ ?_); rotate_left; (first | exact wanted_none rfl | exact wanted_on rfl rfl rfl); (go_simp; with_reducible rfl); simp only [Act.put, List.setIfInBounds_toArray, List.set_cons_zero, List.set_cons_succ])
                (with_reducible (refine tr_free (v := ?_) rfl ?_ ?_ ?_); rotate_left; (first | exact wanted_none rfl | exact wanted_on rfl rfl rfl); (intro w'; go_simp; with_reducible rfl); simp only [Act.put, List.setIfInBounds_toArray, List.set_cons_zero, List.set_cons_succ])
                (with_reducible (refine tr_free (v := ?_) rfl ?_ ?_ ?_); rotate_left; (first | exact wanted_none rfl | exact wanted_on rfl rfl rfl); (intro w'; go_simp; with_reducible rfl); simp only [Act.put, List.setIfInBounds_toArray, List.set_cons_zero, List.set_cons_succ])
                have x1' : (wb.setCell ⟨w.heap.size, 0, none⟩ (.slice A1 (k + 1) cc1)).cell? ⟨w.heap.size, 1, none⟩ = some s2 := by rw [World.cell?_setCell_other _ _ _ _ (by simp)]; exact x1
                (with_reducible (refine tr_wr (w' := ?_) rfl ?_ ?_ ?_); rotate_left; (first | exact wanted_none rfl | exact wanted_on rfl rfl rfl); (go_simp; with_reducible rfl); simp only [Act.put, List.setIfInBounds_toArray, List.set_cons_zero, List.set_cons_succ])
                refine tr_nil ?_
                obtain ⟨d1, d2, d3, d4, d5⟩ := HD.out
                clear x0 x1 x1' fz HD
                generalize (wb.setCell ⟨w.heap.size, 0, none⟩ (.slice A1 (k + 1) cc1)).setCell ⟨w.heap.size, 1, none⟩ (.slice A2 (k + 1) cc2) = wz at *
                go_wp2_with fail
                go_roundw
                case rel => exact ⟨k + 1, _, _, by first | rfl | (refine congrArg (Value.int IntKind.i64) ?_; rw [IntWalk.wrap64_in _ ⟨by omega, by omega⟩]; rfl), by omega, rfl, HS1, d1, d2, d3, d4, d5⟩
                case measure => simp [intOf]; omega
            · have P1 := P0.alloc (.cells #[.int .i64 (baseV S tA tR k)] 22)
              have E2 := Blk.new w9 22 #[.int .i64 (baseV S tA tR k)]
              (with_reducible (refine tr_run (v := ?_) (w' := ?_) rfl ?_ ?_ ?_ ?_); rotate_left 2; (first | exact wanted_none rfl | exact wanted_on rfl rfl rfl); (go_simp; refine ⟨?_, ?_⟩ <;> with_reducible rfl); (exact ⟨P1.X, P1.T⟩); simp only [Act.put, List.setIfInBounds_toArray, List.set_cons_zero, List.set_cons_succ])
              have P2 := P1.alloc (.cells #[.int .i64 (tA k), .int .i64 (tR k)] 38)
              have E1 := Blk.at_new (g := w9.heap.size + 1) (w9.alloc (.cells #[.int .i64 (baseV S tA tR k)] 22)) 38 #[.int .i64 (tA k), .int .i64 (tR k)] (by simp)
              have E2' := E2.alloc (.cells #[.int .i64 (tA k), .int .i64 (tR k)] 38)
              (with_reducible (refine tr_run (v := ?_) (w' := ?_) rfl ?_ ?_ ?_ ?_); rotate_left 2; (first | exact wanted_none rfl | exact wanted_on rfl rfl rfl); (go_simp; refine ⟨?_, ?_⟩ <;> with_reducible rfl); (exact ⟨P2.X, P2.T⟩); simp only [Act.put, List.setIfInBounds_toArray, List.set_cons_zero, List.set_cons_succ])
              refine tr_pushes_at 1 rfl rfl (.tmp 104) (.tmp 106) 23 rfl styT (cs := #[.int .i64 (tA k), .int .i64 (tR k)]) rfl (by intro u hu; simp at hu; rcases hu with rfl | rfl <;> rfl) rfl P2.o1 (g := _) rfl E1 (by omega) (by have := P2.z; omega) ?_
              intro v1 wa own1 bel1 gr1
              obtain ⟨A1, cc1, rfl, _, _⟩ := ownsRow_reads own1
              have P3 := P2.grow1 hgt gr1 own1
              have E2'' := E2'.grown gr1 (fun h => by have := (hgl _ h.symm); have := P0.T.lt; simp at *; omega)
              refine ⟨⟨P3.X, P3.T⟩, ?_⟩
              simp only [Act.put, List.setIfInBounds_toArray, List.set_cons_zero, List.set_cons_succ]
              clear P1 P2 E1 E2 E2' gr1 own1 bel1
              refine tr_pushes_at 1 rfl rfl (.tmp 111) (.tmp 113) 50 rfl styS (cs := #[.int .i64 (baseV S tA tR k)]) rfl (by intro u hu; simp at hu; subst hu; rfl) rfl P3.o2 (g := _) rfl E2'' (by omega) (by have := P3.z; omega) ?_
              intro v2 wb own2 bel2 gr2
              obtain ⟨A2, cc2, rfl, _, _⟩ := ownsRow_reads own2
              have P2 := P3.grow2 gr2 own2
              refine ⟨⟨P2.X, P2.T⟩, ?_⟩
              clear P0 P3 E2'' gr2 own2 bel2
              simp only [Act.put, List.setIfInBounds_toArray, List.set_cons_zero, List.set_cons_succ]
              have D := P2.done (Nat.le_refl _) ⟨s1, s2, rfl⟩
              have x0 := P2.X.cellOf (v := s1) 0 rfl
              have x1 := P2.X.cellOf (v := s2) 1 rfl
              have fz := P2.X.frozen
              have HD := Lib.hid D
              clear D P2
              (with_reducible (refine tr_free (v := ?_) rfl ?_ ?_ ?_); rotate_left; (first | exact wanted_none rfl | exact wanted_on rfl rfl rfl); (intro w'; go_simp; with_reducible rfl); simp only [Act.put, List.setIfInBounds_toArray, List.set_cons_zero, List.set_cons_succ])
              (with_reducible (refine tr_free (v := ?_) rfl ?_ ?_ ?_); rotate_left; (first | exact wanted_none rfl | exact wanted_on rfl rfl rfl); (intro w'; go_simp; with_reducible rfl); simp only [Act.put, List.setIfInBounds_toArray, List.set_cons_zero, List.set_cons_succ])
              (with_reducible (refine tr_wr (w' := ?_) rfl ?_ ?_ ?_); rotate_left; (first | exact wanted_none rfl | exact wanted_on rfl rfl rfl); (go_simp; with_reducible rfl); simp only [Act.put, List.setIfInBounds_toArray, List.set_cons_zero, List.set_cons_succ])
              (with_reducible (refine tr_free (v := ?_) rfl ?_ ?_ ?_); rotate_left; (first | exact wanted_none rfl | exact wanted_on rfl rfl rfl); (intro w'; go_simp; with_reducible rfl); simp only [Act.put, List.setIfInBounds_toArray, List.set_cons_zero, List.set_cons_succ])
              (with_reducible (refine tr_free (v := ?_) rfl ?_ ?_ ?_); rotate_left; (first | exact wanted_none rfl | exact wanted_on rfl rfl rfl); (intro w'; go_simp; with_reducible rfl); simp only [Act.put, List.setIfInBounds_toArray, List.set_cons_zero, List.set_cons_succ])
              have x1' : (wb.setCell ⟨w.heap.size, 0, none⟩ (.slice A1 (k + 1) cc1)).cell? ⟨w.heap.size, 1, none⟩ = some s2 := by rw [World.cell?_setCell_other _ _ _ _ (by simp)]; exact x1
              (with_reducible (refine tr_wr (w' := ?_) rfl ?_ ?_ ?_); rotate_left; (first | exact wanted_none rfl | exact wanted_on rfl rfl rfl); (go_simp; with_reducible rfl); simp only [Act.put, List.setIfInBounds_toArray, List.set_cons_zero, List.set_cons_succ])
              refine tr_nil ?_
              obtain ⟨d1, d2, d3, d4, d5⟩ := HD.out
              clear x0 x1 x1' fz HD
              generalize (wb.setCell ⟨w.heap.size, 0, none⟩ (.slice A1 (k + 1) cc1)).setCell ⟨w.heap.size, 1, none⟩ (.slice A2 (k + 1) cc2) = wz at *
              go_wp2_with fail
              go_roundw
              case rel => exact ⟨k + 1, _, _, by first | rfl | (refine congrArg (Value.int IntKind.i64) ?_; rw [IntWalk.wrap64_in _ ⟨by omega, by omega⟩]; rfl), by omega, rfl, HS1, d1, d2, d3, d4, d5⟩
              case measure => simp [intOf]; omega
        · obtain ⟨j, hkj⟩ : ∃ j, k = j + 1 := ⟨k - 1, by omega⟩
          have f0 : IntKind.i64.wrap ((k : Int) - 1) = (j : Int) := by rw [show (k : Int) - 1 = (j : Int) by omega]; exact IntWalk.i64_in _ ⟨by omega, by omega⟩
          have hjn : j < n := by omega
          have hkj1 : k - 1 = j := by omega
          have HKJ := Lib.hid (And.intro hkj hkj1)
          clear hkj hkj1
          by_cases hle : tA k ≤ tA j
          · have hk31 : turnE tA tR k = 31 := if_pos (.inr ⟨hkp, by rw [HKJ.out.2]; exact hle⟩)
            have hE31 : E = 31 := by rw [HET.out (by rw [hk31]; decide), hk31]
            have H31 := Lib.hid hE31
            clear hk31 hE31
            go_wp2_with ((refine wpList_load_any_d rfl 38 (.tmp 53) rfl (ad.add (k * 2)) rfl #[.int .i64 (tA k), .int .i64 (tR k)] _ (fun j v h => HCK.out j v h) Try.underlying38 rfl (by kernel_rfl) ?_))
            generalize wr.alloc (.cells #[.int .i64 (tA k), .int .i64 (tR k)] 38) = w5 at *
            have hcx : ∀ w', Below w5.heap.size w5 w' → w'.cell? (ad.add (j * 2)) = some (.int .i64 (tA j)) ∧ w'.cell? ⟨(ad.add (j * 2)).block, (ad.add (j * 2)).off + 1, none⟩ = some (.int .i64 (tR j)) := fun w' h => (HT5.out.below h).at_ hjn
            have hcx0 := fun w' h => (hcx w' h).1
            have hcx1 := fun w' h => (hcx w' h).2
            clear hcx
            refine wp_region_class (fun w' => Below w5.heap.size w5 w') (by kernel_rfl) (by kernel_rfl) (Below.refl _ _).drew ?_
            repeat (first | (with_reducible (refine wpQuiet_skip ?_ ?_); (first | exact wanted_off rfl rfl rfl rfl | exact wanted_off2 rfl rfl rfl); simp only [Act.put, List.setIfInBounds_toArray, List.set_cons_zero, List.set_cons_succ]) | (with_reducible (refine wpQuiet_val (v := ?_) ?_ ?_ ?_); rotate_left; (first | exact wanted_none rfl | exact wanted_on rfl rfl rfl); (intro w' hw'; obtain ⟨hc, hf⟩ := bcell hw'; go_simp; with_reducible rfl); simp only [Act.put, List.setIfInBounds_toArray, List.set_cons_zero, List.set_cons_succ]) | (with_reducible (refine wpQuiet_val (v := ?_) ?_ ?_ ?_); rotate_left; (first | exact wanted_none rfl | exact wanted_on rfl rfl rfl); (intro w' hw'; have q0 := hcx0 w' hw'; go_simp; with_reducible rfl); simp only [Act.put, List.setIfInBounds_toArray, List.set_cons_zero, List.set_cons_succ]))
            refine wpQuiet_nil ?_
            intro w6 hw6
            have L6 := HB.out.2.2.2.trans (hw6.mono (by omega))
            clear y0 y1 HB sb hcx0 hcx1
            go_wp2_with fail
            go_ret2
            exact ⟨.inl ⟨by rw [H31.out]; decide, by rw [H31.out]; rfl⟩, L6⟩
          · have dle : decide (tA k ≤ tA j) = false := decide_eq_false hle
            have HJ : Hid (¬ 1099511627776 < tA k ∧ ¬ (0 < k ∧ tA k ≤ tA (k - 1))) := Lib.hid ⟨hl, by rw [HKJ.out.2]; omega⟩
            clear hle hl
            go_wp2_with ((refine wpList_load_any_d rfl 38 (.tmp 53) rfl (ad.add (k * 2)) rfl #[.int .i64 (tA k), .int .i64 (tR k)] _ (fun j v h => HCK.out j v h) Try.underlying38 rfl (by kernel_rfl) ?_))
            generalize wr.alloc (.cells #[.int .i64 (tA k), .int .i64 (tR k)] 38) = w5 at *
            have hcx : ∀ w', Below w5.heap.size w5 w' → w'.cell? (ad.add (j * 2)) = some (.int .i64 (tA j)) ∧ w'.cell? ⟨(ad.add (j * 2)).block, (ad.add (j * 2)).off + 1, none⟩ = some (.int .i64 (tR j)) := fun w' h => (HT5.out.below h).at_ hjn
            have hcx0 := fun w' h => (hcx w' h).1
            have hcx1 := fun w' h => (hcx w' h).2
            clear hcx
            refine wp_region_class (fun w' => Below w5.heap.size w5 w') (by kernel_rfl) (by kernel_rfl) (Below.refl _ _).drew ?_
            repeat (first | (with_reducible (refine wpQuiet_skip ?_ ?_); (first | exact wanted_off rfl rfl rfl rfl | exact wanted_off2 rfl rfl rfl); simp only [Act.put, List.setIfInBounds_toArray, List.set_cons_zero, List.set_cons_succ]) | (with_reducible (refine wpQuiet_val (v := ?_) ?_ ?_ ?_); rotate_left; (first | exact wanted_none rfl | exact wanted_on rfl rfl rfl); (intro w' hw'; obtain ⟨hc, hf⟩ := bcell hw'; go_simp; with_reducible rfl); simp only [Act.put, List.setIfInBounds_toArray, List.set_cons_zero, List.set_cons_succ]) | (with_reducible (refine wpQuiet_val (v := ?_) ?_ ?_ ?_); rotate_left; (first | exact wanted_none rfl | exact wanted_on rfl rfl rfl); (intro w' hw'; have q0 := hcx0 w' hw'; go_simp; with_reducible rfl); simp only [Act.put, List.setIfInBounds_toArray, List.set_cons_zero, List.set_cons_succ]))
            refine wpQuiet_nil ?_
            intro w6 hw6
            have T6 := B5'.out.below hw6 (by omega)
            have y1 := T6.cellOf (v := .int .i64 (tR k)) 1 rfl
            have y0 := T6.cellOf (v := .int .i64 (tA k)) 0 rfl
            have sb6 : wr.heap.size < w6.heap.size := by have := hw6.size; omega
            have HT6 := Lib.hid T6
            clear T6
            by_cases hrt : 2181843386368 ≤ tR k ∧ tR k ≤ 2216203124736
            rotate_left
            · have hk50 : turnE tA tR k = 50 := by unfold turnE; rw [if_neg (by have := HJ.out; omega), if_neg hrt]
              have hE50 : E = 50 := by rw [HET.out (by rw [hk50]; decide), hk50]
              have H50 := Lib.hid hE50
              have HC := Lib.hid (rcheck_bad (tR k) hrt w6)
              have L6 := HB.out.2.2.2.trans (hw6.mono (by omega))
              clear hk50 hE50 hrt HB
              go_wp2_with fail
              refine HC.out.mono ?_
              rintro e w7 ⟨rfl, rfl⟩
              go_wp2_with fail
              go_ret2
              exact ⟨.inl ⟨by rw [H50.out]; decide, by rw [H50.out]; rfl⟩, L6⟩
            have hk0t : turnE tA tR k = 0 := by unfold turnE; rw [if_neg (by have := HJ.out; omega), if_pos hrt]
            have hs1 : scanE tA tR (k + 1) = 0 := by rw [scanE, if_neg (by rw [hsc.out]; decide), hk0t]
            have HS1 := Lib.hid hs1
            have HTU := Lib.hid (scan_turns hs1 (Nat.succ_pos k) (by omega) HT0.out)
            have HC := Lib.hid (rcheck_ok (tR k) hrt w6)
            clear hk0t hs1 hrt
            go_wp2_with fail
            refine HC.out.mono ?_
            rintro e w7 ⟨rfl, rfl⟩
            go_upto_if 80 with fail
            go_cut [9] (fun s9 wx => s9 = .int .i64 (baseV S tA tR k) ∧ Below w5.heap.size w5 wx)
            case first =>
              have hTu := HTU.out
              have hrj := hTu.rate j (by have := HKJ.out.1; omega)
              have hlj := hTu.low (i := j) (by have := HKJ.out.1; omega)
              have hlk := hTu.late k (by omega)
              have hri := hTu.rise j (by have := HKJ.out.1; omega)
              rw [← HKJ.out.1] at hri
              have hbj := base_lim hTu (base_is hS.out.1 hS.out.2) (i := k) (by omega)
              have hbi := base_lim hTu (base_is hS.out.1 hS.out.2) (i := j) (by have := HKJ.out.1; omega)
              obtain ⟨d, hd⟩ : ∃ d, d = tA k - tA j := ⟨_, rfl⟩
              have hnext : baseV S tA tR k = baseV S tA tR j + runV d (tR j) := by rw [hd, HKJ.out.1]; rfl
              have hSS := hS.out
              have g1 : IntKind.i64.wrap (tA k - tA j) = d := by rw [← hd]; exact IntWalk.i64_in _ ⟨by omega, by omega⟩
              have g2 : IntKind.i64.wrap (baseV S tA tR j + runV d (tR j)) = baseV S tA tR k := by rw [← hnext]; exact IntWalk.i64_in _ ⟨by omega, by omega⟩
              have hrun := fun W => run_any d (tR j) (by unfold I64; omega) (by unfold I64; omega) W
              have HRUN := Lib.hid hrun
              have e0 : k - 1 = j := HKJ.out.2
              have hcy0 : ∀ w', Below w6.heap.size w6 w' → w'.cell? (ad.add (j * 2)) = some (.int .i64 (tA j)) := fun w' h => hcx0 w' (hw6.trans (h.mono hw6.size))
              have hcy1 : ∀ w', Below w6.heap.size w6 w' → w'.cell? ⟨(ad.add (j * 2)).block, (ad.add (j * 2)).off + 1, none⟩ = some (.int .i64 (tR j)) := fun w' h => hcx1 w' (hw6.trans (h.mono hw6.size))
              rw [e0]
              clear hTu hrj hlj hlk hri hbj hbi hnext hSS hrun hd e0 hcx0 hcx1
              go_wp2_with fail
              refine wp_region_class (fun w' => Below w6.heap.size w6 w') (by kernel_rfl) (by kernel_rfl) (Below.refl _ _).drew ?_
              repeat (first | (with_reducible (refine wpQuiet_skip ?_ ?_); (first | exact wanted_off rfl rfl rfl rfl | exact wanted_off2 rfl rfl rfl); simp only [Act.put, List.setIfInBounds_toArray, List.set_cons_zero, List.set_cons_succ]) | (with_reducible (refine wpQuiet_val (v := ?_) ?_ ?_ ?_); rotate_left; (first | exact wanted_none rfl | exact wanted_on rfl rfl rfl); (intro w' hw'; obtain ⟨hc, hf⟩ := bcell hw'; go_simp; with_reducible rfl); simp only [Act.put, List.setIfInBounds_toArray, List.set_cons_zero, List.set_cons_succ]) | (with_reducible (refine wpQuiet_call (v := ?_) 21 ?_ ?_ ?_ ?_ ?_); rotate_left 2; (first | exact wanted_none rfl | exact wanted_on rfl rfl rfl); (intro w' hw'; obtain ⟨hc, hf⟩ := bcell hw'; go_simp; with_reducible rfl); (intro w' hw'; (with_reducible refine (HRUN.out _).mono ?_); rintro e w2 ⟨rfl, hb⟩; refine ⟨?_, hw'.trans (hb.mono (by have h0 := hw'.size; first | omega | (simp at h0; omega)))⟩; with_reducible rfl); simp only [Act.put, List.setIfInBounds_toArray, List.set_cons_zero, List.set_cons_succ]) | (with_reducible (refine wpQuiet_val (v := ?_) ?_ ?_ ?_); rotate_left; (first | exact wanted_none rfl | exact wanted_on rfl rfl rfl); (intro w' hw'; have q0 := hcy0 w' hw'; have q1 := hcy1 w' hw'; go_simp; with_reducible rfl); simp only [Act.put, List.setIfInBounds_toArray, List.set_cons_zero, List.set_cons_succ]))
              refine wpQuiet_nil ?_
              intro w7 hw7
              have hw67 := hw6.trans (hw7.mono hw6.size)
              clear y0 y1 hcy0 hcy1 HRUN hw7 g1 g2
              go_wp2_with fail
              go_meet
              exact ⟨rfl, hw67⟩
            case rest =>
              obtain ⟨rfl, hwx⟩ := hcut
              rename World => w8
              clear y0 y1 hw6 HT6 sb6 HC
              have P0 : St w w8 w.heap.size wr.heap.size #[s1, s2, .int .i64 gr] (tA k) (tR k) s1 s2 k k tA tR (baseV S tA tR) := ⟨HB.out.1.below hwx (by omega), B5'.out.below hwx (by omega), ownsRow_keep HB.out.2.1 hwx, ownsRow_keep HB.out.2.2.1 hwx, HB.out.2.2.2.trans (hwx.mono (by omega)), by have := hwx.size; omega⟩
              have hgt : s1.ownBlock ≠ some wr.heap.size := fun h => by have := HGL.out _ h; omega
              have hgl := HGL.out
              clear hwx
              go_wp2_with fail
              refine wp_region_tree [18, 21] (.take 0 (.free 1 (.take 2 (.take 3 (.take 4 (.take 5 (.take 6 (.free 9 (.free 10 (.free 11 (.take 12 (.free 13 (.two 7 14 (.two 8 14 (.one 14 (.one 15 (.free 16 (.free 17 (.wr 18 (.free 19 (.free 20 (.wr 21 .nil)))))))) (.one 8 (.one 15 (.free 16 (.free 17 (.wr 18 (.free 19 (.free 20 (.wr 21 .nil))))))))) (.one 7 (.one 8 (.one 15 (.free 16 (.free 17 (.wr 18 (.free 19 (.free 20 (.wr 21 .nil)))))))))))))))))))))) (fun w' => Blk w' w.heap.size 52 #[s1, s2, .int .i64 gr] ∧ Blk w' wr.heap.size 38 #[.int .i64 (tA k), .int .i64 (tR k)]) (by kernel_rfl) (by kernel_rfl) (fun _ _ _ _ _ h => h) ⟨P0.X, P0.T⟩ ?_
              have P0 := P0.drew
              generalize w8.drew = w9 at *
              (with_reducible (refine tr_take (v := ?_) rfl ?_ ?_ ?_); rotate_left; (first | exact wanted_none rfl | exact wanted_on rfl rfl rfl); (rintro w' ⟨u1, u2⟩; (have q0 := u1.cellOf (v := s1) 0 rfl); (have q1 := u1.cellOf (v := s2) 1 rfl); go_simp; with_reducible rfl); simp only [Act.put, List.setIfInBounds_toArray, List.set_cons_zero, List.set_cons_succ])
              (with_reducible (refine tr_free (v := ?_) rfl ?_ ?_ ?_); rotate_left; (first | exact wanted_none rfl | exact wanted_on rfl rfl rfl); (intro w'; go_simp; with_reducible rfl); simp only [Act.put, List.setIfInBounds_toArray, List.set_cons_zero, List.set_cons_succ])
              (with_reducible (refine tr_take (v := ?_) rfl ?_ ?_ ?_); rotate_left; (first | exact wanted_none rfl | exact wanted_on rfl rfl rfl); (rintro w' ⟨u1, u2⟩; (have q0 := u1.cellOf (v := s1) 0 rfl); (have q1 := u1.cellOf (v := s2) 1 rfl); go_simp; with_reducible rfl); simp only [Act.put, List.setIfInBounds_toArray, List.set_cons_zero, List.set_cons_succ])
              (with_reducible (refine tr_take (v := ?_) rfl ?_ ?_ ?_); rotate_left; (first | exact wanted_none rfl | exact wanted_on rfl rfl rfl); (rintro w' ⟨u1, u2⟩; (have q0 := u1.cellOf (v := s1) 0 rfl); (have q1 := u1.cellOf (v := s2) 1 rfl); go_simp; with_reducible rfl); simp only [Act.put, List.setIfInBounds_toArray, List.set_cons_zero, List.set_cons_succ])
              (with_reducible (refine tr_take (v := ?_) rfl ?_ ?_ ?_); rotate_left; (first | exact wanted_none rfl | exact wanted_on rfl rfl rfl); (rintro w' ⟨u1, u2⟩; (have q0 := u1.cellOf (v := s1) 0 rfl); (have q1 := u1.cellOf (v := s2) 1 rfl); go_simp; with_reducible rfl); simp only [Act.put, List.setIfInBounds_toArray, List.set_cons_zero, List.set_cons_succ])
              (with_reducible (refine tr_take (v := ?_) rfl ?_ ?_ ?_); rotate_left; (first | exact wanted_none rfl | exact wanted_on rfl rfl rfl); (rintro w' ⟨u1, u2⟩; (have q0 := u1.cellOf (v := s1) 0 rfl); (have q1 := u1.cellOf (v := s2) 1 rfl); go_simp; with_reducible rfl); simp only [Act.put, List.setIfInBounds_toArray, List.set_cons_zero, List.set_cons_succ])
              (refine tr_take (v := .agg (#[.int .i64 (tA k), .int .i64 (tR k)])) rfl ?_ (fun w' hw' => run_load_whole_d 38 (.tmp 11) rfl rfl (hw'.2) Try.underlying38 rfl (by kernel_rfl)) ?_; (first | exact wanted_none rfl | exact wanted_on rfl rfl rfl); simp only [Act.put, List.setIfInBounds_toArray, List.set_cons_zero, List.set_cons_succ])
              (with_reducible (refine tr_free (v := ?_) rfl ?_ ?_ ?_); rotate_left; (first | exact wanted_none rfl | exact wanted_on rfl rfl rfl); (intro w'; go_simp; with_reducible rfl); simp only [Act.put, List.setIfInBounds_toArray, List.set_cons_zero, List.set_cons_succ])
              (with_reducible (refine tr_free (v := ?_) rfl ?_ ?_ ?_); rotate_left; (first | exact wanted_none rfl | exact wanted_on rfl rfl rfl); (intro w'; go_simp; with_reducible rfl); simp only [Act.put, List.setIfInBounds_toArray, List.set_cons_zero, List.set_cons_succ])
              (with_reducible (refine tr_free (v := ?_) rfl ?_ ?_ ?_); rotate_left; (first | exact wanted_none rfl | exact wanted_on rfl rfl rfl); (intro w'; go_simp; with_reducible rfl); simp only [Act.put, List.setIfInBounds_toArray, List.set_cons_zero, List.set_cons_succ])
              (with_reducible (refine tr_take (v := ?_) rfl ?_ ?_ ?_); rotate_left; (first | exact wanted_none rfl | exact wanted_on rfl rfl rfl); (rintro w' ⟨u1, u2⟩; (have q0 := u1.cellOf (v := s1) 0 rfl); (have q1 := u1.cellOf (v := s2) 1 rfl); go_simp; with_reducible rfl); simp only [Act.put, List.setIfInBounds_toArray, List.set_cons_zero, List.set_cons_succ])
              (with_reducible (refine tr_free (v := ?_) rfl ?_ ?_ ?_); rotate_left; (first | exact wanted_none rfl | exact wanted_on rfl rfl rfl); (intro w'; go_simp; with_reducible rfl); simp only [Act.put, List.setIfInBounds_toArray, List.set_cons_zero, List.set_cons_succ])
              refine tr_two ?_ ?_
              · have P1 := P0.alloc (.cells #[.int .i64 (tA k), .int .i64 (tR k)] 38)
                have E1 := Blk.new w9 38 #[.int .i64 (tA k), .int .i64 (tR k)]
                (with_reducible (refine tr_run (v := ?_) (w' := ?_) rfl ?_ ?_ ?_ ?_); rotate_left 2; (first | exact wanted_none rfl | exact wanted_on rfl rfl rfl); (go_simp; refine ⟨?_, ?_⟩ <;> with_reducible rfl); (exact ⟨P1.X, P1.T⟩); simp only [Act.put, List.setIfInBounds_toArray, List.set_cons_zero, List.set_cons_succ])
                refine tr_two ?_ ?_
                · refine tr_pushes_at 1 rfl rfl (.tmp 104) (.tmp 106) 23 rfl styT (cs := #[.int .i64 (tA k), .int .i64 (tR k)]) rfl (by intro u hu; simp at hu; rcases hu with rfl | rfl <;> rfl) rfl P1.o1 (g := w9.heap.size) rfl E1 (by omega) (by have := P1.z; omega) ?_
                  intro v1 wa own1 bel1 gr1
                  obtain ⟨A1, cc1, rfl, _, _⟩ := ownsRow_reads own1
                  have P2 := P1.grow1 hgt gr1 own1
                  refine ⟨⟨P2.X, P2.T⟩, ?_⟩
                  simp only [Act.put, List.setIfInBounds_toArray, List.set_cons_zero, List.set_cons_succ]
                  have P3 := P2.alloc (.cells #[.int .i64 (baseV S tA tR k)] 22)
                  have E2 := Blk.new wa 22 #[.int .i64 (baseV S tA tR k)]
                  clear P1 E1 P0 gr1 own1 bel1
                  (with_reducible (refine tr_run (v := ?_) (w' := ?_) rfl ?_ ?_ ?_ ?_); rotate_left 2; (first | exact wanted_none rfl | exact wanted_on rfl rfl rfl); (go_simp; refine ⟨?_, ?_⟩ <;> with_reducible rfl); (exact ⟨P3.X, P3.T⟩); simp only [Act.put, List.setIfInBounds_toArray, List.set_cons_zero, List.set_cons_succ])
                  refine tr_pushes_at 1 rfl rfl (.tmp 111) (.tmp 113) 50 rfl styS (cs := #[.int .i64 (baseV S tA tR k)]) rfl (by intro u hu; simp at hu; subst hu; rfl) rfl P3.o2 (g := wa.heap.size) rfl E2 (by omega) (by have := P3.z; omega) ?_
                  intro v2 wb own2 bel2 gr2
                  obtain ⟨A2, cc2, rfl, _, _⟩ := ownsRow_reads own2
                  have P2 := P3.grow2 gr2 own2
                  refine ⟨⟨P2.X, P2.T⟩, ?_⟩
                  clear P3 E2 gr2 own2 bel2
                  simp only [Act.put, List.setIfInBounds_toArray, List.set_cons_zero, List.set_cons_succ]
                  have D := P2.done (Nat.le_refl _) ⟨s1, s2, rfl⟩
                  have x0 := P2.X.cellOf (v := s1) 0 rfl
                  have x1 := P2.X.cellOf (v := s2) 1 rfl
                  have fz := P2.X.frozen
                  have HD := Lib.hid D
                  clear D P2
                  (with_reducible (refine tr_free (v := ?_) rfl ?_ ?_ ?_); rotate_left; (first | exact wanted_none rfl | exact wanted_on rfl rfl rfl); (intro w'; go_simp; with_reducible rfl); simp only [Act.put, List.setIfInBounds_toArray, List.set_cons_zero, List.set_cons_succ])
                  (with_reducible (refine tr_free (v := ?_) rfl ?_ ?_ ?_); rotate_left; (first | exact wanted_none rfl | exact wanted_on rfl rfl rfl); (intro w'; go_simp; with_reducible rfl); simp only [Act.put, List.setIfInBounds_toArray, List.set_cons_zero, List.set_cons_succ])
                  (with_reducible (refine tr_wr (w' := ?_) rfl ?_ ?_ ?_); rotate_left; (first | exact wanted_none rfl | exact wanted_on rfl rfl rfl); (go_simp; with_reducible rfl); simp only [Act.put, List.setIfInBounds_toArray, List.set_cons_zero, List.set_cons_succ])
                  (with_reducible (refine tr_free (v := ?_) rfl ?_ ?_ ?_); rotate_left; (first | exact wanted_none rfl | exact wanted_on rfl rfl rfl); (intro w'; go_simp; with_reducible rfl); simp only [Act.put, List.setIfInBounds_toArray, List.set_cons_zero, List.set_cons_succ])
                  (with_reducible (refine tr_free (v := ?_) rfl ?_ ?_ ?_); rotate_left; (first | exact wanted_none rfl | exact wanted_on rfl rfl rfl); (intro w'; go_simp; with_reducible rfl); simp only [Act.put, List.setIfInBounds_toArray, List.set_cons_zero, List.set_cons_succ])
                  have x1' : (wb.setCell ⟨w.heap.size, 0, none⟩ (.slice A1 (k + 1) cc1)).cell? ⟨w.heap.size, 1, none⟩ = some s2 := by rw [World.cell?_setCell_other _ _ _ _ (by simp)]; exact x1
                  (with_reducible (refine tr_wr (w' := ?_) rfl ?_ ?_ ?_); rotate_left; (first | exact wanted_none rfl | exact wanted_on rfl rfl rfl); (go_simp; with_reducible rfl); simp only [Act.put, List.setIfInBounds_toArray, List.set_cons_zero, List.set_cons_succ])
                  refine tr_nil ?_
                  obtain ⟨d1, d2, d3, d4, d5⟩ := HD.out
                  clear x0 x1 x1' fz HD
                  generalize (wb.setCell ⟨w.heap.size, 0, none⟩ (.slice A1 (k + 1) cc1)).setCell ⟨w.heap.size, 1, none⟩ (.slice A2 (k + 1) cc2) = wz at *
                  go_wp2_with fail
                  go_roundw
                  case rel => exact ⟨k + 1, _, _, by first | rfl | (refine congrArg (Value.int IntKind.i64) ?_; rw [IntWalk.wrap64_in _ ⟨by omega, by omega⟩]; rfl), by omega, rfl, HS1, d1, d2, d3, d4, d5⟩
                  case measure => simp [intOf]; omega
                · have P2 := P1.alloc (.cells #[.int .i64 (baseV S tA tR k)] 22)
                  have E1' := E1.alloc (.cells #[.int .i64 (baseV S tA tR k)] 22)
                  have E2 := Blk.at_new (g := w9.heap.size + 1) (w9.alloc (.cells #[.int .i64 (tA k), .int .i64 (tR k)] 38)) 22 #[.int .i64 (baseV S tA tR k)] (by simp)
                  (with_reducible (refine tr_run (v := ?_) (w' := ?_) rfl ?_ ?_ ?_ ?_); rotate_left 2; (first | exact wanted_none rfl | exact wanted_on rfl rfl rfl); (go_simp; refine ⟨?_, ?_⟩ <;> with_reducible rfl); (exact ⟨P2.X, P2.T⟩); simp only [Act.put, List.setIfInBounds_toArray, List.set_cons_zero, List.set_cons_succ])
                  refine tr_pushes_at 1 rfl rfl (.tmp 104) (.tmp 106) 23 rfl styT (cs := #[.int .i64 (tA k), .int .i64 (tR k)]) rfl (by intro u hu; simp at hu; rcases hu with rfl | rfl <;> rfl) rfl P2.o1 (g := w9.heap.size) rfl E1' (by omega) (by have := P2.z; omega) ?_
                  intro v1 wa own1 bel1 gr1
                  obtain ⟨A1, cc1, rfl, _, _⟩ := ownsRow_reads own1
                  have P3 := P2.grow1 hgt gr1 own1
                  have E2' := E2.grown gr1 (fun h => by have := (hgl _ h.symm); have := P0.T.lt; simp at *; omega)
                  refine ⟨⟨P3.X, P3.T⟩, ?_⟩
                  simp only [Act.put, List.setIfInBounds_toArray, List.set_cons_zero, List.set_cons_succ]
                  clear P1 P2 E1 E1' gr1 own1 bel1 E2
                  refine tr_pushes_at 1 rfl rfl (.tmp 111) (.tmp 113) 50 rfl styS (cs := #[.int .i64 (baseV S tA tR k)]) rfl (by intro u hu; simp at hu; subst hu; rfl) rfl P3.o2 (g := _) rfl E2' (by omega) (by have := P3.z; omega) ?_
                  intro v2 wb own2 bel2 gr2
                  obtain ⟨A2, cc2, rfl, _, _⟩ := ownsRow_reads own2
                  have P2 := P3.grow2 gr2 own2
                  refine ⟨⟨P2.X, P2.T⟩, ?_⟩
                  clear P0 P3 E2' gr2 own2 bel2
                  simp only [Act.put, List.setIfInBounds_toArray, List.set_cons_zero, List.set_cons_succ]
                  have D := P2.done (Nat.le_refl _) ⟨s1, s2, rfl⟩
                  have x0 := P2.X.cellOf (v := s1) 0 rfl
                  have x1 := P2.X.cellOf (v := s2) 1 rfl
                  have fz := P2.X.frozen
                  have HD := Lib.hid D
                  clear D P2
                  (with_reducible (refine tr_free (v := ?_) rfl ?_ ?_ ?_); rotate_left; (first | exact wanted_none rfl | exact wanted_on rfl rfl rfl); (intro w'; go_simp; with_reducible rfl); simp only [Act.put, List.setIfInBounds_toArray, List.set_cons_zero, List.set_cons_succ])
                  (with_reducible (refine tr_free (v := ?_) rfl ?_ ?_ ?_); rotate_left; (first | exact wanted_none rfl | exact wanted_on rfl rfl rfl); (intro w'; go_simp; with_reducible rfl); simp only [Act.put, List.setIfInBounds_toArray, List.set_cons_zero, List.set_cons_succ])
                  (with_reducible (refine tr_wr (w' := ?_) rfl ?_ ?_ ?_); rotate_left; (first | exact wanted_none rfl | exact wanted_on rfl rfl rfl); (go_simp; with_reducible rfl); simp only [Act.put, List.setIfInBounds_toArray, List.set_cons_zero, List.set_cons_succ])
                  (with_reducible (refine tr_free (v := ?_) rfl ?_ ?_ ?_); rotate_left; (first | exact wanted_none rfl | exact wanted_on rfl rfl rfl); (intro w'; go_simp; with_reducible rfl); simp only [Act.put, List.setIfInBounds_toArray, List.set_cons_zero, List.set_cons_succ])
                  (with_reducible (refine tr_free (v := ?_) rfl ?_ ?_ ?_); rotate_left; (first | exact wanted_none rfl | exact wanted_on rfl rfl rfl); (intro w'; go_simp; with_reducible rfl); simp only [Act.put, List.setIfInBounds_toArray, List.set_cons_zero, List.set_cons_succ])
                  have x1' : (wb.setCell ⟨w.heap.size, 0, none⟩ (.slice A1 (k + 1) cc1)).cell? ⟨w.heap.size, 1, none⟩ = some s2 := by rw [World.cell?_setCell_other _ _ _ _ (by simp)]; exact x1
                  (with_reducible (refine tr_wr (w' := ?_) rfl ?_ ?_ ?_); rotate_left; (first | exact wanted_none rfl | exact wanted_on rfl rfl rfl); (go_simp; with_reducible rfl); simp only [Act.put, List.setIfInBounds_toArray, List.set_cons_zero, List.set_cons_succ])
                  refine tr_nil ?_
                  obtain ⟨d1, d2, d3, d4, d5⟩ := HD.out
                  clear x0 x1 x1' fz HD
                  generalize (wb.setCell ⟨w.heap.size, 0, none⟩ (.slice A1 (k + 1) cc1)).setCell ⟨w.heap.size, 1, none⟩ (.slice A2 (k + 1) cc2) = wz at *
                  go_wp2_with fail
                  go_roundw
                  case rel => exact ⟨k + 1, _, _, by first | rfl | (refine congrArg (Value.int IntKind.i64) ?_; rw [IntWalk.wrap64_in _ ⟨by omega, by omega⟩]; rfl), by omega, rfl, HS1, d1, d2, d3, d4, d5⟩
                  case measure => simp [intOf]; omega
              · have P1 := P0.alloc (.cells #[.int .i64 (baseV S tA tR k)] 22)
                have E2 := Blk.new w9 22 #[.int .i64 (baseV S tA tR k)]
                (with_reducible (refine tr_run (v := ?_) (w' := ?_) rfl ?_ ?_ ?_ ?_); rotate_left 2; (first | exact wanted_none rfl | exact wanted_on rfl rfl rfl); (go_simp; refine ⟨?_, ?_⟩ <;> with_reducible rfl); (exact ⟨P1.X, P1.T⟩); simp only [Act.put, List.setIfInBounds_toArray, List.set_cons_zero, List.set_cons_succ])
                have P2 := P1.alloc (.cells #[.int .i64 (tA k), .int .i64 (tR k)] 38)
                have E1 := Blk.at_new (g := w9.heap.size + 1) (w9.alloc (.cells #[.int .i64 (baseV S tA tR k)] 22)) 38 #[.int .i64 (tA k), .int .i64 (tR k)] (by simp)
                have E2' := E2.alloc (.cells #[.int .i64 (tA k), .int .i64 (tR k)] 38)
                (with_reducible (refine tr_run (v := ?_) (w' := ?_) rfl ?_ ?_ ?_ ?_); rotate_left 2; (first | exact wanted_none rfl | exact wanted_on rfl rfl rfl); (go_simp; refine ⟨?_, ?_⟩ <;> with_reducible rfl); (exact ⟨P2.X, P2.T⟩); simp only [Act.put, List.setIfInBounds_toArray, List.set_cons_zero, List.set_cons_succ])
                refine tr_pushes_at 1 rfl rfl (.tmp 104) (.tmp 106) 23 rfl styT (cs := #[.int .i64 (tA k), .int .i64 (tR k)]) rfl (by intro u hu; simp at hu; rcases hu with rfl | rfl <;> rfl) rfl P2.o1 (g := _) rfl E1 (by omega) (by have := P2.z; omega) ?_
                intro v1 wa own1 bel1 gr1
                obtain ⟨A1, cc1, rfl, _, _⟩ := ownsRow_reads own1
                have P3 := P2.grow1 hgt gr1 own1
                have E2'' := E2'.grown gr1 (fun h => by have := (hgl _ h.symm); have := P0.T.lt; simp at *; omega)
                refine ⟨⟨P3.X, P3.T⟩, ?_⟩
                simp only [Act.put, List.setIfInBounds_toArray, List.set_cons_zero, List.set_cons_succ]
                clear P1 P2 E1 E2 E2' gr1 own1 bel1
                refine tr_pushes_at 1 rfl rfl (.tmp 111) (.tmp 113) 50 rfl styS (cs := #[.int .i64 (baseV S tA tR k)]) rfl (by intro u hu; simp at hu; subst hu; rfl) rfl P3.o2 (g := _) rfl E2'' (by omega) (by have := P3.z; omega) ?_
                intro v2 wb own2 bel2 gr2
                obtain ⟨A2, cc2, rfl, _, _⟩ := ownsRow_reads own2
                have P2 := P3.grow2 gr2 own2
                refine ⟨⟨P2.X, P2.T⟩, ?_⟩
                clear P0 P3 E2'' gr2 own2 bel2
                simp only [Act.put, List.setIfInBounds_toArray, List.set_cons_zero, List.set_cons_succ]
                have D := P2.done (Nat.le_refl _) ⟨s1, s2, rfl⟩
                have x0 := P2.X.cellOf (v := s1) 0 rfl
                have x1 := P2.X.cellOf (v := s2) 1 rfl
                have fz := P2.X.frozen
                have HD := Lib.hid D
                clear D P2
                (with_reducible (refine tr_free (v := ?_) rfl ?_ ?_ ?_); rotate_left; (first | exact wanted_none rfl | exact wanted_on rfl rfl rfl); (intro w'; go_simp; with_reducible rfl); simp only [Act.put, List.setIfInBounds_toArray, List.set_cons_zero, List.set_cons_succ])
                (with_reducible (refine tr_free (v := ?_) rfl ?_ ?_ ?_); rotate_left; (first | exact wanted_none rfl | exact wanted_on rfl rfl rfl); (intro w'; go_simp; with_reducible rfl); simp only [Act.put, List.setIfInBounds_toArray, List.set_cons_zero, List.set_cons_succ])
                (with_reducible (refine tr_wr (w' := ?_) rfl ?_ ?_ ?_); rotate_left; (first | exact wanted_none rfl | exact wanted_on rfl rfl rfl); (go_simp; with_reducible rfl); simp only [Act.put, List.setIfInBounds_toArray, List.set_cons_zero, List.set_cons_succ])
                (with_reducible (refine tr_free (v := ?_) rfl ?_ ?_ ?_); rotate_left; (first | exact wanted_none rfl | exact wanted_on rfl rfl rfl); (intro w'; go_simp; with_reducible rfl); simp only [Act.put, List.setIfInBounds_toArray, List.set_cons_zero, List.set_cons_succ])
                (with_reducible (refine tr_free (v := ?_) rfl ?_ ?_ ?_); rotate_left; (first | exact wanted_none rfl | exact wanted_on rfl rfl rfl); (intro w'; go_simp; with_reducible rfl); simp only [Act.put, List.setIfInBounds_toArray, List.set_cons_zero, List.set_cons_succ])
                have x1' : (wb.setCell ⟨w.heap.size, 0, none⟩ (.slice A1 (k + 1) cc1)).cell? ⟨w.heap.size, 1, none⟩ = some s2 := by rw [World.cell?_setCell_other _ _ _ _ (by simp)]; exact x1
                (with_reducible (refine tr_wr (w' := ?_) rfl ?_ ?_ ?_); rotate_left; (first | exact wanted_none rfl | exact wanted_on rfl rfl rfl); (go_simp; with_reducible rfl); simp only [Act.put, List.setIfInBounds_toArray, List.set_cons_zero, List.set_cons_succ])
                refine tr_nil ?_
                obtain ⟨d1, d2, d3, d4, d5⟩ := HD.out
                clear x0 x1 x1' fz HD
                generalize (wb.setCell ⟨w.heap.size, 0, none⟩ (.slice A1 (k + 1) cc1)).setCell ⟨w.heap.size, 1, none⟩ (.slice A2 (k + 1) cc2) = wz at *
                go_wp2_with fail
                go_roundw
                case rel => exact ⟨k + 1, _, _, by first | rfl | (refine congrArg (Value.int IntKind.i64) ?_; rw [IntWalk.wrap64_in _ ⟨by omega, by omega⟩]; rfl), by omega, rfl, HS1, d1, d2, d3, d4, d5⟩
                case measure => simp [intOf]; omega
      · obtain rfl : k = n := by omega
        have dn : decide ((k : Int) < (k : Int)) = false := by simp
        have hclk := clk_of hn0 hbx hO1 hO2
        have hE0 : E = 0 := by rw [HE.out]; exact hsc.out
        have H0 := Lib.hid hE0
        have HCL := Lib.hid hclk
        clear hclk hE0 hO1 hO2 hbx hlt hk
        go_wp2_with fail
        go_ret2
        exact ⟨.inr ⟨H0.out, _, rfl, Nat.le_refl _, HCL.out⟩, hb⟩
def NewP (w : World) (E : Int) (n : Nat) (tA tR bs : Nat → Int) (gr : Int) (e : Ending) (w' : World) : Prop :=
  (E ≠ 0 ∧ e = .returned (.tuple #[.pointer none, .int .i64 E]) ∨ E = 0 ∧ ∃ g, e = .returned (.tuple #[.pointer (some ⟨g, 0, none⟩), .int .i64 0]) ∧ w.heap.size ≤ g ∧ Clk w' g n tA tR bs gr) ∧ Below w.heap.size w w'
theorem new_any (S gr : Int) (A : Option Addr) (n c : Nat) (tA tR : Nat → Int) (w : World) (hT : TIn w A n tA tR) :
    Calls Try.prog 9 #[.int .i64 S, .int .i64 gr, .slice A n c] w (NewP w (newE S gr n tA tR) n tA tR (baseV S tA tR) gr) := by
  refine (new_anyB S gr A n c tA tR w hT).mono ?_
  rintro e w' ⟨h | ⟨h, g, he, hg, g1, c1, g2, c2, _, _, hC⟩, hb⟩
  · exact ⟨.inl h, hb⟩
  · exact ⟨.inr ⟨h, g, he, hg, g1, c1, g2, c2, hC⟩, hb⟩
end Go.Proofs.Ytfpbahihndgabaa
