/-
  PeerSeqs: for any two numbers the law returns true: questions are numbered one behind the other, round and round. No condition.
-/
import Derived.Test.YtbkflmeijjcnhaaPeerH
namespace Go.Proofs.Ytbkflmeijjcnhaa
set_option linter.unusedSimpArgs false
set_option linter.unusedVariables false
open Go.RowKit Go.WideShapes Go.ChangeShapes
attribute [local go_sem ↓] Go.wp_at_zero Go.wp_at_succ

structure Seqs (p : Pe) (k : Nat) : Prop where
  cf : p.cf = conf0
  bad : 0 ≤ p.bad ∧ p.bad ≤ 100
  seq : p.seq = (k : Int) % 65536
  mn : p.mn = 0
  rate : p.rate = 2199023255552
theorem Seqs.ask {p : Pe} {k : Nat} (h : Seqs p k) : Seqs (askP p) (k + 1) := by
  have hb : 0 ≤ (askP p).bad ∧ (askP p).bad ≤ 100 ∧ (askP p).mn = 0 ∧ (askP p).rate = 2199023255552 := by
    show 0 ≤ (if p.asked = true then failP p else p).bad ∧ (if p.asked = true then failP p else p).bad ≤ 100 ∧ (if p.asked = true then failP p else p).mn = 0 ∧ (if p.asked = true then failP p else p).rate = 2199023255552
    have hl : p.cf.lost = 3 := by rw [h.cf]; rfl
    have := h.bad
    split
    · unfold failP
      split
      · exact ⟨by show 0 ≤ p.cf.lost; omega, by show p.cf.lost ≤ 100; omega, rfl, rfl⟩
      · exact ⟨by show 0 ≤ p.bad + 1; omega, by show p.bad + 1 ≤ 100; omega, h.mn, h.rate⟩
    · exact ⟨this.1, this.2, h.mn, h.rate⟩
  exact ⟨by rw [askP_cf]; exact h.cf, ⟨hb.1, hb.2.1⟩, by rw [askP_seq, h.seq]; omega, hb.2.2.1, hb.2.2.2⟩
theorem Seqs.down {p : Pe} {k : Nat} (h : Seqs p k) : Seqs (downP p) k := ⟨h.cf, ⟨by show (0 : Int) ≤ 0; omega, by show (0 : Int) ≤ 100; omega⟩, h.seq, rfl, rfl⟩
set_option maxRecDepth 100000 in
set_option maxHeartbeats 8000000 in
theorem peerSeqs_calls (x1 x2 : Int) (w : World) : Calls Try.prog 13 #[.int .i64 x1, .int .i64 x2] w fun e w' => e = .returned (.bool true) ∧ Below w.heap.size w w' := by
  have e1 : bits .and .i64 x1 131071 = x1 % 131072 := andI x1 17 (by omega) _ rfl
  have e2 : bits .and .i64 x2 131071 = x2 % 131072 := andI x2 17 (by omega) _ rfl
  obtain ⟨n, hn⟩ : ∃ n : Nat, x1 % 131072 = (n : Int) := ⟨(x1 % 131072).toNat, by omega⟩
  have hn2 : n < 131072 := by omega
  rw [hn] at e1
  generalize x2 % 131072 = D at *
  clear hn
  go_enter Try.func13, Try.ntmps13
  go_wp2_with fail
  refine (head17 w).mono ?_
  rintro e w0 ⟨rfl, L0⟩
  go_wp2_with fail
  refine (conf_any w0).mono ?_
  rintro e w1 ⟨rfl, L1⟩
  go_wp2_with fail
  refine (penew_ok conf0 conf0_right w1).mono ?_
  rintro e w2 ⟨g, rfl, B2, hg, L2⟩
  have LL1 := L0.trans (L1.mono L0.size)
  have L := LL1.trans (L2.mono LL1.size)
  have hgw : w.heap.size ≤ g := Nat.le_trans LL1.size hg
  have S2 : Seqs (peNew conf0) 0 := ⟨rfl, ⟨by show (0 : Int) ≤ 0; omega, by show (0 : Int) ≤ 100; omega⟩, rfl, rfl, rfl⟩
  clear L0 L1 L2 LL1 hg e1 e2
  go_wp2_with fail
  go_loopw [7, 8] (fun s i wr => ∃ (k : Nat) (p : Pe), k ≤ n ∧ s = .int .i64 ((k : Int) % 65536) ∧ i = .int .i64 k ∧ PeIn wr g p ∧ Hid (Seqs p k) ∧ Below w.heap.size w wr) (fun _ i _ => n - (intOf i).toNat)
  case atStart => exact ⟨0, _, Nat.zero_le _, rfl, rfl, B2, Lib.hid S2, L⟩
  case round =>
    clear B2 L S2
    obtain ⟨k, p, hk, rfl, rfl, B, HS, L⟩ := hrel
    by_cases hkn : k < n
    · obtain ⟨s0, hs0⟩ : ∃ s0, s0 = (k : Int) % 65536 := ⟨_, rfl⟩
      obtain ⟨s1, hs1⟩ : ∃ s1, s1 = ((k + 1 : Nat) : Int) % 65536 := ⟨_, rfl⟩
      have f1 : IntKind.i64.wrap (s0 + 1) = s0 + 1 := wrap_of (by omega) (by omega)
      have f2 : (s0 + 1).tmod 65536 = s1 := by rw [Int.tmod_eq_emod_of_nonneg (by omega)]; omega
      have f3 : IntKind.i64.wrap s1 = s1 := wrap_of (by omega) (by omega)
      rw [← hs0]
      have HX : Hid (((k + 1 : Nat) : Int) % 65536 = s1) := Lib.hid hs1.symm
      have H0 := Lib.hid hs0
      clear hs0 hs1
      have hcase : ∃ (p' : Pe), Seqs p' k ∧ (((k : Int) == D) = true ∧ p' = downP p ∨ ((k : Int) == D) = false ∧ p' = p) := by
        cases hd : ((k : Int) == D)
        · exact ⟨p, HS.out, .inr ⟨rfl, rfl⟩⟩
        · exact ⟨downP p, HS.out.down, .inl ⟨rfl, rfl⟩⟩
      obtain ⟨p', S', hc⟩ := hcase
      have HS' := Lib.hid S'
      have ha : (askM p').seq = s1 := by show (p'.seq + 1) % 65536 = s1; rw [S'.seq, ← HX.out]; omega
      have HA := Lib.hid (fun W B => ask_any p' g W B S'.bad (by rw [S'.seq]; omega))
      have HSA := Lib.hid S'.ask
      generalize askM p' = ms at *
      clear S'
      rcases hc with ⟨b, hp'⟩ | ⟨b, hp'⟩
      · go_wp2_with fail
        refine (down_any p g wr B).mono ?_
        rintro e w3 ⟨rfl, B3, G3⟩
        rw [← hp'] at B3
        have L3 := L.trans (below_one G3 L.size hgw)
        clear B G3 L hp' b HS
        go_wp2_with fail
        refine (HA.out _ B3).mono ?_
        rintro e w4 ⟨rfl, B4, G4⟩
        have L4 := L3.trans (below_one G4 L3.size hgw)
        have B5 := B4.alloc (.cells (mcells ms none 0 0) 33)
        have L5 := L4.alloc L4.size (.cells (mcells ms none 0 0) 33)
        have x2 := (Blk.new w4 33 (mcells ms none 0 0)).cellOf (v := .int .i64 s1) 2 (by rw [← ha]; rfl)
        clear B3 G4 L3 L4 B4 ha HA
        go_wp2_with (refine wpList_store_new rfl 33 (.tmp 9) (.tmp 37) rfl rfl rfl rfl rfl (by kernel_rfl) (by rw [← Array.all_toList]; rfl) ?_; generalize w4.alloc (.cells (mcells ms none 0 0) 33) = w5 at *)
        go_roundw
        case rel => exact ⟨k + 1, _, by omega, by rw [HX.out], by go_num, B5, HSA, L5⟩
        case measure => simp [intOf]; omega
      · rw [← hp'] at B
        clear hp' HS
        go_wp2_with fail
        refine (HA.out _ B).mono ?_
        rintro e w4 ⟨rfl, B4, G4⟩
        have L4 := L.trans (below_one G4 L.size hgw)
        have B5 := B4.alloc (.cells (mcells ms none 0 0) 33)
        have L5 := L4.alloc L4.size (.cells (mcells ms none 0 0) 33)
        have x2 := (Blk.new w4 33 (mcells ms none 0 0)).cellOf (v := .int .i64 s1) 2 (by rw [← ha]; rfl)
        clear B G4 L L4 B4 ha HA
        go_wp2_with (refine wpList_store_new rfl 33 (.tmp 9) (.tmp 37) rfl rfl rfl rfl rfl (by kernel_rfl) (by rw [← Array.all_toList]; rfl) ?_; generalize w4.alloc (.cells (mcells ms none 0 0) 33) = w5 at *)
        go_roundw
        case rel => exact ⟨k + 1, _, by omega, by rw [HX.out], by go_num, B5, HSA, L5⟩
        case measure => simp [intOf]; omega
    · obtain rfl : n = k := by omega
      go_wp2_with fail
      refine (able_any p g wr B).mono ?_
      rintro e w3 ⟨rfl, B3, L3⟩
      have L3' := L.trans (L3.mono L.size)
      rw [show ableV p = false by unfold ableV; rw [HS.out.mn]; rfl]
      clear B L L3
      go_wp2_with fail
      refine (perate_run p g w3 B3).mono ?_
      rintro e w4 ⟨rfl, rfl⟩
      rw [HS.out.rate]
      go_wp2_with fail
      go_ret
      exact ⟨rfl, L3'⟩

/-! ### The row's step -/
set_option maxRecDepth 100000 in
theorem peerSeqs_lifted (os : Os) (started : os.Started) (H : Type) (enc : TypeId × Value → H) :
    ReturnsInHanded {} Try.checked os 13 .any (Rows.peerSeqsSpec.pre6 enc Try.prog Try.f13 Rows.peerSeqsRow.domain false) (Rows.peerSeqsSpec.post enc Try.prog Try.f13 false true false false) := by
  refine returnsInHanded_of_change (C := Try.checked) own started (by kernel_rfl) Try.func13
    (ChangeSpec.witness6 (enc := enc) (C := Try.checked) false ⟨#[], #[.int .i64 0, .int .i64 0], []⟩ 8 (by kernel_rfl) (by kernel_rfl) (by kernel_rfl) (by kernel_rfl)) ?_
  intro W base args ds gs before hval0 hW _ _
  have hval : ∀ (j : Nat) t v, Try.f13.params[j]? = some t → args[j]? = some v → Value.okWide Try.prog W .any base t v := hval0
  have hW' := hW
  obtain ⟨p, q, hA0, hV, rfl, hfz, hnd⟩ := hW
  have hA : DataW.TrodAll enc Try.prog W 0 (fun _ => true) true Try.f13.params.toList args.toList ds p := hA0
  rw [Try.params13] at hA hval
  obtain ⟨v0, v1, d0, d1, p0, p1, rfl, rfl, rfl, h0, h1⟩ := trodAll_two hA
  obtain ⟨x1, rfl⟩ := okWide_int Try.underlying3 (hval 0 3 v0 rfl rfl)
  obtain ⟨x2, rfl⟩ := okWide_int Try.underlying3 (hval 1 3 v1 rfl rfl)
  exact law_post laidOut (by kernel_rfl) rfl (by kernel_rfl) Try.underlying4 rfl hW' (peerSeqs_calls x1 x2 W)

theorem peerSeqs_holds : Rows.PeerSeqsSaid :=
  OpenClaim.holds_of_wide 13 Try.f13 rfl rfl rfl rfl rfl rfl rfl ⟨rfl, rfl, rfl, rfl, rfl⟩ rfl rfl rfl rfl rfl (by kernel_rfl) Try.func13 (by kernel_rfl)
    (of_decide_eq_true (by kernel_rfl)) (by unfold Func.isWrapper; first | (rw [if_pos (by decide +kernel)]; kernel_rfl) | (rw [if_neg (by decide +kernel)]; exact ⟨rfl, rfl⟩))
    (fun os started H enc _ => peerSeqs_lifted os started H enc)

#print axioms peerSeqs_holds
end Go.Proofs.Ytbkflmeijjcnhaa
