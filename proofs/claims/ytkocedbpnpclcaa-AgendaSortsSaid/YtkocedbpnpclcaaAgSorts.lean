/-
  AgendaSorts: for every list of times the law returns true: what was put comes by its times, of one time as it was put. No condition.
-/
import Derived.Test.YtkocedbpnpclcaaAgL
namespace Go.Proofs.Ytkocedbpnpclcaa
set_option linter.unusedSimpArgs false
set_option linter.unusedVariables false
open Go.RowKit Go.WideShapes Go.ChangeShapes
attribute [local go_sem ↓] Go.wp_at_zero Go.wp_at_succ

set_option maxRecDepth 100000 in
set_option maxHeartbeats 4000000 in
theorem agendaSorts_calls (A : Option Addr) (n c : Nat) (xs : List Value) (f : Nat → Int) (w : World) (hr : Reads w w.heap.size 1 A n xs) (hx : ∀ i, i < n → xs[i]? = some (.int .i64 (f i))) :
    Calls Try.prog 3 #[.slice A n c] w fun e w' => e = .returned (.bool true) ∧ Below w.heap.size w w' := by
  have HR := Lib.hid (And.intro hr hx)
  obtain ⟨t, ht⟩ : ∃ t : Nat → Int, ∀ i, bits .and .i64 (f i) 255 = t i ∧ 0 ≤ t i ∧ t i ≤ 255 := ⟨fun i => bits .and .i64 (f i) 255, fun i => by
    obtain ⟨x, h1, h2, h3⟩ := and_mask (f i) 8 255 rfl (by omega)
    exact ⟨rfl, by show 0 ≤ bits .and .i64 (f i) 255; rw [h1]; exact h2, by show bits .and .i64 (f i) 255 ≤ 255; rw [h1]; exact h3⟩⟩
  have HT := Lib.hid ht
  clear hr hx ht
  by_cases hn : 200 < n
  · have dn : (200 : Int) < (n : Int) := by omega
    clear hn
    go_enter Try.func3, Try.ntmps3
    go_wp2_with fail
    refine (head_any _).mono ?_
    rintro e w1 ⟨rfl, b1⟩
    go_wp2_with fail
    go_ret
    exact ⟨rfl, b1⟩
  have dn : decide ((200 : Int) < (n : Int)) = false := by simp; omega
  have HN : Hid (n ≤ 200) := Lib.hid (by omega)
  clear hn
  go_enter Try.func3, Try.ntmps3
  go_wp2_with fail
  refine (head_any _).mono ?_
  rintro e w1 ⟨rfl, b1⟩
  have HB1 := Lib.hid b1
  clear b1
  go_wp2_with fail
  refine (new_anyI w1).mono ?_
  rintro e w2 ⟨g, S, rfl, hA, hS, hb⟩
  have HA : Hid (Has w w2 g S (tAg t 0)) := Lib.hid ⟨hA, fun k hk => Nat.le_trans HB1.out.size (hS k hk), HB1.out.trans (hb.mono HB1.out.size)⟩
  clear hA hS hb HB1
  go_wp2_with fail
  clear dn
  go_loopw [4, 27] (fun nv i wr => ∃ (k : Nat) (S' : List Nat), nv = .int .i64 (k : Nat) ∧ i = .int .i64 (k : Nat) ∧ k ≤ n ∧ Hid (Has w wr g S' (tAg t k))) (fun _ i _ => n - (intOf i).toNat)
  case atStart => exact ⟨0, S, rfl, rfl, Nat.zero_le _, HA⟩
  case round =>
    clear HA
    obtain ⟨k, S', rfl, rfl, hk, hinv⟩ := hrel
    obtain ⟨wo, rfl⟩ : ∃ wo : World, wo = wr := ⟨_, rfl⟩
    by_cases hlt : k < n
    · obtain ⟨ad, rfl, hblk, hcell⟩ := (HR.out.1.below hinv.out.below).2 (by omega)
      have x0 := hcell k _ (HR.out.2 k hlt)
      have fm := (HT.out k).1
      obtain ⟨K, hK⟩ : ∃ K, K = k + 1 := ⟨_, rfl⟩
      have fk : IntKind.i64.wrap ((k : Int) + 1) = (K : Int) := by have := HN.out; rw [hK]; exact IntWalk.i64_in _ ⟨by omega, by omega⟩
      have HK := Lib.hid (And.intro hK hlt)
      clear hK hcell hblk
      have HC := Lib.hid (put_anyI wo g S' (tAg t k) hinv.out.at_ (t k) k (by have := HN.out; have := HK.out.2; show (k : Int) ≤ 1000000000; omega))
      go_wp2_with fail
      refine HC.out.mono ?_
      rintro e w3 (⟨h, _⟩ | ⟨_, he, S3, hA3, hS3, hF3⟩)
      · exact absurd (tAg_putE ⟨(HT.out k).2.1, by have := (HT.out k).2.2; omega⟩ (by have := HN.out; have := HK.out.2; omega)) h
      rw [tAg_put] at hA3
      rw [show (tAg t k).turn + 1 = (K : Int) from by rw [HK.out.1]; rfl] at he
      subst he
      have HI := Lib.hid (hinv.out.step hA3 hS3 hF3)
      clear hA3 hS3 hF3 hinv HC fm x0
      go_wp2_with fail
      clear fk
      go_roundw
      case rel => exact ⟨K, S3, rfl, rfl, by have := HK.out; omega, by rw [HK.out.1]; exact HI⟩
      case measure => have := HK.out; simp [intOf]; omega
    · obtain rfl : k = n := by omega
      clear hk
      have HI : Hid (Has w wo g S' (tAg t k)) := hinv
      clear hinv
      go_wp2_with fail
      clear hlt
      go_loopw [9, 10, 53] (fun lv tv i wr => ∃ (q : Nat) (last turn : Int) (S2 : List Nat) (a : Ag), lv = .int .i64 last ∧ tv = .int .i64 turn ∧ i = .int .i64 (q : Nat) ∧ q ≤ k ∧ Hid (Has w wr g S2 a ∧ a.its.length + q = k ∧ (∀ y ∈ a.its, y ∈ tims t k) ∧ (∀ y ∈ a.its, last < y.at_ ∨ last = y.at_ ∧ turn < y.turn) ∧ a.turn = k)) (fun _ _ i _ => k - (intOf i).toNat)
      case atStart => exact ⟨0, -1, 0, S', tAg t k, rfl, rfl, rfl, Nat.zero_le _, Lib.hid ⟨HI.out, by show (tims t k).length + 0 = k; rw [tims_len]; omega, fun y hy => hy, fun y hy => by obtain ⟨i, hi, rfl⟩ := tims_mem hy; have := (HT.out i).2.1; left; show -1 < t i; omega, rfl⟩⟩
      case round =>
        clear HI
        obtain ⟨q, last, turn, S2, a, rfl, rfl, rfl, hq, hinv⟩ := hrel
        obtain ⟨wo2, rfl⟩ : ∃ wo2 : World, wo2 = wr := ⟨_, rfl⟩
        have HC := Lib.hid (next_anyI wo2 g S2 a hinv.out.1.at_ 1099511627776 (by have := HN.out; have := hinv.out.2.2.2.2; omega))
        by_cases hlt : q < k
        · go_wp2_with fail
          refine HC.out.mono ?_
          rintro e w3 (⟨h, _⟩ | ⟨m, hm, hmin, _, he, S3, hA3, hS3, hF3⟩)
          · exfalso
            obtain ⟨_, hl, hsub, _⟩ := hinv.out
            obtain ⟨y, hy⟩ : ∃ y, y ∈ a.its := List.exists_mem_of_length_pos (by omega)
            have h1 := h y hy
            obtain ⟨i, hi, rfl⟩ := tims_mem (hsub y hy)
            have h2 := (HT.out i).2.2
            have h3 : 1099511627776 < t i := h1
            omega
          obtain ⟨hH, hl, hsub, hord, hat⟩ := hinv.out
          obtain ⟨i, hi, hme⟩ := tims_mem (hsub m hm)
          obtain ⟨i1, hi1⟩ : ∃ i1, i1 = i + 1 := ⟨_, rfl⟩
          have e1 : m.at_ = t i := by rw [hme]
          have e2 : m.turn = (i1 : Int) := by rw [hme, hi1]; rfl
          have e3 : m.what = (i : Int) := by rw [hme]
          have hlast := hord m hm
          have hg := gone_len hm hH.at_.facts.1
          rw [e1, e2] at hlast
          have HI : Hid (Has w w3 g S3 (a.gone m (t i)) ∧ (a.gone m (t i)).its.length + (q + 1) = k ∧ (∀ y ∈ (a.gone m (t i)).its, y ∈ tims t k) ∧ (∀ y ∈ (a.gone m (t i)).its, t i < y.at_ ∨ t i = y.at_ ∧ (i1 : Int) < y.turn) ∧ (a.gone m (t i)).turn = k) := Lib.hid (by
            rw [e1] at hA3
            refine ⟨hH.step hA3 hS3 hF3, by show (a.its.filter _).length + (q + 1) = k; omega, fun y hy => hsub y (List.mem_filter.1 hy).1, fun y hy => ?_, hat⟩
            obtain ⟨hy1, hy2⟩ := List.mem_filter.1 hy
            have h1 := hmin y hy1
            have h2 : y.turn ≠ m.turn := of_decide_eq_true hy2
            unfold It.le at h1
            rw [e1, e2] at h1
            rw [e2] at h2
            omega)
          rw [e1, e2, e3] at he
          subst he
          have f5 : IntKind.i64.wrap ((i1 : Int) - 1) = (i : Int) := by rw [show (i1 : Int) - 1 = (i : Int) by omega]; exact IntWalk.i64_in _ ⟨by have := HN.out; omega, by have := HN.out; omega⟩
          have d1 : decide ((i : Int) < 0) = false := decide_eq_false (by omega)
          have d2 : decide (k ≤ i) = false := decide_eq_false (by omega)
          obtain ⟨ad, rfl, hblk, hcell⟩ := (HR.out.1.below HI.out.1.below).2 (by omega)
          have x0 := hcell i _ (HR.out.2 i hi)
          have fm := (HT.out i).1
          have d3 : decide (t i < last) = false := decide_eq_false (by omega)
          have hcase : (t i == last) = true ∧ decide ((i1 : Int) ≤ turn) = false ∨ (t i == last) = false := by
            by_cases h : t i = last
            · exact .inl ⟨beq_iff_eq.2 h, decide_eq_false (by omega)⟩
            · exact .inr (beq_eq_false_iff_ne.2 h)
          have HX := Lib.hid (And.intro hi hlt)
          obtain ⟨Q, hQ⟩ : ∃ Q, Q = q + 1 := ⟨_, rfl⟩
          have fq : IntKind.i64.wrap ((q : Int) + 1) = (Q : Int) := by have := HN.out; rw [hQ]; exact IntWalk.i64_in _ ⟨by omega, by omega⟩
          have HQ := Lib.hid (And.intro hQ hlt)
          clear hH hl hsub hord hat hme hi1 e1 e2 e3 hlast hg hcell hA3 hS3 hF3 hinv hmin hm HC hQ
          rcases hcase with ⟨d4, d5⟩ | d4
          all_goals
            go_wp2_with fail
            clear f5 fm fq
            go_roundw
            case rel => exact ⟨Q, t i, i1, S3, a.gone m (t i), rfl, rfl, rfl, by have := HQ.out; omega, by rw [HQ.out.1]; exact HI⟩
            case measure => have := HQ.out; simp [intOf]; omega
        · obtain rfl : q = k := by omega
          go_wp2_with fail
          refine HC.out.mono ?_
          rintro e w3 (⟨_, rfl, hA3, hb3⟩ | ⟨m, hm, _⟩)
          rotate_left
          · exfalso
            have h1 := hinv.out.2.1
            have h2 := List.length_pos_of_mem hm
            omega
          have hH := hinv.out.1.kept hA3 hb3
          have hl0 : a.its.length = 0 := by have := hinv.out.2.1; omega
          have HL := Lib.hid (alen_anyI w3 g S2 a hA3)
          have HW := Lib.hid (And.intro hH.below hl0)
          clear hH hl0 hA3 hb3 HC hinv
          go_wp2_with fail
          refine HL.out.mono ?_
          rintro e w4 ⟨rfl, rfl⟩
          rw [HW.out.2]
          go_wp2_with fail
          go_ret
          exact ⟨rfl, HW.out.1⟩

/-! ### The row's step -/
set_option maxRecDepth 100000 in
theorem agendaSorts_lifted (os : Os) (started : os.Started) (H : Type) (enc : TypeId × Value → H) :
    ReturnsInHanded {} Try.checked os 3 .any (Rows.agendaSortsSpec.pre6 enc Try.prog Try.f3 Rows.agendaSortsRow.domain false) (Rows.agendaSortsSpec.post enc Try.prog Try.f3 false true false false) := by
  refine returnsInHanded_of_change (C := Try.checked) own started (by kernel_rfl) Try.func3
    (ChangeSpec.witness6 (enc := enc) (C := Try.checked) false ⟨#[], #[.slice none 0 0], []⟩ 8 (by kernel_rfl) (by kernel_rfl) (by kernel_rfl) (by kernel_rfl)) ?_
  intro W base args ds gs before hval0 hW _ _
  have hval : ∀ (j : Nat) t v, Try.f3.params[j]? = some t → args[j]? = some v → Value.okWide Try.prog W .any base t v := hval0
  have hW' := hW
  obtain ⟨p, q, hA0, hV, rfl, hfz, hnd⟩ := hW
  have hA : DataW.TrodAll enc Try.prog W 0 (fun _ => true) true Try.f3.params.toList args.toList ds p := hA0
  rw [Try.params3] at hA hval
  obtain ⟨v0, d0, rfl, rfl, h0⟩ := trodAll_one hA
  obtain ⟨A, n, c, xs, f, rfl, hn, hr, hx⟩ := open_ints (hval 0 22 v0 rfl rfl) h0 (fun x hx => hW'.lt x (by simp [hx]))
  exact law_post laidOut (by kernel_rfl) rfl (by kernel_rfl) Try.underlying4 rfl hW' (agendaSorts_calls A n c xs f W hr hx)

theorem agendaSorts_holds : Rows.AgendaSortsSaid :=
  OpenClaim.holds_of_wide 3 Try.f3 rfl rfl rfl rfl rfl rfl rfl ⟨rfl, rfl, rfl, rfl, rfl⟩ rfl rfl rfl rfl rfl (by kernel_rfl) Try.func3 (by kernel_rfl)
    (of_decide_eq_true (by kernel_rfl)) (by unfold Func.isWrapper; first | (rw [if_pos (by decide +kernel)]; kernel_rfl) | (rw [if_neg (by decide +kernel)]; exact ⟨rfl, rfl⟩))
    (fun os started H enc _ => agendaSorts_lifted os started H enc)

#print axioms agendaSorts_holds
end Go.Proofs.Ytkocedbpnpclcaa
