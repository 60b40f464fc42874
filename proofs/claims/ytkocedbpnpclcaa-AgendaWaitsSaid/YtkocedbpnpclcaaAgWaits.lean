/-
  AgendaWaits: for all times and waits the law returns true: time that is waited for never passes what is to come, nor goes back. No condition.
-/
import Derived.Test.YtkocedbpnpclcaaAgL
namespace Go.Proofs.Ytkocedbpnpclcaa
set_option linter.unusedSimpArgs false
set_option linter.unusedVariables false
open Go.RowKit Go.WideShapes Go.ChangeShapes
attribute [local go_sem ↓] Go.wp_at_zero Go.wp_at_succ

/-- The first of so many times. -/
def First (t : Nat → Int) (n : Nat) (F : Int) : Prop := (∀ i, i < n → F ≤ t i) ∧ (n = 0 ∧ F = 1099511627776 ∨ ∃ i, i < n ∧ F = t i)
theorem first_step {t : Nat → Int} {n : Nat} {F F' : Int} (h : First t n F) (ht : t n ≤ 65535) (hF : F' ≤ F ∧ F' ≤ t n ∧ (F' = F ∨ F' = t n)) : First t (n + 1) F' := by
  obtain ⟨h1, h2⟩ := h
  refine ⟨fun i hi => ?_, .inr ?_⟩
  · by_cases e : i = n
    · rw [e]; omega
    · have := h1 i (by omega); omega
  · rcases hF.2.2 with e | e
    · rcases h2 with ⟨e1, e2⟩ | ⟨i, hi, e1⟩
      · exfalso; omega
      · exact ⟨i, by omega, e.trans e1⟩
    · exact ⟨n, by omega, e⟩
set_option maxRecDepth 100000 in
set_option maxHeartbeats 4000000 in
theorem agendaWaits_calls (A : Option Addr) (n c : Nat) (xs : List Value) (f : Nat → Int) (A2 : Option Addr) (n2 c2 : Nat) (xs2 : List Value) (f2 : Nat → Int) (w : World) (hr : Reads w w.heap.size 1 A n xs) (hx : ∀ i, i < n → xs[i]? = some (.int .i64 (f i)))
    (hr2 : Reads w w.heap.size 1 A2 n2 xs2) (hx2 : ∀ i, i < n2 → xs2[i]? = some (.int .i64 (f2 i))) :
    Calls Try.prog 4 #[.slice A n c, .slice A2 n2 c2] w fun e w' => e = .returned (.bool true) ∧ Below w.heap.size w w' := by
  have HR := Lib.hid (And.intro hr hx)
  have HR2 := Lib.hid (And.intro hr2 hx2)
  obtain ⟨t, ht⟩ : ∃ t : Nat → Int, ∀ i, bits .and .i64 (f i) 65535 = t i ∧ 0 ≤ t i ∧ t i ≤ 65535 := ⟨fun i => bits .and .i64 (f i) 65535, fun i => by
    obtain ⟨x, h1, h2, h3⟩ := and_mask (f i) 16 65535 rfl (by omega)
    exact ⟨rfl, by show 0 ≤ bits .and .i64 (f i) 65535; rw [h1]; exact h2, by show bits .and .i64 (f i) 65535 ≤ 65535; rw [h1]; exact h3⟩⟩
  have HT := Lib.hid ht
  clear hr hx hr2 hx2 ht
  by_cases hn : 60 < n
  · have dn : (60 : Int) < (n : Int) := by omega
    clear hn
    go_enter Try.func4, Try.ntmps4
    go_wp2_with fail
    refine (head_any _).mono ?_
    rintro e w1 ⟨rfl, b1⟩
    go_wp2_with fail
    go_ret
    exact ⟨rfl, b1⟩
  have dn : decide ((60 : Int) < (n : Int)) = false := by simp; omega
  by_cases hn2 : 60 < n2
  · have dn2 : (60 : Int) < (n2 : Int) := by omega
    clear hn hn2
    go_enter Try.func4, Try.ntmps4
    go_wp2_with fail
    refine (head_any _).mono ?_
    rintro e w1 ⟨rfl, b1⟩
    go_wp2_with fail
    go_ret
    exact ⟨rfl, b1⟩
  have dn2 : decide ((60 : Int) < (n2 : Int)) = false := by simp; omega
  have HN : Hid (n ≤ 60 ∧ n2 ≤ 60) := Lib.hid ⟨by omega, by omega⟩
  clear hn hn2
  go_enter Try.func4, Try.ntmps4
  go_wp2_with fail
  refine (head_any _).mono ?_
  rintro e w1 ⟨rfl, b1⟩
  have HB1 := Lib.hid b1
  clear b1
  go_wp2_with fail
  refine (new_anyI w1).mono ?_
  rintro e w2 ⟨g, S, rfl, hA, hS, hb⟩
  have HA : Hid (Has w w2 g S (tAg t 0)) := Lib.hid ⟨hA, fun k hk => Nat.le_trans HB1.out.size (hS k hk), HB1.out.trans (hb.mono HB1.out.size)⟩
  clear hA hS hb HB1
  go_wp2_with fail
  clear dn dn2
  go_loopw [6, 28] (fun nv i wr => ∃ (k : Nat) (F : Int) (S' : List Nat), nv = .int .i64 F ∧ i = .int .i64 (k : Nat) ∧ k ≤ n ∧ Hid (Has w wr g S' (tAg t k) ∧ First t k F)) (fun _ i _ => n - (intOf i).toNat)
  case atStart => exact ⟨0, 1099511627776, S, rfl, rfl, Nat.zero_le _, Lib.hid ⟨HA.out, fun i hi => absurd hi (Nat.not_lt_zero _), .inl ⟨rfl, rfl⟩⟩⟩
  case round =>
    clear HA
    obtain ⟨k, F, S', rfl, rfl, hk, hinv⟩ := hrel
    obtain ⟨wo, rfl⟩ : ∃ wo : World, wo = wr := ⟨_, rfl⟩
    by_cases hlt : k < n
    · obtain ⟨ad, rfl, hblk, hcell⟩ := (HR.out.1.below hinv.out.1.below).2 (by omega)
      have x0 := hcell k _ (HR.out.2 k hlt)
      have fm := (HT.out k).1
      obtain ⟨K, hK⟩ : ∃ K, K = k + 1 := ⟨_, rfl⟩
      have fk : IntKind.i64.wrap ((k : Int) + 1) = (K : Int) := by have := HN.out; rw [hK]; exact IntWalk.i64_in _ ⟨by omega, by omega⟩
      have HK := Lib.hid (And.intro hK hlt)
      clear hK hcell hblk
      have HC := Lib.hid (put_anyI wo g S' (tAg t k) hinv.out.1.at_ (t k) k (by have := HN.out; have := HK.out.2; show (k : Int) ≤ 1000000000; omega))
      go_wp2_with fail
      refine HC.out.mono ?_
      rintro e w3 (⟨h, _⟩ | ⟨_, he, S3, hA3, hS3, hF3⟩)
      · exact absurd (tAg_putE ⟨(HT.out k).2.1, by have := (HT.out k).2.2; omega⟩ (by have := HN.out; have := HK.out.2; omega)) h
      rw [tAg_put] at hA3
      rw [show (tAg t k).turn + 1 = (K : Int) from by rw [HK.out.1]; rfl] at he
      subst he
      have HI := Lib.hid (hinv.out.1.step hA3 hS3 hF3)
      have HF := Lib.hid hinv.out.2
      clear hA3 hS3 hF3 hinv HC fm x0
      have htk := (HT.out k).2.2
      go_wp2_with fail
      all_goals
        clear fk
        go_roundw
        case rel => exact ⟨K, _, S3, rfl, rfl, by have := HK.out; omega, Lib.hid ⟨by rw [HK.out.1]; exact HI.out, by rw [HK.out.1]; exact first_step HF.out htk ⟨by omega, by omega, by omega⟩⟩⟩
        case measure => have := HK.out; simp [intOf]; omega
    · obtain rfl : k = n := by omega
      clear hk
      have HI : Hid (Has w wo g S' (tAg t k) ∧ First t k F) := hinv
      clear hinv
      go_wp2_with fail
      clear hlt
      go_loopw [11, 50] (fun nv i wr => ∃ (q : Nat) (N : Int) (S2 : List Nat), nv = .int .i64 N ∧ i = .int .i64 (q : Nat) ∧ q ≤ n2 ∧ Hid (Has w wr g S2 ((tAg t k).at_ N) ∧ 0 ≤ N ∧ N ≤ F)) (fun _ i _ => n2 - (intOf i).toNat)
      case atStart => exact ⟨0, 0, S', rfl, rfl, Nat.zero_le _, Lib.hid ⟨HI.out.1, Int.le_refl _, by
        rcases HI.out.2.2 with ⟨_, e⟩ | ⟨i, _, e⟩
        · rw [e]; decide
        · rw [e]; exact (HT.out i).2.1⟩⟩
      case round =>
        have HFi := Lib.hid HI.out.2
        clear HI
        obtain ⟨q, N, S2, rfl, rfl, hq, hinv⟩ := hrel
        obtain ⟨wo2, rfl⟩ : ∃ wo2 : World, wo2 = wr := ⟨_, rfl⟩
        by_cases hlt : q < n2
        · obtain ⟨ad, rfl, hblk, hcell⟩ := (HR2.out.1.below hinv.out.1.below).2 (by omega)
          obtain ⟨X, hX⟩ : ∃ X, f2 q = X := ⟨_, rfl⟩
          have x0 := hcell q _ (HR2.out.2 q hlt)
          rw [hX] at x0
          have HC := Lib.hid (wait_anyI wo2 g S2 ((tAg t k).at_ N) hinv.out.1.at_ X)
          obtain ⟨Q, hQ⟩ : ∃ Q, Q = q + 1 := ⟨_, rfl⟩
          have fq : IntKind.i64.wrap ((q : Int) + 1) = (Q : Int) := by have := HN.out; rw [hQ]; exact IntWalk.i64_in _ ⟨by omega, by omega⟩
          have HQ := Lib.hid (And.intro hQ hlt)
          clear hcell hblk hX hQ
          go_wp2_with fail
          refine HC.out.mono ?_
          rintro e w3 ⟨T, hT, he, hA3, hF3⟩
          obtain ⟨V, hV⟩ : ∃ V, waitV ((tAg t k).at_ N).now T = V := ⟨_, rfl⟩
          rw [hV] at he hA3
          subst he
          have hVF : N ≤ V ∧ V ≤ F ∧ (V ≤ N ∨ V ≤ X) := by
            obtain ⟨_, h0, h1⟩ := hinv.out
            have e0 : V = max N (min T 1099511627776) := hV.symm
            have hTF : T ≤ X ∧ (T ≤ F ∨ F = 1099511627776) := by
              rcases hT with ⟨hnil, e1⟩ | ⟨m, hm, hmin, e1⟩
              · have hk0 : k = 0 := by
                  have : (tims t k).length = 0 := by rw [show tims t k = [] from hnil]; rfl
                  rw [tims_len] at this
                  exact this
                refine ⟨by omega, .inr ?_⟩
                rcases HFi.out.2 with ⟨_, e⟩ | ⟨i, hi, _⟩
                · exact e
                · omega
              · refine ⟨by omega, .inl ?_⟩
                obtain ⟨j, hj, hme⟩ := tims_mem hm
                rcases HFi.out.2 with ⟨e, _⟩ | ⟨i, hi, e⟩
                · omega
                · have h2 := hmin ⟨t i, (i : Int) + 1, (i : Int)⟩ (List.mem_map.2 ⟨i, List.mem_range.2 hi, rfl⟩)
                  unfold It.le at h2
                  have h3 : m.at_ ≤ t i := by
                    rcases h2 with h2 | ⟨h2, _⟩
                    · exact Int.le_of_lt h2
                    · exact Int.le_of_eq h2
                  omega
            omega
          have HN3 : Hid (Has w w3 g S2 ((tAg t k).at_ V)) := Lib.hid (hinv.out.1.step hA3 (Sub.refl _ _) hF3)
          have HO := Lib.hid (now_anyI w3 g S2 ((tAg t k).at_ V) hA3)
          have d1 : decide (V < N) = false := decide_eq_false (by omega)
          have d2 : decide (F < V) = false := decide_eq_false (by omega)
          have H0 : Hid (0 ≤ V ∧ V ≤ F) := Lib.hid ⟨by have := hinv.out.2.1; omega, hVF.2.1⟩
          have hcase : N ≤ X ∧ decide (X < V) = false ∨ X < N ∧ decide (N < V) = false := by
            by_cases h : N ≤ X
            · exact .inl ⟨h, decide_eq_false (by omega)⟩
            · exact .inr ⟨by omega, decide_eq_false (by omega)⟩
          clear hT hV hA3 hF3 hVF hinv HC x0
          rcases hcase with ⟨h1, d3⟩ | ⟨h1, d3⟩
          all_goals
            go_wp2_with fail
          all_goals
            first
            | (exfalso; have := of_decide_eq_false d3; omega)
            | (refine HO.out.mono ?_
               rintro e w4 ⟨rfl, rfl⟩
               rw [show ((tAg t k).at_ V).now = V from rfl]
               go_wp2_with fail
               clear fq
               go_roundw
               case rel => exact ⟨Q, V, S2, rfl, rfl, by have := HQ.out; omega, Lib.hid ⟨HN3.out, H0.out⟩⟩
               case measure => (have := HQ.out; simp [intOf]; omega))
        · obtain rfl : q = n2 := by omega
          have HL := Lib.hid (alen_anyI wo2 g S2 _ hinv.out.1.at_)
          have HW := Lib.hid hinv.out.1.below
          rw [show ((tAg t k).at_ N).its.length = k from tims_len t k] at HL
          clear hinv
          go_wp2_with fail
          refine HL.out.mono ?_
          rintro e w4 ⟨rfl, rfl⟩
          go_wp2_with fail
          go_ret
          exact ⟨rfl, HW.out⟩

/-! ### The row's step -/
set_option maxRecDepth 100000 in
theorem agendaWaits_lifted (os : Os) (started : os.Started) (H : Type) (enc : TypeId × Value → H) :
    ReturnsInHanded {} Try.checked os 4 .any (Rows.agendaWaitsSpec.pre6 enc Try.prog Try.f4 Rows.agendaWaitsRow.domain false) (Rows.agendaWaitsSpec.post enc Try.prog Try.f4 false true false false) := by
  refine returnsInHanded_of_change (C := Try.checked) own started (by kernel_rfl) Try.func4
    (ChangeSpec.witness6 (enc := enc) (C := Try.checked) false ⟨#[], #[.slice none 0 0, .slice none 0 0], []⟩ 8 (by kernel_rfl) (by kernel_rfl) (by kernel_rfl) (by kernel_rfl)) ?_
  intro W base args ds gs before hval0 hW _ _
  have hval : ∀ (j : Nat) t v, Try.f4.params[j]? = some t → args[j]? = some v → Value.okWide Try.prog W .any base t v := hval0
  have hW' := hW
  obtain ⟨p, q, hA0, hV, rfl, hfz, hnd⟩ := hW
  have hA : DataW.TrodAll enc Try.prog W 0 (fun _ => true) true Try.f4.params.toList args.toList ds p := hA0
  rw [Try.params4] at hA hval
  obtain ⟨v0, v1, d0, d1, p0, p1, rfl, rfl, rfl, h0, h1⟩ := trodAll_two hA
  obtain ⟨A, n, c, xs, f, rfl, hn, hr, hx⟩ := open_ints (hval 0 22 v0 rfl rfl) h0 (fun x hx => hW'.lt x (by simp [hx]))
  obtain ⟨A2, n2, c2, xs2, f2, rfl, hn2, hr2, hx2⟩ := open_ints (hval 1 22 v1 rfl rfl) h1 (fun x hx => hW'.lt x (by simp [hx]))
  exact law_post laidOut (by kernel_rfl) rfl (by kernel_rfl) Try.underlying4 rfl hW' (agendaWaits_calls A n c xs f A2 n2 c2 xs2 f2 W hr hx hr2 hx2)

theorem agendaWaits_holds : Rows.AgendaWaitsSaid :=
  OpenClaim.holds_of_wide 4 Try.f4 rfl rfl rfl rfl rfl rfl rfl ⟨rfl, rfl, rfl, rfl, rfl⟩ rfl rfl rfl rfl rfl (by kernel_rfl) Try.func4 (by kernel_rfl)
    (of_decide_eq_true (by kernel_rfl)) (by unfold Func.isWrapper; first | (rw [if_pos (by decide +kernel)]; kernel_rfl) | (rw [if_neg (by decide +kernel)]; exact ⟨rfl, rfl⟩))
    (fun os started H enc _ => agendaWaits_lifted os started H enc)

#print axioms agendaWaits_holds
end Go.Proofs.Ytkocedbpnpclcaa
