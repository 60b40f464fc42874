/-
  AgendaFull: whatever the time the law returns true: so much is to come, and no more; one that came makes room; a nil agenda has nothing. No condition.
-/
import Derived.Test.YtkocedbpnpclcaaAgL
namespace Go.Proofs.Ytkocedbpnpclcaa
set_option linter.unusedSimpArgs false
set_option linter.unusedVariables false
open Go.RowKit Go.WideShapes Go.ChangeShapes
attribute [local go_sem ↓] Go.wp_at_zero Go.wp_at_succ

set_option maxRecDepth 100000 in
set_option maxHeartbeats 4000000 in
theorem agendaFull_calls (at0 : Int) (w : World) : Calls Try.prog 7 #[.int .i64 at0] w fun e w' => e = .returned (.bool true) ∧ Below w.heap.size w w' := by
  obtain ⟨x, hx, hx0, hx1⟩ := and_mask at0 16 65535 rfl (by omega)
  have HX := Lib.hid (And.intro hx0 hx1)
  clear hx0 hx1
  go_enter Try.func7, Try.ntmps7
  go_wp2_with fail
  refine (head_any _).mono ?_
  rintro e w1 ⟨rfl, b1⟩
  have HB1 := Lib.hid b1
  clear b1
  go_wp2_with fail
  clear hx
  refine (new_anyI w1).mono ?_
  rintro e w2 ⟨g, S, rfl, hA, hS, hb⟩
  have HA : Hid (Has w w2 g S (tAg (fun _ => x) 0)) := Lib.hid ⟨hA, fun k hk => Nat.le_trans HB1.out.size (hS k hk), HB1.out.trans (hb.mono HB1.out.size)⟩
  clear hA hS hb HB1
  go_wp2_with fail
  go_loopw [4] (fun i wr => ∃ (k : Nat) (S' : List Nat), i = .int .i64 (k : Nat) ∧ k ≤ 8192 ∧ Hid (Has w wr g S' (tAg (fun _ => x) k))) (fun i _ => 8192 - (intOf i).toNat)
  case atStart => exact ⟨0, S, rfl, Nat.zero_le _, HA⟩
  case round =>
    clear HA
    obtain ⟨k, S', rfl, hk, hinv⟩ := hrel
    obtain ⟨wo, rfl⟩ : ∃ wo : World, wo = wr := ⟨_, rfl⟩
    by_cases hlt : k < 8192
    · have dl : (k : Int) < 8192 := by omega
      obtain ⟨K, hK⟩ : ∃ K, K = k + 1 := ⟨_, rfl⟩
      have fk : IntKind.i64.wrap ((k : Int) + 1) = (K : Int) := by rw [hK]; exact IntWalk.i64_in _ ⟨by omega, by omega⟩
      have HK := Lib.hid (And.intro hK hlt)
      clear hK hlt hk
      have HC := Lib.hid (put_anyI wo g S' (tAg (fun _ => x) k) hinv.out.at_ x k (by have := HK.out.2; show (k : Int) ≤ 1000000000; omega))
      go_wp2_with fail
      refine HC.out.mono ?_
      rintro e w3 (⟨h, _⟩ | ⟨_, he, S3, hA3, hS3, hF3⟩)
      · exact absurd (tAg_putE (t := fun _ => x) (k := k) ⟨HX.out.1, by have := HX.out.2; show x ≤ 1099511627776; omega⟩ HK.out.2) h
      have hp := tAg_put (fun _ => x) k
      rw [hp] at hA3
      subst he
      have HI := Lib.hid (hinv.out.step hA3 hS3 hF3)
      clear hA3 hS3 hF3 hinv HC hp
      go_wp2_with fail
      clear fk
      go_roundw
      case rel => exact ⟨K, S3, rfl, by have := HK.out; omega, by rw [HK.out.1]; exact HI⟩
      case measure => have := HK.out; simp [intOf]; omega
    · obtain rfl : k = 8192 := by omega
      clear hk hlt
      have hl : (tAg (fun _ => x) 8192).its.length = 8192 := tims_len _ _
      have hE : (tAg (fun _ => x) 8192).putE x = 30 := by
        unfold Ag.putE
        rw [if_neg (by have := HX.out; omega), if_neg (by have := HX.out; show ¬ x < 0; omega), if_pos (by rw [hl]; exact Nat.le_refl _)]
      have HP := Lib.hid (put_anyI wo g S' (tAg (fun _ => x) 8192) hinv.out.at_ x 0 (by show ((8192 : Nat) : Int) ≤ 1000000000; decide))
      rw [hE] at HP
      have HL := Lib.hid hl
      clear hl hE
      go_wp2_with fail
      refine HP.out.mono ?_
      rintro e w3 (⟨_, rfl, hA3, hb3⟩ | ⟨h, _⟩)
      rotate_left
      · exact absurd h (by decide)
      have HI := Lib.hid (hinv.out.kept hA3 hb3)
      have HC := Lib.hid (next_anyI w3 g S' (tAg (fun _ => x) 8192) hA3 x (by show ((8192 : Nat) : Int) ≤ 1000000000; decide))
      clear hinv hA3 hb3 HP
      go_wp2_with fail
      have hfirst : (⟨x, 1, 0⟩ : It) ∈ (tAg (fun _ => x) 8192).its := List.mem_map.2 ⟨0, List.mem_range.2 (by decide), rfl⟩
      refine HC.out.mono ?_
      rintro e w4 (⟨h, _⟩ | ⟨m, hm, hmin, _, he, S4, hA4, hS4, hF4⟩)
      · exact absurd (h _ hfirst) (Int.lt_irrefl _)
      obtain ⟨i, hi, hme⟩ := tims_mem hm
      have hle := hmin _ hfirst
      have hi0 : i = 0 := by
        rw [hme] at hle
        unfold It.le at hle
        simp at hle
        omega
      subst hi0
      have hme : m = ⟨x, 1, 0⟩ := hme
      subst hme
      have hgl := gone_len hm HI.out.at_.facts.1
      rw [HL.out] at hgl
      have hE2 : ((tAg (fun _ => x) 8192).gone ⟨x, 1, 0⟩ x).putE x = 0 := by
        unfold Ag.putE
        rw [if_neg (by have := HX.out; omega), if_neg (by show ¬ x < x; omega), if_neg (by intro h; have h2 : 8192 ≤ ((tAg (fun _ => x) 8192).its.filter fun y => decide (y.turn ≠ (⟨x, 1, 0⟩ : It).turn)).length := h; omega)]
      have HI4 := Lib.hid (HI.out.step hA4 hS4 hF4)
      have HP := Lib.hid (put_anyI w4 g S4 ((tAg (fun _ => x) 8192).gone ⟨x, 1, 0⟩ x) hA4 x 7 (by show ((8192 : Nat) : Int) ≤ 1000000000; decide))
      rw [hE2] at HP
      subst he
      clear hA4 hS4 hF4 hm hmin hle hgl hE2 HI HC hfirst hi
      go_wp2_with fail
      refine HP.out.mono ?_
      rintro e w5 (⟨h, _⟩ | ⟨_, he, S5, hA5, hS5, hF5⟩)
      · exact absurd rfl h
      have HI5 := Lib.hid (HI4.out.step hA5 hS5 hF5).below
      obtain ⟨T, hT⟩ : ∃ T, ((tAg (fun _ => x) 8192).gone ⟨x, 1, 0⟩ x).turn + 1 = T := ⟨_, rfl⟩
      rw [hT] at he
      subst he
      clear hA5 hS5 hF5 HI4 HP hT
      go_wp2_with fail
      refine (put_nilI 0 0 w5).mono ?_
      rintro e w6 ⟨rfl, rfl⟩
      go_wp2_with fail
      refine (next_nilI 9 w5).mono ?_
      rintro e w6 ⟨rfl, rfl⟩
      go_wp2_with fail
      refine (drop_nilI 1 w5).mono ?_
      rintro e w6 ⟨rfl, rfl⟩
      go_wp2_with fail
      refine (wait_nilI 5 w5).mono ?_
      rintro e w6 ⟨rfl, rfl⟩
      go_wp2_with fail
      refine (now_nilI w5).mono ?_
      rintro e w6 ⟨rfl, rfl⟩
      go_wp2_with fail
      refine (alen_nilI w5).mono ?_
      rintro e w6 ⟨rfl, rfl⟩
      go_wp2_with fail
      go_ret
      exact ⟨rfl, HI5.out⟩

/-! ### The row's step -/
set_option maxRecDepth 100000 in
theorem agendaFull_lifted (os : Os) (started : os.Started) (H : Type) (enc : TypeId × Value → H) :
    ReturnsInHanded {} Try.checked os 7 .any (Rows.agendaFullSpec.pre6 enc Try.prog Try.f7 Rows.agendaFullRow.domain false) (Rows.agendaFullSpec.post enc Try.prog Try.f7 false true false false) := by
  refine returnsInHanded_of_change (C := Try.checked) own started (by kernel_rfl) Try.func7
    (ChangeSpec.witness6 (enc := enc) (C := Try.checked) false ⟨#[], #[.int .i64 0], []⟩ 8 (by kernel_rfl) (by kernel_rfl) (by kernel_rfl) (by kernel_rfl)) ?_
  intro W base args ds gs before hval0 hW _ _
  have hval : ∀ (j : Nat) t v, Try.f7.params[j]? = some t → args[j]? = some v → Value.okWide Try.prog W .any base t v := hval0
  have hW' := hW
  obtain ⟨p, q, hA0, hV, rfl, hfz, hnd⟩ := hW
  have hA : DataW.TrodAll enc Try.prog W 0 (fun _ => true) true Try.f7.params.toList args.toList ds p := hA0
  rw [Try.params7] at hA hval
  obtain ⟨v0, d0, rfl, rfl, h0⟩ := trodAll_one hA
  obtain ⟨x, rfl⟩ := okWide_int Try.underlying3 (hval 0 3 v0 rfl rfl)
  exact law_post laidOut (by kernel_rfl) rfl (by kernel_rfl) Try.underlying4 rfl hW' (agendaFull_calls x W)

theorem agendaFull_holds : Rows.AgendaFullSaid :=
  OpenClaim.holds_of_wide 7 Try.f7 rfl rfl rfl rfl rfl rfl rfl ⟨rfl, rfl, rfl, rfl, rfl⟩ rfl rfl rfl rfl rfl (by kernel_rfl) Try.func7 (by kernel_rfl)
    (of_decide_eq_true (by kernel_rfl)) (by unfold Func.isWrapper; first | (rw [if_pos (by decide +kernel)]; kernel_rfl) | (rw [if_neg (by decide +kernel)]; exact ⟨rfl, rfl⟩))
    (fun os started H enc _ => agendaFull_lifted os started H enc)

#print axioms agendaFull_holds
end Go.Proofs.Ytkocedbpnpclcaa
