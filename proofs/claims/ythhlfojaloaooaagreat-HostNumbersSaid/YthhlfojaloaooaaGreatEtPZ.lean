/-
  ether: what is written is read again.
-/
import Derived.Test.YthhlfojaloaooaaGreatRows
import Derived.Test.YthhlfojaloaooaaGreatEtOZ
import Derived.WalkKit
import Derived.ProofKit
import Derived.OpenShut
import Derived.LoopTactic
import Derived.WalkLawsBesides
import Derived.WalkSpells
import Derived.Outline
import Derived.Lib.Hide
import Derived.Deep.DrawnRows
import Derived.Laws.CopyOwn
import Derived.MapKept
namespace Go.Proofs.YthhlfojaloaooaaGreat
set_option linter.unusedSimpArgs false
set_option linter.unusedVariables false
open Go.RowKit Go.WideShapes Go.ChangeShapes
attribute [local go_sem ↓] Go.wp_at_zero Go.wp_at_succ

theorem num2_be2 {x : Int} (h0 : 0 ≤ x) (h1 : x ≤ 65535) (r : List Int) : num2 (be2 x ++ r) = x := by
  show x / 256 % 256 * 256 + x % 256 = x
  omega
theorem drop2_be2 (x : Int) (r : List Int) : (be2 x ++ r).drop 2 = r := rfl
theorem drop4_be2 (x y : Int) (r : List Int) : (be2 x ++ (be2 y ++ r)).drop 4 = r := rfl
theorem drop6_be2 (x y z : Int) (r : List Int) : (be2 x ++ (be2 y ++ (be2 z ++ r))).drop 6 = r := rfl
theorem checkF_zero {f : Fm} (h : checkF f = 0) : ¬ BadF f ∧ ¬ BareF f ∧ f.ty ≠ 33024 ∧ f.ty ≠ 61889 ∧ sizeF f ≤ 1600 := by
  unfold checkF at h
  split at h
  · cases h
  · rename_i h1
    split at h
    · cases h
    · rename_i h2
      split at h
      · cases h
      · rename_i h3
        split at h
        · cases h
        · rename_i h4
          exact ⟨h1, h2, fun e => h3 (.inl e), fun e => h3 (.inr e), by omega⟩
theorem decD_enc {f g : Fm} (hc : checkF f = 0) (hg : { g with data := f.data } = f) (hl : f.data.length ≤ 65535) (k : Nat) (total : Int) (ht : total = max 64 (sizeF f)) : decD g (be2 (f.data.length : Int) ++ (f.data ++ List.replicate k 0)) total = .ok f := by
  have hn : num2 (be2 (f.data.length : Int) ++ (f.data ++ List.replicate k 0)) = (f.data.length : Int) := num2_be2 (by omega) (by omega) _
  have ht2 : (f.data ++ List.replicate k (0 : Int)).take f.data.length = f.data := List.take_left' rfl
  have hd2 : (f.data ++ List.replicate k (0 : Int)).drop f.data.length = List.replicate k 0 := List.drop_left' rfl
  unfold decD
  rw [hn, drop2_be2, Int.toNat_natCast, ht2, hg, hd2, if_neg, if_neg, if_pos]
  · rw [List.all_eq_true]
    intro x hx
    rw [List.eq_of_mem_replicate hx]
    rfl
  · rintro (h | h)
    · exact h hc
    · exact h ht
  · simp only [List.length_append, be2_len, List.length_replicate]
    omega
theorem decC_enc {f g : Fm} (hc : checkF f = 0) (hl : f.data.length ≤ 65535) (k : Nat) (total : Int) (ht : total = max 64 (sizeF f)) (hg : { g with many := f.many, seq := f.seq, ty := f.ty, data := f.data } = f) (hm0 : g.many = false ∧ g.seq = 0)
    (hty : g.ty = if f.many then 61889 else f.ty) : decC g ((if f.many then be2 0 ++ (be2 f.seq ++ be2 f.ty) else []) ++ (be2 (f.data.length : Int) ++ (f.data ++ List.replicate k 0))) total = .ok f := by
  obtain ⟨hb, hr, h1, h2, h3⟩ := checkF_zero hc
  unfold BadF at hb
  unfold BareF at hr
  unfold decC
  cases hm : f.many with
  | true =>
    rw [hm] at hty
    simp only [if_true] at hty ⊢
    rw [if_pos hty, show be2 0 ++ (be2 f.seq ++ be2 f.ty) ++ (be2 (f.data.length : Int) ++ (f.data ++ List.replicate k 0)) = be2 0 ++ (be2 f.seq ++ (be2 f.ty ++ (be2 (f.data.length : Int) ++ (f.data ++ List.replicate k 0)))) by simp, num2_be2 (by decide) (by decide), if_neg (by decide), drop2_be2, drop4_be2, drop6_be2, num2_be2 (by omega) (by omega), num2_be2 (by omega) (by omega)]
    refine decD_enc hc ?_ hl k total ht
    rw [hm] at hg
    exact hg
  | false =>
    rw [hm] at hty
    simp only [Bool.false_eq_true, if_false] at hty ⊢
    rw [if_neg (by rw [hty]; exact h2), List.nil_append]
    refine decD_enc hc ?_ hl k total ht
    have hs : f.seq = 0 := by
      rcases Classical.em (f.seq = 0) with h | h
      · exact h
      · exact absurd (.inr ⟨hm, h⟩) hr
    rw [hm, hs, ← hty] at hg
    obtain ⟨hm1, hm2⟩ := hm0
    rw [← hg]
    cases g
    simp only at hm1 hm2
    subst hm1 hm2
    rfl
theorem padF_eq (f : Fm) : ∃ k, padF (bodyF f) = (f.dst ++ f.src) ++ ((if f.tagged then be2 33024 ++ be2 (tagV f.prio f.vid f.drop) else []) ++ ((if f.many then be2 61889 ++ (be2 0 ++ be2 f.seq) else []) ++ (be2 f.ty ++ (be2 (f.data.length : Int) ++ (f.data ++ List.replicate k 0))))) := by
  refine ⟨60 - (bodyF f).length, ?_⟩
  unfold padF
  generalize List.replicate (60 - (bodyF f).length) (0 : Int) = Z
  unfold bodyF headF
  simp only [List.append_assoc]
theorem bodyF_len (f : Fm) (hf : f.Wf) : ((bodyF f).length : Int) + 4 = sizeF f := by
  unfold bodyF headF sizeF
  simp only [List.length_append, be2_len, hf.dst, hf.src]
  cases f.tagged <;> cases f.many <;> simp [be2_len] <;> omega
theorem padF_len (f : Fm) (hf : f.Wf) : ((padF (bodyF f)).length : Int) + 4 = max 64 (sizeF f) := by
  have h := bodyF_len f hf
  unfold padF
  rw [List.length_append, List.length_replicate]
  omega
/-- What is read again is what was written. -/
theorem dec_enc (f : Fm) (hf : f.Wf) (hc : checkF f = 0) : decV (encF f) = .ok f := by
  obtain ⟨hb, hr, h1, h2, h3⟩ := checkF_zero hc
  have hlen := padF_len f hf
  have hl : f.data.length ≤ 65535 := by
    unfold sizeF at h3
    have : (0 : Int) ≤ (if f.tagged then 4 else 0) := by split <;> decide
    have : (0 : Int) ≤ (if f.many then 6 else 0) := by split <;> decide
    omega
  obtain ⟨k, hk⟩ := padF_eq f
  unfold decV encF
  rw [if_neg, if_neg, open_close]
  · show decB (fm0 (padF (bodyF f))) ((padF (bodyF f)).drop 14) (((padF (bodyF f)).length : Int) + 4) = .ok f
    rw [hlen, hk]
    unfold BadF at hb
    unfold BareF at hr
    have hd12 : (f.dst ++ f.src).length = 12 := by rw [List.length_append, hf.dst, hf.src]
    obtain ⟨Y, hY⟩ : ∃ Y, Y = (if f.tagged then be2 33024 ++ be2 (tagV f.prio f.vid f.drop) else []) ++ ((if f.many then be2 61889 ++ (be2 0 ++ be2 f.seq) else []) ++ (be2 f.ty ++ (be2 (f.data.length : Int) ++ (f.data ++ List.replicate k 0)))) := ⟨_, rfl⟩
    rw [← hY]
    have e1 : ((f.dst ++ f.src) ++ Y).take 6 = f.dst := by rw [List.append_assoc]; exact List.take_left' hf.dst
    have e2 : (((f.dst ++ f.src) ++ Y).drop 6).take 6 = f.src := by rw [List.append_assoc, List.drop_left' hf.dst]; exact List.take_left' hf.src
    have e3 : ((f.dst ++ f.src) ++ Y).drop 12 = Y := List.drop_left' hd12
    have e4 : ((f.dst ++ f.src) ++ Y).drop 14 = Y.drop 2 := by rw [← e3, List.drop_drop, e3]
    unfold fm0
    rw [e1, e2, e3, e4]
    obtain ⟨M, hM⟩ : ∃ M, M = (if f.many then be2 0 ++ (be2 f.seq ++ be2 f.ty) else []) ++ (be2 (f.data.length : Int) ++ (f.data ++ List.replicate k 0)) := ⟨_, rfl⟩
    obtain ⟨t2, ht2⟩ : ∃ t2, t2 = if f.many then 61889 else f.ty := ⟨_, rfl⟩
    have ht2r : 0 ≤ t2 ∧ t2 ≤ 65535 ∧ t2 ≠ 33024 := by rw [ht2]; split <;> omega
    have hYM : Y = (if f.tagged then be2 33024 ++ be2 (tagV f.prio f.vid f.drop) else []) ++ (be2 t2 ++ M) := by
      rw [hY, hM, ht2]
      cases f.many <;> simp
    have hC := fun (g : Fm) hg hm0 hty => decC_enc (f := f) (g := g) hc hl k (max 64 (sizeF f)) rfl hg hm0 hty
    rw [← hM] at hC
    rw [← ht2] at hC
    unfold decB
    cases htg : f.tagged with
    | true =>
      rw [htg] at hYM
      simp only [if_true, List.append_assoc] at hYM
      have htv : 0 ≤ tagV f.prio f.vid f.drop ∧ tagV f.prio f.vid f.drop ≤ 65535 := by unfold tagV; split <;> omega
      rw [hYM, num2_be2 (by decide) (by decide), if_pos rfl, drop2_be2, num2_be2 htv.1 htv.2, drop2_be2, num2_be2 ht2r.1 ht2r.2.1, drop4_be2]
      refine hC _ ?_ ⟨rfl, rfl⟩ rfl
      have x1 : tagV f.prio f.vid f.drop / 8192 = f.prio := by unfold tagV; split <;> omega
      have x2 : (tagV f.prio f.vid f.drop / 4096 % 2 == 1) = f.drop := by
        unfold tagV
        cases f.drop
        · simp only [Bool.false_eq_true, if_false]; rw [beq_eq_false_iff_ne]; omega
        · simp only [if_true]; rw [beq_iff_eq]; omega
      have x3 : tagV f.prio f.vid f.drop % 4096 = f.vid := by unfold tagV; split <;> omega
      rw [x1, x2, x3]
      cases f
      simp only at htg
      subst htg
      rfl
    | false =>
      rw [htg] at hYM
      simp only [Bool.false_eq_true, if_false, List.nil_append] at hYM
      rw [hYM, num2_be2 ht2r.1 ht2r.2.1, if_neg ht2r.2.2, drop2_be2]
      refine hC _ ?_ ⟨rfl, rfl⟩ rfl
      have hz : f.vid = 0 ∧ f.prio = 0 ∧ f.drop = false := by
        rcases Classical.em (f.vid ≠ 0 ∨ f.prio ≠ 0 ∨ f.drop = true) with h | h
        · exact absurd (.inl ⟨htg, h⟩) hr
        · cases hdr : f.drop
          · exact ⟨by omega, by omega, rfl⟩
          · exact absurd (.inr (.inr hdr)) h
      obtain ⟨z1, z2, z3⟩ := hz
      cases f
      simp only at htg z1 z2 z3
      subst htg z1 z2 z3
      rfl
  · simp only [List.length_append, le4, List.length_cons, List.length_nil]
    omega
  · simp only [List.length_append, le4, List.length_cons, List.length_nil]
    omega

end Go.Proofs.YthhlfojaloaooaaGreat
