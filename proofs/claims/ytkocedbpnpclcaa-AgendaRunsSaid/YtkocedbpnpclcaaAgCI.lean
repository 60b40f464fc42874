/-
  heap.up and heap.down over the agenda's list.
-/
import Derived.Test.YtkocedbpnpclcaaAgBI
namespace Go.Proofs.Ytkocedbpnpclcaa
set_option linter.unusedSimpArgs false
set_option linter.unusedVariables false
open Go.RowKit Go.WideShapes Go.ChangeShapes
attribute [local go_sem ↓] Go.wp_at_zero Go.wp_at_succ

theorem blks_permI {ga : Nat} {xs ys : List El} (h : ys.Perm xs) : ∀ k, k ∈ blks ga ys → k ∈ blks ga xs := fun k hk => ((List.Perm.cons ga (h.map El.blk)).mem_iff).1 hk
def lv (g : Nat) : Value := .iface 58 (.pointer (some ⟨g, 2, none⟩))
set_option maxRecDepth 100000 in
set_option maxHeartbeats 4000000 in
theorem up_anyI (w : World) (g ga c n m : Nat) (xs : List El) (h : HLI w ga c xs) (hn : xs.length = n) (hmx : n ≤ 1099511627776) (hcell : w.cell? ⟨g, 2, none⟩ = some (.slice (some ⟨ga, 0, none⟩) n c)) (hgl : g < w.heap.size) (hg : g ∉ blks ga xs)
    (hmn : m ≤ n) (j : Nat) (hj : j < m) (hU : UpTo xs m j) :
    Calls Try.prog 22 #[.iface 58 (.pointer (some ⟨g, 2, none⟩)), .int .i64 (j : Int)] w fun e w' => e = .returned (.tuple #[]) ∧ ∃ xs', HLI w' ga c xs' ∧ xs'.Perm xs ∧ HeapN xs' m ∧ (∀ q, m ≤ q → xs'[q]? = xs[q]?) ∧ Fr (blks ga xs) w w' := by
  have HC := Lib.hid hcell
  have HN := Lib.hid (And.intro hn hmx)
  go_enter Try.func22, Try.ntmps22
  go_wp2_with fail
  go_loopw [1] (fun jv wr => ∃ (jj : Nat) (ys : List El), jv = .int .i64 (jj : Nat) ∧ jj < m ∧ Hid (HLI wr ga c ys ∧ ys.Perm xs ∧ UpTo ys m jj ∧ (∀ q, m ≤ q → ys[q]? = xs[q]?) ∧ Fr (blks ga xs) w wr)) (fun jv _ => (intOf jv).toNat)
  case atStart => exact ⟨j, xs, rfl, hj, Lib.hid ⟨h, List.Perm.refl _, hU, fun _ _ => rfl, Fr.refl _ _⟩⟩
  case round =>
    clear h hU hcell hj hn hmx
    obtain ⟨jj, ys, rfl, hjm, hinv⟩ := hrel
    obtain ⟨wo, rfl⟩ : ∃ wo : World, wo = wr := ⟨_, rfl⟩
    obtain ⟨hH, hP, hUp, hq, hF⟩ := hinv.out
    have hlen : ys.length = n := hP.length_eq.trans HN.out.1
    have hcell : wo.cell? ⟨g, 2, none⟩ = some (.slice (some ⟨ga, 0, none⟩) n c) := (hF.cell hgl hg).trans HC.out
    by_cases hz : jj = 0
    · have f1 : IntKind.i64.wrap ((jj : Int) - 1) = -1 := by rw [hz]; rfl
      have f2 : IntKind.i64.wrap (Int.tdiv (-1) 2) = 0 := by decide
      have d1 : ((0 : Int) == (jj : Int)) = true := by rw [hz]; rfl
      have HE : Hid (HeapN ys m) := Lib.hid (up_top (by rw [hz] at hUp; exact hUp))
      have HI := Lib.hid (And.intro hH (And.intro hP (And.intro hq hF)))
      clear hz hinv hUp hH hq hP hF
      go_wp2_with fail
      go_end0
      obtain ⟨hH, hP, hq, hF⟩ := HI.out
      exact ⟨rfl, ys, hH, hP, HE.out, hq, hF⟩
    · obtain ⟨J, hJ⟩ : ∃ J, J = jj - 1 := ⟨_, rfl⟩
      obtain ⟨i, hi⟩ : ∃ i, (jj - 1) / 2 = i := ⟨_, rfl⟩
      obtain ⟨a, ha⟩ : ∃ a, ys[i]? = some a := ⟨_, List.getElem?_eq_getElem (by omega)⟩
      obtain ⟨b, hb⟩ : ∃ b, ys[jj]? = some b := ⟨_, List.getElem?_eq_getElem (by omega)⟩
      have hbig := HN.out.2
      have d1 : ((i : Int) == (jj : Int)) = false := beq_eq_false_iff_ne.2 (by omega)
      have f1 : IntKind.i64.wrap ((jj : Int) - 1) = (J : Int) := by rw [show (jj : Int) - 1 = (J : Int) by omega]; exact IntWalk.i64_in _ ⟨by omega, by omega⟩
      have f2 : wrap64 ((J : Int) / 2) = (i : Int) := by rw [show (J : Int) / 2 = (i : Int) by omega]; exact IntWalk.wrap64_in _ ⟨by omega, by omega⟩
      have HJ := Lib.hid (And.intro hz (And.intro hi (And.intro ha hb)))
      have HL1 := Lib.hid (less_anyI wo ga c n ys hH hlen jj i b a hb ha)
      have HI := Lib.hid (And.intro hH (And.intro hP (And.intro hUp (And.intro hq (And.intro hF hlen)))))
      have hm := fun q => meth_lessI q hcell
      clear hJ hi ha hb hbig hinv hUp hH hP hq hF hlen hz
      go_wp2_with fail
      simp only [f2]
      clear f1 f2 d1
      refine HL1.out.mono ?_
      rintro e w1 ⟨rfl, b1⟩
      obtain ⟨hz, hi, ha, hb⟩ := HJ.out
      obtain ⟨hH, hP, hUp, hq, hF, hlen⟩ := HI.out
      generalize hd : decide (b.lt a) = d
      cases d with
      | false =>
        have HE : Hid (HeapN ys m) := Lib.hid (up_end hUp (by rw [hi]; exact ha) hb (of_decide_eq_false hd))
        have HR : Hid (HLI w1 ga c ys ∧ ys.Perm xs ∧ (∀ q, m ≤ q → ys[q]? = xs[q]?) ∧ Fr (blks ga xs) w w1) := Lib.hid ⟨hH.kept b1, hP, hq, hF.trans (Fr.be b1)⟩
        clear hd hz hi ha hb hH hP hUp hq hF hlen HI HJ hm hcell HL1 b1
        go_wp2_with fail
        go_end0
        obtain ⟨hH, hP, hq, hF⟩ := HR.out
        exact ⟨rfl, ys, hH, hP, HE.out, hq, hF⟩
      | true =>
        have hU2 : UpTo (sw ys i jj) m i := up_step hUp (by omega) hjm hi ha hb (of_decide_eq_true hd)
        have hH1 := hH.kept b1
        have hcell1 : w1.cell? ⟨g, 2, none⟩ = some (.slice (some ⟨ga, 0, none⟩) n c) := (b1.cell (p := ⟨g, 2, none⟩) (by show g < _; exact Nat.lt_of_lt_of_le hgl hF.size)).trans hcell
        have hm1 := fun q => meth_swapI q hcell1
        have HS := Lib.hid (swap_anyI w1 ga c n ys hH1 hlen i jj a b ha hb)
        have hlt : i < jj := by omega
        have HR : Hid ((sw ys i jj).Perm xs ∧ UpTo (sw ys i jj) m i ∧ (∀ q, m ≤ q → (sw ys i jj)[q]? = xs[q]?) ∧ ∀ w2, Fr (blks ga ys) w1 w2 → Fr (blks ga xs) w w2) := Lib.hid ⟨(sw_perm ys i jj).trans hP, hU2, fun q hqm => by rw [sw_o ha hb (by omega) (by omega)]; exact hq q hqm, fun w2 hf => (hF.trans (Fr.be b1)).trans (hf.more (blks_permI hP))⟩
        clear hd hz hi ha hb hH hP hUp hq hF hlen HI HJ hm hcell HL1 b1 hU2 hH1
        go_wp2_with fail
        refine HS.out.mono ?_
        rintro e w2 ⟨rfl, hH2, hF2⟩
        have HI2 : Hid (HLI w2 ga c (sw ys i jj) ∧ (sw ys i jj).Perm xs ∧ UpTo (sw ys i jj) m i ∧ (∀ q, m ≤ q → (sw ys i jj)[q]? = xs[q]?) ∧ Fr (blks ga xs) w w2) := Lib.hid ⟨hH2, HR.out.1, HR.out.2.1, HR.out.2.2.1, HR.out.2.2.2 w2 hF2⟩
        clear hH2 hF2 HR HS hm1 hcell1
        go_wp2_with fail
        go_roundw
        case rel => exact ⟨i, sw ys i jj, rfl, by omega, HI2⟩
        case measure => simp [intOf]; omega
end Go.Proofs.Ytkocedbpnpclcaa
