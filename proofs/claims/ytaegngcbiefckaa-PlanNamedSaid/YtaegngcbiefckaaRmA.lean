/-
  The reference sees whether two ways share a link.
-/
import Derived.Test.YtaegngcbiefckaaRfHpZ
namespace Go.Proofs.Ytaegngcbiefckaa
set_option linter.unusedSimpArgs false
set_option linter.unusedVariables false
open Go.RowKit Go.WideShapes Go.ChangeShapes
attribute [local go_sem ↓] Go.wp_at_zero Go.wp_at_succ

theorem dis_no {xs ys : List Int} {i k : Nat} {x : Int} (hx : xs[i]? = some x) (hy : ys[k]? = some x) : ¬ ∀ z ∈ xs, z ∉ ys := fun h => h x (List.mem_of_getElem? hx) (List.mem_of_getElem? hy)
theorem dis_in {ys : List Int} {k : Nat} {x y : Int} (h : x ∉ ys.take k) (hy : ys[k]? = some y) (hne : x ≠ y) : x ∉ ys.take (k + 1) := by
  rw [List.take_add_one, hy]
  intro hm
  rcases List.mem_append.1 hm with hm | hm
  · exact h hm
  · simp at hm; exact hne hm
theorem dis_out {xs ys : List Int} {i : Nat} {x : Int} (h : ∀ z ∈ xs.take i, z ∉ ys) (hx : xs[i]? = some x) (hn : x ∉ ys) : ∀ z ∈ xs.take (i + 1), z ∉ ys := by
  rw [List.take_add_one, hx]
  intro z hz
  rcases List.mem_append.1 hz with hz | hz
  · exact h z hz
  · simp at hz; rw [hz]; exact hn
theorem ways_at {w : World} {B : Nat} {C : Cf} {R : RL} {i : Nat} {f : Fw} {sl : Sl × Sl} (h : RfAt w B C R) (hf : C.flows[i]? = some f) (hs : R.ws[i]? = some sl) : ∃ ad, R.W.A = some ad ∧ ad.block < B ∧
    w.cell? (ad.add (i * 2)) = some (.slice sl.1.A f.w0.length sl.1.c) ∧ w.cell? ⟨(ad.add (i * 2)).block, (ad.add (i * 2)).off + 1, none⟩ = some (.slice sl.2.A f.w1.length sl.2.c) := by
  obtain ⟨ad, h1, h2, h3⟩ := reads_at rwy_len h.wys (List.getElem?_zip_eq_some (z := (f, sl)).2 ⟨hf, hs⟩) (List.getElem?_eq_some_iff.1 hf).1
  refine ⟨ad, h1, h2, ?_, ?_⟩
  · exact h3 0 _ rfl
  · exact h3 1 _ rfl
set_option maxRecDepth 100000 in
set_option maxHeartbeats 4000000 in
theorem rm_links (C : Cf) (R : RL) (f : Fw) (sl : Sl × Sl) (i g1 g2 : Nat) (v5 v7 v9 v10 v46 v47 v48 : Value) (a : Act) (w : World) (Q : Exit → Act → World → Prop)
    (hs : a.tmps.size = 388) (hd : a.defers = []) (e1 : a.tmps[1]? = some (.pointer (some ⟨g1, 0, none⟩))) (e2 : a.tmps[2]? = some (.pointer (some ⟨g2, 0, none⟩))) (e5 : a.tmps[5]? = some (v5)) (e6 : a.tmps[6]? = some (.int .i64 (i : Int))) (e7 : a.tmps[7]? = some (v7)) (e9 : a.tmps[9]? = some (v9)) (e10 : a.tmps[10]? = some (v10)) (e46 : a.tmps[46]? = some (v46)) (e47 : a.tmps[47]? = some (v47)) (e48 : a.tmps[48]? = some (v48))
    (hC : RfAt w g1 C R) (BC : Blk w g1 42 (rfc C R)) (B2 : Blk w g2 47 #[.int .i64 0, .slice none 0 0, .slice none 0 0]) (hfl : C.flows[i]? = some f) (hsl : R.ws[i]? = some sl) (hl0 : f.w0.length ≤ 16) (hl1 : f.w1.length ≤ 16) (hfn : C.flows.length ≤ 16)
    (hend : ∀ (a : Act), a.tmps.size = 388 → a.defers = [] → a.tmps[1]? = some (.pointer (some ⟨g1, 0, none⟩)) → a.tmps[2]? = some (.pointer (some ⟨g2, 0, none⟩)) → a.tmps[5]? = some (v5) → a.tmps[6]? = some (.int .i64 (i : Int)) → a.tmps[7]? = some (v7) → a.tmps[9]? = some (v9) → a.tmps[10]? = some (v10) → a.tmps[46]? = some (v46) → a.tmps[47]? = some (v47) → a.tmps[48]? = some (v48) → (∀ z ∈ f.w0, z ∉ f.w1) → Q .normal a w)
    (hret : ∀ (a : Act) (w' : World), a.tmps.size = 388 → a.defers = [] → a.tmps[2]? = some (.pointer (some ⟨g2, 0, none⟩)) → a.tmps[3]? = some (.int .i64 60) → Blk w' g2 47 #[.int .i64 0, .slice none 0 0, .slice none 0 0] → w.grownBy w' (some g2) → (¬ ∀ z ∈ f.w0, z ∉ f.w1) → Q .ret a w') :
    Code.wp Try.prog (sub [true, true, true, true, false, true, false, false, true, true, false, false, true, true, true, true, true, true, true, false] (bodyOf Try.f13)) Q a w := by
  conv => arg 2; whnf
  have HEND := Lib.hid (And.intro hend hret)
  clear hend hret
  obtain ⟨hr0, hr1⟩ := hC.ways i f sl hfl hsl
  obtain ⟨adW, hW, hWb, hw0, hw1⟩ := ways_at hC hfl hsl
  have hin : i < C.flows.length := (List.getElem?_eq_some_iff.1 hfl).1
  have HR0 := Lib.hid hr0
  have HR1 := Lib.hid hr1
  have HWW := Lib.hid hW
  clear hr0 hr1 hfl hsl hC
  have hiI : (i : Int) < (C.flows.length : Int) := by omega
  have c4 := BC.cellOf (v := .slice R.W.A C.flows.length R.W.c) 4 rfl
  rw [hW] at c4
  clear hW; refine wp_seq_k fun Kq1 hKq1 => ?_
  refine sm_list [1, 6] 149 8 hs hd (by kernel_rfl) (agC e1 (agC e6 agN)) rfl ?_
  simp only [seval]
  go_wp2_with fail
  intro a H; replace hs := H.s hs; replace hd := H.d rfl; replace e1 := H.g 1 rfl rfl; replace e6 := H.g 6 rfl rfl; replace e2 := H.k e2 rfl; replace e5 := H.k e5 rfl; replace e7 := H.k e7 rfl; replace e9 := H.k e9 rfl; replace e10 := H.k e10 rfl; replace e46 := H.k e46 rfl; replace e47 := H.k e47 rfl; replace e48 := H.k e48 rfl; have e154 := H.g 154 rfl rfl; have e155 := H.g 155 rfl rfl; have e156 := H.g 156 rfl rfl
  clear H; refine hKq1 _ _ ?_; clear hKq1 Kq1; refine wp_block ?_; clear hw0
  refine wp_loop (fun a w' => ∃ j : Nat, j ≤ f.w0.length ∧ a.tmps.size = 388 ∧ a.defers = [] ∧ a.tmps[1]? = some (.pointer (some ⟨g1, 0, none⟩)) ∧ a.tmps[2]? = some (.pointer (some ⟨g2, 0, none⟩)) ∧ a.tmps[5]? = some (v5) ∧ a.tmps[6]? = some (.int .i64 (i : Int)) ∧ a.tmps[7]? = some (v7) ∧ a.tmps[9]? = some (v9) ∧ a.tmps[10]? = some (v10) ∧ a.tmps[46]? = some (v46) ∧ a.tmps[47]? = some (v47) ∧ a.tmps[48]? = some (v48) ∧ a.tmps[154]? = some (.slice sl.1.A f.w0.length sl.1.c) ∧ a.tmps[155]? = some (.int .i64 (f.w0.length : Int)) ∧ a.tmps[156]? = some (.int .i64 (j : Int)) ∧ w' = w ∧ Hid (∀ z ∈ f.w0.take j, z ∉ f.w1)) (fun a _ => f.w0.length - (intOf (a.tmps.getD 156 undef)).toNat) ?_ ?_
  · exact ⟨0, Nat.zero_le _, hs, hd, e1, e2, e5, e6, e7, e9, e10, e46, e47, e48, e154, e155, e156, rfl, Lib.hid (by simp)⟩
  clear hs hd e156 e1 e2 e5 e6 e7 e9 e10 e46 e47 e48 e154 e155 a
  rintro a w3 ⟨j, hj, hs, hd, e1, e2, e5, e6, e7, e9, e10, e46, e47, e48, e154, e155, e156, rfl, HN⟩
  have hm := slot e156
  refine wp_seq_k fun Kq2 hKq2 => ?_
  by_cases hlt : j < f.w0.length
  ·
    have dj : decide ((j : Int) < (f.w0.length : Int)) = true := decide_eq_true (by omega)
    obtain ⟨ad, u, hA, hadb, hu, hc⟩ := HR0.out.at_ hlt
    obtain ⟨z, hz, rfl⟩ := getElem?_map_some hu
    have HZ := Lib.hid hz
    clear hz hu
    rw [hA] at e154
    have HA := Lib.hid hA
    clear hA
    refine sm_list [155, 156] 157 1 hs hd (by kernel_rfl) (agC e155 (agC e156 agN)) rfl ?_
    simp only [seval]
    go_wp2_with fail
    intro a H; replace hs := H.s hs; replace hd := H.d rfl; replace e155 := H.g 155 rfl rfl; replace e156 := H.g 156 rfl rfl; replace e1 := H.k e1 rfl; replace e2 := H.k e2 rfl; replace e5 := H.k e5 rfl; replace e6 := H.k e6 rfl; replace e7 := H.k e7 rfl; replace e9 := H.k e9 rfl; replace e10 := H.k e10 rfl; replace e46 := H.k e46 rfl; replace e47 := H.k e47 rfl; replace e48 := H.k e48 rfl; replace e154 := H.k e154 rfl
    have e157 := H.g 157 rfl rfl; clear H; refine hKq2 _ _ ?_; clear hKq2 Kq2; refine wp_seq_k fun Kq3 hKq3 => ?_
    refine wp_cond_true (slotE e157) ?_
    clear e157; refine wp_skip ?_; refine hKq3 _ _ ?_; clear hKq3 Kq3; refine wp_seq_k fun Kq4 hKq4 => ?_; refine wp_block ?_; refine wp_seq_k fun Kq5 hKq5 => ?_
    refine sm_list [17, 154, 156] 158 2 hs hd (by kernel_rfl) (agU (agC e154 (agC e156 agN))) rfl ?_
    simp only [seval]
    go_wp2_with fail
    intro a H; replace hs := H.s hs; replace hd := H.d rfl; replace e154 := H.g 154 rfl rfl; replace e156 := H.g 156 rfl rfl; replace e1 := H.k e1 rfl; replace e2 := H.k e2 rfl; replace e5 := H.k e5 rfl; replace e6 := H.k e6 rfl; replace e7 := H.k e7 rfl; replace e9 := H.k e9 rfl; replace e10 := H.k e10 rfl; replace e46 := H.k e46 rfl; replace e47 := H.k e47 rfl; replace e48 := H.k e48 rfl; replace e155 := H.k e155 rfl
    have e17 := H.g 17 rfl rfl; clear H; refine hKq5 _ _ ?_; clear hKq5 Kq5; refine wp_seq_k fun Kq6 hKq6 => ?_; clear hc
    rw [← HA.out] at e154
    refine sm_list [1, 6] 160 8 hs hd (by kernel_rfl) (agC e1 (agC e6 agN)) rfl ?_
    simp only [seval]
    go_wp2_with fail
    intro a H; replace hs := H.s hs; replace hd := H.d rfl; replace e1 := H.g 1 rfl rfl; replace e6 := H.g 6 rfl rfl; replace e2 := H.k e2 rfl; replace e5 := H.k e5 rfl; replace e7 := H.k e7 rfl; replace e9 := H.k e9 rfl; replace e10 := H.k e10 rfl; replace e46 := H.k e46 rfl; replace e47 := H.k e47 rfl; replace e48 := H.k e48 rfl; replace e154 := H.k e154 rfl; replace e155 := H.k e155 rfl; replace e156 := H.k e156 rfl; replace e17 := H.k e17 rfl
    have e165 := H.g 165 rfl rfl; have e166 := H.g 166 rfl rfl; have e167 := H.g 167 rfl rfl; clear H; refine hKq6 _ _ ?_; clear hKq6 Kq6; refine wp_block ?_; clear dj
    refine wp_loop (fun a w' => ∃ k : Nat, k ≤ f.w1.length ∧ a.tmps.size = 388 ∧ a.defers = [] ∧ a.tmps[1]? = some (.pointer (some ⟨g1, 0, none⟩)) ∧ a.tmps[2]? = some (.pointer (some ⟨g2, 0, none⟩)) ∧ a.tmps[5]? = some (v5) ∧ a.tmps[6]? = some (.int .i64 (i : Int)) ∧ a.tmps[7]? = some (v7) ∧ a.tmps[9]? = some (v9) ∧ a.tmps[10]? = some (v10) ∧ a.tmps[17]? = some (.int .i64 z) ∧ a.tmps[46]? = some (v46) ∧ a.tmps[47]? = some (v47) ∧ a.tmps[48]? = some (v48) ∧ a.tmps[154]? = some (.slice sl.1.A f.w0.length sl.1.c) ∧ a.tmps[155]? = some (.int .i64 (f.w0.length : Int)) ∧ a.tmps[156]? = some (.int .i64 (j : Int)) ∧ a.tmps[165]? = some (.slice sl.2.A f.w1.length sl.2.c) ∧ a.tmps[166]? = some (.int .i64 (f.w1.length : Int)) ∧ a.tmps[167]? = some (.int .i64 (k : Int)) ∧ w' = w3 ∧ Hid (z ∉ f.w1.take k)) (fun a _ => f.w1.length - (intOf (a.tmps.getD 167 undef)).toNat) ?_ ?_
    · exact ⟨0, Nat.zero_le _, hs, hd, e1, e2, e5, e6, e7, e9, e10, e17, e46, e47, e48, e154, e155, e156, e165, e166, e167, rfl, Lib.hid (by simp)⟩
    clear hs hd e167 e1 e2 e5 e6 e7 e9 e10 e17 e46 e47 e48 e154 e155 e156 e165 e166 a
    rintro a w4 ⟨k, hk, hs, hd, e1, e2, e5, e6, e7, e9, e10, e17, e46, e47, e48, e154, e155, e156, e165, e166, e167, rfl, HK⟩
    have hmk := slot e167
    refine wp_seq_k fun Kq7 hKq7 => ?_
    by_cases hlk : k < f.w1.length
    ·
      have dk : decide ((k : Int) < (f.w1.length : Int)) = true := decide_eq_true (by omega)
      obtain ⟨ad1, u, hA1, hadb1, hu, hc⟩ := HR1.out.at_ hlk
      obtain ⟨y, hy, rfl⟩ := getElem?_map_some hu
      have HY := Lib.hid hy
      clear hy hu
      rw [hA1] at e165
      have HA1 := Lib.hid hA1
      clear hA1
      refine sm_list [166, 167] 168 1 hs hd (by kernel_rfl) (agC e166 (agC e167 agN)) rfl ?_
      simp only [seval]
      go_wp2_with fail
      intro a H; replace hs := H.s hs; replace hd := H.d rfl; replace e166 := H.g 166 rfl rfl; replace e167 := H.g 167 rfl rfl; replace e1 := H.k e1 rfl; replace e2 := H.k e2 rfl; replace e5 := H.k e5 rfl; replace e6 := H.k e6 rfl; replace e7 := H.k e7 rfl; replace e9 := H.k e9 rfl; replace e10 := H.k e10 rfl; replace e17 := H.k e17 rfl; replace e46 := H.k e46 rfl; replace e47 := H.k e47 rfl; replace e48 := H.k e48 rfl; replace e154 := H.k e154 rfl; replace e155 := H.k e155 rfl; replace e156 := H.k e156 rfl; replace e165 := H.k e165 rfl
      have e168 := H.g 168 rfl rfl; clear H; refine hKq7 _ _ ?_; clear hKq7 Kq7; refine wp_seq_k fun Kq8 hKq8 => ?_
      refine wp_cond_true (slotE e168) ?_
      clear e168; refine wp_skip ?_; refine hKq8 _ _ ?_; clear hKq8 Kq8; refine wp_seq_k fun Kq9 hKq9 => ?_; refine wp_block ?_; refine wp_seq_k fun Kq10 hKq10 => ?_
      refine sm_list [19, 165, 167] 169 2 hs hd (by kernel_rfl) (agU (agC e165 (agC e167 agN))) rfl ?_
      simp only [seval]
      go_wp2_with fail
      intro a H; replace hs := H.s hs; replace hd := H.d rfl; replace e165 := H.g 165 rfl rfl; replace e167 := H.g 167 rfl rfl; replace e1 := H.k e1 rfl; replace e2 := H.k e2 rfl; replace e5 := H.k e5 rfl; replace e6 := H.k e6 rfl; replace e7 := H.k e7 rfl; replace e9 := H.k e9 rfl; replace e10 := H.k e10 rfl; replace e17 := H.k e17 rfl; replace e46 := H.k e46 rfl; replace e47 := H.k e47 rfl; replace e48 := H.k e48 rfl; replace e154 := H.k e154 rfl; replace e155 := H.k e155 rfl; replace e156 := H.k e156 rfl; replace e166 := H.k e166 rfl
      have e19 := H.g 19 rfl rfl; clear H; refine hKq10 _ _ ?_; clear hKq10 Kq10; refine wp_seq_k fun Kq11 hKq11 => ?_; clear hc dk
      rw [← HA1.out] at e165
      by_cases hq : z = y
      · have dq : (z == y) = true := beq_iff_eq.2 hq
        have HNO : Hid (¬ ∀ z ∈ f.w0, z ∉ f.w1) := Lib.hid (dis_no HZ.out (by rw [hq]; exact HY.out))
        clear hq
        refine sm_list [17, 19] 171 3 hs hd (by kernel_rfl) (agC e17 (agC e19 agN)) rfl ?_
        simp only [seval]
        go_wp2_with fail
        intro a H; replace hs := H.s hs; replace hd := H.d rfl; replace e17 := H.g 17 rfl rfl; replace e19 := H.g 19 rfl rfl; replace e1 := H.k e1 rfl; replace e2 := H.k e2 rfl; replace e5 := H.k e5 rfl; replace e6 := H.k e6 rfl; replace e7 := H.k e7 rfl; replace e9 := H.k e9 rfl; replace e10 := H.k e10 rfl; replace e46 := H.k e46 rfl; replace e47 := H.k e47 rfl; replace e48 := H.k e48 rfl; replace e154 := H.k e154 rfl; replace e155 := H.k e155 rfl; replace e156 := H.k e156 rfl; replace e165 := H.k e165 rfl; replace e166 := H.k e166 rfl; replace e167 := H.k e167 rfl
        have e173 := H.g 173 rfl rfl; clear H; refine hKq11 _ _ ?_; clear hKq11 Kq11
        refine wp_cond_true (slotE e173) ?_
        clear e173; refine wp_seq_k fun Kq12 hKq12 => ?_; clear dq
        have HB2 := Lib.hid B2
        refine sm_list [2, 3] 174 1 hs hd (by kernel_rfl) (agC e2 (agU agN)) rfl ?_
        simp only [seval]
        go_wp2_with (first | (refine wpList_store_part rfl 47 (.tmp 0) (.tmp 2) rfl (off := 0) rfl HB2.out rfl (by simp) (by kernel_rfl) (by rw [← Array.all_toList]; rfl) ?_; intro wq Bq zq grq) | fail)
        intro a H; replace hs := H.s hs; replace hd := H.d rfl; replace e2 := H.g 2 rfl rfl; replace e1 := H.k e1 rfl; replace e5 := H.k e5 rfl; replace e6 := H.k e6 rfl; replace e7 := H.k e7 rfl; replace e9 := H.k e9 rfl; replace e10 := H.k e10 rfl; replace e17 := H.k e17 rfl; replace e46 := H.k e46 rfl; replace e47 := H.k e47 rfl; replace e48 := H.k e48 rfl; replace e154 := H.k e154 rfl; replace e155 := H.k e155 rfl; replace e156 := H.k e156 rfl; replace e165 := H.k e165 rfl; replace e166 := H.k e166 rfl; replace e167 := H.k e167 rfl; replace e19 := H.k e19 rfl
        have e3 := H.g 3 rfl rfl; clear H; refine hKq12 _ _ ?_; clear hKq12 Kq12; refine wp_ret ?_; refine ret_block ?_; refine exit_then rfl ?_; refine exit_then rfl ?_; refine ret_block ?_; refine ret_block ?_; refine exit_then rfl ?_; refine exit_then rfl ?_; refine ret_block ?_
        have Bq' : Blk wq g2 47 #[.int .i64 0, .slice none 0 0, .slice none 0 0] := by simpa [putAll] using Bq
        exact HEND.out.2 a wq hs hd e2 e3 Bq' grq HNO.out
      · have dq : (z == y) = false := beq_eq_false_iff_ne.2 hq
        have HK2 : Hid (z ∉ f.w1.take (k + 1)) := Lib.hid (dis_in HK.out HY.out hq)
        clear hq
        refine sm_list [17, 19] 171 3 hs hd (by kernel_rfl) (agC e17 (agC e19 agN)) rfl ?_
        simp only [seval]
        go_wp2_with fail
        intro a H; replace hs := H.s hs; replace hd := H.d rfl; replace e17 := H.g 17 rfl rfl; replace e19 := H.g 19 rfl rfl; replace e1 := H.k e1 rfl; replace e2 := H.k e2 rfl; replace e5 := H.k e5 rfl; replace e6 := H.k e6 rfl; replace e7 := H.k e7 rfl; replace e9 := H.k e9 rfl; replace e10 := H.k e10 rfl; replace e46 := H.k e46 rfl; replace e47 := H.k e47 rfl; replace e48 := H.k e48 rfl; replace e154 := H.k e154 rfl; replace e155 := H.k e155 rfl; replace e156 := H.k e156 rfl; replace e165 := H.k e165 rfl; replace e166 := H.k e166 rfl; replace e167 := H.k e167 rfl
        have e173 := H.g 173 rfl rfl; clear H; refine hKq11 _ _ ?_; clear hKq11 Kq11
        refine wp_cond_false (slotE e173) ?_
        clear e173; refine wp_skip ?_; refine hKq9 _ _ ?_; clear hKq9 Kq9; clear e19
        refine sm_list [167] 175 1 hs hd (by kernel_rfl) (agC e167 agN) rfl ?_
        simp only [seval]
        go_wp2_with fail
        intro a H; replace hs := H.s hs; replace hd := H.d rfl; replace e1 := H.k e1 rfl; replace e2 := H.k e2 rfl; replace e5 := H.k e5 rfl; replace e6 := H.k e6 rfl; replace e7 := H.k e7 rfl; replace e9 := H.k e9 rfl; replace e10 := H.k e10 rfl; replace e17 := H.k e17 rfl; replace e46 := H.k e46 rfl; replace e47 := H.k e47 rfl; replace e48 := H.k e48 rfl; replace e154 := H.k e154 rfl; replace e155 := H.k e155 rfl; replace e156 := H.k e156 rfl; replace e165 := H.k e165 rfl; replace e166 := H.k e166 rfl
        replace e167 := H.g 167 rfl rfl; clear H
        exact ⟨⟨k + 1, by omega, hs, hd, e1, e2, e5, e6, e7, e9, e10, e17, e46, e47, e48, e154, e155, e156, e165, e166, e167, rfl, HK2⟩, by first | (simp only [hmk, slot e167, intOf]; omega) | (simp [e167, intOf]; omega)⟩
    · have hke : k = f.w1.length := by omega
      have dk : decide ((k : Int) < (f.w1.length : Int)) = false := decide_eq_false (by omega)
      have dk2 : decide (k < f.w1.length) = false := decide_eq_false hlk
      have hn : z ∉ f.w1 := by
        have h := HK.out
        rw [hke, List.take_length] at h
        exact h
      have HN2 : Hid (∀ z ∈ f.w0.take (j + 1), z ∉ f.w1) := Lib.hid (dis_out HN.out HZ.out hn)
      clear hn hlk hmk hke
      refine sm_list [166, 167] 168 1 hs hd (by kernel_rfl) (agC e166 (agC e167 agN)) rfl ?_
      simp only [seval]
      go_wp2_with fail
      intro a H; replace hs := H.s hs; replace hd := H.d rfl; replace e166 := H.g 166 rfl rfl; replace e167 := H.g 167 rfl rfl; replace e1 := H.k e1 rfl; replace e2 := H.k e2 rfl; replace e5 := H.k e5 rfl; replace e6 := H.k e6 rfl; replace e7 := H.k e7 rfl; replace e9 := H.k e9 rfl; replace e10 := H.k e10 rfl; replace e17 := H.k e17 rfl; replace e46 := H.k e46 rfl; replace e47 := H.k e47 rfl; replace e48 := H.k e48 rfl; replace e154 := H.k e154 rfl; replace e155 := H.k e155 rfl; replace e156 := H.k e156 rfl; replace e165 := H.k e165 rfl
      have e168 := H.g 168 rfl rfl; clear H; refine hKq7 _ _ ?_; clear hKq7 Kq7; refine wp_seq_k fun Kq8 hKq8 => ?_
      refine wp_cond_false (slotE e168) ?_
      clear e168; refine wp_exit ?_; refine exit_then rfl ?_; clear hKq8 Kq8; refine exit_then rfl ?_; refine exit_hit ?_; refine hKq4 _ _ ?_; clear hKq4 Kq4; clear e165; clear e166; clear e167; clear e17
      refine sm_list [156] 176 1 hs hd (by kernel_rfl) (agC e156 agN) rfl ?_
      simp only [seval]
      go_wp2_with fail
      intro a H; replace hs := H.s hs; replace hd := H.d rfl; replace e1 := H.k e1 rfl; replace e2 := H.k e2 rfl; replace e5 := H.k e5 rfl; replace e6 := H.k e6 rfl; replace e7 := H.k e7 rfl; replace e9 := H.k e9 rfl; replace e10 := H.k e10 rfl; replace e46 := H.k e46 rfl; replace e47 := H.k e47 rfl; replace e48 := H.k e48 rfl; replace e154 := H.k e154 rfl; replace e155 := H.k e155 rfl; replace e156 := H.g 156 rfl rfl
      clear H
      exact ⟨⟨j + 1, by omega, hs, hd, e1, e2, e5, e6, e7, e9, e10, e46, e47, e48, e154, e155, e156, rfl, HN2⟩, by first | (simp only [hm, slot e156, intOf]; omega) | (simp [e156, intOf]; omega)⟩
  · have hje : j = f.w0.length := by omega
    have dj : decide ((j : Int) < (f.w0.length : Int)) = false := decide_eq_false (by omega)
    have dj2 : decide (j < f.w0.length) = false := decide_eq_false hlt
    have HNE : Hid (∀ z ∈ f.w0, z ∉ f.w1) := Lib.hid (by have h := HN.out; rw [hje, List.take_length] at h; exact h)
    clear hlt hm hje
    refine sm_list [155, 156] 157 1 hs hd (by kernel_rfl) (agC e155 (agC e156 agN)) rfl ?_
    simp only [seval]
    go_wp2_with fail
    intro a H; replace hs := H.s hs; replace hd := H.d rfl; replace e155 := H.g 155 rfl rfl; replace e156 := H.g 156 rfl rfl; replace e1 := H.k e1 rfl; replace e2 := H.k e2 rfl; replace e5 := H.k e5 rfl; replace e6 := H.k e6 rfl; replace e7 := H.k e7 rfl; replace e9 := H.k e9 rfl; replace e10 := H.k e10 rfl; replace e46 := H.k e46 rfl; replace e47 := H.k e47 rfl; replace e48 := H.k e48 rfl; replace e154 := H.k e154 rfl
    have e157 := H.g 157 rfl rfl; clear H; refine hKq2 _ _ ?_; clear hKq2 Kq2; refine wp_seq_k fun Kq3 hKq3 => ?_
    refine wp_cond_false (slotE e157) ?_
    clear e157; refine wp_exit ?_; refine exit_then rfl ?_; clear hKq3 Kq3; refine exit_then rfl ?_; refine exit_hit ?_
    exact HEND.out.1 a hs hd e1 e2 e5 e6 e7 e9 e10 e46 e47 e48 HNE.out
end Go.Proofs.Ytaegngcbiefckaa

namespace Go.Proofs.Ytaegngcbiefckaa
set_option linter.unusedSimpArgs false
set_option linter.unusedVariables false
open Go.RowKit Go.WideShapes Go.ChangeShapes
attribute [local go_sem ↓] Go.wp_at_zero Go.wp_at_succ

set_option maxRecDepth 100000 in
set_option maxHeartbeats 4000000 in
theorem rm_nodes (xs ys zs0 zs : List Int) (ad0 ad1 : Addr) (N0 c0 N c B g2 g9 : Nat) (v1 v5 v6 v7 v10 v46 v47 v48 : Value) (a : Act) (w : World) (Q : Exit → Act → World → Prop)
    (hs : a.tmps.size = 388) (hd : a.defers = []) (e1 : a.tmps[1]? = some (v1)) (e2 : a.tmps[2]? = some (.pointer (some ⟨g2, 0, none⟩))) (e5 : a.tmps[5]? = some (v5)) (e6 : a.tmps[6]? = some (v6)) (e7 : a.tmps[7]? = some (v7)) (e9 : a.tmps[9]? = some (.pointer (some ⟨g9, 0, none⟩))) (e10 : a.tmps[10]? = some (v10)) (e46 : a.tmps[46]? = some (v46)) (e47 : a.tmps[47]? = some (v47)) (e48 : a.tmps[48]? = some (v48))
    (B9 : Blk w g9 72 #[.slice (some ad0) N0 c0, .slice (some ad1) N c]) (B2 : Blk w g2 47 #[.int .i64 0, .slice none 0 0, .slice none 0 0]) (hx : Reads w B 1 (some ad0) N0 (zs0.map (Value.int .i64))) (hxl : xs = (zs0.drop 1).take (N0 - 2)) (hzl0 : zs0.length = N0) (hN0 : 2 ≤ N0 ∧ N0 ≤ 17 ∧ N0 ≤ c0) (hy : Reads w B 1 (some ad1) N (zs.map (Value.int .i64))) (hyl : ys = (zs.drop 1).take (N - 2)) (hzl : zs.length = N) (hN : 2 ≤ N ∧ N ≤ 17 ∧ N ≤ c)
    (hend : ∀ (a : Act), a.tmps.size = 388 → a.defers = [] → a.tmps[1]? = some (v1) → a.tmps[2]? = some (.pointer (some ⟨g2, 0, none⟩)) → a.tmps[5]? = some (v5) → a.tmps[6]? = some (v6) → a.tmps[7]? = some (v7) → a.tmps[9]? = some (.pointer (some ⟨g9, 0, none⟩)) → a.tmps[10]? = some (v10) → a.tmps[46]? = some (v46) → a.tmps[47]? = some (v47) → a.tmps[48]? = some (v48) → (∀ z ∈ xs, z ∉ ys) → Q .normal a w)
    (hret : ∀ (a : Act) (w' : World), a.tmps.size = 388 → a.defers = [] → a.tmps[2]? = some (.pointer (some ⟨g2, 0, none⟩)) → a.tmps[3]? = some (.int .i64 60) → Blk w' g2 47 #[.int .i64 0, .slice none 0 0, .slice none 0 0] → w.grownBy w' (some g2) → (¬ ∀ z ∈ xs, z ∉ ys) → Q .ret a w') :
    Code.wp Try.prog (sub [true, true, true, true, false, true, false, false, true, true, false, false, true, true, true, true, true, true, true, true, false] (bodyOf Try.f13)) Q a w := by
  conv => arg 2; whnf
  have HEND := Lib.hid (And.intro hend hret)
  clear hend hret
  obtain ⟨hN2, hN17, hNc⟩ := hN
  obtain ⟨Am, hmid, hmr⟩ := slice_mid ad1 N c hN2 hNc
  have hrM := hmr w _ _ hy
  clear hmr hy
  obtain ⟨m, hmN⟩ : ∃ m, m = N - 2 := ⟨_, rfl⟩
  rw [← hmN] at hmid hrM hyl
  have hml : m ≤ 15 := by omega
  have hym : ys.length = m := by rw [hyl, List.length_take, List.length_drop, hzl]; omega
  rw [← List.map_drop, ← List.map_take, ← hyl] at hrM
  have HYM := Lib.hid hym
  obtain ⟨hN02, hN017, hN0c⟩ := hN0
  obtain ⟨A0, hmid0, hmr0⟩ := slice_mid ad0 N0 c0 hN02 hN0c
  have hr0 := hmr0 w _ _ hx
  clear hmr0 hx
  obtain ⟨n0, hn0N⟩ : ∃ m, m = N0 - 2 := ⟨_, rfl⟩
  rw [← hn0N] at hmid0 hr0 hxl
  have hn0 : n0 ≤ 15 := by omega
  have hxm : xs.length = n0 := by rw [hxl, List.length_take, List.length_drop, hzl0]; omega
  rw [← List.map_drop, ← List.map_take, ← hxl] at hr0
  have HXL := Lib.hid hxm
  have HR0 := Lib.hid hr0
  have HR1 := Lib.hid hrM
  clear hr0 hrM hym hxm hxl hyl hzl hzl0 hmN hn0N
  have x0 := B9.cellOf (v := .slice (some ad0) N0 c0) 0 rfl
  have x1 := B9.cellOf (v := .slice (some ad1) N c) 1 rfl
  refine wp_seq_k fun Kq1 hKq1 => ?_
  refine sm_list [9] 177 9 hs hd (by kernel_rfl) (agC e9 agN) rfl ?_
  simp only [seval]
  go_wp2_with fail
  intro a H; replace hs := H.s hs; replace hd := H.d rfl; replace e9 := H.g 9 rfl rfl; replace e1 := H.k e1 rfl; replace e2 := H.k e2 rfl; replace e5 := H.k e5 rfl; replace e6 := H.k e6 rfl; replace e7 := H.k e7 rfl; replace e10 := H.k e10 rfl; replace e46 := H.k e46 rfl; replace e47 := H.k e47 rfl; replace e48 := H.k e48 rfl; have e183 := H.g 183 rfl rfl; have e184 := H.g 184 rfl rfl; have e185 := H.g 185 rfl rfl
  clear H; refine hKq1 _ _ ?_; clear hKq1 Kq1; refine wp_block ?_; clear x0 hmid0
  refine wp_loop (fun a w' => ∃ j : Nat, j ≤ n0 ∧ a.tmps.size = 388 ∧ a.defers = [] ∧ a.tmps[1]? = some (v1) ∧ a.tmps[2]? = some (.pointer (some ⟨g2, 0, none⟩)) ∧ a.tmps[5]? = some (v5) ∧ a.tmps[6]? = some (v6) ∧ a.tmps[7]? = some (v7) ∧ a.tmps[9]? = some (.pointer (some ⟨g9, 0, none⟩)) ∧ a.tmps[10]? = some (v10) ∧ a.tmps[46]? = some (v46) ∧ a.tmps[47]? = some (v47) ∧ a.tmps[48]? = some (v48) ∧ a.tmps[183]? = some (.slice A0 n0 (c0 - 1)) ∧ a.tmps[184]? = some (.int .i64 (n0 : Int)) ∧ a.tmps[185]? = some (.int .i64 (j : Int)) ∧ w' = w ∧ Hid (∀ z ∈ xs.take j, z ∉ ys)) (fun a _ => n0 - (intOf (a.tmps.getD 185 undef)).toNat) ?_ ?_
  · exact ⟨0, Nat.zero_le _, hs, hd, e1, e2, e5, e6, e7, e9, e10, e46, e47, e48, e183, e184, e185, rfl, Lib.hid (by simp)⟩
  clear hs hd e185 e1 e2 e5 e6 e7 e9 e10 e46 e47 e48 e183 e184 a
  rintro a w3 ⟨j, hj, hs, hd, e1, e2, e5, e6, e7, e9, e10, e46, e47, e48, e183, e184, e185, rfl, HN⟩
  have hm := slot e185
  refine wp_seq_k fun Kq2 hKq2 => ?_
  by_cases hlt : j < n0
  ·
    have dj : decide ((j : Int) < (n0 : Int)) = true := decide_eq_true (by omega)
    obtain ⟨ad, u, hA, hadb, hu, hc⟩ := HR0.out.at_ hlt
    obtain ⟨z, hz, rfl⟩ := getElem?_map_some hu
    have HZ := Lib.hid hz
    clear hz hu
    rw [hA] at e183
    have HA := Lib.hid hA
    clear hA
    refine sm_list [184, 185] 186 1 hs hd (by kernel_rfl) (agC e184 (agC e185 agN)) rfl ?_
    simp only [seval]
    go_wp2_with fail
    intro a H; replace hs := H.s hs; replace hd := H.d rfl; replace e184 := H.g 184 rfl rfl; replace e185 := H.g 185 rfl rfl; replace e1 := H.k e1 rfl; replace e2 := H.k e2 rfl; replace e5 := H.k e5 rfl; replace e6 := H.k e6 rfl; replace e7 := H.k e7 rfl; replace e9 := H.k e9 rfl; replace e10 := H.k e10 rfl; replace e46 := H.k e46 rfl; replace e47 := H.k e47 rfl; replace e48 := H.k e48 rfl; replace e183 := H.k e183 rfl
    have e186 := H.g 186 rfl rfl; clear H; refine hKq2 _ _ ?_; clear hKq2 Kq2; refine wp_seq_k fun Kq3 hKq3 => ?_
    refine wp_cond_true (slotE e186) ?_
    clear e186; refine wp_skip ?_; refine hKq3 _ _ ?_; clear hKq3 Kq3; refine wp_seq_k fun Kq4 hKq4 => ?_; refine wp_block ?_; refine wp_seq_k fun Kq5 hKq5 => ?_
    refine sm_list [21, 183, 185] 187 2 hs hd (by kernel_rfl) (agU (agC e183 (agC e185 agN))) rfl ?_
    simp only [seval]
    go_wp2_with fail
    intro a H; replace hs := H.s hs; replace hd := H.d rfl; replace e183 := H.g 183 rfl rfl; replace e185 := H.g 185 rfl rfl; replace e1 := H.k e1 rfl; replace e2 := H.k e2 rfl; replace e5 := H.k e5 rfl; replace e6 := H.k e6 rfl; replace e7 := H.k e7 rfl; replace e9 := H.k e9 rfl; replace e10 := H.k e10 rfl; replace e46 := H.k e46 rfl; replace e47 := H.k e47 rfl; replace e48 := H.k e48 rfl; replace e184 := H.k e184 rfl
    have e21 := H.g 21 rfl rfl; clear H; refine hKq5 _ _ ?_; clear hKq5 Kq5; refine wp_seq_k fun Kq6 hKq6 => ?_; clear hc
    rw [← HA.out] at e183
    refine sm_list [9] 189 9 hs hd (by kernel_rfl) (agC e9 agN) rfl ?_
    simp only [seval]
    go_wp2_with fail
    intro a H; replace hs := H.s hs; replace hd := H.d rfl; replace e9 := H.g 9 rfl rfl; replace e1 := H.k e1 rfl; replace e2 := H.k e2 rfl; replace e5 := H.k e5 rfl; replace e6 := H.k e6 rfl; replace e7 := H.k e7 rfl; replace e10 := H.k e10 rfl; replace e46 := H.k e46 rfl; replace e47 := H.k e47 rfl; replace e48 := H.k e48 rfl; replace e183 := H.k e183 rfl; replace e184 := H.k e184 rfl; replace e185 := H.k e185 rfl; replace e21 := H.k e21 rfl
    have e195 := H.g 195 rfl rfl; have e196 := H.g 196 rfl rfl; have e197 := H.g 197 rfl rfl; clear H; refine hKq6 _ _ ?_; clear hKq6 Kq6; refine wp_block ?_; clear dj
    refine wp_loop (fun a w' => ∃ k : Nat, k ≤ m ∧ a.tmps.size = 388 ∧ a.defers = [] ∧ a.tmps[1]? = some (v1) ∧ a.tmps[2]? = some (.pointer (some ⟨g2, 0, none⟩)) ∧ a.tmps[5]? = some (v5) ∧ a.tmps[6]? = some (v6) ∧ a.tmps[7]? = some (v7) ∧ a.tmps[9]? = some (.pointer (some ⟨g9, 0, none⟩)) ∧ a.tmps[10]? = some (v10) ∧ a.tmps[21]? = some (.int .i64 z) ∧ a.tmps[46]? = some (v46) ∧ a.tmps[47]? = some (v47) ∧ a.tmps[48]? = some (v48) ∧ a.tmps[183]? = some (.slice A0 n0 (c0 - 1)) ∧ a.tmps[184]? = some (.int .i64 (n0 : Int)) ∧ a.tmps[185]? = some (.int .i64 (j : Int)) ∧ a.tmps[195]? = some (.slice Am m (c - 1)) ∧ a.tmps[196]? = some (.int .i64 (m : Int)) ∧ a.tmps[197]? = some (.int .i64 (k : Int)) ∧ w' = w3 ∧ Hid (z ∉ ys.take k)) (fun a _ => m - (intOf (a.tmps.getD 197 undef)).toNat) ?_ ?_
    · exact ⟨0, Nat.zero_le _, hs, hd, e1, e2, e5, e6, e7, e9, e10, e21, e46, e47, e48, e183, e184, e185, e195, e196, e197, rfl, Lib.hid (by simp)⟩
    clear hs hd e197 e1 e2 e5 e6 e7 e9 e10 e21 e46 e47 e48 e183 e184 e185 e195 e196 a
    rintro a w4 ⟨k, hk, hs, hd, e1, e2, e5, e6, e7, e9, e10, e21, e46, e47, e48, e183, e184, e185, e195, e196, e197, rfl, HK⟩
    have hmk := slot e197
    refine wp_seq_k fun Kq7 hKq7 => ?_
    by_cases hlk : k < m
    ·
      have dk : decide ((k : Int) < (m : Int)) = true := decide_eq_true (by omega)
      obtain ⟨ad1, u, hA1, hadb1, hu, hc⟩ := HR1.out.at_ hlk
      obtain ⟨y, hy, rfl⟩ := getElem?_map_some hu
      have HY := Lib.hid hy
      clear hy hu
      rw [hA1] at e195
      have HA1 := Lib.hid hA1
      clear hA1
      refine sm_list [196, 197] 198 1 hs hd (by kernel_rfl) (agC e196 (agC e197 agN)) rfl ?_
      simp only [seval]
      go_wp2_with fail
      intro a H; replace hs := H.s hs; replace hd := H.d rfl; replace e196 := H.g 196 rfl rfl; replace e197 := H.g 197 rfl rfl; replace e1 := H.k e1 rfl; replace e2 := H.k e2 rfl; replace e5 := H.k e5 rfl; replace e6 := H.k e6 rfl; replace e7 := H.k e7 rfl; replace e9 := H.k e9 rfl; replace e10 := H.k e10 rfl; replace e21 := H.k e21 rfl; replace e46 := H.k e46 rfl; replace e47 := H.k e47 rfl; replace e48 := H.k e48 rfl; replace e183 := H.k e183 rfl; replace e184 := H.k e184 rfl; replace e185 := H.k e185 rfl; replace e195 := H.k e195 rfl
      have e198 := H.g 198 rfl rfl; clear H; refine hKq7 _ _ ?_; clear hKq7 Kq7; refine wp_seq_k fun Kq8 hKq8 => ?_
      refine wp_cond_true (slotE e198) ?_
      clear e198; refine wp_skip ?_; refine hKq8 _ _ ?_; clear hKq8 Kq8; refine wp_seq_k fun Kq9 hKq9 => ?_; refine wp_block ?_; refine wp_seq_k fun Kq10 hKq10 => ?_
      refine sm_list [23, 195, 197] 199 2 hs hd (by kernel_rfl) (agU (agC e195 (agC e197 agN))) rfl ?_
      simp only [seval]
      go_wp2_with fail
      intro a H; replace hs := H.s hs; replace hd := H.d rfl; replace e195 := H.g 195 rfl rfl; replace e197 := H.g 197 rfl rfl; replace e1 := H.k e1 rfl; replace e2 := H.k e2 rfl; replace e5 := H.k e5 rfl; replace e6 := H.k e6 rfl; replace e7 := H.k e7 rfl; replace e9 := H.k e9 rfl; replace e10 := H.k e10 rfl; replace e21 := H.k e21 rfl; replace e46 := H.k e46 rfl; replace e47 := H.k e47 rfl; replace e48 := H.k e48 rfl; replace e183 := H.k e183 rfl; replace e184 := H.k e184 rfl; replace e185 := H.k e185 rfl; replace e196 := H.k e196 rfl
      have e23 := H.g 23 rfl rfl; clear H; refine hKq10 _ _ ?_; clear hKq10 Kq10; refine wp_seq_k fun Kq11 hKq11 => ?_; clear hc dk
      rw [← HA1.out] at e195
      by_cases hq : z = y
      · have dq : (z == y) = true := beq_iff_eq.2 hq
        have HNO : Hid (¬ ∀ z ∈ xs, z ∉ ys) := Lib.hid (dis_no HZ.out (by rw [hq]; exact HY.out))
        clear hq
        refine sm_list [21, 23] 201 3 hs hd (by kernel_rfl) (agC e21 (agC e23 agN)) rfl ?_
        simp only [seval]
        go_wp2_with fail
        intro a H; replace hs := H.s hs; replace hd := H.d rfl; replace e21 := H.g 21 rfl rfl; replace e23 := H.g 23 rfl rfl; replace e1 := H.k e1 rfl; replace e2 := H.k e2 rfl; replace e5 := H.k e5 rfl; replace e6 := H.k e6 rfl; replace e7 := H.k e7 rfl; replace e9 := H.k e9 rfl; replace e10 := H.k e10 rfl; replace e46 := H.k e46 rfl; replace e47 := H.k e47 rfl; replace e48 := H.k e48 rfl; replace e183 := H.k e183 rfl; replace e184 := H.k e184 rfl; replace e185 := H.k e185 rfl; replace e195 := H.k e195 rfl; replace e196 := H.k e196 rfl; replace e197 := H.k e197 rfl
        have e203 := H.g 203 rfl rfl; clear H; refine hKq11 _ _ ?_; clear hKq11 Kq11
        refine wp_cond_true (slotE e203) ?_
        clear e203; refine wp_seq_k fun Kq12 hKq12 => ?_; clear dq
        have HB2 := Lib.hid B2
        refine sm_list [2, 3] 204 1 hs hd (by kernel_rfl) (agC e2 (agU agN)) rfl ?_
        simp only [seval]
        go_wp2_with (first | (refine wpList_store_part rfl 47 (.tmp 0) (.tmp 2) rfl (off := 0) rfl HB2.out rfl (by simp) (by kernel_rfl) (by rw [← Array.all_toList]; rfl) ?_; intro wq Bq zq grq) | fail)
        intro a H; replace hs := H.s hs; replace hd := H.d rfl; replace e2 := H.g 2 rfl rfl; replace e1 := H.k e1 rfl; replace e5 := H.k e5 rfl; replace e6 := H.k e6 rfl; replace e7 := H.k e7 rfl; replace e9 := H.k e9 rfl; replace e10 := H.k e10 rfl; replace e21 := H.k e21 rfl; replace e46 := H.k e46 rfl; replace e47 := H.k e47 rfl; replace e48 := H.k e48 rfl; replace e183 := H.k e183 rfl; replace e184 := H.k e184 rfl; replace e185 := H.k e185 rfl; replace e195 := H.k e195 rfl; replace e196 := H.k e196 rfl; replace e197 := H.k e197 rfl; replace e23 := H.k e23 rfl
        have e3 := H.g 3 rfl rfl; clear H; refine hKq12 _ _ ?_; clear hKq12 Kq12; refine wp_ret ?_; refine ret_block ?_; refine exit_then rfl ?_; refine exit_then rfl ?_; refine ret_block ?_; refine ret_block ?_; refine exit_then rfl ?_; refine exit_then rfl ?_; refine ret_block ?_
        have Bq' : Blk wq g2 47 #[.int .i64 0, .slice none 0 0, .slice none 0 0] := by simpa [putAll] using Bq
        exact HEND.out.2 a wq hs hd e2 e3 Bq' grq HNO.out
      · have dq : (z == y) = false := beq_eq_false_iff_ne.2 hq
        have HK2 : Hid (z ∉ ys.take (k + 1)) := Lib.hid (dis_in HK.out HY.out hq)
        clear hq
        refine sm_list [21, 23] 201 3 hs hd (by kernel_rfl) (agC e21 (agC e23 agN)) rfl ?_
        simp only [seval]
        go_wp2_with fail
        intro a H; replace hs := H.s hs; replace hd := H.d rfl; replace e21 := H.g 21 rfl rfl; replace e23 := H.g 23 rfl rfl; replace e1 := H.k e1 rfl; replace e2 := H.k e2 rfl; replace e5 := H.k e5 rfl; replace e6 := H.k e6 rfl; replace e7 := H.k e7 rfl; replace e9 := H.k e9 rfl; replace e10 := H.k e10 rfl; replace e46 := H.k e46 rfl; replace e47 := H.k e47 rfl; replace e48 := H.k e48 rfl; replace e183 := H.k e183 rfl; replace e184 := H.k e184 rfl; replace e185 := H.k e185 rfl; replace e195 := H.k e195 rfl; replace e196 := H.k e196 rfl; replace e197 := H.k e197 rfl
        have e203 := H.g 203 rfl rfl; clear H; refine hKq11 _ _ ?_; clear hKq11 Kq11
        refine wp_cond_false (slotE e203) ?_
        clear e203; refine wp_skip ?_; refine hKq9 _ _ ?_; clear hKq9 Kq9; clear e23
        refine sm_list [197] 205 1 hs hd (by kernel_rfl) (agC e197 agN) rfl ?_
        simp only [seval]
        go_wp2_with fail
        intro a H; replace hs := H.s hs; replace hd := H.d rfl; replace e1 := H.k e1 rfl; replace e2 := H.k e2 rfl; replace e5 := H.k e5 rfl; replace e6 := H.k e6 rfl; replace e7 := H.k e7 rfl; replace e9 := H.k e9 rfl; replace e10 := H.k e10 rfl; replace e21 := H.k e21 rfl; replace e46 := H.k e46 rfl; replace e47 := H.k e47 rfl; replace e48 := H.k e48 rfl; replace e183 := H.k e183 rfl; replace e184 := H.k e184 rfl; replace e185 := H.k e185 rfl; replace e195 := H.k e195 rfl; replace e196 := H.k e196 rfl
        replace e197 := H.g 197 rfl rfl; clear H
        exact ⟨⟨k + 1, by omega, hs, hd, e1, e2, e5, e6, e7, e9, e10, e21, e46, e47, e48, e183, e184, e185, e195, e196, e197, rfl, HK2⟩, by first | (simp only [hmk, slot e197, intOf]; omega) | (simp [e197, intOf]; omega)⟩
    · have hke : k = m := by omega
      have dk : decide ((k : Int) < (m : Int)) = false := decide_eq_false (by omega)
      have dk2 : decide (k < m) = false := decide_eq_false hlk
      have hn : z ∉ ys := by
        have h := HK.out
        rw [hke, ← HYM.out, List.take_length] at h
        exact h
      have HN2 : Hid (∀ z ∈ xs.take (j + 1), z ∉ ys) := Lib.hid (dis_out HN.out HZ.out hn)
      clear hn hlk hmk hke
      refine sm_list [196, 197] 198 1 hs hd (by kernel_rfl) (agC e196 (agC e197 agN)) rfl ?_
      simp only [seval]
      go_wp2_with fail
      intro a H; replace hs := H.s hs; replace hd := H.d rfl; replace e196 := H.g 196 rfl rfl; replace e197 := H.g 197 rfl rfl; replace e1 := H.k e1 rfl; replace e2 := H.k e2 rfl; replace e5 := H.k e5 rfl; replace e6 := H.k e6 rfl; replace e7 := H.k e7 rfl; replace e9 := H.k e9 rfl; replace e10 := H.k e10 rfl; replace e21 := H.k e21 rfl; replace e46 := H.k e46 rfl; replace e47 := H.k e47 rfl; replace e48 := H.k e48 rfl; replace e183 := H.k e183 rfl; replace e184 := H.k e184 rfl; replace e185 := H.k e185 rfl; replace e195 := H.k e195 rfl
      have e198 := H.g 198 rfl rfl; clear H; refine hKq7 _ _ ?_; clear hKq7 Kq7; refine wp_seq_k fun Kq8 hKq8 => ?_
      refine wp_cond_false (slotE e198) ?_
      clear e198; refine wp_exit ?_; refine exit_then rfl ?_; clear hKq8 Kq8; refine exit_then rfl ?_; refine exit_hit ?_; refine hKq4 _ _ ?_; clear hKq4 Kq4; clear e195; clear e196; clear e197; clear e21
      refine sm_list [185] 206 1 hs hd (by kernel_rfl) (agC e185 agN) rfl ?_
      simp only [seval]
      go_wp2_with fail
      intro a H; replace hs := H.s hs; replace hd := H.d rfl; replace e1 := H.k e1 rfl; replace e2 := H.k e2 rfl; replace e5 := H.k e5 rfl; replace e6 := H.k e6 rfl; replace e7 := H.k e7 rfl; replace e9 := H.k e9 rfl; replace e10 := H.k e10 rfl; replace e46 := H.k e46 rfl; replace e47 := H.k e47 rfl; replace e48 := H.k e48 rfl; replace e183 := H.k e183 rfl; replace e184 := H.k e184 rfl; replace e185 := H.g 185 rfl rfl
      clear H
      exact ⟨⟨j + 1, by omega, hs, hd, e1, e2, e5, e6, e7, e9, e10, e46, e47, e48, e183, e184, e185, rfl, HN2⟩, by first | (simp only [hm, slot e185, intOf]; omega) | (simp [e185, intOf]; omega)⟩
  · have hje : j = n0 := by omega
    have dj : decide ((j : Int) < (n0 : Int)) = false := decide_eq_false (by omega)
    have dj2 : decide (j < n0) = false := decide_eq_false hlt
    have HNE : Hid (∀ z ∈ xs, z ∉ ys) := Lib.hid (by have h := HN.out; rw [hje, ← HXL.out, List.take_length] at h; exact h)
    clear hlt hm hje
    refine sm_list [184, 185] 186 1 hs hd (by kernel_rfl) (agC e184 (agC e185 agN)) rfl ?_
    simp only [seval]
    go_wp2_with fail
    intro a H; replace hs := H.s hs; replace hd := H.d rfl; replace e184 := H.g 184 rfl rfl; replace e185 := H.g 185 rfl rfl; replace e1 := H.k e1 rfl; replace e2 := H.k e2 rfl; replace e5 := H.k e5 rfl; replace e6 := H.k e6 rfl; replace e7 := H.k e7 rfl; replace e9 := H.k e9 rfl; replace e10 := H.k e10 rfl; replace e46 := H.k e46 rfl; replace e47 := H.k e47 rfl; replace e48 := H.k e48 rfl; replace e183 := H.k e183 rfl
    have e186 := H.g 186 rfl rfl; clear H; refine hKq2 _ _ ?_; clear hKq2 Kq2; refine wp_seq_k fun Kq3 hKq3 => ?_
    refine wp_cond_false (slotE e186) ?_
    clear e186; refine wp_exit ?_; refine exit_then rfl ?_; clear hKq3 Kq3; refine exit_then rfl ?_; refine exit_hit ?_
    exact HEND.out.1 a hs hd e1 e2 e5 e6 e7 e9 e10 e46 e47 e48 HNE.out
end Go.Proofs.Ytaegngcbiefckaa

namespace Go.Proofs.Ytaegngcbiefckaa
set_option linter.unusedSimpArgs false
set_option linter.unusedVariables false
open Go.RowKit Go.WideShapes Go.ChangeShapes

/-- What lies below g, and what is neither g nor of a type, stays. -/
structure FrT (g : Nat) (ty : TypeId) (w w' : World) : Prop where
  low : Below g w w'
  size : w.heap.size ≤ w'.heap.size
  block : ∀ k, k < w.heap.size → k ≠ g → (∀ cs z, w.heap[k]? ≠ some (.cells cs ty z)) → w'.heap[k]? = w.heap[k]?
section
variable {w w' w2 : World} {g k : Nat} {ty t : TypeId} {cs : Array Value}
theorem FrT.refl : FrT g ty w w := ⟨Below.refl _ _, Nat.le_refl _, fun _ _ _ _ => rfl⟩
theorem FrT.trans (h : FrT g ty w w') (h' : FrT g ty w' w2) : FrT g ty w w2 :=
  ⟨h.low.trans h'.low, Nat.le_trans h.size h'.size, fun k hk hg ht => by
    have e := h.block k hk hg ht
    exact (h'.block k (Nat.lt_of_lt_of_le hk h.size) hg (by rw [e]; exact ht)).trans e⟩
theorem FrT.be (h : Below w.heap.size w w') (hg : g ≤ w.heap.size) : FrT g ty w w' := ⟨h.mono hg, h.size, fun k hk _ _ => h.block k hk⟩
theorem FrT.blk (h : FrT g ty w w') (B : Blk w k t cs) (ht : t ≠ ty) (hk : k ≠ g) : Blk w' k t cs := by
  refine (h.block k B.lt hk (fun cs z e => ?_)).trans B
  have B' := B
  unfold Blk at B'
  rw [B'] at e
  injection e with e
  injection e with _ e _
  exact ht e
theorem FrT.blk2 (h : FrT g ty w w') (B : Blk w k t cs) (hk : k < g) : Blk w' k t cs := (h.low.block k hk).trans B
theorem FrT.own (h : FrT g ty w w') {base size n : Nat} {v : Value} {xs : List Value} (o : w.ownsRow base t size v n xs) (ht : t ≠ ty) (hk : ∀ k, v.ownBlock = some k → k ≠ g) : w'.ownsRow base t size v n xs := by
  have hlt := ownsRow_lt o
  obtain ⟨h1, h2⟩ := o
  refine ⟨h1, h2.imp id fun ⟨q, cap, cur, hv, hg, hh, r⟩ => ⟨q, cap, cur, hv, hg, ?_, r⟩⟩
  have hq : v.ownBlock = some q := by rw [hv]; rfl
  refine (h.block q (hlt q hq).2 (hk q hq) (fun cs z e => ?_)).trans hh
  rw [hh] at e
  injection e with e
  injection e with _ e _
  exact ht e
end
def rsp (x : Sp) : List Value := [.int .i64 x.1.1, .int .i64 x.1.2, .int .i64 x.2.1, .int .i64 x.2.2]
theorem rsp_len (x : Sp) : (rsp x).length = 4 := rfl
def pcs (off : Int) (vW vS : Value) : Array Value := #[.int .i64 off, vW, vS]
def rwW2 (v : Value) (W : List (Int × Int)) : Rw := ⟨1, v, 53, 2, W.length, W.flatMap spc⟩
def rwS2 (v : Value) (S : List Sp) : Rw := ⟨2, v, 103, 4, S.length, S.flatMap rsp⟩
def PBx (w : World) (g : Nat) (off : Int) (W : List (Int × Int)) (S : List Sp) (vW vS : Value) : Prop := RBx w g 47 (pcs off vW vS) [rwW2 vW W, rwS2 vS S]
section
variable {w w' w2 : World} {g : Nat} {off : Int} {W : List (Int × Int)} {S : List Sp} {vW vS v2 : Value}
theorem PBx.keep (h : PBx w g off W S vW vS) (hb : Below w.heap.size w w') : PBx w' g off W S vW vS := RBx.keep h hb
theorem PBx.B (h : PBx w g off W S vW vS) : Blk w g 47 (pcs off vW vS) := RBx.B h
theorem PBx.rW (h : PBx w g off W S vW vS) : w.ownsRow (g + 1) 53 2 vW W.length (W.flatMap spc) := RBx.row h (rwW2 vW W) (by simp)
theorem PBx.rS (h : PBx w g off W S vW vS) : w.ownsRow (g + 1) 103 4 vS S.length (S.flatMap rsp) := RBx.row h (rwS2 vS S) (by simp)
theorem PBx.start (w : World) (off : Int) : PBx (w.alloc (.cells (pcs off (.slice none 0 0) (.slice none 0 0)) 47)) w.heap.size off [] [] (.slice none 0 0) (.slice none 0 0) := by
  refine ⟨Blk.new w _ _, fun r hr => ?_, ?_⟩
  · simp only [List.mem_cons, List.not_mem_nil, or_false] at hr
    rcases hr with rfl | rfl <;> exact ownsRow_nil _ _ _ _
  · simp [rwW2, rwS2, Value.ownBlock]
theorem PBx.far (h : PBx w g off W S vW vS) {q : Nat} {t : TypeId} {cs : Array Value} (B : Blk w q t cs) (hb : w.grownBy w' (some q)) (hg : q ≠ g) (h1 : t ≠ 53) (h2 : t ≠ 103) : PBx w' g off W S vW vS := by
  refine RBx.far h hb (fun e => by injection e with e; exact hg e) fun r hr k hk e => ?_
  injection e with e
  subst e
  simp only [List.mem_cons, List.not_mem_nil, or_false] at hr
  rcases hr with rfl | rfl
  · exact own_blk_ne h.rW B (fun e => h1 e.symm) hk
  · exact own_blk_ne h.rS B (fun e => h2 e.symm) hk
theorem PBx.pushS (h : PBx w g off W S vW vS) (x : Sp) (own2 : w2.ownsRow (g + 1) 103 4 v2 (S.length + 1) (S.flatMap rsp ++ rsp x)) (gr : w.grownBy w2 vS.ownBlock) (mv : Moved w vS v2) :
    Blk w2 g 47 (pcs off vW vS) ∧ PBx (w2.setCell ⟨g, 2, none⟩ v2) g off W (S ++ [x]) vW v2 ∧ FrT g 103 w (w2.setCell ⟨g, 2, none⟩ v2) := by
  have hp := RBx.push (cs' := pcs off vW v2) (pre := [rwW2 vW W]) (r := rwS2 vS S) (post := []) h own2 gr mv (by simp [pcs, rwS2])
  have e : rwS2 v2 (S ++ [x]) = ⟨2, v2, 103, 4, S.length + 1, S.flatMap rsp ++ rsp x⟩ := by simp [rwS2]
  refine ⟨hp.1, ?_, ⟨hp.2.2, ?_, fun k hk hg ht => ?_⟩⟩
  · rw [PBx, e]; exact hp.2.1
  · have := gr.size; simpa [World.setCell] using this
  · refine (Below.heap_setCell w2 _ v2 k hg).trans (gr.block k hk fun e => ?_)
    rcases h.rS.2 with ⟨h1, _⟩ | ⟨q, cap, cur, h1, h2, h3, _⟩
    · rw [h1] at e; cases e
    · rw [h1] at e
      injection e with e
      have e : k = q := e
      subst e
      exact ht _ _ h3
theorem PBx.pushW (h : PBx w g off W S vW vS) (x : Int × Int) (own2 : w2.ownsRow (g + 1) 53 2 v2 (W.length + 1) (W.flatMap spc ++ spc x)) (gr : w.grownBy w2 vW.ownBlock) (mv : Moved w vW v2) :
    Blk w2 g 47 (pcs off vW vS) ∧ PBx (w2.setCell ⟨g, 1, none⟩ v2) g off (W ++ [x]) S v2 vS ∧ Below g w (w2.setCell ⟨g, 1, none⟩ v2) := by
  have hp := RBx.push (cs' := pcs off v2 vS) (pre := []) (r := rwW2 vW W) (post := [rwS2 vS S]) h own2 gr mv (by simp [pcs, rwW2])
  have e : rwW2 v2 (W ++ [x]) = ⟨1, v2, 53, 2, W.length + 1, W.flatMap spc ++ spc x⟩ := by simp [rwW2]
  refine ⟨hp.1, ?_, hp.2.2⟩
  rw [PBx, e]; exact hp.2.1
end
/-- Where the reference is on a way: the bridges' time is added ahead of a hop, not behind it. -/
def RHop2 (C : Cf) (off : Int) (f : Fw) (n : Nat) (S : List Sp) (es : List (Int × Int)) (ks : List Int) (k : Nat) (S' : List Sp) (low high : Int) : Prop :=
  HopInv C off f n S es ks k S' (low + if 0 < k ∧ k < n then C.proc else 0) (high + if 0 < k ∧ k < n then C.proc else 0)
section
variable {C : Cf} {off low high i : Int} {f : Fw} {n k : Nat} {S S' : List Sp} {es : List (Int × Int)} {ks : List Int} {e : Int × Int} {l : Lk}
theorem RHop2.start : RHop2 C off f n S es ks 0 S 0 0 := by
  unfold RHop2
  rw [if_neg (by omega)]
  exact HopInv.start
theorem RHop2.at_ (h : RHop2 C off f n S es ks k S' low high) (hk : k < n) (lo1 hi1 : Int) (h1 : lo1 = low + if 0 < k then C.proc else 0) (h2 : hi1 = high + if 0 < k then C.proc else 0) : HopInv C off f n S es ks k S' lo1 hi1 := by
  unfold RHop2 at h
  rw [h1, h2]
  by_cases h0 : 0 < k
  · rw [if_pos ⟨h0, hk⟩] at h; rw [if_pos h0]; exact h
  · rw [if_neg (fun c => h0 c.1)] at h; rw [if_neg h0]; exact h
theorem RHop2.step {lo1 hi1 : Int} (h : HopInv C off f n S es ks k S' lo1 hi1) (he : es[k]? = some e) (hi : ks[k]? = some i) (hb : ¬ (f.start + lo1 - 2 * off < 0 ∨ C.cycle < f.start + f.len + hi1 + 8 * f.size + 2 * off)) (hl : C.links[i.toNat]? = some l) :
    RHop2 C off f n S es ks (k + 1) (S' ++ [(e, (f.start + lo1 - 2 * off, f.start + f.len + hi1 + 8 * f.size + 2 * off))]) (lo1 + (8 * f.size + l.lo)) (hi1 + (8 * f.size + l.hi)) := by
  unfold RHop2
  refine h.step he hi hb hl _ _ ?_ ?_
  · by_cases hc : k + 1 < n
    · rw [if_pos ⟨by omega, hc⟩, if_pos hc]
    · rw [if_neg (fun c => hc c.2), if_neg hc]
  · by_cases hc : k + 1 < n
    · rw [if_pos ⟨by omega, hc⟩, if_pos hc]
    · rw [if_neg (fun c => hc c.2), if_neg hc]
theorem RHop2.done (h : RHop2 C off f n S es ks k S' low high) (hk : es.length ≤ k) (hn : n ≤ k) : hopsGo C off f n 0 S es ks 0 0 = .ok (S', low, high) := by
  unfold RHop2 at h
  rw [if_neg (fun c => by omega), Int.add_zero, Int.add_zero] at h
  exact h.done hk
end
theorem ways_q {w : World} {B : Nat} {C : Cf} {R : RL} {i : Nat} {f : Fw} {sl : Sl × Sl} (h : RfAt w B C R) (hf : C.flows[i]? = some f) (hs : R.ws[i]? = some sl) : ∃ ad, R.W.A = some ad ∧ ad.block < B ∧
    ∀ q, q < 2 → w.cell? ((ad.add (i * 2)).add q) = some (.slice ((two sl.1 sl.2 q).A) (two f.w0 f.w1 q).length ((two sl.1 sl.2 q).c)) := by
  obtain ⟨ad, h1, h2, h3⟩ := reads_at rwy_len h.wys (List.getElem?_zip_eq_some (z := (f, sl)).2 ⟨hf, hs⟩) (List.getElem?_eq_some_iff.1 hf).1
  refine ⟨ad, h1, h2, fun q hq => ?_⟩
  rcases (by omega : q = 0 ∨ q = 1) with rfl | rfl
  · exact h3 0 _ rfl
  · exact h3 1 _ rfl
theorem ways_qr {w : World} {B : Nat} {C : Cf} {R : RL} {i : Nat} {f : Fw} {sl : Sl × Sl} (h : RfAt w B C R) (hf : C.flows[i]? = some f) (hs : R.ws[i]? = some sl) (q : Nat) (hq : q < 2) : Reads w B 1 (two sl.1 sl.2 q).A (two f.w0 f.w1 q).length ((two f.w0 f.w1 q).map (Value.int .i64)) := by
  rcases (by omega : q = 0 ∨ q = 1) with rfl | rfl
  · exact (h.ways i f sl hf hs).1
  · exact (h.ways i f sl hf hs).2
end Go.Proofs.Ytaegngcbiefckaa
