/-
  A hop of the reference: where it comes to.
-/
import Derived.Test.YtaegngcbiefckaaRfX
namespace Go.Proofs.Ytaegngcbiefckaa
set_option linter.unusedSimpArgs false
set_option linter.unusedVariables false
open Go.RowKit Go.WideShapes Go.ChangeShapes
attribute [local go_sem ↓] Go.wp_at_zero Go.wp_at_succ

theorem sm_ret3 {P : Program} {fn : Func} {R : Ending → World → Prop} {a : Act} {w : World} {t u v : Tmp} {x y z : Value} (hr : fn.results = #[.tmp t, .tmp u, .tmp v]) (hd : a.defers = []) (e1 : a.tmps[t]? = some x) (e2 : a.tmps[u]? = some y) (e3 : a.tmps[v]? = some z)
    (hR : R (.returned (.tuple #[x, y, z])) w) : bodyPost P fn R .ret a w :=
  bodyPost_ret (v := .tuple #[x, y, z]) (by simp [results, hr, e1, e2, e3]) hd hR
/-- b[1 : N-1] of a slice of N ints. -/
theorem slice_mid (ad : Addr) (N c : Nat) (h1 : 2 ≤ N) (hc : N ≤ c) : ∃ A', (∀ W, (Instr.slice 36 (.slice (some ad) N c) (some (.int .i64 1)) (some (.int .i64 ((N : Int) - 1))) none).run Try.prog W = .ok (.slice A' (N - 2) (c - 1)) W) ∧
    ∀ (w : World) (B : Nat) (xs : List Value), Reads w B 1 (some ad) N xs → Reads w B 1 A' (N - 2) ((xs.drop 1).take (N - 2)) := by
  refine ⟨if c = 1 then some ad else some (ad.add 1), fun W => ?_, fun w B xs h => ?_⟩
  · rw [run_slice_lh W 36 (some ad) N c (by kernel_rfl) .i64 .i64 1 ((N : Int) - 1) (by omega) (by omega) (by omega)]
    rw [show (sizeOf (Try.prog.elem 36)).run Try.prog W = .ok 1 W by kernel_rfl]
    have e1 : ((N : Int) - 1).toNat - (1 : Int).toNat = N - 2 := by omega
    simp only [sliced, Result.andThen, Option.map_some]
    rw [e1]
    simp
  · refine ⟨by rw [List.length_take, List.length_drop, h.1]; omega, fun hn => ?_⟩
    obtain ⟨ad', he, hb, hc'⟩ := h.2 (by omega)
    cases he
    refine ⟨ad.add 1, if_neg (by omega), by rw [add_blk]; exact hb, fun j u hu => ?_⟩
    have hj : j < N - 2 := by
      have := (List.getElem?_eq_some_iff.1 hu).1
      rw [List.length_take] at this
      omega
    rw [List.getElem?_take_of_lt hj, List.getElem?_drop] at hu
    rw [add_of_add]
    exact hc' _ u hu
set_option maxRecDepth 100000 in
set_option maxHeartbeats 4000000 in
theorem rh_tail (g3 g4 n c i B0 : Nat) (A : Option Addr) (nxt : Int) (vN vO : Value) (seen : List Int) (out : List (Int × Int)) (a : Act) (w : World) (Q : Exit → Act → World → Prop)
    (hs : a.tmps.size = 117) (hd : a.defers = []) (e2 : a.tmps[2]? = some (.slice A n c)) (e3 : a.tmps[3]? = some (.pointer (some ⟨g3, 0, none⟩))) (e4 : a.tmps[4]? = some (.pointer (some ⟨g4, 0, none⟩))) (e10 : a.tmps[10]? = some (vN)) (e11 : a.tmps[11]? = some (vO)) (e15 : a.tmps[15]? = some (.int .i64 nxt)) (e25 : a.tmps[25]? = some (.slice A n c)) (e26 : a.tmps[26]? = some (.int .i64 (n : Int))) (e27 : a.tmps[27]? = some (.int .i64 (i : Int))) (hnx : 0 ≤ nxt) (hi : i < 16) (hsl : seen.length = i + 1) (hB : B0 ≤ w.heap.size)
    (rN : w.ownsRow B0 3 1 vN seen.length (seen.map (Value.int .i64))) (rO : w.ownsRow B0 53 2 vO out.length (out.flatMap ecc))
    (hret : ∀ (a : Act), a.tmps.size = 117 → a.defers = [] → a.tmps[6]? = some (.slice none 0 0) → a.tmps[7]? = some (.slice none 0 0) → a.tmps[8]? = some (.bool false) → seen.contains nxt = true → Q .ret a w)
    (hout : ∀ (a : Act) (w' : World) (vN' : Value), a.tmps.size = 117 → a.defers = [] → a.tmps[2]? = some (.slice A n c) → a.tmps[3]? = some (.pointer (some ⟨g3, 0, none⟩)) → a.tmps[4]? = some (.pointer (some ⟨g4, 0, none⟩)) → a.tmps[11]? = some (vO) → a.tmps[25]? = some (.slice A n c) → a.tmps[26]? = some (.int .i64 (n : Int)) → a.tmps[27]? = some (.int .i64 (i : Int)) → a.tmps[9]? = some (.int .i64 nxt) → a.tmps[10]? = some vN' → seen.contains nxt = false → Below B0 w w' →
      w'.ownsRow B0 3 1 vN' (seen ++ [nxt]).length ((seen ++ [nxt]).map (Value.int .i64)) → w'.ownsRow B0 53 2 vO out.length (out.flatMap ecc) → Q .normal a w') :
    Code.wp Try.prog (sub [true, true, true, true, false, true, false, false, true, true, false, false, true, true, true, true, true] (bodyOf Try.f26)) Q a w := by
  conv => arg 2; whnf
  have HRET := Lib.hid hret
  have HOUT := Lib.hid hout
  clear hret hout
  obtain ⟨Av, cv, hvN, hcv, hrd⟩ := ownsRow_reads rN
  subst hvN
  rw [hsl] at e10 hrd rN
  have HSL := Lib.hid hsl
  clear hsl
  have HN := Lib.hid rN
  have HO := Lib.hid rO
  clear rN rO; refine wp_seq_k fun Kq1 hKq1 => ?_; refine wp_seq_k fun Kq2 hKq2 => ?_
  have dn : decide (nxt < 0) = false := decide_eq_false (by omega)
  refine sm_list [15] 71 2 hs hd (by kernel_rfl) (agC e15 agN) rfl ?_
  simp only [seval]
  go_wp2_with fail
  intro a H; replace hs := H.s hs; replace hd := H.d rfl; replace e15 := H.g 15 rfl rfl; replace e2 := H.k e2 rfl; replace e3 := H.k e3 rfl; replace e4 := H.k e4 rfl; replace e10 := H.k e10 rfl; replace e11 := H.k e11 rfl; replace e25 := H.k e25 rfl; replace e26 := H.k e26 rfl; replace e27 := H.k e27 rfl; have e72 := H.g 72 rfl rfl; clear H; refine hKq2 _ _ ?_; clear hKq2 Kq2
  refine wp_cond_false (slotE e72) ?_
  clear e72; refine wp_skip ?_; refine hKq1 _ _ ?_; clear hKq1 Kq1; refine wp_seq_k fun Kq3 hKq3 => ?_; refine wp_seq_k fun Kq4 hKq4 => ?_; clear dn
  refine sm_list [10] 73 3 hs hd (by kernel_rfl) (agC e10 agN) rfl ?_
  simp only [seval]
  go_wp2_with fail
  intro a H; replace hs := H.s hs; replace hd := H.d rfl; replace e10 := H.g 10 rfl rfl; replace e2 := H.k e2 rfl; replace e3 := H.k e3 rfl; replace e4 := H.k e4 rfl; replace e11 := H.k e11 rfl; replace e15 := H.k e15 rfl; replace e25 := H.k e25 rfl; replace e26 := H.k e26 rfl; replace e27 := H.k e27 rfl; have e73 := H.g 73 rfl rfl; have e74 := H.g 74 rfl rfl; have e75 := H.g 75 rfl rfl; clear H; refine hKq4 _ _ ?_
  clear hKq4 Kq4; refine wp_block ?_
  have e74b : a.tmps[74]? = some (.int .i64 ((i + 1 : Nat) : Int)) := by first | exact e74 | simpa using e74
  replace e74 := e74b
  clear e74b
  refine wp_loop (fun a w' => ∃ j : Nat, j ≤ i + 1 ∧ a.tmps.size = 117 ∧ a.defers = [] ∧ a.tmps[2]? = some (.slice A n c) ∧ a.tmps[3]? = some (.pointer (some ⟨g3, 0, none⟩)) ∧ a.tmps[4]? = some (.pointer (some ⟨g4, 0, none⟩)) ∧ a.tmps[10]? = some (.slice Av (i + 1) cv) ∧ a.tmps[11]? = some (vO) ∧ a.tmps[15]? = some (.int .i64 nxt) ∧ a.tmps[25]? = some (.slice A n c) ∧ a.tmps[26]? = some (.int .i64 (n : Int)) ∧ a.tmps[27]? = some (.int .i64 (i : Int)) ∧ a.tmps[73]? = some (.slice Av (i + 1) cv) ∧ a.tmps[74]? = some (.int .i64 ((i + 1 : Nat) : Int)) ∧ a.tmps[75]? = some (.int .i64 (j : Int)) ∧ w' = w ∧ nxt ∉ seen.take j) (fun a _ => i + 1 - (intOf (a.tmps.getD 75 undef)).toNat) ?_ ?_
  · exact ⟨0, by omega, hs, hd, e2, e3, e4, e10, e11, e15, e25, e26, e27, e73, e74, e75, rfl, by simp⟩
  clear hs hd e75 e2 e3 e4 e10 e11 e15 e25 e26 e27 e73 e74 a
  rintro a w3 ⟨j, hj, hs, hd, e2, e3, e4, e10, e11, e15, e25, e26, e27, e73, e74, e75, rfl, hno⟩
  have HNO := Lib.hid hno
  clear hno
  have hm := slot e75
  refine wp_seq_k fun Kq5 hKq5 => ?_
  by_cases hlt : j < i + 1
  ·
    have dj : decide ((j : Int) < ((i + 1 : Nat) : Int)) = true := decide_eq_true (by omega)
    have dj2 : decide (j < i + 1) = true := decide_eq_true hlt
    have dj3 : decide ((j : Int) < (i : Int) + 1) = true := decide_eq_true (by omega)
    obtain ⟨z, hz⟩ : ∃ z, seen[j]? = some z := ⟨_, List.getElem?_eq_getElem (by rw [HSL.out]; exact hlt)⟩
    obtain ⟨ad, u, had, hadb, hu, hcl⟩ := hrd.at_ hlt
    have hu2 : u = .int .i64 z := by rw [List.getElem?_map, hz] at hu; exact (Option.some.inj hu).symm
    subst hu2
    have HZ := Lib.hid hz
    have HA := Lib.hid had
    clear hu hz had
    rw [HA.out] at e73
    refine sm_list [74, 75] 76 1 hs hd (by kernel_rfl) (agC e74 (agC e75 agN)) rfl ?_
    simp only [seval]
    go_wp2_with fail
    intro a H; replace hs := H.s hs; replace hd := H.d rfl; replace e74 := H.g 74 rfl rfl; replace e75 := H.g 75 rfl rfl; replace e2 := H.k e2 rfl; replace e3 := H.k e3 rfl; replace e4 := H.k e4 rfl; replace e10 := H.k e10 rfl; replace e11 := H.k e11 rfl; replace e15 := H.k e15 rfl; replace e25 := H.k e25 rfl; replace e26 := H.k e26 rfl; replace e27 := H.k e27 rfl; replace e73 := H.k e73 rfl; have e76 := H.g 76 rfl rfl
    clear H; refine hKq5 _ _ ?_; clear hKq5 Kq5; refine wp_seq_k fun Kq6 hKq6 => ?_
    refine wp_cond_true (slotE e76) ?_
    clear e76; refine wp_skip ?_; refine hKq6 _ _ ?_; clear hKq6 Kq6; refine wp_seq_k fun Kq7 hKq7 => ?_; refine wp_block ?_; refine wp_seq_k fun Kq8 hKq8 => ?_; clear dj dj2 dj3
    have hjI : (j : Int) < (i : Int) + 1 := by omega
    refine sm_list [17, 73, 75] 77 2 hs hd (by kernel_rfl) (agU (agC e73 (agC e75 agN))) rfl ?_
    simp only [seval]
    go_wp2_with fail
    intro a H; replace hs := H.s hs; replace hd := H.d rfl; replace e73 := H.g 73 rfl rfl; replace e75 := H.g 75 rfl rfl; replace e2 := H.k e2 rfl; replace e3 := H.k e3 rfl; replace e4 := H.k e4 rfl; replace e10 := H.k e10 rfl; replace e11 := H.k e11 rfl; replace e15 := H.k e15 rfl; replace e25 := H.k e25 rfl; replace e26 := H.k e26 rfl; replace e27 := H.k e27 rfl; replace e74 := H.k e74 rfl; have e17 := H.g 17 rfl rfl
    clear H; refine hKq8 _ _ ?_; clear hKq8 Kq8; refine wp_seq_k fun Kq9 hKq9 => ?_
    rw [← HA.out] at e73
    clear hcl
    by_cases hq : z = nxt
    · have dq : (z == nxt) = true := beq_iff_eq.2 hq
      have hmem : seen.contains nxt = true := by rw [← hq]; simpa using List.mem_of_getElem? HZ.out
      have HM := Lib.hid hmem
      clear hmem hq
      refine sm_list [15, 17] 79 3 hs hd (by kernel_rfl) (agC e15 (agC e17 agN)) rfl ?_
      simp only [seval]
      go_wp2_with fail
      intro a H; replace hs := H.s hs; replace hd := H.d rfl; replace e15 := H.g 15 rfl rfl; replace e17 := H.g 17 rfl rfl; replace e2 := H.k e2 rfl; replace e3 := H.k e3 rfl; replace e4 := H.k e4 rfl; replace e10 := H.k e10 rfl; replace e11 := H.k e11 rfl; replace e25 := H.k e25 rfl; replace e26 := H.k e26 rfl; replace e27 := H.k e27 rfl; replace e73 := H.k e73 rfl; replace e74 := H.k e74 rfl; replace e75 := H.k e75 rfl
      have e81 := H.g 81 rfl rfl; clear H; refine hKq9 _ _ ?_; clear hKq9 Kq9
      refine wp_cond_true (slotE e81) ?_
      clear e81; refine wp_seq_k fun Kq10 hKq10 => ?_
      refine sm_list [] 6 3 hs hd (by kernel_rfl) agN rfl ?_
      simp only [seval]
      go_wp2_with fail
      intro a H; replace hs := H.s hs; replace hd := H.d rfl; replace e2 := H.k e2 rfl; replace e3 := H.k e3 rfl; replace e4 := H.k e4 rfl; replace e10 := H.k e10 rfl; replace e11 := H.k e11 rfl; replace e15 := H.k e15 rfl; replace e25 := H.k e25 rfl; replace e26 := H.k e26 rfl; replace e27 := H.k e27 rfl; replace e73 := H.k e73 rfl; replace e74 := H.k e74 rfl; replace e75 := H.k e75 rfl; replace e17 := H.k e17 rfl
      have e6 := H.g 6 rfl rfl; have e7 := H.g 7 rfl rfl; have e8 := H.g 8 rfl rfl; clear H; refine hKq10 _ _ ?_; clear hKq10 Kq10; refine wp_ret ?_; refine ret_block ?_; refine exit_then rfl ?_; refine exit_then rfl ?_; refine ret_block ?_; refine exit_then rfl ?_
      exact HRET.out a hs hd e6 e7 e8 HM.out
    · have dq : (z == nxt) = false := beq_eq_false_iff_ne.2 hq
      have hno2 : nxt ∉ seen.take (j + 1) := by
        rw [take_more HZ.out]
        intro h
        rcases List.mem_append.1 h with h | h
        · exact HNO.out h
        · simp at h; exact hq h.symm
      have HNO2 := Lib.hid hno2
      clear hno2 hq
      refine sm_list [15, 17] 79 3 hs hd (by kernel_rfl) (agC e15 (agC e17 agN)) rfl ?_
      simp only [seval]
      go_wp2_with fail
      intro a H; replace hs := H.s hs; replace hd := H.d rfl; replace e15 := H.g 15 rfl rfl; replace e17 := H.g 17 rfl rfl; replace e2 := H.k e2 rfl; replace e3 := H.k e3 rfl; replace e4 := H.k e4 rfl; replace e10 := H.k e10 rfl; replace e11 := H.k e11 rfl; replace e25 := H.k e25 rfl; replace e26 := H.k e26 rfl; replace e27 := H.k e27 rfl; replace e73 := H.k e73 rfl; replace e74 := H.k e74 rfl; replace e75 := H.k e75 rfl
      have e81 := H.g 81 rfl rfl; clear H; refine hKq9 _ _ ?_; clear hKq9 Kq9
      refine wp_cond_false (slotE e81) ?_
      clear e81; refine wp_skip ?_; refine hKq7 _ _ ?_; clear hKq7 Kq7; clear e17
      refine sm_list [75] 82 1 hs hd (by kernel_rfl) (agC e75 agN) rfl ?_
      simp only [seval]
      go_wp2_with fail
      intro a H; replace hs := H.s hs; replace hd := H.d rfl; replace e2 := H.k e2 rfl; replace e3 := H.k e3 rfl; replace e4 := H.k e4 rfl; replace e10 := H.k e10 rfl; replace e11 := H.k e11 rfl; replace e15 := H.k e15 rfl; replace e25 := H.k e25 rfl; replace e26 := H.k e26 rfl; replace e27 := H.k e27 rfl; replace e73 := H.k e73 rfl; replace e74 := H.k e74 rfl; replace e75 := H.g 75 rfl rfl; clear H
      exact ⟨⟨j + 1, by omega, hs, hd, e2, e3, e4, e10, e11, e15, e25, e26, e27, e73, e74, e75, rfl, HNO2.out⟩, by first | (simp only [hm, slot e75, intOf]; omega) | (simp [e75, intOf]; omega)⟩
  · have hje : j = i + 1 := by omega
    have dj : decide ((j : Int) < ((i + 1 : Nat) : Int)) = false := decide_eq_false (by omega)
    have dj2 : decide (j < i + 1) = false := decide_eq_false hlt
    have dj3 : decide ((j : Int) < (i : Int) + 1) = false := decide_eq_false (by omega)
    have hcn : seen.contains nxt = false := by
      have h := HNO.out
      rw [hje, ← HSL.out, List.take_length] at h
      simpa using h
    have HCN := Lib.hid hcn
    clear hcn hlt hm hje
    refine sm_list [74, 75] 76 1 hs hd (by kernel_rfl) (agC e74 (agC e75 agN)) rfl ?_
    simp only [seval]
    go_wp2_with fail
    intro a H; replace hs := H.s hs; replace hd := H.d rfl; replace e74 := H.g 74 rfl rfl; replace e75 := H.g 75 rfl rfl; replace e2 := H.k e2 rfl; replace e3 := H.k e3 rfl; replace e4 := H.k e4 rfl; replace e10 := H.k e10 rfl; replace e11 := H.k e11 rfl; replace e15 := H.k e15 rfl; replace e25 := H.k e25 rfl; replace e26 := H.k e26 rfl; replace e27 := H.k e27 rfl; replace e73 := H.k e73 rfl; have e76 := H.g 76 rfl rfl
    clear H; refine hKq5 _ _ ?_; clear hKq5 Kq5; refine wp_seq_k fun Kq6 hKq6 => ?_
    refine wp_cond_false (slotE e76) ?_
    clear e76; refine wp_exit ?_; refine exit_then rfl ?_; clear hKq6 Kq6; refine exit_then rfl ?_; refine exit_hit ?_; refine hKq3 _ _ ?_; clear hKq3 Kq3; refine wp_seq_k fun Kq7 hKq7 => ?_; clear e73; clear e74; clear e75; clear dj dj2 dj3 hj
    refine sm_list [9, 15] 83 1 hs hd (by kernel_rfl) (agU (agC e15 agN)) rfl ?_
    simp only [seval]
    go_wp2_with fail
    intro a H; replace hs := H.s hs; replace hd := H.d rfl; replace e15 := H.g 15 rfl rfl; replace e2 := H.k e2 rfl; replace e3 := H.k e3 rfl; replace e4 := H.k e4 rfl; replace e10 := H.k e10 rfl; replace e11 := H.k e11 rfl; replace e25 := H.k e25 rfl; replace e26 := H.k e26 rfl; replace e27 := H.k e27 rfl; have e9 := H.g 9 rfl rfl; clear H; refine hKq7 _ _ ?_; clear hKq7 Kq7
    have HBZ := Lib.hid hB
    refine sm_list [9, 10] 84 4 hs hd (by kernel_rfl) (agC e9 (agC e10 agN)) rfl ?_
    simp only [seval]
    go_wp2_with (first | (at_builtin; refine wpList_pushG 1 rfl (.tmp 2) (.tmp 4) 36 rfl rsI (wr := w3) (cs := #[.int .i64 nxt]) rfl (by intro u hu; simp at hu; subst hu; rfl) (v := .slice Av (i + 1) cv) rfl HN.out rfl rfl (by omega) HBZ.out ?_; intro v2 w6 own2 gr2 mv2; have OWN := Lib.hid own2; have GR := Lib.hid gr2; clear own2 gr2 mv2) | fail)
    intro a H; replace hs := H.s hs; replace hd := H.d rfl; replace e9 := H.g 9 rfl rfl; replace e2 := H.k e2 rfl; replace e3 := H.k e3 rfl; replace e4 := H.k e4 rfl; replace e11 := H.k e11 rfl; replace e15 := H.k e15 rfl; replace e25 := H.k e25 rfl; replace e26 := H.k e26 rfl; replace e27 := H.k e27 rfl; replace e10 := H.g 10 rfl rfl; clear H
    have hb6 := below_of_grown GR.out HN.out HBZ.out
    have hO6 := own_type HO.out (row_type HN.out GR.out (by decide))
    refine HOUT.out a w6 v2 hs hd e2 e3 e4 e11 e25 e26 e27 e9 e10 HCN.out hb6 ?_ hO6
    rw [List.length_append, HSL.out, List.map_append]
    exact OWN.out
end Go.Proofs.Ytaegngcbiefckaa
