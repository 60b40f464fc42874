/-
  The reference goes along a way.
-/
import Derived.Test.YtaegngcbiefckaaRmA
namespace Go.Proofs.Ytaegngcbiefckaa
set_option linter.unusedSimpArgs false
set_option linter.unusedVariables false
open Go.RowKit Go.WideShapes Go.ChangeShapes
attribute [local go_sem ↓] Go.wp_at_zero Go.wp_at_succ

set_option maxRecDepth 100000 in
set_option maxHeartbeats 4000000 in
theorem rm_hops (C : Cf) (R : RL) (f : Fw) (sl : Sl × Sl) (off : Int) (i q n c g1 g2 g5 g7 g10 Bo : Nat) (A : Option Addr) (vo : Array Value) (es : List (Int × Int)) (ks : List Int) (S : List Sp) (W : List (Int × Int)) (vW vS : Value) (v9 v24 v25 v46 v47 v48 : Value) (a : Act) (w : World) (Q : Exit → Act → World → Prop)
    (hs : a.tmps.size = 388) (hd : a.defers = []) (e1 : a.tmps[1]? = some (.pointer (some ⟨g1, 0, none⟩))) (e2 : a.tmps[2]? = some (.pointer (some ⟨g2, 0, none⟩))) (e5 : a.tmps[5]? = some (.pointer (some ⟨g5, 0, none⟩))) (e6 : a.tmps[6]? = some (.int .i64 (i : Int))) (e7 : a.tmps[7]? = some (.pointer (some ⟨g7, 0, none⟩))) (e9 : a.tmps[9]? = some (v9)) (e10 : a.tmps[10]? = some (.pointer (some ⟨g10, 0, none⟩))) (e24 : a.tmps[24]? = some (v24)) (e25 : a.tmps[25]? = some (v25)) (e26 : a.tmps[26]? = some (.int .i64 (q : Int))) (e27 : a.tmps[27]? = some (.int .i64 0)) (e28 : a.tmps[28]? = some (.int .i64 0)) (e46 : a.tmps[46]? = some (v46)) (e47 : a.tmps[47]? = some (v47)) (e48 : a.tmps[48]? = some (v48))
    (hC : RfAt w g1 C R) (BC : Blk w g1 42 (rfc C R)) (B2 : Blk w g2 47 #[.int .i64 0, .slice none 0 0, .slice none 0 0]) (B7 : Blk w g7 96 #[.int .i64 f.src, .int .i64 f.dst, .int .i64 f.start, .int .i64 f.len, .int .i64 f.size, .int .i64 f.late]) (B10 : Blk w g10 99 vo) (hP : PBx w g5 off W S vW vS) (hord : g1 < g5 ∧ g2 < g5 ∧ g5 < g7 ∧ g5 < g10) (hcell : vo[q]? = some (.slice A n c))
    (hO : w.ownsRow (g5 + 1) 53 2 (.slice A n c) n (es.flatMap ecc)) (hfl : C.flows[i]? = some f) (hsl : R.ws[i]? = some sl) (hfn : C.flows.length ≤ 16) (hq : q < 2) (hks : ks = two f.w0 f.w1 q) (hn : n ≤ 16) (hkn : ks.length = n) (hen : es.length = n) (hkr : ∀ k ∈ ks, 0 ≤ k ∧ k < (C.links.length : Int))
    (hW : Well C) (hoff : 0 ≤ off ∧ off ≤ 1000000000000000) (hf : (0 ≤ f.start ∧ f.start ≤ 1073741824) ∧ (0 ≤ f.len ∧ f.len ≤ 1073741824) ∧ (64 ≤ f.size ∧ f.size ≤ 1600)) (hS : S.length ≤ 2000)
    (hend : ∀ (a : Act) (w' : World) (S' : List Sp) (vS' : Value) (low high : Int), a.tmps.size = 388 → a.defers = [] → a.tmps[1]? = some (.pointer (some ⟨g1, 0, none⟩)) → a.tmps[2]? = some (.pointer (some ⟨g2, 0, none⟩)) → a.tmps[5]? = some (.pointer (some ⟨g5, 0, none⟩)) → a.tmps[6]? = some (.int .i64 (i : Int)) → a.tmps[7]? = some (.pointer (some ⟨g7, 0, none⟩)) → a.tmps[9]? = some (v9) → a.tmps[10]? = some (.pointer (some ⟨g10, 0, none⟩)) → a.tmps[24]? = some (v24) → a.tmps[25]? = some (v25) → a.tmps[26]? = some (.int .i64 (q : Int)) → a.tmps[46]? = some (v46) → a.tmps[47]? = some (v47) → a.tmps[48]? = some (v48) → a.tmps[27]? = some (.int .i64 low) → a.tmps[28]? = some (.int .i64 high) → FrT g5 103 w w' → PBx w' g5 off W S' vW vS' →
      S'.length = S.length + n → (0 ≤ low ∧ low ≤ 64000000) → (0 ≤ high ∧ high ≤ 64000000) → hopsGo C off f n 0 S es ks 0 0 = .ok (S', low, high) → Q .normal a w')
    (hret : ∀ (a : Act) (w' : World), a.tmps.size = 388 → a.defers = [] → a.tmps[2]? = some (.pointer (some ⟨g2, 0, none⟩)) → a.tmps[3]? = some (.int .i64 61) → Below (min g1 g2) w w' → Blk w' g2 47 #[.int .i64 0, .slice none 0 0, .slice none 0 0] → hopsGo C off f n 0 S es ks 0 0 = .error 61 → Q .ret a w') :
    Code.wp Try.prog (sub [true, true, true, true, false, true, false, false, true, true, false, false, true, true, true, true, true, true, true, true, true, true, true, false, true, false, false, true, false, false, true, true, false] (bodyOf Try.f13)) Q a w := by
  conv => arg 2; whnf
  have HEND := Lib.hid (And.intro hend hret)
  have HKR := Lib.hid hkr
  have HW := Lib.hid hW
  have HCELL := Lib.hid hcell
  have HKS := Lib.hid hks
  have HFL := Lib.hid hfl
  have HSL := Lib.hid hsl
  have HQ := Lib.hid hq
  clear hend hret hkr hW hcell hks
  obtain ⟨ho1, ho2, ho3, ho4⟩ := hord
  obtain ⟨⟨hf1, hf2⟩, ⟨hf3, hf4⟩, hf5, hf6⟩ := hf
  obtain ⟨hoff1, hoff2⟩ := hoff
  have hin : i < C.flows.length := (List.getElem?_eq_some_iff.1 hfl).1
  obtain ⟨adW, hWA, hWb, hwq⟩ := ways_q hC hfl hsl
  have hrq := ways_qr hC hfl hsl q hq
  rw [← HKS.out] at hrq
  have hwq2 := hwq q hq
  rw [← HKS.out] at hwq2
  generalize hslq : two sl.1 sl.2 q = sq at *
  clear hslq hwq
  have HEN := Lib.hid hen
  have HKN := Lib.hid hkn
  have HWA := Lib.hid hWA
  clear hen hkn hWA hfl hsl hq
  obtain ⟨A0, c0, he0, _, hrO⟩ := ownsRow_reads hO
  cases he0
  have HO := Lib.hid hO
  have HOK : Hid (∀ k, (Value.slice A n c).ownBlock = some k → k ≠ g5) := Lib.hid fun k hk => by have := (ownsRow_lt HO.out k hk).1; omega
  clear hO; have HQ1 := HW.out.q1; have HQ2 := HW.out.q2
  have hiI : (i : Int) < (C.flows.length : Int) := by omega
  have hqI : (q : Int) < 2 := by have := HQ.out; omega
  have hqI0 : (0 : Int) ≤ (q : Int) := by omega
  have hiI0 : (0 : Int) ≤ (i : Int) := by omega
  have o1 := B10.cellOf q HCELL.out
  refine wp_seq_k fun Kq1 hKq1 => ?_
  refine sm_list [10, 26] 211 5 hs hd (by kernel_rfl) (agC e10 (agC e26 agN)) rfl ?_
  simp only [seval]
  go_wp2_with fail
  intro a H; replace hs := H.s hs; replace hd := H.d rfl; replace e10 := H.g 10 rfl rfl; replace e26 := H.g 26 rfl rfl; replace e1 := H.k e1 rfl; replace e2 := H.k e2 rfl; replace e5 := H.k e5 rfl; replace e6 := H.k e6 rfl; replace e7 := H.k e7 rfl; replace e9 := H.k e9 rfl; replace e24 := H.k e24 rfl; replace e25 := H.k e25 rfl; replace e27 := H.k e27 rfl; replace e28 := H.k e28 rfl; replace e46 := H.k e46 rfl; replace e47 := H.k e47 rfl; replace e48 := H.k e48 rfl
  have e213 := H.g 213 rfl rfl; have e214 := H.g 214 rfl rfl; have e215 := H.g 215 rfl rfl; clear H; refine hKq1 _ _ ?_; clear hKq1 Kq1; refine wp_block ?_; clear o1
  refine wp_loop (fun a w' => ∃ (k : Nat) (low high : Int) (S' : List Sp) (vS' : Value), k ≤ n ∧ S'.length = S.length + k ∧ (0 ≤ low ∧ low ≤ 4000000 * (k : Int)) ∧ (0 ≤ high ∧ high ≤ 4000000 * (k : Int)) ∧ a.tmps.size = 388 ∧ a.defers = [] ∧ a.tmps[1]? = some (.pointer (some ⟨g1, 0, none⟩)) ∧ a.tmps[2]? = some (.pointer (some ⟨g2, 0, none⟩)) ∧ a.tmps[5]? = some (.pointer (some ⟨g5, 0, none⟩)) ∧ a.tmps[6]? = some (.int .i64 (i : Int)) ∧ a.tmps[7]? = some (.pointer (some ⟨g7, 0, none⟩)) ∧ a.tmps[9]? = some (v9) ∧ a.tmps[10]? = some (.pointer (some ⟨g10, 0, none⟩)) ∧ a.tmps[24]? = some (v24) ∧ a.tmps[25]? = some (v25) ∧ a.tmps[26]? = some (.int .i64 (q : Int)) ∧ a.tmps[46]? = some (v46) ∧ a.tmps[47]? = some (v47) ∧ a.tmps[48]? = some (v48) ∧ a.tmps[213]? = some (.slice A n c) ∧ a.tmps[214]? = some (.int .i64 (n : Int)) ∧ a.tmps[215]? = some (.int .i64 (k : Int)) ∧ a.tmps[27]? = some (.int .i64 low) ∧ a.tmps[28]? = some (.int .i64 high) ∧ FrT g5 103 w w' ∧ PBx w' g5 off W S' vW vS' ∧ RHop2 C off f n S es ks k S' low high) (fun a _ => n - (intOf (a.tmps.getD 215 undef)).toNat) ?_ ?_
  · exact ⟨0, 0, 0, S, vS, Nat.zero_le _, rfl, by omega, by omega, hs, hd, e1, e2, e5, e6, e7, e9, e10, e24, e25, e26, e46, e47, e48, e213, e214, e215, e27, e28, FrT.refl, hP, RHop2.start⟩
  clear hs hd e215 e27 e28 e1 e2 e5 e6 e7 e9 e10 e24 e25 e26 e46 e47 e48 e213 e214 a hP
  rintro a w3 ⟨k, low, high, S', vS', hk1, hsl, ⟨hl1, hl2⟩, ⟨hh1, hh2⟩, hs, hd, e1, e2, e5, e6, e7, e9, e10, e24, e25, e26, e46, e47, e48, e213, e214, e215, e27, e28, hfr, hP, hG⟩
  have hsb : S'.length ≤ 2016 := by omega
  have HSL2 := Lib.hid hsl
  have HG := Lib.hid hG
  clear hG hsl
  have hm := slot e215
  refine wp_seq_k fun Kq2 hKq2 => ?_
  by_cases hlt : k < n
  ·
    have dj : decide ((k : Int) < (n : Int)) = true := decide_eq_true (by omega)
    obtain ⟨⟨x, y⟩, hx⟩ : ∃ e, es[k]? = some e := ⟨_, List.getElem?_eq_getElem (by rw [HEN.out]; exact hlt)⟩
    obtain ⟨ii, hi⟩ : ∃ i, ks[k]? = some i := ⟨_, List.getElem?_eq_getElem (by rw [HKN.out]; exact hlt)⟩
    have hir := HKR.out _ (List.mem_of_getElem? hi)
    obtain ⟨ii, rfl⟩ : ∃ j : Nat, ii = (j : Int) := ⟨ii.toNat, by omega⟩
    have hiN : ii < C.links.length := by omega
    obtain ⟨l, hl⟩ : ∃ l, C.links[ii]? = some l := ⟨_, List.getElem?_eq_getElem hiN⟩
    have hlo := (HW.out.links l (List.mem_of_getElem? hl)).lo
    have hlh := (HW.out.links l (List.mem_of_getElem? hl)).hi
    have hlm := (HW.out.links l (List.mem_of_getElem? hl)).most
    have hO3 := hfr.own HO.out (by decide) HOK.out
    obtain ⟨A3, c3, he3, _, hr3⟩ := ownsRow_reads hO3
    cases he3
    obtain ⟨ad, hA, hadb, hcl⟩ := reads_at ecc_len hr3 hx hlt
    have HX := Lib.hid (And.intro hx (And.intro hi hl))
    have HCL := Lib.hid hcl
    have HA := Lib.hid hA
    clear hx hi hl hcl hA hO3 hr3
    rw [HA.out] at e213
    refine sm_list [214, 215] 216 1 hs hd (by kernel_rfl) (agC e214 (agC e215 agN)) rfl ?_
    simp only [seval]
    go_wp2_with fail
    intro a H; replace hs := H.s hs; replace hd := H.d rfl; replace e214 := H.g 214 rfl rfl; replace e215 := H.g 215 rfl rfl; replace e1 := H.k e1 rfl; replace e2 := H.k e2 rfl; replace e5 := H.k e5 rfl; replace e6 := H.k e6 rfl; replace e7 := H.k e7 rfl; replace e9 := H.k e9 rfl; replace e10 := H.k e10 rfl; replace e24 := H.k e24 rfl; replace e25 := H.k e25 rfl; replace e26 := H.k e26 rfl; replace e46 := H.k e46 rfl; replace e47 := H.k e47 rfl; replace e48 := H.k e48 rfl; replace e213 := H.k e213 rfl; replace e27 := H.k e27 rfl; replace e28 := H.k e28 rfl
    have e216 := H.g 216 rfl rfl; clear H; refine hKq2 _ _ ?_; clear hKq2 Kq2; refine wp_seq_k fun Kq3 hKq3 => ?_
    refine wp_cond_true (slotE e216) ?_
    clear e216; refine wp_skip ?_; refine hKq3 _ _ ?_; clear hKq3 Kq3; refine wp_seq_k fun Kq4 hKq4 => ?_; refine wp_block ?_; refine wp_seq_k fun Kq5 hKq5 => ?_
    have B30 := Blk.new w3 53 #[.int .i64 x, .int .i64 y]
    have L5 : Below w3.heap.size w3 (w3.alloc (.cells #[.int .i64 x, .int .i64 y] 53)) := (Below.refl _ _).alloc (Nat.le_refl _) _
    have hP5 := hP.keep L5
    have hg5z : g5 ≤ w3.heap.size := Nat.le_of_lt hP.B.lt
    have hfr5 := hfr.trans (FrT.be L5 hg5z)
    refine sm_list [29, 30, 213, 215] 217 3 hs hd (by kernel_rfl) (agU (agU (agC e213 (agC e215 agN)))) rfl ?_
    simp only [seval]
    go_wp2_with (first | (refine wpList_load_any_d rfl 53 (.tmp 5) rfl (ad.add (k * 2)) rfl (#[.int .i64 x, .int .i64 y]) _ (fun j u hu => HCL.out j u hu) Try.underlying53 rfl (by kernel_rfl) ?_) | (refine wpList_store_new rfl 53 (.tmp 1) (.tmp 6) rfl rfl rfl rfl rfl (by kernel_rfl) (by rw [← Array.all_toList]; rfl) ?_) | fail)
    intro a H; replace hs := H.s hs; replace hd := H.d rfl; replace e213 := H.g 213 rfl rfl; replace e215 := H.g 215 rfl rfl; replace e1 := H.k e1 rfl; replace e2 := H.k e2 rfl; replace e5 := H.k e5 rfl; replace e6 := H.k e6 rfl; replace e7 := H.k e7 rfl; replace e9 := H.k e9 rfl; replace e10 := H.k e10 rfl; replace e24 := H.k e24 rfl; replace e25 := H.k e25 rfl; replace e26 := H.k e26 rfl; replace e46 := H.k e46 rfl; replace e47 := H.k e47 rfl; replace e48 := H.k e48 rfl; replace e214 := H.k e214 rfl; replace e27 := H.k e27 rfl; replace e28 := H.k e28 rfl
    have e29 := H.g 29 rfl rfl; have e30 := H.g 30 rfl rfl; clear H; refine hKq5 _ _ ?_; clear hKq5 Kq5; refine wp_seq_k fun Kq6 hKq6 => ?_; refine wp_seq_k fun Kq7 hKq7 => ?_
    rw [← HA.out] at e213
    obtain ⟨g30, hg30⟩ : ∃ g, g = w3.heap.size := ⟨_, rfl⟩
    rw [← hg30] at B30 e30 hg5z
    generalize (w3.alloc (.cells #[.int .i64 x, .int .i64 y] 53)) = w5 at *
    clear hg30 hfr L5 hP
    obtain ⟨lo1, hlo1⟩ : ∃ z, z = low + if 0 < k then C.proc else 0 := ⟨_, rfl⟩
    obtain ⟨hi1, hhi1⟩ : ∃ z, z = high + if 0 < k then C.proc else 0 := ⟨_, rfl⟩
    have HAT := Lib.hid (HG.out.at_ hlt lo1 hi1 hlo1 hhi1)
    have hlo2 : 0 ≤ lo1 ∧ lo1 ≤ 4000000 * (k : Int) + 1048576 := by rw [hlo1]; split <;> omega
    have hhi2 : 0 ≤ hi1 ∧ hi1 ≤ 4000000 * (k : Int) + 1048576 := by rw [hhi1]; split <;> omega
    have HL1 := Lib.hid (And.intro hlo1 hhi1)
    clear hlo1 hhi1
    have BC5 : Blk w5 g1 42 (rfc C R) := hfr5.blk BC (by decide) (by omega)
    have z4 := BC5.cellOf (v := .int .i64 C.proc) 9 rfl
    have z0 := BC5.cellOf (v := .int .i64 C.cycle) 5 rfl
    have hcs : (0 < k) ∨ ¬ (0 < k) := by omega
    have HCS := Lib.hid hcs
    clear hcs
    refine sm_list [29] 220 2 hs hd (by kernel_rfl) (agC e29 agN) rfl ?_
    simp only [seval]
    go_wp2_with fail
    intro a H; replace hs := H.s hs; replace hd := H.d rfl; replace e29 := H.g 29 rfl rfl; replace e1 := H.k e1 rfl; replace e2 := H.k e2 rfl; replace e5 := H.k e5 rfl; replace e6 := H.k e6 rfl; replace e7 := H.k e7 rfl; replace e9 := H.k e9 rfl; replace e10 := H.k e10 rfl; replace e24 := H.k e24 rfl; replace e25 := H.k e25 rfl; replace e26 := H.k e26 rfl; replace e46 := H.k e46 rfl; replace e47 := H.k e47 rfl; replace e48 := H.k e48 rfl; replace e213 := H.k e213 rfl; replace e214 := H.k e214 rfl; replace e215 := H.k e215 rfl; replace e27 := H.k e27 rfl; replace e28 := H.k e28 rfl; replace e30 := H.k e30 rfl
    have e221 := H.g 221 rfl rfl; clear H; refine hKq7 _ _ ?_; clear hKq7 Kq7
    suffices HK : ∀ (a' : Act), a'.tmps.size = a.tmps.size → a'.defers = [] → a'.tmps[1]? = a.tmps[1]? → a'.tmps[2]? = a.tmps[2]? → a'.tmps[5]? = a.tmps[5]? → a'.tmps[6]? = a.tmps[6]? → a'.tmps[7]? = a.tmps[7]? → a'.tmps[9]? = a.tmps[9]? → a'.tmps[10]? = a.tmps[10]? → a'.tmps[24]? = a.tmps[24]? → a'.tmps[25]? = a.tmps[25]? → a'.tmps[26]? = a.tmps[26]? → a'.tmps[46]? = a.tmps[46]? → a'.tmps[47]? = a.tmps[47]? → a'.tmps[48]? = a.tmps[48]? → a'.tmps[213]? = a.tmps[213]? → a'.tmps[214]? = a.tmps[214]? → a'.tmps[215]? = a.tmps[215]? → a'.tmps[29]? = a.tmps[29]? → a'.tmps[30]? = a.tmps[30]? → a'.tmps[27]? = some (.int .i64 lo1) → a'.tmps[28]? = some (.int .i64 hi1) → Kq6 a' w5 by
      obtain ⟨a0, ha0⟩ : ∃ a0, a0 = a := ⟨_, rfl⟩
      rw [← ha0] at HK
      have HA0 := Lib.hid ha0
      have q1 : a.tmps[1]? = a0.tmps[1]? := by rw [ha0]
      have q2 : a.tmps[2]? = a0.tmps[2]? := by rw [ha0]
      have q5 : a.tmps[5]? = a0.tmps[5]? := by rw [ha0]
      have q6 : a.tmps[6]? = a0.tmps[6]? := by rw [ha0]
      have q7 : a.tmps[7]? = a0.tmps[7]? := by rw [ha0]
      have q9 : a.tmps[9]? = a0.tmps[9]? := by rw [ha0]
      have q10 : a.tmps[10]? = a0.tmps[10]? := by rw [ha0]
      have q24 : a.tmps[24]? = a0.tmps[24]? := by rw [ha0]
      have q25 : a.tmps[25]? = a0.tmps[25]? := by rw [ha0]
      have q26 : a.tmps[26]? = a0.tmps[26]? := by rw [ha0]
      have q46 : a.tmps[46]? = a0.tmps[46]? := by rw [ha0]
      have q47 : a.tmps[47]? = a0.tmps[47]? := by rw [ha0]
      have q48 : a.tmps[48]? = a0.tmps[48]? := by rw [ha0]
      have q213 : a.tmps[213]? = a0.tmps[213]? := by rw [ha0]
      have q214 : a.tmps[214]? = a0.tmps[214]? := by rw [ha0]
      have q215 : a.tmps[215]? = a0.tmps[215]? := by rw [ha0]
      have q29 : a.tmps[29]? = a0.tmps[29]? := by rw [ha0]
      have q30 : a.tmps[30]? = a0.tmps[30]? := by rw [ha0]
      clear ha0
      rcases HCS.out with h0 | h0
      ·
        replace e221 : a.tmps[221]? = some (.bool true) := by first | exact e221 | (rw [e221]; exact congrArg some (congrArg Value.bool (decide_eq_true (by omega))))
        have e1q := e1
        rw [q1] at e1q
        clear q1
        have e2q := e2
        rw [q2] at e2q
        clear q2
        have e5q := e5
        rw [q5] at e5q
        clear q5
        have e6q := e6
        rw [q6] at e6q
        clear q6
        have e7q := e7
        rw [q7] at e7q
        clear q7
        have e9q := e9
        rw [q9] at e9q
        clear q9
        have e10q := e10
        rw [q10] at e10q
        clear q10
        have e24q := e24
        rw [q24] at e24q
        clear q24
        have e25q := e25
        rw [q25] at e25q
        clear q25
        have e26q := e26
        rw [q26] at e26q
        clear q26
        have e46q := e46
        rw [q46] at e46q
        clear q46
        have e47q := e47
        rw [q47] at e47q
        clear q47
        have e48q := e48
        rw [q48] at e48q
        clear q48
        have e213q := e213
        rw [q213] at e213q
        clear q213
        have e214q := e214
        rw [q214] at e214q
        clear q214
        have e215q := e215
        rw [q215] at e215q
        clear q215
        have e29q := e29
        rw [q29] at e29q
        clear q29
        have e30q := e30
        rw [q30] at e30q
        clear q30
        have hs0 : a0.tmps.size = a.tmps.size := by rw [HA0.out]
        rw [hs] at hs0
        clear HA0
        refine wp_cond_true (slotE e221) ?_
        clear e221; refine wp_seq_k fun Kq8 hKq8 => ?_; have hx1 := HL1.out.1; have hx2 := HL1.out.2
        rw [if_pos h0] at hx1 hx2
        have HX1 := Lib.hid hx1
        have HX2 := Lib.hid hx2
        clear hx1 hx2
        refine sm_list [1, 27] 222 5 hs hd (by kernel_rfl) (agC e1 (agC e27 agN)) rfl ?_
        simp only [seval]
        go_wp2_with fail
        intro a H; replace hs := H.s hs; replace hd := H.d rfl; replace e1 := H.g 1 rfl rfl; replace e2 := H.k e2 rfl; replace e5 := H.k e5 rfl; replace e6 := H.k e6 rfl; replace e7 := H.k e7 rfl; replace e9 := H.k e9 rfl; replace e10 := H.k e10 rfl; replace e24 := H.k e24 rfl; replace e25 := H.k e25 rfl; replace e26 := H.k e26 rfl; replace e46 := H.k e46 rfl; replace e47 := H.k e47 rfl; replace e48 := H.k e48 rfl; replace e213 := H.k e213 rfl; replace e214 := H.k e214 rfl; replace e215 := H.k e215 rfl; replace e28 := H.k e28 rfl; replace e29 := H.k e29 rfl; replace e30 := H.k e30 rfl
        replace e27 := H.g 27 rfl rfl; clear H; refine hKq8 _ _ ?_; clear hKq8 Kq8
        refine sm_list [1, 28] 227 5 hs hd (by kernel_rfl) (agC e1 (agC e28 agN)) rfl ?_
        simp only [seval]
        go_wp2_with fail
        intro a H; replace hs := H.s hs; replace hd := H.d rfl; replace e1 := H.g 1 rfl rfl; replace e2 := H.k e2 rfl; replace e5 := H.k e5 rfl; replace e6 := H.k e6 rfl; replace e7 := H.k e7 rfl; replace e9 := H.k e9 rfl; replace e10 := H.k e10 rfl; replace e24 := H.k e24 rfl; replace e25 := H.k e25 rfl; replace e26 := H.k e26 rfl; replace e46 := H.k e46 rfl; replace e47 := H.k e47 rfl; replace e48 := H.k e48 rfl; replace e213 := H.k e213 rfl; replace e214 := H.k e214 rfl; replace e215 := H.k e215 rfl; replace e29 := H.k e29 rfl; replace e30 := H.k e30 rfl; replace e27 := H.k e27 rfl
        replace e28 := H.g 28 rfl rfl; clear H
        rw [← HX1.out] at e27
        rw [← HX2.out] at e28
        exact HK a (hs.trans hs0.symm) hd (e1.trans e1q.symm) (e2.trans e2q.symm) (e5.trans e5q.symm) (e6.trans e6q.symm) (e7.trans e7q.symm) (e9.trans e9q.symm) (e10.trans e10q.symm) (e24.trans e24q.symm) (e25.trans e25q.symm) (e26.trans e26q.symm) (e46.trans e46q.symm) (e47.trans e47q.symm) (e48.trans e48q.symm) (e213.trans e213q.symm) (e214.trans e214q.symm) (e215.trans e215q.symm) (e29.trans e29q.symm) (e30.trans e30q.symm) e27 e28
      ·
        replace e221 : a.tmps[221]? = some (.bool false) := by first | exact e221 | (rw [e221]; exact congrArg some (congrArg Value.bool (decide_eq_false (by omega))))
        have e1q := e1
        rw [q1] at e1q
        clear q1
        have e2q := e2
        rw [q2] at e2q
        clear q2
        have e5q := e5
        rw [q5] at e5q
        clear q5
        have e6q := e6
        rw [q6] at e6q
        clear q6
        have e7q := e7
        rw [q7] at e7q
        clear q7
        have e9q := e9
        rw [q9] at e9q
        clear q9
        have e10q := e10
        rw [q10] at e10q
        clear q10
        have e24q := e24
        rw [q24] at e24q
        clear q24
        have e25q := e25
        rw [q25] at e25q
        clear q25
        have e26q := e26
        rw [q26] at e26q
        clear q26
        have e46q := e46
        rw [q46] at e46q
        clear q46
        have e47q := e47
        rw [q47] at e47q
        clear q47
        have e48q := e48
        rw [q48] at e48q
        clear q48
        have e213q := e213
        rw [q213] at e213q
        clear q213
        have e214q := e214
        rw [q214] at e214q
        clear q214
        have e215q := e215
        rw [q215] at e215q
        clear q215
        have e29q := e29
        rw [q29] at e29q
        clear q29
        have e30q := e30
        rw [q30] at e30q
        clear q30
        have hs0 : a0.tmps.size = a.tmps.size := by rw [HA0.out]
        rw [hs] at hs0
        clear HA0
        refine wp_cond_false (slotE e221) ?_
        clear e221; refine wp_skip ?_; have hx1 := HL1.out.1; have hx2 := HL1.out.2
        rw [if_neg h0, Int.add_zero] at hx1 hx2
        rw [← hx1] at e27
        rw [← hx2] at e28
        exact HK a (hs.trans hs0.symm) hd (e1.trans e1q.symm) (e2.trans e2q.symm) (e5.trans e5q.symm) (e6.trans e6q.symm) (e7.trans e7q.symm) (e9.trans e9q.symm) (e10.trans e10q.symm) (e24.trans e24q.symm) (e25.trans e25q.symm) (e26.trans e26q.symm) (e46.trans e46q.symm) (e47.trans e47q.symm) (e48.trans e48q.symm) (e213.trans e213q.symm) (e214.trans e214q.symm) (e215.trans e215q.symm) (e29.trans e29q.symm) (e30.trans e30q.symm) e27 e28
    intro a' g_s g_d g1 g2 g5 g6 g7 g9 g10 g24 g25 g26 g46 g47 g48 g213 g214 g215 g29 g30 f27 f28
    replace hs := g_s.trans hs; replace hd := g_d; replace e1 := g1.trans e1; replace e2 := g2.trans e2; replace e5 := g5.trans e5; replace e6 := g6.trans e6; replace e7 := g7.trans e7; replace e9 := g9.trans e9; replace e10 := g10.trans e10; replace e24 := g24.trans e24; replace e25 := g25.trans e25; replace e26 := g26.trans e26; replace e46 := g46.trans e46; replace e47 := g47.trans e47; replace e48 := g48.trans e48
    replace e213 := g213.trans e213; replace e214 := g214.trans e214; replace e215 := g215.trans e215; replace e29 := g29.trans e29; replace e30 := g30.trans e30; clear e27; clear e28; clear e221; clear g_s g_d g1 g2 g5 g6 g7 g9 g10 g24 g25 g26 g46 g47 g48 g213 g214 g215 g29 g30
    have e27 := f27
    clear f27
    have e28 := f28
    clear f28; clear a
    obtain ⟨a, rfl⟩ : ∃ a, a = a' := ⟨_, rfl⟩
    refine hKq6 _ _ ?_; clear hKq6 Kq6; refine wp_seq_k fun Kq8 hKq8 => ?_; clear z4
    obtain ⟨p, hp⟩ : ∃ p, p = f.start + lo1 - 2 * off := ⟨_, rfl⟩
    obtain ⟨r, hr⟩ : ∃ r, r = f.start + f.len + hi1 + 8 * f.size + 2 * off := ⟨_, rfl⟩
    have HPR := Lib.hid (And.intro hp hr)
    have HP5 := Lib.hid hP5
    clear hp hr hP5
    have B75 : Blk w5 g7 96 #[.int .i64 f.src, .int .i64 f.dst, .int .i64 f.start, .int .i64 f.len, .int .i64 f.size, .int .i64 f.late] := hfr5.blk B7 (by decide) (by omega)
    have y2 := B75.cellOf (v := .int .i64 f.start) 2 rfl
    have y3 := B75.cellOf (v := .int .i64 f.len) 3 rfl
    have y4 := B75.cellOf (v := .int .i64 f.size) 4 rfl
    have u0 := B30.cellOf (v := .int .i64 x) 0 rfl
    have u1 := B30.cellOf (v := .int .i64 y) 1 rfl
    have p0 := HP5.out.B.cellOf (v := .int .i64 off) 0 rfl
    suffices HK : ∀ (a' : Act) (w6 : World), a'.tmps.size = a.tmps.size → a'.defers = [] → a'.tmps[1]? = a.tmps[1]? → a'.tmps[2]? = a.tmps[2]? → a'.tmps[5]? = a.tmps[5]? → a'.tmps[6]? = a.tmps[6]? → a'.tmps[7]? = a.tmps[7]? → a'.tmps[9]? = a.tmps[9]? → a'.tmps[10]? = a.tmps[10]? → a'.tmps[24]? = a.tmps[24]? → a'.tmps[25]? = a.tmps[25]? → a'.tmps[26]? = a.tmps[26]? → a'.tmps[46]? = a.tmps[46]? → a'.tmps[47]? = a.tmps[47]? → a'.tmps[48]? = a.tmps[48]? → a'.tmps[213]? = a.tmps[213]? → a'.tmps[214]? = a.tmps[214]? → a'.tmps[215]? = a.tmps[215]? → a'.tmps[29]? = a.tmps[29]? → a'.tmps[30]? = a.tmps[30]? → a'.tmps[27]? = a.tmps[27]? → a'.tmps[28]? = a.tmps[28]? → a'.tmps[31]? = some (.pointer (some ⟨w5.heap.size, 0, none⟩)) → Blk w6 w5.heap.size 103 #[.int .i64 x, .int .i64 y, .int .i64 p, .int .i64 r] → Below w5.heap.size w5 w6 → Kq8 a' w6 by
      refine sm_list [5, 7, 27, 28, 30, 31] 232 28 hs hd (by kernel_rfl) (agC e5 (agC e7 (agC e27 (agC e28 (agC e30 (agU agN)))))) rfl ?_
      simp only [seval]
      go_wp2_with (first | (refine wpList_store_new rfl 103 (.tmp 5) (.tmp 33) rfl rfl rfl rfl rfl (by kernel_rfl) (by rw [← Array.all_toList]; rfl) ?_) | fail)
      all_goals
        intro a' H
        refine HK a' _ H.size H.defers (H.out 1 rfl) (H.out 2 rfl) ((H.got rfl rfl).trans e5.symm) (H.out 6 rfl) ((H.got rfl rfl).trans e7.symm) (H.out 9 rfl) (H.out 10 rfl) (H.out 24 rfl) (H.out 25 rfl) (H.out 26 rfl) (H.out 46 rfl) (H.out 47 rfl) (H.out 48 rfl) (H.out 213 rfl) (H.out 214 rfl) (H.out 215 rfl) (H.out 29 rfl) ((H.got rfl rfl).trans e30.symm) ((H.got rfl rfl).trans e27.symm) ((H.got rfl rfl).trans e28.symm) ?_ ?_ ?_
        · exact H.got rfl rfl
        · rw [HPR.out.1, HPR.out.2]; exact Blk.new w5 _ _
        · exact (Below.refl _ _).alloc (Nat.le_refl _) _
    intro a' w6 g_s g_d g1 g2 g5 g6 g7 g9 g10 g24 g25 g26 g46 g47 g48 g213 g214 g215 g29 g30 g27 g28 f31 B31 b6
    replace hs := g_s.trans hs; replace hd := g_d; replace e1 := g1.trans e1; replace e2 := g2.trans e2; replace e5 := g5.trans e5; replace e6 := g6.trans e6; replace e7 := g7.trans e7; replace e9 := g9.trans e9; replace e10 := g10.trans e10; replace e24 := g24.trans e24; replace e25 := g25.trans e25; replace e26 := g26.trans e26; replace e46 := g46.trans e46; replace e47 := g47.trans e47; replace e48 := g48.trans e48
    replace e213 := g213.trans e213; replace e214 := g214.trans e214; replace e215 := g215.trans e215; replace e29 := g29.trans e29; replace e30 := g30.trans e30; replace e27 := g27.trans e27; replace e28 := g28.trans e28; clear g_s g_d g1 g2 g5 g6 g7 g9 g10 g24 g25 g26 g46 g47 g48 g213 g214 g215 g29 g30 g27 g28
    have e31 := f31
    clear f31; clear a
    obtain ⟨a, rfl⟩ : ∃ a, a = a' := ⟨_, rfl⟩
    refine hKq8 _ _ ?_; clear hKq8 Kq8; refine wp_seq_k fun Kq9 hKq9 => ?_; refine wp_seq_k fun Kq10 hKq10 => ?_; have hP6 := HP5.out.keep b6
    have hg5z5 : g5 ≤ w5.heap.size := Nat.le_of_lt HP5.out.B.lt
    have hfr6 := hfr5.trans (FrT.be b6 hg5z5)
    obtain ⟨g31, hg31⟩ : ∃ g, g = w5.heap.size := ⟨_, rfl⟩
    rw [← hg31] at B31 e31 hg5z5
    clear hg31 hfr5 b6 HP5 B75 y2 y3 y4 u0 u1 p0 B30 z0; clear e30
    have BC6 : Blk w6 g1 42 (rfc C R) := hfr6.blk BC (by decide) (by omega)
    have z5 := BC6.cellOf (v := .int .i64 C.cycle) 5 rfl
    have x2 := B31.cellOf (v := .int .i64 p) 2 rfl
    have x3 := B31.cellOf (v := .int .i64 r) 3 rfl
    suffices HK : ∀ (a' : Act), a'.tmps.size = a.tmps.size → a'.defers = [] → a'.tmps[1]? = a.tmps[1]? → a'.tmps[2]? = a.tmps[2]? → a'.tmps[5]? = a.tmps[5]? → a'.tmps[6]? = a.tmps[6]? → a'.tmps[7]? = a.tmps[7]? → a'.tmps[9]? = a.tmps[9]? → a'.tmps[10]? = a.tmps[10]? → a'.tmps[24]? = a.tmps[24]? → a'.tmps[25]? = a.tmps[25]? → a'.tmps[26]? = a.tmps[26]? → a'.tmps[46]? = a.tmps[46]? → a'.tmps[47]? = a.tmps[47]? → a'.tmps[48]? = a.tmps[48]? → a'.tmps[213]? = a.tmps[213]? → a'.tmps[214]? = a.tmps[214]? → a'.tmps[215]? = a.tmps[215]? → a'.tmps[29]? = a.tmps[29]? → a'.tmps[27]? = a.tmps[27]? → a'.tmps[28]? = a.tmps[28]? → a'.tmps[31]? = a.tmps[31]? → a'.tmps[270]? = some (.bool (decide (p < 0 ∨ C.cycle < r))) → Kq10 a' w6 by
      refine sm_list [1, 31] 260 11 hs hd (by kernel_rfl) (agC e1 (agC e31 agN)) rfl ?_
      simp only [seval]
      go_wp2_with fail
      all_goals
        intro a' H
        refine HK a' H.size H.defers ((H.got rfl rfl).trans e1.symm) (H.out 2 rfl) (H.out 5 rfl) (H.out 6 rfl) (H.out 7 rfl) (H.out 9 rfl) (H.out 10 rfl) (H.out 24 rfl) (H.out 25 rfl) (H.out 26 rfl) (H.out 46 rfl) (H.out 47 rfl) (H.out 48 rfl) (H.out 213 rfl) (H.out 214 rfl) (H.out 215 rfl) (H.out 29 rfl) (H.out 27 rfl) (H.out 28 rfl) ((H.got rfl rfl).trans e31.symm) ?_
        · (refine (H.got (t := 270) rfl rfl).trans (congrArg some ?_); refine congrArg Value.bool ?_; first | exact (decide_eq_true (by omega)).symm | exact decide_eq_decide.2 (by omega) | (rw [Bool.eq_iff_iff]; simp only [Bool.or_eq_true, decide_eq_true_eq] <;> omega))
    intro a' g_s g_d g1 g2 g5 g6 g7 g9 g10 g24 g25 g26 g46 g47 g48 g213 g214 g215 g29 g27 g28 g31 f270
    replace hs := g_s.trans hs; replace hd := g_d; replace e1 := g1.trans e1; replace e2 := g2.trans e2; replace e5 := g5.trans e5; replace e6 := g6.trans e6; replace e7 := g7.trans e7; replace e9 := g9.trans e9; replace e10 := g10.trans e10; replace e24 := g24.trans e24; replace e25 := g25.trans e25; replace e26 := g26.trans e26; replace e46 := g46.trans e46; replace e47 := g47.trans e47; replace e48 := g48.trans e48
    replace e213 := g213.trans e213; replace e214 := g214.trans e214; replace e215 := g215.trans e215; replace e29 := g29.trans e29; replace e27 := g27.trans e27; replace e28 := g28.trans e28; replace e31 := g31.trans e31; clear g_s g_d g1 g2 g5 g6 g7 g9 g10 g24 g25 g26 g46 g47 g48 g213 g214 g215 g29 g27 g28 g31
    have e270 := f270
    clear f270; clear a
    obtain ⟨a, rfl⟩ : ∃ a, a = a' := ⟨_, rfl⟩
    refine hKq10 _ _ ?_; clear hKq10 Kq10; clear z5 x2 x3
    by_cases hbad : p < 0 ∨ C.cycle < r
    · rw [decide_eq_true hbad] at e270
      have HV := Lib.hid (HAT.out.bad HX.out.1 HX.out.2.1 (by rw [← HPR.out.1, ← HPR.out.2]; exact hbad))
      clear hbad
      have B2x : Blk w6 g2 47 #[.int .i64 0, .slice none 0 0, .slice none 0 0] := hfr6.blk2 B2 (by omega)
      have hlw := hfr6.low
      clear B2
      have B2 := B2x
      clear B2x BC6 hP6 B31 BC5
      refine wp_cond_true (slotE e270) ?_
      clear e270; refine wp_seq_k fun Kq11 hKq11 => ?_; clear e1; clear e5; clear e6; clear e7; clear e9; clear e10; clear e24; clear e25; clear e26; clear e46; clear e47; clear e48; clear e213; clear e214; clear e215; clear e29; clear e27; clear e28; clear e31
      have HB2 := Lib.hid B2
      refine sm_list [2, 3] 271 1 hs hd (by kernel_rfl) (agC e2 (agU agN)) rfl ?_
      simp only [seval]
      go_wp2_with (first | (refine wpList_store_part rfl 47 (.tmp 0) (.tmp 2) rfl (off := 0) rfl HB2.out rfl (by simp) (by kernel_rfl) (by rw [← Array.all_toList]; rfl) ?_; intro wq Bq zq grq) | fail)
      intro a H; replace hs := H.s hs; replace hd := H.d rfl; replace e2 := H.g 2 rfl rfl; have e3 := H.g 3 rfl rfl; clear H; refine hKq11 _ _ ?_; clear hKq11 Kq11; refine wp_ret ?_; refine exit_then rfl ?_; refine ret_block ?_; refine exit_then rfl ?_; refine exit_then rfl ?_; refine ret_block ?_
      have Bq' : Blk wq g2 47 #[.int .i64 0, .slice none 0 0, .slice none 0 0] := by simpa [putAll] using Bq
      have hmn : min g1 g2 ≤ w6.heap.size := Nat.le_trans (Nat.min_le_right _ _) (Nat.le_of_lt HB2.out.lt)
      exact HEND.out.2 a wq hs hd e2 e3 ((hlw.mono (by omega)).grown grq hmn (fun k hk => by cases hk; exact Nat.min_le_right _ _)) Bq' HV.out
    · rw [decide_eq_false hbad] at e270
      refine wp_cond_false (slotE e270) ?_
      clear e270; refine wp_skip ?_; refine hKq9 _ _ ?_; clear hKq9 Kq9; refine wp_seq_k fun Kq11 hKq11 => ?_
      have HBAD := Lib.hid hbad
      clear hbad
      have HP6 := Lib.hid hP6
      have HB31 := Lib.hid B31
      have hzz : g5 < w6.heap.size := hP6.B.lt
      have p2 := hP6.B.cellOf (v := vS') 2 rfl
      clear hP6 B31 BC6
      refine sm_list [5, 31] 272 6 hs hd (by kernel_rfl) (agC e5 (agC e31 agN)) rfl ?_
      simp only [seval]
      go_wp2_with (first | (refine wpList_load_any_d rfl 103 (.tmp 1) rfl ⟨g31, 0, none⟩ rfl (#[.int .i64 x, .int .i64 y, .int .i64 p, .int .i64 r]) _ (blk_cells HB31.out) Try.underlying103 rfl (by kernel_rfl) ?_) | (at_builtin; refine wpList_pushG 1 rfl (.tmp 3) (.tmp 5) 45 rfl rsS (wr := w6) (cs := #[.int .i64 x, .int .i64 y, .int .i64 p, .int .i64 r]) rfl (by intro u hu; simp at hu; rcases hu with rfl | rfl | rfl | rfl <;> rfl) (v := vS') rfl HP6.out.rS rfl rfl (by omega) HP6.out.B.lt ?_; intro v2 w7 own2 gr2 mv2; obtain ⟨Bx, PX, FX⟩ := HP6.out.pushS ((x, y), (p, r)) own2 gr2 mv2; obtain ⟨Av, cv, rfl, _, _⟩ := ownsRow_reads own2; have fz := Bx.frozen; have xl := Bx.lt; have xc := Bx.cellOf (v := vS') 2 rfl; have PX := Lib.hid PX; have FX := Lib.hid FX; clear own2 gr2 mv2 Bx) | fail)
      intro a H; replace hs := H.s hs; replace hd := H.d rfl; replace e5 := H.g 5 rfl rfl; replace e31 := H.g 31 rfl rfl; replace e1 := H.k e1 rfl; replace e2 := H.k e2 rfl; replace e6 := H.k e6 rfl; replace e7 := H.k e7 rfl; replace e9 := H.k e9 rfl; replace e10 := H.k e10 rfl; replace e24 := H.k e24 rfl; replace e25 := H.k e25 rfl; replace e26 := H.k e26 rfl; replace e46 := H.k e46 rfl; replace e47 := H.k e47 rfl; replace e48 := H.k e48 rfl; replace e213 := H.k e213 rfl; replace e214 := H.k e214 rfl; replace e215 := H.k e215 rfl; replace e29 := H.k e29 rfl; replace e27 := H.k e27 rfl; replace e28 := H.k e28 rfl
      clear H; refine hKq11 _ _ ?_; clear hKq11 Kq11; refine wp_seq_k fun Kq12 hKq12 => ?_
      have hP7 := PX.out
      have hfr7 := hfr6.trans FX.out
      generalize hsv : Value.slice Av (S'.length + 1) cv = vS7 at *
      clear fz xl xc p2 PX FX HP6 HB31 hsv hfr6
      generalize w7.setCell ⟨g5, 2, none⟩ vS7 = wd at *
      clear e31
      have hst := RHop2.step HAT.out HX.out.1 HX.out.2.1 (by rw [← HPR.out.1, ← HPR.out.2]; exact HBAD.out) (by rw [Int.toNat_natCast]; exact HX.out.2.2)
      rw [← HPR.out.1, ← HPR.out.2] at hst
      have HST := Lib.hid hst
      clear hst HAT HBAD HPR
      have hL7 : Below g1 w wd := hfr7.low.mono (Nat.le_of_lt ho1)
      obtain ⟨bd, hD, hbdb, hcd⟩ := reads_at lkc_len (hC.links.below hL7) HX.out.2.2 hiN
      obtain ⟨ad2, u, hA2, hadb2, hu, hc2⟩ := (hrq.below hL7).at_ (k := k) (by rw [HKN.out]; exact hlt)
      obtain ⟨kk, hkk, rfl⟩ := getElem?_map_some hu
      have hkk2 : kk = (ii : Int) := by have h1 := HX.out.2.1; rw [hkk] at h1; exact Option.some.inj h1
      subst hkk2
      clear hkk hu
      have hwq7 := (hL7.cell (p := (adW.add (i * 2)).add q) (by rw [add_blk, add_blk]; exact hWb)).trans hwq2
      rw [hA2, HKN.out] at hwq7
      have hHD := Lib.hid hD
      have hHA := Lib.hid hA2
      clear hA2
      have hkI : (k : Int) < (n : Int) := by omega
      have hkI0 : (0 : Int) ≤ (k : Int) := by omega
      have hii : (ii : Int) < (C.links.length : Int) := by omega
      have hii0 : (0 : Int) ≤ (ii : Int) := by omega
      have hr1 : IntKind.i64.wrap (8 * f.size) = 8 * f.size := wrap64 (by omega) (by omega)
      have hr2 : IntKind.i64.wrap (8 * f.size + l.lo) = 8 * f.size + l.lo := wrap64 (by omega) (by omega)
      have hr3 : IntKind.i64.wrap (lo1 + (8 * f.size + l.lo)) = lo1 + (8 * f.size + l.lo) := wrap64 (by omega) (by omega)
      have BC8 : Blk wd g1 42 (rfc C R) := hfr7.blk BC (by decide) (by omega)
      have B78 : Blk wd g7 96 #[.int .i64 f.src, .int .i64 f.dst, .int .i64 f.start, .int .i64 f.len, .int .i64 f.size, .int .i64 f.late] := hfr7.blk B7 (by decide) (by omega)
      have k4 := BC8.cellOf (v := .slice R.W.A C.flows.length R.W.c) 4 rfl
      have k2 := BC8.cellOf (v := .slice R.L.A C.links.length R.L.c) 2 rfl
      rw [HWA.out] at k4
      rw [hHD.out] at k2
      have y4 := B78.cellOf (v := .int .i64 f.size) 4 rfl
      have lk : wd.cell? ⟨(bd.add (ii * 6)).block, (bd.add (ii * 6)).off + 4, none⟩ = some (.int .i64 l.lo) := hcd 4 _ rfl
      have fd : FrT g5 103 wd wd.drew := FrT.be ((Below.refl _ _).drew) (Nat.le_of_lt hP7.B.lt)
      have fr8 := hfr7.trans fd
      have hP8 := hP7.keep (Below.refl wd.heap.size wd).drew
      have m4 : wd.drew.cell? _ = _ := k4
      have m2 : wd.drew.cell? _ = _ := k2
      have my : wd.drew.cell? _ = _ := y4
      have ml : wd.drew.cell? _ = _ := lk
      have mq : wd.drew.cell? _ = _ := hwq7
      have mk : wd.drew.cell? _ = _ := hc2
      have hcd8 : ∀ j u, (lkc l)[j]? = some u → wd.drew.cell? ((bd.add (ii * 6)).add j) = some u := hcd
      clear BC8 B78 k4 k2 y4 lk hfr7 hP7 fd hcd hwq7 hc2
      obtain ⟨we, hwm⟩ : ∃ z, z = wd.drew := ⟨_, rfl⟩
      rw [← hwm] at m4 m2 my ml mq mk fr8 hP8 hcd8
      have HWM := Lib.hid hwm
      clear hwm
      refine sm_any [1, 6, 7, 26, 27, 29] 278 21 (by kernel_rfl) hs hd (by kernel_rfl) (agC e1 (agC e6 (agC e7 (agC e26 (agC e27 (agC e29 agN)))))) rfl (any_script [(0, true), (1, true), (2, true), (3, true), (4, true), (5, true), (6, true), (7, true), (8, true), (9, true), (10, true), (11, true), (12, true), (13, true), (14, true), (15, true), (16, true), (17, true), (18, true), (19, true), (20, true), (21, true)] (fun w' => w' = wd.drew) (by kernel_rfl) (fun _ _ _ _ _ h => h) rfl ?_)
      simp only [seval]
      rw [← HWM.out]
      repeat (first | (refine script_take (v := ?_) rfl ?_ ?_ ?_; rotate_left; (first | rfl | (go_simp; done)); (rintro w' rfl;  go_simp; with_reducible rfl); simp only [Act.put, List.setIfInBounds_toArray, List.set_cons_zero, List.set_cons_succ]))
      refine script_nil ?_
      intro a H; replace hs := H.s hs; replace hd := H.d rfl; replace e1 := H.g 1 rfl rfl; replace e6 := H.g 6 rfl rfl; replace e7 := H.g 7 rfl rfl; replace e26 := H.g 26 rfl rfl; replace e29 := H.g 29 rfl rfl; replace e2 := H.k e2 rfl; replace e5 := H.k e5 rfl; replace e9 := H.k e9 rfl; replace e10 := H.k e10 rfl; replace e24 := H.k e24 rfl; replace e25 := H.k e25 rfl; replace e46 := H.k e46 rfl; replace e47 := H.k e47 rfl; replace e48 := H.k e48 rfl; replace e213 := H.k e213 rfl; replace e214 := H.k e214 rfl; replace e215 := H.k e215 rfl; replace e28 := H.k e28 rfl
      replace e27 := H.g 27 rfl rfl; clear H; refine hKq12 _ _ ?_; clear hKq12 Kq12; clear m4 m2 my ml HWM hr1 hr2 hr3
      have hP7 := hP8
      have hfr7 := fr8
      have hcd := hcd8
      have hwq7 := mq
      have hc2 := mk
      clear hP8 fr8 hcd8 mq mk
      have hr1 : IntKind.i64.wrap (8 * f.size) = 8 * f.size := wrap64 (by omega) (by omega)
      have hr2 : IntKind.i64.wrap (8 * f.size + l.hi) = 8 * f.size + l.hi := wrap64 (by omega) (by omega)
      have hr3 : IntKind.i64.wrap (hi1 + (8 * f.size + l.hi)) = hi1 + (8 * f.size + l.hi) := wrap64 (by omega) (by omega)
      have BC8 : Blk we g1 42 (rfc C R) := hfr7.blk BC (by decide) (by omega)
      have B78 : Blk we g7 96 #[.int .i64 f.src, .int .i64 f.dst, .int .i64 f.start, .int .i64 f.len, .int .i64 f.size, .int .i64 f.late] := hfr7.blk B7 (by decide) (by omega)
      have k4 := BC8.cellOf (v := .slice R.W.A C.flows.length R.W.c) 4 rfl
      have k2 := BC8.cellOf (v := .slice R.L.A C.links.length R.L.c) 2 rfl
      rw [HWA.out] at k4
      rw [hHD.out] at k2
      have y4 := B78.cellOf (v := .int .i64 f.size) 4 rfl
      have lk : we.cell? ⟨(bd.add (ii * 6)).block, (bd.add (ii * 6)).off + 5, none⟩ = some (.int .i64 l.hi) := hcd 5 _ rfl
      have fd : FrT g5 103 we we.drew := FrT.be ((Below.refl _ _).drew) (Nat.le_of_lt hP7.B.lt)
      have fr8 := hfr7.trans fd
      have hP8 := hP7.keep (Below.refl we.heap.size we).drew
      have m4 : we.drew.cell? _ = _ := k4
      have m2 : we.drew.cell? _ = _ := k2
      have my : we.drew.cell? _ = _ := y4
      have ml : we.drew.cell? _ = _ := lk
      have mq : we.drew.cell? _ = _ := hwq7
      have mk : we.drew.cell? _ = _ := hc2
      have hcd8 : ∀ j u, (lkc l)[j]? = some u → we.drew.cell? ((bd.add (ii * 6)).add j) = some u := hcd
      clear BC8 B78 k4 k2 y4 lk hfr7 hP7 fd hcd hwq7 hc2
      obtain ⟨wf, hwm⟩ : ∃ z, z = we.drew := ⟨_, rfl⟩
      rw [← hwm] at m4 m2 my ml mq mk fr8 hP8 hcd8
      have HWM := Lib.hid hwm
      clear hwm
      refine sm_any [1, 6, 7, 26, 28, 29] 299 21 (by kernel_rfl) hs hd (by kernel_rfl) (agC e1 (agC e6 (agC e7 (agC e26 (agC e28 (agC e29 agN)))))) rfl (any_script [(0, true), (1, true), (2, true), (3, true), (4, true), (5, true), (6, true), (7, true), (8, true), (9, true), (10, true), (11, true), (12, true), (13, true), (14, true), (15, true), (16, true), (17, true), (18, true), (19, true), (20, true), (21, true)] (fun w' => w' = we.drew) (by kernel_rfl) (fun _ _ _ _ _ h => h) rfl ?_)
      simp only [seval]
      rw [← HWM.out]
      repeat (first | (refine script_take (v := ?_) rfl ?_ ?_ ?_; rotate_left; (first | rfl | (go_simp; done)); (rintro w' rfl;  go_simp; with_reducible rfl); simp only [Act.put, List.setIfInBounds_toArray, List.set_cons_zero, List.set_cons_succ]))
      refine script_nil ?_
      intro a H; replace hs := H.s hs; replace hd := H.d rfl; replace e1 := H.g 1 rfl rfl; replace e6 := H.g 6 rfl rfl; replace e7 := H.g 7 rfl rfl; replace e26 := H.g 26 rfl rfl; replace e29 := H.g 29 rfl rfl; replace e2 := H.k e2 rfl; replace e5 := H.k e5 rfl; replace e9 := H.k e9 rfl; replace e10 := H.k e10 rfl; replace e24 := H.k e24 rfl; replace e25 := H.k e25 rfl; replace e46 := H.k e46 rfl; replace e47 := H.k e47 rfl; replace e48 := H.k e48 rfl; replace e213 := H.k e213 rfl; replace e214 := H.k e214 rfl; replace e215 := H.k e215 rfl; replace e27 := H.k e27 rfl
      replace e28 := H.g 28 rfl rfl; clear H; refine hKq4 _ _ ?_; clear hKq4 Kq4; clear m4 m2 my ml HWM hr1 hr2 hr3
      have hP7 := hP8
      have hfr7 := fr8
      have hcd := hcd8
      have hwq7 := mq
      have hc2 := mk
      clear hP8 fr8 hcd8 mq mk; clear e29
      refine sm_list [215] 320 1 hs hd (by kernel_rfl) (agC e215 agN) rfl ?_
      simp only [seval]
      go_wp2_with fail
      intro a H; replace hs := H.s hs; replace hd := H.d rfl; replace e1 := H.k e1 rfl; replace e2 := H.k e2 rfl; replace e5 := H.k e5 rfl; replace e6 := H.k e6 rfl; replace e7 := H.k e7 rfl; replace e9 := H.k e9 rfl; replace e10 := H.k e10 rfl; replace e24 := H.k e24 rfl; replace e25 := H.k e25 rfl; replace e26 := H.k e26 rfl; replace e46 := H.k e46 rfl; replace e47 := H.k e47 rfl; replace e48 := H.k e48 rfl; replace e213 := H.k e213 rfl; replace e214 := H.k e214 rfl; replace e27 := H.k e27 rfl; replace e28 := H.k e28 rfl
      replace e215 := H.g 215 rfl rfl; clear H
      exact ⟨⟨k + 1, _, _, _, vS7, by omega, by have := HSL2.out; simp; omega, by omega, by omega, hs, hd, e1, e2, e5, e6, e7, e9, e10, e24, e25, e26, e46, e47, e48, e213, e214, e215, e27, e28, hfr7, hP7, HST.out⟩, by first | (simp only [hm, slot e215, intOf]; omega) | (simp [e215, intOf]; omega)⟩
  · have hkn : k = n := by omega
    have dj : decide ((k : Int) < (n : Int)) = false := decide_eq_false (by omega)
    have dj2 : decide (k < n) = false := decide_eq_false hlt
    clear hlt hm
    have HV := Lib.hid (HG.out.done (by rw [HEN.out]; omega) (by omega))
    refine sm_list [214, 215] 216 1 hs hd (by kernel_rfl) (agC e214 (agC e215 agN)) rfl ?_
    simp only [seval]
    go_wp2_with fail
    intro a H; replace hs := H.s hs; replace hd := H.d rfl; replace e214 := H.g 214 rfl rfl; replace e215 := H.g 215 rfl rfl; replace e1 := H.k e1 rfl; replace e2 := H.k e2 rfl; replace e5 := H.k e5 rfl; replace e6 := H.k e6 rfl; replace e7 := H.k e7 rfl; replace e9 := H.k e9 rfl; replace e10 := H.k e10 rfl; replace e24 := H.k e24 rfl; replace e25 := H.k e25 rfl; replace e26 := H.k e26 rfl; replace e46 := H.k e46 rfl; replace e47 := H.k e47 rfl; replace e48 := H.k e48 rfl; replace e213 := H.k e213 rfl; replace e27 := H.k e27 rfl; replace e28 := H.k e28 rfl
    have e216 := H.g 216 rfl rfl; clear H; refine hKq2 _ _ ?_; clear hKq2 Kq2; refine wp_seq_k fun Kq3 hKq3 => ?_
    refine wp_cond_false (slotE e216) ?_
    clear e216; refine wp_exit ?_; refine exit_then rfl ?_; clear hKq3 Kq3; refine exit_then rfl ?_; refine exit_hit ?_
    exact HEND.out.1 a w3 S' vS' low high hs hd e1 e2 e5 e6 e7 e9 e10 e24 e25 e26 e46 e47 e48 e27 e28 hfr hP (by have := HSL2.out; omega) (by omega) (by omega) HV.out
end Go.Proofs.Ytaegngcbiefckaa
