/-
  ether: the rows a frame begins with.
-/
import Derived.Test.YthhlfojaloaooaaGreatRows
import Derived.Test.YthhlfojaloaooaaGreatEtMZ
import Derived.WalkKit
import Derived.ProofKit
import Derived.OpenShut
import Derived.LoopTactic
import Derived.WalkLawsBesides
import Derived.WalkSpells
import Derived.Outline
import Derived.Lib.Hide
import Derived.Deep.DrawnRows
import Derived.Laws.CopyOwn
import Derived.MapKept
namespace Go.Proofs.YthhlfojaloaooaaGreat
set_option linter.unusedSimpArgs false
set_option linter.unusedVariables false
open Go.RowKit Go.WideShapes Go.ChangeShapes
attribute [local go_sem ↓] Go.wp_at_zero Go.wp_at_succ

section
variable {P : Program} {lo : List Oper} {S : World → Prop} {Q : Exit → Act → World → Prop} {E : Act → World → Prop}
theorem script_copy {i : Nat} {l : List (Nat × Bool)} {a : Act} {o : Oper} {w : World} (ho0 : lo[i]? = some o) (hgd : o.guard = none) (d s : Operand) (dT sT : TypeId)
    (ho : o.op = .call { callee := .builtin .copy, args := #[d, s], argTypes := #[dT, sT] }) (elem : TypeId) (hu : P.underlying dT = some (.slice elem)) (hsz : (P.info? elem).map (·.size) = some 1)
    (g off dLen dCap : Nat) (ad : Addr) (sLen sCap : Nat) (hd : a.eval d = .slice (some ⟨g, off, none⟩) dLen dCap) (hs : a.eval s = .slice (some ad) sLen sCap)
    (cur : Array Value) (t : TypeId) (hg : w.heap[g]? = some (.cells cur t (0, 0))) (cs : List Value) (hn : cs.length = Nat.min sLen dLen)
    (hsrc : ∀ j v, cs[j]? = some v → w.cell? (ad.add j) = some v) (hfit : off + cs.length ≤ cur.size) (h1 : ∀ v ∈ cs, v.oneCell' = true)
    (h : S (w.setRow g (cur.toList.take off ++ (cs ++ cur.toList.drop (off + cs.length))).toArray) ∧ wpScript P lo.toArray S Q E l (a.put o.dst (goInt cs.length)) (w.setRow g (cur.toList.take off ++ (cs ++ cur.toList.drop (off + cs.length))).toArray)) : wpScript P lo.toArray S Q E ((i, false) :: l) a w := by
  refine script_wp ho0 (by simp [Region.wanted, hgd]) ?_
  have hrun := run_copy_row (P := P) w dT sT o.type elem g off dLen dCap ad sLen sCap cur t cs hu hsz hg hn hsrc hfit h1
  unfold Oper.wp
  simp [execOp, ho, resolve, invoke, builtin, hd, hs, hrun, Result.andThen]
  exact h
end
theorem blk_setRow {w : World} {g : Nat} {t : TypeId} {cs cs' : Array Value} (h : Blk w g t cs) : Blk (w.setRow g cs') g t cs' := setRow_heap w g cs cs' t (0, 0) h
theorem gr_setRow (w : World) (g : Nat) (cs : Array Value) : w.grownBy (w.setRow g cs) (some g) :=
  ⟨rfl, rfl, rfl, by rw [size_setRow]; exact Nat.le_refl _, fun k _ hne => setRow_other w g k cs (by intro e; exact hne (by rw [e]))⟩
theorem us_mid (ys : List Int) (h : 12 ≤ ys.length) : (us ((ys.drop 6).take 6)).length = 6 ∧ (us (ys.take 6)).length = 6 := by
  rw [us_length, us_length, List.length_take, List.length_take, List.length_drop]; omega
/-- What is under way when the first bytes are copied. -/
structure DeA (w wk : World) (g2 q n cap : Nat) (ys : List Int) : Prop where
  low : Below w.heap.size w wk
  b2 : Blk wk g2 52 zeroFm
  hg : w.heap.size ≤ g2
  hq : w.heap.size ≤ q
  rd : Reads wk wk.heap.size 1 (some ⟨q, 0, none⟩) n (us ys)
  bq : ∃ cur : Array Value, Blk wk q 5 cur
  hcap : n ≤ cap
  hcm : cap ≤ maxLen
  bB : ∀ b ∈ ys, 0 ≤ b ∧ b ≤ 255
  len : ys.length = n
theorem reads_at {w : World} {B n : Nat} {A : Addr} {xs : List Value} (h : Reads w B 1 (some A) n xs) {j : Nat} {v : Value} (hv : xs[j]? = some v) : w.cell? (A.add j) = some v := by
  have hl := h.1
  have hj := (List.getElem?_eq_some_iff.1 hv).1
  obtain ⟨ad, e, _, hc⟩ := h.2 (by omega)
  injection e with e
  subst e
  exact hc j v hv
theorem us_take {ys : List Int} {k j : Nat} {v : Value} (hv : (us (ys.take k))[j]? = some v) : (us ys)[j]? = some v := by
  unfold us at hv ⊢
  rw [List.map_take, List.getElem?_take] at hv
  split at hv
  · exact hv
  · cases hv
theorem reads_at6 {w : World} {B n q : Nat} {ys : List Int} (h : Reads w B 1 (some ⟨q, 0, none⟩) n (us ys)) {j : Nat} {v : Value} (hv : (us ((ys.drop 6).take 6))[j]? = some v) : w.cell? ((⟨q, 6, none⟩ : Addr).add j) = some v := by
  have h1 := us_take hv
  unfold us at h1
  rw [List.map_drop, List.getElem?_drop] at h1
  have h2 := reads_at h h1
  have e : (⟨q, 0, none⟩ : Addr).add (6 + j) = (⟨q, 6, none⟩ : Addr).add j := by unfold Addr.add; by_cases hj : j = 0 <;> simp [hj] <;> omega
  rwa [e] at h2
def fm00 (ys : List Int) : Fm := ⟨ys.take 6, (ys.drop 6).take 6, false, 0, 0, false, false, 0, 0, []⟩
theorem fm00_ (ys : List Int) (h : 12 ≤ ys.length) : (List.take 6 (us (ys.take 6) ++ zeroFm.toList.drop 6).toArray.toList ++ (us ((ys.drop 6).take 6) ++ List.drop (6 + (us ((ys.drop 6).take 6)).length) (us (ys.take 6) ++ zeroFm.toList.drop 6).toArray.toList)).toArray = (fm00 ys).cells none 0 0 := by
  obtain ⟨h1, h2⟩ := us_mid ys h
  rw [h1, List.take_left' h2, List.drop_append, List.drop_of_length_le (show (us (ys.take 6)).length ≤ 6 + 6 by omega), h2, ← List.append_assoc]
  rfl
theorem fm00_wf {ys : List Int} (h : 12 ≤ ys.length) (hb : ∀ b ∈ ys, 0 ≤ b ∧ b ≤ 255) : (fm00 ys).Wf :=
  ⟨by show (ys.take 6).length = 6; rw [List.length_take]; omega, by show ((ys.drop 6).take 6).length = 6; rw [List.length_take, List.length_drop]; omega, fun b hm => hb b (List.mem_of_mem_take hm), fun b hm => hb b (List.mem_of_mem_drop (List.mem_of_mem_take hm)), fun b hm => absurd hm (List.not_mem_nil)⟩
set_option maxRecDepth 100000 in
set_option maxHeartbeats 4000000 in
theorem dec_a (ys : List Int) (n cap g2 q : Nat) (w wk : World) (hE : DeA w wk g2 q n cap ys) (hL : 60 ≤ n) (hLT : n ≤ 1600) (R : Ending → World → Prop) (hRR : ∀ e w', DecR w (decB (fm0 ys) (ys.drop 14) ((n : Int) + 4)) e w' → R e w') (a : Act)
    (hs : a.tmps.size = 118) (hd : a.defers = []) (e0 : a.tmps[0]? = some (.slice (some ⟨q, 0, none⟩) n cap)) (e2 : a.tmps[2]? = some (.pointer (some ⟨g2, 0, none⟩))) (e3 : a.tmps[3]? = some (.int .i64 0)) :
    Code.wp Tryz.prog (sub [true, true, true, true] (bodyOf Tryz.f11)) (bodyPost Tryz.prog Tryz.f11 R) a wk := by
  have HE := Lib.hid hE
  have HRR := Lib.hid hRR
  clear hE hRR
  conv => arg 2; whnf
  refine wp_seq_k fun Kq1 hKq1 => ?_
  refine sm_list [] 5 1 hs hd (by kernel_rfl) agN rfl ?_
  simp only [seval]
  go_wp2_with fail
  intro a H; replace hs := H.s hs; replace hd := H.d rfl; replace e0 := H.k e0 rfl; replace e2 := H.k e2 rfl; replace e3 := H.k e3 rfl; have e5 := H.g 5 rfl rfl; clear H; refine hKq1 _ _ ?_; clear hKq1 Kq1; refine wp_seq_k fun Kq2 hKq2 => ?_
  skip
  generalize hw5 : wk.alloc (.cells #[.int .u8 0, .int .u8 0, .int .u8 0, .int .u8 0, .int .u8 0, .int .u8 0, .int .u8 0, .int .u8 0, .int .u8 0, .int .u8 0, .int .u8 0, .int .u8 0, .bool false, .int .i64 0, .int .i64 0, .bool false, .bool false, .int .i64 0, .int .i64 0, .slice none 0 0] 52) = w5
  have B5 : Blk w5 wk.heap.size 52 zeroFm := by rw [← hw5]; exact Blk.new wk 52 _
  have F5 : Fr [] wk w5 := by rw [← hw5]; exact Fr.be ((Below.refl wk.heap.size wk).alloc (Nat.le_refl _) _)
  have L5 : Below w.heap.size w w5 := by rw [← hw5]; exact HE.out.low.alloc HE.out.low.size _
  obtain ⟨g5, hg5⟩ : ∃ g, g = wk.heap.size := ⟨_, rfl⟩
  rw [← hg5] at e5 B5
  have hne : g2 ≠ g5 := by have := HE.out.b2.lt; omega
  have hg5w : w.heap.size ≤ g5 := by rw [hg5]; exact HE.out.low.size
  obtain ⟨cq, hcq⟩ := HE.out.bq
  have hq5 : q ≠ g5 := by have := hcq.lt; omega
  have b25 := F5.blk HE.out.b2 (by simp)
  have rd5 := reads_fr HE.out.rd F5 (by simp)
  have bq5 := F5.blk hcq (by simp)
  have HG := Lib.hid (And.intro b25 (And.intro rd5 (And.intro bq5 (And.intro B5 L5))))
  clear hw5 hg5 F5 hcq b25 rd5 bq5 B5 L5
  have hlen := us_mid ys (by have := HE.out.len; omega)
  have one1 := us_one (ys.take 6)
  have one2 := us_one ((ys.drop 6).take 6)
  have s1 : (6 : Int) ≤ (n : Int) := by omega
  have s2 : (n : Int) ≤ (cap : Int) := by have := HE.out.hcap; omega
  have s3 : 6 ≤ n := by omega
  have s4 : n ≤ cap := HE.out.hcap
  have s5 : ¬ (cap = 6) := by omega
  have s6 : 6 < cap := by omega
  have s7 : (12 : Int) ≤ (n : Int) := by omega
  have s8 : 12 ≤ n := by omega
  have s9 : ¬ (cap = 12) := by omega
  have s10 : 12 < cap := by omega
  have hcmI : (cap : Int) ≤ 9223372036854775807 := by have := HE.out.hcm; unfold maxLen at this; omega
  have HL6 := Lib.hid hlen
  clear hlen
  refine sm_list [0, 5] 31 4 hs hd (by kernel_rfl) (agC e0 (agC e5 agN)) rfl ?_
  simp only [seval]
  go_wp2_with (first | (refine Go.wpList_copy_own rfl (.tmp 3) (.tmp 4) 23 23 rfl 5 Tryz.underlying23 (by kernel_rfl) g5 0 6 6 ⟨q, 0, none⟩ n cap rfl rfl zeroFm 52 HG.out.2.2.2.1 (us (ys.take 6)) (HL6.out.2.trans (Nat.min_eq_right s3).symm) (fun j v hv => (reads_at HG.out.2.1 (us_take hv))) (by rw [HL6.out.2]; decide) one1 ?_) | fail)
  intro a H; replace hs := H.s hs; replace hd := H.d rfl; replace e0 := H.g 0 rfl rfl; replace e5 := H.g 5 rfl rfl; replace e2 := H.k e2 rfl; replace e3 := H.k e3 rfl; clear H; refine hKq2 _ _ ?_; clear hKq2 Kq2; refine wp_seq_k fun Kq3 hKq3 => ?_
  rw [HL6.out.2]
  have B6 := blk_setRow (cs' := (us (ys.take 6) ++ zeroFm.toList.drop 6).toArray) HG.out.2.2.2.1
  have G6 := gr_setRow w5 g5 (us (ys.take 6) ++ zeroFm.toList.drop 6).toArray
  generalize w5.setRow g5 (us (ys.take 6) ++ zeroFm.toList.drop 6).toArray = w6 at *
  have F6 : Fr [g5] w5 w6 := Fr.gr G6 (by simp)
  have b26 := F6.blk HG.out.1 (by simp; exact hne)
  have rd6 := reads_fr HG.out.2.1 F6 (by simp; exact hq5)
  have bq6 := F6.blk HG.out.2.2.1 (by simp; exact hq5)
  have L6 := HG.out.2.2.2.2.grown G6 HG.out.2.2.2.2.size (fun k hk => by cases hk; exact hg5w)
  have HG6 := Lib.hid (And.intro b26 (And.intro rd6 (And.intro bq6 (And.intro B6 L6))))
  clear F6 b26 rd6 bq6 B6 L6 G6 HG
  refine sm_any [0, 5] 35 5 (by kernel_rfl) hs hd (by kernel_rfl) (agC e0 (agC e5 agN)) rfl (any_script [(0, true), (1, true), (2, true), (3, true), (4, false)] (fun w' => Below w.heap.size w w') (by kernel_rfl) (fun _ _ _ _ _ h => h) (HG6.out.2.2.2.2.drew) ?_)
  simp only [seval]
  have hwd : Below w6.heap.size w6 w6.drew := (Below.refl _ _).drew
  obtain ⟨wd, hwde⟩ : ∃ wd, wd = w6.drew := ⟨_, rfl⟩
  rw [← hwde] at hwd ⊢
  clear hwde
  have Fd : Fr [] w6 wd := ⟨hwd.os, hwd.tape, hwd.output, hwd.size, fun k hk _ => hwd.block k hk⟩
  have B6 := Fd.blk HG6.out.2.2.2.1 (by simp)
  iterate 4 (refine script_take (v := ?_) rfl ?_ ?_ ?_; rotate_left; (first | rfl | (go_simp; done)); (intro w' _; go_simp; with_reducible rfl); simp only [Act.put, List.setIfInBounds_toArray, List.set_cons_zero, List.set_cons_succ])
  refine script_copy rfl rfl (.tmp 3) (.tmp 5) 23 23 rfl 5 Tryz.underlying23 (by kernel_rfl) g5 6 6 6 ⟨q, 6, none⟩ (n - 6) (cap - 6) rfl rfl _ 52 B6 (us ((ys.drop 6).take 6)) (HL6.out.1.trans (Nat.min_eq_right (show 6 ≤ n - 6 by omega)).symm) (fun j v hv => (reads_at6 (reads_fr HG6.out.2.1 Fd (by simp)) hv)) (by rw [HL6.out.1]; simp [zeroFm, HL6.out.2]) one2 ?_
  rw [fm00_ ys (by have := HE.out.len; omega)]
  have Ld := HG6.out.2.2.2.2.trans (hwd.mono HG6.out.2.2.2.2.size); have G7 := gr_setRow wd g5 ((fm00 ys).cells none 0 0)
  have B7 : Blk (wd.setRow g5 ((fm00 ys).cells none 0 0)) g5 52 ((fm00 ys).cells none 0 0) := blk_setRow B6
  generalize wd.setRow g5 ((fm00 ys).cells none 0 0) = w7 at *
  have L7 := Ld.grown G7 Ld.size (fun k hk => by cases hk; exact hg5w)
  have F7 : Fr [g5] wd w7 := Fr.gr G7 (by simp)
  have b27 := F7.blk (Fd.blk HG6.out.1 (by simp)) (by simp; exact hne)
  have rd7 := reads_fr (reads_fr HG6.out.2.1 Fd (by simp)) F7 (by simp; exact hq5)
  have bq7 := F7.blk (Fd.blk HG6.out.2.2.1 (by simp)) (by simp; exact hq5)
  refine ⟨L7, ?_⟩
  simp only [Act.put, List.setIfInBounds_toArray, List.set_cons_zero, List.set_cons_succ]
  have HG7 := Lib.hid (And.intro b27 (And.intro rd7 (And.intro bq7 (And.intro B7 L7))))
  clear b27 rd7 bq7 B7 L7 F7 G7 Ld B6 Fd hwd HG6
  refine script_nil ?_
  intro a H; replace hs := H.s hs; replace hd := H.d rfl; replace e0 := H.g 0 rfl rfl; replace e5 := H.g 5 rfl rfl; replace e2 := H.k e2 rfl; replace e3 := H.k e3 rfl; clear H; refine hKq3 _ _ ?_; clear hKq3 Kq3; refine wp_seq_k fun Kq4 hKq4 => ?_
  refine sm_list [0, 6] 40 2 hs hd (by kernel_rfl) (agC e0 (agU agN)) rfl ?_
  simp only [seval]
  go_wp2_with fail
  intro a H; replace hs := H.s hs; replace hd := H.d rfl; replace e0 := H.g 0 rfl rfl; replace e2 := H.k e2 rfl; replace e3 := H.k e3 rfl; replace e5 := H.k e5 rfl; have e6 := H.g 6 rfl rfl; clear H; refine hKq4 _ _ ?_; clear hKq4 Kq4; refine wp_seq_k fun Kq5 hKq5 => ?_
  obtain ⟨w8, hw8⟩ : ∃ z, z = w7.alloc (Obj.cells #[.slice (some ⟨q, 12, none⟩) (n - 12) (cap - 12)] 23) := ⟨_, rfl⟩
  have B8 : Blk w8 w7.heap.size 23 #[.slice (some ⟨q, 12, none⟩) (n - 12) (cap - 12)] := by rw [hw8]; exact Blk.new w7 _ _
  have F8 : Fr [] w7 w8 := by rw [hw8]; exact Fr.be ((Below.refl w7.heap.size w7).alloc (Nat.le_refl _) _)
  have L8 : Below w.heap.size w w8 := by rw [hw8]; exact HG7.out.2.2.2.2.alloc HG7.out.2.2.2.2.size _
  rw [← hw8]
  obtain ⟨g6, hg6⟩ : ∃ g, g = w7.heap.size := ⟨_, rfl⟩
  rw [← hg6] at e6 B8
  have hq6 : q < g6 := by rw [hg6]; exact HG7.out.2.2.1.lt
  have h6w : w.heap.size ≤ g6 := by rw [hg6]; exact HG7.out.2.2.2.2.size
  have hdl : (ys.drop 12).length = n - 12 := by rw [List.length_drop, HE.out.len]
  have rd8 := reads_drop (reads_fr HG7.out.2.1 F8 (by simp)) (show 12 ≤ n by omega)
  rw [add_lit _ 12 (by decide)] at rd8
  have hE8 : DeS w w8 g2 g5 g6 (fm00 ys) (ys.drop 12) ⟨q, 12, none⟩ (cap - 12) := ⟨L8, F8.blk HG7.out.1 (by simp), ⟨F8.blk HG7.out.2.2.2.1 (by simp), fm00_wf (by have := HE.out.len; omega) HE.out.bB⟩, by rw [hdl]; exact B8, by rw [hdl]; simpa using rd8, by rw [hdl]; omega, by have := HE.out.hcm; omega, fun b hb => HE.out.bB b (List.mem_of_mem_drop hb), ⟨hne, HE.out.hg, hg5w, h6w⟩, ⟨by show q ≠ g6; omega, _, F8.blk HG7.out.2.2.1 (by simp)⟩, rfl⟩
  have HC := hE8.call (by rw [hdl]; omega)
  have HE8 := Lib.hid hE8
  obtain ⟨x, hx⟩ : ∃ x, x = num2 (ys.drop 12) := ⟨_, rfl⟩
  rw [← hx] at HC
  have HX := Lib.hid hx
  have HDL := Lib.hid hdl
  clear hE8 hw8 hg6 B8 F8 L8 rd8 HG7 hx hdl s1 s2 s3 s4 s5 s6 s7 s8 s9 s10 one1 one2
  refine sm_list [6, 7] 42 1 hs hd (by kernel_rfl) (agC e6 (agU agN)) rfl ?_
  simp only [seval]
  go_wp2_with fail
  intro a H; replace hs := H.s hs; replace hd := H.d rfl; replace e6 := H.g 6 rfl rfl; replace e0 := H.k e0 rfl; replace e2 := H.k e2 rfl; replace e3 := H.k e3 rfl; replace e5 := H.k e5 rfl; have e7 := H.g 7 rfl rfl; clear H; refine hKq5 _ _ ?_; clear hKq5 Kq5; refine wp_seq_k fun Kq6 hKq6 => ?_
  refine sm_list [5, 7] 43 3 hs hd (by kernel_rfl) (agC e5 (agC e7 agN)) rfl ?_
  simp only [seval]
  go_wp2_with fail
  refine HC.mono ?_
  rintro e w9 ⟨rfl, hE9⟩
  have q18 := hE9.fb.c18
  have fz := hE9.fb.blk.frozen
  have HhE9 := Lib.hid hE9
  clear hE9
  go_wp2_with fail
  intro a H; replace hs := H.s hs; replace hd := H.d rfl; replace e5 := H.g 5 rfl rfl; replace e7 := H.g 7 rfl rfl; replace e0 := H.k e0 rfl; replace e2 := H.k e2 rfl; replace e3 := H.k e3 rfl; replace e6 := H.k e6 rfl; clear H; refine hKq6 _ _ ?_; clear hKq6 Kq6; have hEA := HhE9.out.s6 x
  generalize w9.setCell ⟨g5, 18, none⟩ (.int .i64 x) = w10 at hEA ⊢
  rw [List.drop_drop, HX.out] at hEA
  exact dec_b (fm0 ys) (ys.drop 14) _ _ g2 g5 g6 n cap _ w w10 hEA (by rw [List.length_drop, HE.out.len]; omega) hLT (by rw [List.length_drop, HE.out.len]; omega) R HRR.out a hs hd e0 e2 e3 e5 e6 e7
end Go.Proofs.YthhlfojaloaooaaGreat
