/-
  bridge: a frame that comes to a node that lets nothing pass.
-/
import Derived.Test.YthhlfojaloaooaaGreatRows
import Derived.Test.YthhlfojaloaooaaGreatHnJZ
import Derived.WalkKit
import Derived.ProofKit
import Derived.OpenShut
import Derived.LoopTactic
import Derived.WalkLawsBesides
import Derived.WalkSpells
import Derived.Outline
import Derived.Lib.Hide
import Derived.Deep.DrawnRows
import Derived.Laws.CopyOwn
import Derived.MapKept
namespace Go.Proofs.YthhlfojaloaooaaGreat
set_option linter.unusedSimpArgs false
set_option linter.unusedVariables false
open Go.RowKit Go.WideShapes Go.ChangeShapes
attribute [local go_sem ↓] Go.wp_at_zero Go.wp_at_succ

section
variable {P : Program}
theorem run_load_cells_d {o : Oper} {a : Act} (ty : TypeId) (x : Operand) (ho : o.op = .load ty x) (ad : Addr) (hx : a.eval x = .pointer (some ad)) (M : Array Value) {d : TypeDesc} {w : World} (hc : ∀ j v, M.toList[j]? = some v → w.cell? (ad.add j) = some v)
    (hu : P.underlying ty = some d) (hd : d.isRow = true) (hi : (P.info? ty).map (·.size) = some M.size) : (execOp a.eval o).run P w = .ok (.value (.agg M)) w := run_load_at ty x ad ho hx M hc hu hd hi
end
theorem mac_sub0 {d0 d1 d2 d3 d4 d5 s0 s1 s2 s3 s4 s5 vid prio seq ty : Int} {tg dr many : Bool} {A2 : Option Addr} {l c2 : Nat} : ∀ j v, (#[.int .u8 d0, .int .u8 d1, .int .u8 d2, .int .u8 d3, .int .u8 d4, .int .u8 d5] : Array Value).toList[j]? = some v → (#[.int .u8 d0, .int .u8 d1, .int .u8 d2, .int .u8 d3, .int .u8 d4, .int .u8 d5, .int .u8 s0, .int .u8 s1, .int .u8 s2, .int .u8 s3, .int .u8 s4, .int .u8 s5, .bool tg, .int .i64 vid, .int .i64 prio, .bool dr, .bool many, .int .i64 seq, .int .i64 ty, .slice A2 l c2] : Array Value)[0 + j]? = some v
  | 0, v, h => h
  | 1, v, h => h
  | 2, v, h => h
  | 3, v, h => h
  | 4, v, h => h
  | 5, v, h => h
  | n + 6, v, h => by simp at h
/-- A bridge that lets nothing pass: its ports, and that it is none that relays. -/
def BrAt (w : World) (g : Nat) (P : Int) : Prop := ∃ cs, Blk w g 111 cs ∧ cs[1]? = some (.int .i64 P) ∧ cs[2]? = some (.bool false)
theorem BrAt.kept {w w' : World} {g : Nat} {P : Int} (h : BrAt w g P) (hb : Below w.heap.size w w') : BrAt w' g P := by
  obtain ⟨cs, hB, h1, h2⟩ := h
  exact ⟨cs, hB.kept hb, h1, h2⟩
theorem BrAt.fr {w w' : World} {S : List Nat} {g : Nat} {P : Int} (h : BrAt w g P) (hf : Fr S w w') (hg : g ∉ S) : BrAt w' g P := by
  obtain ⟨cs, hB, h1, h2⟩ := h
  exact ⟨cs, hf.blk hB hg, h1, h2⟩
set_option maxRecDepth 100000 in
set_option maxHeartbeats 4000000 in
theorem brIn_ok (g : Nat) (P port : Int) (hv : Value) (A : Option Addr) (n c : Nat) (bs : List Int) (d0 d1 d2 d3 d4 d5 s0 s1 s2 s3 s4 s5 vid prio seq ty : Int) (tg dr many : Bool) (data : List Int) (w : World) (hB : BrAt w g P) (hp : 0 ≤ port ∧ port < P) (hr : Reads w w.heap.size 1 A n (us bs)) (hb : ∀ b ∈ bs, 0 ≤ b ∧ b ≤ 255) (hn : n ≤ 1000000) (hnc : n ≤ c)
    (hdec : decV bs = .ok ⟨[d0, d1, d2, d3, d4, d5], [s0, s1, s2, s3, s4, s5], tg, vid, prio, dr, many, seq, ty, data⟩) (hne : (d1 == 128) = false) : Calls Tryz.prog 29 #[.pointer (some ⟨g, 0, none⟩), .int .i64 port, .slice A n c, hv] w fun e w' => ∃ h A2 c2, e = .returned (.tuple #[.slice none 0 0, .slice (some ⟨h, 0, none⟩) 1 1]) ∧ Below w.heap.size w w' ∧ w.heap.size ≤ h ∧ Blk w' h 52 ((⟨[d0, d1, d2, d3, d4, d5], [s0, s1, s2, s3, s4, s5], tg, vid, prio, dr, many, seq, ty, data⟩ : Fm).cells A2 data.length c2) ∧ Reads w' w'.heap.size 1 A2 data.length (us data) := by
  obtain ⟨l, hl⟩ : ∃ l, l = data.length := ⟨_, rfl⟩
  have HL := Lib.hid hl
  have HD := Lib.hid hdec
  have HR := Lib.hid (And.intro hr hb)
  rw [← hl]
  clear hdec hr hb hl
  refine calls_sm (N := 91) Tryz.func29 rfl (by kernel_rfl) ?_
  intro a hs hd ha
  have e0 : a.tmps[0]? = some (.pointer (some ⟨g, 0, none⟩)) := ha 0 _ rfl
  have e1 : a.tmps[1]? = some (.int .i64 port) := ha 1 _ rfl
  have e2 : a.tmps[2]? = some (.slice A n c) := ha 2 _ rfl
  have e3 : a.tmps[3]? = some (hv) := ha 3 _ rfl
  clear ha
  conv => arg 2; whnf
  refine wp_seq_k fun Kq1 hKq1 => ?_
  have HB := Lib.hid hB
  obtain ⟨cs, B, hc1, hc2⟩ := hB
  have q1 := B.cellOf 1 hc1
  have dp0 : decide (port < 0) = false := decide_eq_false (by omega)
  have dp1 : decide (P ≤ port) = false := decide_eq_false (by omega)
  clear B hc1 hc2 cs
  refine sm_list [] 8 2 hs hd (by kernel_rfl) agN rfl ?_
  simp only [seval]
  go_wp2_with fail
  intro a H; replace hs := H.s hs; replace hd := H.d rfl; replace e0 := H.k e0 rfl; replace e1 := H.k e1 rfl; replace e2 := H.k e2 rfl; replace e3 := H.k e3 rfl; have e8 := H.g 8 rfl rfl; have e9 := H.g 9 rfl rfl; clear H; refine hKq1 _ _ ?_; clear hKq1 Kq1; refine wp_seq_k fun Kq2 hKq2 => ?_; refine wp_seq_k fun Kq3 hKq3 => ?_
  refine sm_list [0, 1] 14 15 hs hd (by kernel_rfl) (agC e0 (agC e1 agN)) rfl ?_
  simp only [seval]
  go_wp2_with fail
  intro a H; replace hs := H.s hs; replace hd := H.d rfl; replace e0 := H.g 0 rfl rfl; replace e1 := H.g 1 rfl rfl; replace e2 := H.k e2 rfl; replace e3 := H.k e3 rfl; replace e8 := H.k e8 rfl; replace e9 := H.k e9 rfl; have e28 := H.g 28 rfl rfl; clear H; refine hKq3 _ _ ?_; clear hKq3 Kq3
  refine wp_cond_false (slotE e28) ?_
  clear e28; refine wp_skip ?_; refine hKq2 _ _ ?_; clear hKq2 Kq2; refine wp_seq_k fun Kq4 hKq4 => ?_; clear q1 dp0 dp1
  refine sm_list [2, 10, 11] 29 5 hs hd (by kernel_rfl) (agC e2 (agU (agU agN))) rfl ?_
  simp only [seval]
  go_wp2_with fail
  refine (decode_any A n c bs w HR.out.1 HR.out.2 hn hnc).mono ?_
  rintro e w3 ⟨hb3, hdr⟩
  rw [HD.out] at hdr
  obtain ⟨hwf, A2, c2, rfl, rd3⟩ := hdr
  rw [show (⟨[d0, d1, d2, d3, d4, d5], [s0, s1, s2, s3, s4, s5], tg, vid, prio, dr, many, seq, ty, data⟩ : Fm).cells A2 data.length c2 = (⟨[d0, d1, d2, d3, d4, d5], [s0, s1, s2, s3, s4, s5], tg, vid, prio, dr, many, seq, ty, data⟩ : Fm).cells A2 l c2 from by rw [HL.out]] 
  have hM : (⟨[d0, d1, d2, d3, d4, d5], [s0, s1, s2, s3, s4, s5], tg, vid, prio, dr, many, seq, ty, data⟩ : Fm).cells A2 l c2 = #[.int .u8 d0, .int .u8 d1, .int .u8 d2, .int .u8 d3, .int .u8 d4, .int .u8 d5, .int .u8 s0, .int .u8 s1, .int .u8 s2, .int .u8 s3, .int .u8 s4, .int .u8 s5, .bool tg, .int .i64 vid, .int .i64 prio, .bool dr, .bool many, .int .i64 seq, .int .i64 ty, .slice A2 l c2] := rfl
  rw [hM]
  have BZ : Blk (w3.alloc (.cells #[.int .u8 0, .int .u8 0, .int .u8 0, .int .u8 0, .int .u8 0, .int .u8 0, .int .u8 0, .int .u8 0, .int .u8 0, .int .u8 0, .int .u8 0, .int .u8 0, .bool false, .int .i64 0, .int .i64 0, .bool false, .bool false, .int .i64 0, .int .i64 0, .slice none 0 0] 52)) w3.heap.size 52 zeroFm := Blk.new w3 _ _
  have HF := Lib.hid (And.intro hb3 (And.intro rd3 hwf))
  clear hb3 rd3 hwf hM
  go_wp2_with (first | (refine wpList_store_part rfl 52 (.tmp 1) (.tmp 6) rfl (off := 0) rfl BZ rfl (by simp [zeroFm]) (by kernel_rfl) (by rw [← Array.all_toList]; rfl) ?_; intro wz Bz zz gz) | fail)
  intro a H; replace hs := H.s hs; replace hd := H.d rfl; replace e2 := H.g 2 rfl rfl; replace e0 := H.k e0 rfl; replace e1 := H.k e1 rfl; replace e3 := H.k e3 rfl; replace e8 := H.k e8 rfl; replace e9 := H.k e9 rfl; have e10 := H.g 10 rfl rfl; have e11 := H.g 11 rfl rfl; clear H; refine hKq4 _ _ ?_; clear hKq4 Kq4; refine wp_seq_k fun Kq5 hKq5 => ?_; refine wp_seq_k fun Kq6 hKq6 => ?_
  have Bz2 : Blk wz w3.heap.size 52 #[.int .u8 d0, .int .u8 d1, .int .u8 d2, .int .u8 d3, .int .u8 d4, .int .u8 d5, .int .u8 s0, .int .u8 s1, .int .u8 s2, .int .u8 s3, .int .u8 s4, .int .u8 s5, .bool tg, .int .i64 vid, .int .i64 prio, .bool dr, .bool many, .int .i64 seq, .int .i64 ty, .slice A2 l c2] := by simpa [putAll, zeroFm] using Bz
  have hal : Below w3.heap.size w3 wz := ((Below.refl w3.heap.size w3).alloc (Nat.le_refl _) _).grown gz (Below.size ((Below.refl w3.heap.size w3).alloc (Nat.le_refl _) _)) (fun k hk => by cases hk; exact Nat.le_refl _)
  have LZ : Below w.heap.size w wz := HF.out.1.trans (hal.mono HF.out.1.size)
  have rdz : Reads wz wz.heap.size 1 A2 l (us data) := by
      have h := (HF.out.2.1.below hal).more hal.size
      rw [← HL.out] at h
      exact h
  obtain ⟨q, hq⟩ : ∃ q, q = w3.heap.size := ⟨_, rfl⟩
  rw [← hq] at Bz2 e10
  have HBz := Lib.hid (And.intro Bz2 (And.intro rdz LZ))
  clear Bz gz zz BZ hal hq Bz2 rdz LZ
  refine sm_list [11] 34 2 hs hd (by kernel_rfl) (agC e11 agN) rfl ?_
  simp only [seval]
  go_wp2_with fail
  intro a H; replace hs := H.s hs; replace hd := H.d rfl; replace e11 := H.g 11 rfl rfl; replace e0 := H.k e0 rfl; replace e1 := H.k e1 rfl; replace e2 := H.k e2 rfl; replace e3 := H.k e3 rfl; replace e8 := H.k e8 rfl; replace e9 := H.k e9 rfl; replace e10 := H.k e10 rfl; have e35 := H.g 35 rfl rfl; clear H; refine hKq6 _ _ ?_; clear hKq6 Kq6
  refine wp_cond_false (slotE e35) ?_
  clear e35; refine wp_skip ?_; refine hKq5 _ _ ?_; clear hKq5 Kq5; refine wp_seq_k fun Kq7 hKq7 => ?_; refine wp_seq_k fun Kq8 hKq8 => ?_; have lq := HBz.out.1.lt; have k0 := HBz.out.1.cellOf (v := .int .u8 d0) 0 rfl; have k1 := HBz.out.1.cellOf (v := .int .u8 d1) 1 rfl; have k2 := HBz.out.1.cellOf (v := .int .u8 d2) 2 rfl; have k3 := HBz.out.1.cellOf (v := .int .u8 d3) 3 rfl; have k4 := HBz.out.1.cellOf (v := .int .u8 d4) 4 rfl
  have k5 := HBz.out.1.cellOf (v := .int .u8 d5) 5 rfl
  have hE : ∀ W, (binOp .eql 27 (.agg #[.int .u8 d0, .int .u8 d1, .int .u8 d2, .int .u8 d3, .int .u8 d4, .int .u8 d5]) (.agg #[.int .u8 1, .int .u8 128, .int .u8 194, .int .u8 0, .int .u8 0, .int .u8 14])).run Tryz.prog W = .ok (.bool false) W := fun W => by
    have h := run_eql_arr (P := Tryz.prog) (t := 27) (e := 5) (n := 6) (k := .u8) Tryz.underlying27 Tryz.underlying5 (by kernel_rfl) [d0, d1, d2, d3, d4, d5] [1, 128, 194, 0, 0, 14] rfl rfl W
    have hx : d1 ≠ 128 := by simpa using hne
    rw [show ([d0, d1, d2, d3, d4, d5] == [1, 128, 194, 0, 0, 14]) = false from beq_eq_false_iff_ne.2 (fun e => hx (by injection e with _ e; injection e))] at h
    exact h
  refine sm_any [10] 45 4 (by kernel_rfl) hs hd (by kernel_rfl) (agC e10 agN) rfl (any_class (fun w' => Below wz.heap.size wz w') (by kernel_rfl) ((Below.refl _ _).drew) ?_)
  simp only [seval]
  repeat (first | (with_reducible (refine wpQuiet_call (v := ?_) 45 ?_ ?_ ?_ ?_ ?_); rotate_left 2; (first | exact wanted_none rfl | exact wanted_on rfl rfl rfl); (intro w' hw'; obtain ⟨hc, hf⟩ := bcell hw'; go_simp; with_reducible rfl); (intro w' hw'; (with_reducible refine (ptpMac_any w').mono ?_); rintro e w2 ⟨rfl, hb⟩; refine ⟨?_, hw'.trans (hb.mono (by have h0 := hw'.size; first | omega | (simp at h0; omega)))⟩; with_reducible rfl); simp only [Act.put, List.setIfInBounds_toArray, List.set_cons_zero, List.set_cons_succ]) | (refine wpQuiet_val (v := .agg #[.int .u8 d0, .int .u8 d1, .int .u8 d2, .int .u8 d3, .int .u8 d4, .int .u8 d5]) ?_ (fun w' hw' => run_load_cells_d 27 (.tmp 1) rfl ⟨q, 0, none⟩ rfl #[.int .u8 d0, .int .u8 d1, .int .u8 d2, .int .u8 d3, .int .u8 d4, .int .u8 d5] (blk_sub (HBz.out.1.kept hw') mac_sub0) Tryz.underlying27 rfl (by kernel_rfl)) ?_; (first | exact wanted_none rfl | exact wanted_on rfl rfl rfl); simp only [Act.put, List.setIfInBounds_toArray, List.set_cons_zero, List.set_cons_succ]) | (with_reducible (refine wpQuiet_skip ?_ ?_); (first | exact wanted_off rfl rfl rfl rfl | exact wanted_off2 rfl rfl rfl); simp only [Act.put, List.setIfInBounds_toArray, List.set_cons_zero, List.set_cons_succ]) | (with_reducible (refine wpQuiet_val (v := ?_) ?_ ?_ ?_); rotate_left; (first | exact wanted_none rfl | exact wanted_on rfl rfl rfl); (intro w' hw'; obtain ⟨hc, hf⟩ := bcell hw'; go_simp; with_reducible rfl); simp only [Act.put, List.setIfInBounds_toArray, List.set_cons_zero, List.set_cons_succ]))
  refine wpQuiet_nil ?_
  intro w5 hw5
  intro a H; replace hs := H.s hs; replace hd := H.d rfl; replace e10 := H.g 10 rfl rfl; replace e0 := H.k e0 rfl; replace e1 := H.k e1 rfl; replace e2 := H.k e2 rfl; replace e3 := H.k e3 rfl; replace e8 := H.k e8 rfl; replace e9 := H.k e9 rfl; replace e11 := H.k e11 rfl; have e48 := H.g 48 rfl rfl; clear H; refine hKq8 _ _ ?_; clear hKq8 Kq8
  refine wp_cond_false (slotE e48) ?_
  clear e48; refine wp_skip ?_; refine hKq7 _ _ ?_; clear hKq7 Kq7; refine wp_seq_k fun Kq9 hKq9 => ?_; refine wp_seq_k fun Kq10 hKq10 => ?_; clear lq k0 k1 k2 k3 k4 k5; have hwall := HBz.out.2.2.trans (hw5.mono HBz.out.2.2.size); have B5 := HBz.out.1.kept hw5
  have rd5 := (HBz.out.2.1.below hw5).more hw5.size
  have HB5 := Lib.hid (And.intro B5 (And.intro rd5 hwall))
  obtain ⟨cs, Bb, hc1, hc2⟩ := HB.out.kept (Below.mono hwall (Nat.le_refl _))
  have q2 := Bb.cellOf 2 hc2
  clear Bb hc1 hc2 cs hw5 B5 rd5 hwall HBz
  refine sm_list [0] 76 6 hs hd (by kernel_rfl) (agC e0 agN) rfl ?_
  simp only [seval]
  go_wp2_with fail
  intro a H; replace hs := H.s hs; replace hd := H.d rfl; replace e0 := H.g 0 rfl rfl; replace e1 := H.k e1 rfl; replace e2 := H.k e2 rfl; replace e3 := H.k e3 rfl; replace e8 := H.k e8 rfl; replace e9 := H.k e9 rfl; replace e10 := H.k e10 rfl; replace e11 := H.k e11 rfl; have e81 := H.g 81 rfl rfl; clear H; refine hKq10 _ _ ?_; clear hKq10 Kq10
  refine wp_cond_true (slotE e81) ?_
  clear e81; refine wp_seq_k fun Kq11 hKq11 => ?_; clear q2
  refine sm_any [8, 9, 10] 82 2 (by kernel_rfl) hs hd (by kernel_rfl) (agC e8 (agC e9 (agC e10 agN))) rfl (any_script [(0, true), (2, true), (1, false), (3, true)] (fun w' => Below w5.heap.size w5 w') (by kernel_rfl) (fun _ _ _ _ _ h => h) ((Below.refl _ _).drew) ?_)
  simp only [seval]
  have hwd : Below w5.heap.size w5 w5.drew := (Below.refl _ _).drew
  obtain ⟨wd, hwde⟩ : ∃ wd, wd = w5.drew := ⟨_, rfl⟩
  rw [← hwde] at hwd ⊢
  clear hwde
  (refine script_take (v := .agg #[.int .u8 d0, .int .u8 d1, .int .u8 d2, .int .u8 d3, .int .u8 d4, .int .u8 d5, .int .u8 s0, .int .u8 s1, .int .u8 s2, .int .u8 s3, .int .u8 s4, .int .u8 s5, .bool tg, .int .i64 vid, .int .i64 prio, .bool dr, .bool many, .int .i64 seq, .int .i64 ty, .slice A2 l c2]) rfl ?_ (fun w' hw' => run_load_cells_d 52 (.tmp 2) rfl ⟨q, 0, none⟩ rfl #[.int .u8 d0, .int .u8 d1, .int .u8 d2, .int .u8 d3, .int .u8 d4, .int .u8 d5, .int .u8 s0, .int .u8 s1, .int .u8 s2, .int .u8 s3, .int .u8 s4, .int .u8 s5, .bool tg, .int .i64 vid, .int .i64 prio, .bool dr, .bool many, .int .i64 seq, .int .i64 ty, .slice A2 l c2] (blk_cells (HB5.out.1.kept hw')) Tryz.underlying52 rfl (by kernel_rfl)) ?_; (first | exact wanted_none rfl | exact wanted_on rfl rfl rfl); simp only [Act.put, List.setIfInBounds_toArray, List.set_cons_zero, List.set_cons_succ])
  (refine script_take (v := ?_) rfl ?_ ?_ ?_; rotate_left; (first | rfl | (go_simp; done)); (intro w' _; go_simp; with_reducible rfl); simp only [Act.put, List.setIfInBounds_toArray, List.set_cons_zero, List.set_cons_succ])
  have hwa : Below w5.heap.size w5 (wd.alloc (.cells #[.int .u8 d0, .int .u8 d1, .int .u8 d2, .int .u8 d3, .int .u8 d4, .int .u8 d5, .int .u8 s0, .int .u8 s1, .int .u8 s2, .int .u8 s3, .int .u8 s4, .int .u8 s5, .bool tg, .int .i64 vid, .int .i64 prio, .bool dr, .bool many, .int .i64 seq, .int .i64 ty, .slice A2 l c2] 52)) := hwd.alloc hwd.size _
  have BN := Blk.new wd 52 #[.int .u8 d0, .int .u8 d1, .int .u8 d2, .int .u8 d3, .int .u8 d4, .int .u8 d5, .int .u8 s0, .int .u8 s1, .int .u8 s2, .int .u8 s3, .int .u8 s4, .int .u8 s5, .bool tg, .int .i64 vid, .int .i64 prio, .bool dr, .bool many, .int .i64 seq, .int .i64 ty, .slice A2 l c2]
  (refine script_run (v := ?_) (w' := ?_) rfl ?_ ?_ ?_ ?_; rotate_left 2; (first | rfl | (go_simp; done)); (go_simp; refine ⟨?_, ?_⟩ <;> with_reducible rfl); (exact hwa); simp only [Act.put, List.setIfInBounds_toArray, List.set_cons_zero, List.set_cons_succ])
  (refine script_take (v := ?_) rfl ?_ ?_ ?_; rotate_left; (first | rfl | (go_simp; done)); (intro w' _; go_simp; with_reducible rfl); simp only [Act.put, List.setIfInBounds_toArray, List.set_cons_zero, List.set_cons_succ])
  have HN := Lib.hid (And.intro hwa (And.intro BN hwd.size))
  clear BN hwa hwd
  refine script_nil ?_
  intro a H; replace hs := H.s hs; replace hd := H.d rfl; replace e10 := H.g 10 rfl rfl; replace e0 := H.k e0 rfl; replace e1 := H.k e1 rfl; replace e2 := H.k e2 rfl; replace e3 := H.k e3 rfl; replace e11 := H.k e11 rfl; replace e8 := H.g 8 rfl rfl; replace e9 := H.g 9 rfl rfl; clear H; refine hKq11 _ _ ?_; clear hKq11 Kq11; refine wp_ret ?_; refine exit_then rfl ?_
  refine sm_ret2 rfl hd e8 e9 ⟨wd.heap.size, A2, c2, rfl, HB5.out.2.2.trans (HN.out.1.mono HB5.out.2.2.size), Nat.le_trans HB5.out.2.2.size HN.out.2.2, ?_, ?_⟩
  · exact HN.out.2.1
  · exact (HB5.out.2.1.below HN.out.1).more HN.out.1.size
end Go.Proofs.YthhlfojaloaooaaGreat
