/-
  host: what is sent.
-/
import Derived.Test.YthhlfojaloaooaaGreatRows
import Derived.Test.YthhlfojaloaooaaGreatHnXZ
import Derived.WalkKit
import Derived.ProofKit
import Derived.OpenShut
import Derived.LoopTactic
import Derived.WalkLawsBesides
import Derived.WalkSpells
import Derived.Outline
import Derived.Lib.Hide
import Derived.Deep.DrawnRows
import Derived.Laws.CopyOwn
import Derived.MapKept
namespace Go.Proofs.YthhlfojaloaooaaGreat
set_option linter.unusedSimpArgs false
set_option linter.unusedVariables false
open Go.RowKit Go.WideShapes Go.ChangeShapes
attribute [local go_sem ↓] Go.wp_at_zero Go.wp_at_succ

theorem gensA_at {l : List Int} {i : Nat} {x : Int} (h : l[i]? = some x) : (gensA l)[i]? = some (.int .i64 x) := by
  unfold gensA
  rw [List.getElem?_toArray, List.getElem?_map, h]
  rfl
theorem gensA_set {l : List Int} {i : Nat} {x : Int} : (gensA l).setIfInBounds i (.int .i64 x) = gensA (l.set i x) := by
  unfold gensA
  rw [List.setIfInBounds_toArray, List.map_set]
def outc (p : Int) (b : Value) : List Value := [.int .i64 p, .int .i64 7, .bool false, .int .i64 0, b]
/-- The frames that are sent, one behind the other. -/
inductive SdR (B : Nat) (w : World) (p0 p1 : Int) (F : List Int) : Nat → Value → Prop
  | z : SdR B w p0 p1 F 0 (.slice none 0 0)
  | o {v b0 : Value} (own : w.ownsRow B 49 5 v 1 (outc p0 b0)) (r0 : w.ownsRow B 5 1 b0 F.length (us F)) : SdR B w p0 p1 F 1 v
  | t {v b0 b1 : Value} (own : w.ownsRow B 49 5 v 2 (outc p0 b0 ++ outc p1 b1)) (r0 : w.ownsRow B 5 1 b0 F.length (us F)) (r1 : w.ownsRow B 5 1 b1 F.length (us F)) : SdR B w p0 p1 F 2 v
theorem own_below {w w' : World} {base : Nat} {e : TypeId} {size n : Nat} {v : Value} {xs : List Value} (h : w.ownsRow base e size v n xs) (hb : Below w.heap.size w w') : w'.ownsRow base e size v n xs := own_kept h (gr_below hb none) (fun k _ => by simp)
theorem styOUT : SliceTy Tryz.prog 45 49 5 56 := sliceTy_mk (z := .agg #[.int .i64 0, .int .i64 0, .bool false, .int .i64 0, .slice none 0 0]) Tryz.underlying45 (by kernel_rfl) rfl
theorem reads_frs {S : List Nat} {w w' : World} {B size n : Nat} {A : Option Addr} {xs : List Value} (hf : Fr S w w') (h : Reads w B size A n xs) (hB : B ≤ w.heap.size) (hA : ∀ ad, A = some ad → ad.block ∉ S) : Reads w' B size A n xs :=
  ⟨h.1, fun hp => by
    obtain ⟨ad, e, hb, hc⟩ := h.2 hp
    exact ⟨ad, e, hb, fun k v hv => (hf.cell (by rw [block_of_add]; omega) (by rw [block_of_add]; exact hA ad e)).trans (hc k v hv)⟩⟩
theorem ed_sub0 {e : Ed} : ∀ j v, (#[.int .i64 e.vid, .int .u8 e.m0, .int .u8 e.m1, .int .u8 e.m2, .int .u8 e.m3, .int .u8 e.m4, .int .u8 e.m5, .int .i64 e.fi, .int .i64 e.fo, .int .i64 e.fm] : Array Value).toList[j]? = some v → (#[.int .i64 e.vid, .int .u8 e.m0, .int .u8 e.m1, .int .u8 e.m2, .int .u8 e.m3, .int .u8 e.m4, .int .u8 e.m5, .int .i64 e.fi, .int .i64 e.fo, .int .i64 e.fm, .int .i64 e.p0, .int .i64 e.p1, .bool e.talk] : Array Value)[0 + j]? = some v
  | 0, v, h => h
  | 1, v, h => h
  | 2, v, h => h
  | 3, v, h => h
  | 4, v, h => h
  | 5, v, h => h
  | 6, v, h => h
  | 7, v, h => h
  | 8, v, h => h
  | 9, v, h => h
  | n + 10, v, h => by simp at h
set_option maxRecDepth 100000 in
set_option maxHeartbeats 4000000 in
theorem hSend_any (B g gb : Nat) (ve : Value) (hg : Nat) (vm : Value) (j : Nat) (ps : List Value) (id P : Int) (es : List Ed) (gens : List Int) (ag st : Int) (i : Nat) (e : Ed) (s : Int) (A : Option Addr) (n c : Nat) (data : List Int) (f : Fm) (w : World)
    (h : HoAt B w g gb ve hg vm j ps id P es gens ag st) (he : es[i]? = some e) (ht : e.talk = true) (hs1 : gens[i]? = some s) (hs0 : 0 ≤ s ∧ s < 65536) (hid : 0 ≤ id ∧ id ≤ 255) (hf : f = ⟨[e.m0, e.m1, e.m2, e.m3, e.m4, e.m5], [0, 0, 0, 0, 0, id], true, e.vid, 7, false, true, s, 2048, data⟩) (hw : f.Wf) (hck : checkF f = 0) (hr : Reads w w.heap.size 1 A n (us data)) (hA : ∀ ad, A = some ad → ad.block ≠ hg) (hn : n ≤ 1500) (hes : es.length ≤ 64) :
    Calls Tryz.prog 9 #[.pointer (some ⟨g, 0, none⟩), .int .i64 (i : Int), .slice A n c] w fun x w' => ∃ vo b0 b1, x = .returned (.tuple #[vo, .int .i64 s, .int .i64 0]) ∧ w'.ownsRow w.heap.size 49 5 vo 2 (outc e.p0 b0 ++ outc e.p1 b1) ∧ w'.ownsRow w.heap.size 5 1 b0 (encF f).length (us (encF f)) ∧ w'.ownsRow w.heap.size 5 1 b1 (encF f).length (us (encF f)) ∧ FTy [87] w w' ∧ HoAt B w' g gb ve hg vm j ps id P es (gens.set i ((s + 1) % 65536)) ag st ∧ Fr [hg] w w' := by
  have hil : i < es.length := (List.getElem?_eq_some_iff.1 he).1
  obtain ⟨Ae, ce, rfl, hce, rde⟩ := ownsRow_reads h.ends
  obtain ⟨ad, rfl, hadb, _, hcj⟩ := Reads.elem Ed.len rde he hil
  have qt := hcj 12 (.bool true) (by omega) (by show some (Value.bool e.talk) = _; rw [ht])
  obtain ⟨ad', hadq, _, hc⟩ := reads_el Ed.len rde he hil
  injection hadq with hadq
  subst hadq
  obtain ⟨N, hN⟩ : ∃ N, N = es.length := ⟨_, rfl⟩
  rw [← hN] at hil hes
  have HE := Lib.hid (And.intro he (And.intro hs1 (And.intro hs0 (And.intro hid (And.intro hf (And.intro hw hck))))))
  have HH := Lib.hid (And.intro h (And.intro hN hce))
  have HC := Lib.hid hc
  have HR := Lib.hid (And.intro hr hA)
  have q1 := h.box.cellOf (v := .int .i64 id) 1 rfl
  have q2 : w.cell? ⟨g, 2, none⟩ = some (.slice (some ad) N ce) := by rw [hN]; exact h.box.cellOf 2 rfl
  have q3 : w.cell? ⟨g, 3, none⟩ = some (.slice (some ⟨hg, 0, none⟩) N N) := by rw [hN, ← h.gl]; exact h.box.cellOf 3 rfl
  have lg := h.box.lt
  clear he ht hs1 hs0 hid hf hw hck hr hA h hc hcj rde hadb hN hce
  refine calls_sm (N := 89) Tryz.func9 rfl (by kernel_rfl) ?_
  intro a hs hd ha
  have e0 : a.tmps[0]? = some (.pointer (some ⟨g, 0, none⟩)) := ha 0 _ rfl
  have e1 : a.tmps[1]? = some (.int .i64 (i : Int)) := ha 1 _ rfl
  have e2 : a.tmps[2]? = some (.slice A n c) := ha 2 _ rfl
  clear ha
  conv => arg 2; whnf
  refine wp_seq_k fun Kq1 hKq1 => ?_
  have d0 : decide ((i : Int) < 0) = false := decide_eq_false (by omega)
  have d1 : decide ((N : Int) ≤ (i : Int)) = false := decide_eq_false (by omega)
  have d1b : decide (N ≤ i) = false := decide_eq_false (by omega)
  have hii : (i : Int) < (N : Int) := by omega
  have d2 : decide (1500 < n) = false := decide_eq_false (by omega)
  have d2b : decide ((1500 : Int) < (n : Int)) = false := decide_eq_false (by omega)
  refine sm_list [] 6 3 hs hd (by kernel_rfl) agN rfl ?_
  simp only [seval]
  go_wp2_with fail
  intro a H; replace hs := H.s hs; replace hd := H.d rfl; replace e0 := H.k e0 rfl; replace e1 := H.k e1 rfl; replace e2 := H.k e2 rfl; have e6 := H.g 6 rfl rfl; have e7 := H.g 7 rfl rfl; have e8 := H.g 8 rfl rfl; clear H; refine hKq1 _ _ ?_; clear hKq1 Kq1; refine wp_seq_k fun Kq2 hKq2 => ?_; refine wp_seq_k fun Kq3 hKq3 => ?_
  refine sm_list [0, 1] 16 26 hs hd (by kernel_rfl) (agC e0 (agC e1 agN)) rfl ?_
  simp only [seval]
  go_wp2_with fail
  intro a H; replace hs := H.s hs; replace hd := H.d rfl; replace e0 := H.g 0 rfl rfl; replace e1 := H.g 1 rfl rfl; replace e2 := H.k e2 rfl; replace e6 := H.k e6 rfl; replace e7 := H.k e7 rfl; replace e8 := H.k e8 rfl; have e41 := H.g 41 rfl rfl; clear H; refine hKq3 _ _ ?_; clear hKq3 Kq3
  refine wp_cond_false (slotE e41) ?_
  clear e41; refine wp_skip ?_; refine hKq2 _ _ ?_; clear hKq2 Kq2; refine wp_seq_k fun Kq4 hKq4 => ?_; clear qt d0 d1 d1b
  refine sm_list [0, 1, 9] 42 7 hs hd (by kernel_rfl) (agC e0 (agC e1 (agU agN))) rfl ?_
  simp only [seval]
  go_wp2_with (first | (refine wpList_load_any_d rfl 32 (.tmp 8) rfl (ad.add (i * 13)) rfl #[.int .i64 e.vid, .int .u8 e.m0, .int .u8 e.m1, .int .u8 e.m2, .int .u8 e.m3, .int .u8 e.m4, .int .u8 e.m5, .int .i64 e.fi, .int .i64 e.fo, .int .i64 e.fm, .int .i64 e.p0, .int .i64 e.p1, .bool e.talk] _ HC.out Tryz.underlying32 rfl (by kernel_rfl) ?_) | (refine wpList_store_new rfl 32 (.tmp 2) (.tmp 9) rfl rfl rfl rfl rfl (by kernel_rfl) (by rw [← Array.all_toList]; rfl) ?_) | fail)
  intro a H; replace hs := H.s hs; replace hd := H.d rfl; replace e0 := H.g 0 rfl rfl; replace e1 := H.g 1 rfl rfl; replace e2 := H.k e2 rfl; replace e6 := H.k e6 rfl; replace e7 := H.k e7 rfl; replace e8 := H.k e8 rfl; have e9 := H.g 9 rfl rfl; clear H; refine hKq4 _ _ ?_; clear hKq4 Kq4; refine wp_seq_k fun Kq5 hKq5 => ?_; refine wp_seq_k fun Kq6 hKq6 => ?_
  have BE := Blk.new w 32 #[.int .i64 e.vid, .int .u8 e.m0, .int .u8 e.m1, .int .u8 e.m2, .int .u8 e.m3, .int .u8 e.m4, .int .u8 e.m5, .int .i64 e.fi, .int .i64 e.fo, .int .i64 e.fm, .int .i64 e.p0, .int .i64 e.p1, .bool e.talk]
  have L1 := (Below.refl w.heap.size w).alloc (Nat.le_refl _) (.cells #[.int .i64 e.vid, .int .u8 e.m0, .int .u8 e.m1, .int .u8 e.m2, .int .u8 e.m3, .int .u8 e.m4, .int .u8 e.m5, .int .i64 e.fi, .int .i64 e.fo, .int .i64 e.fm, .int .i64 e.p0, .int .i64 e.p1, .bool e.talk] 32)
  generalize hw1 : w.alloc (.cells #[.int .i64 e.vid, .int .u8 e.m0, .int .u8 e.m1, .int .u8 e.m2, .int .u8 e.m3, .int .u8 e.m4, .int .u8 e.m5, .int .i64 e.fi, .int .i64 e.fo, .int .i64 e.fm, .int .i64 e.p0, .int .i64 e.p1, .bool e.talk] 32) = w1 at BE L1 ⊢
  obtain ⟨p, hp⟩ : ∃ p, p = w.heap.size := ⟨_, rfl⟩
  rw [← hp] at BE e9
  clear q1 q2 q3 lg HC hw1 hp
  refine sm_list [2] 49 3 hs hd (by kernel_rfl) (agC e2 agN) rfl ?_
  simp only [seval]
  go_wp2_with fail
  intro a H; replace hs := H.s hs; replace hd := H.d rfl; replace e2 := H.g 2 rfl rfl; replace e0 := H.k e0 rfl; replace e1 := H.k e1 rfl; replace e6 := H.k e6 rfl; replace e7 := H.k e7 rfl; replace e8 := H.k e8 rfl; replace e9 := H.k e9 rfl; have e51 := H.g 51 rfl rfl; clear H; refine hKq6 _ _ ?_; clear hKq6 Kq6
  refine wp_cond_false (slotE e51) ?_
  clear e51; refine wp_skip ?_; refine hKq5 _ _ ?_; clear hKq5 Kq5; refine wp_seq_k fun Kq7 hKq7 => ?_; clear d2 d2b; have H1 := HH.out.1.kept L1
  have q3 : w1.cell? ⟨g, 3, none⟩ = some (.slice (some ⟨hg, 0, none⟩) N N) := by rw [HH.out.2.1, ← H1.gl]; exact H1.box.cellOf 3 rfl
  have lg := H1.box.lt
  have HBE := Lib.hid (And.intro BE (And.intro L1 H1))
  clear BE L1 H1
  refine sm_list [0, 1, 10] 52 7 hs hd (by kernel_rfl) (agC e0 (agC e1 (agU agN))) rfl ?_
  simp only [seval]
  go_wp2_with fail
  refine (gNext_any hg i s HE.out.2.2.1 87 (gensA gens) w1 HBE.out.2.2.gnb (gensA_at HE.out.2.1)).mono ?_
  rintro x w2 ⟨rfl, gr2, B2⟩
  rw [gensA_set] at B2
  have H2 := HBE.out.2.2.gen gr2 B2 (by rw [List.length_set])
  have f2 := FTy.gr (T := [87]) HBE.out.2.2.gnb (by simp) gr2
  have HX2 := Lib.hid (And.intro H2 (And.intro ((FTy.be HBE.out.2.1).trans f2) (f2.blk HBE.out.1 (by decide))))
  have rd2 : Reads w2 w2.heap.size 1 A n (us data) := (reads_frs (Fr.gr gr2 (List.mem_singleton.2 rfl)) ((HR.out.1.below HBE.out.2.1).more HBE.out.2.1.size) (Nat.le_refl _) (fun ad h => by simpa using HR.out.2 ad h)).more gr2.size
  have HR4 : Hid (∀ W : World, Below w2.heap.size w2 W → Reads W W.heap.size 1 A n (us data)) := Lib.hid (fun W L => (rd2.below L).more L.size)
  have HF2 := Lib.hid ((Fr.be (S := [hg]) HBE.out.2.1).trans (Fr.gr gr2 (List.mem_singleton.2 rfl)))
  clear gr2 B2 H2 f2 q3 lg rd2
  go_wp2_with fail
  intro a H; replace hs := H.s hs; replace hd := H.d rfl; replace e0 := H.g 0 rfl rfl; replace e1 := H.g 1 rfl rfl; replace e2 := H.k e2 rfl; replace e6 := H.k e6 rfl; replace e7 := H.k e7 rfl; replace e8 := H.k e8 rfl; replace e9 := H.k e9 rfl; have e10 := H.g 10 rfl rfl; clear H; refine hKq7 _ _ ?_; clear hKq7 Kq7; refine wp_seq_k fun Kq8 hKq8 => ?_
  obtain ⟨gens2, hgens2⟩ : ∃ l, l = gens.set i ((s + 1) % 65536) := ⟨_, rfl⟩
  skip
  refine sm_list [] 11 1 hs hd (by kernel_rfl) agN rfl ?_
  simp only [seval]
  go_wp2_with fail
  intro a H; replace hs := H.s hs; replace hd := H.d rfl; replace e0 := H.k e0 rfl; replace e1 := H.k e1 rfl; replace e2 := H.k e2 rfl; replace e6 := H.k e6 rfl; replace e7 := H.k e7 rfl; replace e8 := H.k e8 rfl; replace e9 := H.k e9 rfl; replace e10 := H.k e10 rfl; have e11 := H.g 11 rfl rfl; clear H; refine hKq8 _ _ ?_; clear hKq8 Kq8; refine wp_seq_k fun Kq9 hKq9 => ?_; refine wp_seq_k fun Kq10 hKq10 => ?_
  refine sm_list [9] 59 3 hs hd (by kernel_rfl) (agC e9 agN) rfl ?_
  simp only [seval]
  go_wp2_with (first | (refine wpList_load_any_d rfl 30 (.tmp 1) rfl ⟨p, 10, none⟩ rfl #[.int .i64 e.p0, .int .i64 e.p1] _ (blk_sub HX2.out.2.2 ed_sub10) Tryz.underlying30 rfl (by kernel_rfl) ?_) | fail)
  intro a H; replace hs := H.s hs; replace hd := H.d rfl; replace e9 := H.g 9 rfl rfl; replace e0 := H.k e0 rfl; replace e1 := H.k e1 rfl; replace e2 := H.k e2 rfl; replace e6 := H.k e6 rfl; replace e7 := H.k e7 rfl; replace e8 := H.k e8 rfl; replace e10 := H.k e10 rfl; replace e11 := H.k e11 rfl; have e60 := H.g 60 rfl rfl; have e61 := H.g 61 rfl rfl; clear H; refine hKq10 _ _ ?_; clear hKq10 Kq10
  refine wp_block ?_
  have LB2 : w.heap.size ≤ w2.heap.size := HX2.out.2.1.size
  skip
  refine wp_loop (fun a w' => ∃ (d : Nat) (v : Value), d ≤ 2 ∧ Below w2.heap.size w2 w' ∧ SdR w2.heap.size w' e.p0 e.p1 (encF f) d v ∧ a.tmps.size = 89 ∧ a.defers = [] ∧ a.tmps[0]? = some (.pointer (some ⟨g, 0, none⟩)) ∧ a.tmps[2]? = some (.slice A n c) ∧ a.tmps[9]? = some (.pointer (some ⟨p, 0, none⟩)) ∧ a.tmps[10]? = some (.int .i64 s) ∧ a.tmps[60]? = some (.agg #[.int .i64 e.p0, .int .i64 e.p1]) ∧ a.tmps[11]? = some v ∧ a.tmps[61]? = some (.int .i64 (d : Int))) (fun a _ => 2 - (intOf (a.tmps.getD 61 undef)).toNat) ?_ ?_
  · exact ⟨0, _, by omega, Below.refl _ _, SdR.z, hs, hd, e0, e2, e9, e10, e60, e11, e61⟩
  clear e0 e1 e2 e6 e7 e8 e9 e10 e11 e60 e61 hs hd a
  rintro a w4 ⟨d, v, hd2, L4, S4, hs, hd, e0, e2, e9, e10, e60, e11, e61⟩
  have hm := slot e61
  refine wp_seq_k fun Kq11 hKq11 => ?_
  have hi0 : ∀ W : World, (Instr.index 30 (.agg #[.int .i64 e.p0, .int .i64 e.p1]) (.int .i64 0)).run Tryz.prog W = .ok (.int .i64 e.p0) W := fun W => by kernel_rfl
  have hi1 : ∀ W : World, (Instr.index 30 (.agg #[.int .i64 e.p0, .int .i64 e.p1]) (.int .i64 1)).run Tryz.prog W = .ok (.int .i64 e.p1) W := fun W => by kernel_rfl
  obtain rfl | rfl | rfl : d = 0 ∨ d = 1 ∨ d = 2 := by omega
  ·
    have HMD := Lib.hid hm
    clear hm
    have HX4 := Lib.hid (And.intro (HX2.out.1.kept L4) (HX2.out.2.2.kept L4))
    refine sm_list [61] 62 1 hs hd (by kernel_rfl) (agC e61 agN) rfl ?_
    simp only [seval]
    go_wp2_with fail
    intro a H; replace hs := H.s hs; replace hd := H.d rfl; replace e61 := H.g 61 rfl rfl; replace e0 := H.k e0 rfl; replace e2 := H.k e2 rfl; replace e9 := H.k e9 rfl; replace e10 := H.k e10 rfl; replace e60 := H.k e60 rfl; replace e11 := H.k e11 rfl; have e62 := H.g 62 rfl rfl; clear H; refine hKq11 _ _ ?_; clear hKq11 Kq11; refine wp_seq_k fun Kq12 hKq12 => ?_
    refine wp_cond_true (slotE e62) ?_
    clear e62; refine wp_skip ?_; refine hKq12 _ _ ?_; clear hKq12 Kq12; refine wp_seq_k fun Kq13 hKq13 => ?_; refine wp_block ?_; refine wp_seq_k fun Kq14 hKq14 => ?_
    refine sm_list [13, 60, 61] 63 1 hs hd (by kernel_rfl) (agU (agC e60 (agC e61 agN))) rfl ?_
    simp only [seval]
    go_wp2_with fail
    intro a H; replace hs := H.s hs; replace hd := H.d rfl; replace e60 := H.g 60 rfl rfl; replace e61 := H.g 61 rfl rfl; replace e0 := H.k e0 rfl; replace e2 := H.k e2 rfl; replace e9 := H.k e9 rfl; replace e10 := H.k e10 rfl; replace e11 := H.k e11 rfl; have e13 := H.g 13 rfl rfl; clear H; refine hKq14 _ _ ?_; clear hKq14 Kq14; refine wp_seq_k fun Kq15 hKq15 => ?_; clear hi0 hi1; have q1 := HX4.out.1.box.cellOf (v := .int .i64 id) 1 rfl
    have lg := HX4.out.1.box.lt; have lp := HX4.out.2.lt
    have RD4 : Hid (Reads w4 w4.heap.size 1 A n (us data)) := Lib.hid (HR4.out w4 L4)
    refine sm_any [0, 2, 9, 10, 14, 15] 64 13 (by kernel_rfl) hs hd (by kernel_rfl) (agC e0 (agC e2 (agC e9 (agC e10 (agU (agU agN)))))) rfl (any_tree [] (.take 0 (.take 1 (.take 2 (.take 3 (.take 4 (.take 5 (.take 7 (.take 8 (.one 6 (.one 9 (.take 10 (.take 11 (.take 12 (.take 13 (.take 14 .nil))))))))))))))) (fun (w' : World) => Below w4.heap.size w4 w') (by kernel_rfl) (fun _ _ _ _ _ h => h) ((Below.refl _ _).drew) ?_)
    simp only [seval]
    have hd0 : Below w4.heap.size w4 w4.drew := (Below.refl _ _).drew
    obtain ⟨wd, hwde⟩ : ∃ wd, wd = w4.drew := ⟨_, rfl⟩
    rw [← hwde] at hd0 ⊢
    clear hwde
    (with_reducible (refine tr_take (v := ?_) rfl ?_ ?_ ?_); rotate_left; (first | exact wanted_none rfl | exact wanted_on rfl rfl rfl); (rintro w' hw'; obtain ⟨hc, hf⟩ := bcell hw'; go_simp; with_reducible rfl); simp only [Act.put, List.setIfInBounds_toArray, List.set_cons_zero, List.set_cons_succ])
    (refine tr_take (v := .agg #[.int .i64 e.vid, .int .u8 e.m0, .int .u8 e.m1, .int .u8 e.m2, .int .u8 e.m3, .int .u8 e.m4, .int .u8 e.m5, .int .i64 e.fi, .int .i64 e.fo, .int .i64 e.fm]) rfl ?_ (fun w' hw' => run_load_cells_d 29 (.tmp 7) rfl ⟨p, 0, none⟩ rfl #[.int .i64 e.vid, .int .u8 e.m0, .int .u8 e.m1, .int .u8 e.m2, .int .u8 e.m3, .int .u8 e.m4, .int .u8 e.m5, .int .i64 e.fi, .int .i64 e.fo, .int .i64 e.fm] (blk_sub (HX4.out.2.kept hw') ed_sub0) Tryz.underlying29 rfl (by kernel_rfl)) ?_; (first | exact wanted_none rfl | exact wanted_on rfl rfl rfl); simp only [Act.put, List.setIfInBounds_toArray, List.set_cons_zero, List.set_cons_succ])
    iterate 6 (with_reducible (refine tr_take (v := ?_) rfl ?_ ?_ ?_); rotate_left; (first | exact wanted_none rfl | exact wanted_on rfl rfl rfl); (rintro w' hw'; obtain ⟨hc, hf⟩ := bcell hw'; go_simp; with_reducible rfl); simp only [Act.put, List.setIfInBounds_toArray, List.set_cons_zero, List.set_cons_succ])
    (with_reducible (refine tr_call 12 ?_ rfl ?_ ?_ ?_); rotate_left; (first | exact wanted_none rfl | exact wanted_on rfl rfl rfl); (go_simp; with_reducible rfl))
    refine (of_any id HE.out.2.2.2.1 wd).mono ?_
    rintro x w5 ⟨rfl, hb5⟩
    have L5 : Below w4.heap.size w4 w5 := hd0.trans (hb5.mono hd0.size)
    refine ⟨_, rfl, L5, ?_⟩
    simp only [Act.put, List.setIfInBounds_toArray, List.set_cons_zero, List.set_cons_succ]
    clear hb5 q1 lg lp
    (with_reducible (refine tr_call 14 ?_ rfl ?_ ?_ ?_); rotate_left; (first | exact wanted_none rfl | exact wanted_on rfl rfl rfl); (go_simp; with_reducible rfl))
    refine (numbered_any e.m0 e.m1 e.m2 e.m3 e.m4 e.m5 0 0 0 0 0 id e.vid e.fi e.fo e.fm s A n c data w5 f (by rw [HE.out.2.2.2.2.1, Int.emod_eq_of_lt HE.out.2.2.1.1 HE.out.2.2.1.2]) HE.out.2.2.2.2.2.1 ((RD4.out.below L5).more L5.size) (by omega) (.inr trivial)).mono ?_
    rintro x w6 ⟨hb6, hor⟩
    obtain ⟨b, rfl, own6⟩ : ∃ b, x = .returned (.tuple #[b, .int .i64 0]) ∧ w6.ownsRow w5.heap.size 5 1 b (encF f).length (us (encF f)) := by
      rcases hor with ⟨h1, _⟩ | ⟨_, b, h2, h3⟩
      · exact absurd HE.out.2.2.2.2.2.2 h1
      · exact ⟨b, h2, h3⟩
    have L6 := L5.trans (hb6.mono L5.size)
    refine ⟨_, rfl, L6, ?_⟩
    simp only [Act.put, List.setIfInBounds_toArray, List.set_cons_zero, List.set_cons_succ]
    obtain ⟨Ab, cb, rfl, _, _⟩ := ownsRow_reads own6
    replace own6 := ownsRow_base own6 (Nat.le_trans L4.size L5.size)
    have HO6 := Lib.hid (And.intro own6 L6)
    clear hor hb6 own6 L6 L5 hd0
    (with_reducible (refine tr_take (v := ?_) rfl ?_ ?_ ?_); rotate_left; (first | exact wanted_none rfl | exact wanted_on rfl rfl rfl); (rintro w' _;  go_simp; with_reducible rfl); simp only [Act.put, List.setIfInBounds_toArray, List.set_cons_zero, List.set_cons_succ])
    (with_reducible (refine tr_take (v := ?_) rfl ?_ ?_ ?_); rotate_left; (first | exact wanted_none rfl | exact wanted_on rfl rfl rfl); (rintro w' _;  go_simp; with_reducible rfl); simp only [Act.put, List.setIfInBounds_toArray, List.set_cons_zero, List.set_cons_succ])
    (with_reducible (refine tr_take (v := ?_) rfl ?_ ?_ ?_); rotate_left; (first | exact wanted_none rfl | exact wanted_on rfl rfl rfl); (rintro w' _;  go_simp; with_reducible rfl); simp only [Act.put, List.setIfInBounds_toArray, List.set_cons_zero, List.set_cons_succ])
    (with_reducible (refine tr_take (v := ?_) rfl ?_ ?_ ?_); rotate_left; (first | exact wanted_none rfl | exact wanted_on rfl rfl rfl); (rintro w' _;  go_simp; with_reducible rfl); simp only [Act.put, List.setIfInBounds_toArray, List.set_cons_zero, List.set_cons_succ])
    (with_reducible (refine tr_take (v := ?_) rfl ?_ ?_ ?_); rotate_left; (first | exact wanted_none rfl | exact wanted_on rfl rfl rfl); (rintro w' _;  go_simp; with_reducible rfl); simp only [Act.put, List.setIfInBounds_toArray, List.set_cons_zero, List.set_cons_succ])
    refine tr_nil ?_
    intro a H; replace hs := H.s hs; replace hd := H.d rfl; replace e0 := H.g 0 rfl rfl; replace e2 := H.g 2 rfl rfl; replace e9 := H.g 9 rfl rfl; replace e10 := H.g 10 rfl rfl; replace e60 := H.k e60 rfl; replace e11 := H.k e11 rfl; replace e61 := H.k e61 rfl; replace e13 := H.k e13 rfl; have e14 := H.g 14 rfl rfl; have e15 := H.g 15 rfl rfl; clear H; refine hKq15 _ _ ?_; clear hKq15 Kq15; refine wp_seq_k fun Kq16 hKq16 => ?_
    refine wp_seq_k fun Kq17 hKq17 => ?_
    refine sm_list [15] 77 2 hs hd (by kernel_rfl) (agC e15 agN) rfl ?_
    simp only [seval]
    go_wp2_with fail
    intro a H; replace hs := H.s hs; replace hd := H.d rfl; replace e15 := H.g 15 rfl rfl; replace e0 := H.k e0 rfl; replace e2 := H.k e2 rfl; replace e9 := H.k e9 rfl; replace e10 := H.k e10 rfl; replace e60 := H.k e60 rfl; replace e11 := H.k e11 rfl; replace e61 := H.k e61 rfl; replace e13 := H.k e13 rfl; replace e14 := H.k e14 rfl; have e78 := H.g 78 rfl rfl; clear H; refine hKq17 _ _ ?_; clear hKq17 Kq17
    refine wp_cond_false (slotE e78) ?_
    clear e78; refine wp_skip ?_; refine hKq16 _ _ ?_; clear hKq16 Kq16; clear RD4
    cases S4
    have own0 := ownsRow_nil w6 w2.heap.size 49 5
    have h1c : ∀ u ∈ (#[.int .i64 e.p0, .int .i64 7, .bool false, .int .i64 0, .slice Ab (encF f).length cb] : Array Value).toList, u.oneCell' = true := by intro u hu; simp at hu; rcases hu with rfl | rfl | rfl | rfl | rfl <;> rfl
    have hszb : w2.heap.size ≤ w6.heap.size := Nat.le_trans L4.size HO6.out.2.size
    have HL4 := Lib.hid L4
    clear L4
    refine sm_list [11, 13, 14] 80 6 hs hd (by kernel_rfl) (agC e11 (agC e13 (agC e14 agN))) rfl ?_
    simp only [seval]
    go_wp2_with (at_builtin; refine wpList_pushG 1 rfl (.tmp 3) (.tmp 7) 45 rfl styOUT (cs := #[.int .i64 e.p0, .int .i64 7, .bool false, .int .i64 0, .slice Ab (encF f).length cb]) rfl h1c rfl own0 rfl rfl (by omega) hszb ?_; intro v7 w7 own7 gr7 _; obtain ⟨A7, c7, rfl, _, _⟩ := ownsRow_reads own7; have HO7 := Lib.hid (And.intro own7 gr7); clear own7 gr7)
    intro a H; replace hs := H.s hs; replace hd := H.d rfl; replace e13 := H.g 13 rfl rfl; replace e14 := H.g 14 rfl rfl; replace e0 := H.k e0 rfl; replace e2 := H.k e2 rfl; replace e9 := H.k e9 rfl; replace e10 := H.k e10 rfl; replace e60 := H.k e60 rfl; replace e61 := H.k e61 rfl; replace e15 := H.k e15 rfl; replace e11 := H.g 11 rfl rfl; clear H; refine hKq13 _ _ ?_; clear hKq13 Kq13
    have f7 : FTy [49] w6 w7 := FTy.row own0 (by simp) HO7.out.2
    have b7 : Below w2.heap.size w6 w7 := (Below.refl _ _).grown HO7.out.2 hszb (fun k hk => (ownsRow_lt own0 k hk).1)
    have L7 : Below w2.heap.size w2 w7 := (HL4.out.trans (HO6.out.2.mono HL4.out.size)).trans b7
    have X7 : SdR w2.heap.size w7 e.p0 e.p1 (encF f) 1 (.slice A7 1 c7) := SdR.o HO7.out.1 (f7.own HO6.out.1 (by decide))
    clear e13; clear e14; clear e15
    refine sm_list [61] 86 1 hs hd (by kernel_rfl) (agC e61 agN) rfl ?_
    simp only [seval]
    go_wp2_with fail
    intro a H; replace hs := H.s hs; replace hd := H.d rfl; replace e0 := H.k e0 rfl; replace e2 := H.k e2 rfl; replace e9 := H.k e9 rfl; replace e10 := H.k e10 rfl; replace e60 := H.k e60 rfl; replace e11 := H.k e11 rfl; replace e61 := H.g 61 rfl rfl; clear H
    exact ⟨⟨1, _, by omega, L7, X7, hs, hd, e0, e2, e9, e10, e60, e11, e61⟩, by rw [HMD.out, slot e61]; decide⟩
  ·
    have HMD := Lib.hid hm
    clear hm
    have HX4 := Lib.hid (And.intro (HX2.out.1.kept L4) (HX2.out.2.2.kept L4))
    refine sm_list [61] 62 1 hs hd (by kernel_rfl) (agC e61 agN) rfl ?_
    simp only [seval]
    go_wp2_with fail
    intro a H; replace hs := H.s hs; replace hd := H.d rfl; replace e61 := H.g 61 rfl rfl; replace e0 := H.k e0 rfl; replace e2 := H.k e2 rfl; replace e9 := H.k e9 rfl; replace e10 := H.k e10 rfl; replace e60 := H.k e60 rfl; replace e11 := H.k e11 rfl; have e62 := H.g 62 rfl rfl; clear H; refine hKq11 _ _ ?_; clear hKq11 Kq11; refine wp_seq_k fun Kq12 hKq12 => ?_
    refine wp_cond_true (slotE e62) ?_
    clear e62; refine wp_skip ?_; refine hKq12 _ _ ?_; clear hKq12 Kq12; refine wp_seq_k fun Kq13 hKq13 => ?_; refine wp_block ?_; refine wp_seq_k fun Kq14 hKq14 => ?_
    refine sm_list [13, 60, 61] 63 1 hs hd (by kernel_rfl) (agU (agC e60 (agC e61 agN))) rfl ?_
    simp only [seval]
    go_wp2_with fail
    intro a H; replace hs := H.s hs; replace hd := H.d rfl; replace e60 := H.g 60 rfl rfl; replace e61 := H.g 61 rfl rfl; replace e0 := H.k e0 rfl; replace e2 := H.k e2 rfl; replace e9 := H.k e9 rfl; replace e10 := H.k e10 rfl; replace e11 := H.k e11 rfl; have e13 := H.g 13 rfl rfl; clear H; refine hKq14 _ _ ?_; clear hKq14 Kq14; refine wp_seq_k fun Kq15 hKq15 => ?_; clear hi0 hi1; have q1 := HX4.out.1.box.cellOf (v := .int .i64 id) 1 rfl
    have lg := HX4.out.1.box.lt; have lp := HX4.out.2.lt
    have RD4 : Hid (Reads w4 w4.heap.size 1 A n (us data)) := Lib.hid (HR4.out w4 L4)
    refine sm_any [0, 2, 9, 10, 14, 15] 64 13 (by kernel_rfl) hs hd (by kernel_rfl) (agC e0 (agC e2 (agC e9 (agC e10 (agU (agU agN)))))) rfl (any_tree [] (.take 0 (.take 1 (.take 2 (.take 3 (.take 4 (.take 5 (.take 7 (.take 8 (.one 6 (.one 9 (.take 10 (.take 11 (.take 12 (.take 13 (.take 14 .nil))))))))))))))) (fun (w' : World) => Below w4.heap.size w4 w') (by kernel_rfl) (fun _ _ _ _ _ h => h) ((Below.refl _ _).drew) ?_)
    simp only [seval]
    have hd0 : Below w4.heap.size w4 w4.drew := (Below.refl _ _).drew
    obtain ⟨wd, hwde⟩ : ∃ wd, wd = w4.drew := ⟨_, rfl⟩
    rw [← hwde] at hd0 ⊢
    clear hwde
    (with_reducible (refine tr_take (v := ?_) rfl ?_ ?_ ?_); rotate_left; (first | exact wanted_none rfl | exact wanted_on rfl rfl rfl); (rintro w' hw'; obtain ⟨hc, hf⟩ := bcell hw'; go_simp; with_reducible rfl); simp only [Act.put, List.setIfInBounds_toArray, List.set_cons_zero, List.set_cons_succ])
    (refine tr_take (v := .agg #[.int .i64 e.vid, .int .u8 e.m0, .int .u8 e.m1, .int .u8 e.m2, .int .u8 e.m3, .int .u8 e.m4, .int .u8 e.m5, .int .i64 e.fi, .int .i64 e.fo, .int .i64 e.fm]) rfl ?_ (fun w' hw' => run_load_cells_d 29 (.tmp 7) rfl ⟨p, 0, none⟩ rfl #[.int .i64 e.vid, .int .u8 e.m0, .int .u8 e.m1, .int .u8 e.m2, .int .u8 e.m3, .int .u8 e.m4, .int .u8 e.m5, .int .i64 e.fi, .int .i64 e.fo, .int .i64 e.fm] (blk_sub (HX4.out.2.kept hw') ed_sub0) Tryz.underlying29 rfl (by kernel_rfl)) ?_; (first | exact wanted_none rfl | exact wanted_on rfl rfl rfl); simp only [Act.put, List.setIfInBounds_toArray, List.set_cons_zero, List.set_cons_succ])
    iterate 6 (with_reducible (refine tr_take (v := ?_) rfl ?_ ?_ ?_); rotate_left; (first | exact wanted_none rfl | exact wanted_on rfl rfl rfl); (rintro w' hw'; obtain ⟨hc, hf⟩ := bcell hw'; go_simp; with_reducible rfl); simp only [Act.put, List.setIfInBounds_toArray, List.set_cons_zero, List.set_cons_succ])
    (with_reducible (refine tr_call 12 ?_ rfl ?_ ?_ ?_); rotate_left; (first | exact wanted_none rfl | exact wanted_on rfl rfl rfl); (go_simp; with_reducible rfl))
    refine (of_any id HE.out.2.2.2.1 wd).mono ?_
    rintro x w5 ⟨rfl, hb5⟩
    have L5 : Below w4.heap.size w4 w5 := hd0.trans (hb5.mono hd0.size)
    refine ⟨_, rfl, L5, ?_⟩
    simp only [Act.put, List.setIfInBounds_toArray, List.set_cons_zero, List.set_cons_succ]
    clear hb5 q1 lg lp
    (with_reducible (refine tr_call 14 ?_ rfl ?_ ?_ ?_); rotate_left; (first | exact wanted_none rfl | exact wanted_on rfl rfl rfl); (go_simp; with_reducible rfl))
    refine (numbered_any e.m0 e.m1 e.m2 e.m3 e.m4 e.m5 0 0 0 0 0 id e.vid e.fi e.fo e.fm s A n c data w5 f (by rw [HE.out.2.2.2.2.1, Int.emod_eq_of_lt HE.out.2.2.1.1 HE.out.2.2.1.2]) HE.out.2.2.2.2.2.1 ((RD4.out.below L5).more L5.size) (by omega) (.inr trivial)).mono ?_
    rintro x w6 ⟨hb6, hor⟩
    obtain ⟨b, rfl, own6⟩ : ∃ b, x = .returned (.tuple #[b, .int .i64 0]) ∧ w6.ownsRow w5.heap.size 5 1 b (encF f).length (us (encF f)) := by
      rcases hor with ⟨h1, _⟩ | ⟨_, b, h2, h3⟩
      · exact absurd HE.out.2.2.2.2.2.2 h1
      · exact ⟨b, h2, h3⟩
    have L6 := L5.trans (hb6.mono L5.size)
    refine ⟨_, rfl, L6, ?_⟩
    simp only [Act.put, List.setIfInBounds_toArray, List.set_cons_zero, List.set_cons_succ]
    obtain ⟨Ab, cb, rfl, _, _⟩ := ownsRow_reads own6
    replace own6 := ownsRow_base own6 (Nat.le_trans L4.size L5.size)
    have HO6 := Lib.hid (And.intro own6 L6)
    clear hor hb6 own6 L6 L5 hd0
    (with_reducible (refine tr_take (v := ?_) rfl ?_ ?_ ?_); rotate_left; (first | exact wanted_none rfl | exact wanted_on rfl rfl rfl); (rintro w' _;  go_simp; with_reducible rfl); simp only [Act.put, List.setIfInBounds_toArray, List.set_cons_zero, List.set_cons_succ])
    (with_reducible (refine tr_take (v := ?_) rfl ?_ ?_ ?_); rotate_left; (first | exact wanted_none rfl | exact wanted_on rfl rfl rfl); (rintro w' _;  go_simp; with_reducible rfl); simp only [Act.put, List.setIfInBounds_toArray, List.set_cons_zero, List.set_cons_succ])
    (with_reducible (refine tr_take (v := ?_) rfl ?_ ?_ ?_); rotate_left; (first | exact wanted_none rfl | exact wanted_on rfl rfl rfl); (rintro w' _;  go_simp; with_reducible rfl); simp only [Act.put, List.setIfInBounds_toArray, List.set_cons_zero, List.set_cons_succ])
    (with_reducible (refine tr_take (v := ?_) rfl ?_ ?_ ?_); rotate_left; (first | exact wanted_none rfl | exact wanted_on rfl rfl rfl); (rintro w' _;  go_simp; with_reducible rfl); simp only [Act.put, List.setIfInBounds_toArray, List.set_cons_zero, List.set_cons_succ])
    (with_reducible (refine tr_take (v := ?_) rfl ?_ ?_ ?_); rotate_left; (first | exact wanted_none rfl | exact wanted_on rfl rfl rfl); (rintro w' _;  go_simp; with_reducible rfl); simp only [Act.put, List.setIfInBounds_toArray, List.set_cons_zero, List.set_cons_succ])
    refine tr_nil ?_
    intro a H; replace hs := H.s hs; replace hd := H.d rfl; replace e0 := H.g 0 rfl rfl; replace e2 := H.g 2 rfl rfl; replace e9 := H.g 9 rfl rfl; replace e10 := H.g 10 rfl rfl; replace e60 := H.k e60 rfl; replace e11 := H.k e11 rfl; replace e61 := H.k e61 rfl; replace e13 := H.k e13 rfl; have e14 := H.g 14 rfl rfl; have e15 := H.g 15 rfl rfl; clear H; refine hKq15 _ _ ?_; clear hKq15 Kq15; refine wp_seq_k fun Kq16 hKq16 => ?_
    refine wp_seq_k fun Kq17 hKq17 => ?_
    refine sm_list [15] 77 2 hs hd (by kernel_rfl) (agC e15 agN) rfl ?_
    simp only [seval]
    go_wp2_with fail
    intro a H; replace hs := H.s hs; replace hd := H.d rfl; replace e15 := H.g 15 rfl rfl; replace e0 := H.k e0 rfl; replace e2 := H.k e2 rfl; replace e9 := H.k e9 rfl; replace e10 := H.k e10 rfl; replace e60 := H.k e60 rfl; replace e11 := H.k e11 rfl; replace e61 := H.k e61 rfl; replace e13 := H.k e13 rfl; replace e14 := H.k e14 rfl; have e78 := H.g 78 rfl rfl; clear H; refine hKq17 _ _ ?_; clear hKq17 Kq17
    refine wp_cond_false (slotE e78) ?_
    clear e78; refine wp_skip ?_; refine hKq16 _ _ ?_; clear hKq16 Kq16; clear RD4
    obtain ⟨b0, own4, r04⟩ : ∃ b0, w4.ownsRow w2.heap.size 49 5 v 1 (outc e.p0 b0) ∧ w4.ownsRow w2.heap.size 5 1 b0 (encF f).length (us (encF f)) := by
        cases S4
        exact ⟨_, by assumption, by assumption⟩
    have own0 := own_below own4 HO6.out.2
    have r0 := own_below r04 HO6.out.2
    have HR0 := Lib.hid r0
    clear own4 r04 r0
    have h1c : ∀ u ∈ (#[.int .i64 e.p1, .int .i64 7, .bool false, .int .i64 0, .slice Ab (encF f).length cb] : Array Value).toList, u.oneCell' = true := by intro u hu; simp at hu; rcases hu with rfl | rfl | rfl | rfl | rfl <;> rfl
    have hszb : w2.heap.size ≤ w6.heap.size := Nat.le_trans L4.size HO6.out.2.size
    have HL4 := Lib.hid L4
    clear L4 S4
    refine sm_list [11, 13, 14] 80 6 hs hd (by kernel_rfl) (agC e11 (agC e13 (agC e14 agN))) rfl ?_
    simp only [seval]
    go_wp2_with (at_builtin; refine wpList_pushG 1 rfl (.tmp 3) (.tmp 7) 45 rfl styOUT (cs := #[.int .i64 e.p1, .int .i64 7, .bool false, .int .i64 0, .slice Ab (encF f).length cb]) rfl h1c rfl own0 rfl rfl (by omega) hszb ?_; intro v7 w7 own7 gr7 _; obtain ⟨A7, c7, rfl, _, _⟩ := ownsRow_reads own7; have HO7 := Lib.hid (And.intro own7 gr7); clear own7 gr7)
    intro a H; replace hs := H.s hs; replace hd := H.d rfl; replace e13 := H.g 13 rfl rfl; replace e14 := H.g 14 rfl rfl; replace e0 := H.k e0 rfl; replace e2 := H.k e2 rfl; replace e9 := H.k e9 rfl; replace e10 := H.k e10 rfl; replace e60 := H.k e60 rfl; replace e61 := H.k e61 rfl; replace e15 := H.k e15 rfl; replace e11 := H.g 11 rfl rfl; clear H; refine hKq13 _ _ ?_; clear hKq13 Kq13
    have f7 : FTy [49] w6 w7 := FTy.row own0 (by simp) HO7.out.2
    have b7 : Below w2.heap.size w6 w7 := (Below.refl _ _).grown HO7.out.2 hszb (fun k hk => (ownsRow_lt own0 k hk).1)
    have L7 : Below w2.heap.size w2 w7 := (HL4.out.trans (HO6.out.2.mono HL4.out.size)).trans b7
    have X7 : SdR w2.heap.size w7 e.p0 e.p1 (encF f) 2 (.slice A7 2 c7) := SdR.t HO7.out.1 (f7.own HR0.out (by decide)) (f7.own HO6.out.1 (by decide))
    clear e13; clear e14; clear e15
    refine sm_list [61] 86 1 hs hd (by kernel_rfl) (agC e61 agN) rfl ?_
    simp only [seval]
    go_wp2_with fail
    intro a H; replace hs := H.s hs; replace hd := H.d rfl; replace e0 := H.k e0 rfl; replace e2 := H.k e2 rfl; replace e9 := H.k e9 rfl; replace e10 := H.k e10 rfl; replace e60 := H.k e60 rfl; replace e11 := H.k e11 rfl; replace e61 := H.g 61 rfl rfl; clear H
    exact ⟨⟨2, _, by omega, L7, X7, hs, hd, e0, e2, e9, e10, e60, e11, e61⟩, by rw [HMD.out, slot e61]; decide⟩
  ·
    clear hm hi0 hi1
    refine sm_list [61] 62 1 hs hd (by kernel_rfl) (agC e61 agN) rfl ?_
    simp only [seval]
    go_wp2_with fail
    intro a H; replace hs := H.s hs; replace hd := H.d rfl; replace e61 := H.g 61 rfl rfl; replace e0 := H.k e0 rfl; replace e2 := H.k e2 rfl; replace e9 := H.k e9 rfl; replace e10 := H.k e10 rfl; replace e60 := H.k e60 rfl; replace e11 := H.k e11 rfl; have e62 := H.g 62 rfl rfl; clear H; refine hKq11 _ _ ?_; clear hKq11 Kq11; refine wp_seq_k fun Kq12 hKq12 => ?_
    refine wp_cond_false (slotE e62) ?_
    clear e62; refine wp_exit ?_; refine exit_then rfl ?_; clear hKq12 Kq12; refine exit_then rfl ?_; refine exit_hit ?_; refine hKq9 _ _ ?_; clear hKq9 Kq9; refine wp_seq_k fun Kq13 hKq13 => ?_
    refine sm_list [6, 7, 8, 10, 11] 87 2 hs hd (by kernel_rfl) (agU (agU (agU (agC e10 (agC e11 agN))))) rfl ?_
    simp only [seval]
    go_wp2_with fail
    intro a H; replace hs := H.s hs; replace hd := H.d rfl; replace e10 := H.g 10 rfl rfl; replace e11 := H.g 11 rfl rfl; replace e0 := H.k e0 rfl; replace e2 := H.k e2 rfl; replace e9 := H.k e9 rfl; replace e60 := H.k e60 rfl; replace e61 := H.k e61 rfl; have e6 := H.g 6 rfl rfl; have e7 := H.g 7 rfl rfl; have e8 := H.g 8 rfl rfl; clear H; refine hKq13 _ _ ?_; clear hKq13 Kq13; refine wp_ret ?_
    obtain ⟨b0, b1, own4, r04, r14⟩ : ∃ b0 b1, w4.ownsRow w2.heap.size 49 5 v 2 (outc e.p0 b0 ++ outc e.p1 b1) ∧ w4.ownsRow w2.heap.size 5 1 b0 (encF f).length (us (encF f)) ∧ w4.ownsRow w2.heap.size 5 1 b1 (encF f).length (us (encF f)) := by
        cases S4
        exact ⟨_, _, by assumption, by assumption, by assumption⟩
    have hz := HX2.out.2.1.size
    exact sm_ret3 rfl hd e6 e7 e8 ⟨v, b0, b1, rfl, ownsRow_base own4 hz, ownsRow_base r04 hz, ownsRow_base r14 hz, HX2.out.2.1.trans (FTy.be L4), HX2.out.1.kept L4, HF2.out.trans (Fr.be L4)⟩
end Go.Proofs.YthhlfojaloaooaaGreat
