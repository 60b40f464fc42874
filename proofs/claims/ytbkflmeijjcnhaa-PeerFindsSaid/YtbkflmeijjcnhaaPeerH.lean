/-
  Layer 17: a link that is measured: talk, and the document's example.
-/
import Derived.Test.YtbkflmeijjcnhaaPeerT
namespace Go.Proofs.Ytbkflmeijjcnhaa
set_option linter.unusedSimpArgs false
set_option linter.unusedVariables false
open Go.RowKit Go.WideShapes Go.ChangeShapes
attribute [local go_sem ↓] Go.wp_at_zero Go.wp_at_succ

def talkQ (p : Pe) (t0 t1 t3 : Int) : Pe := { askP p with sent := true, t1 := t0, half := true, t2 := t1, t4 := t3 }
def halfM (s t id port : Int) : Mg := ⟨3, 0, s, 9, 2, 0, t, id, port, 0, 0, 0, 0, 0, 0, []⟩
def moreM (s t id port : Int) : Mg := ⟨10, 0, s, 9, 2, 0, t, id, port, 0, 0, 0, 0, 0, 0, []⟩
theorem half_right (s t id port : Int) (hs : 0 ≤ s ∧ s < 65536) (hi : 0 ≤ id ∧ id < 281474976710656) (hp : 0 ≤ port ∧ port ≤ 65535) : checkV (halfM s t id port) = 0 := by
  refine check_zero.2 ⟨by simp [Known, halfM], ?_, ?_, fun _ => ⟨rfl, rfl, rfl, rfl, rfl, rfl⟩, by show (0 : Nat) ≤ 32; omega, rfl⟩
  · refine ⟨⟨rfl, ?_, ?_⟩, rfl, rfl⟩
    · show okN 65535 [s, 2, port] = true
      simp only [okN_cons, okN_nil, Bool.and_true, decide_eq_true_eq, Bool.and_eq_true]; omega
    · show okN ids [9, id] = true
      simp only [okN_cons, okN_nil, ids, Bool.and_true, decide_eq_true_eq, Bool.and_eq_true]; omega
  · exact ⟨fun h => absurd rfl h, fun _ => rfl⟩
theorem more_right (s t id port : Int) (hs : 0 ≤ s ∧ s < 65536) (hi : 0 ≤ id ∧ id < 281474976710656) (hp : 0 ≤ port ∧ port ≤ 65535) : checkV (moreM s t id port) = 0 := by
  refine check_zero.2 ⟨by simp [Known, moreM], ?_, ?_, fun _ => ⟨rfl, rfl, rfl, rfl, rfl, rfl⟩, by show (0 : Nat) ≤ 32; omega, rfl⟩
  · refine ⟨⟨rfl, ?_, ?_⟩, rfl, rfl⟩
    · show okN 65535 [s, 2, port] = true
      simp only [okN_cons, okN_nil, Bool.and_true, decide_eq_true_eq, Bool.and_eq_true]; omega
    · show okN ids [9, id] = true
      simp only [okN_cons, okN_nil, ids, Bool.and_true, decide_eq_true_eq, Bool.and_eq_true]; omega
  · exact ⟨fun _ h => absurd rfl h, fun _ => rfl⟩
theorem askP_cf (p : Pe) : (askP p).cf = p.cf := by unfold askP; show (if p.asked = true then failP p else p).cf = p.cf; split; exact failP_cf p; rfl
theorem askP_asked (p : Pe) : (askP p).asked = true := rfl
theorem askP_seq (p : Pe) : (askP p).seq = (p.seq + 1) % 65536 := rfl
theorem Mk.far {w w0 : World} {g : Nat} {A : Option Addr} {n c : Nat} {L : List (Int × Int)} (h : Mk w g A n c L) (h0 : Mk w0 g A n c L) {gb : Nat} (hb : w0.heap.size ≤ gb) (i : Nat) (u : Value) : Mk (w.setCell ⟨gb, i, none⟩ u) g A n c L :=
  ⟨h.len, h.cap, h.few, h.nil, fun hn => by
    obtain ⟨ad, e, h1, h2, h3⟩ := h.at_ hn
    obtain ⟨ad', e', _, h2', _⟩ := h0.at_ hn
    rw [e] at e'
    injection e' with e'
    subst e'
    refine ⟨ad, e, h1, by simpa [World.setCell] using h2, fun j v hj => (World.cell?_setCell_other _ _ _ _ ?_).trans (h3 j v hj)⟩
    intro hc
    have := congrArg Addr.block hc
    rw [block_of_add] at this
    have : gb = ad.block := by first | exact this | exact this.symm
    omega⟩
theorem gr_far {w w' : World} {r : Option Nat} (h : w.grownBy w' r) {gb : Nat} (hb : w.heap.size ≤ gb) (i : Nat) (u : Value) : w.grownBy (w'.setCell ⟨gb, i, none⟩ u) r :=
  ⟨h.os, h.tape, h.output, by simpa [World.setCell] using h.size, fun k hk hne => (Below.heap_setCell _ _ _ _ (fun e => by have : k = gb := e; omega)).trans (h.block k hk hne)⟩
/-- A link that may be asked over. -/
structure Pe.Wf (p : Pe) : Prop where
  right : p.cf.Right
  bad : 0 ≤ p.bad ∧ p.bad ≤ 100
  good : 0 ≤ p.good ∧ p.good ≤ 100
  seq : 0 ≤ p.seq ∧ p.seq < 65536
  half : p.asked = false → p.half = false
theorem failP_half (p : Pe) : (failP p).half = false := by unfold failP; split <;> rfl
theorem failP_good (p : Pe) : (failP p).good = 0 := by unfold failP; split <;> rfl
theorem askP_half {p : Pe} (h : p.Wf) : (askP p).half = false := by
  unfold askP
  show (if p.asked = true then failP p else p).half = false
  split
  · exact failP_half p
  · exact h.half (by rename_i ha; simpa using ha)
theorem askP_good {p : Pe} (h : p.Wf) : 0 ≤ (askP p).good ∧ (askP p).good ≤ 100 := by
  unfold askP
  show 0 ≤ (if p.asked = true then failP p else p).good ∧ (if p.asked = true then failP p else p).good ≤ 100
  split
  · rw [failP_good]; omega
  · exact h.good
set_option maxRecDepth 100000 in
set_option maxHeartbeats 8000000 in
theorem talk_any (p : Pe) (g : Nat) (t0 t1 t2 t3 : Int) (L N : List (Int × Int)) (n : Nat) (r d : Int) (w : World) (B : PeIn w g p) (M : Mk w g (askP p).mA (askP p).mn (askP p).mc L) (hp : p.Wf) (hr : Reckons (talkQ p t0 t1 t3) g t2 L n r d N) :
    Calls Try.prog 49 #[.pointer (some ⟨g, 0, none⟩), .agg #[.int .i64 t0, .int .i64 t1, .int .i64 t2, .int .i64 t3]] w fun e w' => e = .returned (.int .i64 0) ∧ ∃ A c, PeIn w' g (doneP (talkQ p t0 t1 t3) A n c r d) ∧ Mk w' g A n c N ∧ w.grownBy w' (some g) := by
  have hne : g < w.heap.size := B.lt
  have T0 := Blk.new w 82 #[.int .i64 t0, .int .i64 t1, .int .i64 t2, .int .i64 t3]
  have B0 : PeIn (w.alloc (.cells #[.int .i64 t0, .int .i64 t1, .int .i64 t2, .int .i64 t3] 82)) g p := B.alloc _
  have M0 := M.keep (gr_new (grownBy_refl w (some g)) (.cells #[.int .i64 t0, .int .i64 t1, .int .i64 t2, .int .i64 t3] 82))
  have G0 := gr_new (grownBy_refl w (some g)) (.cells #[.int .i64 t0, .int .i64 t1, .int .i64 t2, .int .i64 t3] 82)
  obtain ⟨q, hq⟩ : ∃ q, q = askP p := ⟨_, rfl⟩
  obtain ⟨s, hs⟩ : ∃ s, s = (p.seq + 1) % 65536 := ⟨_, rfl⟩
  have hs0 : 0 ≤ s ∧ s < 65536 := by omega
  have hqs : q.seq = s := by rw [hq, hs]; rfl
  have hqc : q.cf = p.cf := by rw [hq]; exact askP_cf p
  have hqa : q.asked = true := by rw [hq]; rfl
  have hqh : q.half = false := by rw [hq]; exact askP_half hp
  have hqg : 0 ≤ q.good ∧ q.good ≤ 100 := by rw [hq]; exact askP_good hp
  have hm : askM p = ⟨2, 0, s, p.cf.id, p.cf.port, 0, 0, 0, 0, 0, 0, 0, 0, 0, 0, []⟩ := by rw [hs]; rfl
  have HP := Lib.hid hp
  have HQ := Lib.hid (And.intro hqs (And.intro hqc (And.intro hqa (And.intro hqh (And.intro hqg hs0)))))
  have hy1 : Mine { q with sent := true, t1 := t0 } (halfM s t1 p.cf.id p.cf.port) := ⟨hqa, rfl, half_right _ _ _ _ hs0 hp.right.id hp.right.port, hqs.symm, by show p.cf.id = q.cf.id; rw [hqc], by show p.cf.port = q.cf.port; rw [hqc], rfl⟩
  have hy2 : Mine { q with sent := true, t1 := t0, half := true, t2 := t1, t4 := t3 } (moreM s t2 p.cf.id p.cf.port) := ⟨hqa, rfl, more_right _ _ _ _ hs0 hp.right.id hp.right.port, hqs.symm, by show p.cf.id = q.cf.id; rw [hqc], by show p.cf.port = q.cf.port; rw [hqc], rfl⟩
  have HY := Lib.hid (And.intro hy1 hy2)
  have HR := Lib.hid hr
  have HA := Lib.hid (fun W B => ask_any p g W B hp.bad hp.seq)
  have HM := Lib.hid hm
  have HE := Lib.hid hq
  clear hqs hqc hqa hqh hqg hs0 hm hp hq hs hr hy1 hy2 B M
  go_enter Try.func49, Try.ntmps49
  go_wp2_with fail
  refine (HA.out _ B0).mono ?_
  rintro e w1 ⟨rfl, B1, G1⟩
  rw [← HE.out] at B1 M0
  rw [HM.out]
  have T1 := T0.keep G1 (by omega)
  have M1 := M0.keep G1
  have GG1 := gr_trans G0 G1
  have z1 := GG1.size
  have lt1 : w.heap.size < w1.heap.size := T1.lt
  have A1 := Blk.new w1 33 (mcells ⟨2, 0, s, p.cf.id, p.cf.port, 0, 0, 0, 0, 0, 0, 0, 0, 0, 0, []⟩ none 0 0)
  have B2 := B1.alloc (.cells (mcells ⟨2, 0, s, p.cf.id, p.cf.port, 0, 0, 0, 0, 0, 0, 0, 0, 0, 0, []⟩ none 0 0) 33)
  have T2 := T1.alloc (.cells (mcells ⟨2, 0, s, p.cf.id, p.cf.port, 0, 0, 0, 0, 0, 0, 0, 0, 0, 0, []⟩ none 0 0) 33)
  have g2 := gr_new (grownBy_refl w1 (some g)) (.cells (mcells ⟨2, 0, s, p.cf.id, p.cf.port, 0, 0, 0, 0, 0, 0, 0, 0, 0, 0, []⟩ none 0 0) 33)
  have M2 := M1.keep g2
  have GG2 := gr_trans GG1 g2
  clear B0 M0 G0 T0 HA B1 T1 M1 GG1 g2 G1
  go_wp2_with (refine wpList_store_new rfl 33 (.tmp 5) (.tmp 12) rfl rfl rfl rfl rfl (by kernel_rfl) (by rw [← Array.all_toList]; rfl) ?_; generalize w1.alloc (.cells (mcells ⟨2, 0, s, p.cf.id, p.cf.port, 0, 0, 0, 0, 0, 0, 0, 0, 0, 0, []⟩ none 0 0) 33) = w2 at *; (have x2 := A1.cellOf (v := .int .i64 s) 2 rfl); (have u0 := T2.cellOf (v := .int .i64 t0) 0 rfl))
  have hsent : Calls Try.prog 45 #[.pointer (some ⟨g, 0, none⟩), .int .i64 s, .int .i64 t0] w2 fun e w' => e = .returned (.tuple #[]) ∧ PeIn w' g { q with sent := true, t1 := t0 } ∧ w2.grownBy w' (some g) := by
    have h := sent_yes q g t0 w2 B2 HQ.out.2.2.1
    rw [← HQ.out.1]
    exact h
  refine hsent.mono ?_
  rintro e w3 ⟨rfl, B3, G3⟩
  have T3 := T2.keep G3 (by omega)
  have A3 := A1.keep G3 (by omega)
  have M3 := M2.keep G3
  have GG3 := gr_trans GG2 G3
  have z3 := GG3.size
  have x2' := A3.cellOf (v := .int .i64 s) 2 rfl
  have x3 := A3.cellOf (v := .int .i64 p.cf.id) 3 rfl
  have x4 := A3.cellOf (v := .int .i64 p.cf.port) 4 rfl
  have u1 := T3.cellOf (v := .int .i64 t1) 1 rfl
  have lt3 : w1.heap.size < w3.heap.size := A3.lt
  have A4 := Blk.new w3 33 (mcells (halfM s t1 p.cf.id p.cf.port) none 0 0)
  have B4 := B3.alloc (.cells (mcells (halfM s t1 p.cf.id p.cf.port) none 0 0) 33)
  have T4 := T3.alloc (.cells (mcells (halfM s t1 p.cf.id p.cf.port) none 0 0) 33)
  have g4 := gr_new (grownBy_refl w3 (some g)) (.cells (mcells (halfM s t1 p.cf.id p.cf.port) none 0 0) 33)
  have M4 := M3.keep g4
  have GG4 := gr_trans GG3 g4
  have u3 := T4.cellOf (v := .int .i64 t3) 3 rfl
  clear hsent G3 B2 T2 A1 M2 GG2 x2 u0 A3 B3 T3 GG3 g4
  go_wp2_with (first | (refine wpList_load_row_g (by first | rfl | (go_simp; done)) 33 (.tmp 7) rfl w3.heap.size rfl 33 (mcells (halfM s t1 p.cf.id p.cf.port) none 0 0) (0, 0) _ A4 Try.underlying33 rfl (by kernel_rfl) ?_) | (refine wpList_store_new (cs := mcells (halfM s t1 p.cf.id p.cf.port) none 0 0) rfl 33 (.tmp 7) (.tmp 30) rfl rfl rfl rfl rfl (by kernel_rfl) (by rw [← Array.all_toList]; rfl) ?_; generalize w3.alloc (.cells (mcells (halfM s t1 p.cf.id p.cf.port) none 0 0) 33) = w4 at *))
  refine (in_half _ g (halfM s t1 p.cf.id p.cf.port) t3 _ B4 HY.out.1 rfl HQ.out.2.2.2.1).mono ?_
  rintro e w5 ⟨rfl, B5, G5⟩
  have A5 := A4.keep G5 (by omega)
  have T5 := T4.keep G5 (by omega)
  have M5 := M4.keep G5
  have GG5 := gr_trans GG4 G5
  have xx0 := A5.cellOf (v := .int .i64 3) 0 rfl
  have xx6 := A5.cellOf (v := .int .i64 t1) 6 rfl
  have u2 := T5.cellOf (v := .int .i64 t2) 2 rfl
  have fz := A5.frozen
  have A6 : Blk ((w5.setCell ⟨w3.heap.size, 0, none⟩ (.int .i64 10)).setCell ⟨w3.heap.size, 6, none⟩ (.int .i64 t2)) w3.heap.size 33 (mcells (moreM s t2 p.cf.id p.cf.port) none 0 0) := (A5.set_ 0 (.int .i64 10)).set_ 6 (.int .i64 t2)
  have B6 : PeIn ((w5.setCell ⟨w3.heap.size, 0, none⟩ (.int .i64 10)).setCell ⟨w3.heap.size, 6, none⟩ (.int .i64 t2)) g { q with sent := true, t1 := t0, half := true, t2 := t1, t4 := t3 } := (B5.far (p := ⟨w3.heap.size, 0, none⟩) (by show g ≠ w3.heap.size; omega) _).far (p := ⟨w3.heap.size, 6, none⟩) (by show g ≠ w3.heap.size; omega) _
  have M6 : Mk ((w5.setCell ⟨w3.heap.size, 0, none⟩ (.int .i64 10)).setCell ⟨w3.heap.size, 6, none⟩ (.int .i64 t2)) g q.mA q.mn q.mc L := (M5.far M3 (Nat.le_refl _) 0 _).far M3 (Nat.le_refl _) 6 _
  have GG6 : w.grownBy ((w5.setCell ⟨w3.heap.size, 0, none⟩ (.int .i64 10)).setCell ⟨w3.heap.size, 6, none⟩ (.int .i64 t2)) (some g) := gr_far (gr_far GG5 z3 0 _) z3 6 _
  have HB6 := Lib.hid (And.intro B6 (And.intro M6 GG6))
  clear G5 B4 T4 A4 M4 GG4 x2' x3 x4 u1 u3 B5 T5 A5 M5 GG5 M3 B6 M6 GG6
  go_wp2_with (refine wpList_load_row_g (by first | rfl | (go_simp; done)) 33 (.tmp 7) rfl w3.heap.size rfl 33 (mcells (moreM s t2 p.cf.id p.cf.port) none 0 0) (0, 0) _ A6 Try.underlying33 rfl (by kernel_rfl) ?_)
  clear xx0 xx6 u2 fz A6
  have hr := HR.out
  unfold talkQ at hr
  rw [← HE.out] at hr
  refine (in_last _ g (moreM s t2 p.cf.id p.cf.port) 0 L N n r d _ HB6.out.1 HB6.out.2.1 HY.out.2 rfl rfl HQ.out.2.2.2.2.1 hr).mono ?_
  rintro e w7 ⟨rfl, A, c, B7, M7, G7⟩
  have GG7 := gr_trans HB6.out.2.2 G7
  clear HB6 G7 hr
  go_wp2_with fail
  go_ret
  refine ⟨rfl, A, c, ?_, M7, GG7⟩
  unfold talkQ
  rw [← HE.out]
  exact B7
theorem conf0_right : conf0.Right := ⟨⟨by decide, by decide⟩, ⟨by decide, by decide⟩, ⟨by decide, by decide⟩, ⟨by decide, by decide⟩, ⟨by decide, by decide⟩, ⟨by decide, by decide⟩⟩
theorem peNew_wf {c : Cf} (h : c.Right) : (peNew c).Wf := ⟨h, ⟨by show (0 : Int) ≤ 0; omega, by show (0 : Int) ≤ 100; omega⟩, ⟨by show (0 : Int) ≤ 0; omega, by show (0 : Int) ≤ 100; omega⟩, ⟨by show (0 : Int) ≤ 0; omega, by show (0 : Int) < 65536; omega⟩, fun _ => rfl⟩
theorem doneP_wf {p : Pe} (h : p.Wf) (t0 t1 t3 : Int) (A : Option Addr) (n c : Nat) (r d : Int) : (doneP (talkQ p t0 t1 t3) A n c r d).Wf := by
  have hg := askP_good h
  refine ⟨by show (askP p).cf.Right; rw [askP_cf]; exact h.right, ⟨by show (0 : Int) ≤ 0; omega, by show (0 : Int) ≤ 100; omega⟩, ?_, ?_, fun _ => rfl⟩
  · show 0 ≤ min ((askP p).good + 1) 100 ∧ min ((askP p).good + 1) 100 ≤ 100
    omega
  · show 0 ≤ (askP p).seq ∧ (askP p).seq < 65536
    rw [askP_seq]
    omega
/-- The two answers of the document's example, of any link with a window of four and its slack. -/
structure Ex (c : Cf) : Prop where
  right : c.Right
  most : c.most = 1099511627776
  slack : c.slack = 1048576
  window : c.window = 4
def exQ (c : Cf) : Pe := talkQ (peNew c) 65536000 327680000 157286400
def ex1 (c : Cf) (A : Option Addr) (k : Nat) : Pe := doneP (exQ c) A 1 k 2199023255552 0
def ex2 (c : Cf) (A A' : Option Addr) (k k' : Nat) : Pe := doneP (talkQ (ex1 c A k) 720896000 983040000 812646400) A' 2 k' 2199023255552 13107200
def exL1 : List (Int × Int) := [(393216000, 157286400)]
def exL2 : List (Int × Int) := [(393216000, 157286400), (1048576000, 812646400)]
theorem ex_first {c : Cf} (h : Ex c) (g : Nat) (w : World) (B : PeIn w g (peNew c)) : Calls Try.prog 49 #[.pointer (some ⟨g, 0, none⟩), .agg #[.int .i64 65536000, .int .i64 327680000, .int .i64 393216000, .int .i64 157286400]] w fun e w' => e = .returned (.int .i64 0) ∧ ∃ A k, PeIn w' g (ex1 c A k) ∧ Mk w' g A 1 k exL1 ∧ w.grownBy w' (some g) :=
  talk_any (peNew c) g 65536000 327680000 393216000 157286400 [] exL1 1 2199023255552 0 w B (Mk.none_ w g) (peNew_wf h.right) (Reckons.first (p := talkQ (peNew c) 65536000 327680000 157286400) rfl (by show 1 ≤ c.window ∧ c.window ≤ 32; rw [h.window]; decide))
theorem ex_rk {c : Cf} (h : Ex c) (A : Option Addr) (k : Nat) : Rk (talkQ (ex1 c A k) 720896000 983040000 812646400) 1048576000 393216000 157286400 2199023255552 26214400 := by
  refine ⟨⟨655360000, 655360000, 91750400, 65536000, 2199023255552, 65536000, ?_, ?_, ?_, by decide, by decide, ?_, ?_, ?_, ?_, ?_, by decide, by decide, by decide, by decide, by decide, by decide⟩, ?_, ?_, ?_, ?_, by decide, (by decide : I64 1048576000 ∧ I64 393216000 ∧ I64 157286400 ∧ I64 812646400 ∧ I64 720896000 ∧ I64 983040000)⟩
  · decide
  · exact (by decide : subV 812646400 157286400 = (655360000, 0))
  · decide +kernel
  · exact (by decide : subV 812646400 720896000 = (91750400, 0))
  · exact (by decide : subV 1048576000 983040000 = (65536000, 0))
  · decide +kernel
  · decide +kernel
  · decide
  · unfold Rg; omega
  · show -c.slack ≤ 26214400
    rw [h.slack]; decide
  · show _ ≤ c.most
    rw [h.most]; decide
  · show 0 ≤ c.slack ∧ c.slack ≤ _
    rw [h.slack]; decide
theorem ex_second {c : Cf} (h : Ex c) (A : Option Addr) (k : Nat) (g : Nat) (w : World) (B : PeIn w g (ex1 c A k)) (M : Mk w g A 1 k exL1) : Calls Try.prog 49 #[.pointer (some ⟨g, 0, none⟩), .agg #[.int .i64 720896000, .int .i64 983040000, .int .i64 1048576000, .int .i64 812646400]] w fun e w' => e = .returned (.int .i64 0) ∧ ∃ A' k', PeIn w' g (ex2 c A A' k k') ∧ Mk w' g A' 2 k' exL2 ∧ w.grownBy w' (some g) :=
  talk_any (ex1 c A k) g 720896000 983040000 1048576000 812646400 exL1 exL2 2 2199023255552 13107200 w B M (doneP_wf (peNew_wf h.right) _ _ _ _ _ _ _ _) (Reckons.more (p := talkQ (ex1 c A k) 720896000 983040000 812646400) (r := 2199023255552) (tw := 26214400) (T := []) (by show ((1 : Nat) : Int) ≤ c.window ∧ c.window ≤ 32; rw [h.window]; decide) (ex_rk h A k))
theorem ex_conf : Ex conf0 := ⟨conf0_right, rfl, rfl, rfl⟩
set_option maxRecDepth 100000 in
set_option maxHeartbeats 8000000 in
theorem head17 (w : World) : Calls Try.prog 41 #[] w fun e w' => e = .returned (.bool true) ∧ Below w.heap.size w w' := by
  go_enter Try.func41, Try.ntmps41
  go_wp2_with fail
  refine (conf_any w).mono ?_
  rintro e w1 ⟨rfl, L1⟩
  go_wp2_with fail
  refine (penew_ok conf0 conf0_right w1).mono ?_
  rintro e w2 ⟨g, rfl, B2, hg, L2⟩
  have L := L1.trans (L2.mono L1.size)
  have hgw : w.heap.size ≤ g := Nat.le_trans L1.size hg
  clear L1 L2 hg
  go_wp2_with fail
  refine (ex_first ex_conf g w2 B2).mono ?_
  rintro e w3 ⟨rfl, A, k, B3, M3, G3⟩
  have L3 := L.trans (below_one G3 L.size hgw)
  clear B2 G3 L
  go_wp2_with fail
  refine (able_any _ g w3 B3).mono ?_
  rintro e w4 ⟨rfl, B4, L4⟩
  have M4 := M3.kept L4
  have L' := L3.trans (L4.mono L3.size)
  clear B3 M3 L3 L4
  rw [show ableV (ex1 conf0 A k) = false from rfl]
  go_wp2_with fail
  refine (ex_second ex_conf A k g w4 B4 M4).mono ?_
  rintro e w5 ⟨rfl, A', k', B5, M5, G5⟩
  have L5 := L'.trans (below_one G5 L'.size hgw)
  clear B4 M4 G5 L'
  go_wp2_with fail
  refine (delay_run _ g w5 B5).mono ?_
  rintro e w6 ⟨rfl, rfl⟩
  rw [show (ex2 conf0 A A' k k').delay = 13107200 from rfl]
  go_wp2_with fail
  refine (perate_run _ g w5 B5).mono ?_
  rintro e w6 ⟨rfl, rfl⟩
  rw [show (ex2 conf0 A A' k k').rate = 2199023255552 from rfl]
  go_wp2_with fail
  refine (able_any _ g w5 B5).mono ?_
  rintro e w6 ⟨rfl, B6, L6⟩
  have L7 := L5.trans (L6.mono L5.size)
  rw [show ableV (ex2 conf0 A A' k k') = true from rfl]
  clear B5 M5 B6 L5 L6
  go_wp2_with fail
  go_ret
  exact ⟨rfl, L7⟩
theorem own : ownKnob Try.prog.godebug = none := by kernel_rfl
theorem laidOut : laidOutB Try.prog = true := by kernel_rfl
end Go.Proofs.Ytbkflmeijjcnhaa
