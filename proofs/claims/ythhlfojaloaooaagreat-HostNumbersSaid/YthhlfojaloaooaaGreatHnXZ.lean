/-
  host: a new one.
-/
import Derived.Test.YthhlfojaloaooaaGreatRows
import Derived.Test.YthhlfojaloaooaaGreatHnWZ
import Derived.WalkKit
import Derived.ProofKit
import Derived.OpenShut
import Derived.LoopTactic
import Derived.WalkLawsBesides
import Derived.WalkSpells
import Derived.Outline
import Derived.Lib.Hide
import Derived.Deep.DrawnRows
import Derived.Laws.CopyOwn
import Derived.MapKept
namespace Go.Proofs.YthhlfojaloaooaaGreat
set_option linter.unusedSimpArgs false
set_option linter.unusedVariables false
open Go.RowKit Go.WideShapes Go.ChangeShapes
attribute [local go_sem ↓] Go.wp_at_zero Go.wp_at_succ

theorem ed_sub10 {e : Ed} : ∀ j v, (#[.int .i64 e.p0, .int .i64 e.p1] : Array Value).toList[j]? = some v → (#[.int .i64 e.vid, .int .u8 e.m0, .int .u8 e.m1, .int .u8 e.m2, .int .u8 e.m3, .int .u8 e.m4, .int .u8 e.m5, .int .i64 e.fi, .int .i64 e.fo, .int .i64 e.fm, .int .i64 e.p0, .int .i64 e.p1, .bool e.talk] : Array Value)[10 + j]? = some v
  | 0, v, h => h
  | 1, v, h => h
  | n + 2, v, h => by simp at h
/-- The first d ports of an end are there. -/
def PortsOk (d : Nat) (P : Int) (e : Ed) : Prop := (0 < d → 0 ≤ e.p0 ∧ e.p0 < P) ∧ (1 < d → 0 ≤ e.p1 ∧ e.p1 < P)
theorem hoV_many {id P r : Int} {es : List Ed} (h : 64 < es.length ∨ r < 1 ∨ 1099511627776 < r) : hoV id P r es = 1 := if_pos h
theorem hoV_end {id P r : Int} {es : List Ed} (h : ¬ (64 < es.length ∨ r < 1 ∨ 1099511627776 < r)) {k : Int} (h1 : endsErr P es = k) (hk : k ≠ 0) : hoV id P r es = k := by
  unfold hoV; rw [if_neg h, if_neg (by rw [h1]; exact hk), h1]
theorem hoV_ok {id P r : Int} {es : List Ed} (h : ¬ (64 < es.length ∨ r < 1 ∨ 1099511627776 < r)) (h1 : endsErr P es = 0) : hoV id P r es = ckB id P := by
  unfold hoV; rw [if_neg h, if_pos h1]
theorem endErr_p0 {P : Int} {e : Ed} (h : e.p0 < 0 ∨ P ≤ e.p0) : endErr P e = 40 := if_pos h
theorem endErr_p1 {P : Int} {e : Ed} (h : e.p1 < 0 ∨ P ≤ e.p1) : endErr P e = 40 := by unfold endErr; split <;> first | rfl | rw [if_pos h]
theorem endErr_arg {P : Int} {e : Ed} (h : PortsOk 2 P e) (h1 : e.p0 = e.p1 ∨ e.vid < 2 ∨ 4094 < e.vid) : endErr P e = 1 := by
  have h2 := h.1 (by omega)
  have h3 := h.2 (by omega)
  unfold endErr; rw [if_neg (by omega), if_neg (by omega), if_pos h1]
theorem endErr_ok {P : Int} {e : Ed} (h : PortsOk 2 P e) (h1 : ¬ (e.p0 = e.p1 ∨ e.vid < 2 ∨ 4094 < e.vid)) : endErr P e = 0 := by
  have h2 := h.1 (by omega)
  have h3 := h.2 (by omega)
  unfold endErr; rw [if_neg (by omega), if_neg (by omega), if_neg h1]
theorem endsErr_cons {P : Int} {e : Ed} {es : List Ed} {j : Nat} (he : es[j]? = some e) : endsErr P (es.drop j) = if endErr P e = 0 then endsErr P (es.drop (j + 1)) else endErr P e := by
  obtain ⟨h1, h2⟩ := List.getElem?_eq_some_iff.1 he
  rw [List.drop_eq_getElem_cons h1, h2]
  rfl
theorem endsErr_bad {P : Int} {e : Ed} {es : List Ed} {j : Nat} {k : Int} (he : es[j]? = some e) (h : endErr P e = k) (hk : k ≠ 0) : endsErr P (es.drop j) = k := by
  rw [endsErr_cons he, h, if_neg hk]
theorem endsErr_on {P : Int} {e : Ed} {es : List Ed} {j : Nat} (he : es[j]? = some e) (h : endErr P e = 0) : endsErr P (es.drop j) = endsErr P (es.drop (j + 1)) := by
  rw [endsErr_cons he, if_pos h]
theorem madeG (n : Nat) : madeCells #[.int .i64 0] n = gensA (List.replicate n 0) := by
  unfold madeCells gensA
  apply Array.ext
  · simp
  · intro i h1 h2
    simp [Nat.mod_one]
theorem HoX_new {w w8 : World} {gb : Nat} {ve : Value} {hg : Nat} {id P r : Int} {es : List Ed} (hgh : w.heap.size ≤ hg) (L : Below w.heap.size w w8) (br : BrAt w8 gb P) (own : w8.ownsRow w.heap.size 32 13 ve es.length (es.flatMap Ed.cells)) (B : Blk w8 hg 87 (madeCells #[.int .i64 0] es.length)) :
    HoX w (w8.alloc (.cells #[.pointer (some ⟨gb, 0, none⟩), .int .i64 id, ve, .slice (some ⟨hg, 0, none⟩) es.length es.length, .slice none 0 0, .int .i64 0, .int .i64 0] 77)) w8.heap.size gb ve hg (.slice none 0 0) [] id P r es := by
  have ha := (Below.refl w8.heap.size w8).alloc (Nat.le_refl _) (.cells #[.pointer (some ⟨gb, 0, none⟩), .int .i64 id, ve, .slice (some ⟨hg, 0, none⟩) es.length es.length, .slice none 0 0, .int .i64 0, .int .i64 0] 77)
  have hbox := Blk.new w8 77 #[.pointer (some ⟨gb, 0, none⟩), .int .i64 id, ve, .slice (some ⟨hg, 0, none⟩) es.length es.length, .slice none 0 0, .int .i64 0, .int .i64 0]
  refine ⟨L.trans (ha.mono L.size), ⟨?_, br.kept ha, own_kept own (gr_below ha none) (fun k _ => by simp), ?_, by simp, ownsRow_nil _ _ _ _⟩, fun b hb => by simp at hb, L.size, hgh, fun b hb => by simp at hb⟩
  · rw [List.length_replicate]; exact hbox
  · rw [← madeG]; exact B.kept ha
set_option maxRecDepth 100000 in
set_option maxHeartbeats 4000000 in
theorem hoNew_relay (id P r : Int) (v : Value) (w : World) : Calls Tryz.prog 7 #[.agg #[.int .i64 id, .int .i64 P, .bool true, .int .i64 0, .int .i64 0, .int .i64 0, .int .i64 id, .int .i64 0, .int .i64 0, .int .i64 0, .int .i64 id, .int .i64 1000000, .slice none 0 0], v, .int .i64 r] w fun e w' => Below w.heap.size w w' ∧ e = .returned (.tuple #[.pointer none, .int .i64 1]) := by
  refine calls_sm (N := 112) Tryz.func7 rfl (by kernel_rfl) ?_
  intro a hs hd ha
  have e0 : a.tmps[0]? = some (.agg #[.int .i64 id, .int .i64 P, .bool true, .int .i64 0, .int .i64 0, .int .i64 0, .int .i64 id, .int .i64 0, .int .i64 0, .int .i64 0, .int .i64 id, .int .i64 1000000, .slice none 0 0]) := ha 0 _ rfl
  have e1 : a.tmps[1]? = some (v) := ha 1 _ rfl
  have e2 : a.tmps[2]? = some (.int .i64 r) := ha 2 _ rfl
  clear ha
  conv => arg 2; whnf
  refine wp_seq_k fun Kq1 hKq1 => ?_
  refine sm_list [0, 3] 6 2 hs hd (by kernel_rfl) (agC e0 (agU agN)) rfl ?_
  simp only [seval]
  go_wp2_with fail
  intro a H; replace hs := H.s hs; replace hd := H.d rfl; replace e0 := H.g 0 rfl rfl; replace e1 := H.k e1 rfl; replace e2 := H.k e2 rfl; have e3 := H.g 3 rfl rfl; have e6 := H.g 6 rfl rfl; have e7 := H.g 7 rfl rfl; clear H; refine hKq1 _ _ ?_; clear hKq1 Kq1; refine wp_seq_k fun Kq2 hKq2 => ?_; refine wp_seq_k fun Kq3 hKq3 => ?_
  have B := Blk.new w 42 #[.int .i64 id, .int .i64 P, .bool true, .int .i64 0, .int .i64 0, .int .i64 0, .int .i64 id, .int .i64 0, .int .i64 0, .int .i64 0, .int .i64 id, .int .i64 1000000, .slice none 0 0]
  have L1 := (Below.refl w.heap.size w).alloc (Nat.le_refl _) (.cells #[.int .i64 id, .int .i64 P, .bool true, .int .i64 0, .int .i64 0, .int .i64 0, .int .i64 id, .int .i64 0, .int .i64 0, .int .i64 0, .int .i64 id, .int .i64 1000000, .slice none 0 0] 42)
  generalize hw1 : w.alloc (.cells #[.int .i64 id, .int .i64 P, .bool true, .int .i64 0, .int .i64 0, .int .i64 0, .int .i64 id, .int .i64 0, .int .i64 0, .int .i64 0, .int .i64 id, .int .i64 1000000, .slice none 0 0] 42) = w1 at B L1 ⊢
  obtain ⟨q, hq⟩ : ∃ q, q = w.heap.size := ⟨_, rfl⟩
  rw [← hq] at B e3
  clear hw1 hq
  have q2 := B.cellOf (v := .bool true) 2 rfl
  refine sm_list [1, 2, 3] 17 15 hs hd (by kernel_rfl) (agC e1 (agC e2 (agC e3 agN))) rfl ?_
  simp only [seval]
  go_wp2_with fail
  intro a H; replace hs := H.s hs; replace hd := H.d rfl; replace e1 := H.g 1 rfl rfl; replace e2 := H.g 2 rfl rfl; replace e3 := H.g 3 rfl rfl; replace e0 := H.k e0 rfl; replace e6 := H.k e6 rfl; replace e7 := H.k e7 rfl; have e31 := H.g 31 rfl rfl; clear H; refine hKq3 _ _ ?_; clear hKq3 Kq3
  refine wp_cond_true (slotE e31) ?_
  clear e31; refine wp_seq_k fun Kq4 hKq4 => ?_
  refine sm_list [] 6 2 hs hd (by kernel_rfl) agN rfl ?_
  simp only [seval]
  go_wp2_with fail
  intro a H; replace hs := H.s hs; replace hd := H.d rfl; replace e0 := H.k e0 rfl; replace e1 := H.k e1 rfl; replace e2 := H.k e2 rfl; replace e3 := H.k e3 rfl; replace e6 := H.g 6 rfl rfl; replace e7 := H.g 7 rfl rfl; clear H; refine hKq4 _ _ ?_; clear hKq4 Kq4; refine wp_ret ?_; refine exit_then rfl ?_
  exact sm_ret2 rfl hd e6 e7 ⟨L1, rfl⟩
set_option maxRecDepth 100000 in
set_option maxHeartbeats 4000000 in
theorem hoNew_any (id P r : Int) (es : List Ed) (A : Option Addr) (n c : Nat) (w : World) (hl : es.length = n) (hr : Reads w w.heap.size 13 A n (es.flatMap Ed.cells)) : Calls Tryz.prog 7 #[.agg (cfc id P), .slice A n c, .int .i64 r] w fun e w' => Below w.heap.size w w' ∧ ((hoV id P r es ≠ 0 ∧ e = .returned (.tuple #[.pointer none, .int .i64 (hoV id P r es)])) ∨ (hoV id P r es = 0 ∧ ∃ g gb ve hg vm ms, e = .returned (.tuple #[.pointer (some ⟨g, 0, none⟩), .int .i64 0]) ∧ ms.length = es.length ∧ HoX w w' g gb ve hg vm ms id P r es)) := by
  obtain ⟨V, hV⟩ : ∃ V, V = hoV id P r es := ⟨_, rfl⟩
  rw [← hV]
  have HV := Lib.hid (And.intro hV hl)
  have HR := Lib.hid hr
  clear hV hl hr
  refine calls_sm (N := 112) Tryz.func7 rfl (by kernel_rfl) ?_
  intro a hs hd ha
  have e0 : a.tmps[0]? = some (.agg (cfc id P)) := ha 0 _ rfl
  have e1 : a.tmps[1]? = some (.slice A n c) := ha 1 _ rfl
  have e2 : a.tmps[2]? = some (.int .i64 r) := ha 2 _ rfl
  clear ha
  conv => arg 2; whnf
  refine wp_seq_k fun Kq1 hKq1 => ?_
  refine sm_list [0, 3] 6 2 hs hd (by kernel_rfl) (agC e0 (agU agN)) rfl ?_
  simp only [seval]
  go_wp2_with fail
  intro a H; replace hs := H.s hs; replace hd := H.d rfl; replace e0 := H.g 0 rfl rfl; replace e1 := H.k e1 rfl; replace e2 := H.k e2 rfl; have e3 := H.g 3 rfl rfl; have e6 := H.g 6 rfl rfl; have e7 := H.g 7 rfl rfl; clear H; refine hKq1 _ _ ?_; clear hKq1 Kq1; refine wp_seq_k fun Kq2 hKq2 => ?_; refine wp_seq_k fun Kq3 hKq3 => ?_
  have B := Blk.new w 42 (cfc id P)
  have L1 := (Below.refl w.heap.size w).alloc (Nat.le_refl _) (.cells (cfc id P) 42)
  generalize hw1 : w.alloc (.cells (cfc id P) 42) = w1 at B L1 ⊢
  obtain ⟨q, hq⟩ : ∃ q, q = w.heap.size := ⟨_, rfl⟩
  have hqw : w.heap.size ≤ q := by omega
  rw [← hq] at B e3
  clear hw1 hq
  have q2 := B.cellOf (v := .bool false) 2 rfl
  have HB := Lib.hid (And.intro B L1)
  clear B L1
  by_cases hc0 : 64 < n
  ·
    have hK : V = 1 := by rw [HV.out.1]; exact hoV_many (by rw [HV.out.2]; omega)
    have HK := Lib.hid hK
    clear hK
    have d1 : decide (64 < n) = true := decide_eq_true hc0
    have d1b : (64 : Int) < (n : Int) := by omega
    refine sm_list [1, 2, 3] 17 15 hs hd (by kernel_rfl) (agC e1 (agC e2 (agC e3 agN))) rfl ?_
    simp only [seval]
    go_wp2_with fail
    intro a H; replace hs := H.s hs; replace hd := H.d rfl; replace e1 := H.g 1 rfl rfl; replace e2 := H.g 2 rfl rfl; replace e3 := H.g 3 rfl rfl; replace e0 := H.k e0 rfl; replace e6 := H.k e6 rfl; replace e7 := H.k e7 rfl; have e31 := H.g 31 rfl rfl; clear H; refine hKq3 _ _ ?_; clear hKq3 Kq3
    refine wp_cond_true (slotE e31) ?_
    clear e31; refine wp_seq_k fun Kq4 hKq4 => ?_
    refine sm_list [] 6 2 hs hd (by kernel_rfl) agN rfl ?_
    simp only [seval]
    go_wp2_with fail
    intro a H; replace hs := H.s hs; replace hd := H.d rfl; replace e0 := H.k e0 rfl; replace e1 := H.k e1 rfl; replace e2 := H.k e2 rfl; replace e3 := H.k e3 rfl; replace e6 := H.g 6 rfl rfl; replace e7 := H.g 7 rfl rfl; clear H; refine hKq4 _ _ ?_; clear hKq4 Kq4; refine wp_ret ?_; refine exit_then rfl ?_
    exact sm_ret2 rfl hd e6 e7 ⟨HB.out.2, .inl ⟨by rw [HK.out]; decide, by rw [HK.out]⟩⟩
  have dc0 : decide (64 < n) = false := decide_eq_false hc0
  have dc0b : decide ((64 : Int) < (n : Int)) = false := decide_eq_false (by omega)
  by_cases hc1 : r < 1
  ·
    have hK : V = 1 := by rw [HV.out.1]; exact hoV_many (by rw [HV.out.2]; omega)
    have HK := Lib.hid hK
    clear hK
    have d2 : decide (r < 1) = true := decide_eq_true hc1
    refine sm_list [1, 2, 3] 17 15 hs hd (by kernel_rfl) (agC e1 (agC e2 (agC e3 agN))) rfl ?_
    simp only [seval]
    go_wp2_with fail
    intro a H; replace hs := H.s hs; replace hd := H.d rfl; replace e1 := H.g 1 rfl rfl; replace e2 := H.g 2 rfl rfl; replace e3 := H.g 3 rfl rfl; replace e0 := H.k e0 rfl; replace e6 := H.k e6 rfl; replace e7 := H.k e7 rfl; have e31 := H.g 31 rfl rfl; clear H; refine hKq3 _ _ ?_; clear hKq3 Kq3
    refine wp_cond_true (slotE e31) ?_
    clear e31; refine wp_seq_k fun Kq4 hKq4 => ?_
    refine sm_list [] 6 2 hs hd (by kernel_rfl) agN rfl ?_
    simp only [seval]
    go_wp2_with fail
    intro a H; replace hs := H.s hs; replace hd := H.d rfl; replace e0 := H.k e0 rfl; replace e1 := H.k e1 rfl; replace e2 := H.k e2 rfl; replace e3 := H.k e3 rfl; replace e6 := H.g 6 rfl rfl; replace e7 := H.g 7 rfl rfl; clear H; refine hKq4 _ _ ?_; clear hKq4 Kq4; refine wp_ret ?_; refine exit_then rfl ?_
    exact sm_ret2 rfl hd e6 e7 ⟨HB.out.2, .inl ⟨by rw [HK.out]; decide, by rw [HK.out]⟩⟩
  have dc1 : decide (r < 1) = false := decide_eq_false hc1
  by_cases hc2 : 1099511627776 < r
  ·
    have hK : V = 1 := by rw [HV.out.1]; exact hoV_many (by rw [HV.out.2]; omega)
    have HK := Lib.hid hK
    clear hK
    have d3 : decide (1099511627776 < r) = true := decide_eq_true hc2
    refine sm_list [1, 2, 3] 17 15 hs hd (by kernel_rfl) (agC e1 (agC e2 (agC e3 agN))) rfl ?_
    simp only [seval]
    go_wp2_with fail
    intro a H; replace hs := H.s hs; replace hd := H.d rfl; replace e1 := H.g 1 rfl rfl; replace e2 := H.g 2 rfl rfl; replace e3 := H.g 3 rfl rfl; replace e0 := H.k e0 rfl; replace e6 := H.k e6 rfl; replace e7 := H.k e7 rfl; have e31 := H.g 31 rfl rfl; clear H; refine hKq3 _ _ ?_; clear hKq3 Kq3
    refine wp_cond_true (slotE e31) ?_
    clear e31; refine wp_seq_k fun Kq4 hKq4 => ?_
    refine sm_list [] 6 2 hs hd (by kernel_rfl) agN rfl ?_
    simp only [seval]
    go_wp2_with fail
    intro a H; replace hs := H.s hs; replace hd := H.d rfl; replace e0 := H.k e0 rfl; replace e1 := H.k e1 rfl; replace e2 := H.k e2 rfl; replace e3 := H.k e3 rfl; replace e6 := H.g 6 rfl rfl; replace e7 := H.g 7 rfl rfl; clear H; refine hKq4 _ _ ?_; clear hKq4 Kq4; refine wp_ret ?_; refine exit_then rfl ?_
    exact sm_ret2 rfl hd e6 e7 ⟨HB.out.2, .inl ⟨by rw [HK.out]; decide, by rw [HK.out]⟩⟩
  have dc2 : decide (1099511627776 < r) = false := decide_eq_false hc2
  have HG : Hid (¬ (64 < es.length ∨ r < 1 ∨ 1099511627776 < r)) := Lib.hid (by rw [HV.out.2]; omega)
  have HN := Lib.hid (And.intro (show n ≤ 64 by omega) (show 1 ≤ r ∧ r ≤ 1099511627776 by omega))
  clear hc0 hc1 hc2
  refine sm_list [1, 2, 3] 17 15 hs hd (by kernel_rfl) (agC e1 (agC e2 (agC e3 agN))) rfl ?_
  simp only [seval]
  go_wp2_with fail
  intro a H; replace hs := H.s hs; replace hd := H.d rfl; replace e1 := H.g 1 rfl rfl; replace e2 := H.g 2 rfl rfl; replace e3 := H.g 3 rfl rfl; replace e0 := H.k e0 rfl; replace e6 := H.k e6 rfl; replace e7 := H.k e7 rfl; have e31 := H.g 31 rfl rfl; clear H; refine hKq3 _ _ ?_; clear hKq3 Kq3
  refine wp_cond_false (slotE e31) ?_
  clear e31; refine wp_skip ?_; refine hKq2 _ _ ?_; clear hKq2 Kq2; refine wp_seq_k fun Kq4 hKq4 => ?_; refine wp_seq_k fun Kq5 hKq5 => ?_; clear dc0 dc0b dc1 dc2 q2; clear e0
  refine sm_list [1] 32 3 hs hd (by kernel_rfl) (agC e1 agN) rfl ?_
  simp only [seval]
  go_wp2_with fail
  intro a H; replace hs := H.s hs; replace hd := H.d rfl; replace e1 := H.g 1 rfl rfl; replace e2 := H.k e2 rfl; replace e3 := H.k e3 rfl; replace e6 := H.k e6 rfl; replace e7 := H.k e7 rfl; have e32 := H.g 32 rfl rfl; have e33 := H.g 33 rfl rfl; have e34 := H.g 34 rfl rfl; clear H; refine hKq5 _ _ ?_; clear hKq5 Kq5; refine wp_block ?_
  refine wp_loop (fun a w' => ∃ (j : Nat), j ≤ n ∧ Below w.heap.size w w' ∧ Blk w' q 42 (cfc id P) ∧ endsErr P es = endsErr P (es.drop j) ∧ a.tmps.size = 112 ∧ a.defers = [] ∧ a.tmps[1]? = some (.slice A n c) ∧ a.tmps[2]? = some (.int .i64 r) ∧ a.tmps[3]? = some (.pointer (some ⟨q, 0, none⟩)) ∧ a.tmps[32]? = some (.slice A n c) ∧ a.tmps[33]? = some (.int .i64 (n : Int)) ∧ a.tmps[34]? = some (.int .i64 (j : Int))) (fun a _ => n - (intOf (a.tmps.getD 34 undef)).toNat) ?_ ?_
  · exact ⟨0, by omega, HB.out.2, HB.out.1, by rw [List.drop_zero], hs, hd, e1, e2, e3, e32, e33, e34⟩
  clear e1 e2 e3 e6 e7 e32 e33 e34 hs hd a HB
  rintro a w4 ⟨j, hj, L4, B4, hE, hs, hd, e1, e2, e3, e32, e33, e34⟩
  have hm := slot e34
  have HE := Lib.hid hE
  have HB := Lib.hid (And.intro B4 L4)
  clear hE B4 L4; refine wp_seq_k fun Kq6 hKq6 => ?_
  by_cases hlt3 : j < n
  ·
    have dj : decide ((j : Int) < (n : Int)) = true := decide_eq_true (by omega)
    have j1 : (j : Int) < (n : Int) := by omega
    have HM := Lib.hid hm
    clear hm hj
    refine sm_list [33, 34] 35 1 hs hd (by kernel_rfl) (agC e33 (agC e34 agN)) rfl ?_
    simp only [seval]
    go_wp2_with fail
    intro a H; replace hs := H.s hs; replace hd := H.d rfl; replace e33 := H.g 33 rfl rfl; replace e34 := H.g 34 rfl rfl; replace e1 := H.k e1 rfl; replace e2 := H.k e2 rfl; replace e3 := H.k e3 rfl; replace e32 := H.k e32 rfl; have e35 := H.g 35 rfl rfl; clear H; refine hKq6 _ _ ?_; clear hKq6 Kq6; refine wp_seq_k fun Kq7 hKq7 => ?_
    refine wp_cond_true (slotE e35) ?_
    clear e35; refine wp_skip ?_; refine hKq7 _ _ ?_; clear hKq7 Kq7; refine wp_seq_k fun Kq8 hKq8 => ?_; refine wp_block ?_; refine wp_seq_k fun Kq9 hKq9 => ?_; clear dj
    obtain ⟨e, he⟩ : ∃ e, es[j]? = some e := ⟨es[j]'(by rw [HV.out.2]; exact hlt3), List.getElem?_eq_getElem _⟩
    obtain ⟨ad, rfl, _, hc⟩ := reads_el Ed.len (HR.out.below HB.out.2) he hlt3
    have HEJ := Lib.hid he
    have HC := Lib.hid hc
    clear he hc
    refine sm_list [9, 32, 34] 36 2 hs hd (by kernel_rfl) (agU (agC e32 (agC e34 agN))) rfl ?_
    simp only [seval]
    go_wp2_with (first | (refine wpList_load_any_d rfl 32 (.tmp 3) rfl (ad.add (j * 13)) rfl #[.int .i64 e.vid, .int .u8 e.m0, .int .u8 e.m1, .int .u8 e.m2, .int .u8 e.m3, .int .u8 e.m4, .int .u8 e.m5, .int .i64 e.fi, .int .i64 e.fo, .int .i64 e.fm, .int .i64 e.p0, .int .i64 e.p1, .bool e.talk] _ HC.out Tryz.underlying32 rfl (by kernel_rfl) ?_) | (refine wpList_store_new rfl 32 (.tmp 0) (.tmp 4) rfl rfl rfl rfl rfl (by kernel_rfl) (by rw [← Array.all_toList]; rfl) ?_) | fail)
    intro a H; replace hs := H.s hs; replace hd := H.d rfl; replace e32 := H.g 32 rfl rfl; replace e34 := H.g 34 rfl rfl; replace e1 := H.k e1 rfl; replace e2 := H.k e2 rfl; replace e3 := H.k e3 rfl; replace e33 := H.k e33 rfl; have e9 := H.g 9 rfl rfl; clear H; refine hKq9 _ _ ?_; clear hKq9 Kq9; refine wp_seq_k fun Kq10 hKq10 => ?_; refine wp_seq_k fun Kq11 hKq11 => ?_
    have BE := Blk.new w4 32 #[.int .i64 e.vid, .int .u8 e.m0, .int .u8 e.m1, .int .u8 e.m2, .int .u8 e.m3, .int .u8 e.m4, .int .u8 e.m5, .int .i64 e.fi, .int .i64 e.fo, .int .i64 e.fm, .int .i64 e.p0, .int .i64 e.p1, .bool e.talk]
    have hal := (Below.refl w4.heap.size w4).alloc (Nat.le_refl _) (.cells #[.int .i64 e.vid, .int .u8 e.m0, .int .u8 e.m1, .int .u8 e.m2, .int .u8 e.m3, .int .u8 e.m4, .int .u8 e.m5, .int .i64 e.fi, .int .i64 e.fo, .int .i64 e.fm, .int .i64 e.p0, .int .i64 e.p1, .bool e.talk] 32)
    have B5 := HB.out.1.kept hal; have L5 := HB.out.2.trans (hal.mono HB.out.2.size)
    generalize hw5 : w4.alloc (.cells #[.int .i64 e.vid, .int .u8 e.m0, .int .u8 e.m1, .int .u8 e.m2, .int .u8 e.m3, .int .u8 e.m4, .int .u8 e.m5, .int .i64 e.fi, .int .i64 e.fo, .int .i64 e.fm, .int .i64 e.p0, .int .i64 e.p1, .bool e.talk] 32) = w5 at BE hal B5 L5 ⊢
    obtain ⟨p, hp⟩ : ∃ p, p = w4.heap.size := ⟨_, rfl⟩
    rw [← hp] at BE e9
    have HB5 := Lib.hid (And.intro B5 (And.intro BE L5))
    clear hw5 hp hal B5 BE L5 HB HC
    refine sm_list [9] 38 3 hs hd (by kernel_rfl) (agC e9 agN) rfl ?_
    simp only [seval]
    go_wp2_with (first | (refine wpList_load_any_d rfl 30 (.tmp 1) rfl ⟨p, 10, none⟩ rfl #[.int .i64 e.p0, .int .i64 e.p1] _ (blk_sub HB5.out.2.1 ed_sub10) Tryz.underlying30 rfl (by kernel_rfl) ?_) | fail)
    intro a H; replace hs := H.s hs; replace hd := H.d rfl; replace e9 := H.g 9 rfl rfl; replace e1 := H.k e1 rfl; replace e2 := H.k e2 rfl; replace e3 := H.k e3 rfl; replace e32 := H.k e32 rfl; replace e33 := H.k e33 rfl; replace e34 := H.k e34 rfl; have e39 := H.g 39 rfl rfl; have e40 := H.g 40 rfl rfl; clear H; refine hKq11 _ _ ?_; clear hKq11 Kq11; refine wp_block ?_
    refine wp_loop (fun a w' => ∃ (d : Nat), d ≤ 2 ∧ PortsOk d P e ∧ a.tmps.size = 112 ∧ a.defers = [] ∧ a.tmps[1]? = some (.slice (some ad) n c) ∧ a.tmps[2]? = some (.int .i64 r) ∧ a.tmps[3]? = some (.pointer (some ⟨q, 0, none⟩)) ∧ a.tmps[9]? = some (.pointer (some ⟨p, 0, none⟩)) ∧ a.tmps[32]? = some (.slice (some ad) n c) ∧ a.tmps[33]? = some (.int .i64 (n : Int)) ∧ a.tmps[34]? = some (.int .i64 (j : Int)) ∧ a.tmps[39]? = some (.agg #[.int .i64 e.p0, .int .i64 e.p1]) ∧ a.tmps[40]? = some (.int .i64 (d : Int)) ∧ w5 = w') (fun a _ => 2 - (intOf (a.tmps.getD 40 undef)).toNat) ?_ ?_
    · exact ⟨0, by omega, ⟨fun h => absurd h (by omega), fun h => absurd h (by omega)⟩, hs, hd, e1, e2, e3, e9, e32, e33, e34, e39, e40, rfl⟩
    clear e1 e2 e3 e32 e33 e34 e9 e39 e40 hs hd a
    rintro a w6 ⟨d, hd2, hpo, hs, hd, e1, e2, e3, e9, e32, e33, e34, e39, e40, rfl⟩
    have hmd := slot e40
    have HPO := Lib.hid hpo
    clear hpo; refine wp_seq_k fun Kq12 hKq12 => ?_
    have hi0 : ∀ W : World, (Instr.index 30 (.agg #[.int .i64 e.p0, .int .i64 e.p1]) (.int .i64 0)).run Tryz.prog W = .ok (.int .i64 e.p0) W := fun W => by kernel_rfl
    have hi1 : ∀ W : World, (Instr.index 30 (.agg #[.int .i64 e.p0, .int .i64 e.p1]) (.int .i64 1)).run Tryz.prog W = .ok (.int .i64 e.p1) W := fun W => by kernel_rfl
    have q1 := HB5.out.1.cellOf (v := .int .i64 P) 1 rfl
    obtain rfl | rfl | rfl : d = 0 ∨ d = 1 ∨ d = 2 := by omega
    ·
      have HMD := Lib.hid hmd
      clear hmd
      refine sm_list [40] 41 1 hs hd (by kernel_rfl) (agC e40 agN) rfl ?_
      simp only [seval]
      go_wp2_with fail
      intro a H; replace hs := H.s hs; replace hd := H.d rfl; replace e40 := H.g 40 rfl rfl; replace e1 := H.k e1 rfl; replace e2 := H.k e2 rfl; replace e3 := H.k e3 rfl; replace e9 := H.k e9 rfl; replace e32 := H.k e32 rfl; replace e33 := H.k e33 rfl; replace e34 := H.k e34 rfl; replace e39 := H.k e39 rfl; have e41 := H.g 41 rfl rfl; clear H; refine hKq12 _ _ ?_; clear hKq12 Kq12; refine wp_seq_k fun Kq13 hKq13 => ?_
      refine wp_cond_true (slotE e41) ?_
      clear e41; refine wp_skip ?_; refine hKq13 _ _ ?_; clear hKq13 Kq13; refine wp_seq_k fun Kq14 hKq14 => ?_; refine wp_block ?_; refine wp_seq_k fun Kq15 hKq15 => ?_
      refine sm_list [11, 39, 40] 42 1 hs hd (by kernel_rfl) (agU (agC e39 (agC e40 agN))) rfl ?_
      simp only [seval]
      go_wp2_with fail
      intro a H; replace hs := H.s hs; replace hd := H.d rfl; replace e39 := H.g 39 rfl rfl; replace e40 := H.g 40 rfl rfl; replace e1 := H.k e1 rfl; replace e2 := H.k e2 rfl; replace e3 := H.k e3 rfl; replace e9 := H.k e9 rfl; replace e32 := H.k e32 rfl; replace e33 := H.k e33 rfl; replace e34 := H.k e34 rfl; have e11 := H.g 11 rfl rfl; clear H; refine hKq15 _ _ ?_; clear hKq15 Kq15; refine wp_seq_k fun Kq16 hKq16 => ?_
      clear hi0 hi1
      by_cases hc0 : e.p0 < 0
      ·
        have hK : V = 40 := by
          rw [HV.out.1]
          exact hoV_end HG.out (HE.out.trans (endsErr_bad HEJ.out (endErr_p0 (by omega)) (by decide))) (by decide)
        have HK := Lib.hid hK
        clear hK
        have d1 : decide (e.p0 < 0) = true := decide_eq_true hc0
        refine sm_list [3, 11] 43 8 hs hd (by kernel_rfl) (agC e3 (agC e11 agN)) rfl ?_
        simp only [seval]
        go_wp2_with fail
        intro a H; replace hs := H.s hs; replace hd := H.d rfl; replace e3 := H.g 3 rfl rfl; replace e11 := H.g 11 rfl rfl; replace e1 := H.k e1 rfl; replace e2 := H.k e2 rfl; replace e9 := H.k e9 rfl; replace e32 := H.k e32 rfl; replace e33 := H.k e33 rfl; replace e34 := H.k e34 rfl; replace e39 := H.k e39 rfl; replace e40 := H.k e40 rfl; have e50 := H.g 50 rfl rfl; clear H; refine hKq16 _ _ ?_; clear hKq16 Kq16
        refine wp_cond_true (slotE e50) ?_
        clear e50; refine wp_seq_k fun Kq17 hKq17 => ?_
        refine sm_list [] 6 2 hs hd (by kernel_rfl) agN rfl ?_
        simp only [seval]
        go_wp2_with fail
        intro a H; replace hs := H.s hs; replace hd := H.d rfl; replace e1 := H.k e1 rfl; replace e2 := H.k e2 rfl; replace e3 := H.k e3 rfl; replace e9 := H.k e9 rfl; replace e32 := H.k e32 rfl; replace e33 := H.k e33 rfl; replace e34 := H.k e34 rfl; replace e39 := H.k e39 rfl; replace e40 := H.k e40 rfl; replace e11 := H.k e11 rfl; have e6 := H.g 6 rfl rfl; have e7 := H.g 7 rfl rfl; clear H; refine hKq17 _ _ ?_
        clear hKq17 Kq17; refine wp_ret ?_; refine ret_block ?_; refine exit_then rfl ?_; refine exit_then rfl ?_; refine ret_block ?_; refine exit_then rfl ?_; refine ret_block ?_; refine exit_then rfl ?_; refine exit_then rfl ?_; refine ret_block ?_; refine exit_then rfl ?_
        exact sm_ret2 rfl hd e6 e7 ⟨HB5.out.2.2, .inl ⟨by rw [HK.out]; decide, by rw [HK.out]⟩⟩
      have dc0 : decide (e.p0 < 0) = false := decide_eq_false hc0
      by_cases hc1 : P ≤ e.p0
      ·
        have hK : V = 40 := by
          rw [HV.out.1]
          exact hoV_end HG.out (HE.out.trans (endsErr_bad HEJ.out (endErr_p0 (by omega)) (by decide))) (by decide)
        have HK := Lib.hid hK
        clear hK
        have d2 : decide (P ≤ e.p0) = true := decide_eq_true hc1
        refine sm_list [3, 11] 43 8 hs hd (by kernel_rfl) (agC e3 (agC e11 agN)) rfl ?_
        simp only [seval]
        go_wp2_with fail
        intro a H; replace hs := H.s hs; replace hd := H.d rfl; replace e3 := H.g 3 rfl rfl; replace e11 := H.g 11 rfl rfl; replace e1 := H.k e1 rfl; replace e2 := H.k e2 rfl; replace e9 := H.k e9 rfl; replace e32 := H.k e32 rfl; replace e33 := H.k e33 rfl; replace e34 := H.k e34 rfl; replace e39 := H.k e39 rfl; replace e40 := H.k e40 rfl; have e50 := H.g 50 rfl rfl; clear H; refine hKq16 _ _ ?_; clear hKq16 Kq16
        refine wp_cond_true (slotE e50) ?_
        clear e50; refine wp_seq_k fun Kq17 hKq17 => ?_
        refine sm_list [] 6 2 hs hd (by kernel_rfl) agN rfl ?_
        simp only [seval]
        go_wp2_with fail
        intro a H; replace hs := H.s hs; replace hd := H.d rfl; replace e1 := H.k e1 rfl; replace e2 := H.k e2 rfl; replace e3 := H.k e3 rfl; replace e9 := H.k e9 rfl; replace e32 := H.k e32 rfl; replace e33 := H.k e33 rfl; replace e34 := H.k e34 rfl; replace e39 := H.k e39 rfl; replace e40 := H.k e40 rfl; replace e11 := H.k e11 rfl; have e6 := H.g 6 rfl rfl; have e7 := H.g 7 rfl rfl; clear H; refine hKq17 _ _ ?_
        clear hKq17 Kq17; refine wp_ret ?_; refine ret_block ?_; refine exit_then rfl ?_; refine exit_then rfl ?_; refine ret_block ?_; refine exit_then rfl ?_; refine ret_block ?_; refine exit_then rfl ?_; refine exit_then rfl ?_; refine ret_block ?_; refine exit_then rfl ?_
        exact sm_ret2 rfl hd e6 e7 ⟨HB5.out.2.2, .inl ⟨by rw [HK.out]; decide, by rw [HK.out]⟩⟩
      have dc1 : decide (P ≤ e.p0) = false := decide_eq_false hc1
      have hpn : PortsOk 1 P e := ⟨fun _ => ⟨by omega, by omega⟩, fun h => absurd h (by omega)⟩
      have HPN := Lib.hid hpn
      clear hpn hc0 hc1
      refine sm_list [3, 11] 43 8 hs hd (by kernel_rfl) (agC e3 (agC e11 agN)) rfl ?_
      simp only [seval]
      go_wp2_with fail
      intro a H; replace hs := H.s hs; replace hd := H.d rfl; replace e3 := H.g 3 rfl rfl; replace e11 := H.g 11 rfl rfl; replace e1 := H.k e1 rfl; replace e2 := H.k e2 rfl; replace e9 := H.k e9 rfl; replace e32 := H.k e32 rfl; replace e33 := H.k e33 rfl; replace e34 := H.k e34 rfl; replace e39 := H.k e39 rfl; replace e40 := H.k e40 rfl; have e50 := H.g 50 rfl rfl; clear H; refine hKq16 _ _ ?_; clear hKq16 Kq16
      refine wp_cond_false (slotE e50) ?_
      clear e50; refine wp_skip ?_; refine hKq14 _ _ ?_; clear hKq14 Kq14; clear dc0 dc1 q1; clear e11
      refine sm_list [40] 51 1 hs hd (by kernel_rfl) (agC e40 agN) rfl ?_
      simp only [seval]
      go_wp2_with fail
      intro a H; replace hs := H.s hs; replace hd := H.d rfl; replace e1 := H.k e1 rfl; replace e2 := H.k e2 rfl; replace e3 := H.k e3 rfl; replace e9 := H.k e9 rfl; replace e32 := H.k e32 rfl; replace e33 := H.k e33 rfl; replace e34 := H.k e34 rfl; replace e39 := H.k e39 rfl; replace e40 := H.g 40 rfl rfl; clear H
      exact ⟨⟨1, by omega, HPN.out, hs, hd, e1, e2, e3, e9, e32, e33, e34, e39, e40, rfl⟩, by rw [HMD.out, slot e40]; decide⟩
    ·
      have HMD := Lib.hid hmd
      clear hmd
      refine sm_list [40] 41 1 hs hd (by kernel_rfl) (agC e40 agN) rfl ?_
      simp only [seval]
      go_wp2_with fail
      intro a H; replace hs := H.s hs; replace hd := H.d rfl; replace e40 := H.g 40 rfl rfl; replace e1 := H.k e1 rfl; replace e2 := H.k e2 rfl; replace e3 := H.k e3 rfl; replace e9 := H.k e9 rfl; replace e32 := H.k e32 rfl; replace e33 := H.k e33 rfl; replace e34 := H.k e34 rfl; replace e39 := H.k e39 rfl; have e41 := H.g 41 rfl rfl; clear H; refine hKq12 _ _ ?_; clear hKq12 Kq12; refine wp_seq_k fun Kq13 hKq13 => ?_
      refine wp_cond_true (slotE e41) ?_
      clear e41; refine wp_skip ?_; refine hKq13 _ _ ?_; clear hKq13 Kq13; refine wp_seq_k fun Kq14 hKq14 => ?_; refine wp_block ?_; refine wp_seq_k fun Kq15 hKq15 => ?_
      refine sm_list [11, 39, 40] 42 1 hs hd (by kernel_rfl) (agU (agC e39 (agC e40 agN))) rfl ?_
      simp only [seval]
      go_wp2_with fail
      intro a H; replace hs := H.s hs; replace hd := H.d rfl; replace e39 := H.g 39 rfl rfl; replace e40 := H.g 40 rfl rfl; replace e1 := H.k e1 rfl; replace e2 := H.k e2 rfl; replace e3 := H.k e3 rfl; replace e9 := H.k e9 rfl; replace e32 := H.k e32 rfl; replace e33 := H.k e33 rfl; replace e34 := H.k e34 rfl; have e11 := H.g 11 rfl rfl; clear H; refine hKq15 _ _ ?_; clear hKq15 Kq15; refine wp_seq_k fun Kq16 hKq16 => ?_
      clear hi0 hi1
      by_cases hc0 : e.p1 < 0
      ·
        have hK : V = 40 := by
          rw [HV.out.1]
          exact hoV_end HG.out (HE.out.trans (endsErr_bad HEJ.out (endErr_p1 (by omega)) (by decide))) (by decide)
        have HK := Lib.hid hK
        clear hK
        have d1 : decide (e.p1 < 0) = true := decide_eq_true hc0
        refine sm_list [3, 11] 43 8 hs hd (by kernel_rfl) (agC e3 (agC e11 agN)) rfl ?_
        simp only [seval]
        go_wp2_with fail
        intro a H; replace hs := H.s hs; replace hd := H.d rfl; replace e3 := H.g 3 rfl rfl; replace e11 := H.g 11 rfl rfl; replace e1 := H.k e1 rfl; replace e2 := H.k e2 rfl; replace e9 := H.k e9 rfl; replace e32 := H.k e32 rfl; replace e33 := H.k e33 rfl; replace e34 := H.k e34 rfl; replace e39 := H.k e39 rfl; replace e40 := H.k e40 rfl; have e50 := H.g 50 rfl rfl; clear H; refine hKq16 _ _ ?_; clear hKq16 Kq16
        refine wp_cond_true (slotE e50) ?_
        clear e50; refine wp_seq_k fun Kq17 hKq17 => ?_
        refine sm_list [] 6 2 hs hd (by kernel_rfl) agN rfl ?_
        simp only [seval]
        go_wp2_with fail
        intro a H; replace hs := H.s hs; replace hd := H.d rfl; replace e1 := H.k e1 rfl; replace e2 := H.k e2 rfl; replace e3 := H.k e3 rfl; replace e9 := H.k e9 rfl; replace e32 := H.k e32 rfl; replace e33 := H.k e33 rfl; replace e34 := H.k e34 rfl; replace e39 := H.k e39 rfl; replace e40 := H.k e40 rfl; replace e11 := H.k e11 rfl; have e6 := H.g 6 rfl rfl; have e7 := H.g 7 rfl rfl; clear H; refine hKq17 _ _ ?_
        clear hKq17 Kq17; refine wp_ret ?_; refine ret_block ?_; refine exit_then rfl ?_; refine exit_then rfl ?_; refine ret_block ?_; refine exit_then rfl ?_; refine ret_block ?_; refine exit_then rfl ?_; refine exit_then rfl ?_; refine ret_block ?_; refine exit_then rfl ?_
        exact sm_ret2 rfl hd e6 e7 ⟨HB5.out.2.2, .inl ⟨by rw [HK.out]; decide, by rw [HK.out]⟩⟩
      have dc0 : decide (e.p1 < 0) = false := decide_eq_false hc0
      by_cases hc1 : P ≤ e.p1
      ·
        have hK : V = 40 := by
          rw [HV.out.1]
          exact hoV_end HG.out (HE.out.trans (endsErr_bad HEJ.out (endErr_p1 (by omega)) (by decide))) (by decide)
        have HK := Lib.hid hK
        clear hK
        have d2 : decide (P ≤ e.p1) = true := decide_eq_true hc1
        refine sm_list [3, 11] 43 8 hs hd (by kernel_rfl) (agC e3 (agC e11 agN)) rfl ?_
        simp only [seval]
        go_wp2_with fail
        intro a H; replace hs := H.s hs; replace hd := H.d rfl; replace e3 := H.g 3 rfl rfl; replace e11 := H.g 11 rfl rfl; replace e1 := H.k e1 rfl; replace e2 := H.k e2 rfl; replace e9 := H.k e9 rfl; replace e32 := H.k e32 rfl; replace e33 := H.k e33 rfl; replace e34 := H.k e34 rfl; replace e39 := H.k e39 rfl; replace e40 := H.k e40 rfl; have e50 := H.g 50 rfl rfl; clear H; refine hKq16 _ _ ?_; clear hKq16 Kq16
        refine wp_cond_true (slotE e50) ?_
        clear e50; refine wp_seq_k fun Kq17 hKq17 => ?_
        refine sm_list [] 6 2 hs hd (by kernel_rfl) agN rfl ?_
        simp only [seval]
        go_wp2_with fail
        intro a H; replace hs := H.s hs; replace hd := H.d rfl; replace e1 := H.k e1 rfl; replace e2 := H.k e2 rfl; replace e3 := H.k e3 rfl; replace e9 := H.k e9 rfl; replace e32 := H.k e32 rfl; replace e33 := H.k e33 rfl; replace e34 := H.k e34 rfl; replace e39 := H.k e39 rfl; replace e40 := H.k e40 rfl; replace e11 := H.k e11 rfl; have e6 := H.g 6 rfl rfl; have e7 := H.g 7 rfl rfl; clear H; refine hKq17 _ _ ?_
        clear hKq17 Kq17; refine wp_ret ?_; refine ret_block ?_; refine exit_then rfl ?_; refine exit_then rfl ?_; refine ret_block ?_; refine exit_then rfl ?_; refine ret_block ?_; refine exit_then rfl ?_; refine exit_then rfl ?_; refine ret_block ?_; refine exit_then rfl ?_
        exact sm_ret2 rfl hd e6 e7 ⟨HB5.out.2.2, .inl ⟨by rw [HK.out]; decide, by rw [HK.out]⟩⟩
      have dc1 : decide (P ≤ e.p1) = false := decide_eq_false hc1
      have hpn : PortsOk 2 P e := ⟨fun _ => HPO.out.1 (by omega), fun h => ⟨by omega, by omega⟩⟩
      have HPN := Lib.hid hpn
      clear hpn hc0 hc1
      refine sm_list [3, 11] 43 8 hs hd (by kernel_rfl) (agC e3 (agC e11 agN)) rfl ?_
      simp only [seval]
      go_wp2_with fail
      intro a H; replace hs := H.s hs; replace hd := H.d rfl; replace e3 := H.g 3 rfl rfl; replace e11 := H.g 11 rfl rfl; replace e1 := H.k e1 rfl; replace e2 := H.k e2 rfl; replace e9 := H.k e9 rfl; replace e32 := H.k e32 rfl; replace e33 := H.k e33 rfl; replace e34 := H.k e34 rfl; replace e39 := H.k e39 rfl; replace e40 := H.k e40 rfl; have e50 := H.g 50 rfl rfl; clear H; refine hKq16 _ _ ?_; clear hKq16 Kq16
      refine wp_cond_false (slotE e50) ?_
      clear e50; refine wp_skip ?_; refine hKq14 _ _ ?_; clear hKq14 Kq14; clear dc0 dc1 q1; clear e11
      refine sm_list [40] 51 1 hs hd (by kernel_rfl) (agC e40 agN) rfl ?_
      simp only [seval]
      go_wp2_with fail
      intro a H; replace hs := H.s hs; replace hd := H.d rfl; replace e1 := H.k e1 rfl; replace e2 := H.k e2 rfl; replace e3 := H.k e3 rfl; replace e9 := H.k e9 rfl; replace e32 := H.k e32 rfl; replace e33 := H.k e33 rfl; replace e34 := H.k e34 rfl; replace e39 := H.k e39 rfl; replace e40 := H.g 40 rfl rfl; clear H
      exact ⟨⟨2, by omega, HPN.out, hs, hd, e1, e2, e3, e9, e32, e33, e34, e39, e40, rfl⟩, by rw [HMD.out, slot e40]; decide⟩
    ·
      clear hmd hi0 hi1 q1
      refine sm_list [40] 41 1 hs hd (by kernel_rfl) (agC e40 agN) rfl ?_
      simp only [seval]
      go_wp2_with fail
      intro a H; replace hs := H.s hs; replace hd := H.d rfl; replace e40 := H.g 40 rfl rfl; replace e1 := H.k e1 rfl; replace e2 := H.k e2 rfl; replace e3 := H.k e3 rfl; replace e9 := H.k e9 rfl; replace e32 := H.k e32 rfl; replace e33 := H.k e33 rfl; replace e34 := H.k e34 rfl; replace e39 := H.k e39 rfl; have e41 := H.g 41 rfl rfl; clear H; refine hKq12 _ _ ?_; clear hKq12 Kq12; refine wp_seq_k fun Kq13 hKq13 => ?_
      refine wp_cond_false (slotE e41) ?_
      clear e41; refine wp_exit ?_; refine exit_then rfl ?_; clear hKq13 Kq13; refine exit_then rfl ?_; refine exit_hit ?_; refine hKq10 _ _ ?_; clear hKq10 Kq10; refine wp_seq_k fun Kq14 hKq14 => ?_; have p0 := HB5.out.2.1.cellOf (v := .int .i64 e.p0) 10 rfl; have p1 := HB5.out.2.1.cellOf (v := .int .i64 e.p1) 11 rfl; have pv := HB5.out.2.1.cellOf (v := .int .i64 e.vid) 0 rfl; clear e39; clear e40
      by_cases hc0 : e.p0 = e.p1
      ·
        have hK : V = 1 := by
          rw [HV.out.1]
          exact hoV_end HG.out (HE.out.trans (endsErr_bad HEJ.out (endErr_arg HPO.out (by omega)) (by decide))) (by decide)
        have HK := Lib.hid hK
        clear hK
        have d1 : (e.p0 == e.p1) = true := by simp [hc0]
        clear hc0
        refine sm_list [9] 52 19 hs hd (by kernel_rfl) (agC e9 agN) rfl ?_
        simp only [seval]
        go_wp2_with fail
        intro a H; replace hs := H.s hs; replace hd := H.d rfl; replace e9 := H.g 9 rfl rfl; replace e1 := H.k e1 rfl; replace e2 := H.k e2 rfl; replace e3 := H.k e3 rfl; replace e32 := H.k e32 rfl; replace e33 := H.k e33 rfl; replace e34 := H.k e34 rfl; have e70 := H.g 70 rfl rfl; clear H; refine hKq14 _ _ ?_; clear hKq14 Kq14
        refine wp_cond_true (slotE e70) ?_
        clear e70; refine wp_seq_k fun Kq15 hKq15 => ?_
        refine sm_list [] 6 2 hs hd (by kernel_rfl) agN rfl ?_
        simp only [seval]
        go_wp2_with fail
        intro a H; replace hs := H.s hs; replace hd := H.d rfl; replace e1 := H.k e1 rfl; replace e2 := H.k e2 rfl; replace e3 := H.k e3 rfl; replace e9 := H.k e9 rfl; replace e32 := H.k e32 rfl; replace e33 := H.k e33 rfl; replace e34 := H.k e34 rfl; have e6 := H.g 6 rfl rfl; have e7 := H.g 7 rfl rfl; clear H; refine hKq15 _ _ ?_; clear hKq15 Kq15; refine wp_ret ?_; refine ret_block ?_; refine exit_then rfl ?_
        refine exit_then rfl ?_; refine ret_block ?_; refine exit_then rfl ?_
        exact sm_ret2 rfl hd e6 e7 ⟨HB5.out.2.2, .inl ⟨by rw [HK.out]; decide, by rw [HK.out]⟩⟩
      have dc0 : (e.p0 == e.p1) = false := by simpa using hc0
      by_cases hc1 : e.vid < 2
      ·
        have hK : V = 1 := by
          rw [HV.out.1]
          exact hoV_end HG.out (HE.out.trans (endsErr_bad HEJ.out (endErr_arg HPO.out (by omega)) (by decide))) (by decide)
        have HK := Lib.hid hK
        clear hK
        have d2 : decide (e.vid < 2) = true := decide_eq_true hc1
        refine sm_list [9] 52 19 hs hd (by kernel_rfl) (agC e9 agN) rfl ?_
        simp only [seval]
        go_wp2_with fail
        intro a H; replace hs := H.s hs; replace hd := H.d rfl; replace e9 := H.g 9 rfl rfl; replace e1 := H.k e1 rfl; replace e2 := H.k e2 rfl; replace e3 := H.k e3 rfl; replace e32 := H.k e32 rfl; replace e33 := H.k e33 rfl; replace e34 := H.k e34 rfl; have e70 := H.g 70 rfl rfl; clear H; refine hKq14 _ _ ?_; clear hKq14 Kq14
        refine wp_cond_true (slotE e70) ?_
        clear e70; refine wp_seq_k fun Kq15 hKq15 => ?_
        refine sm_list [] 6 2 hs hd (by kernel_rfl) agN rfl ?_
        simp only [seval]
        go_wp2_with fail
        intro a H; replace hs := H.s hs; replace hd := H.d rfl; replace e1 := H.k e1 rfl; replace e2 := H.k e2 rfl; replace e3 := H.k e3 rfl; replace e9 := H.k e9 rfl; replace e32 := H.k e32 rfl; replace e33 := H.k e33 rfl; replace e34 := H.k e34 rfl; have e6 := H.g 6 rfl rfl; have e7 := H.g 7 rfl rfl; clear H; refine hKq15 _ _ ?_; clear hKq15 Kq15; refine wp_ret ?_; refine ret_block ?_; refine exit_then rfl ?_
        refine exit_then rfl ?_; refine ret_block ?_; refine exit_then rfl ?_
        exact sm_ret2 rfl hd e6 e7 ⟨HB5.out.2.2, .inl ⟨by rw [HK.out]; decide, by rw [HK.out]⟩⟩
      have dc1 : decide (e.vid < 2) = false := decide_eq_false hc1
      by_cases hc2 : 4094 < e.vid
      ·
        have hK : V = 1 := by
          rw [HV.out.1]
          exact hoV_end HG.out (HE.out.trans (endsErr_bad HEJ.out (endErr_arg HPO.out (by omega)) (by decide))) (by decide)
        have HK := Lib.hid hK
        clear hK
        have d3 : decide (4094 < e.vid) = true := decide_eq_true hc2
        refine sm_list [9] 52 19 hs hd (by kernel_rfl) (agC e9 agN) rfl ?_
        simp only [seval]
        go_wp2_with fail
        intro a H; replace hs := H.s hs; replace hd := H.d rfl; replace e9 := H.g 9 rfl rfl; replace e1 := H.k e1 rfl; replace e2 := H.k e2 rfl; replace e3 := H.k e3 rfl; replace e32 := H.k e32 rfl; replace e33 := H.k e33 rfl; replace e34 := H.k e34 rfl; have e70 := H.g 70 rfl rfl; clear H; refine hKq14 _ _ ?_; clear hKq14 Kq14
        refine wp_cond_true (slotE e70) ?_
        clear e70; refine wp_seq_k fun Kq15 hKq15 => ?_
        refine sm_list [] 6 2 hs hd (by kernel_rfl) agN rfl ?_
        simp only [seval]
        go_wp2_with fail
        intro a H; replace hs := H.s hs; replace hd := H.d rfl; replace e1 := H.k e1 rfl; replace e2 := H.k e2 rfl; replace e3 := H.k e3 rfl; replace e9 := H.k e9 rfl; replace e32 := H.k e32 rfl; replace e33 := H.k e33 rfl; replace e34 := H.k e34 rfl; have e6 := H.g 6 rfl rfl; have e7 := H.g 7 rfl rfl; clear H; refine hKq15 _ _ ?_; clear hKq15 Kq15; refine wp_ret ?_; refine ret_block ?_; refine exit_then rfl ?_
        refine exit_then rfl ?_; refine ret_block ?_; refine exit_then rfl ?_
        exact sm_ret2 rfl hd e6 e7 ⟨HB5.out.2.2, .inl ⟨by rw [HK.out]; decide, by rw [HK.out]⟩⟩
      have dc2 : decide (4094 < e.vid) = false := decide_eq_false hc2
      have hEn := HE.out.trans (endsErr_on HEJ.out (endErr_ok HPO.out (by omega)))
      have HEN := Lib.hid hEn
      clear hEn hc0 hc1 hc2
      refine sm_list [9] 52 19 hs hd (by kernel_rfl) (agC e9 agN) rfl ?_
      simp only [seval]
      go_wp2_with fail
      intro a H; replace hs := H.s hs; replace hd := H.d rfl; replace e9 := H.g 9 rfl rfl; replace e1 := H.k e1 rfl; replace e2 := H.k e2 rfl; replace e3 := H.k e3 rfl; replace e32 := H.k e32 rfl; replace e33 := H.k e33 rfl; replace e34 := H.k e34 rfl; have e70 := H.g 70 rfl rfl; clear H; refine hKq14 _ _ ?_; clear hKq14 Kq14
      refine wp_cond_false (slotE e70) ?_
      clear e70; refine wp_skip ?_; refine hKq8 _ _ ?_; clear hKq8 Kq8; clear dc0 dc1 dc2 p0 p1 pv; clear e9; have hn64 := HN.out.1
      refine sm_list [34] 71 1 hs hd (by kernel_rfl) (agC e34 agN) rfl ?_
      simp only [seval]
      go_wp2_with fail
      intro a H; replace hs := H.s hs; replace hd := H.d rfl; replace e1 := H.k e1 rfl; replace e2 := H.k e2 rfl; replace e3 := H.k e3 rfl; replace e32 := H.k e32 rfl; replace e33 := H.k e33 rfl; replace e34 := H.g 34 rfl rfl; clear H
      exact ⟨⟨j + 1, by omega, HB5.out.2.2, HB5.out.1, HEN.out, hs, hd, e1, e2, e3, e32, e33, e34⟩, by first | (simp only [HM.out, slot e34, intOf]; omega) | (simp [HM.out, slot e34, intOf]; omega)⟩
  · have hkn : j = n := by omega
    have dj : decide ((j : Int) < (n : Int)) = false := decide_eq_false (by omega)
    have dj2 : decide (j < n) = false := decide_eq_false hlt3
    have hE0 : endsErr P es = 0 := by rw [HE.out, List.drop_eq_nil_of_le (by rw [HV.out.2]; omega)]; rfl
    have HE0 := Lib.hid hE0
    clear hE0 hm hj hlt3 hkn
    refine sm_list [33, 34] 35 1 hs hd (by kernel_rfl) (agC e33 (agC e34 agN)) rfl ?_
    simp only [seval]
    go_wp2_with fail
    intro a H; replace hs := H.s hs; replace hd := H.d rfl; replace e33 := H.g 33 rfl rfl; replace e34 := H.g 34 rfl rfl; replace e1 := H.k e1 rfl; replace e2 := H.k e2 rfl; replace e3 := H.k e3 rfl; replace e32 := H.k e32 rfl; have e35 := H.g 35 rfl rfl; clear H; refine hKq6 _ _ ?_; clear hKq6 Kq6; refine wp_seq_k fun Kq7 hKq7 => ?_
    refine wp_cond_false (slotE e35) ?_
    clear e35; refine wp_exit ?_; refine exit_then rfl ?_; clear hKq7 Kq7; refine exit_then rfl ?_; refine exit_hit ?_; refine hKq4 _ _ ?_; clear hKq4 Kq4; refine wp_seq_k fun Kq8 hKq8 => ?_; clear dj dj2 HE; clear e32; clear e33; clear e34
    refine sm_list [3, 12, 13] 72 5 hs hd (by kernel_rfl) (agC e3 (agU (agU agN))) rfl ?_
    simp only [seval]
    go_wp2_with (first | (refine wpList_load_any_d rfl 42 (.tmp 0) rfl ⟨q, 0, none⟩ rfl (cfc id P) _ (blk_cells HB.out.1) Tryz.underlying42 rfl (by kernel_rfl) ?_) | fail)
    refine (brNew_any id P w4).mono ?_
    rintro e w5 ⟨hb5, hor⟩
    obtain ⟨v, k, rfl, hvk⟩ : ∃ v k, e = .returned (.tuple #[.pointer v, .int .i64 k]) ∧ Hid ((ckB id P = k) ∧ ((k ≠ 0 ∧ v = none) ∨ (k = 0 ∧ ∃ g, v = some ⟨g, 0, none⟩ ∧ w4.heap.size ≤ g ∧ BrAt w5 g P))) := by
      rcases hor with ⟨h1, h2⟩ | ⟨h1, g, h2, h3, h4⟩
      · exact ⟨_, _, h2, Lib.hid ⟨rfl, .inl ⟨h1, rfl⟩⟩⟩
      · exact ⟨_, _, h2, Lib.hid ⟨h1, .inr ⟨rfl, g, rfl, h3, h4⟩⟩⟩
    have HB5 := Lib.hid hb5
    clear hor hb5
    go_wp2_with fail
    intro a H; replace hs := H.s hs; replace hd := H.d rfl; replace e3 := H.g 3 rfl rfl; replace e1 := H.k e1 rfl; replace e2 := H.k e2 rfl; have e12 := H.g 12 rfl rfl; have e13 := H.g 13 rfl rfl; clear H; refine hKq8 _ _ ?_; clear hKq8 Kq8; refine wp_seq_k fun Kq9 hKq9 => ?_; refine wp_seq_k fun Kq10 hKq10 => ?_
    have hVk : V = k := by rw [HV.out.1, hoV_ok HG.out HE0.out]; exact hvk.out.1
    have L5 := HB.out.2.trans (HB5.out.mono HB.out.2.size); have B5 := HB.out.1.kept HB5.out
    rcases hvk.out.2 with ⟨hk, rfl⟩ | ⟨rfl, gb, rfl, hgb, br5⟩
    ·
      have hkb : (k != 0) = true := bne_iff_ne.2 hk
      have HKN := Lib.hid (And.intro hk hVk)
      have HL5 := Lib.hid L5
      clear hk hVk L5 B5
      refine sm_list [13] 77 2 hs hd (by kernel_rfl) (agC e13 agN) rfl ?_
      simp only [seval]
      go_wp2_with fail
      intro a H; replace hs := H.s hs; replace hd := H.d rfl; replace e13 := H.g 13 rfl rfl; replace e1 := H.k e1 rfl; replace e2 := H.k e2 rfl; replace e3 := H.k e3 rfl; replace e12 := H.k e12 rfl; have e78 := H.g 78 rfl rfl; clear H; refine hKq10 _ _ ?_; clear hKq10 Kq10
      refine wp_cond_true (slotE e78) ?_
      clear e78; refine wp_seq_k fun Kq11 hKq11 => ?_
      refine sm_list [6, 7, 13] 79 1 hs hd (by kernel_rfl) (agU (agU (agC e13 agN))) rfl ?_
      simp only [seval]
      go_wp2_with fail
      intro a H; replace hs := H.s hs; replace hd := H.d rfl; replace e13 := H.g 13 rfl rfl; replace e1 := H.k e1 rfl; replace e2 := H.k e2 rfl; replace e3 := H.k e3 rfl; replace e12 := H.k e12 rfl; have e6 := H.g 6 rfl rfl; have e7 := H.g 7 rfl rfl; clear H; refine hKq11 _ _ ?_; clear hKq11 Kq11; refine wp_ret ?_; refine exit_then rfl ?_
      exact sm_ret2 rfl hd e6 e7 ⟨HL5.out, .inl ⟨by rw [HKN.out.2]; exact HKN.out.1, by rw [HKN.out.2]⟩⟩
    ·
      have H5 := Lib.hid (And.intro L5 (And.intro br5 (And.intro hVk B5)))
      clear L5 br5 hVk hgb hvk HB HB5 HE0
      refine sm_list [13] 77 2 hs hd (by kernel_rfl) (agC e13 agN) rfl ?_
      simp only [seval]
      go_wp2_with fail
      intro a H; replace hs := H.s hs; replace hd := H.d rfl; replace e13 := H.g 13 rfl rfl; replace e1 := H.k e1 rfl; replace e2 := H.k e2 rfl; replace e3 := H.k e3 rfl; replace e12 := H.k e12 rfl; have e78 := H.g 78 rfl rfl; clear H; refine hKq10 _ _ ?_; clear hKq10 Kq10
      refine wp_cond_false (slotE e78) ?_
      clear e78; refine wp_skip ?_; refine hKq9 _ _ ?_; clear hKq9 Kq9; refine wp_seq_k fun Kq11 hKq11 => ?_; have q0 := H5.out.2.2.2.cellOf (v := .int .i64 id) 0 rfl; have lz := H5.out.2.2.2.lt; clear B5
      have mk1 : ∀ W, (Instr.makeSlice 74 (.int .i64 (n : Int)) (.int .i64 (n : Int))).run Tryz.prog W = .ok (.slice (some ⟨W.heap.size, 0, none⟩) n n) (W.alloc (.cells (madeCells #[.int .i64 0] n) 87)) := fun W => by
        obtain ⟨i, h1, h2, h3, h4⟩ := info_parts (P := Tryz.prog) (e := 87) (z := .agg #[.int .i64 0]) (size := 1) (bytes := 8) (by kernel_rfl)
        have h := run_make_rowN (P := Tryz.prog) 74 87 i _ Tryz.underlying74 h1 h2 .i64 .i64 n n (Nat.le_refl _) (by rw [h4]; have := HN.out.1; omega) (by have := HN.out.1; omega) W
        rw [h3, Nat.mul_one] at h
        exact h
      clear e13
      suffices HK : ∀ (a' : Act) (w9 : World) (g : Nat) (ve : Value) (hg : Nat), a'.tmps.size = a.tmps.size → a'.defers = [] → a'.tmps[1]? = a.tmps[1]? → a'.tmps[2]? = a.tmps[2]? → a'.tmps[3]? = a.tmps[3]? → a'.tmps[12]? = a.tmps[12]? → a'.tmps[14]? = some (.pointer (some ⟨g, 0, none⟩)) → HoX w w9 g gb ve hg (.slice none 0 0) [] id P r es → Kq11 a' w9 by
        refine sm_any [1, 3, 12, 14] 80 10 (by kernel_rfl) hs hd (by kernel_rfl) (agC e1 (agC e3 (agC e12 (agU agN)))) rfl (any_tree [] (.take 0 (.take 1 (.take 2 (.take 3 (.take 5 (.take 6 (.two 4 7 (.one 7 (.take 8 (.one 9 (.take 10 .nil)))) (.one 4 (.take 8 (.one 9 (.take 10 .nil))))))))))) (fun (w' : World) => Below w5.heap.size w5 w') (by kernel_rfl) (fun _ _ _ _ _ h => h) ((Below.refl _ _).drew) ?_)
        simp only [seval]
        have hd0 : Below w5.heap.size w5 w5.drew := (Below.refl _ _).drew
        obtain ⟨wd, hwde⟩ : ∃ wd, wd = w5.drew := ⟨_, rfl⟩
        rw [← hwde] at hd0 ⊢
        clear hwde
        iterate 6 (with_reducible (refine tr_take (v := ?_) rfl ?_ ?_ ?_); rotate_left; (first | exact wanted_none rfl | exact wanted_on rfl rfl rfl); (rintro w' hw'; obtain ⟨hc, hf⟩ := bcell hw'; go_simp; with_reducible rfl); simp only [Act.put, List.setIfInBounds_toArray, List.set_cons_zero, List.set_cons_succ])
        refine tr_two ?_ ?_ <;> first
          | (refine tr_pushR (v := .slice none 0 0) (n := 0) (xs := []) rfl rfl _ _ 25 rfl styED rfl (HR.out.below (H5.out.1.trans (hd0.mono H5.out.1.size))) (eds_one es) rfl (ownsRow_nil _ w.heap.size _ _) (by have := HN.out.1; omega) (Nat.le_trans H5.out.1.size hd0.size) ?_; intro ve w7 own7 gr7; have b7 : Below w5.heap.size w5 w7 := hd0.trans (((Below.refl _ _).grown gr7 (Nat.le_refl _) (fun k hk => by cases hk)).mono hd0.size); have hhg : w.heap.size ≤ w7.heap.size := Nat.le_trans H5.out.1.size b7.size; refine ⟨b7, ?_⟩; simp only [Act.put, List.setIfInBounds_toArray, List.set_cons_zero, List.set_cons_succ]; have own8 := own_kept own7 (gr_below ((Below.refl w7.heap.size w7).alloc (Nat.le_refl _) (.cells (madeCells #[.int .i64 0] n) 87)) none) (fun k _ => by simp); have B8 := Blk.new w7 87 (madeCells #[.int .i64 0] n); have b8 := bal b7 (.cells (madeCells #[.int .i64 0] n) 87); (with_reducible (refine tr_run (v := ?_) (w' := ?_) rfl ?_ ?_ ?_ ?_); rotate_left 2; (first | exact wanted_none rfl | exact wanted_on rfl rfl rfl); (go_simp; refine ⟨?_, ?_⟩ <;> with_reducible rfl); (exact b8); simp only [Act.put, List.setIfInBounds_toArray, List.set_cons_zero, List.set_cons_succ]); generalize w7.alloc (.cells (madeCells #[.int .i64 0] n) 87) = w8 at own8 B8 b8 ⊢; rw [Nat.zero_add, List.nil_append] at own8; obtain ⟨Ae, ce, rfl, _, _⟩ := ownsRow_reads own8; have hgz : w.heap.size ≤ w8.heap.size := Nat.le_trans H5.out.1.size b8.size; have X9 := HoX_new (id := id) (P := P) (r := r) (es := es) hhg (H5.out.1.trans (b8.mono H5.out.1.size)) (H5.out.2.1.kept b8) (by rw [HV.out.2]; exact own8) (by rw [HV.out.2]; exact B8); rw [HV.out.2] at X9; (with_reducible (refine tr_take (v := ?_) rfl ?_ ?_ ?_); rotate_left; (first | exact wanted_none rfl | exact wanted_on rfl rfl rfl); (rintro w' _;  go_simp; with_reducible rfl); simp only [Act.put, List.setIfInBounds_toArray, List.set_cons_zero, List.set_cons_succ]); (with_reducible (refine tr_run (v := ?_) (w' := ?_) rfl ?_ ?_ ?_ ?_); rotate_left 2; (first | exact wanted_none rfl | exact wanted_on rfl rfl rfl); (go_simp; refine ⟨?_, ?_⟩ <;> with_reducible rfl); (exact bal b8 _); simp only [Act.put, List.setIfInBounds_toArray, List.set_cons_zero, List.set_cons_succ]); (with_reducible (refine tr_take (v := ?_) rfl ?_ ?_ ?_); rotate_left; (first | exact wanted_none rfl | exact wanted_on rfl rfl rfl); (rintro w' _;  go_simp; with_reducible rfl); simp only [Act.put, List.setIfInBounds_toArray, List.set_cons_zero, List.set_cons_succ]); refine tr_nil ?_)
          | (have hhg : w.heap.size ≤ wd.heap.size := Nat.le_trans H5.out.1.size hd0.size; have B7 := Blk.new wd 87 (madeCells #[.int .i64 0] n); have b7 := bal hd0 (.cells (madeCells #[.int .i64 0] n) 87); (with_reducible (refine tr_run (v := ?_) (w' := ?_) rfl ?_ ?_ ?_ ?_); rotate_left 2; (first | exact wanted_none rfl | exact wanted_on rfl rfl rfl); (go_simp; refine ⟨?_, ?_⟩ <;> with_reducible rfl); (exact b7); simp only [Act.put, List.setIfInBounds_toArray, List.set_cons_zero, List.set_cons_succ]); generalize wd.alloc (.cells (madeCells #[.int .i64 0] n) 87) = w7 at B7 b7 ⊢; refine tr_pushR (v := .slice none 0 0) (n := 0) (xs := []) rfl rfl _ _ 25 rfl styED rfl (HR.out.below (H5.out.1.trans (b7.mono H5.out.1.size))) (eds_one es) rfl (ownsRow_nil _ w.heap.size _ _) (by have := HN.out.1; omega) (Nat.le_trans H5.out.1.size b7.size) ?_; intro ve w8 own8 gr8; have b8 : Below w5.heap.size w5 w8 := b7.trans (((Below.refl _ _).grown gr8 (Nat.le_refl _) (fun k hk => by cases hk)).mono b7.size); refine ⟨b8, ?_⟩; simp only [Act.put, List.setIfInBounds_toArray, List.set_cons_zero, List.set_cons_succ]; have B8 := B7.grown gr8 (by simp [Value.ownBlock]); rw [Nat.zero_add, List.nil_append] at own8; obtain ⟨Ae, ce, rfl, _, _⟩ := ownsRow_reads own8; have hgz : w.heap.size ≤ w8.heap.size := Nat.le_trans H5.out.1.size b8.size; have X9 := HoX_new (id := id) (P := P) (r := r) (es := es) hhg (H5.out.1.trans (b8.mono H5.out.1.size)) (H5.out.2.1.kept b8) (by rw [HV.out.2]; exact own8) (by rw [HV.out.2]; exact B8); rw [HV.out.2] at X9; (with_reducible (refine tr_take (v := ?_) rfl ?_ ?_ ?_); rotate_left; (first | exact wanted_none rfl | exact wanted_on rfl rfl rfl); (rintro w' _;  go_simp; with_reducible rfl); simp only [Act.put, List.setIfInBounds_toArray, List.set_cons_zero, List.set_cons_succ]); (with_reducible (refine tr_run (v := ?_) (w' := ?_) rfl ?_ ?_ ?_ ?_); rotate_left 2; (first | exact wanted_none rfl | exact wanted_on rfl rfl rfl); (go_simp; refine ⟨?_, ?_⟩ <;> with_reducible rfl); (exact bal b8 _); simp only [Act.put, List.setIfInBounds_toArray, List.set_cons_zero, List.set_cons_succ]); (with_reducible (refine tr_take (v := ?_) rfl ?_ ?_ ?_); rotate_left; (first | exact wanted_none rfl | exact wanted_on rfl rfl rfl); (rintro w' _;  go_simp; with_reducible rfl); simp only [Act.put, List.setIfInBounds_toArray, List.set_cons_zero, List.set_cons_succ]); refine tr_nil ?_)
        all_goals
          intro a' H
          refine HK a' _ ?_ ?_ ?_ H.size H.defers ((H.got rfl rfl).trans e1.symm) (H.out 2 rfl) ((H.got rfl rfl).trans e3.symm) ((H.got rfl rfl).trans e12.symm) ?_ ?_
          rotate_left 3
          · (refine (H.got (t := 14) rfl rfl).trans (congrArg some ?_); rfl)
          · exact X9
      intro a' w9 g ve hg g_s g_d g1 g2 g3 g12 f14 X9
      replace hs := g_s.trans hs; replace hd := g_d; replace e1 := g1.trans e1; replace e2 := g2.trans e2; replace e3 := g3.trans e3; replace e12 := g12.trans e12; clear g_s g_d g1 g2 g3 g12
      have e14 := f14
      clear f14
      first | clear a | skip
      obtain ⟨a, rfl⟩ : ∃ a, a = a' := ⟨_, rfl⟩
      refine hKq11 _ _ ?_; clear hKq11 Kq11; refine wp_seq_k fun Kq12 hKq12 => ?_; refine wp_seq_k fun Kq13 hKq13 => ?_; clear mk1 q0 lz; clear e3; clear e12
      refine sm_list [1] 90 3 hs hd (by kernel_rfl) (agC e1 agN) rfl ?_
      simp only [seval]
      go_wp2_with fail
      intro a H; replace hs := H.s hs; replace hd := H.d rfl; replace e1 := H.g 1 rfl rfl; replace e2 := H.k e2 rfl; replace e14 := H.k e14 rfl; have e91 := H.g 91 rfl rfl; have e92 := H.g 92 rfl rfl; clear H; refine hKq13 _ _ ?_; clear hKq13 Kq13; refine wp_block ?_
      refine wp_loop (fun a w' => ∃ (j : Nat) (ms : List MgB) (A : Option Addr) (c : Nat), ms.length = j ∧ j ≤ n ∧ HoX w w' g gb ve hg (.slice A j c) ms id P r es ∧ a.tmps.size = 112 ∧ a.defers = [] ∧ a.tmps[2]? = some (.int .i64 r) ∧ a.tmps[14]? = some (.pointer (some ⟨g, 0, none⟩)) ∧ a.tmps[91]? = some (.int .i64 (n : Int)) ∧ a.tmps[92]? = some (.int .i64 (j : Int))) (fun a _ => n - (intOf (a.tmps.getD 92 undef)).toNat) ?_ ?_
      · exact ⟨0, [], none, 0, rfl, by omega, X9, hs, hd, e2, e14, e91, e92⟩
      clear e1 e2 e14 e91 e92 hs hd a X9
      rintro a w4 ⟨j, ms, A4, c4, hml, hj, X4, hs, hd, e2, e14, e91, e92⟩
      have hm := slot e92
      have HX := Lib.hid (And.intro X4 hml)
      clear X4 hml; refine wp_seq_k fun Kq14 hKq14 => ?_
      by_cases hlt3 : j < n
      ·
        have dj : decide ((j : Int) < (n : Int)) = true := decide_eq_true (by omega)
        have j1 : (j : Int) < (n : Int) := by omega
        have HM := Lib.hid hm
        clear hm hj
        refine sm_list [91, 92] 93 1 hs hd (by kernel_rfl) (agC e91 (agC e92 agN)) rfl ?_
        simp only [seval]
        go_wp2_with fail
        intro a H; replace hs := H.s hs; replace hd := H.d rfl; replace e91 := H.g 91 rfl rfl; replace e92 := H.g 92 rfl rfl; replace e2 := H.k e2 rfl; replace e14 := H.k e14 rfl; have e93 := H.g 93 rfl rfl; clear H; refine hKq14 _ _ ?_; clear hKq14 Kq14; refine wp_seq_k fun Kq15 hKq15 => ?_
        refine wp_cond_true (slotE e93) ?_
        clear e93; refine wp_skip ?_; refine hKq15 _ _ ?_; clear hKq15 Kq15; refine wp_seq_k fun Kq16 hKq16 => ?_; refine wp_block ?_; refine wp_seq_k fun Kq17 hKq17 => ?_; clear dj j1
        refine sm_list [2, 15, 16] 94 6 hs hd (by kernel_rfl) (agC e2 (agU (agU agN))) rfl ?_
        simp only [seval]
        go_wp2_with fail
        refine (hRow_any r w4).mono ?_
        rintro e w5 ⟨rfl, hb5⟩
        go_wp2_with fail
        refine (mgNew_ok r 0 HN.out.2 ⟨by omega, by omega⟩ w5).mono ?_
        rintro e w6 ⟨b, rfl, hb6, hfrom, hmg⟩
        have X6 := (HX.out.1.kept hb5).kept hb6
        have hbg : ∀ k ∈ b.all, w.heap.size ≤ k := fun k hk => Nat.le_trans (HX.out.1.low.trans (hb5.mono HX.out.1.low.size)).size (by obtain ⟨f1, f2, f3, f4, f5⟩ := hfrom; simp only [MgB.all, List.mem_cons, List.not_mem_nil, or_false] at hk; rcases hk with rfl | rfl | rfl | rfl <;> assumption)
        have HX6 := Lib.hid (And.intro X6 (And.intro hmg (And.intro HX.out.2 hbg)))
        clear hbg HX X6 hmg hfrom hb5 hb6
        go_wp2_with fail
        intro a H; replace hs := H.s hs; replace hd := H.d rfl; replace e2 := H.g 2 rfl rfl; replace e14 := H.k e14 rfl; replace e91 := H.k e91 rfl; replace e92 := H.k e92 rfl; have e15 := H.g 15 rfl rfl; clear H; refine hKq17 _ _ ?_; clear hKq17 Kq17; have own6 := HX6.out.1.at_.own; have hsz6 := HX6.out.1.low.size; have q4 := HX6.out.1.at_.box.cellOf (v := .slice A4 j c4) 4 rfl; have lz := HX6.out.1.at_.box.lt
        have hbd : (ms.length + 1) * 8 ≤ 140737488355328 := by rw [HX6.out.2.2.1]; have := HN.out.1; omega
        refine sm_list [14, 15] 100 10 hs hd (by kernel_rfl) (agC e14 (agC e15 agN)) rfl ?_
        simp only [seval]
        go_wp2_with (at_builtin; refine wpList_push1 rfl (.tmp 6) (.tmp 8) 75 rfl styMGP rfl rfl own6 rfl hbd hsz6 ?_; intro v7 w7 own7 gr7; have o7 := own7; rw [HX6.out.2.2.1] at o7; obtain ⟨A7, c7, rfl, _, _⟩ := ownsRow_reads o7; clear o7; obtain ⟨⟨cs7, bm7, hc7⟩, X7⟩ := HX6.out.1.push HX6.out.2.1 HX6.out.2.2.2 own7 gr7; have q47 := bm7.cellOf 4 hc7; have fz7 := bm7.frozen; have lz7 := bm7.lt; have HX7 := Lib.hid X7; clear X7 own7 gr7)
        intro a H; replace hs := H.s hs; replace hd := H.d rfl; replace e14 := H.g 14 rfl rfl; replace e15 := H.g 15 rfl rfl; replace e2 := H.k e2 rfl; replace e91 := H.k e91 rfl; replace e92 := H.k e92 rfl; clear H; refine hKq16 _ _ ?_; clear hKq16 Kq16
        refine (?_ : ∀ (W : World), HoX w W g gb ve hg (.slice A7 (j + 1) c7) (ms ++ [b]) id P r es → Code.wp Tryz.prog _ _ _ W) _ HX7.out
        intro w8 X8
        clear HX7 bm7 hc7 q47 fz7 lz7 q4 lz own6 hsz6 hbd cs7; clear e15; have hn64 := HN.out.1
        refine sm_list [92] 110 1 hs hd (by kernel_rfl) (agC e92 agN) rfl ?_
        simp only [seval]
        go_wp2_with fail
        intro a H; replace hs := H.s hs; replace hd := H.d rfl; replace e2 := H.k e2 rfl; replace e14 := H.k e14 rfl; replace e91 := H.k e91 rfl; replace e92 := H.g 92 rfl rfl; clear H
        exact ⟨⟨j + 1, ms ++ [b], A7, c7, by rw [List.length_append, HX6.out.2.2.1]; rfl, by omega, X8, hs, hd, e2, e14, e91, e92⟩, by first | (simp only [HM.out, slot e92, intOf]; omega) | (simp [HM.out, slot e92, intOf]; omega)⟩
      · have hkn : j = n := by omega
        have dj : decide ((j : Int) < (n : Int)) = false := decide_eq_false (by omega)
        have dj2 : decide (j < n) = false := decide_eq_false hlt3
        have HKN := Lib.hid hkn
        clear hm hj hlt3 hkn
        refine sm_list [91, 92] 93 1 hs hd (by kernel_rfl) (agC e91 (agC e92 agN)) rfl ?_
        simp only [seval]
        go_wp2_with fail
        intro a H; replace hs := H.s hs; replace hd := H.d rfl; replace e91 := H.g 91 rfl rfl; replace e92 := H.g 92 rfl rfl; replace e2 := H.k e2 rfl; replace e14 := H.k e14 rfl; have e93 := H.g 93 rfl rfl; clear H; refine hKq14 _ _ ?_; clear hKq14 Kq14; refine wp_seq_k fun Kq15 hKq15 => ?_
        refine wp_cond_false (slotE e93) ?_
        clear e93; refine wp_exit ?_; refine exit_then rfl ?_; clear hKq15 Kq15; refine exit_then rfl ?_; refine exit_hit ?_; refine hKq12 _ _ ?_; clear hKq12 Kq12; refine wp_seq_k fun Kq16 hKq16 => ?_; clear dj dj2
        refine sm_list [6, 7, 14] 111 1 hs hd (by kernel_rfl) (agU (agU (agC e14 agN))) rfl ?_
        simp only [seval]
        go_wp2_with fail
        intro a H; replace hs := H.s hs; replace hd := H.d rfl; replace e14 := H.g 14 rfl rfl; replace e2 := H.k e2 rfl; replace e91 := H.k e91 rfl; replace e92 := H.k e92 rfl; have e6 := H.g 6 rfl rfl; have e7 := H.g 7 rfl rfl; clear H; refine hKq16 _ _ ?_; clear hKq16 Kq16; refine wp_ret ?_
        exact sm_ret2 rfl hd e6 e7 ⟨HX.out.1.low, .inr ⟨H5.out.2.2.1, g, gb, ve, hg, _, ms, rfl, by rw [HX.out.2, HV.out.2]; exact HKN.out, HX.out.1⟩⟩
end Go.Proofs.YthhlfojaloaooaaGreat
