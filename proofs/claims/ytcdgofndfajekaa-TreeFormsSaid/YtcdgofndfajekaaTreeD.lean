/-
  Layer 20: what a port has heard.
-/
import Derived.Test.YtcdgofndfajekaaTreeC
namespace Go.Proofs.Ytcdgofndfajekaa
set_option linter.unusedSimpArgs false
set_option linter.unusedVariables false
open Go.RowKit
attribute [local go_sem ↓] Go.wp_at_zero Go.wp_at_succ

def Tre.upAt (t : Tre) (i : Int) : Bool := decide (0 ≤ i) && match t.es[i.toNat]? with | some e => e.up | none => false
noncomputable def Tre.inE (t : Tre) (i : Int) (m : Mg) : Int :=
  if m.kind ≠ 11 ∨ checkV m ≠ 0 ∨ m.domain ≠ t.dom then 23 else if t.upAt i = false then 40 else if m.src = t.own.id ∨ t.own.id ∈ m.path ∨ 255 ≤ m.steps ∨ 32 ≤ m.path.length then 31 else 0
noncomputable def Tre.in_ (t : Tre) (i : Int) (m : Mg) (now : Int) : Tre := if t.inE i m = 0 then t.put i.toNat m now else t
set_option maxRecDepth 100000 in
theorem in_nil (at_ now : Int) (m : Mg) (A : Option Addr) (n cc : Nat) (w : World) : Calls Try.prog 13 #[.pointer none, .int .i64 at_, .agg (mcells m A n cc), .int .i64 now] w fun e w' => e = .returned (.int .i64 23) ∧ Below w.heap.size w w' := by
  have L0 := (Below.refl w.heap.size w).alloc (Nat.le_refl _) (.cells (mcells m A n cc) 38)
  have HL := Lib.hid L0
  clear L0
  go_enter Try.func13, Try.ntmps13
  go_wp2_with fail
  generalize w.alloc (.cells (mcells m A n cc) 38) = w0 at *
  refine wp_region_class (fun w' => Below w0.heap.size w0 w') (by kernel_rfl) (by kernel_rfl) (Below.refl _ _).drew ?_
  repeat (first | (with_reducible (refine wpQuiet_skip ?_ ?_); (first | exact wanted_off rfl rfl rfl rfl | exact wanted_off2 rfl rfl rfl); simp only [Act.put, List.setIfInBounds_toArray, List.set_cons_zero, List.set_cons_succ]) | (with_reducible (refine wpQuiet_val (v := ?_) ?_ ?_ ?_); rotate_left; (first | exact wanted_none rfl | exact wanted_on rfl rfl rfl); (intro w' hw'; obtain ⟨hc, hf⟩ := bcell hw'; go_simp; with_reducible rfl); simp only [Act.put, List.setIfInBounds_toArray, List.set_cons_zero, List.set_cons_succ]))
  refine wpQuiet_nil ?_
  intro w4 hw4
  have hw := HL.out.trans (hw4.mono HL.out.size)
  clear hw4
  go_wp2_with fail
  go_ret
  exact ⟨rfl, hw⟩
set_option maxRecDepth 100000 in
set_option maxHeartbeats 4000000 in
theorem in_anyN (b : Bks) (t : Tre) (ps : List Value) (at_ now : Int) (m : Mg) (A : Option Addr) (n cc : Nat) (w : World) (h : TAt w b t ps) (hm : MsgIn w w.heap.size m A n) (hp : Path w b.all A m.path) :
    Calls Try.prog 13 #[.pointer (some ⟨b.g, 0, none⟩), .int .i64 at_, .agg (mcells m A n cc), .int .i64 now] w fun e w' => e = .returned (.int .i64 (t.inE at_ m)) ∧ (∃ ps', TAt w' b (t.in_ at_ m now) ps' ∧ PNew w ps ps') ∧ Fr b.turn w w' := by
  have L0 := (Below.refl w.heap.size w).alloc (Nat.le_refl _) (.cells (mcells m A n cc) 38)
  have M0 := Blk.new w 38 (mcells m A n cc)
  have hm0 : MsgIn (w.alloc (.cells (mcells m A n cc) 38)) (w.alloc (.cells (mcells m A n cc) 38)).heap.size m A n := ⟨(hm.reads.alloc (Nat.le_refl _) _).more (by simp), hm.len, hm.most⟩
  have s0 : w.heap.size < (w.alloc (.cells (mcells m A n cc) 38)).heap.size := by simp
  have T0 := h.kept L0
  have x0 := M0.cellOf (v := .int .i64 m.kind) 0 rfl
  have x1 := M0.cellOf (v := .int .i64 m.domain) 1 rfl
  have y0 := T0.box.cellOf (v := .int .i64 t.dom) 0 rfl
  have st := T0.box.lt
  have HT0 := Lib.hid T0
  have HM0 := Lib.hid M0
  have Hm0 := Lib.hid hm0
  have F0 : Fr b.turn w (w.alloc (.cells (mcells m A n cc) 38)) := Fr.be L0
  have HF0 := Lib.hid F0
  have hlt : ∀ g ∈ b.all, g < w.heap.size := by
    intro g hg
    simp [Bks.all] at hg
    rcases hg with rfl | rfl | rfl | rfl | rfl
    · exact h.box.lt
    · exact h.ups.lt
    · exact h.hds.lt
    · exact h.pat.lt
    · exact h.whn.lt
  have HPA := Lib.hid (And.intro hp hlt)
  have HTW := Lib.hid h
  have HLEN := Lib.hid hm.len
  clear h hm L0 M0 hm0 T0 F0 hp hlt
  by_cases hbad : m.kind ≠ 11 ∨ checkV m ≠ 0 ∨ m.domain ≠ t.dom
  · have hE : t.inE at_ m = 23 := if_pos hbad
    have hV : t.in_ at_ m now = t := by unfold Tre.in_; rw [if_neg (by rw [hE]; decide)]
    rw [hE, hV]
    clear hE hV
    have hcase : m.kind ≠ 11 ∨ m.kind = 11 ∧ checkV m ≠ 0 ∨ m.kind = 11 ∧ checkV m = 0 ∧ m.domain ≠ t.dom := by
      by_cases a1 : m.kind = 11
      · by_cases a2 : checkV m = 0
        · rcases hbad with h | h | h
          · exact absurd a1 h
          · exact absurd a2 h
          · exact .inr (.inr ⟨a1, a2, h⟩)
        · exact .inr (.inl ⟨a1, a2⟩)
      · exact .inl a1
    clear hbad
    rcases hcase with h1 | ⟨h1, h2⟩ | ⟨h1, h2, h3⟩
    · have d1 : (m.kind != 11) = true := bne_iff_ne.2 h1
      clear h1
      go_enter Try.func13, Try.ntmps13
      go_wp2_with fail
      generalize w.alloc (.cells (mcells m A n cc) 38) = w0 at *
      refine wp_region_class (fun w' => Below w0.heap.size w0 w') (by kernel_rfl) (by kernel_rfl) (Below.refl _ _).drew ?_
      repeat (first | (with_reducible (refine wpQuiet_skip ?_ ?_); (first | exact wanted_off rfl rfl rfl rfl | exact wanted_off2 rfl rfl rfl); simp only [Act.put, List.setIfInBounds_toArray, List.set_cons_zero, List.set_cons_succ]) | (refine wpQuiet_val (v := .agg (mcells m A n cc)) ?_ (fun w' hw' => run_load_whole_d 38 (.tmp 6) rfl rfl (HM0.out.below hw' s0) Try.underlying38 rfl (by kernel_rfl)) ?_; (first | exact wanted_none rfl | exact wanted_on rfl rfl rfl); simp only [Act.put, List.setIfInBounds_toArray, List.set_cons_zero, List.set_cons_succ]) | (with_reducible (refine wpQuiet_val (v := ?_) ?_ ?_ ?_); rotate_left; (first | exact wanted_none rfl | exact wanted_on rfl rfl rfl); (intro w' hw'; obtain ⟨hc, hf⟩ := bcell hw'; go_simp; with_reducible rfl); simp only [Act.put, List.setIfInBounds_toArray, List.set_cons_zero, List.set_cons_succ]) | (with_reducible (refine wpQuiet_call (v := ?_) 15 ?_ ?_ ?_ ?_ ?_); rotate_left 2; (first | exact wanted_none rfl | exact wanted_on rfl rfl rfl); (intro w' hw'; obtain ⟨hc, hf⟩ := bcell hw'; go_simp; with_reducible rfl); (intro w' hw'; (with_reducible refine (check_m m A n cc _ ((Hm0.out.below hw').more hw'.size).reads HLEN.out Hm0.out.most).mono ?_); rintro e w2 ⟨rfl, hb⟩; refine ⟨?_, hw'.trans (hb.mono (by have h0 := hw'.size; first | omega | (simp at h0; omega)))⟩; with_reducible rfl); simp only [Act.put, List.setIfInBounds_toArray, List.set_cons_zero, List.set_cons_succ]))
      refine wpQuiet_nil ?_
      intro w4 hw4
      have hT4 := HT0.out.kept hw4
      have hF4 := HF0.out.trans (Fr.be hw4)
      clear hw4 x0 x1 y0 st
      go_wp2_with fail
      go_ret
      exact ⟨rfl, ⟨ps, hT4, PNew.refl⟩, hF4⟩
    · have d1 : (m.kind != 11) = false := by rw [h1]; rfl
      have d2 : (checkV m != 0) = true := bne_iff_ne.2 h2
      clear h1 h2
      go_enter Try.func13, Try.ntmps13
      go_wp2_with fail
      generalize w.alloc (.cells (mcells m A n cc) 38) = w0 at *
      refine wp_region_class (fun w' => Below w0.heap.size w0 w') (by kernel_rfl) (by kernel_rfl) (Below.refl _ _).drew ?_
      repeat (first | (with_reducible (refine wpQuiet_skip ?_ ?_); (first | exact wanted_off rfl rfl rfl rfl | exact wanted_off2 rfl rfl rfl); simp only [Act.put, List.setIfInBounds_toArray, List.set_cons_zero, List.set_cons_succ]) | (refine wpQuiet_val (v := .agg (mcells m A n cc)) ?_ (fun w' hw' => run_load_whole_d 38 (.tmp 6) rfl rfl (HM0.out.below hw' s0) Try.underlying38 rfl (by kernel_rfl)) ?_; (first | exact wanted_none rfl | exact wanted_on rfl rfl rfl); simp only [Act.put, List.setIfInBounds_toArray, List.set_cons_zero, List.set_cons_succ]) | (with_reducible (refine wpQuiet_val (v := ?_) ?_ ?_ ?_); rotate_left; (first | exact wanted_none rfl | exact wanted_on rfl rfl rfl); (intro w' hw'; obtain ⟨hc, hf⟩ := bcell hw'; go_simp; with_reducible rfl); simp only [Act.put, List.setIfInBounds_toArray, List.set_cons_zero, List.set_cons_succ]) | (with_reducible (refine wpQuiet_call (v := ?_) 15 ?_ ?_ ?_ ?_ ?_); rotate_left 2; (first | exact wanted_none rfl | exact wanted_on rfl rfl rfl); (intro w' hw'; obtain ⟨hc, hf⟩ := bcell hw'; go_simp; with_reducible rfl); (intro w' hw'; (with_reducible refine (check_m m A n cc _ ((Hm0.out.below hw').more hw'.size).reads HLEN.out Hm0.out.most).mono ?_); rintro e w2 ⟨rfl, hb⟩; refine ⟨?_, hw'.trans (hb.mono (by have h0 := hw'.size; first | omega | (simp at h0; omega)))⟩; with_reducible rfl); simp only [Act.put, List.setIfInBounds_toArray, List.set_cons_zero, List.set_cons_succ]))
      refine wpQuiet_nil ?_
      intro w4 hw4
      have hT4 := HT0.out.kept hw4
      have hF4 := HF0.out.trans (Fr.be hw4)
      clear hw4 x0 x1 y0 st
      go_wp2_with fail
      go_ret
      exact ⟨rfl, ⟨ps, hT4, PNew.refl⟩, hF4⟩
    · have d1 : (m.kind != 11) = false := by rw [h1]; rfl
      have d2 : (checkV m != 0) = false := by rw [h2]; rfl
      have d3 : (m.domain != t.dom) = true := bne_iff_ne.2 h3
      clear h1 h2 h3
      go_enter Try.func13, Try.ntmps13
      go_wp2_with fail
      generalize w.alloc (.cells (mcells m A n cc) 38) = w0 at *
      refine wp_region_class (fun w' => Below w0.heap.size w0 w') (by kernel_rfl) (by kernel_rfl) (Below.refl _ _).drew ?_
      repeat (first | (with_reducible (refine wpQuiet_skip ?_ ?_); (first | exact wanted_off rfl rfl rfl rfl | exact wanted_off2 rfl rfl rfl); simp only [Act.put, List.setIfInBounds_toArray, List.set_cons_zero, List.set_cons_succ]) | (refine wpQuiet_val (v := .agg (mcells m A n cc)) ?_ (fun w' hw' => run_load_whole_d 38 (.tmp 6) rfl rfl (HM0.out.below hw' s0) Try.underlying38 rfl (by kernel_rfl)) ?_; (first | exact wanted_none rfl | exact wanted_on rfl rfl rfl); simp only [Act.put, List.setIfInBounds_toArray, List.set_cons_zero, List.set_cons_succ]) | (with_reducible (refine wpQuiet_val (v := ?_) ?_ ?_ ?_); rotate_left; (first | exact wanted_none rfl | exact wanted_on rfl rfl rfl); (intro w' hw'; obtain ⟨hc, hf⟩ := bcell hw'; go_simp; with_reducible rfl); simp only [Act.put, List.setIfInBounds_toArray, List.set_cons_zero, List.set_cons_succ]) | (with_reducible (refine wpQuiet_call (v := ?_) 15 ?_ ?_ ?_ ?_ ?_); rotate_left 2; (first | exact wanted_none rfl | exact wanted_on rfl rfl rfl); (intro w' hw'; obtain ⟨hc, hf⟩ := bcell hw'; go_simp; with_reducible rfl); (intro w' hw'; (with_reducible refine (check_m m A n cc _ ((Hm0.out.below hw').more hw'.size).reads HLEN.out Hm0.out.most).mono ?_); rintro e w2 ⟨rfl, hb⟩; refine ⟨?_, hw'.trans (hb.mono (by have h0 := hw'.size; first | omega | (simp at h0; omega)))⟩; with_reducible rfl); simp only [Act.put, List.setIfInBounds_toArray, List.set_cons_zero, List.set_cons_succ]))
      refine wpQuiet_nil ?_
      intro w4 hw4
      have hT4 := HT0.out.kept hw4
      have hF4 := HF0.out.trans (Fr.be hw4)
      clear hw4 x0 x1 y0 st
      go_wp2_with fail
      go_ret
      exact ⟨rfl, ⟨ps, hT4, PNew.refl⟩, hF4⟩
  have HOK := Lib.hid hbad
  have g1 : m.kind = 11 := Decidable.not_not.1 fun a => hbad (.inl a)
  have g2 : checkV m = 0 := Decidable.not_not.1 fun a => hbad (.inr (.inl a))
  have g3 : m.domain = t.dom := Decidable.not_not.1 fun a => hbad (.inr (.inr a))
  have d1 : (m.kind != 11) = false := by rw [g1]; rfl
  have d2 : (checkV m != 0) = false := by rw [g2]; rfl
  have d3 : (m.domain != t.dom) = false := by rw [g3]; simp
  clear hbad g1 g2 g3
  by_cases hup : t.upAt at_ = false
  · have hE : t.inE at_ m = 40 := by unfold Tre.inE; rw [if_neg HOK.out, if_pos hup]
    have hV : t.in_ at_ m now = t := by unfold Tre.in_; rw [if_neg (by rw [hE]; decide)]
    rw [hE, hV]
    clear hE hV
    by_cases h0 : at_ < 0
    · clear hup
      go_enter Try.func13, Try.ntmps13
      go_wp2_with fail
      generalize w.alloc (.cells (mcells m A n cc) 38) = w0 at *
      refine wp_region_class (fun w' => Below w0.heap.size w0 w') (by kernel_rfl) (by kernel_rfl) (Below.refl _ _).drew ?_
      repeat (first | (with_reducible (refine wpQuiet_skip ?_ ?_); (first | exact wanted_off rfl rfl rfl rfl | exact wanted_off2 rfl rfl rfl); simp only [Act.put, List.setIfInBounds_toArray, List.set_cons_zero, List.set_cons_succ]) | (refine wpQuiet_val (v := .agg (mcells m A n cc)) ?_ (fun w' hw' => run_load_whole_d 38 (.tmp 6) rfl rfl (HM0.out.below hw' s0) Try.underlying38 rfl (by kernel_rfl)) ?_; (first | exact wanted_none rfl | exact wanted_on rfl rfl rfl); simp only [Act.put, List.setIfInBounds_toArray, List.set_cons_zero, List.set_cons_succ]) | (with_reducible (refine wpQuiet_val (v := ?_) ?_ ?_ ?_); rotate_left; (first | exact wanted_none rfl | exact wanted_on rfl rfl rfl); (intro w' hw'; obtain ⟨hc, hf⟩ := bcell hw'; go_simp; with_reducible rfl); simp only [Act.put, List.setIfInBounds_toArray, List.set_cons_zero, List.set_cons_succ]) | (with_reducible (refine wpQuiet_call (v := ?_) 15 ?_ ?_ ?_ ?_ ?_); rotate_left 2; (first | exact wanted_none rfl | exact wanted_on rfl rfl rfl); (intro w' hw'; obtain ⟨hc, hf⟩ := bcell hw'; go_simp; with_reducible rfl); (intro w' hw'; (with_reducible refine (check_m m A n cc _ ((Hm0.out.below hw').more hw'.size).reads HLEN.out Hm0.out.most).mono ?_); rintro e w2 ⟨rfl, hb⟩; refine ⟨?_, hw'.trans (hb.mono (by have h0 := hw'.size; first | omega | (simp at h0; omega)))⟩; with_reducible rfl); simp only [Act.put, List.setIfInBounds_toArray, List.set_cons_zero, List.set_cons_succ]))
      refine wpQuiet_nil ?_
      intro w4 hw4
      have HT4 := Lib.hid (HT0.out.kept hw4)
      have HF4 := Lib.hid (HF0.out.trans (Fr.be hw4))
      have HM4 := Lib.hid (HM0.out.below hw4 s0)
      have Hm4 := Lib.hid ((Hm0.out.below hw4).more hw4.size)
      clear hw4 x0 x1 y0 st HT0 HM0 Hm0 HF0 d1 d2 d3
      clear HM4
      go_wp2_with fail
      go_ret
      exact ⟨rfl, ⟨ps, HT4.out, PNew.refl⟩, HF4.out⟩
    obtain ⟨k, rfl⟩ := Int.eq_ofNat_of_zero_le (show 0 ≤ at_ by omega)
    have d0 : decide ((k : Int) < 0) = false := decide_eq_false h0
    clear h0
    by_cases hk : t.es.length ≤ k
    · have dk : (t.es.length : Int) ≤ (k : Int) := by omega
      clear hup hk
      go_enter Try.func13, Try.ntmps13
      go_wp2_with fail
      generalize w.alloc (.cells (mcells m A n cc) 38) = w0 at *
      refine wp_region_class (fun w' => Below w0.heap.size w0 w') (by kernel_rfl) (by kernel_rfl) (Below.refl _ _).drew ?_
      repeat (first | (with_reducible (refine wpQuiet_skip ?_ ?_); (first | exact wanted_off rfl rfl rfl rfl | exact wanted_off2 rfl rfl rfl); simp only [Act.put, List.setIfInBounds_toArray, List.set_cons_zero, List.set_cons_succ]) | (refine wpQuiet_val (v := .agg (mcells m A n cc)) ?_ (fun w' hw' => run_load_whole_d 38 (.tmp 6) rfl rfl (HM0.out.below hw' s0) Try.underlying38 rfl (by kernel_rfl)) ?_; (first | exact wanted_none rfl | exact wanted_on rfl rfl rfl); simp only [Act.put, List.setIfInBounds_toArray, List.set_cons_zero, List.set_cons_succ]) | (with_reducible (refine wpQuiet_val (v := ?_) ?_ ?_ ?_); rotate_left; (first | exact wanted_none rfl | exact wanted_on rfl rfl rfl); (intro w' hw'; obtain ⟨hc, hf⟩ := bcell hw'; go_simp; with_reducible rfl); simp only [Act.put, List.setIfInBounds_toArray, List.set_cons_zero, List.set_cons_succ]) | (with_reducible (refine wpQuiet_call (v := ?_) 15 ?_ ?_ ?_ ?_ ?_); rotate_left 2; (first | exact wanted_none rfl | exact wanted_on rfl rfl rfl); (intro w' hw'; obtain ⟨hc, hf⟩ := bcell hw'; go_simp; with_reducible rfl); (intro w' hw'; (with_reducible refine (check_m m A n cc _ ((Hm0.out.below hw').more hw'.size).reads HLEN.out Hm0.out.most).mono ?_); rintro e w2 ⟨rfl, hb⟩; refine ⟨?_, hw'.trans (hb.mono (by have h0 := hw'.size; first | omega | (simp at h0; omega)))⟩; with_reducible rfl); simp only [Act.put, List.setIfInBounds_toArray, List.set_cons_zero, List.set_cons_succ]))
      refine wpQuiet_nil ?_
      intro w4 hw4
      have HT4 := Lib.hid (HT0.out.kept hw4)
      have HF4 := Lib.hid (HF0.out.trans (Fr.be hw4))
      have HM4 := Lib.hid (HM0.out.below hw4 s0)
      have Hm4 := Lib.hid ((Hm0.out.below hw4).more hw4.size)
      clear hw4 x0 x1 y0 st HT0 HM0 Hm0 HF0 d1 d2 d3
      have y6 := HT4.out.box.cellOf (v := .slice (some ⟨b.gu, 0, none⟩) t.es.length t.es.length) 6 rfl
      clear HM4
      go_wp2_with fail
      go_ret
      exact ⟨rfl, ⟨ps, HT4.out, PNew.refl⟩, HF4.out⟩
    · have hkn : k < t.es.length := by omega
      obtain ⟨en, hen⟩ : ∃ en, t.es[k]? = some en := ⟨_, List.getElem?_eq_getElem hkn⟩
      have hu : en.up = false := by unfold Tre.upAt at hup; simp only [Int.toNat_natCast, hen] at hup; simpa using hup
      have dk : decide (t.es.length ≤ k) = false := decide_eq_false hk
      have HEN := Lib.hid hen
      clear hup hk hen
      go_enter Try.func13, Try.ntmps13
      go_wp2_with fail
      generalize w.alloc (.cells (mcells m A n cc) 38) = w0 at *
      refine wp_region_class (fun w' => Below w0.heap.size w0 w') (by kernel_rfl) (by kernel_rfl) (Below.refl _ _).drew ?_
      repeat (first | (with_reducible (refine wpQuiet_skip ?_ ?_); (first | exact wanted_off rfl rfl rfl rfl | exact wanted_off2 rfl rfl rfl); simp only [Act.put, List.setIfInBounds_toArray, List.set_cons_zero, List.set_cons_succ]) | (refine wpQuiet_val (v := .agg (mcells m A n cc)) ?_ (fun w' hw' => run_load_whole_d 38 (.tmp 6) rfl rfl (HM0.out.below hw' s0) Try.underlying38 rfl (by kernel_rfl)) ?_; (first | exact wanted_none rfl | exact wanted_on rfl rfl rfl); simp only [Act.put, List.setIfInBounds_toArray, List.set_cons_zero, List.set_cons_succ]) | (with_reducible (refine wpQuiet_val (v := ?_) ?_ ?_ ?_); rotate_left; (first | exact wanted_none rfl | exact wanted_on rfl rfl rfl); (intro w' hw'; obtain ⟨hc, hf⟩ := bcell hw'; go_simp; with_reducible rfl); simp only [Act.put, List.setIfInBounds_toArray, List.set_cons_zero, List.set_cons_succ]) | (with_reducible (refine wpQuiet_call (v := ?_) 15 ?_ ?_ ?_ ?_ ?_); rotate_left 2; (first | exact wanted_none rfl | exact wanted_on rfl rfl rfl); (intro w' hw'; obtain ⟨hc, hf⟩ := bcell hw'; go_simp; with_reducible rfl); (intro w' hw'; (with_reducible refine (check_m m A n cc _ ((Hm0.out.below hw').more hw'.size).reads HLEN.out Hm0.out.most).mono ?_); rintro e w2 ⟨rfl, hb⟩; refine ⟨?_, hw'.trans (hb.mono (by have h0 := hw'.size; first | omega | (simp at h0; omega)))⟩; with_reducible rfl); simp only [Act.put, List.setIfInBounds_toArray, List.set_cons_zero, List.set_cons_succ]))
      refine wpQuiet_nil ?_
      intro w4 hw4
      have HT4 := Lib.hid (HT0.out.kept hw4)
      have HF4 := Lib.hid (HF0.out.trans (Fr.be hw4))
      have HM4 := Lib.hid (HM0.out.below hw4 s0)
      have Hm4 := Lib.hid ((Hm0.out.below hw4).more hw4.size)
      clear hw4 x0 x1 y0 st HT0 HM0 Hm0 HF0 d1 d2 d3
      have y6 := HT4.out.box.cellOf (v := .slice (some ⟨b.gu, 0, none⟩) t.es.length t.es.length) 6 rfl
      have z0 := HT4.out.ups.cellOf k (ucs_at HEN.out)
      rw [hu] at z0
      clear HM4 hu
      go_wp2_with fail
      go_ret
      exact ⟨rfl, ⟨ps, HT4.out, PNew.refl⟩, HF4.out⟩
  have h0 : ¬ at_ < 0 := fun a => hup (by unfold Tre.upAt; rw [decide_eq_false (by omega)]; rfl)
  obtain ⟨k, rfl⟩ := Int.eq_ofNat_of_zero_le (show 0 ≤ at_ by omega)
  have d0 : decide ((k : Int) < 0) = false := decide_eq_false h0
  obtain ⟨en, hen, hu⟩ : ∃ en, t.es[k]? = some en ∧ en.up = true := by
    unfold Tre.upAt at hup
    simp only [Int.toNat_natCast] at hup
    cases hx : t.es[k]? with
    | none => rw [hx] at hup; simp at hup
    | some en => rw [hx] at hup; exact ⟨en, rfl, by simpa using hup⟩
  have hkn : k < t.es.length := (List.getElem?_eq_some_iff.1 hen).1
  have dk : decide (t.es.length ≤ k) = false := decide_eq_false (by omega)
  have HEN := Lib.hid hen
  have HUP := Lib.hid hup
  clear hen h0 hup
  by_cases hord : m.src = t.own.id ∨ t.own.id ∈ m.path ∨ 255 ≤ m.steps ∨ 32 ≤ m.path.length
  · have hE : t.inE (k : Int) m = 31 := by unfold Tre.inE; rw [if_neg HOK.out, if_neg HUP.out, if_pos hord]
    have hV : t.in_ (k : Int) m now = t := by unfold Tre.in_; rw [if_neg (by rw [hE]; decide)]
    rw [hE, hV]
    clear hE hV
    have hcase : m.src = t.own.id ∨ m.src ≠ t.own.id ∧ t.own.id ∈ m.path ∨ m.src ≠ t.own.id ∧ t.own.id ∉ m.path ∧ 255 ≤ m.steps ∨ m.src ≠ t.own.id ∧ t.own.id ∉ m.path ∧ m.steps < 255 ∧ 32 ≤ m.path.length := by
      by_cases a1 : m.src = t.own.id
      · exact .inl a1
      · by_cases a2 : t.own.id ∈ m.path
        · exact .inr (.inl ⟨a1, a2⟩)
        · rcases hord with h | h | h | h
          · exact absurd h a1
          · exact absurd h a2
          · exact .inr (.inr (.inl ⟨a1, a2, h⟩))
          · by_cases a3 : 255 ≤ m.steps
            · exact .inr (.inr (.inl ⟨a1, a2, a3⟩))
            · exact .inr (.inr (.inr ⟨a1, a2, by omega, h⟩))
    have hlen := Hm0.out.len
    clear hord
    rcases hcase with h1 | ⟨h1, h2⟩ | ⟨h1, h2, h3⟩ | ⟨h1, h2, h3, h4⟩
    · have e1 : (m.src == t.own.id) = true := beq_iff_eq.2 h1
      clear h1 hlen
      go_enter Try.func13, Try.ntmps13
      go_wp2_with fail
      generalize w.alloc (.cells (mcells m A n cc) 38) = w0 at *
      refine wp_region_class (fun w' => Below w0.heap.size w0 w') (by kernel_rfl) (by kernel_rfl) (Below.refl _ _).drew ?_
      repeat (first | (with_reducible (refine wpQuiet_skip ?_ ?_); (first | exact wanted_off rfl rfl rfl rfl | exact wanted_off2 rfl rfl rfl); simp only [Act.put, List.setIfInBounds_toArray, List.set_cons_zero, List.set_cons_succ]) | (refine wpQuiet_val (v := .agg (mcells m A n cc)) ?_ (fun w' hw' => run_load_whole_d 38 (.tmp 6) rfl rfl (HM0.out.below hw' s0) Try.underlying38 rfl (by kernel_rfl)) ?_; (first | exact wanted_none rfl | exact wanted_on rfl rfl rfl); simp only [Act.put, List.setIfInBounds_toArray, List.set_cons_zero, List.set_cons_succ]) | (with_reducible (refine wpQuiet_val (v := ?_) ?_ ?_ ?_); rotate_left; (first | exact wanted_none rfl | exact wanted_on rfl rfl rfl); (intro w' hw'; obtain ⟨hc, hf⟩ := bcell hw'; go_simp; with_reducible rfl); simp only [Act.put, List.setIfInBounds_toArray, List.set_cons_zero, List.set_cons_succ]) | (with_reducible (refine wpQuiet_call (v := ?_) 15 ?_ ?_ ?_ ?_ ?_); rotate_left 2; (first | exact wanted_none rfl | exact wanted_on rfl rfl rfl); (intro w' hw'; obtain ⟨hc, hf⟩ := bcell hw'; go_simp; with_reducible rfl); (intro w' hw'; (with_reducible refine (check_m m A n cc _ ((Hm0.out.below hw').more hw'.size).reads HLEN.out Hm0.out.most).mono ?_); rintro e w2 ⟨rfl, hb⟩; refine ⟨?_, hw'.trans (hb.mono (by have h0 := hw'.size; first | omega | (simp at h0; omega)))⟩; with_reducible rfl); simp only [Act.put, List.setIfInBounds_toArray, List.set_cons_zero, List.set_cons_succ]))
      refine wpQuiet_nil ?_
      intro w4 hw4
      have HT4 := Lib.hid (HT0.out.kept hw4)
      have HF4 := Lib.hid (HF0.out.trans (Fr.be hw4))
      have HM4 := Lib.hid (HM0.out.below hw4 s0)
      have Hm4 := Lib.hid ((Hm0.out.below hw4).more hw4.size)
      clear hw4 x0 x1 y0 st HT0 HM0 Hm0 HF0 d1 d2 d3
      have y6 := HT4.out.box.cellOf (v := .slice (some ⟨b.gu, 0, none⟩) t.es.length t.es.length) 6 rfl
      have z0 := HT4.out.ups.cellOf k (ucs_at HEN.out)
      rw [hu] at z0
      go_wp2_with fail
      have x3 := HM4.out.cellOf (v := .int .i64 m.src) 3 rfl
      have x14 := HM4.out.cellOf (v := .int .i64 m.steps) 14 rfl
      have x15 := HM4.out.cellOf (v := .slice A n cc) 15 rfl
      have y4 := HT4.out.box.cellOf (v := .int .i64 t.own.id) 4 rfl
      have s4 := HM4.out.lt
      have st4 := HT4.out.box.lt
      clear y6 z0
      refine wp_region_class (fun w' => Below w4.heap.size w4 w') (by kernel_rfl) (by kernel_rfl) (Below.refl _ _).drew ?_
      repeat (first | (with_reducible (refine wpQuiet_skip ?_ ?_); (first | exact wanted_off rfl rfl rfl rfl | exact wanted_off2 rfl rfl rfl); simp only [Act.put, List.setIfInBounds_toArray, List.set_cons_zero, List.set_cons_succ]) | (with_reducible (refine wpQuiet_val (v := ?_) ?_ ?_ ?_); rotate_left; (first | exact wanted_none rfl | exact wanted_on rfl rfl rfl); (intro w' hw'; obtain ⟨hc, hf⟩ := bcell hw'; go_simp; with_reducible rfl); simp only [Act.put, List.setIfInBounds_toArray, List.set_cons_zero, List.set_cons_succ]) | (with_reducible (refine wpQuiet_call (v := ?_) 22 ?_ ?_ ?_ ?_ ?_); rotate_left 2; (first | exact wanted_none rfl | exact wanted_on rfl rfl rfl); (intro w' hw'; obtain ⟨hc, hf⟩ := bcell hw'; go_simp; with_reducible rfl); (intro w' hw'; (with_reducible refine (contains_be m.path t.own.id A n cc _ ((Hm4.out.below hw').more hw'.size).reads Hm4.out.most).mono ?_); rintro e w2 ⟨rfl, hb⟩; refine ⟨?_, hw'.trans (hb.mono (by have h0 := hw'.size; first | omega | (simp at h0; omega)))⟩; with_reducible rfl); simp only [Act.put, List.setIfInBounds_toArray, List.set_cons_zero, List.set_cons_succ]))
      refine wpQuiet_nil ?_
      intro w5 hw5
      have hT5 := HT4.out.kept hw5
      have hF5 := HF4.out.trans (Fr.be hw5)
      clear hw5 x3 x14 x15 y4 s4 st4
      go_wp2_with fail
      go_ret
      exact ⟨rfl, ⟨ps, hT5, PNew.refl⟩, hF5⟩
    · have e1 : (m.src == t.own.id) = false := beq_eq_false_iff_ne.2 h1
      have e2 : decide (t.own.id ∈ m.path) = true := decide_eq_true h2
      clear h1 h2 hlen
      go_enter Try.func13, Try.ntmps13
      go_wp2_with fail
      generalize w.alloc (.cells (mcells m A n cc) 38) = w0 at *
      refine wp_region_class (fun w' => Below w0.heap.size w0 w') (by kernel_rfl) (by kernel_rfl) (Below.refl _ _).drew ?_
      repeat (first | (with_reducible (refine wpQuiet_skip ?_ ?_); (first | exact wanted_off rfl rfl rfl rfl | exact wanted_off2 rfl rfl rfl); simp only [Act.put, List.setIfInBounds_toArray, List.set_cons_zero, List.set_cons_succ]) | (refine wpQuiet_val (v := .agg (mcells m A n cc)) ?_ (fun w' hw' => run_load_whole_d 38 (.tmp 6) rfl rfl (HM0.out.below hw' s0) Try.underlying38 rfl (by kernel_rfl)) ?_; (first | exact wanted_none rfl | exact wanted_on rfl rfl rfl); simp only [Act.put, List.setIfInBounds_toArray, List.set_cons_zero, List.set_cons_succ]) | (with_reducible (refine wpQuiet_val (v := ?_) ?_ ?_ ?_); rotate_left; (first | exact wanted_none rfl | exact wanted_on rfl rfl rfl); (intro w' hw'; obtain ⟨hc, hf⟩ := bcell hw'; go_simp; with_reducible rfl); simp only [Act.put, List.setIfInBounds_toArray, List.set_cons_zero, List.set_cons_succ]) | (with_reducible (refine wpQuiet_call (v := ?_) 15 ?_ ?_ ?_ ?_ ?_); rotate_left 2; (first | exact wanted_none rfl | exact wanted_on rfl rfl rfl); (intro w' hw'; obtain ⟨hc, hf⟩ := bcell hw'; go_simp; with_reducible rfl); (intro w' hw'; (with_reducible refine (check_m m A n cc _ ((Hm0.out.below hw').more hw'.size).reads HLEN.out Hm0.out.most).mono ?_); rintro e w2 ⟨rfl, hb⟩; refine ⟨?_, hw'.trans (hb.mono (by have h0 := hw'.size; first | omega | (simp at h0; omega)))⟩; with_reducible rfl); simp only [Act.put, List.setIfInBounds_toArray, List.set_cons_zero, List.set_cons_succ]))
      refine wpQuiet_nil ?_
      intro w4 hw4
      have HT4 := Lib.hid (HT0.out.kept hw4)
      have HF4 := Lib.hid (HF0.out.trans (Fr.be hw4))
      have HM4 := Lib.hid (HM0.out.below hw4 s0)
      have Hm4 := Lib.hid ((Hm0.out.below hw4).more hw4.size)
      clear hw4 x0 x1 y0 st HT0 HM0 Hm0 HF0 d1 d2 d3
      have y6 := HT4.out.box.cellOf (v := .slice (some ⟨b.gu, 0, none⟩) t.es.length t.es.length) 6 rfl
      have z0 := HT4.out.ups.cellOf k (ucs_at HEN.out)
      rw [hu] at z0
      go_wp2_with fail
      have x3 := HM4.out.cellOf (v := .int .i64 m.src) 3 rfl
      have x14 := HM4.out.cellOf (v := .int .i64 m.steps) 14 rfl
      have x15 := HM4.out.cellOf (v := .slice A n cc) 15 rfl
      have y4 := HT4.out.box.cellOf (v := .int .i64 t.own.id) 4 rfl
      have s4 := HM4.out.lt
      have st4 := HT4.out.box.lt
      clear y6 z0
      refine wp_region_class (fun w' => Below w4.heap.size w4 w') (by kernel_rfl) (by kernel_rfl) (Below.refl _ _).drew ?_
      repeat (first | (with_reducible (refine wpQuiet_skip ?_ ?_); (first | exact wanted_off rfl rfl rfl rfl | exact wanted_off2 rfl rfl rfl); simp only [Act.put, List.setIfInBounds_toArray, List.set_cons_zero, List.set_cons_succ]) | (with_reducible (refine wpQuiet_val (v := ?_) ?_ ?_ ?_); rotate_left; (first | exact wanted_none rfl | exact wanted_on rfl rfl rfl); (intro w' hw'; obtain ⟨hc, hf⟩ := bcell hw'; go_simp; with_reducible rfl); simp only [Act.put, List.setIfInBounds_toArray, List.set_cons_zero, List.set_cons_succ]) | (with_reducible (refine wpQuiet_call (v := ?_) 22 ?_ ?_ ?_ ?_ ?_); rotate_left 2; (first | exact wanted_none rfl | exact wanted_on rfl rfl rfl); (intro w' hw'; obtain ⟨hc, hf⟩ := bcell hw'; go_simp; with_reducible rfl); (intro w' hw'; (with_reducible refine (contains_be m.path t.own.id A n cc _ ((Hm4.out.below hw').more hw'.size).reads Hm4.out.most).mono ?_); rintro e w2 ⟨rfl, hb⟩; refine ⟨?_, hw'.trans (hb.mono (by have h0 := hw'.size; first | omega | (simp at h0; omega)))⟩; with_reducible rfl); simp only [Act.put, List.setIfInBounds_toArray, List.set_cons_zero, List.set_cons_succ]))
      refine wpQuiet_nil ?_
      intro w5 hw5
      have hT5 := HT4.out.kept hw5
      have hF5 := HF4.out.trans (Fr.be hw5)
      clear hw5 x3 x14 x15 y4 s4 st4
      go_wp2_with fail
      go_ret
      exact ⟨rfl, ⟨ps, hT5, PNew.refl⟩, hF5⟩
    · have e1 : (m.src == t.own.id) = false := beq_eq_false_iff_ne.2 h1
      have e2 : decide (t.own.id ∈ m.path) = false := decide_eq_false h2
      clear h1 h2 hlen
      go_enter Try.func13, Try.ntmps13
      go_wp2_with fail
      generalize w.alloc (.cells (mcells m A n cc) 38) = w0 at *
      refine wp_region_class (fun w' => Below w0.heap.size w0 w') (by kernel_rfl) (by kernel_rfl) (Below.refl _ _).drew ?_
      repeat (first | (with_reducible (refine wpQuiet_skip ?_ ?_); (first | exact wanted_off rfl rfl rfl rfl | exact wanted_off2 rfl rfl rfl); simp only [Act.put, List.setIfInBounds_toArray, List.set_cons_zero, List.set_cons_succ]) | (refine wpQuiet_val (v := .agg (mcells m A n cc)) ?_ (fun w' hw' => run_load_whole_d 38 (.tmp 6) rfl rfl (HM0.out.below hw' s0) Try.underlying38 rfl (by kernel_rfl)) ?_; (first | exact wanted_none rfl | exact wanted_on rfl rfl rfl); simp only [Act.put, List.setIfInBounds_toArray, List.set_cons_zero, List.set_cons_succ]) | (with_reducible (refine wpQuiet_val (v := ?_) ?_ ?_ ?_); rotate_left; (first | exact wanted_none rfl | exact wanted_on rfl rfl rfl); (intro w' hw'; obtain ⟨hc, hf⟩ := bcell hw'; go_simp; with_reducible rfl); simp only [Act.put, List.setIfInBounds_toArray, List.set_cons_zero, List.set_cons_succ]) | (with_reducible (refine wpQuiet_call (v := ?_) 15 ?_ ?_ ?_ ?_ ?_); rotate_left 2; (first | exact wanted_none rfl | exact wanted_on rfl rfl rfl); (intro w' hw'; obtain ⟨hc, hf⟩ := bcell hw'; go_simp; with_reducible rfl); (intro w' hw'; (with_reducible refine (check_m m A n cc _ ((Hm0.out.below hw').more hw'.size).reads HLEN.out Hm0.out.most).mono ?_); rintro e w2 ⟨rfl, hb⟩; refine ⟨?_, hw'.trans (hb.mono (by have h0 := hw'.size; first | omega | (simp at h0; omega)))⟩; with_reducible rfl); simp only [Act.put, List.setIfInBounds_toArray, List.set_cons_zero, List.set_cons_succ]))
      refine wpQuiet_nil ?_
      intro w4 hw4
      have HT4 := Lib.hid (HT0.out.kept hw4)
      have HF4 := Lib.hid (HF0.out.trans (Fr.be hw4))
      have HM4 := Lib.hid (HM0.out.below hw4 s0)
      have Hm4 := Lib.hid ((Hm0.out.below hw4).more hw4.size)
      clear hw4 x0 x1 y0 st HT0 HM0 Hm0 HF0 d1 d2 d3
      have y6 := HT4.out.box.cellOf (v := .slice (some ⟨b.gu, 0, none⟩) t.es.length t.es.length) 6 rfl
      have z0 := HT4.out.ups.cellOf k (ucs_at HEN.out)
      rw [hu] at z0
      go_wp2_with fail
      have x3 := HM4.out.cellOf (v := .int .i64 m.src) 3 rfl
      have x14 := HM4.out.cellOf (v := .int .i64 m.steps) 14 rfl
      have x15 := HM4.out.cellOf (v := .slice A n cc) 15 rfl
      have y4 := HT4.out.box.cellOf (v := .int .i64 t.own.id) 4 rfl
      have s4 := HM4.out.lt
      have st4 := HT4.out.box.lt
      clear y6 z0
      refine wp_region_class (fun w' => Below w4.heap.size w4 w') (by kernel_rfl) (by kernel_rfl) (Below.refl _ _).drew ?_
      repeat (first | (with_reducible (refine wpQuiet_skip ?_ ?_); (first | exact wanted_off rfl rfl rfl rfl | exact wanted_off2 rfl rfl rfl); simp only [Act.put, List.setIfInBounds_toArray, List.set_cons_zero, List.set_cons_succ]) | (with_reducible (refine wpQuiet_val (v := ?_) ?_ ?_ ?_); rotate_left; (first | exact wanted_none rfl | exact wanted_on rfl rfl rfl); (intro w' hw'; obtain ⟨hc, hf⟩ := bcell hw'; go_simp; with_reducible rfl); simp only [Act.put, List.setIfInBounds_toArray, List.set_cons_zero, List.set_cons_succ]) | (with_reducible (refine wpQuiet_call (v := ?_) 22 ?_ ?_ ?_ ?_ ?_); rotate_left 2; (first | exact wanted_none rfl | exact wanted_on rfl rfl rfl); (intro w' hw'; obtain ⟨hc, hf⟩ := bcell hw'; go_simp; with_reducible rfl); (intro w' hw'; (with_reducible refine (contains_be m.path t.own.id A n cc _ ((Hm4.out.below hw').more hw'.size).reads Hm4.out.most).mono ?_); rintro e w2 ⟨rfl, hb⟩; refine ⟨?_, hw'.trans (hb.mono (by have h0 := hw'.size; first | omega | (simp at h0; omega)))⟩; with_reducible rfl); simp only [Act.put, List.setIfInBounds_toArray, List.set_cons_zero, List.set_cons_succ]))
      refine wpQuiet_nil ?_
      intro w5 hw5
      have hT5 := HT4.out.kept hw5
      have hF5 := HF4.out.trans (Fr.be hw5)
      clear hw5 x3 x14 x15 y4 s4 st4
      go_wp2_with fail
      go_ret
      exact ⟨rfl, ⟨ps, hT5, PNew.refl⟩, hF5⟩
    · have e1 : (m.src == t.own.id) = false := beq_eq_false_iff_ne.2 h1
      have e2 : decide (t.own.id ∈ m.path) = false := decide_eq_false h2
      have e3 : decide (255 ≤ m.steps) = false := decide_eq_false (by omega)
      have e4 : (32 : Int) ≤ (n : Int) := by omega
      clear h1 h2 h3 h4 hlen
      go_enter Try.func13, Try.ntmps13
      go_wp2_with fail
      generalize w.alloc (.cells (mcells m A n cc) 38) = w0 at *
      refine wp_region_class (fun w' => Below w0.heap.size w0 w') (by kernel_rfl) (by kernel_rfl) (Below.refl _ _).drew ?_
      repeat (first | (with_reducible (refine wpQuiet_skip ?_ ?_); (first | exact wanted_off rfl rfl rfl rfl | exact wanted_off2 rfl rfl rfl); simp only [Act.put, List.setIfInBounds_toArray, List.set_cons_zero, List.set_cons_succ]) | (refine wpQuiet_val (v := .agg (mcells m A n cc)) ?_ (fun w' hw' => run_load_whole_d 38 (.tmp 6) rfl rfl (HM0.out.below hw' s0) Try.underlying38 rfl (by kernel_rfl)) ?_; (first | exact wanted_none rfl | exact wanted_on rfl rfl rfl); simp only [Act.put, List.setIfInBounds_toArray, List.set_cons_zero, List.set_cons_succ]) | (with_reducible (refine wpQuiet_val (v := ?_) ?_ ?_ ?_); rotate_left; (first | exact wanted_none rfl | exact wanted_on rfl rfl rfl); (intro w' hw'; obtain ⟨hc, hf⟩ := bcell hw'; go_simp; with_reducible rfl); simp only [Act.put, List.setIfInBounds_toArray, List.set_cons_zero, List.set_cons_succ]) | (with_reducible (refine wpQuiet_call (v := ?_) 15 ?_ ?_ ?_ ?_ ?_); rotate_left 2; (first | exact wanted_none rfl | exact wanted_on rfl rfl rfl); (intro w' hw'; obtain ⟨hc, hf⟩ := bcell hw'; go_simp; with_reducible rfl); (intro w' hw'; (with_reducible refine (check_m m A n cc _ ((Hm0.out.below hw').more hw'.size).reads HLEN.out Hm0.out.most).mono ?_); rintro e w2 ⟨rfl, hb⟩; refine ⟨?_, hw'.trans (hb.mono (by have h0 := hw'.size; first | omega | (simp at h0; omega)))⟩; with_reducible rfl); simp only [Act.put, List.setIfInBounds_toArray, List.set_cons_zero, List.set_cons_succ]))
      refine wpQuiet_nil ?_
      intro w4 hw4
      have HT4 := Lib.hid (HT0.out.kept hw4)
      have HF4 := Lib.hid (HF0.out.trans (Fr.be hw4))
      have HM4 := Lib.hid (HM0.out.below hw4 s0)
      have Hm4 := Lib.hid ((Hm0.out.below hw4).more hw4.size)
      clear hw4 x0 x1 y0 st HT0 HM0 Hm0 HF0 d1 d2 d3
      have y6 := HT4.out.box.cellOf (v := .slice (some ⟨b.gu, 0, none⟩) t.es.length t.es.length) 6 rfl
      have z0 := HT4.out.ups.cellOf k (ucs_at HEN.out)
      rw [hu] at z0
      go_wp2_with fail
      have x3 := HM4.out.cellOf (v := .int .i64 m.src) 3 rfl
      have x14 := HM4.out.cellOf (v := .int .i64 m.steps) 14 rfl
      have x15 := HM4.out.cellOf (v := .slice A n cc) 15 rfl
      have y4 := HT4.out.box.cellOf (v := .int .i64 t.own.id) 4 rfl
      have s4 := HM4.out.lt
      have st4 := HT4.out.box.lt
      clear y6 z0
      refine wp_region_class (fun w' => Below w4.heap.size w4 w') (by kernel_rfl) (by kernel_rfl) (Below.refl _ _).drew ?_
      repeat (first | (with_reducible (refine wpQuiet_skip ?_ ?_); (first | exact wanted_off rfl rfl rfl rfl | exact wanted_off2 rfl rfl rfl); simp only [Act.put, List.setIfInBounds_toArray, List.set_cons_zero, List.set_cons_succ]) | (with_reducible (refine wpQuiet_val (v := ?_) ?_ ?_ ?_); rotate_left; (first | exact wanted_none rfl | exact wanted_on rfl rfl rfl); (intro w' hw'; obtain ⟨hc, hf⟩ := bcell hw'; go_simp; with_reducible rfl); simp only [Act.put, List.setIfInBounds_toArray, List.set_cons_zero, List.set_cons_succ]) | (with_reducible (refine wpQuiet_call (v := ?_) 22 ?_ ?_ ?_ ?_ ?_); rotate_left 2; (first | exact wanted_none rfl | exact wanted_on rfl rfl rfl); (intro w' hw'; obtain ⟨hc, hf⟩ := bcell hw'; go_simp; with_reducible rfl); (intro w' hw'; (with_reducible refine (contains_be m.path t.own.id A n cc _ ((Hm4.out.below hw').more hw'.size).reads Hm4.out.most).mono ?_); rintro e w2 ⟨rfl, hb⟩; refine ⟨?_, hw'.trans (hb.mono (by have h0 := hw'.size; first | omega | (simp at h0; omega)))⟩; with_reducible rfl); simp only [Act.put, List.setIfInBounds_toArray, List.set_cons_zero, List.set_cons_succ]))
      refine wpQuiet_nil ?_
      intro w5 hw5
      have hT5 := HT4.out.kept hw5
      have hF5 := HF4.out.trans (Fr.be hw5)
      clear hw5 x3 x14 x15 y4 s4 st4
      go_wp2_with fail
      go_ret
      exact ⟨rfl, ⟨ps, hT5, PNew.refl⟩, hF5⟩
  · have hE : t.inE (k : Int) m = 0 := by unfold Tre.inE; rw [if_neg HOK.out, if_neg HUP.out, if_neg hord]
    have hV : t.in_ (k : Int) m now = { t with es := t.es.set k ⟨true, true, ⟨⟨m.one, m.cls, m.two, m.id⟩, m.steps, m.src, m.port, 0⟩, m.path, now⟩ } := by
      unfold Tre.in_
      rw [if_pos hE, Int.toNat_natCast]
      unfold Tre.put
      rw [HEN.out]
      simp only [hu]
    rw [hE, hV]
    have hlen := Hm0.out.len
    have e1 : (m.src == t.own.id) = false := beq_eq_false_iff_ne.2 fun a => hord (.inl a)
    have e2 : decide (t.own.id ∈ m.path) = false := decide_eq_false fun a => hord (.inr (.inl a))
    have e3 : decide (255 ≤ m.steps) = false := decide_eq_false fun a => hord (.inr (.inr (.inl a)))
    have e4 : decide ((32 : Int) ≤ (n : Int)) = false := decide_eq_false fun a => hord (.inr (.inr (.inr (by omega))))
    have hn32 : n < 32 := by have := of_decide_eq_false e4; omega
    clear hE hV hord hlen
    go_enter Try.func13, Try.ntmps13
    go_wp2_with fail
    generalize w.alloc (.cells (mcells m A n cc) 38) = w0 at *
    refine wp_region_class (fun w' => Below w0.heap.size w0 w') (by kernel_rfl) (by kernel_rfl) (Below.refl _ _).drew ?_
    repeat (first | (with_reducible (refine wpQuiet_skip ?_ ?_); (first | exact wanted_off rfl rfl rfl rfl | exact wanted_off2 rfl rfl rfl); simp only [Act.put, List.setIfInBounds_toArray, List.set_cons_zero, List.set_cons_succ]) | (refine wpQuiet_val (v := .agg (mcells m A n cc)) ?_ (fun w' hw' => run_load_whole_d 38 (.tmp 6) rfl rfl (HM0.out.below hw' s0) Try.underlying38 rfl (by kernel_rfl)) ?_; (first | exact wanted_none rfl | exact wanted_on rfl rfl rfl); simp only [Act.put, List.setIfInBounds_toArray, List.set_cons_zero, List.set_cons_succ]) | (with_reducible (refine wpQuiet_val (v := ?_) ?_ ?_ ?_); rotate_left; (first | exact wanted_none rfl | exact wanted_on rfl rfl rfl); (intro w' hw'; obtain ⟨hc, hf⟩ := bcell hw'; go_simp; with_reducible rfl); simp only [Act.put, List.setIfInBounds_toArray, List.set_cons_zero, List.set_cons_succ]) | (with_reducible (refine wpQuiet_call (v := ?_) 15 ?_ ?_ ?_ ?_ ?_); rotate_left 2; (first | exact wanted_none rfl | exact wanted_on rfl rfl rfl); (intro w' hw'; obtain ⟨hc, hf⟩ := bcell hw'; go_simp; with_reducible rfl); (intro w' hw'; (with_reducible refine (check_m m A n cc _ ((Hm0.out.below hw').more hw'.size).reads HLEN.out Hm0.out.most).mono ?_); rintro e w2 ⟨rfl, hb⟩; refine ⟨?_, hw'.trans (hb.mono (by have h0 := hw'.size; first | omega | (simp at h0; omega)))⟩; with_reducible rfl); simp only [Act.put, List.setIfInBounds_toArray, List.set_cons_zero, List.set_cons_succ]))
    refine wpQuiet_nil ?_
    intro w4 hw4
    have HT4 := Lib.hid (HT0.out.kept hw4)
    have HF4 := Lib.hid (HF0.out.trans (Fr.be hw4))
    have HM4 := Lib.hid (HM0.out.below hw4 s0)
    have Hm4 := Lib.hid ((Hm0.out.below hw4).more hw4.size)
    clear hw4 x0 x1 y0 st HT0 HM0 Hm0 HF0 d1 d2 d3
    have y6 := HT4.out.box.cellOf (v := .slice (some ⟨b.gu, 0, none⟩) t.es.length t.es.length) 6 rfl
    have z0 := HT4.out.ups.cellOf k (ucs_at HEN.out)
    rw [hu] at z0
    go_wp2_with fail
    have x3 := HM4.out.cellOf (v := .int .i64 m.src) 3 rfl
    have x14 := HM4.out.cellOf (v := .int .i64 m.steps) 14 rfl
    have x15 := HM4.out.cellOf (v := .slice A n cc) 15 rfl
    have y4 := HT4.out.box.cellOf (v := .int .i64 t.own.id) 4 rfl
    have s4 := HM4.out.lt
    have st4 := HT4.out.box.lt
    clear y6 z0
    refine wp_region_class (fun w' => Below w4.heap.size w4 w') (by kernel_rfl) (by kernel_rfl) (Below.refl _ _).drew ?_
    repeat (first | (with_reducible (refine wpQuiet_skip ?_ ?_); (first | exact wanted_off rfl rfl rfl rfl | exact wanted_off2 rfl rfl rfl); simp only [Act.put, List.setIfInBounds_toArray, List.set_cons_zero, List.set_cons_succ]) | (with_reducible (refine wpQuiet_val (v := ?_) ?_ ?_ ?_); rotate_left; (first | exact wanted_none rfl | exact wanted_on rfl rfl rfl); (intro w' hw'; obtain ⟨hc, hf⟩ := bcell hw'; go_simp; with_reducible rfl); simp only [Act.put, List.setIfInBounds_toArray, List.set_cons_zero, List.set_cons_succ]) | (with_reducible (refine wpQuiet_call (v := ?_) 22 ?_ ?_ ?_ ?_ ?_); rotate_left 2; (first | exact wanted_none rfl | exact wanted_on rfl rfl rfl); (intro w' hw'; obtain ⟨hc, hf⟩ := bcell hw'; go_simp; with_reducible rfl); (intro w' hw'; (with_reducible refine (contains_be m.path t.own.id A n cc _ ((Hm4.out.below hw').more hw'.size).reads Hm4.out.most).mono ?_); rintro e w2 ⟨rfl, hb⟩; refine ⟨?_, hw'.trans (hb.mono (by have h0 := hw'.size; first | omega | (simp at h0; omega)))⟩; with_reducible rfl); simp only [Act.put, List.setIfInBounds_toArray, List.set_cons_zero, List.set_cons_succ]))
    refine wpQuiet_nil ?_
    intro w5 hw5
    have HT5 := Lib.hid (HT4.out.kept hw5)
    have HM5 := Lib.hid (HM4.out.below hw5 HM4.out.lt)
    have Hm5 := Lib.hid ((Hm4.out.below hw5).more hw5.size)
    have HF5 := Lib.hid (HF4.out.trans (Fr.be hw5))
    clear hw5 HT4 HM4 Hm4 HF4 e1 e2 e3 e4 x14 x3 x15 y4 s4 st4
    go_wp2_with fail
    have E7 := HT5.out.box
    have M7 := HM5.out
    have HZ : Hid (k * 10 + 10 ≤ (hcs t.es).size) := Lib.hid (by unfold hcs; rw [List.size_toArray, hcells_len, List.length_map]; omega)
    refine wp_region_tree [16] (.free 0 (.free 1 (.free 2 (.take 3 (.free 4 (.free 5 (.take 6 (.free 7 (.take 8 (.free 9 (.take 10 (.free 11 (.take 12 (.free 13 (.free 14 (.free 15 (.wr 16 .nil))))))))))))))))) (fun w' => Blk w' b.g 75 (tcs b t) ∧ Blk w' w.heap.size 38 (mcells m A n cc)) (by kernel_rfl) (by kernel_rfl) (fun _ _ _ _ _ h => h) ⟨E7, M7⟩ ?_
    have X2 : Blk w5.drew b.gh 80 (hcs t.es) := HT5.out.hds
    have HS6 : Hid (Fr b.turn w w5.drew ∧ Blk w5.drew b.gp 32 ps.toArray ∧ Blk w5.drew b.gw 3 (wcs t.es) ∧ Blk w5.drew b.g 75 (tcs b t) ∧ Blk w5.drew b.gu 4 (ucs t.es) ∧ Blk w5.drew w.heap.size 38 (mcells m A n cc)) :=
      Lib.hid ⟨⟨HF5.out.os, HF5.out.tape, HF5.out.output, HF5.out.size, HF5.out.block⟩, HT5.out.pat, HT5.out.whn, E7, HT5.out.ups, M7⟩
    clear E7 M7 HF5 Hm5 HM5
    generalize w5.drew = w6 at *
    (with_reducible (refine tr_free (v := ?_) rfl ?_ ?_ ?_); rotate_left; (first | exact wanted_none rfl | exact wanted_on rfl rfl rfl); (intro w'; go_simp; with_reducible rfl); simp only [Act.put, List.setIfInBounds_toArray, List.set_cons_zero, List.set_cons_succ])
    (with_reducible (refine tr_free (v := ?_) rfl ?_ ?_ ?_); rotate_left; (first | exact wanted_none rfl | exact wanted_on rfl rfl rfl); (intro w'; go_simp; with_reducible rfl); simp only [Act.put, List.setIfInBounds_toArray, List.set_cons_zero, List.set_cons_succ])
    (with_reducible (refine tr_free (v := ?_) rfl ?_ ?_ ?_); rotate_left; (first | exact wanted_none rfl | exact wanted_on rfl rfl rfl); (intro w'; go_simp; with_reducible rfl); simp only [Act.put, List.setIfInBounds_toArray, List.set_cons_zero, List.set_cons_succ])
    (with_reducible (refine tr_take (v := ?_) rfl ?_ ?_ ?_); rotate_left; (first | exact wanted_none rfl | exact wanted_on rfl rfl rfl); (rintro w' ⟨u1, u2⟩; (have q6 := u1.cellOf (v := .slice (some ⟨b.gh, 0, none⟩) t.es.length t.es.length) 7 rfl); go_simp; with_reducible rfl); simp only [Act.put, List.setIfInBounds_toArray, List.set_cons_zero, List.set_cons_succ])
    (with_reducible (refine tr_free (v := ?_) rfl ?_ ?_ ?_); rotate_left; (first | exact wanted_none rfl | exact wanted_on rfl rfl rfl); (intro w'; go_simp; with_reducible rfl); simp only [Act.put, List.setIfInBounds_toArray, List.set_cons_zero, List.set_cons_succ])
    (with_reducible (refine tr_free (v := ?_) rfl ?_ ?_ ?_); rotate_left; (first | exact wanted_none rfl | exact wanted_on rfl rfl rfl); (intro w'; go_simp; with_reducible rfl); simp only [Act.put, List.setIfInBounds_toArray, List.set_cons_zero, List.set_cons_succ])
    (with_reducible (refine tr_take (v := ?_) rfl ?_ ?_ ?_); rotate_left; (first | exact wanted_none rfl | exact wanted_on rfl rfl rfl); (rintro w' ⟨u1, u2⟩; (have q10 := u2.cellOf (v := .int .i64 m.one) 10 rfl); (have q11 := u2.cellOf (v := .int .i64 m.cls) 11 rfl); (have q12 := u2.cellOf (v := .int .i64 m.two) 12 rfl); (have q13 := u2.cellOf (v := .int .i64 m.id) 13 rfl); go_simp; with_reducible rfl); simp only [Act.put, List.setIfInBounds_toArray, List.set_cons_zero, List.set_cons_succ])
    (with_reducible (refine tr_free (v := ?_) rfl ?_ ?_ ?_); rotate_left; (first | exact wanted_none rfl | exact wanted_on rfl rfl rfl); (intro w'; go_simp; with_reducible rfl); simp only [Act.put, List.setIfInBounds_toArray, List.set_cons_zero, List.set_cons_succ])
    (with_reducible (refine tr_take (v := ?_) rfl ?_ ?_ ?_); rotate_left; (first | exact wanted_none rfl | exact wanted_on rfl rfl rfl); (rintro w' ⟨u1, u2⟩; (have q14 := u2.cellOf (v := .int .i64 m.steps) 14 rfl); go_simp; with_reducible rfl); simp only [Act.put, List.setIfInBounds_toArray, List.set_cons_zero, List.set_cons_succ])
    (with_reducible (refine tr_free (v := ?_) rfl ?_ ?_ ?_); rotate_left; (first | exact wanted_none rfl | exact wanted_on rfl rfl rfl); (intro w'; go_simp; with_reducible rfl); simp only [Act.put, List.setIfInBounds_toArray, List.set_cons_zero, List.set_cons_succ])
    (with_reducible (refine tr_take (v := ?_) rfl ?_ ?_ ?_); rotate_left; (first | exact wanted_none rfl | exact wanted_on rfl rfl rfl); (rintro w' ⟨u1, u2⟩; (have q3 := u2.cellOf (v := .int .i64 m.src) 3 rfl); go_simp; with_reducible rfl); simp only [Act.put, List.setIfInBounds_toArray, List.set_cons_zero, List.set_cons_succ])
    (with_reducible (refine tr_free (v := ?_) rfl ?_ ?_ ?_); rotate_left; (first | exact wanted_none rfl | exact wanted_on rfl rfl rfl); (intro w'; go_simp; with_reducible rfl); simp only [Act.put, List.setIfInBounds_toArray, List.set_cons_zero, List.set_cons_succ])
    (with_reducible (refine tr_take (v := ?_) rfl ?_ ?_ ?_); rotate_left; (first | exact wanted_none rfl | exact wanted_on rfl rfl rfl); (rintro w' ⟨u1, u2⟩; (have q4 := u2.cellOf (v := .int .i64 m.port) 4 rfl); go_simp; with_reducible rfl); simp only [Act.put, List.setIfInBounds_toArray, List.set_cons_zero, List.set_cons_succ])
    (with_reducible (refine tr_free (v := ?_) rfl ?_ ?_ ?_); rotate_left; (first | exact wanted_none rfl | exact wanted_on rfl rfl rfl); (intro w'; go_simp; with_reducible rfl); simp only [Act.put, List.setIfInBounds_toArray, List.set_cons_zero, List.set_cons_succ])
    (with_reducible (refine tr_free (v := ?_) rfl ?_ ?_ ?_); rotate_left; (first | exact wanted_none rfl | exact wanted_on rfl rfl rfl); (intro w'; go_simp; with_reducible rfl); simp only [Act.put, List.setIfInBounds_toArray, List.set_cons_zero, List.set_cons_succ])
    (with_reducible (refine tr_free (v := ?_) rfl ?_ ?_ ?_); rotate_left; (first | exact wanted_none rfl | exact wanted_on rfl rfl rfl); (intro w'; go_simp; with_reducible rfl); simp only [Act.put, List.setIfInBounds_toArray, List.set_cons_zero, List.set_cons_succ])
    refine tr_wr_part rfl rfl 80 (.tmp 98) (.tmp 97) rfl rfl X2 rfl HZ.out (by kernel_rfl) (by simp [Value.oneCell']) ?_
    intro w7 X7 z7 g7
    simp only [Act.put, List.setIfInBounds_toArray, List.set_cons_zero, List.set_cons_succ]
    refine tr_nil ?_
    have hd := HT5.out.dist
    simp [Bks.all] at hd
    have HSd := Lib.hid hd
    have hmb : w.heap.size ∉ b.all := fun a => by have := HPA.out.2 _ a; omega
    have hmg : w.heap.size ≠ b.gh := fun a => hmb (by simp [Bks.all, a])
    have P7 := HS6.out.2.1.grown g7 (by simp; omega)
    have W7 := HS6.out.2.2.1.grown g7 (by simp; omega)
    have T7 := HS6.out.2.2.2.1.grown g7 (by simp; omega)
    have U7 := HS6.out.2.2.2.2.1.grown g7 (by simp; omega)
    have M7 := HS6.out.2.2.2.2.2.grown g7 (by simpa using hmg)
    have F7 := HS6.out.1.trans (Fr.gr g7 (by simp [Bks.turn]))
    have HMB := Lib.hid hmb
    clear g7 X2 z7 HS6 hd hmb hmg
    have H7 := Lib.hid (And.intro X7 (And.intro P7 (And.intro W7 (And.intro U7 F7))))
    clear X7 P7 W7 U7 F7
    go_wp2_with fail
    refine wp_region_tree [15, 17] (.free 0 (.free 1 (.free 2 (.take 3 (.free 4 (.free 5 (.free 6 (.free 7 (.take 8 (.free 9 (.free 10 (.take 11 (.free 13 (.one 12 (.free 14 (.wr 15 (.free 16 (.wr 17 .nil)))))))))))))))))) (fun w' => Blk w' b.g 75 (tcs b t) ∧ Blk w' w.heap.size 38 (mcells m A n cc)) (by kernel_rfl) (by kernel_rfl) (fun _ _ _ _ _ h => h) ⟨T7, M7⟩ ?_
    have HD7 : Hid (Blk w7.drew b.gh 80 (hcs (t.es.set k ⟨true, true, ⟨⟨m.one, m.cls, m.two, m.id⟩, m.steps, m.src, m.port, 0⟩, m.path, now⟩)) ∧ Blk w7.drew b.gp 32 ps.toArray ∧ Blk w7.drew b.gw 3 (wcs t.es) ∧ Blk w7.drew b.gu 4 (ucs t.es) ∧ Fr b.turn w w7.drew) :=
      Lib.hid ⟨by rw [← hcs_set t.es k _ hkn]; exact H7.out.1, H7.out.2.1, H7.out.2.2.1, H7.out.2.2.2.1, ⟨H7.out.2.2.2.2.os, H7.out.2.2.2.2.tape, H7.out.2.2.2.2.output, H7.out.2.2.2.2.size, H7.out.2.2.2.2.block⟩⟩
    have T7' : Blk w7.drew b.g 75 (tcs b t) := T7
    have M7' : Blk w7.drew w.heap.size 38 (mcells m A n cc) := M7
    clear T7 M7 H7
    generalize w7.drew = w8 at *
    have HTM := Lib.hid (And.intro T7' M7')
    clear T7' M7'
    (with_reducible (refine tr_free (v := ?_) rfl ?_ ?_ ?_); rotate_left; (first | exact wanted_none rfl | exact wanted_on rfl rfl rfl); (intro w'; go_simp; with_reducible rfl); simp only [Act.put, List.setIfInBounds_toArray, List.set_cons_zero, List.set_cons_succ])
    (with_reducible (refine tr_free (v := ?_) rfl ?_ ?_ ?_); rotate_left; (first | exact wanted_none rfl | exact wanted_on rfl rfl rfl); (intro w'; go_simp; with_reducible rfl); simp only [Act.put, List.setIfInBounds_toArray, List.set_cons_zero, List.set_cons_succ])
    (with_reducible (refine tr_free (v := ?_) rfl ?_ ?_ ?_); rotate_left; (first | exact wanted_none rfl | exact wanted_on rfl rfl rfl); (intro w'; go_simp; with_reducible rfl); simp only [Act.put, List.setIfInBounds_toArray, List.set_cons_zero, List.set_cons_succ])
    (with_reducible (refine tr_take (v := ?_) rfl ?_ ?_ ?_); rotate_left; (first | exact wanted_none rfl | exact wanted_on rfl rfl rfl); (rintro w' ⟨u1, u2⟩; (have q6 := u1.cellOf (v := .slice (some ⟨b.gp, 0, none⟩) t.es.length t.es.length) 8 rfl); go_simp; with_reducible rfl); simp only [Act.put, List.setIfInBounds_toArray, List.set_cons_zero, List.set_cons_succ])
    (with_reducible (refine tr_free (v := ?_) rfl ?_ ?_ ?_); rotate_left; (first | exact wanted_none rfl | exact wanted_on rfl rfl rfl); (intro w'; go_simp; with_reducible rfl); simp only [Act.put, List.setIfInBounds_toArray, List.set_cons_zero, List.set_cons_succ])
    (with_reducible (refine tr_free (v := ?_) rfl ?_ ?_ ?_); rotate_left; (first | exact wanted_none rfl | exact wanted_on rfl rfl rfl); (intro w'; go_simp; with_reducible rfl); simp only [Act.put, List.setIfInBounds_toArray, List.set_cons_zero, List.set_cons_succ])
    (with_reducible (refine tr_free (v := ?_) rfl ?_ ?_ ?_); rotate_left; (first | exact wanted_none rfl | exact wanted_on rfl rfl rfl); (intro w'; go_simp; with_reducible rfl); simp only [Act.put, List.setIfInBounds_toArray, List.set_cons_zero, List.set_cons_succ])
    (with_reducible (refine tr_free (v := ?_) rfl ?_ ?_ ?_); rotate_left; (first | exact wanted_none rfl | exact wanted_on rfl rfl rfl); (intro w'; go_simp; with_reducible rfl); simp only [Act.put, List.setIfInBounds_toArray, List.set_cons_zero, List.set_cons_succ])
    (with_reducible (refine tr_take (v := ?_) rfl ?_ ?_ ?_); rotate_left; (first | exact wanted_none rfl | exact wanted_on rfl rfl rfl); (rintro w' ⟨u1, u2⟩; (have q6 := u1.cellOf (v := .slice (some ⟨b.gw, 0, none⟩) t.es.length t.es.length) 9 rfl); go_simp; with_reducible rfl); simp only [Act.put, List.setIfInBounds_toArray, List.set_cons_zero, List.set_cons_succ])
    (with_reducible (refine tr_free (v := ?_) rfl ?_ ?_ ?_); rotate_left; (first | exact wanted_none rfl | exact wanted_on rfl rfl rfl); (intro w'; go_simp; with_reducible rfl); simp only [Act.put, List.setIfInBounds_toArray, List.set_cons_zero, List.set_cons_succ])
    (with_reducible (refine tr_free (v := ?_) rfl ?_ ?_ ?_); rotate_left; (first | exact wanted_none rfl | exact wanted_on rfl rfl rfl); (intro w'; go_simp; with_reducible rfl); simp only [Act.put, List.setIfInBounds_toArray, List.set_cons_zero, List.set_cons_succ])
    (with_reducible (refine tr_take (v := ?_) rfl ?_ ?_ ?_); rotate_left; (first | exact wanted_none rfl | exact wanted_on rfl rfl rfl); (rintro w' ⟨u1, u2⟩; (have q15 := u2.cellOf (v := .slice A n cc) 15 rfl); go_simp; with_reducible rfl); simp only [Act.put, List.setIfInBounds_toArray, List.set_cons_zero, List.set_cons_succ])
    (with_reducible (refine tr_free (v := ?_) rfl ?_ ?_ ?_); rotate_left; (first | exact wanted_none rfl | exact wanted_on rfl rfl rfl); (intro w'; go_simp; with_reducible rfl); simp only [Act.put, List.setIfInBounds_toArray, List.set_cons_zero, List.set_cons_succ])
    (with_reducible (refine tr_call 21 ?_ rfl ?_ ?_ ?_); rotate_left; (first | exact wanted_none rfl | exact wanted_on rfl rfl rfl); (go_simp; with_reducible rfl))
    have hR : Reads w8 w8.heap.size 1 A n (vs m.path) := by
      have := (HPA.out.1.fr HD7.out.2.2.2.2 (by simp [Bks.turn, Bks.all])).reads
      rw [HLEN.out] at this
      exact this
    refine (clone_ints m.path A n cc _ hR (by omega)).mono ?_
    rintro e w9 ⟨v9, rfl, own9, b9⟩
    refine ⟨v9, rfl, ⟨HTM.out.1.kept b9, HTM.out.2.kept b9⟩, ?_⟩
    simp only [Act.put, List.setIfInBounds_toArray, List.set_cons_zero, List.set_cons_succ]
    have hown := fun g hg => (ownsRow_lt own9 g hg).1
    have hlen9 := own9.1
    obtain ⟨A9, c9, rfl, k9, rd9⟩ := ownsRow_reads own9
    have HS9 := Lib.hid (And.intro own9 (And.intro rd9 (And.intro k9 hown)))
    have T9 := HTM.out.1.kept b9
    have X9 := HD7.out.1.kept b9
    have P9 := HD7.out.2.1.kept b9
    have W9 := HD7.out.2.2.1.kept b9
    have U9 := HD7.out.2.2.2.1.kept b9
    have F9 := HD7.out.2.2.2.2.trans (Fr.be b9)
    have hz8 : w.heap.size ≤ w8.heap.size := HD7.out.2.2.2.2.size
    obtain ⟨u, hu9⟩ : ∃ u, ps.toArray[k]? = some u := ⟨_, Array.getElem?_eq_getElem (by have := HT5.out.len; simp; omega)⟩
    have q20 := P9.cellOf k hu9
    have fz := P9.frozen
    have q21 := W9.cellOf k (wcs_at HEN.out)
    have fw := W9.frozen
    have ne1 : b.gw ≠ b.gp := by have := HSd.out; omega
    have H9 := Lib.hid (And.intro X9 (And.intro P9 (And.intro W9 (And.intro U9 (And.intro F9 T9)))))
    clear own9 rd9 hown hR b9 T9 X9 P9 W9 U9 F9 HD7 HTM hu9 k9 hlen9
    (with_reducible (refine tr_free (v := ?_) rfl ?_ ?_ ?_); rotate_left; (first | exact wanted_none rfl | exact wanted_on rfl rfl rfl); (intro w'; go_simp; with_reducible rfl); simp only [Act.put, List.setIfInBounds_toArray, List.set_cons_zero, List.set_cons_succ])
    (with_reducible (refine tr_wr (w' := ?_) rfl ?_ ?_ ?_); rotate_left; (first | exact wanted_none rfl | exact wanted_on rfl rfl rfl); (go_simp; with_reducible rfl); simp only [Act.put, List.setIfInBounds_toArray, List.set_cons_zero, List.set_cons_succ])
    (with_reducible (refine tr_free (v := ?_) rfl ?_ ?_ ?_); rotate_left; (first | exact wanted_none rfl | exact wanted_on rfl rfl rfl); (intro w'; go_simp; with_reducible rfl); simp only [Act.put, List.setIfInBounds_toArray, List.set_cons_zero, List.set_cons_succ])
    have q22 : (w9.setCell ⟨b.gp, k, none⟩ (.slice A9 n c9)).cell? ⟨b.gw, k, none⟩ = some (.int .i64 en.at_) := by rw [World.cell?_setCell_other _ _ _ _ (by simp [ne1])]; exact q21
    (with_reducible (refine tr_wr (w' := ?_) rfl ?_ ?_ ?_); rotate_left; (first | exact wanted_none rfl | exact wanted_on rfl rfl rfl); (go_simp; with_reducible rfl); simp only [Act.put, List.setIfInBounds_toArray, List.set_cons_zero, List.set_cons_succ])
    refine tr_nil ?_
    clear q20 fz q21 fw q22
    have hd := HSd.out
    have gz : w9.grownBy (w9.setCell ⟨b.gp, k, none⟩ (.slice A9 n c9)) (some b.gp) := gr_set (grownBy_refl _ _) k _
    obtain ⟨X9, P9, W9, U9, F9, T9⟩ := H9.out
    have P10 := P9.set_ k (.slice A9 n c9)
    have X10 := X9.grown gz (by simp; omega)
    have W10 := W9.grown gz (by simp; omega)
    have U10 := U9.grown gz (by simp; omega)
    have T10 := T9.grown gz (by simp; omega)
    have F10 := F9.trans (Fr.gr gz (by simp [Bks.turn]))
    have hA0 : ∀ ad, A9 = some ad → w.heap.size ≤ ad.block := by
      intro ad h1
      rcases HS9.out.1.2 with ⟨h4, _⟩ | ⟨g, cap, cur, h4, h5, _⟩
      · injection h4 with h4 _ _
        rw [h4] at h1; cases h1
      · injection h4 with h4 _ _
        rw [h4] at h1
        injection h1 with h1
        rw [← h1]
        show w.heap.size ≤ g
        omega
    have HA0 := Lib.hid hA0
    clear hA0
    have hA9 : ∀ ad, A9 = some ad → ad.block ∉ b.all := by
      intro ad h1 h2
      have h3 := HPA.out.2 _ h2
      rcases HS9.out.1.2 with ⟨h4, _⟩ | ⟨g, cap, cur, h4, h5, _⟩
      · injection h4 with h4 _ _
        rw [h4] at h1; cases h1
      · injection h4 with h4 _ _
        rw [h4] at h1
        injection h1 with h1
        rw [← h1] at h3
        have : g < w.heap.size := h3
        omega
    have PA9 : Path w9 b.all A9 m.path := Path.of_reads HS9.out.2.1 (Nat.le_refl _) hA9
    have PA10 := PA9.fr (S' := b.turn) (Fr.gr gz (by simp [Bks.turn])) (by simp [Bks.turn, Bks.all])
    generalize w9.setCell ⟨b.gp, k, none⟩ (.slice A9 n c9) = w10 at *
    have gz2 : w10.grownBy (w10.setCell ⟨b.gw, k, none⟩ (.int .i64 now)) (some b.gw) := gr_set (grownBy_refl _ _) k _
    have W11 := W10.set_ k (.int .i64 now)
    have P11 := P10.grown gz2 (by simp; omega)
    have X11 := X10.grown gz2 (by simp; omega)
    have U11 := U10.grown gz2 (by simp; omega)
    have T11 := T10.grown gz2 (by simp; omega)
    have F11 := F10.trans (Fr.gr gz2 (by simp [Bks.turn]))
    have PA11 := PA10.fr (S' := b.turn) (Fr.gr gz2 (by simp [Bks.turn])) (by simp [Bks.turn, Bks.all])
    generalize w10.setCell ⟨b.gw, k, none⟩ (.int .i64 now) = w11 at *
    have hml := HLEN.out
    have HF := Lib.hid (And.intro X11 (And.intro P11 (And.intro W11 (And.intro U11 (And.intro F11 (And.intro T11 PA11))))))
    clear X9 P9 W9 U9 F9 T9 X10 P10 W10 U10 T10 F10 X11 P11 W11 U11 F11 T11 PA9 PA10 PA11 gz gz2 hA9 hd
    go_wp2_with fail
    go_ret
    obtain ⟨X11, P11, W11, U11, F11, T11, PA11⟩ := HF.out
    have HT5W := HTW.out
    refine ⟨rfl, ⟨_, tat_set HT5W F11 hkn ⟨true, true, ⟨⟨m.one, m.cls, m.two, m.id⟩, m.steps, m.src, m.port, 0⟩, m.path, now⟩ A9 c9 T11 ?_ X11 ?_ ?_ (by show m.path.length ≤ c9; rw [hml]; exact HS9.out.2.2.1) PA11, PNew.set HA0.out⟩, F11⟩
    · have e := ucs_set t.es k ⟨true, true, ⟨⟨m.one, m.cls, m.two, m.id⟩, m.steps, m.src, m.port, 0⟩, m.path, now⟩
      rw [← e]
      have := ucs_same HEN.out
      rw [hu] at this
      show Blk w11 b.gu _ ((ucs t.es).setIfInBounds k (Value.bool true))
      rw [this]
      exact U11
    · show Blk w11 b.gp _ (ps.set k (.slice A9 m.path.length c9)).toArray
      rw [hml]
      simpa using P11
    · have e := wcs_set t.es k ⟨true, true, ⟨⟨m.one, m.cls, m.two, m.id⟩, m.steps, m.src, m.port, 0⟩, m.path, now⟩
      rw [← e]
      exact W11
theorem in_any (b : Bks) (t : Tre) (ps : List Value) (at_ now : Int) (m : Mg) (A : Option Addr) (n cc : Nat) (w : World) (h : TAt w b t ps) (hm : MsgIn w w.heap.size m A n) (hp : Path w b.all A m.path) :
    Calls Try.prog 13 #[.pointer (some ⟨b.g, 0, none⟩), .int .i64 at_, .agg (mcells m A n cc), .int .i64 now] w fun e w' => e = .returned (.int .i64 (t.inE at_ m)) ∧ (∃ ps', TAt w' b (t.in_ at_ m now) ps') ∧ Fr b.turn w w' :=
  (in_anyN b t ps at_ now m A n cc w h hm hp).mono fun e w' ⟨h1, ⟨p, h2, _⟩, h3⟩ => ⟨h1, ⟨p, h2⟩, h3⟩
end Go.Proofs.Ytcdgofndfajekaa
