/-
  Layer 20: a link that is there, or gone.
-/
import Derived.Test.YtcdgofndfajekaaTreeB
namespace Go.Proofs.Ytcdgofndfajekaa
set_option linter.unusedSimpArgs false
set_option linter.unusedVariables false
open Go.RowKit
attribute [local go_sem ↓] Go.wp_at_zero Go.wp_at_succ

theorem wcs_same {es : List En} {k : Nat} {e : En} (h : es[k]? = some e) : (wcs es).setIfInBounds k (Value.int .i64 e.at_) = wcs es := by
  refine Array.ext_getElem? fun j => ?_
  rw [Array.getElem?_setIfInBounds]
  split
  · rename_i hj
    subst hj
    rw [wcs_at h]
    split
    · rfl
    · rename_i hj; exact absurd (by have := (List.getElem?_eq_some_iff.1 h).1; simpa [wcs] using this) hj
  · rfl
theorem ucs_same {es : List En} {k : Nat} {e : En} (h : es[k]? = some e) : (ucs es).setIfInBounds k (Value.bool e.up) = ucs es := by
  refine Array.ext_getElem? fun j => ?_
  rw [Array.getElem?_setIfInBounds]
  split
  · rename_i hj
    subst hj
    rw [ucs_at h]
    split
    · rfl
    · rename_i hj; exact absurd (by have := (List.getElem?_eq_some_iff.1 h).1; simpa [ucs] using this) hj
  · rfl
/-- A tree of which one port's entry turned. -/
theorem tat_set {b : Bks} {t : Tre} {ps : List Value} {w w' : World} (H : TAt w b t ps) (hf : Fr b.turn w w') {k : Nat} (hk : k < t.es.length) (e : En) (A : Option Addr) (c : Nat)
    (hT : Blk w' b.g 75 (tcs b t)) (hB : Blk w' b.gu 4 (ucs (t.es.set k e))) (hH : Blk w' b.gh 80 (hcs (t.es.set k e)))
    (hP : Blk w' b.gp 32 (ps.set k (.slice A e.path.length c)).toArray) (hW : Blk w' b.gw 3 (wcs (t.es.set k e))) (hc : e.path.length ≤ c) (hp : Path w' b.all A e.path) :
    TAt w' b { t with es := t.es.set k e } (ps.set k (.slice A e.path.length c)) := by
  refine ⟨?_, hB, hH, hP, hW, by simp [H.len], ?_, H.dist, by simpa using H.few⟩
  · unfold tcs at hT ⊢
    simp only [List.length_set]
    exact hT
  · intro j e' he
    rcases Nat.decEq k j with hj | hj
    · rw [List.getElem?_set_ne hj] at he
      obtain ⟨A', c', h1, h2, h3⟩ := H.pth j e' he
      exact ⟨A', c', by rw [List.getElem?_set_ne hj]; exact h1, h2, h3.fr hf (by simp [Bks.turn, Bks.all])⟩
    · subst hj
      rw [List.getElem?_set_self hk] at he
      injection he with he
      subst he
      exact ⟨A, c, by rw [List.getElem?_set_self (by have := H.len; omega)], hc, hp⟩
/-- What is new of the paths lies in new memory. -/
def PNew (w : World) (ps ps' : List Value) : Prop := ∀ (j : Nat) (q : Value), ps'[j]? = some q → ps[j]? = some q ∨ ∃ (A : Option Addr) (n c : Nat), q = .slice A n c ∧ ∀ ad, A = some ad → w.heap.size ≤ ad.block
theorem PNew.refl {w : World} {ps : List Value} : PNew w ps ps := fun _ _ h => .inl h
theorem PNew.set {w : World} {ps : List Value} {k : Nat} {A : Option Addr} {n c : Nat} (h : ∀ ad, A = some ad → w.heap.size ≤ ad.block) : PNew w ps (ps.set k (.slice A n c)) := by
  intro j q hq
  by_cases e : k = j
  · subst e
    rw [List.getElem?_set_self'] at hq
    cases hp : ps[k]? with
    | none => rw [hp] at hq; cases hq
    | some x =>
      rw [hp] at hq
      injection hq with hq
      exact .inr ⟨A, n, c, hq.symm, h⟩
  · rw [List.getElem?_set_ne e] at hq; exact .inl hq
theorem up_nil (at_ : Int) (x : Bool) (w : World) : Calls Try.prog 11 #[.pointer none, .int .i64 at_, .bool x] w fun e w' => e = .returned (.tuple #[]) ∧ w = w' := by
  go_enter Try.func11, Try.ntmps11
  go_wp2_with fail
  ((try simp only [Exit.inBlock, Exit.then]); refine bodyPost_ret (results_none rfl _ _ _) rfl ?_)
  exact ⟨rfl, rfl⟩
def Tre.upI (t : Tre) (i : Int) (x : Bool) : Tre := if i < 0 then t else t.up i.toNat x
set_option maxRecDepth 100000 in
set_option maxHeartbeats 2000000 in
theorem up_anyN (b : Bks) (t : Tre) (ps : List Value) (at_ : Int) (x : Bool) (w : World) (h : TAt w b t ps) :
    Calls Try.prog 11 #[.pointer (some ⟨b.g, 0, none⟩), .int .i64 at_, .bool x] w fun e w' => e = .returned (.tuple #[]) ∧ (∃ ps', TAt w' b (t.upI at_ x) ps' ∧ PNew w ps ps') ∧ Fr b.turn w w' := by
  have HH := Lib.hid h
  by_cases h0 : at_ < 0
  · have e : t.upI at_ x = t := if_pos h0
    rw [e]
    clear e h
    go_enter Try.func11, Try.ntmps11
    go_wp2_with fail
    ((try simp only [Exit.inBlock, Exit.then]); refine bodyPost_ret (results_none rfl _ _ _) rfl ?_)
    exact ⟨rfl, ⟨ps, HH.out, PNew.refl⟩, Fr.refl _ _⟩
  obtain ⟨k, rfl⟩ := Int.eq_ofNat_of_zero_le (show 0 ≤ at_ by omega)
  have e : t.upI (k : Int) x = t.up k x := by unfold Tre.upI; rw [if_neg h0]; rfl
  rw [e]
  have y6 := h.box.cellOf (v := .slice (some ⟨b.gu, 0, none⟩) t.es.length t.es.length) 6 rfl
  have d0 : decide ((k : Int) < 0) = false := decide_eq_false h0
  by_cases hk : t.es.length ≤ k
  · have e2 : t.up k x = t := by unfold Tre.up; rw [List.getElem?_eq_none hk]
    rw [e2]
    have dk : (t.es.length : Int) ≤ (k : Int) := by omega
    clear e e2 h h0
    go_enter Try.func11, Try.ntmps11
    go_wp2_with fail
    ((try simp only [Exit.inBlock, Exit.then]); refine bodyPost_ret (results_none rfl _ _ _) rfl ?_)
    exact ⟨rfl, ⟨ps, HH.out, PNew.refl⟩, Fr.refl _ _⟩
  have hkn : k < t.es.length := by omega
  obtain ⟨en, hen⟩ : ∃ en, t.es[k]? = some en := ⟨_, List.getElem?_eq_getElem hkn⟩
  have x0 := h.ups.cellOf k (ucs_at hen)
  have dk : decide (t.es.length ≤ k) = false := decide_eq_false hk
  have HEN := Lib.hid hen
  have hup : t.up k x = if en.up = x then t else { t with es := t.es.set k ⟨x, false, Vc.zero, [], en.at_⟩ } := by unfold Tre.up; rw [hen]
  by_cases hux : en.up = x
  · rw [hup, if_pos hux]
    rw [hux] at x0
    have de : (x == x) = true := by simp
    clear e h h0 hk hup hux hen
    go_enter Try.func11, Try.ntmps11
    go_wp2_with fail
    ((try simp only [Exit.inBlock, Exit.then]); refine bodyPost_ret (results_none rfl _ _ _) rfl ?_)
    exact ⟨rfl, ⟨ps, HH.out, PNew.refl⟩, Fr.refl _ _⟩
  rw [hup, if_neg hux]
  have de : (en.up == x) = false := beq_eq_false_iff_ne.2 hux
  have fz := h.ups.frozen
  have sgu := h.ups.lt
  clear e h h0 hk hup hux hen
  go_enter Try.func11, Try.ntmps11
  go_wp2_with fail
  have H := HH.out
  have hd := H.dist
  have B1 : Blk (w.setCell ⟨b.gu, k, none⟩ (.bool x)) b.gu 4 (ucs (t.es.set k ⟨x, false, Vc.zero, [], en.at_⟩)) := by rw [← ucs_set]; exact H.ups.set_ k (.bool x)
  have G1 : Fr b.turn w (w.setCell ⟨b.gu, k, none⟩ (.bool x)) := Fr.gr (gr_set (grownBy_refl _ _) k (.bool x)) (by simp [Bks.turn])
  have n1 : b.g ∉ b.turn := by simp [Bks.all, Bks.turn] at hd ⊢; omega
  have gg : ∀ W, w.grownBy W (some b.gu) → Blk W b.g 75 (tcs b t) ∧ Blk W b.gh 80 (hcs t.es) ∧ Blk W b.gp 32 ps.toArray ∧ Blk W b.gw 3 (wcs t.es) := fun W hg => by
    simp [Bks.all] at hd
    exact ⟨H.box.grown hg (by simp; omega), H.hds.grown hg (by simp; omega), H.pat.grown hg (by simp; omega), H.whn.grown hg (by simp; omega)⟩
  obtain ⟨X1, X2, X3, X4⟩ := gg _ (gr_set (grownBy_refl _ _) k (.bool x))
  have HG := Lib.hid (And.intro B1 (And.intro G1 X4))
  clear x0 y6 fz sgu gg B1 G1 X4 hd
  generalize w.setCell ⟨b.gu, k, none⟩ (.bool x) = w1 at *
  clear H
  have HZ : Hid (k * 10 + 10 ≤ (hcs t.es).size) := Lib.hid (by unfold hcs; rw [List.size_toArray, hcells_len, List.length_map]; omega)
  refine wp_region_tree [12, 14] (.free 0 (.free 1 (.free 2 (.take 3 (.free 4 (.free 5 (.free 6 (.free 7 (.take 8 (.free 9 (.free 10 (.free 11 (.wr 12 (.free 13 (.wr 14 .nil))))))))))))))) (fun w' => Blk w' b.g 75 (tcs b t)) (by kernel_rfl) (by kernel_rfl) (fun _ _ _ _ _ h => h) X1 ?_
  have X2' : Blk w1.drew b.gh 80 (hcs t.es) := X2
  have X3' : Blk w1.drew b.gp 32 ps.toArray := X3
  have HG' : Hid (Blk w1.drew b.gu 4 (ucs (t.es.set k ⟨x, false, Vc.zero, [], en.at_⟩)) ∧ Fr b.turn w w1.drew ∧ Blk w1.drew b.gw 3 (wcs t.es) ∧ Blk w1.drew b.g 75 (tcs b t)) := Lib.hid ⟨HG.out.1, ⟨HG.out.2.1.os, HG.out.2.1.tape, HG.out.2.1.output, HG.out.2.1.size, HG.out.2.1.block⟩, HG.out.2.2, X1⟩
  clear X1 X2 X3 HG
  generalize w1.drew = w2 at *
  (with_reducible (refine tr_free (v := ?_) rfl ?_ ?_ ?_); rotate_left; (first | exact wanted_none rfl | exact wanted_on rfl rfl rfl); (intro w'; go_simp; with_reducible rfl); simp only [Act.put, List.setIfInBounds_toArray, List.set_cons_zero, List.set_cons_succ])
  (with_reducible (refine tr_free (v := ?_) rfl ?_ ?_ ?_); rotate_left; (first | exact wanted_none rfl | exact wanted_on rfl rfl rfl); (intro w'; go_simp; with_reducible rfl); simp only [Act.put, List.setIfInBounds_toArray, List.set_cons_zero, List.set_cons_succ])
  (with_reducible (refine tr_free (v := ?_) rfl ?_ ?_ ?_); rotate_left; (first | exact wanted_none rfl | exact wanted_on rfl rfl rfl); (intro w'; go_simp; with_reducible rfl); simp only [Act.put, List.setIfInBounds_toArray, List.set_cons_zero, List.set_cons_succ])
  (with_reducible (refine tr_take (v := ?_) rfl ?_ ?_ ?_); rotate_left; (first | exact wanted_none rfl | exact wanted_on rfl rfl rfl); (rintro w' u1; (have q6 := u1.cellOf (v := .slice (some ⟨b.gh, 0, none⟩) t.es.length t.es.length) 7 rfl); go_simp; with_reducible rfl); simp only [Act.put, List.setIfInBounds_toArray, List.set_cons_zero, List.set_cons_succ])
  (with_reducible (refine tr_free (v := ?_) rfl ?_ ?_ ?_); rotate_left; (first | exact wanted_none rfl | exact wanted_on rfl rfl rfl); (intro w'; go_simp; with_reducible rfl); simp only [Act.put, List.setIfInBounds_toArray, List.set_cons_zero, List.set_cons_succ])
  (with_reducible (refine tr_free (v := ?_) rfl ?_ ?_ ?_); rotate_left; (first | exact wanted_none rfl | exact wanted_on rfl rfl rfl); (intro w'; go_simp; with_reducible rfl); simp only [Act.put, List.setIfInBounds_toArray, List.set_cons_zero, List.set_cons_succ])
  (with_reducible (refine tr_free (v := ?_) rfl ?_ ?_ ?_); rotate_left; (first | exact wanted_none rfl | exact wanted_on rfl rfl rfl); (intro w'; go_simp; with_reducible rfl); simp only [Act.put, List.setIfInBounds_toArray, List.set_cons_zero, List.set_cons_succ])
  (with_reducible (refine tr_free (v := ?_) rfl ?_ ?_ ?_); rotate_left; (first | exact wanted_none rfl | exact wanted_on rfl rfl rfl); (intro w'; go_simp; with_reducible rfl); simp only [Act.put, List.setIfInBounds_toArray, List.set_cons_zero, List.set_cons_succ])
  (with_reducible (refine tr_take (v := ?_) rfl ?_ ?_ ?_); rotate_left; (first | exact wanted_none rfl | exact wanted_on rfl rfl rfl); (rintro w' u1; (have q6 := u1.cellOf (v := .slice (some ⟨b.gp, 0, none⟩) t.es.length t.es.length) 8 rfl); go_simp; with_reducible rfl); simp only [Act.put, List.setIfInBounds_toArray, List.set_cons_zero, List.set_cons_succ])
  (with_reducible (refine tr_free (v := ?_) rfl ?_ ?_ ?_); rotate_left; (first | exact wanted_none rfl | exact wanted_on rfl rfl rfl); (intro w'; go_simp; with_reducible rfl); simp only [Act.put, List.setIfInBounds_toArray, List.set_cons_zero, List.set_cons_succ])
  (with_reducible (refine tr_free (v := ?_) rfl ?_ ?_ ?_); rotate_left; (first | exact wanted_none rfl | exact wanted_on rfl rfl rfl); (intro w'; go_simp; with_reducible rfl); simp only [Act.put, List.setIfInBounds_toArray, List.set_cons_zero, List.set_cons_succ])
  (with_reducible (refine tr_free (v := ?_) rfl ?_ ?_ ?_); rotate_left; (first | exact wanted_none rfl | exact wanted_on rfl rfl rfl); (intro w'; go_simp; with_reducible rfl); simp only [Act.put, List.setIfInBounds_toArray, List.set_cons_zero, List.set_cons_succ])
  have hps : ∃ u, ps.toArray[k]? = some u := ⟨_, Array.getElem?_eq_getElem (by have := HH.out.len; simp; omega)⟩
  obtain ⟨u, hu⟩ := hps
  refine tr_wr_part rfl rfl 80 (.tmp 50) (.tmp 49) rfl rfl X2' rfl HZ.out (by kernel_rfl) (by simp [Value.oneCell']) ?_
  intro w3 X5 z3 g3
  simp only [Act.put, List.setIfInBounds_toArray, List.set_cons_zero, List.set_cons_succ]
  have H := HH.out
  have hd := H.dist
  simp [Bks.all] at hd
  have X6 := X3'.grown g3 (by simp; omega)
  have q7 := X6.cellOf k hu
  have fz := X6.frozen
  have B5 := HG'.out.1.grown g3 (by simp; omega)
  have W5 := HG'.out.2.2.1.grown g3 (by simp; omega)
  have T5 := HG'.out.2.2.2.grown g3 (by simp; omega)
  have F5 := HG'.out.2.1.trans (Fr.gr g3 (by simp [Bks.turn]))
  have H5 := Lib.hid (And.intro X5 (And.intro X6 (And.intro B5 (And.intro W5 (And.intro T5 F5)))))
  have HD := Lib.hid hd
  clear X2' X3' X5 g3 z3 HG' X6 B5 W5 T5 F5 hd H
  (with_reducible (refine tr_free (v := ?_) rfl ?_ ?_ ?_); rotate_left; (first | exact wanted_none rfl | exact wanted_on rfl rfl rfl); (intro w'; go_simp; with_reducible rfl); simp only [Act.put, List.setIfInBounds_toArray, List.set_cons_zero, List.set_cons_succ])
  (with_reducible (refine tr_wr (w' := ?_) rfl ?_ ?_ ?_); rotate_left; (first | exact wanted_none rfl | exact wanted_on rfl rfl rfl); (go_simp; with_reducible rfl); simp only [Act.put, List.setIfInBounds_toArray, List.set_cons_zero, List.set_cons_succ])
  refine tr_nil ?_
  clear q7 fz
  go_wp2_with fail
  go_end0
  have hd := HD.out
  have H := HH.out
  obtain ⟨X5, X6, B5, W5, T5, F5⟩ := H5.out
  have gz : w3.grownBy (w3.setCell ⟨b.gp, k, none⟩ (.slice none 0 0)) (some b.gp) := gr_set (grownBy_refl _ _) k _
  have X7 := X6.set_ k (.slice none 0 0)
  have X5' := X5.grown gz (by simp; omega)
  have B5' := B5.grown gz (by simp; omega)
  have W5' := W5.grown gz (by simp; omega)
  have T5' := T5.grown gz (by simp; omega)
  have F6 := F5.trans (Fr.gr gz (by simp [Bks.turn]))
  generalize w3.setCell ⟨b.gp, k, none⟩ (.slice none 0 0) = w4 at *
  refine ⟨rfl, ⟨ps.set k (.slice none 0 0), ?_, PNew.set (by simp)⟩, F6⟩
  refine tat_set H F6 hkn ⟨x, false, Vc.zero, [], en.at_⟩ none 0 T5' B5' ?_ ?_ ?_ (Nat.le_refl _) (Path.nil _ _ _)
  · rw [← hcs_set t.es k _ hkn]; exact X5'
  · simpa using X7
  · have e := wcs_set t.es k ⟨x, false, Vc.zero, [], en.at_⟩
    rw [← e]
    show Blk w4 b.gw _ ((wcs t.es).setIfInBounds k (Value.int .i64 en.at_))
    rw [wcs_same HEN.out]
    exact W5'
theorem up_any (b : Bks) (t : Tre) (ps : List Value) (at_ : Int) (x : Bool) (w : World) (h : TAt w b t ps) :
    Calls Try.prog 11 #[.pointer (some ⟨b.g, 0, none⟩), .int .i64 at_, .bool x] w fun e w' => e = .returned (.tuple #[]) ∧ (∃ ps', TAt w' b (t.upI at_ x) ps') ∧ Fr b.turn w w' :=
  (up_anyN b t ps at_ x w h).mono fun e w' ⟨h1, ⟨p, h2, _⟩, h3⟩ => ⟨h1, ⟨p, h2⟩, h3⟩
end Go.Proofs.Ytcdgofndfajekaa
