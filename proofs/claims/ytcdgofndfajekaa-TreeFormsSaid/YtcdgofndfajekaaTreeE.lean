/-
  Layer 20: what counts of what was heard; the best clock.
-/
import Derived.Test.YtcdgofndfajekaaTreeC
namespace Go.Proofs.Ytcdgofndfajekaa
set_option linter.unusedSimpArgs false
set_option linter.unusedVariables false
open Go.RowKit
attribute [local go_sem ↓] Go.wp_at_zero Go.wp_at_succ

def R64 (x : Int) : Prop := -9223372036854775808 ≤ x ∧ x ≤ 9223372036854775807
theorem blk_reads {w : World} {g : Nat} {t : TypeId} {n size : Nat} {xs : List Value} (h : Blk w g t xs.toArray) (hl : xs.length = n * size) : Reads w w.heap.size size (some ⟨g, 0, none⟩) n xs :=
  ⟨hl, fun _ => ⟨_, rfl, h.lt, fun j u hu => blk_cells h j u (by simpa using hu)⟩⟩
/-- The cells of some, as a block may hold them (and more). -/
def Holds (cur : Array Value) (hs : List Hd) : Prop := ∀ (j : Nat) (u : Value), (hcells hs)[j]? = some u → cur[j]? = some u
theorem hcells_at {hs : List Hd} {q : Nat} {h : Hd} (hq : hs[q]? = some h) {r : Nat} (hr : r < 10) : (hcells hs)[q * 10 + r]? = h.cells[r]? :=
  flatMap_get (f := Hd.cells) (size := 10) (fun _ => rfl) hq r hr
theorem holds_set {cur : Array Value} {hs : List Hd} {k : Nat} {h h' : Hd} (H : Holds cur hs) (hk : hs[k]? = some h) {r : Nat} (hr : r < 10) (u : Value) (h1 : h'.cells[r]? = some u) (h2 : ∀ i, i < 10 → i ≠ r → h'.cells[i]? = h.cells[i]?) :
    Holds (cur.setIfInBounds (k * 10 + r) u) (hs.set k h') := by
  intro j v hv
  have hkl := (List.getElem?_eq_some_iff.1 hk).1
  have hjl : j < hs.length * 10 := by
    have := (List.getElem?_eq_some_iff.1 hv).1
    rw [hcells_len, List.length_set] at this
    exact this
  obtain ⟨q, i, hi, rfl⟩ : ∃ q i, i < 10 ∧ j = q * 10 + i := ⟨j / 10, j % 10, by omega, by omega⟩
  have hin : ∀ i, i < 10 → k * 10 + i < cur.size := fun i hi => by
    obtain ⟨x, hx⟩ : ∃ x, h.cells[i]? = some x := ⟨_, List.getElem?_eq_getElem (by rw [Hd.len]; exact hi)⟩
    have := H (k * 10 + i) x (by rw [hcells_at hk hi]; exact hx)
    exact (Array.getElem?_eq_some_iff.1 this).1
  rw [Array.getElem?_setIfInBounds]
  by_cases hq : q = k
  · subst hq
    rw [hcells_at (h := h') (List.getElem?_set_self hkl) hi] at hv
    by_cases hir : i = r
    · subst hir
      rw [if_pos rfl, if_pos (hin i hi), ← hv, h1]
    · rw [if_neg (by omega)]
      rw [h2 i hi hir] at hv
      exact H _ _ (by rw [hcells_at hk hi]; exact hv)
  · rw [if_neg (by omega)]
    obtain ⟨x, hx⟩ : ∃ x, hs[q]? = some x := ⟨_, List.getElem?_eq_getElem (by omega)⟩
    rw [hcells_at (h := x) (by rw [List.getElem?_set_ne (Ne.symm hq)]; exact hx) hi] at hv
    exact H _ _ (by rw [hcells_at hx hi]; exact hv)
theorem live_false {e : En} {most now : Int} (h : now < e.at_ ∨ most < now - e.at_) : e.live most now = false := by
  unfold En.live
  rcases h with h | h
  · rw [decide_eq_false (show ¬ e.at_ ≤ now by omega)]; simp
  · rw [decide_eq_false (show ¬ now - e.at_ ≤ most by omega)]; simp
theorem live_ok {e : En} {most now : Int} (h1 : e.at_ ≤ now) (h2 : now - e.at_ ≤ most) : e.live most now = e.ok := by
  unfold En.live
  rw [decide_eq_true h1, decide_eq_true h2]; simp
theorem u64_diff {x y : Int} (h1 : R64 x) (h2 : R64 y) (h : y ≤ x) : (x % 18446744073709551616 - y % 18446744073709551616) % 18446744073709551616 = x - y := by unfold R64 at h1 h2; omega
theorem u64_wrap (x : Int) : IntKind.u64.wrap x = x % 18446744073709551616 := rfl
theorem hs_at {t : Tre} {now : Int} {k : Nat} {en : En} (h : t.es[k]? = some en) : (t.hs now)[k]? = some ⟨en.up, en.live t.most now, en.vec⟩ := by unfold Tre.hs; rw [List.getElem?_map, h]; rfl
set_option maxRecDepth 100000 in
set_option maxHeartbeats 4000000 in
theorem ports_any (b : Bks) (t : Tre) (ps : List Value) (now : Int) (w : World) (h : TAt w b t ps) (hnow : R64 now) (hat : ∀ e ∈ t.es, R64 e.at_) (hm0 : 0 ≤ t.most) (hm1 : t.most ≤ 9223372036854775807) :
    Calls Try.prog 20 #[.pointer (some ⟨b.g, 0, none⟩), .int .i64 now] w fun e w' => ∃ A c, e = .returned (.slice A t.es.length c) ∧ Reads w' w'.heap.size 10 A t.es.length (hcells (t.hs now)) ∧ Below w.heap.size w w' := by
  have HT := Lib.hid h
  have y7 := h.box.cellOf (v := .slice (some ⟨b.gh, 0, none⟩) t.es.length t.es.length) 7 rfl
  have hn8 := h.few
  have hR : Reads w w.heap.size 10 (some ⟨b.gh, 0, none⟩) t.es.length (hcells (t.es.map En.hd0)) := blk_reads h.hds (by rw [hcells_len, List.length_map])
  have HR := Lib.hid hR
  have HNR := Lib.hid (And.intro hnow (And.intro hat (And.intro hm0 hm1)))
  clear h hR hnow hat hm0 hm1
  go_enter Try.func20, Try.ntmps20
  go_wp2_with fail
  refine (clone_heards (t.es.map En.hd0) _ _ _ w HR.out (by omega)).mono ?_
  rintro e w1 ⟨v9, rfl, own9, b9⟩
  have hlt9 := fun g hg => ownsRow_lt own9 g hg
  have hv9 : ∃ A c, v9 = .slice A t.es.length c ∧ t.es.length ≤ c ∧ (0 < t.es.length → ∃ g cur, A = some ⟨g, 0, none⟩ ∧ w.heap.size ≤ g ∧ Blk w1 g 80 cur ∧ Holds cur (t.es.map En.hd0)) := by
    rcases own9.2 with ⟨rfl, h0⟩ | ⟨g, cap, cur, rfl, hg, hh, hle, _, hsz, ht⟩
    · exact ⟨none, 0, by rw [← h0], by omega, fun h => by omega⟩
    · refine ⟨_, cap, rfl, hle, fun _ => ⟨g, cur, rfl, hg, hh, fun j u hu => ?_⟩⟩
      have := hu
      rw [← ht, List.getElem?_take] at this
      split at this
      · simpa using this
      · cases this
  obtain ⟨A9, c9, rfl, hc9, hv9⟩ := hv9
  have HC9 := Lib.hid hc9
  have HB1 := Lib.hid b9
  have HV := Lib.hid hv9
  clear own9 hlt9 hv9 b9 y7 HR hc9
  go_wp2_with fail
  go_loopw [14] (fun i wr => ∃ (k : Nat), i = .int .i64 (k : Nat) ∧ k ≤ t.es.length ∧ Below w.heap.size w wr ∧ Hid (0 < t.es.length → ∃ g cur hs, A9 = some ⟨g, 0, none⟩ ∧ w.heap.size ≤ g ∧ Blk wr g 80 cur ∧ Holds cur hs ∧ hs.length = t.es.length ∧ (∀ i, i < k → hs[i]? = (t.hs now)[i]?) ∧ (∀ i, k ≤ i → hs[i]? = (t.es.map En.hd0)[i]?))) (fun i _ => t.es.length - (intOf i).toNat)
  case atStart =>
    refine ⟨0, rfl, Nat.zero_le _, HB1.out, Lib.hid fun h0 => ?_⟩
    obtain ⟨g, cur, e, hg, hb, hh⟩ := HV.out h0
    exact ⟨g, cur, _, e, hg, hb, hh, by simp, fun i hi => absurd hi (by omega), fun i _ => rfl⟩
  case round =>
    obtain ⟨k, rfl, hk, hb, hinv⟩ := hrel
    by_cases hlt : k < t.es.length
    · obtain ⟨g, cur, hs, rfl, hg, B, hh, hhl, h1, h2⟩ := hinv.out (by omega)
      obtain ⟨en, hen⟩ : ∃ en, t.es[k]? = some en := ⟨_, List.getElem?_eq_getElem hlt⟩
      have hTr := HT.out.kept hb
      have hk2 : hs[k]? = some en.hd0 := by rw [h2 k (Nat.le_refl _), List.getElem?_map, hen]; rfl
      have hg0 : (hcells hs)[k * 10 + 0]? = some (.bool false) := by rw [hcells_at hk2 (by omega)]; rfl
      have c0 := B.cellOf (k * 10) (hh _ _ hg0)
      have fz := B.frozen
      have sg := B.lt
      have hcap : t.es.length ≤ c9 := HC9.out
      have y6 := hTr.box.cellOf (v := .slice (some ⟨b.gu, 0, none⟩) t.es.length t.es.length) 6 rfl
      have z0 := hTr.ups.cellOf k (ucs_at hen)
      have B2 := B.set_ (k * 10) (.bool en.up)
      have H2 : Holds (cur.setIfInBounds (k * 10 + 0) (.bool en.up)) (hs.set k ⟨en.up, en.ok, en.vec⟩) := holds_set hh hk2 (by omega) _ rfl (fun i hi hne => by
        match i, hne with
        | 0, hne => exact absurd rfl hne
        | i + 1, _ => rfl)
      have hb2 := hb.setCell (p := ⟨g, k * 10, none⟩) hg (.bool en.up)
      have HS := Lib.hid (And.intro B2 (And.intro H2 (And.intro hhl (And.intro h1 (And.intro h2 hg)))))
      have HEN := Lib.hid hen
      have HB2 := Lib.hid hb2
      have hlk := hs_at (t := t) (now := now) hen
      have HLK := Lib.hid hlk
      clear B B2 hh H2 hb hb2 hhl h1 h2 hinv hg0 hTr hk2 hen hlk hg
      go_wp2_with fail
      clear c0 fz z0 y6
      generalize wr.setCell ⟨g, k * 10, none⟩ (.bool en.up) = w2 at *
      have hT2 := HT.out.kept HB2.out
      have y5 := hT2.box.cellOf (v := .int .i64 t.most) 5 rfl
      have y9 := hT2.box.cellOf (v := .slice (some ⟨b.gw, 0, none⟩) t.es.length t.es.length) 9 rfl
      have z9 := hT2.whn.cellOf k (wcs_at HEN.out)
      have st := hT2.box.lt
      have sw := hT2.whn.lt
      clear hT2
      have hat := HNR.out.2.1 en (List.mem_of_getElem? HEN.out)
      by_cases hc1 : now < en.at_
      · have hf : en.live t.most now = false := live_false (.inl hc1)
        have HF := Lib.hid hf
        clear hf hat
        refine wp_region_class (fun w' => Below w2.heap.size w2 w') (by kernel_rfl) (by kernel_rfl) (Below.refl _ _).drew ?_
        repeat (first | (with_reducible (refine wpQuiet_skip ?_ ?_); (first | exact wanted_off rfl rfl rfl rfl | exact wanted_off2 rfl rfl rfl); simp only [Act.put, List.setIfInBounds_toArray, List.set_cons_zero, List.set_cons_succ]) | (with_reducible (refine wpQuiet_val (v := ?_) ?_ ?_ ?_); rotate_left; (first | exact wanted_none rfl | exact wanted_on rfl rfl rfl); (intro w' hw'; obtain ⟨hc, hf⟩ := bcell hw'; go_simp; with_reducible rfl); simp only [Act.put, List.setIfInBounds_toArray, List.set_cons_zero, List.set_cons_succ]))
        refine wpQuiet_nil ?_
        intro w4 hw4
        have hbb := HB2.out.trans (hw4.mono HB2.out.size)
        have B4 := HS.out.1.kept hw4
        obtain ⟨u1, hu1⟩ : ∃ u1, (cur.setIfInBounds (k * 10) (Value.bool en.up))[k * 10 + 1]? = some u1 := ⟨_, HS.out.2.1 (k * 10 + 1) _ (by rw [hcells_at (List.getElem?_set_self (by rw [HS.out.2.2.1]; exact hlt)) (by omega)]; rfl)⟩
        have q1 := B4.cellOf _ hu1
        have fz := B4.frozen
        have sg4 := B4.lt
        have B5 := B4.set_ (k * 10 + 1) (.bool false)
        have H5 : Holds ((cur.setIfInBounds (k * 10) (Value.bool en.up)).setIfInBounds (k * 10 + 1) (.bool false)) ((hs.set k ⟨en.up, en.ok, en.vec⟩).set k ⟨en.up, false, en.vec⟩) := holds_set HS.out.2.1 (List.getElem?_set_self (by rw [HS.out.2.2.1]; exact hlt)) (by omega) _ rfl (fun i hi hne => by
          match i, hne with
          | 0, _ => rfl
          | 1, hne => exact absurd rfl hne
          | i + 2, _ => rfl)
        have hb5 := hbb.setCell (p := ⟨g, k * 10 + 1, none⟩) HS.out.2.2.2.2.2 (.bool false)
        have HE := Lib.hid (And.intro hb5 (And.intro B5 H5))
        clear y5 y9 z9 hw4 hbb B4 st sw B5 H5 hb5 hu1
        go_wp2_with fail
        go_roundw
        case rel =>
          refine ⟨k + 1, by first | rfl | (refine congrArg (Value.int IntKind.i64) ?_; rw [IntWalk.wrap64_in _ ⟨by omega, by omega⟩]; rfl), by omega, HE.out.1, Lib.hid fun _ => ⟨g, _, _, rfl, HS.out.2.2.2.2.2, HE.out.2.1, HE.out.2.2, ?_, ?_, ?_⟩⟩
          · rw [List.length_set, List.length_set]; exact HS.out.2.2.1
          · intro i hi
            rcases Nat.lt_or_ge i k with h3 | h3
            · rw [List.getElem?_set_ne (by omega), List.getElem?_set_ne (by omega)]; exact HS.out.2.2.2.1 i h3
            · obtain rfl : i = k := by omega
              rw [List.getElem?_set_self (by rw [List.length_set, HS.out.2.2.1]; exact hlt), HLK.out, HF.out]
          · intro i hi
            rw [List.getElem?_set_ne (by omega), List.getElem?_set_ne (by omega)]
            exact HS.out.2.2.2.2.1 i (by omega)
        case measure => simp [intOf]; omega
      · have d1 : decide (now < en.at_) = false := decide_eq_false hc1
        obtain ⟨X, hX⟩ : ∃ X, X = now % 18446744073709551616 := ⟨_, rfl⟩
        obtain ⟨Y, hY⟩ : ∃ Y, Y = en.at_ % 18446744073709551616 := ⟨_, rfl⟩
        obtain ⟨D, hD⟩ : ∃ D, D = now - en.at_ := ⟨_, rfl⟩
        have hdf := u64_diff HNR.out.1 hat (show en.at_ ≤ now by omega)
        rw [← hX, ← hY, ← hD] at hdf
        have hmm : t.most % 18446744073709551616 = t.most := by have := HNR.out.2.2; omega
        by_cases hc2 : t.most < D
        · have HF : Hid (en.live t.most now = false) := Lib.hid (live_false (.inr (by omega)))
          have fX : IntKind.u64.wrap now = X := by rw [u64_wrap, hX]
          have fY : IntKind.u64.wrap en.at_ = Y := by rw [u64_wrap, hY]
          have fM : IntKind.u64.wrap t.most = t.most := by rw [u64_wrap]; exact hmm
          have fD : IntKind.u64.wrap (X - Y) = D := by rw [u64_wrap]; exact hdf
          clear hX hY hD hdf hmm hc1 hat
          refine wp_region_class (fun w' => Below w2.heap.size w2 w') (by kernel_rfl) (by kernel_rfl) (Below.refl _ _).drew ?_
          repeat (first | (with_reducible (refine wpQuiet_skip ?_ ?_); (first | exact wanted_off rfl rfl rfl rfl | exact wanted_off2 rfl rfl rfl); simp only [Act.put, List.setIfInBounds_toArray, List.set_cons_zero, List.set_cons_succ]) | (with_reducible (refine wpQuiet_val (v := ?_) ?_ ?_ ?_); rotate_left; (first | exact wanted_none rfl | exact wanted_on rfl rfl rfl); (intro w' hw'; obtain ⟨hc, hf⟩ := bcell hw'; go_simp; with_reducible rfl); simp only [Act.put, List.setIfInBounds_toArray, List.set_cons_zero, List.set_cons_succ]))
          refine wpQuiet_nil ?_
          intro w4 hw4
          clear fX fY fM fD d1 hc2
          have hbb := HB2.out.trans (hw4.mono HB2.out.size)
          have B4 := HS.out.1.kept hw4
          obtain ⟨u1, hu1⟩ : ∃ u1, (cur.setIfInBounds (k * 10) (Value.bool en.up))[k * 10 + 1]? = some u1 := ⟨_, HS.out.2.1 (k * 10 + 1) _ (by rw [hcells_at (List.getElem?_set_self (by rw [HS.out.2.2.1]; exact hlt)) (by omega)]; rfl)⟩
          have q1 := B4.cellOf _ hu1
          have fz := B4.frozen
          have sg4 := B4.lt
          have B5 := B4.set_ (k * 10 + 1) (.bool false)
          have H5 : Holds ((cur.setIfInBounds (k * 10) (Value.bool en.up)).setIfInBounds (k * 10 + 1) (.bool false)) ((hs.set k ⟨en.up, en.ok, en.vec⟩).set k ⟨en.up, false, en.vec⟩) := holds_set HS.out.2.1 (List.getElem?_set_self (by rw [HS.out.2.2.1]; exact hlt)) (by omega) _ rfl (fun i hi hne => by
            match i, hne with
            | 0, _ => rfl
            | 1, hne => exact absurd rfl hne
            | i + 2, _ => rfl)
          have hb5 := hbb.setCell (p := ⟨g, k * 10 + 1, none⟩) HS.out.2.2.2.2.2 (.bool false)
          have HE := Lib.hid (And.intro hb5 (And.intro B5 H5))
          clear y5 y9 z9 hw4 hbb B4 st sw B5 H5 hb5 hu1
          go_wp2_with fail
          go_roundw
          case rel =>
            refine ⟨k + 1, by first | rfl | (refine congrArg (Value.int IntKind.i64) ?_; rw [IntWalk.wrap64_in _ ⟨by omega, by omega⟩]; rfl), by omega, HE.out.1, Lib.hid fun _ => ⟨g, _, _, rfl, HS.out.2.2.2.2.2, HE.out.2.1, HE.out.2.2, ?_, ?_, ?_⟩⟩
            · rw [List.length_set, List.length_set]; exact HS.out.2.2.1
            · intro i hi
              rcases Nat.lt_or_ge i k with h3 | h3
              · rw [List.getElem?_set_ne (by omega), List.getElem?_set_ne (by omega)]; exact HS.out.2.2.2.1 i h3
              · obtain rfl : i = k := by omega
                rw [List.getElem?_set_self (by rw [List.length_set, HS.out.2.2.1]; exact hlt), HLK.out, HF.out]
            · intro i hi
              rw [List.getElem?_set_ne (by omega), List.getElem?_set_ne (by omega)]
              exact HS.out.2.2.2.2.1 i (by omega)
          case measure => simp [intOf]; omega
        · have HF : Hid (en.live t.most now = en.ok) := Lib.hid (live_ok (by omega) (by omega))
          have d2 : decide (t.most < D) = false := decide_eq_false hc2
          have fX : IntKind.u64.wrap now = X := by rw [u64_wrap, hX]
          have fY : IntKind.u64.wrap en.at_ = Y := by rw [u64_wrap, hY]
          have fM : IntKind.u64.wrap t.most = t.most := by rw [u64_wrap]; exact hmm
          have fD : IntKind.u64.wrap (X - Y) = D := by rw [u64_wrap]; exact hdf
          clear hX hY hD hdf hmm hc1 hat hc2
          refine wp_region_class (fun w' => Below w2.heap.size w2 w') (by kernel_rfl) (by kernel_rfl) (Below.refl _ _).drew ?_
          repeat (first | (with_reducible (refine wpQuiet_skip ?_ ?_); (first | exact wanted_off rfl rfl rfl rfl | exact wanted_off2 rfl rfl rfl); simp only [Act.put, List.setIfInBounds_toArray, List.set_cons_zero, List.set_cons_succ]) | (with_reducible (refine wpQuiet_val (v := ?_) ?_ ?_ ?_); rotate_left; (first | exact wanted_none rfl | exact wanted_on rfl rfl rfl); (intro w' hw'; obtain ⟨hc, hf⟩ := bcell hw'; go_simp; with_reducible rfl); simp only [Act.put, List.setIfInBounds_toArray, List.set_cons_zero, List.set_cons_succ]))
          refine wpQuiet_nil ?_
          intro w4 hw4
          have hbb := HB2.out.trans (hw4.mono HB2.out.size)
          have B4 := HS.out.1.kept hw4
          have HE := Lib.hid (And.intro hbb B4)
          clear y5 y9 z9 hw4 hbb B4 st sw fX fY fM fD d1 d2
          go_wp2_with fail
          go_roundw
          case rel =>
            refine ⟨k + 1, by first | rfl | (refine congrArg (Value.int IntKind.i64) ?_; rw [IntWalk.wrap64_in _ ⟨by omega, by omega⟩]; rfl), by omega, HE.out.1, Lib.hid fun _ => ⟨g, _, _, rfl, HS.out.2.2.2.2.2, HE.out.2, HS.out.2.1, ?_, ?_, ?_⟩⟩
            · rw [List.length_set]; exact HS.out.2.2.1
            · intro i hi
              rcases Nat.lt_or_ge i k with h3 | h3
              · rw [List.getElem?_set_ne (by omega)]; exact HS.out.2.2.2.1 i h3
              · obtain rfl : i = k := by omega
                rw [List.getElem?_set_self (by rw [HS.out.2.2.1]; exact hlt), HLK.out, HF.out]
            · intro i hi
              rw [List.getElem?_set_ne (by omega)]
              exact HS.out.2.2.2.2.1 i (by omega)
          case measure => simp [intOf]; omega
    · obtain rfl : k = t.es.length := by omega
      have dn : decide (t.es.length < t.es.length) = false := by simp
      have HINV := hinv
      have HBB := Lib.hid hb
      clear hlt hk hb hinv
      go_wp2_with fail
      go_ret
      refine ⟨A9, c9, rfl, ?_, HBB.out⟩
      have hlh : (t.hs now).length = t.es.length := by unfold Tre.hs; rw [List.length_map]
      refine ⟨by rw [hcells_len, hlh], fun h0 => ?_⟩
      obtain ⟨g, cur, hs, rfl, hg, B, hh, hhl, h1, h2⟩ := HINV.out h0
      have he : hs = t.hs now := List.ext_getElem? fun i => by
        rcases Nat.lt_or_ge i t.es.length with h3 | h3
        · exact h1 i h3
        · rw [List.getElem?_eq_none (by omega), List.getElem?_eq_none (by omega)]
      subst he
      exact ⟨_, rfl, B.lt, fun j u hu => by
        rw [show (⟨g, 0, none⟩ : Addr).add j = ⟨g, j, none⟩ from by by_cases hj : j = 0 <;> simp [Addr.add, hj], B.cell]
        exact hh j u hu⟩
theorem ownsRow_mono_base {w : World} {B B' size n : Nat} {e : TypeId} {v : Value} {xs : List Value} (h : w.ownsRow B e size v n xs) (hB : B' ≤ B) : w.ownsRow B' e size v n xs := by
  obtain ⟨h1, h2⟩ := h
  refine ⟨h1, ?_⟩
  rcases h2 with h2 | ⟨g, cap, cur, hv, hg, hr⟩
  · exact .inl h2
  · exact .inr ⟨g, cap, cur, hv, by omega, hr⟩
theorem best_nil (now : Int) (w : World) : Calls Try.prog 9 #[.pointer none, .int .i64 now] w fun e w' => e = .returned (.tuple #[Vc.val ⟨⟨0, 0, 0, 0⟩, 0, 0, 0, -1⟩, .slice none 0 0]) ∧ Below w.heap.size w w' := by
  go_enter Try.func9, Try.ntmps9
  go_wp2_with fail
  have B := Blk.new w 31 #[.int .i64 0, .int .i64 0, .int .i64 0, .int .i64 0, .int .i64 0, .int .i64 0, .int .i64 0, .int .i64 (-1)]
  refine bodyPost_ret (v := .tuple #[Vc.val ⟨⟨0, 0, 0, 0⟩, 0, 0, 0, -1⟩, .slice none 0 0]) (by simp [results, Try.results9, go_sem, Vc.val, Vc.cells, Pr.cells, iz]) rfl ?_
  exact ⟨rfl, (Below.refl _ _).alloc (Nat.le_refl _) _⟩
theorem root_nil (now : Int) (w : World) : Calls Try.prog 12 #[.pointer none, .int .i64 now] w fun e w' => e = .returned (.bool false) ∧ Below w.heap.size w w' := by
  have HB := Lib.hid (best_nil now w)
  go_enter Try.func12, Try.ntmps12
  go_wp2_with fail
  refine HB.out.mono ?_
  rintro e w1 ⟨rfl, b1⟩
  unfold Vc.val Vc.cells Pr.cells iz
  have L2 := b1.alloc b1.size (.cells #[.int .i64 0, .int .i64 0, .int .i64 0, .int .i64 0, .int .i64 0, .int .i64 0, .int .i64 0, .int .i64 (-1)] 31)
  have HL := Lib.hid L2
  clear b1 L2 HB
  go_wp2_with fail
  go_ret
  exact ⟨rfl, HL.out⟩
set_option maxRecDepth 100000 in
set_option maxHeartbeats 4000000 in
theorem best_any (b : Bks) (t : Tre) (ps : List Value) (now : Int) (w : World) (h : TAt w b t ps) (hnow : R64 now) (hat : ∀ e ∈ t.es, R64 e.at_) (hm0 : 0 ≤ t.most) (hm1 : t.most ≤ 9223372036854775807) :
    Calls Try.prog 9 #[.pointer (some ⟨b.g, 0, none⟩), .int .i64 now] w fun e w' => ∃ v, e = .returned (.tuple #[(t.top now).val, v]) ∧ w'.ownsRow w.heap.size 3 1 v t.es.length ((List.range t.es.length).map fun j => .int .i64 (roleAt t.own (t.top now) (t.hs now) j)) ∧ Below w.heap.size w w' := by
  have L0 := (Below.refl w.heap.size w).alloc (Nat.le_refl _) (.cells #[.int .i64 0, .int .i64 0, .int .i64 0, .int .i64 0, .int .i64 0, .int .i64 0, .int .i64 0, .int .i64 0] 31)
  have V0 := Blk.new w 31 #[.int .i64 0, .int .i64 0, .int .i64 0, .int .i64 0, .int .i64 0, .int .i64 0, .int .i64 0, .int .i64 0]
  have T0 := h.kept L0
  have HT0 := Lib.hid T0
  have HL0 := Lib.hid L0
  have HV0 := Lib.hid V0
  have HP := Lib.hid (fun W (hW : TAt W b t ps) => ports_any b t ps now W hW hnow hat hm0 hm1)
  have hn8 := h.few
  have hlh : (t.hs now).length = t.es.length := by unfold Tre.hs; rw [List.length_map]
  have hch := fun (A3 : Option Addr) (c3 : Nat) (W : World) (hr : Reads W W.heap.size 10 A3 t.es.length (hcells (t.hs now))) => choose_any t.own A3 t.es.length c3 (t.hs now) W hr hlh (by omega)
  unfold ChooseRet at hch
  unfold Tre.top
  generalize topOf t.own (t.hs now) = T at hch ⊢
  have HCH := Lib.hid hch
  clear h L0 V0 T0 hnow hat hm0 hm1 hch hlh
  go_enter Try.func9, Try.ntmps9
  go_wp2_with fail
  generalize w.alloc (.cells #[.int .i64 0, .int .i64 0, .int .i64 0, .int .i64 0, .int .i64 0, .int .i64 0, .int .i64 0, .int .i64 0] 31) = w1 at *
  have E1 := HT0.out.box
  have V1 := HV0.out
  refine wp_region_tree [10] (.free 0 (.free 1 (.free 2 (.take 3 (.free 4 (.free 5 (.one 6 (.one 7 (.free 8 (.free 9 (.wr 10 (.free 11 .nil)))))))))))) (fun w' => Blk w' b.g 75 (tcs b t) ∧ Blk w' w.heap.size 31 #[.int .i64 0, .int .i64 0, .int .i64 0, .int .i64 0, .int .i64 0, .int .i64 0, .int .i64 0, .int .i64 0]) (by kernel_rfl) (by kernel_rfl) (fun _ _ _ _ _ h => h) ⟨E1, V1⟩ ?_
  have HTD : Hid (TAt w1.drew b t ps) := Lib.hid (HT0.out.kept (Below.refl _ _).drew)
  have HLD : Hid (Below w.heap.size w w1.drew) := Lib.hid HL0.out.drew
  have HVD : Hid (Blk w1.drew w.heap.size 31 #[.int .i64 0, .int .i64 0, .int .i64 0, .int .i64 0, .int .i64 0, .int .i64 0, .int .i64 0, .int .i64 0]) := Lib.hid V1
  clear E1 V1
  generalize w1.drew = w2 at *
  (with_reducible (refine tr_free (v := ?_) rfl ?_ ?_ ?_); rotate_left; (first | exact wanted_none rfl | exact wanted_on rfl rfl rfl); (intro w'; go_simp; with_reducible rfl); simp only [Act.put, List.setIfInBounds_toArray, List.set_cons_zero, List.set_cons_succ])
  (with_reducible (refine tr_free (v := ?_) rfl ?_ ?_ ?_); rotate_left; (first | exact wanted_none rfl | exact wanted_on rfl rfl rfl); (intro w'; go_simp; with_reducible rfl); simp only [Act.put, List.setIfInBounds_toArray, List.set_cons_zero, List.set_cons_succ])
  (with_reducible (refine tr_free (v := ?_) rfl ?_ ?_ ?_); rotate_left; (first | exact wanted_none rfl | exact wanted_on rfl rfl rfl); (intro w'; go_simp; with_reducible rfl); simp only [Act.put, List.setIfInBounds_toArray, List.set_cons_zero, List.set_cons_succ])
  (with_reducible (refine tr_take (v := ?_) rfl ?_ ?_ ?_); rotate_left; (first | exact wanted_none rfl | exact wanted_on rfl rfl rfl); (rintro w' ⟨u1, u2⟩; (have q1 := u1.cellOf (v := .int .i64 t.own.one) 1 rfl); (have q2 := u1.cellOf (v := .int .i64 t.own.cls) 2 rfl); (have q3 := u1.cellOf (v := .int .i64 t.own.two) 3 rfl); (have q4 := u1.cellOf (v := .int .i64 t.own.id) 4 rfl); go_simp; with_reducible rfl); simp only [Act.put, List.setIfInBounds_toArray, List.set_cons_zero, List.set_cons_succ])
  (with_reducible (refine tr_free (v := ?_) rfl ?_ ?_ ?_); rotate_left; (first | exact wanted_none rfl | exact wanted_on rfl rfl rfl); (intro w'; go_simp; with_reducible rfl); simp only [Act.put, List.setIfInBounds_toArray, List.set_cons_zero, List.set_cons_succ])
  (with_reducible (refine tr_free (v := ?_) rfl ?_ ?_ ?_); rotate_left; (first | exact wanted_none rfl | exact wanted_on rfl rfl rfl); (intro w'; go_simp; with_reducible rfl); simp only [Act.put, List.setIfInBounds_toArray, List.set_cons_zero, List.set_cons_succ])
  (with_reducible (refine tr_call 20 ?_ rfl ?_ ?_ ?_); rotate_left; (first | exact wanted_none rfl | exact wanted_on rfl rfl rfl); (go_simp; with_reducible rfl))
  refine (HP.out w2 HTD.out).mono ?_
  rintro e w3 ⟨A3, c3, rfl, hr3, b3⟩
  have hT3 := HTD.out.kept b3
  have hV3 := HVD.out.kept b3
  refine ⟨_, rfl, ⟨hT3.box, hV3⟩, ?_⟩
  simp only [Act.put, List.setIfInBounds_toArray, List.set_cons_zero, List.set_cons_succ]
  have HL3 := Lib.hid (HLD.out.trans (b3.mono HLD.out.size))
  have HR3 := Lib.hid hr3
  have HV3 := Lib.hid hV3
  have HT3 := Lib.hid hT3
  clear hr3 b3 hT3 hV3 HVD HTD HLD
  (with_reducible (refine tr_call 19 ?_ rfl ?_ ?_ ?_); rotate_left; (first | exact wanted_none rfl | exact wanted_on rfl rfl rfl); (go_simp; with_reducible rfl))
  refine (HCH.out A3 c3 w3 HR3.out).mono ?_
  rintro e w4 ⟨v4, rfl, own4, b4⟩
  have hV4 := HV3.out.kept b4
  refine ⟨_, rfl, ⟨(HT3.out.kept b4).box, hV4⟩, ?_⟩
  simp only [Act.put, List.setIfInBounds_toArray, List.set_cons_zero, List.set_cons_succ]
  show wpTr _ _ _ _ _ _ _
  have HO4 := Lib.hid own4
  have hL4 := HL3.out.trans (b4.mono HL3.out.size)
  have hsz3 := HL3.out.size
  have HL4 := Lib.hid hL4
  clear own4 b4 hL4
  rw [show T.val = .agg #[.int .i64 T.root.one, .int .i64 T.root.cls, .int .i64 T.root.two, .int .i64 T.root.id, .int .i64 T.steps, .int .i64 T.src, .int .i64 T.port, .int .i64 T.at_] from rfl]
  (with_reducible (refine tr_free (v := ?_) rfl ?_ ?_ ?_); rotate_left; (first | exact wanted_none rfl | exact wanted_on rfl rfl rfl); (intro w'; go_simp; with_reducible rfl); simp only [Act.put, List.setIfInBounds_toArray, List.set_cons_zero, List.set_cons_succ])
  (with_reducible (refine tr_free (v := ?_) rfl ?_ ?_ ?_); rotate_left; (first | exact wanted_none rfl | exact wanted_on rfl rfl rfl); (intro w'; go_simp; with_reducible rfl); simp only [Act.put, List.setIfInBounds_toArray, List.set_cons_zero, List.set_cons_succ])
  refine tr_wr_part rfl rfl 31 (.tmp 4) (.tmp 17) rfl rfl hV4 rfl (by simp) (by kernel_rfl) (by simp [Value.oneCell']) ?_
  intro w5 V5 z5 g5
  simp only [Act.put, List.setIfInBounds_toArray, List.set_cons_zero, List.set_cons_succ]
  have V6 : Blk w5 w.heap.size 31 #[.int .i64 T.root.one, .int .i64 T.root.cls, .int .i64 T.root.two, .int .i64 T.root.id, .int .i64 T.steps, .int .i64 T.src, .int .i64 T.port, .int .i64 T.at_] := by simpa [putAll] using V5
  obtain ⟨c0, c1, c2, c3', c4, c5, c6, c7⟩ := V6.vec
  have hlt4 := fun g hg => (ownsRow_lt HO4.out g hg).1
  have own5 := HO4.out.kept g5 (by
    cases hv : v4.ownBlock with
    | none => exact .inl rfl
    | some g => exact .inr (by
        intro e
        injection e with e
        have := hlt4 g hv
        have hz : w.heap.size < w3.heap.size := HV3.out.lt
        omega))
  have L5 := HL4.out.grown g5 HL4.out.size (fun k hk => by injection hk with hk; omega)
  have HE := Lib.hid (And.intro own5 L5)
  clear V5 g5 z5 own5 L5 HO4 HL4 hV4
  (with_reducible (refine tr_free (v := ?_) rfl ?_ ?_ ?_); rotate_left; (first | exact wanted_none rfl | exact wanted_on rfl rfl rfl); (intro w'; go_simp; with_reducible rfl); simp only [Act.put, List.setIfInBounds_toArray, List.set_cons_zero, List.set_cons_succ])
  refine tr_nil ?_
  clear V6
  go_wp2_with fail
  refine bodyPost_ret (v := .tuple #[T.val, v4]) (by simp [results, Try.results9, go_sem, Vc.val, Vc.cells, Pr.cells, iz, c0, c1, c2, c3', c4, c5, c6, c7]) rfl ?_
  refine ⟨v4, rfl, ?_, HE.out.2⟩
  have h := HE.out.1
  refine ownsRow_mono_base h HL3.out.size
theorem root_any (b : Bks) (t : Tre) (ps : List Value) (now : Int) (w : World) (h : TAt w b t ps) (hnow : R64 now) (hat : ∀ e ∈ t.es, R64 e.at_) (hm0 : 0 ≤ t.most) (hm1 : t.most ≤ 9223372036854775807) :
    Calls Try.prog 12 #[.pointer (some ⟨b.g, 0, none⟩), .int .i64 now] w fun e w' => e = .returned (.bool (decide ((t.top now).at_ < 0))) ∧ Below w.heap.size w w' := by
  have HB := Lib.hid (best_any b t ps now w h hnow hat hm0 hm1)
  clear h hnow hat hm0 hm1
  generalize t.top now = T at *
  generalize (List.range t.es.length).map (fun j => Value.int .i64 (roleAt t.own T (t.hs now) j)) = R at HB
  obtain ⟨x, hx⟩ : ∃ x, x = decide (T.at_ < 0) := ⟨_, rfl⟩
  rw [← hx]
  have HX := Lib.hid hx
  clear hx
  go_enter Try.func12, Try.ntmps12
  go_wp2_with fail
  refine HB.out.mono ?_
  rintro e w1 ⟨v, rfl, _, b1⟩
  rw [show T.val = .agg #[.int .i64 T.root.one, .int .i64 T.root.cls, .int .i64 T.root.two, .int .i64 T.root.id, .int .i64 T.steps, .int .i64 T.src, .int .i64 T.port, .int .i64 T.at_] from rfl]
  have L2 := b1.alloc b1.size (.cells #[.int .i64 T.root.one, .int .i64 T.root.cls, .int .i64 T.root.two, .int .i64 T.root.id, .int .i64 T.steps, .int .i64 T.src, .int .i64 T.port, .int .i64 T.at_] 31)
  have HL := Lib.hid L2
  clear b1 L2 HB
  by_cases h0 : T.at_ < 0
  · obtain rfl : x = true := HX.out.trans (decide_eq_true h0)
    clear HX
    go_wp2_with fail
    go_ret
    exact ⟨rfl, HL.out⟩
  · obtain rfl : x = false := HX.out.trans (decide_eq_false h0)
    have d0 : decide (T.at_ < 0) = false := decide_eq_false h0
    clear HX h0
    go_wp2_with fail
    go_ret
    exact ⟨rfl, HL.out⟩
end Go.Proofs.Ytcdgofndfajekaa
