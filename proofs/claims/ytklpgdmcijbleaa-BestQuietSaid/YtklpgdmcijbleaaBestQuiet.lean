/-
  BestQuiet: for every own clock and whatever ports have heard the law returns true, and both read as they did. No condition.
-/
import Derived.Test.YtklpgdmcijbleaaBestLaw0
import Derived.Test.YtklpgdmcijbleaaBestPlain
namespace Go.Proofs.Ytklpgdmcijbleaa
open Go.RowKit Go.WideShapes Go.ChangeShapes

def cleanH (h : Hd) : Hd := if h.up = true ∧ h.ok = true then h else ⟨h.up, false, ⟨⟨0, 0, 0, 0⟩, 0, 0, 0, 0⟩⟩
theorem topFrom_clean (own top : Vc) : ∀ (hs : List Hd) (i : Nat), topFrom own top i (hs.map cleanH) = topFrom own top i hs := by
  intro hs
  induction hs generalizing top with
  | nil => intro i; rfl
  | cons h hs ih =>
    intro i
    rw [List.map_cons, topFrom, topFrom, ih]
    congr 1
    unfold cleanH
    by_cases hc : h.up = true ∧ h.ok = true
    · rw [if_pos hc]
    · rw [if_neg hc]
      have e1 : topStep own top i h = top := if_neg (fun hh => hc ⟨hh.1, hh.2.1⟩)
      have e2 : topStep own top i ⟨h.up, false, ⟨⟨0, 0, 0, 0⟩, 0, 0, 0, 0⟩⟩ = top := if_neg (fun hh => by simp at hh)
      rw [e1, e2]
theorem topOf_clean (own : Pr) (hs : List Hd) : topOf own (hs.map cleanH) = topOf own hs := topFrom_clean _ _ _ _
theorem roleOf_clean (own : Pr) (top : Vc) (k : Nat) (h : Hd) : roleOf own top k (cleanH h) = roleOf own top k h := by
  unfold cleanH
  by_cases hc : h.up = true ∧ h.ok = true
  · rw [if_pos hc]
  · rw [if_neg hc]
    unfold roleOf
    by_cases hu : h.up = false
    · rw [if_pos hu, if_pos hu]
    · rw [if_neg hu, if_neg hu]
      by_cases hk : (k : Int) = top.at_
      · rw [if_pos hk, if_pos hk]
      · rw [if_neg hk, if_neg hk, if_neg (fun hh => by simp at hh), if_neg (fun hh => hc ⟨by simpa using hu, hh.2.1⟩)]
theorem roleAt_clean (own : Pr) (top : Vc) (hs : List Hd) (j : Nat) : roleAt own top (hs.map cleanH) j = roleAt own top hs j := by
  unfold roleAt
  rw [List.getElem?_map]
  cases hs[j]? with
  | none => rfl
  | some h => exact roleOf_clean own top j h
theorem hcells_snoc (hs : List Hd) (h : Hd) : hcells (hs ++ [h]) = hcells hs ++ h.cells := by simp [hcells]
theorem hcells_len (hs : List Hd) : (hcells hs).length = hs.length * 10 := flatMap_length Hd.len hs
theorem styH : SliceTy Try.prog 36 40 10 72 := sliceTy_mk (z := .agg #[.bool false, .bool false, .int .i64 0, .int .i64 0, .int .i64 0, .int .i64 0, .int .i64 0, .int .i64 0, .int .i64 0, .int .i64 0]) Try.underlying36 (by kernel_rfl) rfl
theorem one_cells (h : Hd) : ∀ u ∈ h.cells, u.oneCell' = true := by
  intro u hu
  simp [Hd.cells, Vc.cells, Pr.cells, iz] at hu
  rcases hu with rfl | rfl | rfl | rfl | rfl | rfl | rfl | rfl | rfl | rfl <;> rfl

set_option maxRecDepth 100000 in
set_option maxHeartbeats 8000000 in
theorem bestQuiet_calls (own : Pr) (A : Option Addr) (n c : Nat) (hs_ : List Hd) (w : World) (hr : Reads w w.heap.size 10 A n (hcells hs_)) (hl : hs_.length = n) (hn : n ≤ maxLen) :
    Calls Try.prog 7 #[own.val, .slice A n c] w fun e w' => e = .returned (.bool true) ∧ Below w.heap.size w w' := by
  have hr0 := hr
  unfold maxLen at hn
  unfold Pr.val Pr.cells iz
  go_enter Try.func7, Try.ntmps7
  go_wp2_with fail
  refine (head_any _).mono ?_
  rintro e w1 ⟨rfl, hb1⟩
  have B0 : Blk w1 w.heap.size 23 #[.int .i64 own.one, .int .i64 own.cls, .int .i64 own.two, .int .i64 own.id] := (Blk.new _ _ _).below hb1 (by simp)
  have hb : Below w.heap.size w w1 := ((Below.refl _ _).alloc (Nat.le_refl _) _).trans (hb1.mono (by simp))
  have hz := hb1.size
  simp only [World.size_alloc] at hz
  clear hb1
  obtain ⟨o0, o1, o2, o3⟩ := B0.pri
  go_wp2_with fail
  · go_ret
    exact ⟨rfl, hb⟩
  · have hn30 : n ≤ 30 := by have : (n : Int) ≤ 30 := by assumption
                             omega
    have hch := fun W hr => choose_any own A n c hs_ W hr hl (by omega)
    have hch2 := fun A c W hr => choose_any own A n c (hs_.map cleanH) W hr (by simpa using hl) (by omega)
    unfold ChooseRet at hch hch2
    rw [topOf_clean] at hch2
    simp only [roleAt_clean] at hch2
    generalize topOf own hs_ = top at *
    generalize hro : ((List.range n).map fun j => Value.int .i64 (roleAt own top hs_ j)) = ro at *
    unfold Vc.val Vc.cells Pr.val Pr.cells iz at hch hch2
    simp only [List.cons_append, List.nil_append] at hch hch2
    have HC := Lib.hid hch
    have HC2 := Lib.hid hch2
    have hro1 : ∀ k, k < n → ∃ x : Int, ro[k]? = some (.int .i64 x) := fun k hk => ⟨_, by rw [← hro, List.getElem?_map, List.getElem?_range hk]; rfl⟩
    have HRO := Lib.hid hro1
    clear hch hch2 hro hro1
    refine (HC.out _ ((hr.below hb).more hb.size)).mono ?_
    rintro e w2 ⟨v, rfl, hown, hb2⟩
    obtain ⟨A2, c2, rfl, hc2, hR⟩ := ownsRow_reads hown
    have D0 : Blk w2 w.heap.size _ _ := B0.below hb2 (by omega)
    have hW2 : Below w.heap.size w w2 := hb.trans (hb2.mono (by omega))
    have hz2 := hb2.size
    clear hown hb2 HC B0 o0 o1 o2 o3
    go_wp2_with fail
    have hR1 := (hR.alloc (Nat.le_refl _) (.cells #[.int .i64 top.root.one, .int .i64 top.root.cls, .int .i64 top.root.two, .int .i64 top.root.id, .int .i64 top.steps, .int .i64 top.src, .int .i64 top.port, .int .i64 top.at_] 25)).alloc (by simp) (.cells #[] 40)
    have hb1 := (hW2.alloc (by omega) (.cells #[.int .i64 top.root.one, .int .i64 top.root.cls, .int .i64 top.root.two, .int .i64 top.root.id, .int .i64 top.steps, .int .i64 top.src, .int .i64 top.port, .int .i64 top.at_] 25)).alloc (by simp; omega) (.cells #[] 40)
    have D1 := (D0.alloc (.cells #[.int .i64 top.root.one, .int .i64 top.root.cls, .int .i64 top.root.two, .int .i64 top.root.id, .int .i64 top.steps, .int .i64 top.src, .int .i64 top.port, .int .i64 top.at_] 25)).alloc (.cells #[] 40)
    have D5 := (Blk.new w2 25 #[.int .i64 top.root.one, .int .i64 top.root.cls, .int .i64 top.root.two, .int .i64 top.root.id, .int .i64 top.steps, .int .i64 top.src, .int .i64 top.port, .int .i64 top.at_]).alloc (.cells #[] 40)
    have D7 := ownsRow_new (w2.alloc (.cells #[.int .i64 top.root.one, .int .i64 top.root.cls, .int .i64 top.root.two, .int .i64 top.root.id, .int .i64 top.steps, .int .i64 top.src, .int .i64 top.port, .int .i64 top.at_] 25)) (base := w2.heap.size + 1) (n := 0) (size := 10) (cs := #[]) (e := 40) (by simp) rfl (Nat.zero_le _)
    simp only [World.size_alloc] at D7
    obtain ⟨wo, rfl⟩ : ∃ wo : World, wo = w2 := ⟨_, rfl⟩
    clear hR hW2 D0
    go_loopw [7, 27] (fun cl i wr => ∃ (k : Nat), k ≤ n ∧ i = .int .i64 k ∧ Below w.heap.size w wr ∧ Reads wr wo.heap.size 1 A2 n ro ∧ Blk wr w.heap.size 23 #[.int .i64 own.one, .int .i64 own.cls, .int .i64 own.two, .int .i64 own.id] ∧ Blk wr wo.heap.size 25 #[.int .i64 top.root.one, .int .i64 top.root.cls, .int .i64 top.root.two, .int .i64 top.root.id, .int .i64 top.steps, .int .i64 top.src, .int .i64 top.port, .int .i64 top.at_] ∧ wo.heap.size + 1 < wr.heap.size ∧ wr.ownsRow (wo.heap.size + 1) 40 10 cl k (hcells ((hs_.take k).map cleanH))) (fun _ i _ => n - (intOf i).toNat)
    case atStart => exact ⟨0, Nat.zero_le _, rfl, hb1, hR1, D1, D5, by simp, D7⟩
    case round =>
      clear hR1 hb1 hb D1 D5 D7
      obtain ⟨k, hk, rfl, hb, hR, D0, D5, hsz, hown⟩ := hrel
      have hbs := hb.size
      by_cases hlt : k < n
      · obtain ⟨v, hv⟩ := getElem?_some_of_lt hl hlt
        have HV := Lib.hid (take_get hv)
        obtain ⟨ad, rfl, hblk, hc0, hcj⟩ := ((hr0.below hb)).elem Hd.len hv hlt
        have p0 := hc0 _ rfl
        have p1 := hcj 1 _ (by omega) rfl
        have p2 := hcj 2 _ (by omega) rfl
        have p3 := hcj 3 _ (by omega) rfl
        have p4 := hcj 4 _ (by omega) rfl
        have p5 := hcj 5 _ (by omega) rfl
        have p6 := hcj 6 _ (by omega) rfl
        have p7 := hcj 7 _ (by omega) rfl
        have p8 := hcj 8 _ (by omega) rfl
        have p9 := hcj 9 _ (by omega) rfl
        clear hc0 hcj
        unfold iz at *
        have hblk' : (ad.add (k * 10)).block < wr.heap.size := by omega
        clear hv
        by_cases hu : v.up = true
        · rw [hu] at p0
          by_cases ho : v.ok = true
          · rw [ho] at p1
            have HE : Hid (cleanH v = v) := if_pos ⟨hu, ho⟩
            have HUO := Lib.hid (And.intro hu ho)
            clear hu ho
            go_wp2_with (at_builtin; refine wpList_push_at rfl (.tmp 42) (.tmp 44) 36 rfl styH (cs := #[.bool true, .bool true, .int .i64 v.vec.root.one, .int .i64 v.vec.root.cls, .int .i64 v.vec.root.two, .int .i64 v.vec.root.id, .int .i64 v.vec.steps, .int .i64 v.vec.src, .int .i64 v.vec.port, .int .i64 v.vec.at_]) rfl (by intro u hu; simp at hu; rcases hu with rfl | rfl | rfl | rfl | rfl | rfl | rfl | rfl | rfl | rfl <;> rfl) rfl (hown.alloc _) rfl (by simp) (by omega) (by simp; omega) ?_; intro v3 w3 hown3 hb3)
            go_roundw
            case rel => exact ⟨k + 1, by omega, by go_num, (hb.alloc hbs _).trans (hb3.mono (by omega)), (hR.alloc (by omega) _).keep (fun p hp => hb3.cell (by omega)), (D0.alloc _).below hb3 (by omega), (D5.alloc _).below hb3 (by omega), by have := hb3.size; simp at this; omega, by have h5 := hown3; rw [HV.out, List.map_append, show [v].map cleanH = [cleanH v] from rfl, hcells_snoc]; rw [HE.out]; simp only [Hd.cells, HUO.out.1, HUO.out.2]; exact h5⟩
            case measure => simp [intOf]; omega
          · have ho' : v.ok = false := by simpa using ho
            rw [ho'] at p1
            have HE : Hid (cleanH v = ⟨true, false, ⟨⟨0, 0, 0, 0⟩, 0, 0, 0, 0⟩⟩) := (if_neg (fun h => ho h.2) : cleanH v = _).trans (by rw [hu])
            clear hu ho ho'
            go_wp2_with (at_builtin; refine wpList_push_at rfl (.tmp 42) (.tmp 44) 36 rfl styH (cs := #[.bool true, .bool false, .int .i64 0, .int .i64 0, .int .i64 0, .int .i64 0, .int .i64 0, .int .i64 0, .int .i64 0, .int .i64 0]) rfl (by intro u hu; simp at hu; rcases hu with rfl | rfl | rfl | rfl | rfl | rfl | rfl | rfl | rfl | rfl <;> rfl) rfl (hown.alloc _) rfl (by simp) (by omega) (by simp; omega) ?_; intro v3 w3 hown3 hb3)
            go_roundw
            case rel => exact ⟨k + 1, by omega, by go_num, (hb.alloc hbs _).trans (hb3.mono (by omega)), (hR.alloc (by omega) _).keep (fun p hp => hb3.cell (by omega)), (D0.alloc _).below hb3 (by omega), (D5.alloc _).below hb3 (by omega), by have := hb3.size; simp at this; omega, by have h5 := hown3; rw [HV.out, List.map_append, show [v].map cleanH = [cleanH v] from rfl, hcells_snoc]; rw [HE.out]; exact h5⟩
            case measure => simp [intOf]; omega
        · have hu' : v.up = false := by simpa using hu
          rw [hu'] at p0
          have HE : Hid (cleanH v = ⟨false, false, ⟨⟨0, 0, 0, 0⟩, 0, 0, 0, 0⟩⟩) := (if_neg (fun h => hu h.1) : cleanH v = _).trans (by rw [hu'])
          clear hu hu'
          go_wp2_with (at_builtin; refine wpList_push_at rfl (.tmp 42) (.tmp 44) 36 rfl styH (cs := #[.bool false, .bool false, .int .i64 0, .int .i64 0, .int .i64 0, .int .i64 0, .int .i64 0, .int .i64 0, .int .i64 0, .int .i64 0]) rfl (by intro u hu; simp at hu; rcases hu with rfl | rfl | rfl | rfl | rfl | rfl | rfl | rfl | rfl | rfl <;> rfl) rfl (hown.alloc _) rfl (by simp) (by omega) (by simp; omega) ?_; intro v3 w3 hown3 hb3)
          go_roundw
          case rel => exact ⟨k + 1, by omega, by go_num, (hb.alloc hbs _).trans (hb3.mono (by omega)), (hR.alloc (by omega) _).keep (fun p hp => hb3.cell (by omega)), (D0.alloc _).below hb3 (by omega), (D5.alloc _).below hb3 (by omega), by have := hb3.size; simp at this; omega, by have h5 := hown3; rw [HV.out, List.map_append, show [v].map cleanH = [cleanH v] from rfl, hcells_snoc]; rw [HE.out]; exact h5⟩
          case measure => simp [intOf]; omega
      · obtain rfl : n = k := by omega
        rw [List.take_of_length_le (by omega)] at hown
        obtain ⟨A3, c3, rfl, hc3, hR3⟩ := ownsRow_reads hown
        obtain ⟨o0, o1, o2, o3⟩ := D0.pri
        go_wp2_with fail
        refine (HC2.out _ _ _ hR3).mono ?_
        rintro e w4 ⟨v4, rfl, hown4, hb4⟩
        obtain ⟨A4, c4, rfl, hc4, hR4⟩ := ownsRow_reads hown4
        have E5 := D5.below hb4 (by omega)
        have ER := hR.keep (w' := w4) (fun p hp => hb4.cell (by omega))
        have EW := hb.trans (hb4.mono hbs)
        have hz4 := hb4.size
        clear hown4 hb4 hown hR3 D0 D5 hR hb o0 o1 o2 o3
        obtain ⟨t0, t1, t2, t3, t4, t5, t6, t7⟩ := E5.vec
        have hs4 : wo.heap.size < w4.heap.size := by omega
        go_wp2_with fail
        have ER1 := ER.alloc (by omega) (.cells #[.int .i64 top.root.one, .int .i64 top.root.cls, .int .i64 top.root.two, .int .i64 top.root.id, .int .i64 top.steps, .int .i64 top.src, .int .i64 top.port, .int .i64 top.at_] 25)
        have FR1 := hR4.alloc (Nat.le_refl _) (.cells #[.int .i64 top.root.one, .int .i64 top.root.cls, .int .i64 top.root.two, .int .i64 top.root.id, .int .i64 top.steps, .int .i64 top.src, .int .i64 top.port, .int .i64 top.at_] 25)
        have EW1 := EW.alloc (by omega) (.cells #[.int .i64 top.root.one, .int .i64 top.root.cls, .int .i64 top.root.two, .int .i64 top.root.id, .int .i64 top.steps, .int .i64 top.src, .int .i64 top.port, .int .i64 top.at_] 25)
        obtain ⟨wp, rfl⟩ : ∃ wp : World, wp = w4 := ⟨_, rfl⟩
        clear ER hR4 EW E5 t0 t1 t2 t3 t4 t5 t6 t7
        go_loopw [65] (fun i wr => ∃ (k : Nat), k ≤ n ∧ i = .int .i64 k ∧ Below w.heap.size w wr ∧ Reads wr wo.heap.size 1 A2 n ro ∧ Reads wr wp.heap.size 1 A4 n ro) (fun i _ => n - (intOf i).toNat)
        case atStart => exact ⟨0, Nat.zero_le _, rfl, EW1, ER1, FR1⟩
        case round =>
          clear ER1 FR1 EW1
          obtain ⟨k, hk, rfl, hb, hR, hR4⟩ := hrel
          by_cases hlt : k < n
          · obtain ⟨x, hx⟩ := HRO.out k hlt
            obtain ⟨ad2, u, rfl, _, hu, hcu⟩ := hR.at_ hlt
            obtain ⟨ad4, u4, rfl, _, hu4, hcu4⟩ := hR4.at_ hlt
            rw [hx] at hu hu4
            simp only [Option.some.injEq] at hu hu4
            subst hu
            subst hu4
            clear hx
            have hk1 : (k : Int) < n := by omega
            have hk0 : (0 : Int) ≤ k := by omega
            go_wp2_with fail
            go_quiet (fail)
            go_wp2_with fail
            go_roundw
            case rel => exact ⟨k + 1, by omega, by go_num, below_drewN hb _, hR.drewN _, hR4.drewN _⟩
            case measure => simp [intOf]; omega
          · go_wp2_with fail
            go_ret
            exact ⟨rfl, hb⟩

/-! ### The row's step -/
set_option maxRecDepth 100000 in
theorem bestQuiet_lifted (os : Os) (started : os.Started) (H : Type) (enc : TypeId × Value → H) :
    ReturnsInHanded {} Try.checked os 7 .any (Rows.bestQuietSpec.pre6 enc Try.prog Try.f7 Rows.bestQuietRow.domain false) (Rows.bestQuietSpec.post enc Try.prog Try.f7 false true false false) := by
  refine returnsInHanded_of_change (C := Try.checked) own started (by kernel_rfl) Try.func7
    (ChangeSpec.witness6 (enc := enc) (C := Try.checked) false ⟨#[], #[.agg (Array.replicate 4 (.int .i64 0)), .slice none 0 0], []⟩ 8 (by kernel_rfl) (by kernel_rfl) (by kernel_rfl) (by kernel_rfl)) ?_
  intro W base args ds gs before hval0 hW _ _
  have hval : ∀ (j : Nat) t v, Try.f7.params[j]? = some t → args[j]? = some v → Value.okWide Try.prog W .any base t v := hval0
  have hW' := hW
  obtain ⟨p, q, hA0, hV, rfl, hfz, hnd⟩ := hW
  have hA : DataW.TrodAll enc Try.prog W 0 (fun _ => true) true Try.f7.params.toList args.toList ds p := hA0
  rw [Try.params7] at hA hval
  obtain ⟨v0, v1, d0, d1, p0, p1, rfl, rfl, rfl, h0, h1⟩ := trodAll_two hA
  obtain ⟨own, rfl⟩ := open_prior (hval 0 23 v0 rfl rfl) h0
  obtain ⟨A, n, c, hs, rfl, hn, hl, hr⟩ := open_heards (hval 1 36 v1 rfl rfl) h1 (fun x hx => hW'.lt x (by simp [hx]))
  exact law_post laidOut (by kernel_rfl) rfl (by kernel_rfl) Try.underlying4 rfl hW' (bestQuiet_calls own A n c hs W hr hl hn)

theorem bestQuiet_holds : Rows.BestQuietSaid :=
  OpenClaim.holds_of_wide 7 Try.f7 rfl rfl rfl rfl rfl rfl rfl ⟨rfl, rfl, rfl, rfl, rfl⟩ rfl rfl rfl rfl rfl (by kernel_rfl) Try.func7 (by kernel_rfl)
    (of_decide_eq_true (by kernel_rfl)) (by unfold Func.isWrapper; first | (rw [if_pos (by decide +kernel)]; kernel_rfl) | (rw [if_neg (by decide +kernel)]; exact ⟨rfl, rfl⟩))
    (fun os started H enc _ => bestQuiet_lifted os started H enc)

#print axioms bestQuiet_holds
end Go.Proofs.Ytklpgdmcijbleaa
