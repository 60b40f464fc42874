/-
  BestChoose: for every own clock and whatever ports have heard the law returns true, and both read as they did. No condition.
-/
import Derived.Test.YtklpgdmcijbleaaBestLaw0
import Derived.Test.YtklpgdmcijbleaaBestPlain
import Derived.Test.YtklpgdmcijbleaaBestRef
import Derived.Test.YtklpgdmcijbleaaKitB
namespace Go.Proofs.Ytklpgdmcijbleaa
open Go.RowKit Go.WideShapes Go.ChangeShapes
attribute [local go_sem ↓] Go.wp_at_zero Go.wp_at_succ

/-! ### The plain law: the two ways to say what a port is to do are one, where steps are not too many -/
def Fit (h : Hd) : Prop := -1099511627776 ≤ h.vec.steps ∧ h.vec.steps ≤ 1099511627776
theorem top_fit (own : Pr) (hs : List Hd) (hf : ∀ h ∈ hs, Fit h) : -1099511627776 ≤ (topOf own hs).steps ∧ (topOf own hs).steps ≤ 1099511627776 := by
  rcases topOf_good own hs with ⟨h1, _⟩ | ⟨j, h, h1, _, h3, _⟩
  · rw [h1]; simp [ownVec]
  · rw [h3]; exact hf h (List.mem_of_getElem? h1)
theorem cmpI_shift (a b : Int) : cmpI a (b + 1) = cmpI (a - 1) b := by unfold cmpI; repeat' split; all_goals omega
theorem role_same (own : Pr) (top : Vc) (i : Nat) (h : Hd) (hf : Fit h) (ht : -1099511627776 ≤ top.steps ∧ top.steps ≤ 1099511627776) : roleOf own top i h = refRole own top i h := by
  obtain ⟨f1, f2⟩ := hf
  unfold roleOf refRole
  by_cases hu : h.up = false
  · rw [if_pos hu, if_pos hu]
  · rw [if_neg hu, if_neg hu]
    by_cases ha : 0 ≤ top.at_
    · rw [if_pos ha]
      by_cases hi : (i : Int) = top.at_
      · rw [if_pos hi, if_pos hi]
      · rw [if_neg hi, if_neg hi]
        have e1 : wrap64 (top.steps + 1) = top.steps + 1 := IntWalk.wrap64_in _ ⟨by omega, by omega⟩
        have e2 : wrap64 (h.vec.steps - 1) = h.vec.steps - 1 := IntWalk.wrap64_in _ ⟨by omega, by omega⟩
        have e3 : cmpV { h.vec with at_ := 0 } (mineOf own top i) = cmpV ⟨h.vec.root, wrap64 (h.vec.steps - 1), h.vec.src, h.vec.port, 0⟩ ⟨top.root, top.steps, own.id, i, 0⟩ := by
          unfold mineOf cmpV
          simp only [if_neg (show ¬ top.at_ < 0 by omega)]
          rw [e1, e2, cmpI_shift]
        rw [e3]
        by_cases ho : h.ok = true
        · by_cases hc : cmpV ⟨h.vec.root, wrap64 (h.vec.steps - 1), h.vec.src, h.vec.port, 0⟩ ⟨top.root, top.steps, own.id, i, 0⟩ < 0
          · rw [if_pos ⟨ha, ho, hc⟩, if_pos ⟨ho, hc, by omega⟩]
          · rw [if_neg (fun x => hc x.2.2), if_neg (fun x => hc x.2.1)]
        · rw [if_neg (fun x => ho x.2.1), if_neg (fun x => ho x.1)]
    · rw [if_neg ha, if_neg (by omega), if_neg (fun x => ha x.1)]
theorem roles_same (own : Pr) (hs : List Hd) (hf : ∀ h ∈ hs, Fit h) : ((refRoles own (topOf own hs) 0 hs).map fun x => Value.int .i64 x) = (List.range hs.length).map fun j => Value.int .i64 (roleAt own (topOf own hs) hs j) := by
  apply List.ext_getElem?
  intro k
  rw [List.getElem?_map, List.getElem?_map]
  by_cases hk : k < hs.length
  · obtain ⟨h, hh⟩ := getElem?_some_of_lt rfl hk
    rw [refRoles_get _ _ _ _ _ _ hh, List.getElem?_range hk]
    simp only [Option.map_some, Nat.zero_add]
    rw [← role_same own _ k h (hf h (List.mem_of_getElem? hh)) (top_fit own hs hf)]
    simp [roleAt, hh]
  · rw [List.getElem?_eq_none (by rw [refRoles_length]; omega), List.getElem?_eq_none (by simp; omega)]
    rfl
theorem hcells_snoc (hs : List Hd) (h : Hd) : hcells (hs ++ [h]) = hcells hs ++ h.cells := by simp [hcells]
theorem styR : SliceTy Try.prog 38 42 10 72 := sliceTy_mk (z := .agg #[.bool false, .bool false, .int .i64 0, .int .i64 0, .int .i64 0, .int .i64 0, .int .i64 0, .int .i64 0, .int .i64 0, .int .i64 0]) Try.underlying38 (by kernel_rfl) rfl

set_option maxRecDepth 100000 in
set_option maxHeartbeats 8000000 in
theorem bestChoose_calls (own : Pr) (A : Option Addr) (n c : Nat) (hs_ : List Hd) (w : World) (hr : Reads w w.heap.size 10 A n (hcells hs_)) (hl : hs_.length = n) (hn : n ≤ maxLen) :
    Calls Try.prog 5 #[own.val, .slice A n c] w fun e w' => e = .returned (.bool true) ∧ Below w.heap.size w w' := by
  have hr0 := hr
  unfold maxLen at hn
  unfold Pr.val Pr.cells iz
  go_enter Try.func5, Try.ntmps5
  go_wp2_with fail
  refine (head_any _).mono ?_
  rintro e w1 ⟨rfl, hb1⟩
  have B0 : Blk w1 w.heap.size 23 #[.int .i64 own.one, .int .i64 own.cls, .int .i64 own.two, .int .i64 own.id] := (Blk.new _ _ _).below hb1 (by simp)
  have hb : Below w.heap.size w w1 := ((Below.refl _ _).alloc (Nat.le_refl _) _).trans (hb1.mono (by simp))
  have hz := hb1.size
  simp only [World.size_alloc] at hz
  clear hb1
  go_wp2_with fail
  · go_ret
    exact ⟨rfl, hb⟩
  · have hn30 : n ≤ 40 := by have : (n : Int) ≤ 40 := by assumption
                             omega
    obtain ⟨wo, rfl⟩ : ∃ wo : World, wo = w1 := ⟨_, rfl⟩
    have C0 := B0.alloc (.cells #[] 42)
    have Cb := hb.alloc (by omega) (.cells #[] 42)
    have C7 := ownsRow_new wo (base := wo.heap.size) (n := 0) (size := 10) (cs := #[]) (e := 42) (Nat.le_refl _) rfl (Nat.zero_le _)
    clear B0 hb
    go_loopw [5, 21] (fun cl i wr => ∃ (k : Nat), k ≤ n ∧ i = .int .i64 k ∧ Below w.heap.size w wr ∧ Blk wr w.heap.size 23 #[.int .i64 own.one, .int .i64 own.cls, .int .i64 own.two, .int .i64 own.id] ∧ wo.heap.size < wr.heap.size ∧ wr.ownsRow wo.heap.size 42 10 cl k (hcells (hs_.take k)) ∧ Hid (∀ h ∈ hs_.take k, Fit h)) (fun _ i _ => n - (intOf i).toNat)
    case atStart => exact ⟨0, Nat.zero_le _, rfl, Cb, C0, by simp, C7, by intro h hh; simp at hh⟩
    case round =>
      clear C0 Cb C7
      obtain ⟨k, hk, rfl, hb, D0, hsz, hown, hfit⟩ := hrel
      have hbs := hb.size
      by_cases hlt : k < n
      · obtain ⟨v, hv⟩ := getElem?_some_of_lt hl hlt
        have HV := Lib.hid (take_get hv)
        obtain ⟨ad, rfl, hblk, hc0, hcj⟩ := ((hr0.below hb)).elem Hd.len hv hlt
        have p0 := hc0 _ rfl
        have p1 := hcj 1 _ (by omega) rfl
        have p2 := hcj 2 _ (by omega) rfl
        have p3 := hcj 3 _ (by omega) rfl
        have p4 := hcj 4 _ (by omega) rfl
        have p5 := hcj 5 _ (by omega) rfl
        have p6 := hcj 6 _ (by omega) rfl
        have p7 := hcj 7 _ (by omega) rfl
        have p8 := hcj 8 _ (by omega) rfl
        have p9 := hcj 9 _ (by omega) rfl
        clear hc0 hcj
        unfold iz at *
        have hblk' : (ad.add (k * 10)).block < wr.heap.size := by omega
        clear hv
        by_cases f1 : v.vec.steps < -1099511627776
        · go_wp2_with fail
          go_ret
          exact ⟨rfl, hb.alloc hbs _⟩
        · have d1 : decide (v.vec.steps < -1099511627776) = false := by simpa using f1
          by_cases f2 : 1099511627776 < v.vec.steps
          · go_wp2_with fail
            go_ret
            exact ⟨rfl, hb.alloc hbs _⟩
          · have d2 : decide (1099511627776 < v.vec.steps) = false := by simpa using f2
            have HFi : Hid (Fit v) := ⟨by omega, by omega⟩
            have hrow := fun W => row_any v.vec W
            unfold Vc.val Vc.cells Pr.cells iz at hrow
            simp only [List.cons_append, List.nil_append] at hrow
            have HW := Lib.hid hrow
            clear hrow f1 f2
            go_wp2_with fail
            have hrow := HW.out
            have hw0 := Blk.new wr 40 #[.bool v.up, .bool v.ok, .int .i64 v.vec.root.one, .int .i64 v.vec.root.cls, .int .i64 v.vec.root.two, .int .i64 v.vec.root.id, .int .i64 v.vec.steps, .int .i64 v.vec.src, .int .i64 v.vec.port, .int .i64 v.vec.at_]
            have hnb := fun k hk => (ownsRow_lt hown k hk).2
            refine wp_region_script [(0, true), (1, true), (2, true), (3, true), (4, true), (5, true), (6, true), (7, false), (8, false), (9, false), (10, false), (11, false)] (fun w' => Blk w' wr.heap.size 40 #[.bool v.up, .bool v.ok, .int .i64 v.vec.root.one, .int .i64 v.vec.root.cls, .int .i64 v.vec.root.two, .int .i64 v.vec.root.id, .int .i64 v.vec.steps, .int .i64 v.vec.src, .int .i64 v.vec.port, .int .i64 v.vec.at_]) (by kernel_rfl) (by kernel_rfl) (fun _ _ _ _ _ h => h) hw0.drew ?_
            repeat (refine script_take (v := ?_) rfl ?_ ?_ ?_; rotate_left; (first | rfl | (go_simp; done)); (intro w' hw'; have hcq := fun i => Blk.cell hw' i; go_simp; with_reducible rfl); simp only [Act.put, List.setIfInBounds_toArray, List.set_cons_zero, List.set_cons_succ])
            (refine script_call 12 ?_ rfl ?_ ?_ ?_; rotate_left; (first | rfl | (go_simp; done)); (go_simp; with_reducible rfl))
            refine (hrow _).mono ?_
            rintro e w2 ⟨rfl, hb2⟩
            have hw2 : Below (wr.heap.size + 1) (wr.alloc (.cells #[.bool v.up, .bool v.ok, .int .i64 v.vec.root.one, .int .i64 v.vec.root.cls, .int .i64 v.vec.root.two, .int .i64 v.vec.root.id, .int .i64 v.vec.steps, .int .i64 v.vec.src, .int .i64 v.vec.port, .int .i64 v.vec.at_] 40)) w2 := (Below.refl _ _).drew.trans (hb2.mono (by simp))
            have hS2 : Blk w2 wr.heap.size 40 _ := hw0.below hw2 (by omega)
            refine ⟨_, rfl, hS2, ?_⟩
            simp only [Act.put, List.setIfInBounds_toArray, List.set_cons_zero, List.set_cons_succ]
            have hz2 := hw2.size
            simp only [World.size_alloc] at hz2
            have E0 : Blk w2 w.heap.size _ _ := (D0.alloc _).below hw2 (by omega)
            have E7 := ownsRow_below (hown.alloc _) hw2 (fun k hk => by have := ownsRow_lt hown k hk; omega)
            have EW : Below w.heap.size w w2 := (hb.alloc hbs _).trans (hw2.mono (by omega))
            (refine script_run (v := ?_) (w' := ?_) rfl ?_ ?_ ?_ ?_; rotate_left 2; (first | rfl | (go_simp; done)); (go_simp; refine ⟨?_, ?_⟩ <;> with_reducible rfl); (exact hS2); simp only [Act.put, List.setIfInBounds_toArray, List.set_cons_zero, List.set_cons_succ])
            (refine script_run (v := ?_) (w' := ?_) rfl ?_ ?_ ?_ ?_; rotate_left 2; (first | rfl | (go_simp; done)); (go_simp; refine ⟨?_, ?_⟩ <;> with_reducible rfl); (exact (hS2.alloc _)); simp only [Act.put, List.setIfInBounds_toArray, List.set_cons_zero, List.set_cons_succ])
            refine script_push rfl rfl (.tmp 35) (.tmp 44) 38 rfl styR (cs := #[.bool v.up, .bool v.ok, .int .i64 v.vec.root.one, .int .i64 v.vec.root.cls, .int .i64 v.vec.root.two, .int .i64 v.vec.root.id, .int .i64 v.vec.steps, .int .i64 v.vec.src, .int .i64 v.vec.port, .int .i64 v.vec.at_]) rfl (by intro u hu; simp at hu; rcases hu with rfl | rfl | rfl | rfl | rfl | rfl | rfl | rfl | rfl | rfl <;> rfl) rfl E7 rfl rfl (by omega) (by omega) ?_
            intro v3 w3 hown3 hb3 hg3
            have hS3 : Blk w3 wr.heap.size 40 _ := (hS2.alloc _).grown hg3 (fun h => by have := hnb _ h.symm; omega)
            refine ⟨hS3, ?_⟩
            simp only [Act.put, List.setIfInBounds_toArray, List.set_cons_zero, List.set_cons_succ]
            (refine script_run (v := ?_) (w' := ?_) rfl ?_ ?_ ?_ ?_; rotate_left 2; (first | rfl | (go_simp; done)); (go_simp; refine ⟨?_, ?_⟩ <;> with_reducible rfl); (exact hS3); simp only [Act.put, List.setIfInBounds_toArray, List.set_cons_zero, List.set_cons_succ])
            refine script_nil ?_
            go_wp2_with fail
            go_roundw
            case rel =>
              refine ⟨k + 1, by omega, by go_num, EW.trans (hb3.mono (by omega)), E0.below hb3 (by omega), by have h5 := hb3.size; omega, by rw [HV.out, hcells_snoc]; exact hown3, ?_⟩
              intro h hh
              rw [HV.out] at hh
              rcases List.mem_append.1 hh with hh | hh
              · exact hfit.out h hh
              · simp at hh
                subst hh
                exact HFi.out
            case measure => simp [intOf]; omega
      · obtain rfl : n = k := by omega
        have hall := hfit.out
        rw [List.take_of_length_le (by omega)] at hall hown
        have hch := fun W hr => choose_any own A n c hs_ W hr hl (by omega)
        have hrf := fun A2 c2 W hr => refChoose_any ⟨own, 0, 0, 0, 0⟩ A2 n c2 hs_ W hr hl (by omega)
        have hrow1 := fun W => row_any ⟨own, 0, 0, 0, 0⟩ W
        have hrow2 := fun W => row_any (topOf own hs_) W
        have hrs := roles_same own hs_ hall
        rw [hl] at hrs
        unfold ChooseRet at hch
        unfold RefRet at hrf
        rw [hrs] at hrf
        clear hrs hall hfit
        generalize topOf own hs_ = top at *
        generalize hro : ((List.range n).map fun j => Value.int .i64 (roleAt own top hs_ j)) = ro at *
        unfold Vc.val Vc.cells Pr.val Pr.cells iz at hch
        unfold Vc.val Vc.cells Pr.cells iz at hrf hrow1 hrow2
        simp only [List.cons_append, List.nil_append] at hch hrf hrow1 hrow2
        have hro1 : ∀ k, k < n → ∃ x : Int, ro[k]? = some (.int .i64 x) := fun k hk => ⟨_, by rw [← hro, List.getElem?_map, List.getElem?_range hk]; rfl⟩
        have HRO := Lib.hid hro1
        have HC := Lib.hid hch
        have HR := Lib.hid hrf
        have HW := Lib.hid (And.intro hrow1 hrow2)
        clear hch hrf hrow1 hrow2 hro hro1
        obtain ⟨A3, c3, rfl, hc3, hR3⟩ := ownsRow_reads hown
        obtain ⟨o0, o1, o2, o3⟩ := D0.pri
        go_wp2_with fail
        refine (HC.out _ ((hr.below hb).more hbs)).mono ?_
        rintro e w2 ⟨v2, rfl, hown2, hb2⟩
        obtain ⟨A2, c2, rfl, hc2, hR2⟩ := ownsRow_reads hown2
        have E0 : Blk w2 w.heap.size _ _ := D0.below hb2 (by omega)
        have ER3 := hR3.below hb2
        have EW := hb.trans (hb2.mono hbs)
        have hz2 := hb2.size
        have hsz2 : w.heap.size < w2.heap.size := by omega
        clear hown2 hb2 hown hR3 D0 hb o0 o1 o2 o3
        obtain ⟨o0, o1, o2, o3⟩ := E0.pri
        go_wp2_with fail
        refine (HW.out.1 _).mono ?_
        rintro e w4 ⟨rfl, hb4⟩
        have F8 : Blk w4 w2.heap.size _ _ := (Blk.new w2 25 #[.int .i64 top.root.one, .int .i64 top.root.cls, .int .i64 top.root.two, .int .i64 top.root.id, .int .i64 top.steps, .int .i64 top.src, .int .i64 top.port, .int .i64 top.at_]).below hb4 (by simp)
        have FR3 := (ER3.alloc (by omega) _).keep (w' := w4) (fun p hp => hb4.cell (by simp; omega))
        have FR2 := (hR2.alloc (Nat.le_refl _) _).keep (w' := w4) (fun p hp => hb4.cell (by simp; omega))
        have FW : Below w.heap.size w w4 := (EW.alloc (by omega) _).trans (hb4.mono (by simp; omega))
        have hz4 := hb4.size
        simp only [World.size_alloc] at hz4
        clear hb4 ER3 hR2 EW E0 o0 o1 o2 o3
        go_wp2_with fail
        refine (HR.out _ _ _ (FR3.more (by omega))).mono ?_
        rintro e w5 ⟨v5, rfl, hown5, hb5⟩
        obtain ⟨A5, c5, rfl, hc5, hR5⟩ := ownsRow_reads hown5
        have G8 := F8.below hb5 (by omega)
        have GR2 := FR2.keep (w' := w5) (fun p hp => hb5.cell (by omega))
        have GW := FW.trans (hb5.mono (by omega))
        have hz5 := hb5.size
        have hsz5 : w2.heap.size < w5.heap.size := by omega
        clear hown5 hb5 FR3 FR2 FW F8
        obtain ⟨t0, t1, t2, t3, t4, t5, t6, t7⟩ := G8.vec
        go_wp2_with fail
        have H5 : Below (w5.heap.size + 1) (w5.alloc (.cells #[.int .i64 top.root.one, .int .i64 top.root.cls, .int .i64 top.root.two, .int .i64 top.root.id, .int .i64 top.steps, .int .i64 top.src, .int .i64 top.port, .int .i64 top.at_] 30)) (w5.alloc (.cells #[.int .i64 top.root.one, .int .i64 top.root.cls, .int .i64 top.root.two, .int .i64 top.root.id, .int .i64 top.steps, .int .i64 top.src, .int .i64 top.port, .int .i64 top.at_] 30)) := Below.refl _ _
        have nn : ((n : Int) != (n : Int)) = false := by simp
        have hrow2 := HW.out.2
        refine wp_region_class (fun w' => Below (w5.heap.size + 1) (w5.alloc (.cells #[.int .i64 top.root.one, .int .i64 top.root.cls, .int .i64 top.root.two, .int .i64 top.root.id, .int .i64 top.steps, .int .i64 top.src, .int .i64 top.port, .int .i64 top.at_] 30)) w') (by kernel_rfl) (by kernel_rfl) H5.drew ?_
        have hneq : ∀ w, (binOp .neq 30 (.agg #[.int .i64 top.root.one, .int .i64 top.root.cls, .int .i64 top.root.two, .int .i64 top.root.id, .int .i64 top.steps, .int .i64 top.src, .int .i64 top.port, .int .i64 top.at_]) (.agg #[.int .i64 top.root.one, .int .i64 top.root.cls, .int .i64 top.root.two, .int .i64 top.root.id, .int .i64 top.steps, .int .i64 top.src, .int .i64 top.port, .int .i64 top.at_])).run Try.prog w = .ok (.bool false) w := fun w => by
          have h5 := run_neq_arr (P := Try.prog) (k := .i64) Try.underlying30 Try.underlying3 (by kernel_rfl) [top.root.one, top.root.cls, top.root.two, top.root.id, top.steps, top.src, top.port, top.at_] [top.root.one, top.root.cls, top.root.two, top.root.id, top.steps, top.src, top.port, top.at_] rfl rfl w
          simpa using h5
        repeat (first | (refine wpQuiet_val (v := ?_) ?_ ?_ ?_; rotate_left; (first | rfl | (go_simp; done)); (intro w' hw'; obtain ⟨hc, hf⟩ := bcell hw'; go_simp; with_reducible rfl); simp only [Act.put, List.setIfInBounds_toArray, List.set_cons_zero, List.set_cons_succ]) | (refine wpQuiet_call (v := ?_) 12 ?_ ?_ ?_ ?_ ?_; rotate_left 2; (first | rfl | (go_simp; done)); (intro w' hw'; obtain ⟨hc, hf⟩ := bcell hw'; go_simp; with_reducible rfl); (intro w' hw'; (with_reducible refine (hrow2 _).mono ?_); rintro e w2 ⟨rfl, hb⟩; refine ⟨?_, hw'.trans (hb.mono (by have h0 := hw'.size; simp at h0; omega))⟩; with_reducible rfl); simp only [Act.put, List.setIfInBounds_toArray, List.set_cons_zero, List.set_cons_succ]))
        refine wpQuiet_nil ?_
        intro w6 hw6
        have GR2' := (GR2.alloc (by omega) (.cells #[.int .i64 top.root.one, .int .i64 top.root.cls, .int .i64 top.root.two, .int .i64 top.root.id, .int .i64 top.steps, .int .i64 top.src, .int .i64 top.port, .int .i64 top.at_] 30)).keep (w' := w6) (fun p hp => hw6.cell (by omega))
        have GR5' := (hR5.alloc (Nat.le_refl _) (.cells #[.int .i64 top.root.one, .int .i64 top.root.cls, .int .i64 top.root.two, .int .i64 top.root.id, .int .i64 top.steps, .int .i64 top.src, .int .i64 top.port, .int .i64 top.at_] 30)).keep (w' := w6) (fun p hp => hw6.cell (by omega))
        have GW6 := (GW.alloc (by omega) (.cells #[.int .i64 top.root.one, .int .i64 top.root.cls, .int .i64 top.root.two, .int .i64 top.root.id, .int .i64 top.steps, .int .i64 top.src, .int .i64 top.port, .int .i64 top.at_] 30)).trans (hw6.mono (by omega))
        clear hw6 hneq H5 GR2 hR5 GW G8 t0 t1 t2 t3 t4 t5 t6 t7
        go_wp2_with fail
        obtain ⟨wp, rfl⟩ : ∃ wp : World, wp = w6 := ⟨_, rfl⟩
        go_loopw [74] (fun i wr => ∃ (k : Nat), k ≤ n ∧ i = .int .i64 k ∧ Below w.heap.size w wr ∧ Reads wr w2.heap.size 1 A2 n ro ∧ Reads wr w5.heap.size 1 A5 n ro) (fun i _ => n - (intOf i).toNat)
        case atStart => exact ⟨0, Nat.zero_le _, rfl, GW6, GR2', GR5'⟩
        case round =>
          clear GW6 GR2' GR5'
          obtain ⟨k, hk, rfl, hb, hR, hR4⟩ := hrel
          by_cases hlt : k < n
          · obtain ⟨x, hx⟩ := HRO.out k hlt
            obtain ⟨ad2, u, rfl, _, hu, hcu⟩ := hR.at_ hlt
            obtain ⟨ad4, u4, rfl, _, hu4, hcu4⟩ := hR4.at_ hlt
            rw [hx] at hu hu4
            simp only [Option.some.injEq] at hu hu4
            subst hu
            subst hu4
            clear hx
            have hk1 : (k : Int) < n := by omega
            have hk0 : (0 : Int) ≤ k := by omega
            go_wp2_with fail
            go_quiet (fail)
            go_wp2_with fail
            go_roundw
            case rel => exact ⟨k + 1, by omega, by go_num, below_drewN hb _, hR.drewN _, hR4.drewN _⟩
            case measure => simp [intOf]; omega
          · go_wp2_with fail
            go_ret
            exact ⟨rfl, hb⟩

/-! ### The row's step -/
set_option maxRecDepth 100000 in
theorem bestChoose_lifted (os : Os) (started : os.Started) (H : Type) (enc : TypeId × Value → H) :
    ReturnsInHanded {} Try.checked os 5 .any (Rows.bestChooseSpec.pre6 enc Try.prog Try.f5 Rows.bestChooseRow.domain false) (Rows.bestChooseSpec.post enc Try.prog Try.f5 false true false false) := by
  refine returnsInHanded_of_change (C := Try.checked) own started (by kernel_rfl) Try.func5
    (ChangeSpec.witness6 (enc := enc) (C := Try.checked) false ⟨#[], #[.agg (Array.replicate 4 (.int .i64 0)), .slice none 0 0], []⟩ 8 (by kernel_rfl) (by kernel_rfl) (by kernel_rfl) (by kernel_rfl)) ?_
  intro W base args ds gs before hval0 hW _ _
  have hval : ∀ (j : Nat) t v, Try.f5.params[j]? = some t → args[j]? = some v → Value.okWide Try.prog W .any base t v := hval0
  have hW' := hW
  obtain ⟨p, q, hA0, hV, rfl, hfz, hnd⟩ := hW
  have hA : DataW.TrodAll enc Try.prog W 0 (fun _ => true) true Try.f5.params.toList args.toList ds p := hA0
  rw [Try.params5] at hA hval
  obtain ⟨v0, v1, d0, d1, p0, p1, rfl, rfl, rfl, h0, h1⟩ := trodAll_two hA
  obtain ⟨own, rfl⟩ := open_prior (hval 0 23 v0 rfl rfl) h0
  obtain ⟨A, n, c, hs, rfl, hn, hl, hr⟩ := open_heards (hval 1 36 v1 rfl rfl) h1 (fun x hx => hW'.lt x (by simp [hx]))
  exact law_post laidOut (by kernel_rfl) rfl (by kernel_rfl) Try.underlying4 rfl hW' (bestChoose_calls own A n c hs W hr hl hn)

theorem bestChoose_holds : Rows.BestChooseSaid :=
  OpenClaim.holds_of_wide 5 Try.f5 rfl rfl rfl rfl rfl rfl rfl ⟨rfl, rfl, rfl, rfl, rfl⟩ rfl rfl rfl rfl rfl (by kernel_rfl) Try.func5 (by kernel_rfl)
    (of_decide_eq_true (by kernel_rfl)) (by unfold Func.isWrapper; first | (rw [if_pos (by decide +kernel)]; kernel_rfl) | (rw [if_neg (by decide +kernel)]; exact ⟨rfl, rfl⟩))
    (fun os started H enc _ => bestChoose_lifted os started H enc)

#print axioms bestChoose_holds
end Go.Proofs.Ytklpgdmcijbleaa
