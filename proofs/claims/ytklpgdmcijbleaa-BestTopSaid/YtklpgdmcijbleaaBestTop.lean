/-
  BestTop: for every own clock and whatever ports have heard the law returns true, and both read as they did. No condition.
-/
import Derived.Test.YtklpgdmcijbleaaBestLaw0
namespace Go.Proofs.Ytklpgdmcijbleaa
open Go.RowKit Go.WideShapes Go.ChangeShapes

/-! ### The plain law: where no port has heard of a better clock, the own one is the best, and all links are Master -/
theorem topFrom_none (own top : Vc) : ∀ (hs : List Hd) (i : Nat), (∀ h ∈ hs, 0 ≤ cmpP h.vec.root own.root) → topFrom own top i hs = top
  | [], _, _ => rfl
  | h :: hs, i, hall => by
    have h0 := hall h (by simp)
    rw [topFrom, topStep, if_neg (fun hh => by omega)]
    exact topFrom_none own top hs (i + 1) (fun x hx => hall x (by simp [hx]))
theorem topOf_none (own : Pr) (hs : List Hd) (hall : ∀ h ∈ hs, 0 ≤ cmpP h.vec.root own) : topOf own hs = ownVec own := topFrom_none _ _ _ _ hall
theorem roleOf_none (own : Pr) (k : Nat) (h : Hd) : roleOf own (ownVec own) k h = if h.up = true then 1 else 0 := by
  have hu : h.up = true ∨ h.up = false := by cases h.up <;> simp
  unfold roleOf ownVec
  rcases hu with hu | hu
  · rw [hu, if_neg (by simp), if_neg (by simp only; omega), if_neg (by simp), if_pos rfl]
  · rw [hu, if_pos rfl, if_neg (by simp)]

set_option maxRecDepth 100000 in
set_option maxHeartbeats 4000000 in
theorem bestTop_calls (own : Pr) (A : Option Addr) (n c : Nat) (hs_ : List Hd) (w : World) (hr : Reads w w.heap.size 10 A n (hcells hs_)) (hl : hs_.length = n) (hn : n ≤ maxLen) :
    Calls Try.prog 8 #[own.val, .slice A n c] w fun e w' => e = .returned (.bool true) ∧ Below w.heap.size w w' := by
  have hr0 := hr
  unfold maxLen at hn
  unfold Pr.val Pr.cells iz
  go_enter Try.func8, Try.ntmps8
  go_wp2_with fail
  refine (head_any _).mono ?_
  rintro e w1 ⟨rfl, hb1⟩
  have B0 : Blk w1 w.heap.size 23 #[.int .i64 own.one, .int .i64 own.cls, .int .i64 own.two, .int .i64 own.id] := (Blk.new _ _ _).below hb1 (by simp)
  have hb : Below w.heap.size w w1 := ((Below.refl _ _).alloc (Nat.le_refl _) _).trans (hb1.mono (by simp))
  have hz := hb1.size
  simp only [World.size_alloc] at hz
  clear hb1
  go_wp2_with fail
  · go_ret
    exact ⟨rfl, hb⟩
  · have hn30 : n ≤ 30 := by have : (n : Int) ≤ 30 := by assumption
                             omega
    go_loopw [18] (fun i wr => ∃ (k : Nat), k ≤ n ∧ i = .int .i64 k ∧ Hid (∀ h ∈ hs_.take k, 0 ≤ cmpP h.vec.root own) ∧ Blk wr w.heap.size 23 #[.int .i64 own.one, .int .i64 own.cls, .int .i64 own.two, .int .i64 own.id] ∧ w.heap.size < wr.heap.size ∧ Below w.heap.size w wr) (fun i _ => n - (intOf i).toNat)
    case atStart => exact ⟨0, Nat.zero_le _, rfl, by intro h hh; simp at hh, B0, by omega, hb⟩
    case round =>
      clear B0 hb hz
      obtain ⟨k, hk, rfl, hs, hbo, hsz, hb⟩ := hrel
      have hbs := hb.size
      by_cases hlt : k < n
      · obtain ⟨v, hv⟩ := getElem?_some_of_lt hl hlt
        obtain ⟨ad, rfl, hblk, hc0, hcj⟩ := (hr.below hb).elem Hd.len hv hlt
        have hblk' : (ad.add (k * 10)).block < wr.heap.size := by omega
        obtain ⟨o0, o1, o2, o3⟩ := hbo.pri
        have p0 := hc0 _ rfl
        have p1 := hcj 1 _ (by omega) rfl
        have p2 := hcj 2 _ (by omega) rfl
        have p3 := hcj 3 _ (by omega) rfl
        have p4 := hcj 4 _ (by omega) rfl
        have p5 := hcj 5 _ (by omega) rfl
        have p6 := hcj 6 _ (by omega) rfl
        have p7 := hcj 7 _ (by omega) rfl
        have p8 := hcj 8 _ (by omega) rfl
        have p9 := hcj 9 _ (by omega) rfl
        have HV := Lib.hid (take_get hv)
        clear hc0 hcj hv
        unfold iz at *
        have hP := fun W => cmpP_any v.vec.root own W
        unfold Pr.val Pr.cells iz at hP
        have HC := Lib.hid hP
        clear hP
        go_wp2_with fail
        refine (HC.out _).mono ?_
        rintro e w2 ⟨rfl, hb2⟩
        have D0 : Blk w2 w.heap.size _ _ := (hbo.alloc _).below hb2 (by simp; omega)
        have hW2 : Below w.heap.size w w2 := (hb.alloc hbs _).trans (hb2.mono (by simp; omega))
        have hz2 := hb2.size
        simp only [World.size_alloc] at hz2
        clear hb2
        by_cases hc : cmpP v.vec.root own < 0
        · go_wp2_with fail
          go_ret
          exact ⟨rfl, hW2⟩
        · have d1 : decide (cmpP v.vec.root own < 0) = false := by simpa using hc
          have HN := Lib.hid hc
          clear hc
          go_wp2_with fail
          go_roundw
          case rel =>
            refine ⟨k + 1, by omega, by go_num, ?_, D0, by omega, hW2⟩
            intro h hh
            rw [HV.out] at hh
            rcases List.mem_append.1 hh with hh | hh
            · exact hs.out h hh
            · simp at hh
              subst hh
              have := HN.out
              omega
          case measure => simp [intOf]; omega
      · obtain rfl : n = k := by omega
        have hall := hs.out
        rw [List.take_of_length_le (by omega)] at hall
        have hch := fun W hr => choose_any own A n c hs_ W hr hl (by omega)
        unfold ChooseRet at hch
        rw [topOf_none own hs_ hall] at hch
        unfold ownVec Vc.val Vc.cells Pr.val Pr.cells iz at hch
        simp only [List.cons_append, List.nil_append] at hch
        have HC := Lib.hid hch
        clear hch hs hall
        obtain ⟨o0, o1, o2, o3⟩ := hbo.pri
        go_wp2_with fail
        refine (HC.out _ ((hr.below hb).more hbs)).mono ?_
        rintro e w2 ⟨v, rfl, hown, hb2⟩
        obtain ⟨A2, c2, rfl, hc2, hR⟩ := ownsRow_reads hown
        have D0 : Blk w2 w.heap.size _ _ := hbo.below hb2 hsz
        have hW2 : Below w.heap.size w w2 := hb.trans (hb2.mono hbs)
        have hz2 := hb2.size
        obtain ⟨q0, q1, q2, q3⟩ := D0.pri
        have hsz2 : w.heap.size < w2.heap.size := by omega
        clear hown hb2 HC
        go_wp2_with fail
        have hR1 := (hR.alloc (Nat.le_refl _) (.cells #[.int .i64 (ownVec own).root.one, .int .i64 (ownVec own).root.cls, .int .i64 (ownVec own).root.two, .int .i64 (ownVec own).root.id, .int .i64 (ownVec own).steps, .int .i64 (ownVec own).src, .int .i64 (ownVec own).port, .int .i64 (ownVec own).at_] 25))
        have hb1 := hW2.alloc (by omega) (.cells #[.int .i64 (ownVec own).root.one, .int .i64 (ownVec own).root.cls, .int .i64 (ownVec own).root.two, .int .i64 (ownVec own).root.id, .int .i64 (ownVec own).steps, .int .i64 (ownVec own).src, .int .i64 (ownVec own).port, .int .i64 (ownVec own).at_] 25)
        obtain ⟨wo, rfl⟩ : ∃ wo : World, wo = w2 := ⟨_, rfl⟩
        clear hR hW2 q0 q1 q2 q3 D0 o0 o1 o2 o3 hbo
        go_loopw [58] (fun i wr => ∃ (k : Nat), k ≤ n ∧ i = .int .i64 k ∧ Below w.heap.size w wr ∧ Reads wr wo.heap.size 1 A2 n ((List.range n).map fun j => .int .i64 (roleAt own (ownVec own) hs_ j))) (fun i _ => n - (intOf i).toNat)
        case atStart => exact ⟨0, Nat.zero_le _, rfl, hb1, hR1⟩
        case round =>
          clear hR1 hb1 hb
          obtain ⟨k, hk, rfl, hb, hR⟩ := hrel
          by_cases hlt : k < n
          · obtain ⟨v, hv⟩ := getElem?_some_of_lt hl hlt
            obtain ⟨ad, rfl, hblk, hc0, hcj⟩ := (hr0.below hb).elem Hd.len hv hlt
            have p0 := hc0 _ rfl
            obtain ⟨ad2, u, rfl, _, hu, hcu⟩ := hR.at_ hlt
            have hra : roleAt own (ownVec own) hs_ k = if v.up = true then 1 else 0 := by simp [roleAt, hv, roleOf_none]
            rw [List.getElem?_map, List.getElem?_range hlt, Option.map_some, hra] at hu
            clear hc0 hcj hv hra
            have hk1 : (k : Int) < n := by omega
            have hk0 : (0 : Int) ≤ k := by omega
            by_cases hu1 : v.up = true
            · rw [hu1] at p0
              rw [if_pos hu1] at hu
              simp only [Option.some.injEq] at hu
              subst hu
              clear hu1
              go_wp2_with fail
              go_roundw
              case rel => exact ⟨k + 1, by omega, by go_num, hb, hR⟩
              case measure => simp [intOf]; omega
            · have hu2 : v.up = false := by simpa using hu1
              rw [hu2] at p0
              rw [if_neg hu1] at hu
              simp only [Option.some.injEq] at hu
              subst hu
              clear hu1 hu2
              go_wp2_with fail
              go_roundw
              case rel => exact ⟨k + 1, by omega, by go_num, hb, hR⟩
              case measure => simp [intOf]; omega
          · go_wp2_with fail
            go_ret
            exact ⟨rfl, hb⟩

/-! ### The row's step -/
set_option maxRecDepth 100000 in
theorem bestTop_lifted (os : Os) (started : os.Started) (H : Type) (enc : TypeId × Value → H) :
    ReturnsInHanded {} Try.checked os 8 .any (Rows.bestTopSpec.pre6 enc Try.prog Try.f8 Rows.bestTopRow.domain false) (Rows.bestTopSpec.post enc Try.prog Try.f8 false true false false) := by
  refine returnsInHanded_of_change (C := Try.checked) own started (by kernel_rfl) Try.func8
    (ChangeSpec.witness6 (enc := enc) (C := Try.checked) false ⟨#[], #[.agg (Array.replicate 4 (.int .i64 0)), .slice none 0 0], []⟩ 8 (by kernel_rfl) (by kernel_rfl) (by kernel_rfl) (by kernel_rfl)) ?_
  intro W base args ds gs before hval0 hW _ _
  have hval : ∀ (j : Nat) t v, Try.f8.params[j]? = some t → args[j]? = some v → Value.okWide Try.prog W .any base t v := hval0
  have hW' := hW
  obtain ⟨p, q, hA0, hV, rfl, hfz, hnd⟩ := hW
  have hA : DataW.TrodAll enc Try.prog W 0 (fun _ => true) true Try.f8.params.toList args.toList ds p := hA0
  rw [Try.params8] at hA hval
  obtain ⟨v0, v1, d0, d1, p0, p1, rfl, rfl, rfl, h0, h1⟩ := trodAll_two hA
  obtain ⟨own, rfl⟩ := open_prior (hval 0 23 v0 rfl rfl) h0
  obtain ⟨A, n, c, hs, rfl, hn, hl, hr⟩ := open_heards (hval 1 36 v1 rfl rfl) h1 (fun x hx => hW'.lt x (by simp [hx]))
  exact law_post laidOut (by kernel_rfl) rfl (by kernel_rfl) Try.underlying4 rfl hW' (bestTop_calls own A n c hs W hr hl hn)

theorem bestTop_holds : Rows.BestTopSaid :=
  OpenClaim.holds_of_wide 8 Try.f8 rfl rfl rfl rfl rfl rfl rfl ⟨rfl, rfl, rfl, rfl, rfl⟩ rfl rfl rfl rfl rfl (by kernel_rfl) Try.func8 (by kernel_rfl)
    (of_decide_eq_true (by kernel_rfl)) (by unfold Func.isWrapper; first | (rw [if_pos (by decide +kernel)]; kernel_rfl) | (rw [if_neg (by decide +kernel)]; exact ⟨rfl, rfl⟩))
    (fun os started H enc _ => bestTop_lifted os started H enc)

#print axioms bestTop_holds
end Go.Proofs.Ytklpgdmcijbleaa
