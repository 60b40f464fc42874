/-
  BestOne: for every own clock and whatever ports have heard the law returns true, and both read as they did. No condition.
-/
import Derived.Test.YtklpgdmcijbleaaBestLaw0
import Derived.Test.YtklpgdmcijbleaaBestPlain
namespace Go.Proofs.Ytklpgdmcijbleaa
open Go.RowKit Go.WideShapes Go.ChangeShapes

def slavesTo (top : Vc) (k : Nat) : Int := if 0 ≤ top.at_ ∧ top.at_ < k then 1 else 0
theorem slaves_hit {top : Vc} {k : Nat} (h : (k : Int) = top.at_) : slavesTo top (k + 1) = slavesTo top k + 1 := by
  unfold slavesTo
  rw [if_pos (by omega), if_neg (by omega)]
  rfl
theorem slaves_miss {top : Vc} {k : Nat} (h : ¬ (k : Int) = top.at_) : slavesTo top (k + 1) = slavesTo top k := by
  unfold slavesTo
  by_cases h1 : 0 ≤ top.at_ ∧ top.at_ < k
  · rw [if_pos h1, if_pos (by omega)]
  · rw [if_neg h1, if_neg (by omega)]
theorem slaves_range (top : Vc) (k : Nat) : 0 ≤ slavesTo top k ∧ slavesTo top k ≤ 1 := by unfold slavesTo; split <;> omega
theorem any_take {α : Type} {f : α → Bool} {xs : List α} {k : Nat} {x : α} (h : xs[k]? = some x) : (xs.take (k + 1)).any f = ((xs.take k).any f || f x) := by
  rw [take_get h, List.any_append]
  simp

set_option maxRecDepth 100000 in
set_option maxHeartbeats 8000000 in
theorem bestOne_calls (own : Pr) (A : Option Addr) (n c : Nat) (hs_ : List Hd) (w : World) (hr : Reads w w.heap.size 10 A n (hcells hs_)) (hl : hs_.length = n) (hn : n ≤ maxLen) :
    Calls Try.prog 6 #[own.val, .slice A n c] w fun e w' => e = .returned (.bool true) ∧ Below w.heap.size w w' := by
  have hr0 := hr
  unfold maxLen at hn
  have tf := top_facts own hs_
  unfold Pr.val Pr.cells iz
  go_enter Try.func6, Try.ntmps6
  go_wp2_with fail
  refine (head_any _).mono ?_
  rintro e w1 ⟨rfl, hb1⟩
  have B0 : Blk w1 w.heap.size 23 #[.int .i64 own.one, .int .i64 own.cls, .int .i64 own.two, .int .i64 own.id] := (Blk.new _ _ _).below hb1 (by simp)
  have hb : Below w.heap.size w w1 := ((Below.refl _ _).alloc (Nat.le_refl _) _).trans (hb1.mono (by simp))
  have hz := hb1.size
  simp only [World.size_alloc] at hz
  clear hb1
  obtain ⟨o0, o1, o2, o3⟩ := B0.pri
  go_wp2_with fail
  · go_ret
    exact ⟨rfl, hb⟩
  · have hn30 : n ≤ 40 := by have : (n : Int) ≤ 40 := by assumption
                             omega
    have hch := fun W hr => choose_any own A n c hs_ W hr hl (by omega)
    unfold ChooseRet at hch
    generalize topOf own hs_ = top at *
    unfold Vc.val Vc.cells Pr.val Pr.cells iz at hch
    simp only [List.cons_append, List.nil_append] at hch
    have HC := Lib.hid hch
    have HF := Lib.hid tf
    clear hch tf
    refine (HC.out _ ((hr.below hb).more hb.size)).mono ?_
    rintro e w2 ⟨v, rfl, hown, hb2⟩
    obtain ⟨A2, c2, rfl, hc2, hR⟩ := ownsRow_reads hown
    have D0 : Blk w2 w.heap.size _ _ := B0.below hb2 (by omega)
    have hW2 : Below w.heap.size w w2 := hb.trans (hb2.mono (by omega))
    have hz2 := hb2.size
    clear hown hb2 HC B0 o0 o1 o2 o3
    go_wp2_with fail
    have hR1 := (hR.alloc (Nat.le_refl _) (.cells #[.int .i64 top.root.one, .int .i64 top.root.cls, .int .i64 top.root.two, .int .i64 top.root.id, .int .i64 top.steps, .int .i64 top.src, .int .i64 top.port, .int .i64 top.at_] 25))
    have hb1 := hW2.alloc (by omega) (.cells #[.int .i64 top.root.one, .int .i64 top.root.cls, .int .i64 top.root.two, .int .i64 top.root.id, .int .i64 top.steps, .int .i64 top.src, .int .i64 top.port, .int .i64 top.at_] 25)
    have D1 := D0.alloc (.cells #[.int .i64 top.root.one, .int .i64 top.root.cls, .int .i64 top.root.two, .int .i64 top.root.id, .int .i64 top.steps, .int .i64 top.src, .int .i64 top.port, .int .i64 top.at_] 25)
    have D5 := Blk.new w2 25 #[.int .i64 top.root.one, .int .i64 top.root.cls, .int .i64 top.root.two, .int .i64 top.root.id, .int .i64 top.steps, .int .i64 top.src, .int .i64 top.port, .int .i64 top.at_]
    obtain ⟨wo, rfl⟩ : ∃ wo : World, wo = w2 := ⟨_, rfl⟩
    clear hR hW2 D0
    go_loopw [7, 8, 30] (fun sl bt i wr => ∃ (k : Nat) (s : Int) (b : Bool), k ≤ n ∧ i = .int .i64 k ∧ sl = .int .i64 s ∧ bt = .bool b ∧ Hid (s = slavesTo top k) ∧ 0 ≤ s ∧ s ≤ 1 ∧ Hid (b = (hs_.take k).any (betterB own)) ∧ Below w.heap.size w wr ∧ Reads wr wo.heap.size 1 A2 n ((List.range n).map fun j => .int .i64 (roleAt own top hs_ j)) ∧ Blk wr w.heap.size 23 #[.int .i64 own.one, .int .i64 own.cls, .int .i64 own.two, .int .i64 own.id] ∧ Blk wr wo.heap.size 25 #[.int .i64 top.root.one, .int .i64 top.root.cls, .int .i64 top.root.two, .int .i64 top.root.id, .int .i64 top.steps, .int .i64 top.src, .int .i64 top.port, .int .i64 top.at_] ∧ wo.heap.size < wr.heap.size) (fun _ _ i _ => n - (intOf i).toNat)
    case atStart => exact ⟨0, 0, false, Nat.zero_le _, rfl, rfl, rfl, by unfold slavesTo; exact (if_neg (by omega)).symm, by omega, by omega, rfl, hb1, hR1, D1, D5, by simp⟩
    case round =>
      clear hR1 hb1 hb D1 D5
      obtain ⟨k, s, b, hk, rfl, rfl, rfl, hs, hs0, hs1, hbt, hb, hR, D0, D5, hsz⟩ := hrel
      have hbs := hb.size
      have hww : w.heap.size < wr.heap.size := by omega
      by_cases hlt : k < n
      · obtain ⟨v, hv⟩ := getElem?_some_of_lt hl hlt
        obtain ⟨ad2, u, rfl, _, hu, hcu⟩ := hR.at_ hlt
        have hra : roleAt own top hs_ k = roleOf own top k v := by simp [roleAt, hv]
        rw [List.getElem?_map, List.getElem?_range hlt, Option.map_some, hra] at hu
        simp only [Option.some.injEq] at hu
        subst hu
        obtain ⟨r0, r3⟩ := roleOf_range own top k v
        have hrd := roleOf_down own top k v
        have hrt := roleOf_at own top k v
        have hre := roleOf_else own top k v
        generalize hrv : roleOf own top k v = r at *
        have HA := Lib.hid (any_take (f := betterB own) hv)
        have HV := Lib.hid hv
        obtain ⟨ad, rfl, hblk, hc0, hcj⟩ := ((hr0.below hb)).elem Hd.len hv hlt
        have p0 := hc0 _ rfl
        have p1 := hcj 1 _ (by omega) rfl
        have p2 := hcj 2 _ (by omega) rfl
        have p3 := hcj 3 _ (by omega) rfl
        have p4 := hcj 4 _ (by omega) rfl
        have p5 := hcj 5 _ (by omega) rfl
        have p6 := hcj 6 _ (by omega) rfl
        have p7 := hcj 7 _ (by omega) rfl
        have p8 := hcj 8 _ (by omega) rfl
        have p9 := hcj 9 _ (by omega) rfl
        clear hc0 hcj
        unfold iz at *
        have hblk' : (ad.add (k * 10)).block < wr.heap.size := by omega
        have hk1 : (k : Int) < n := by omega
        have hk0 : (0 : Int) ≤ k := by omega
        obtain ⟨o0, o1, o2, o3⟩ := D0.pri
        obtain ⟨t0, t1, t2, t3, t4, t5, t6, t7⟩ := D5.vec
        clear hrv hra hv
        have hP := fun W => cmpP_any v.vec.root own W
        have hQ := fun W => cmpP_any top.root v.vec.root W
        unfold Pr.val Pr.cells iz at hP hQ
        have HC := Lib.hid (And.intro hP hQ)
        clear hP hQ
        by_cases hu : v.up = true
        · rw [hu] at p0
          have hB := fun (x : Bool) (hx : betterB own v = x) => (HA.out.trans (by rw [hx, ← hbt.out]) : (hs_.take (k + 1)).any (betterB own) = (b || x))
          have HBB := Lib.hid hB
          clear hB
          by_cases he : (k : Int) = top.at_
          · obtain rfl := hrt hu he
            have hbet := HF.out.chosen k v he HV.out
            have ho := hbet.2.1
            have hc := hbet.2.2
            have hq := HF.out.least v (List.mem_of_getElem? HV.out) hbet
            have HX := Lib.hid (And.intro (HBB.out true ((betterB_iff own v).2 hbet)) (And.intro (slaves_hit he) (slaves_range top (k + 1))))
            rw [ho] at p1
            have hs2 : s + 1 ≤ 1 := by
              have h1 := HX.out.2.2.2
              rw [HX.out.2.1, ← hs.out] at h1
              exact h1
            clear hrd hrt hre hu he hbet ho r0 r3
            go_wp2_with fail
            refine (HC.out.1 _).mono ?_
            rintro e w3 ⟨rfl, hb3⟩
            have E0 : Blk w3 w.heap.size _ _ := (D0.alloc _).below hb3 (by simp; omega)
            have E5 : Blk w3 wo.heap.size _ _ := (D5.alloc _).below hb3 (by simp; omega)
            have Eh : Blk w3 wr.heap.size 40 _ := (Blk.new wr _ _).below hb3 (by simp)
            have ER : Reads w3 wo.heap.size 1 (some ad2) n _ := (hR.alloc (by omega) _).keep (fun p hp => hb3.cell (by simp; omega))
            have EW : Below w.heap.size w w3 := (hb.alloc hbs _).trans (hb3.mono (by simp; omega))
            have hz3 := hb3.size
            simp only [World.size_alloc] at hz3
            clear hb3 o0 o1 o2 o3 t0 t1 t2 t3 t4 t5 t6 t7 p0 p1 p2 p3 p4 p5 p6 p7 p8 p9
            obtain ⟨g0, g1, g2, g3, g4, g5, g6, g7⟩ := E5.vec
            have y2 := Eh.cell 2
            have y3 := Eh.cell 3
            have y4 := Eh.cell 4
            have y5 := Eh.cell 5
            simp at y2 y3 y4 y5
            go_wp2_with fail
            refine (HC.out.2 _).mono ?_
            rintro e w4 ⟨rfl, hb4⟩
            have hd : decide (0 < cmpP top.root v.vec.root) = false := by simp; omega
            have F0 := E0.below hb4 (by omega)
            have F5 := E5.below hb4 (by omega)
            have FR := ER.keep (w' := w4) (fun p hp => hb4.cell (by omega))
            have FW := EW.trans (hb4.mono (by omega))
            have hz4 := hb4.size
            clear hb4
            go_wp2_with fail
            go_roundw
            case rel => exact ⟨k + 1, s + 1, true, by omega, by go_num, rfl, rfl, by have h1 := HX.out.2.1; rw [← hs.out] at h1; exact h1.symm, by omega, hs2, by have h1 := HX.out.1; rw [Bool.or_true] at h1; exact h1.symm, FW, FR, F0, F5, by omega⟩
            case measure => simp [intOf]; omega
          · have hr13 := hre hu he
            have d2 : (r == 2) = false := by simp; omega
            have d0 : (r == 0) = false := by simp; omega
            have dl : decide (r < 0) = false := by simp; omega
            have dg : decide (3 < r) = false := by simp; omega
            have HX := Lib.hid (slaves_miss he)
            by_cases ho : v.ok = true
            · rw [ho] at p1
              by_cases hc : cmpP v.vec.root own < 0
              · have hbet : better own v := ⟨hu, ho, hc⟩
                have hq := HF.out.least v (List.mem_of_getElem? HV.out) hbet
                have HY := Lib.hid (HBB.out true ((betterB_iff own v).2 hbet))
                clear hrd hrt hre hu he hbet ho r0 r3 hr13
                go_wp2_with fail
                refine (HC.out.1 _).mono ?_
                rintro e w3 ⟨rfl, hb3⟩
                have E0 : Blk w3 w.heap.size _ _ := (D0.alloc _).below hb3 (by simp; omega)
                have E5 : Blk w3 wo.heap.size _ _ := (D5.alloc _).below hb3 (by simp; omega)
                have Eh : Blk w3 wr.heap.size 40 _ := (Blk.new wr _ _).below hb3 (by simp)
                have ER : Reads w3 wo.heap.size 1 (some ad2) n _ := (hR.alloc (by omega) _).keep (fun p hp => hb3.cell (by simp; omega))
                have EW : Below w.heap.size w w3 := (hb.alloc hbs _).trans (hb3.mono (by simp; omega))
                have hz3 := hb3.size
                simp only [World.size_alloc] at hz3
                clear hb3 o0 o1 o2 o3 t0 t1 t2 t3 t4 t5 t6 t7 p0 p1 p2 p3 p4 p5 p6 p7 p8 p9
                obtain ⟨g0, g1, g2, g3, g4, g5, g6, g7⟩ := E5.vec
                have y2 := Eh.cell 2
                have y3 := Eh.cell 3
                have y4 := Eh.cell 4
                have y5 := Eh.cell 5
                simp at y2 y3 y4 y5
                go_wp2_with fail
                refine (HC.out.2 _).mono ?_
                rintro e w4 ⟨rfl, hb4⟩
                have hd : decide (0 < cmpP top.root v.vec.root) = false := by simp; omega
                have F0 := E0.below hb4 (by omega)
                have F5 := E5.below hb4 (by omega)
                have FR := ER.keep (w' := w4) (fun p hp => hb4.cell (by omega))
                have FW := EW.trans (hb4.mono (by omega))
                have hz4 := hb4.size
                clear hb4
                go_wp2_with fail
                go_roundw
                case rel => exact ⟨k + 1, s, true, by omega, by go_num, rfl, rfl, hs.out.trans HX.out.symm, hs0, hs1, by have h1 := HY.out; rw [Bool.or_true] at h1; exact h1.symm, FW, FR, F0, F5, by omega⟩
                case measure => simp [intOf]; omega
              · have hd : decide (cmpP v.vec.root own < 0) = false := by simpa using hc
                have HY := Lib.hid (HBB.out false (by simp [betterB, hd]))
                clear hrd hrt hre hu he ho r0 r3 hr13 hc
                go_wp2_with fail
                refine (HC.out.1 _).mono ?_
                rintro e w3 ⟨rfl, hb3⟩
                have E0 : Blk w3 w.heap.size _ _ := (D0.alloc _).below hb3 (by simp; omega)
                have E5 : Blk w3 wo.heap.size _ _ := (D5.alloc _).below hb3 (by simp; omega)
                have Eh : Blk w3 wr.heap.size 40 _ := (Blk.new wr _ _).below hb3 (by simp)
                have ER : Reads w3 wo.heap.size 1 (some ad2) n _ := (hR.alloc (by omega) _).keep (fun p hp => hb3.cell (by simp; omega))
                have EW : Below w.heap.size w w3 := (hb.alloc hbs _).trans (hb3.mono (by simp; omega))
                have hz3 := hb3.size
                simp only [World.size_alloc] at hz3
                clear hb3 o0 o1 o2 o3 t0 t1 t2 t3 t4 t5 t6 t7 p0 p1 p2 p3 p4 p5 p6 p7 p8 p9
                go_wp2_with fail
                go_roundw
                case rel => exact ⟨k + 1, s, b, by omega, by go_num, rfl, rfl, hs.out.trans HX.out.symm, hs0, hs1, by have h1 := HY.out; rw [Bool.or_false] at h1; exact h1.symm, EW, ER, E0, E5, by omega⟩
                case measure => simp [intOf]; omega
            · have ho' : v.ok = false := by simpa using ho
              rw [ho'] at p1
              have HY := Lib.hid (HBB.out false (by simp [betterB, ho']))
              clear hrd hrt hre hu he ho ho' r0 r3 hr13
              go_wp2_with fail
              go_roundw
              case rel => exact ⟨k + 1, s, b, by omega, by go_num, rfl, rfl, hs.out.trans HX.out.symm, hs0, hs1, by have h1 := HY.out; rw [Bool.or_false] at h1; exact h1.symm, hb.alloc hbs _, hR.alloc (by omega) _, D0.alloc _, D5.alloc _, by simp; omega⟩
              case measure => simp [intOf]; omega
        · have hu' : v.up = false := by simpa using hu
          have hr00 := hrd hu'
          subst hr00
          have hne : ¬ (k : Int) = top.at_ := fun he => hu (HF.out.chosen k v he HV.out).1
          have HN := Lib.hid hne
          have HB : Hid ((hs_.take (k + 1)).any (betterB own) = b) := by
            have h1 := HA.out
            have h2 : betterB own v = false := by simp [betterB, hu']
            rw [h2, Bool.or_false, ← hbt.out] at h1
            exact h1
          rw [hu'] at p0
          clear hrd hrt hre hu hne r0 r3
          go_wp2_with fail
          go_roundw
          case rel => exact ⟨k + 1, s, b, by omega, by go_num, rfl, rfl, hs.out.trans (slaves_miss HN.out).symm, hs0, hs1, HB.out.symm, hb.alloc hbs _, hR.alloc (by omega) _, D0.alloc _, D5.alloc _, by simp; omega⟩
          case measure => simp [intOf]; omega
      · obtain rfl : n = k := by omega
        obtain ⟨o0, o1, o2, o3⟩ := D0.pri
        obtain ⟨t0, t1, t2, t3, t4, t5, t6, t7⟩ := D5.vec
        have hb1 := hbt.out
        rw [List.take_of_length_le (by omega), HF.out.any] at hb1
        have hs2 := hs.out
        unfold slavesTo at hs2
        have hlt2 := HF.out.lt
        have hown := HF.out.own_
        have hP := fun W => cmpP_any top.root own W
        unfold Pr.val Pr.cells iz at hP
        have HC := Lib.hid hP
        clear hP hs hbt
        by_cases hp : 0 ≤ top.at_
        · have e1 : b = true := by rw [hb1]; simpa using hp
          have e2 : s = 1 := by rw [hs2, if_pos (by omega)]
          subst e1
          subst e2
          clear hb1 hs2
          go_wp2_with fail
          refine (HC.out _).mono ?_
          rintro e w3 ⟨rfl, hb3⟩
          have hd : decide (cmpP top.root own ≤ 0) = true := by simpa using hown
          have hW := hb.trans (hb3.mono hbs)
          clear hb3
          go_wp2_with fail
          go_ret
          exact ⟨rfl, hW⟩
        · have e1 : b = false := by rw [hb1]; simpa using hp
          have e2 : s = 0 := by rw [hs2, if_neg (by omega)]
          subst e1
          subst e2
          have hd0 : decide (0 ≤ top.at_) = false := by simpa using hp
          clear hb1 hs2 hp
          go_wp2_with fail
          refine (HC.out _).mono ?_
          rintro e w3 ⟨rfl, hb3⟩
          have hd : decide (cmpP top.root own ≤ 0) = true := by simpa using hown
          have hW := hb.trans (hb3.mono hbs)
          clear hb3
          go_wp2_with fail
          go_ret
          exact ⟨rfl, hW⟩

/-! ### The row's step -/
set_option maxRecDepth 100000 in
theorem bestOne_lifted (os : Os) (started : os.Started) (H : Type) (enc : TypeId × Value → H) :
    ReturnsInHanded {} Try.checked os 6 .any (Rows.bestOneSpec.pre6 enc Try.prog Try.f6 Rows.bestOneRow.domain false) (Rows.bestOneSpec.post enc Try.prog Try.f6 false true false false) := by
  refine returnsInHanded_of_change (C := Try.checked) own started (by kernel_rfl) Try.func6
    (ChangeSpec.witness6 (enc := enc) (C := Try.checked) false ⟨#[], #[.agg (Array.replicate 4 (.int .i64 0)), .slice none 0 0], []⟩ 8 (by kernel_rfl) (by kernel_rfl) (by kernel_rfl) (by kernel_rfl)) ?_
  intro W base args ds gs before hval0 hW _ _
  have hval : ∀ (j : Nat) t v, Try.f6.params[j]? = some t → args[j]? = some v → Value.okWide Try.prog W .any base t v := hval0
  have hW' := hW
  obtain ⟨p, q, hA0, hV, rfl, hfz, hnd⟩ := hW
  have hA : DataW.TrodAll enc Try.prog W 0 (fun _ => true) true Try.f6.params.toList args.toList ds p := hA0
  rw [Try.params6] at hA hval
  obtain ⟨v0, v1, d0, d1, p0, p1, rfl, rfl, rfl, h0, h1⟩ := trodAll_two hA
  obtain ⟨own, rfl⟩ := open_prior (hval 0 23 v0 rfl rfl) h0
  obtain ⟨A, n, c, hs, rfl, hn, hl, hr⟩ := open_heards (hval 1 36 v1 rfl rfl) h1 (fun x hx => hW'.lt x (by simp [hx]))
  exact law_post laidOut (by kernel_rfl) rfl (by kernel_rfl) Try.underlying4 rfl hW' (bestOne_calls own A n c hs W hr hl hn)

theorem bestOne_holds : Rows.BestOneSaid :=
  OpenClaim.holds_of_wide 6 Try.f6 rfl rfl rfl rfl rfl rfl rfl ⟨rfl, rfl, rfl, rfl, rfl⟩ rfl rfl rfl rfl rfl (by kernel_rfl) Try.func6 (by kernel_rfl)
    (of_decide_eq_true (by kernel_rfl)) (by unfold Func.isWrapper; first | (rw [if_pos (by decide +kernel)]; kernel_rfl) | (rw [if_neg (by decide +kernel)]; exact ⟨rfl, rfl⟩))
    (fun os started H enc _ => bestOne_lifted os started H enc)

#print axioms bestOne_holds
end Go.Proofs.Ytklpgdmcijbleaa
