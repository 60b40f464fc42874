/-
  PairRuns: whatever is told of either domain, the law returns true: every answer is that of two clocks of layer 18. No condition.
-/
import Derived.Test.YtjjpmckefglhnaaPairS
import Derived.Deep.CutRange
namespace Go.Proofs.Ytjjpmckefglhnaa
set_option linter.unusedSimpArgs false
set_option linter.unusedVariables false
open Go.RowKit Go.WideShapes Go.ChangeShapes
attribute [local go_sem ↓] Go.wp_at_zero Go.wp_at_succ

def KP (w0 w : World) (gm gp g0 g1 b : Nat) (most : Int) (p : Pr) : Prop := KK w0 w gm gp g0 g1 b most p p.c0 p.c1 p.root1 p.last ∧ p.Wf ∧ p.most = most ∧ (p.last = -1 ∨ p.last = 0 ∨ p.last = 1)
theorem run_load_part {P : Program} {o : Oper} {a : Act} (ty : TypeId) (x : Operand) {ad : Addr} {cs : Array Value} {d : TypeDesc} (ho : o.op = .load ty x) (hx : a.eval x = .pointer (some ad)) {w : World}
    (hc : ∀ j v, cs.toList[j]? = some v → w.cell? (ad.add j) = some v) (hu : P.underlying ty = some d) (hd : d.isRow = true) (hi : (P.info? ty).map (·.size) = some cs.size) : (execOp a.eval o).run P w = .ok (.value (.agg cs)) w := by
  unfold execOp
  simp only [ho, hx, Instr.loadAt, Instr.sureAddr, Sem.run_bind, Sem.run_pure, Result.andThen_ok, run_load_any_d w ad ty cs.toList d hc hu hd (by simpa using hi)]
theorem psync0 {p : Pr} {m : Mg} {a : Int} (h : m.domain = 0) : pSync p m a = ((syncV p.c0 m a).1, { p with c0 := (syncV p.c0 m a).2 }) := by unfold pSync; rw [if_pos h]
theorem psync1 {p : Pr} {m : Mg} {a : Int} (h : m.domain = 1) : pSync p m a = ((syncV p.c1 m a).1, { p with c1 := (syncV p.c1 m a).2 }) := by unfold pSync; rw [if_neg (by omega), if_pos h]
theorem psync2 {p : Pr} {m : Mg} {a : Int} (h : ¬ (0 ≤ m.domain ∧ m.domain < 2)) : pSync p m a = (31, p) := by unfold pSync; rw [if_neg (by omega), if_neg (by omega)]
theorem pfoll0 {p : Pr} {m : Mg} {a r : Int} (h : m.domain = 0) : pFollow p m a r = ((follV p.c0 m a r).1, { p with c0 := (follV p.c0 m a r).2 }) := by unfold pFollow; rw [if_pos h]
theorem pfoll1 {p : Pr} {m : Mg} {a r : Int} (h : m.domain = 1) : pFollow p m a r = ((follV p.c1 m a r).1, { p with c1 := (follV p.c1 m a r).2 }) := by unfold pFollow; rw [if_neg (by omega), if_pos h]
theorem pfoll2 {p : Pr} {m : Mg} {a r : Int} (h : ¬ (0 ≤ m.domain ∧ m.domain < 2)) : pFollow p m a r = (31, p) := by unfold pFollow; rw [if_neg (by omega), if_neg (by omega)]
set_option maxRecDepth 100000 in
set_option maxHeartbeats 32000000 in
theorem pairRuns_calls (most : Int) (A : Option Addr) (n c : Nat) (xs : List Value) (w : World) (hn : n ≤ maxLen) (hr : Reads w w.heap.size 22 A n xs) (hst : ∀ i, i < n → ∃ s : S7, (s7c s).toList = (xs.drop (i * 22)).take 22 ∧ s.Ok w) :
    Calls Try.prog 5 #[.int .i64 most, .slice A n c] w fun e w' => e = .returned (.bool true) ∧ Below w.heap.size w w' := by
  have HST := Lib.hid (And.intro hst (And.intro hr hn))
  clear hst hr hn
  have M0 := Blk.new w 28 #[.int .i64 most]
  have L0 : Below w.heap.size w (w.alloc (.cells #[.int .i64 most] 28)) := (Below.refl _ _).alloc (Nat.le_refl _) _
  go_enter Try.func5, Try.ntmps5
  go_wp2_with fail
  generalize w.alloc (.cells #[.int .i64 most] 28) = wb at *
  refine (head21 wb).mono ?_
  rintro e w1 ⟨rfl, b1⟩
  have M1 := M0.kept b1
  have L1 := L0.trans (b1.mono L0.size)
  have y1 := M1.cellOf (v := .int .i64 most) 0 rfl
  clear M0 L0 b1
  by_cases hm : most < 1
  · as_aux_lemma =>
      have HM := Lib.hid hm
      go_wp2_with fail
      refine (pnew_bad most HM.out w1).mono ?_
      rintro e wx ⟨rfl, rfl⟩
      go_wp2_with fail
      refine (proot_nil _ _ _ _).mono ?_
      rintro e wx ⟨rfl, rfl⟩
      go_wp2_with fail
      refine (pat_nil _ _).mono ?_
      rintro e wx ⟨rfl, rfl⟩
      go_wp2_with fail
      refine (ptell_nil _ _ _ _ _ _).mono ?_
      rintro e w3 ⟨rfl, b3⟩
      have L3 := L1.trans (b3.mono L1.size)
      have L4 := L3.alloc L3.size (.cells (mcells zeroM none 0 0) 35)
      clear M1 y1 L1 b3 L3
      go_wp2_with (refine wpList_store_new rfl 35 (.tmp 9) (.tmp 50) rfl rfl rfl rfl rfl (by kernel_rfl) (by rw [← Array.all_toList]; rfl) ?_; generalize w3.alloc (.cells (mcells zeroM none 0 0) 35) = w4 at *)
      refine (ppick_nil _ _).mono ?_
      rintro e wx ⟨rfl, rfl⟩
      go_wp2_with fail
      refine (pfresh_nil _ _ _).mono ?_
      rintro e w5 ⟨rfl, b5⟩
      have L5 := L4.trans (b5.mono L4.size)
      clear L4 b5
      go_wp2_with fail
      refine (psync_nil _ _).mono ?_
      rintro e w6 ⟨rfl, b6⟩
      have L6 := L5.trans (b6.mono L5.size)
      clear L5 b6
      go_wp2_with fail
      refine (pfollow_nil _ _ _).mono ?_
      rintro e w7 ⟨rfl, b7⟩
      have L7 := L6.trans (b7.mono L6.size)
      clear L6 b7
      go_wp2_with fail
      go_ret
      exact ⟨rfl, L7⟩
  have d1 : decide (most < 1) = false := decide_eq_false hm
  go_wp2_with fail
  refine (pnew_any most (by omega) w1).mono ?_
  rintro e w2 ⟨gp, g0, g1, rfl, P2, hgp, hg0, hg1, b2⟩
  have M2 := M1.kept b2
  have L2 := L1.trans (b2.mono L1.size)
  have y2 := M2.cellOf (v := .int .i64 most) 0 rfl
  have hmp : w.heap.size < gp ∧ w.heap.size < g0 ∧ w.heap.size < g1 := by have := M1.lt; omega
  have hpb : gp < w2.heap.size ∧ g0 < w2.heap.size ∧ g1 < w2.heap.size := ⟨P2.box.lt, P2.k0.lt, P2.k1.lt⟩
  clear hm M1 L1 y1 b2 hgp hg0 hg1
  go_wp2_with fail
  refine (new_any 0 w2).mono ?_
  rintro e w3 ⟨rfl, hw3⟩
  go_wp2_with fail
  refine (new_any 1 w3).mono ?_
  rintro e w4 ⟨rfl, hw4⟩
  have hs3 : w3.heap.size = w2.heap.size + 1 := by rw [← hw3]; simp
  have hs4 : w4.heap.size = w2.heap.size + 2 := by rw [← hw4]; simp [hs3]
  rw [hs3]
  go_wp2_with fail
  simp only [hs4, Nat.add_assoc, Nat.reduceAdd]
  obtain ⟨wl, hwl⟩ : ∃ wl, wl = ((((w4.alloc (.cells #[.pointer (some ⟨w2.heap.size, 0, none⟩), .pointer (some ⟨w2.heap.size + 1, 0, none⟩)] 49)).alloc (.cells #[.slice (some ⟨w2.heap.size + 2, 0, none⟩) 2 2] 51)).alloc (.cells #[.bool false] 4)).alloc (.cells #[.int .i64 (-1)] 3)) := ⟨_, rfl⟩
  have hK : KP w wl w.heap.size gp g0 g1 w2.heap.size most (prNew most) := by
    have k0 : CkIn w4 w2.heap.size (ckNew 0) := by rw [← hw4, ← hw3]; exact (Blk.new _ _ _).alloc _
    have k1 : CkIn w4 (w2.heap.size + 1) (ckNew 1) := by rw [← hw4, ← hs3]; exact Blk.new _ _ _
    have hb : Below w2.heap.size w2 w4 := by rw [← hw4, ← hw3]; exact ((Below.refl _ _).alloc (Nat.le_refl _) _).alloc (by simp) _
    have P4 := P2.kept hb
    have M4 := M2.kept hb
    rw [hwl]
    refine ⟨⟨⟨(((P4.box.alloc _).alloc _).alloc _).alloc _, (((P4.k0.alloc _).alloc _).alloc _).alloc _, (((P4.k1.alloc _).alloc _).alloc _).alloc _, P4.n01, P4.np0, P4.np1⟩, (((k0.alloc _).alloc _).alloc _).alloc _, (((k1.alloc _).alloc _).alloc _).alloc _, (((Blk.at_new _ _ _ (by omega)).alloc _).alloc _).alloc _, ((Blk.at_new _ _ _ (by simp; omega)).alloc _).alloc _, (Blk.at_new _ _ _ (by simp; omega)).alloc _, Blk.at_new _ _ _ (by simp; omega), (((M4.alloc _).alloc _).alloc _).alloc _, ?_, Nat.le_refl _, hmp, hpb⟩, ⟨ckNew_wf 0, ckNew_wf 1⟩, rfl, .inl rfl⟩
    have hL := (L2.trans (hb.mono L2.size))
    have hz := hL.size
    exact (((hL.alloc hz _).alloc (by simp; omega) _).alloc (by simp; omega) _).alloc (by simp; omega) _
  rw [← hwl]
  obtain ⟨gm, hgm⟩ : ∃ gm, gm = w.heap.size := ⟨_, rfl⟩
  rw [← hgm] at hK ⊢
  have HK0 := Lib.hid hK
  clear hK hgm hwl hw3 hw4 hs3 hs4 P2 M2 L2 y2 hmp hpb
  go_loopw [16] (fun iv wr => ∃ (i : Nat) (p : Pr), iv = .int .i64 (i : Nat) ∧ i ≤ n ∧ i ≤ 60 ∧ Hid (KP w wr gm gp g0 g1 w2.heap.size most p)) (fun i _ => n - (intOf i).toNat)
  case atStart => exact ⟨0, prNew most, rfl, Nat.zero_le _, Nat.zero_le _, HK0⟩
  case round =>
    clear HK0
    obtain ⟨i, p, rfl, hi, hi60, hinv⟩ := hrel
    obtain ⟨wo, rfl⟩ : ∃ wo : World, wo = wr := ⟨_, rfl⟩
    by_cases hlt : i < n
    rotate_left
    · have HW := Lib.hid hinv.out.1.below
      clear hinv
      go_wp2_with fail
      go_ret
      exact ⟨rfl, HW.out⟩
    by_cases h60 : i < 60
    rotate_left
    · have HW := Lib.hid hinv.out.1.below
      have c60 : decide ((i : Int) < 60) = false := decide_eq_false (by omega)
      clear hinv
      go_wp2_with fail
      go_ret
      exact ⟨rfl, HW.out⟩
    obtain ⟨s, hs, hok⟩ := HST.out.1 i hlt
    obtain ⟨ad, rfl, _, hc⟩ := (HST.out.2.1.below hinv.out.1.below).2 (by omega)
    have hcell : ∀ (j : Nat) (v : Value), (s7c s).toList[j]? = some v → wo.cell? ((ad.add (i * 22)).add j) = some v := fun j v hv => by
      rw [hs] at hv
      rw [add_of_add]
      refine hc _ _ ?_
      rw [List.getElem?_take] at hv
      split at hv
      · rwa [List.getElem?_drop] at hv
      · cases hv
    have c60 : (i : Int) < 60 := by omega
    obtain ⟨I, hI⟩ : ∃ I, I = i + 1 := ⟨_, rfl⟩
    have fI : IntKind.i64.wrap ((i : Int) + 1) = (I : Int) := by rw [hI]; exact IntWalk.i64_in _ ⟨by omega, by omega⟩
    have HI := Lib.hid (And.intro hI (And.intro hlt h60))
    have B5 := Blk.new wo 37 (s7c s)
    have HKp := Lib.hid (And.intro (hinv.out.1.kept ((Below.refl wo.heap.size wo).alloc (Nat.le_refl _) (.cells (s7c s) 37))) hinv.out.2)
    have HQ : Hid (w2.heap.size + 5 < wo.heap.size) := Lib.hid hinv.out.1.L.lt
    have HC := Lib.hid (And.intro hcell hok)
    have c16 := B5.cellOf (v := .slice s.A s.n s.c) 16 rfl
    have c19 := B5.cellOf (v := .int .i64 s.d) 19 rfl
    have c02 := B5.cellOf (v := .int .i64 s.m.domain) 2 rfl
    have c00 := B5.cellOf (v := .int .i64 s.k) 0 rfl
    clear hs hok hc hcell hI h60 hinv hi hi60
    go_upto_if 113 with (first | (refine wpList_load_any_d rfl 37 (.tmp 107) rfl (ad.add (i * 22)) rfl (s7c s) _ HC.out.1 Try.underlying37 rfl (by kernel_rfl) ?_) | (refine wpList_store_new rfl 37 (.tmp 17) (.tmp 108) rfl rfl rfl rfl rfl (by kernel_rfl) (by rw [← Array.all_toList]; rfl) ?_; generalize wo.alloc (.cells (s7c s) 37) = w5 at *))
    obtain ⟨gq, hgq⟩ : ∃ gq, gq = wo.heap.size := ⟨_, rfl⟩
    rw [← hgq] at B5 HQ c16 c19 c02 c00
    simp only [← hgq]
    clear hgq
    by_cases h40 : 40 < s.n
    · have h40i : (40 : Int) < (s.n : Int) := by clear fI; omega
      have HE : Hid (KP w w5 gm gp g0 g1 w2.heap.size most p) := HKp
      clear HKp B5 c16 c19 c02 c00 h40
      go_wp2_with fail
      clear fI
      go_roundw
      case rel => exact ⟨I, p, by first | rfl | (rw [HI.out.1]; rfl), by have := HI.out; omega, by have := HI.out; omega, HE⟩
      case measure => have := HI.out; simp [intOf]; omega
    have d40 : decide ((40 : Int) < (s.n : Int)) = false := decide_eq_false (by clear fI; omega)
    go_upto_region 21 with fail
    go_cut [18] from 114 to 121 (fun v wx => v = .bool (decide (0 ≤ s.d ∧ s.d < 2)) ∧ w5 = wx)
    case first =>
      by_cases h1 : 0 ≤ s.d
      · have e1 : decide (0 ≤ s.d) = true := decide_eq_true h1
        by_cases h2 : s.d < 2
        · have e2 : decide (s.d < 2) = true := decide_eq_true h2
          have HD : Hid (decide (0 ≤ s.d ∧ s.d < 2) = true) := Lib.hid (decide_eq_true ⟨h1, h2⟩)
          go_wp2_with fail
          go_meet
          exact ⟨congrArg Value.bool HD.out.symm, rfl⟩
        · have e2 : decide (s.d < 2) = false := decide_eq_false h2
          have HD : Hid (decide (0 ≤ s.d ∧ s.d < 2) = false) := Lib.hid (decide_eq_false fun h => h2 h.2)
          clear h2
          go_wp2_with fail
          go_meet
          exact ⟨congrArg Value.bool HD.out.symm, rfl⟩
      · have e1 : decide (0 ≤ s.d) = false := decide_eq_false h1
        have HD : Hid (decide (0 ≤ s.d ∧ s.d < 2) = false) := Lib.hid (decide_eq_false fun h => h1 h.1)
        clear h1
        go_wp2_with fail
        go_meet
        exact ⟨congrArg Value.bool HD.out.symm, rfl⟩
    case rest =>
    obtain ⟨rfl, rfl⟩ := hcut
    obtain ⟨dd, hdd⟩ : ∃ dd, dd = decide (0 ≤ s.d ∧ s.d < 2) := ⟨_, rfl⟩
    rw [← hdd]
    have HDD := Lib.hid hdd
    clear hdd h40 d40 c16
    go_upto_region 22 with fail
    go_cut [19] from 122 to 131 (fun v wx => v = .bool (decide (0 ≤ s.m.domain ∧ s.m.domain < 2)) ∧ w5 = wx)
    case first =>
      by_cases h1 : 0 ≤ s.m.domain
      · have e1 : decide (0 ≤ s.m.domain) = true := decide_eq_true h1
        by_cases h2 : s.m.domain < 2
        · have e2 : decide (s.m.domain < 2) = true := decide_eq_true h2
          have HD : Hid (decide (0 ≤ s.m.domain ∧ s.m.domain < 2) = true) := Lib.hid (decide_eq_true ⟨h1, h2⟩)
          go_wp2_with fail
          go_meet
          exact ⟨congrArg Value.bool HD.out.symm, rfl⟩
        · have e2 : decide (s.m.domain < 2) = false := decide_eq_false h2
          have HD : Hid (decide (0 ≤ s.m.domain ∧ s.m.domain < 2) = false) := Lib.hid (decide_eq_false fun h => h2 h.2)
          clear h2
          go_wp2_with fail
          go_meet
          exact ⟨congrArg Value.bool HD.out.symm, rfl⟩
      · have e1 : decide (0 ≤ s.m.domain) = false := decide_eq_false h1
        have HD : Hid (decide (0 ≤ s.m.domain ∧ s.m.domain < 2) = false) := Lib.hid (decide_eq_false fun h => h1 h.1)
        clear h1
        go_wp2_with fail
        go_meet
        exact ⟨congrArg Value.bool HD.out.symm, rfl⟩
    case rest =>
    obtain ⟨rfl, rfl⟩ := hcut
    obtain ⟨ee, hee⟩ : ∃ ee, ee = decide (0 ≤ s.m.domain ∧ s.m.domain < 2) := ⟨_, rfl⟩
    rw [← hee]
    have HEE := Lib.hid hee
    clear hee
    have hk : (s.k == 0) = true ∨ ((s.k == 0) = false ∧ (s.k == 1) = true) ∨ ((s.k == 0) = false ∧ (s.k == 1) = false ∧ (s.k == 2) = true) ∨ ((s.k == 0) = false ∧ (s.k == 1) = false ∧ (s.k == 2) = false ∧ (s.k == 3) = true) ∨ ((s.k == 0) = false ∧ (s.k == 1) = false ∧ (s.k == 2) = false ∧ (s.k == 3) = false ∧ (s.k == 4) = true) ∨ ((s.k == 0) = false ∧ (s.k == 1) = false ∧ (s.k == 2) = false ∧ (s.k == 3) = false ∧ (s.k == 4) = false ∧ (s.k == 5) = true) ∨ ((s.k == 0) = false ∧ (s.k == 1) = false ∧ (s.k == 2) = false ∧ (s.k == 3) = false ∧ (s.k == 4) = false ∧ (s.k == 5) = false ∧ (s.k == 6) = true) ∨ ((s.k == 0) = false ∧ (s.k == 1) = false ∧ (s.k == 2) = false ∧ (s.k == 3) = false ∧ (s.k == 4) = false ∧ (s.k == 5) = false ∧ (s.k == 6) = false) := by
      cases (s.k == 0) <;> cases (s.k == 1) <;> cases (s.k == 2) <;> cases (s.k == 3) <;> cases (s.k == 4) <;> cases (s.k == 5) <;> cases (s.k == 6) <;> simp
    clear c02 c19
    rcases hk with k0 | ⟨k0, k1⟩ | ⟨k0, k1, k2⟩ | ⟨k0, k1, k2, k3⟩ | ⟨k0, k1, k2, k3, k4⟩ | ⟨k0, k1, k2, k3, k4, k5⟩ | ⟨k0, k1, k2, k3, k4, k5, k6⟩ | ⟨k0, k1, k2, k3, k4, k5, k6⟩
    · as_aux_lemma =>
        by_cases hd : s.m.domain = 0
        · as_aux_lemma =>
            have HD2 : Hid ((s7c s)[2]? = some (.int .i64 0)) := Lib.hid (by show some (Value.int .i64 s.m.domain) = _; rw [hd])
            obtain rfl : ee = true := by rw [HEE.out, hd]; rfl
            obtain ⟨X, hX⟩ : ∃ X, X = syncV p.c0 s.m s.a := ⟨_, rfl⟩
            have HS := Lib.hid (fun W C hm => sync_any p.c0 (w2.heap.size) s.m s.A s.n s.c s.a W C hm)
            have HP := Lib.hid (fun W P hm => psync_any p gp g0 g1 s.m s.A s.n s.c s.a W P hm)
            rw [psync0 hd] at HP
            rw [← hX] at HS HP
            have HWf : Hid (X.2.Wf) := Lib.hid (by rw [hX]; exact sync_wf HKp.out.2.1.w0 HC.out.2.a)
            obtain ⟨X1, X2⟩ := X
            have HDom := Lib.hid hd
            clear hX hd
            go_wp2_with fail
            refine wp_region_script [(0, true), (1, true), (2, true), (3, true), (4, true), (5, true), (6, true), (7, true), (8, true), (9, true), (10, false), (11, true)] (fun w' => Blk w' gq 37 (s7c s) ∧ Blk w' (w2.heap.size + 3) 51 #[.slice (some ⟨w2.heap.size + 2, 0, none⟩) 2 2] ∧ Blk w' (w2.heap.size + 2) 49 #[.pointer (some ⟨w2.heap.size, 0, none⟩), .pointer (some ⟨w2.heap.size + 1, 0, none⟩)]) (by kernel_rfl) (by kernel_rfl) (fun _ _ _ _ _ h => h) ⟨B5.drew, HKp.out.1.B.drew, HKp.out.1.S.drew⟩ ?_
            have Kd := HKp.out.1.kept (show Below w5.heap.size w5 w5.drew from (Below.refl _ _).drew)
            have Bd := B5.drew
            have hmd := HC.out.2.msg.below Kd.below
            generalize w5.drew = w10 at *
            (refine script_take (v := ?_) rfl ?_ ?_ ?_; rotate_left; (first | rfl | (go_simp; done)); (rintro w' ⟨u1, u2, u3⟩; have q1 := u2.cellOf (v := .slice (some ⟨w2.heap.size + 2, 0, none⟩) 2 2) 0 rfl; have q2 := u3.cellOf (v := .pointer (some ⟨w2.heap.size, 0, none⟩)) 0 rfl; have q3 := u3.cellOf (v := .pointer (some ⟨w2.heap.size + 1, 0, none⟩)) 1 rfl; have c2 := u1.cellOf 2 HD2.out; have c17 := u1.cellOf 17 (show (s7c s)[17]? = some (.int .i64 s.a) from rfl); have c18 := u1.cellOf 18 (show (s7c s)[18]? = some (.int .i64 s.r) from rfl); go_simp; with_reducible rfl); simp only [Act.put, List.setIfInBounds_toArray, List.set_cons_zero, List.set_cons_succ])
            (refine script_take (v := ?_) rfl ?_ ?_ ?_; rotate_left; (first | rfl | (go_simp; done)); (rintro w' ⟨u1, u2, u3⟩; have q1 := u2.cellOf (v := .slice (some ⟨w2.heap.size + 2, 0, none⟩) 2 2) 0 rfl; have q2 := u3.cellOf (v := .pointer (some ⟨w2.heap.size, 0, none⟩)) 0 rfl; have q3 := u3.cellOf (v := .pointer (some ⟨w2.heap.size + 1, 0, none⟩)) 1 rfl; have c2 := u1.cellOf 2 HD2.out; have c17 := u1.cellOf 17 (show (s7c s)[17]? = some (.int .i64 s.a) from rfl); have c18 := u1.cellOf 18 (show (s7c s)[18]? = some (.int .i64 s.r) from rfl); go_simp; with_reducible rfl); simp only [Act.put, List.setIfInBounds_toArray, List.set_cons_zero, List.set_cons_succ])
            (refine script_take (v := ?_) rfl ?_ ?_ ?_; rotate_left; (first | rfl | (go_simp; done)); (rintro w' ⟨u1, u2, u3⟩; have q1 := u2.cellOf (v := .slice (some ⟨w2.heap.size + 2, 0, none⟩) 2 2) 0 rfl; have q2 := u3.cellOf (v := .pointer (some ⟨w2.heap.size, 0, none⟩)) 0 rfl; have q3 := u3.cellOf (v := .pointer (some ⟨w2.heap.size + 1, 0, none⟩)) 1 rfl; have c2 := u1.cellOf 2 HD2.out; have c17 := u1.cellOf 17 (show (s7c s)[17]? = some (.int .i64 s.a) from rfl); have c18 := u1.cellOf 18 (show (s7c s)[18]? = some (.int .i64 s.r) from rfl); go_simp; with_reducible rfl); simp only [Act.put, List.setIfInBounds_toArray, List.set_cons_zero, List.set_cons_succ])
            (refine script_take (v := ?_) rfl ?_ ?_ ?_; rotate_left; (first | rfl | (go_simp; done)); (rintro w' ⟨u1, u2, u3⟩; have q1 := u2.cellOf (v := .slice (some ⟨w2.heap.size + 2, 0, none⟩) 2 2) 0 rfl; have q2 := u3.cellOf (v := .pointer (some ⟨w2.heap.size, 0, none⟩)) 0 rfl; have q3 := u3.cellOf (v := .pointer (some ⟨w2.heap.size + 1, 0, none⟩)) 1 rfl; have c2 := u1.cellOf 2 HD2.out; have c17 := u1.cellOf 17 (show (s7c s)[17]? = some (.int .i64 s.a) from rfl); have c18 := u1.cellOf 18 (show (s7c s)[18]? = some (.int .i64 s.r) from rfl); go_simp; with_reducible rfl); simp only [Act.put, List.setIfInBounds_toArray, List.set_cons_zero, List.set_cons_succ])
            (refine script_take (v := ?_) rfl ?_ ?_ ?_; rotate_left; (first | rfl | (go_simp; done)); (rintro w' ⟨u1, u2, u3⟩; have q1 := u2.cellOf (v := .slice (some ⟨w2.heap.size + 2, 0, none⟩) 2 2) 0 rfl; have q2 := u3.cellOf (v := .pointer (some ⟨w2.heap.size, 0, none⟩)) 0 rfl; have q3 := u3.cellOf (v := .pointer (some ⟨w2.heap.size + 1, 0, none⟩)) 1 rfl; have c2 := u1.cellOf 2 HD2.out; have c17 := u1.cellOf 17 (show (s7c s)[17]? = some (.int .i64 s.a) from rfl); have c18 := u1.cellOf 18 (show (s7c s)[18]? = some (.int .i64 s.r) from rfl); go_simp; with_reducible rfl); simp only [Act.put, List.setIfInBounds_toArray, List.set_cons_zero, List.set_cons_succ])
            (refine script_take (v := ?_) rfl ?_ ?_ ?_; rotate_left; (first | rfl | (go_simp; done)); (rintro w' ⟨u1, u2, u3⟩; have q1 := u2.cellOf (v := .slice (some ⟨w2.heap.size + 2, 0, none⟩) 2 2) 0 rfl; have q2 := u3.cellOf (v := .pointer (some ⟨w2.heap.size, 0, none⟩)) 0 rfl; have q3 := u3.cellOf (v := .pointer (some ⟨w2.heap.size + 1, 0, none⟩)) 1 rfl; have c2 := u1.cellOf 2 HD2.out; have c17 := u1.cellOf 17 (show (s7c s)[17]? = some (.int .i64 s.a) from rfl); have c18 := u1.cellOf 18 (show (s7c s)[18]? = some (.int .i64 s.r) from rfl); go_simp; with_reducible rfl); simp only [Act.put, List.setIfInBounds_toArray, List.set_cons_zero, List.set_cons_succ])
            (refine script_take (v := ?_) rfl ?_ ?_ ?_; rotate_left; (first | rfl | (go_simp; done)); (rintro w' ⟨u1, u2, u3⟩; have q1 := u2.cellOf (v := .slice (some ⟨w2.heap.size + 2, 0, none⟩) 2 2) 0 rfl; have q2 := u3.cellOf (v := .pointer (some ⟨w2.heap.size, 0, none⟩)) 0 rfl; have q3 := u3.cellOf (v := .pointer (some ⟨w2.heap.size + 1, 0, none⟩)) 1 rfl; have c2 := u1.cellOf 2 HD2.out; have c17 := u1.cellOf 17 (show (s7c s)[17]? = some (.int .i64 s.a) from rfl); have c18 := u1.cellOf 18 (show (s7c s)[18]? = some (.int .i64 s.r) from rfl); go_simp; with_reducible rfl); simp only [Act.put, List.setIfInBounds_toArray, List.set_cons_zero, List.set_cons_succ])
            (refine script_take (v := .agg (mcells s.m s.A s.n s.c)) rfl ?_ (fun w' hw' => run_load_part 35 (.tmp 143) rfl rfl (s7_msg hw'.1) Try.underlying35 rfl (by kernel_rfl)) ?_; (first | rfl | (go_simp; done)); (simp only [Act.put, List.setIfInBounds_toArray, List.set_cons_zero, List.set_cons_succ]))
            (refine script_take (v := ?_) rfl ?_ ?_ ?_; rotate_left; (first | rfl | (go_simp; done)); (rintro w' ⟨u1, u2, u3⟩; have q1 := u2.cellOf (v := .slice (some ⟨w2.heap.size + 2, 0, none⟩) 2 2) 0 rfl; have q2 := u3.cellOf (v := .pointer (some ⟨w2.heap.size, 0, none⟩)) 0 rfl; have q3 := u3.cellOf (v := .pointer (some ⟨w2.heap.size + 1, 0, none⟩)) 1 rfl; have c2 := u1.cellOf 2 HD2.out; have c17 := u1.cellOf 17 (show (s7c s)[17]? = some (.int .i64 s.a) from rfl); have c18 := u1.cellOf 18 (show (s7c s)[18]? = some (.int .i64 s.r) from rfl); go_simp; with_reducible rfl); simp only [Act.put, List.setIfInBounds_toArray, List.set_cons_zero, List.set_cons_succ])
            (refine script_take (v := ?_) rfl ?_ ?_ ?_; rotate_left; (first | rfl | (go_simp; done)); (rintro w' ⟨u1, u2, u3⟩; have q1 := u2.cellOf (v := .slice (some ⟨w2.heap.size + 2, 0, none⟩) 2 2) 0 rfl; have q2 := u3.cellOf (v := .pointer (some ⟨w2.heap.size, 0, none⟩)) 0 rfl; have q3 := u3.cellOf (v := .pointer (some ⟨w2.heap.size + 1, 0, none⟩)) 1 rfl; have c2 := u1.cellOf 2 HD2.out; have c17 := u1.cellOf 17 (show (s7c s)[17]? = some (.int .i64 s.a) from rfl); have c18 := u1.cellOf 18 (show (s7c s)[18]? = some (.int .i64 s.r) from rfl); go_simp; with_reducible rfl); simp only [Act.put, List.setIfInBounds_toArray, List.set_cons_zero, List.set_cons_succ])
            (refine script_call 23 ?_ rfl ?_ ?_ ?_; rotate_left; (first | rfl | (go_simp; done)); (go_simp; with_reducible rfl))
            refine (HS.out w10 Kd.C0 (hmd.more Kd.below.size)).mono ?_
            rintro e w11 ⟨rfl, C11, G11⟩
            have K11 := Kd.clk0 C11 G11
            have B11 := Bd.keep G11 (by have := HQ.out; omega)
            refine ⟨_, rfl, ⟨B11, K11.B, K11.S⟩, ?_⟩
            simp only [Act.put, List.setIfInBounds_toArray, List.set_cons_zero, List.set_cons_succ]
            (refine script_take (v := ?_) rfl ?_ ?_ ?_; rotate_left; (first | rfl | (go_simp; done)); (intro w' _; go_simp; with_reducible rfl); simp only [Act.put, List.setIfInBounds_toArray, List.set_cons_zero, List.set_cons_succ])
            refine script_nil ?_
            have za := B11.cellOf (v := .int .i64 s.a) 17 rfl
            clear Kd Bd hmd B5 C11 G11
            go_wp2_with (first | (refine wpList_load_any_d rfl 35 (.tmp 149) rfl ⟨gq, 1, none⟩ rfl (mcells s.m s.A s.n s.c) _ (s7_msg B11) Try.underlying35 rfl (by kernel_rfl) ?_) | fail)
            refine (HP.out w11 K11.P ((HC.out.2.msg.below K11.below).more K11.below.size)).mono ?_
            rintro e w12 ⟨rfl, P12, F12⟩
            have HE : Hid (KP w w12 gm gp g0 g1 w2.heap.size most { p with c0 := X2 }) := Lib.hid ⟨K11.pair P12 F12, ⟨HWf.out, HKp.out.2.1.w1⟩, HKp.out.2.2.1, HKp.out.2.2.2⟩
            clear za K11 B11 P12 F12 HKp HP HS
            go_wp2_with fail
            clear fI
            go_roundw
            case rel => exact ⟨I, { p with c0 := X2 }, by first | rfl | (rw [HI.out.1]; rfl), by have := HI.out; omega, by have := HI.out; omega, HE⟩
            case measure => have := HI.out; simp [intOf]; omega
        by_cases hd1 : s.m.domain = 1
        · as_aux_lemma =>
            have hd := hd1
            have HD2 : Hid ((s7c s)[2]? = some (.int .i64 1)) := Lib.hid (by show some (Value.int .i64 s.m.domain) = _; rw [hd])
            obtain rfl : ee = true := by rw [HEE.out, hd]; rfl
            obtain ⟨X, hX⟩ : ∃ X, X = syncV p.c1 s.m s.a := ⟨_, rfl⟩
            have HS := Lib.hid (fun W C hm => sync_any p.c1 (w2.heap.size + 1) s.m s.A s.n s.c s.a W C hm)
            have HP := Lib.hid (fun W P hm => psync_any p gp g0 g1 s.m s.A s.n s.c s.a W P hm)
            rw [psync1 hd] at HP
            rw [← hX] at HS HP
            have HWf : Hid (X.2.Wf) := Lib.hid (by rw [hX]; exact sync_wf HKp.out.2.1.w1 HC.out.2.a)
            obtain ⟨X1, X2⟩ := X
            have HDom := Lib.hid hd
            clear hX hd
            go_wp2_with fail
            refine wp_region_script [(0, true), (1, true), (2, true), (3, true), (4, true), (5, true), (6, true), (7, true), (8, true), (9, true), (10, false), (11, true)] (fun w' => Blk w' gq 37 (s7c s) ∧ Blk w' (w2.heap.size + 3) 51 #[.slice (some ⟨w2.heap.size + 2, 0, none⟩) 2 2] ∧ Blk w' (w2.heap.size + 2) 49 #[.pointer (some ⟨w2.heap.size, 0, none⟩), .pointer (some ⟨w2.heap.size + 1, 0, none⟩)]) (by kernel_rfl) (by kernel_rfl) (fun _ _ _ _ _ h => h) ⟨B5.drew, HKp.out.1.B.drew, HKp.out.1.S.drew⟩ ?_
            have Kd := HKp.out.1.kept (show Below w5.heap.size w5 w5.drew from (Below.refl _ _).drew)
            have Bd := B5.drew
            have hmd := HC.out.2.msg.below Kd.below
            generalize w5.drew = w10 at *
            (refine script_take (v := ?_) rfl ?_ ?_ ?_; rotate_left; (first | rfl | (go_simp; done)); (rintro w' ⟨u1, u2, u3⟩; have q1 := u2.cellOf (v := .slice (some ⟨w2.heap.size + 2, 0, none⟩) 2 2) 0 rfl; have q2 := u3.cellOf (v := .pointer (some ⟨w2.heap.size, 0, none⟩)) 0 rfl; have q3 := u3.cellOf (v := .pointer (some ⟨w2.heap.size + 1, 0, none⟩)) 1 rfl; have c2 := u1.cellOf 2 HD2.out; have c17 := u1.cellOf 17 (show (s7c s)[17]? = some (.int .i64 s.a) from rfl); have c18 := u1.cellOf 18 (show (s7c s)[18]? = some (.int .i64 s.r) from rfl); go_simp; with_reducible rfl); simp only [Act.put, List.setIfInBounds_toArray, List.set_cons_zero, List.set_cons_succ])
            (refine script_take (v := ?_) rfl ?_ ?_ ?_; rotate_left; (first | rfl | (go_simp; done)); (rintro w' ⟨u1, u2, u3⟩; have q1 := u2.cellOf (v := .slice (some ⟨w2.heap.size + 2, 0, none⟩) 2 2) 0 rfl; have q2 := u3.cellOf (v := .pointer (some ⟨w2.heap.size, 0, none⟩)) 0 rfl; have q3 := u3.cellOf (v := .pointer (some ⟨w2.heap.size + 1, 0, none⟩)) 1 rfl; have c2 := u1.cellOf 2 HD2.out; have c17 := u1.cellOf 17 (show (s7c s)[17]? = some (.int .i64 s.a) from rfl); have c18 := u1.cellOf 18 (show (s7c s)[18]? = some (.int .i64 s.r) from rfl); go_simp; with_reducible rfl); simp only [Act.put, List.setIfInBounds_toArray, List.set_cons_zero, List.set_cons_succ])
            (refine script_take (v := ?_) rfl ?_ ?_ ?_; rotate_left; (first | rfl | (go_simp; done)); (rintro w' ⟨u1, u2, u3⟩; have q1 := u2.cellOf (v := .slice (some ⟨w2.heap.size + 2, 0, none⟩) 2 2) 0 rfl; have q2 := u3.cellOf (v := .pointer (some ⟨w2.heap.size, 0, none⟩)) 0 rfl; have q3 := u3.cellOf (v := .pointer (some ⟨w2.heap.size + 1, 0, none⟩)) 1 rfl; have c2 := u1.cellOf 2 HD2.out; have c17 := u1.cellOf 17 (show (s7c s)[17]? = some (.int .i64 s.a) from rfl); have c18 := u1.cellOf 18 (show (s7c s)[18]? = some (.int .i64 s.r) from rfl); go_simp; with_reducible rfl); simp only [Act.put, List.setIfInBounds_toArray, List.set_cons_zero, List.set_cons_succ])
            (refine script_take (v := ?_) rfl ?_ ?_ ?_; rotate_left; (first | rfl | (go_simp; done)); (rintro w' ⟨u1, u2, u3⟩; have q1 := u2.cellOf (v := .slice (some ⟨w2.heap.size + 2, 0, none⟩) 2 2) 0 rfl; have q2 := u3.cellOf (v := .pointer (some ⟨w2.heap.size, 0, none⟩)) 0 rfl; have q3 := u3.cellOf (v := .pointer (some ⟨w2.heap.size + 1, 0, none⟩)) 1 rfl; have c2 := u1.cellOf 2 HD2.out; have c17 := u1.cellOf 17 (show (s7c s)[17]? = some (.int .i64 s.a) from rfl); have c18 := u1.cellOf 18 (show (s7c s)[18]? = some (.int .i64 s.r) from rfl); go_simp; with_reducible rfl); simp only [Act.put, List.setIfInBounds_toArray, List.set_cons_zero, List.set_cons_succ])
            (refine script_take (v := ?_) rfl ?_ ?_ ?_; rotate_left; (first | rfl | (go_simp; done)); (rintro w' ⟨u1, u2, u3⟩; have q1 := u2.cellOf (v := .slice (some ⟨w2.heap.size + 2, 0, none⟩) 2 2) 0 rfl; have q2 := u3.cellOf (v := .pointer (some ⟨w2.heap.size, 0, none⟩)) 0 rfl; have q3 := u3.cellOf (v := .pointer (some ⟨w2.heap.size + 1, 0, none⟩)) 1 rfl; have c2 := u1.cellOf 2 HD2.out; have c17 := u1.cellOf 17 (show (s7c s)[17]? = some (.int .i64 s.a) from rfl); have c18 := u1.cellOf 18 (show (s7c s)[18]? = some (.int .i64 s.r) from rfl); go_simp; with_reducible rfl); simp only [Act.put, List.setIfInBounds_toArray, List.set_cons_zero, List.set_cons_succ])
            (refine script_take (v := ?_) rfl ?_ ?_ ?_; rotate_left; (first | rfl | (go_simp; done)); (rintro w' ⟨u1, u2, u3⟩; have q1 := u2.cellOf (v := .slice (some ⟨w2.heap.size + 2, 0, none⟩) 2 2) 0 rfl; have q2 := u3.cellOf (v := .pointer (some ⟨w2.heap.size, 0, none⟩)) 0 rfl; have q3 := u3.cellOf (v := .pointer (some ⟨w2.heap.size + 1, 0, none⟩)) 1 rfl; have c2 := u1.cellOf 2 HD2.out; have c17 := u1.cellOf 17 (show (s7c s)[17]? = some (.int .i64 s.a) from rfl); have c18 := u1.cellOf 18 (show (s7c s)[18]? = some (.int .i64 s.r) from rfl); go_simp; with_reducible rfl); simp only [Act.put, List.setIfInBounds_toArray, List.set_cons_zero, List.set_cons_succ])
            (refine script_take (v := ?_) rfl ?_ ?_ ?_; rotate_left; (first | rfl | (go_simp; done)); (rintro w' ⟨u1, u2, u3⟩; have q1 := u2.cellOf (v := .slice (some ⟨w2.heap.size + 2, 0, none⟩) 2 2) 0 rfl; have q2 := u3.cellOf (v := .pointer (some ⟨w2.heap.size, 0, none⟩)) 0 rfl; have q3 := u3.cellOf (v := .pointer (some ⟨w2.heap.size + 1, 0, none⟩)) 1 rfl; have c2 := u1.cellOf 2 HD2.out; have c17 := u1.cellOf 17 (show (s7c s)[17]? = some (.int .i64 s.a) from rfl); have c18 := u1.cellOf 18 (show (s7c s)[18]? = some (.int .i64 s.r) from rfl); go_simp; with_reducible rfl); simp only [Act.put, List.setIfInBounds_toArray, List.set_cons_zero, List.set_cons_succ])
            (refine script_take (v := .agg (mcells s.m s.A s.n s.c)) rfl ?_ (fun w' hw' => run_load_part 35 (.tmp 143) rfl rfl (s7_msg hw'.1) Try.underlying35 rfl (by kernel_rfl)) ?_; (first | rfl | (go_simp; done)); (simp only [Act.put, List.setIfInBounds_toArray, List.set_cons_zero, List.set_cons_succ]))
            (refine script_take (v := ?_) rfl ?_ ?_ ?_; rotate_left; (first | rfl | (go_simp; done)); (rintro w' ⟨u1, u2, u3⟩; have q1 := u2.cellOf (v := .slice (some ⟨w2.heap.size + 2, 0, none⟩) 2 2) 0 rfl; have q2 := u3.cellOf (v := .pointer (some ⟨w2.heap.size, 0, none⟩)) 0 rfl; have q3 := u3.cellOf (v := .pointer (some ⟨w2.heap.size + 1, 0, none⟩)) 1 rfl; have c2 := u1.cellOf 2 HD2.out; have c17 := u1.cellOf 17 (show (s7c s)[17]? = some (.int .i64 s.a) from rfl); have c18 := u1.cellOf 18 (show (s7c s)[18]? = some (.int .i64 s.r) from rfl); go_simp; with_reducible rfl); simp only [Act.put, List.setIfInBounds_toArray, List.set_cons_zero, List.set_cons_succ])
            (refine script_take (v := ?_) rfl ?_ ?_ ?_; rotate_left; (first | rfl | (go_simp; done)); (rintro w' ⟨u1, u2, u3⟩; have q1 := u2.cellOf (v := .slice (some ⟨w2.heap.size + 2, 0, none⟩) 2 2) 0 rfl; have q2 := u3.cellOf (v := .pointer (some ⟨w2.heap.size, 0, none⟩)) 0 rfl; have q3 := u3.cellOf (v := .pointer (some ⟨w2.heap.size + 1, 0, none⟩)) 1 rfl; have c2 := u1.cellOf 2 HD2.out; have c17 := u1.cellOf 17 (show (s7c s)[17]? = some (.int .i64 s.a) from rfl); have c18 := u1.cellOf 18 (show (s7c s)[18]? = some (.int .i64 s.r) from rfl); go_simp; with_reducible rfl); simp only [Act.put, List.setIfInBounds_toArray, List.set_cons_zero, List.set_cons_succ])
            (refine script_call 23 ?_ rfl ?_ ?_ ?_; rotate_left; (first | rfl | (go_simp; done)); (go_simp; with_reducible rfl))
            refine (HS.out w10 Kd.C1 (hmd.more Kd.below.size)).mono ?_
            rintro e w11 ⟨rfl, C11, G11⟩
            have K11 := Kd.clk1 C11 G11
            have B11 := Bd.keep G11 (by have := HQ.out; omega)
            refine ⟨_, rfl, ⟨B11, K11.B, K11.S⟩, ?_⟩
            simp only [Act.put, List.setIfInBounds_toArray, List.set_cons_zero, List.set_cons_succ]
            (refine script_take (v := ?_) rfl ?_ ?_ ?_; rotate_left; (first | rfl | (go_simp; done)); (intro w' _; go_simp; with_reducible rfl); simp only [Act.put, List.setIfInBounds_toArray, List.set_cons_zero, List.set_cons_succ])
            refine script_nil ?_
            have za := B11.cellOf (v := .int .i64 s.a) 17 rfl
            clear Kd Bd hmd B5 C11 G11
            go_wp2_with (first | (refine wpList_load_any_d rfl 35 (.tmp 149) rfl ⟨gq, 1, none⟩ rfl (mcells s.m s.A s.n s.c) _ (s7_msg B11) Try.underlying35 rfl (by kernel_rfl) ?_) | fail)
            refine (HP.out w11 K11.P ((HC.out.2.msg.below K11.below).more K11.below.size)).mono ?_
            rintro e w12 ⟨rfl, P12, F12⟩
            have HE : Hid (KP w w12 gm gp g0 g1 w2.heap.size most { p with c1 := X2 }) := Lib.hid ⟨K11.pair P12 F12, ⟨HKp.out.2.1.w0, HWf.out⟩, HKp.out.2.2.1, HKp.out.2.2.2⟩
            clear za K11 B11 P12 F12 HKp HP HS
            go_wp2_with fail
            clear fI
            go_roundw
            case rel => exact ⟨I, { p with c1 := X2 }, by first | rfl | (rw [HI.out.1]; rfl), by have := HI.out; omega, by have := HI.out; omega, HE⟩
            case measure => have := HI.out; simp [intOf]; omega
        have hno : ¬ (0 ≤ s.m.domain ∧ s.m.domain < 2) := by clear fI; omega
        obtain rfl : ee = false := by rw [HEE.out]; exact decide_eq_false hno
        have HP := Lib.hid (fun W P hm => psync_any p gp g0 g1 s.m s.A s.n s.c s.a W P hm)
        rw [psync2 hno] at HP
        have za := B5.cellOf (v := .int .i64 s.a) 17 rfl
        clear hno hd
        go_wp2_with (first | (refine wpList_load_any_d rfl 35 (.tmp 149) rfl ⟨gq, 1, none⟩ rfl (mcells s.m s.A s.n s.c) _ (s7_msg B5) Try.underlying35 rfl (by kernel_rfl) ?_) | fail)
        refine (HP.out w5 HKp.out.1.P ((HC.out.2.msg.below HKp.out.1.below).more HKp.out.1.below.size)).mono ?_
        rintro e w12 ⟨rfl, P12, F12⟩
        have HE : Hid (KP w w12 gm gp g0 g1 w2.heap.size most p) := Lib.hid ⟨HKp.out.1.pair P12 F12, HKp.out.2⟩
        clear za B5 P12 F12 HKp HP
        go_wp2_with fail
        clear fI
        go_roundw
        case rel => exact ⟨I, p, by first | rfl | (rw [HI.out.1]; rfl), by have := HI.out; omega, by have := HI.out; omega, HE⟩
        case measure => have := HI.out; simp [intOf]; omega
    · as_aux_lemma =>
        by_cases hd : s.m.domain = 0
        · as_aux_lemma =>
            have HD2 : Hid ((s7c s)[2]? = some (.int .i64 0)) := Lib.hid (by show some (Value.int .i64 s.m.domain) = _; rw [hd])
            obtain rfl : ee = true := by rw [HEE.out, hd]; rfl
            obtain ⟨X, hX⟩ : ∃ X, X = follV p.c0 s.m s.a s.r := ⟨_, rfl⟩
            have HS := Lib.hid (fun W C hm => follow_any p.c0 (w2.heap.size) s.m s.A s.n s.c s.a s.r W C hm HC.out.2.wf HC.out.2.a HC.out.2.r)
            have HP := Lib.hid (fun W P hm => pfollow_any p gp g0 g1 s.m s.A s.n s.c s.a s.r W P hm HC.out.2.wf HC.out.2.a HC.out.2.r)
            rw [pfoll0 hd] at HP
            rw [← hX] at HS HP
            have HWf : Hid (X.2.Wf) := Lib.hid (by rw [hX]; exact follV_wf HKp.out.2.1.w0)
            obtain ⟨X1, X2⟩ := X
            have HDom := Lib.hid hd
            clear hX hd
            go_wp2_with fail
            refine wp_region_script [(0, true), (1, true), (2, true), (3, true), (4, true), (5, true), (6, true), (7, true), (8, true), (9, true), (10, true), (11, true), (12, false), (13, true)] (fun w' => Blk w' gq 37 (s7c s) ∧ Blk w' (w2.heap.size + 3) 51 #[.slice (some ⟨w2.heap.size + 2, 0, none⟩) 2 2] ∧ Blk w' (w2.heap.size + 2) 49 #[.pointer (some ⟨w2.heap.size, 0, none⟩), .pointer (some ⟨w2.heap.size + 1, 0, none⟩)]) (by kernel_rfl) (by kernel_rfl) (fun _ _ _ _ _ h => h) ⟨B5.drew, HKp.out.1.B.drew, HKp.out.1.S.drew⟩ ?_
            have Kd := HKp.out.1.kept (show Below w5.heap.size w5 w5.drew from (Below.refl _ _).drew)
            have Bd := B5.drew
            have hmd := HC.out.2.msg.below Kd.below
            generalize w5.drew = w10 at *
            (refine script_take (v := ?_) rfl ?_ ?_ ?_; rotate_left; (first | rfl | (go_simp; done)); (rintro w' ⟨u1, u2, u3⟩; have q1 := u2.cellOf (v := .slice (some ⟨w2.heap.size + 2, 0, none⟩) 2 2) 0 rfl; have q2 := u3.cellOf (v := .pointer (some ⟨w2.heap.size, 0, none⟩)) 0 rfl; have q3 := u3.cellOf (v := .pointer (some ⟨w2.heap.size + 1, 0, none⟩)) 1 rfl; have c2 := u1.cellOf 2 HD2.out; have c17 := u1.cellOf 17 (show (s7c s)[17]? = some (.int .i64 s.a) from rfl); have c18 := u1.cellOf 18 (show (s7c s)[18]? = some (.int .i64 s.r) from rfl); go_simp; with_reducible rfl); simp only [Act.put, List.setIfInBounds_toArray, List.set_cons_zero, List.set_cons_succ])
            (refine script_take (v := ?_) rfl ?_ ?_ ?_; rotate_left; (first | rfl | (go_simp; done)); (rintro w' ⟨u1, u2, u3⟩; have q1 := u2.cellOf (v := .slice (some ⟨w2.heap.size + 2, 0, none⟩) 2 2) 0 rfl; have q2 := u3.cellOf (v := .pointer (some ⟨w2.heap.size, 0, none⟩)) 0 rfl; have q3 := u3.cellOf (v := .pointer (some ⟨w2.heap.size + 1, 0, none⟩)) 1 rfl; have c2 := u1.cellOf 2 HD2.out; have c17 := u1.cellOf 17 (show (s7c s)[17]? = some (.int .i64 s.a) from rfl); have c18 := u1.cellOf 18 (show (s7c s)[18]? = some (.int .i64 s.r) from rfl); go_simp; with_reducible rfl); simp only [Act.put, List.setIfInBounds_toArray, List.set_cons_zero, List.set_cons_succ])
            (refine script_take (v := ?_) rfl ?_ ?_ ?_; rotate_left; (first | rfl | (go_simp; done)); (rintro w' ⟨u1, u2, u3⟩; have q1 := u2.cellOf (v := .slice (some ⟨w2.heap.size + 2, 0, none⟩) 2 2) 0 rfl; have q2 := u3.cellOf (v := .pointer (some ⟨w2.heap.size, 0, none⟩)) 0 rfl; have q3 := u3.cellOf (v := .pointer (some ⟨w2.heap.size + 1, 0, none⟩)) 1 rfl; have c2 := u1.cellOf 2 HD2.out; have c17 := u1.cellOf 17 (show (s7c s)[17]? = some (.int .i64 s.a) from rfl); have c18 := u1.cellOf 18 (show (s7c s)[18]? = some (.int .i64 s.r) from rfl); go_simp; with_reducible rfl); simp only [Act.put, List.setIfInBounds_toArray, List.set_cons_zero, List.set_cons_succ])
            (refine script_take (v := ?_) rfl ?_ ?_ ?_; rotate_left; (first | rfl | (go_simp; done)); (rintro w' ⟨u1, u2, u3⟩; have q1 := u2.cellOf (v := .slice (some ⟨w2.heap.size + 2, 0, none⟩) 2 2) 0 rfl; have q2 := u3.cellOf (v := .pointer (some ⟨w2.heap.size, 0, none⟩)) 0 rfl; have q3 := u3.cellOf (v := .pointer (some ⟨w2.heap.size + 1, 0, none⟩)) 1 rfl; have c2 := u1.cellOf 2 HD2.out; have c17 := u1.cellOf 17 (show (s7c s)[17]? = some (.int .i64 s.a) from rfl); have c18 := u1.cellOf 18 (show (s7c s)[18]? = some (.int .i64 s.r) from rfl); go_simp; with_reducible rfl); simp only [Act.put, List.setIfInBounds_toArray, List.set_cons_zero, List.set_cons_succ])
            (refine script_take (v := ?_) rfl ?_ ?_ ?_; rotate_left; (first | rfl | (go_simp; done)); (rintro w' ⟨u1, u2, u3⟩; have q1 := u2.cellOf (v := .slice (some ⟨w2.heap.size + 2, 0, none⟩) 2 2) 0 rfl; have q2 := u3.cellOf (v := .pointer (some ⟨w2.heap.size, 0, none⟩)) 0 rfl; have q3 := u3.cellOf (v := .pointer (some ⟨w2.heap.size + 1, 0, none⟩)) 1 rfl; have c2 := u1.cellOf 2 HD2.out; have c17 := u1.cellOf 17 (show (s7c s)[17]? = some (.int .i64 s.a) from rfl); have c18 := u1.cellOf 18 (show (s7c s)[18]? = some (.int .i64 s.r) from rfl); go_simp; with_reducible rfl); simp only [Act.put, List.setIfInBounds_toArray, List.set_cons_zero, List.set_cons_succ])
            (refine script_take (v := ?_) rfl ?_ ?_ ?_; rotate_left; (first | rfl | (go_simp; done)); (rintro w' ⟨u1, u2, u3⟩; have q1 := u2.cellOf (v := .slice (some ⟨w2.heap.size + 2, 0, none⟩) 2 2) 0 rfl; have q2 := u3.cellOf (v := .pointer (some ⟨w2.heap.size, 0, none⟩)) 0 rfl; have q3 := u3.cellOf (v := .pointer (some ⟨w2.heap.size + 1, 0, none⟩)) 1 rfl; have c2 := u1.cellOf 2 HD2.out; have c17 := u1.cellOf 17 (show (s7c s)[17]? = some (.int .i64 s.a) from rfl); have c18 := u1.cellOf 18 (show (s7c s)[18]? = some (.int .i64 s.r) from rfl); go_simp; with_reducible rfl); simp only [Act.put, List.setIfInBounds_toArray, List.set_cons_zero, List.set_cons_succ])
            (refine script_take (v := ?_) rfl ?_ ?_ ?_; rotate_left; (first | rfl | (go_simp; done)); (rintro w' ⟨u1, u2, u3⟩; have q1 := u2.cellOf (v := .slice (some ⟨w2.heap.size + 2, 0, none⟩) 2 2) 0 rfl; have q2 := u3.cellOf (v := .pointer (some ⟨w2.heap.size, 0, none⟩)) 0 rfl; have q3 := u3.cellOf (v := .pointer (some ⟨w2.heap.size + 1, 0, none⟩)) 1 rfl; have c2 := u1.cellOf 2 HD2.out; have c17 := u1.cellOf 17 (show (s7c s)[17]? = some (.int .i64 s.a) from rfl); have c18 := u1.cellOf 18 (show (s7c s)[18]? = some (.int .i64 s.r) from rfl); go_simp; with_reducible rfl); simp only [Act.put, List.setIfInBounds_toArray, List.set_cons_zero, List.set_cons_succ])
            (refine script_take (v := .agg (mcells s.m s.A s.n s.c)) rfl ?_ (fun w' hw' => run_load_part 35 (.tmp 165) rfl rfl (s7_msg hw'.1) Try.underlying35 rfl (by kernel_rfl)) ?_; (first | rfl | (go_simp; done)); (simp only [Act.put, List.setIfInBounds_toArray, List.set_cons_zero, List.set_cons_succ]))
            (refine script_take (v := ?_) rfl ?_ ?_ ?_; rotate_left; (first | rfl | (go_simp; done)); (rintro w' ⟨u1, u2, u3⟩; have q1 := u2.cellOf (v := .slice (some ⟨w2.heap.size + 2, 0, none⟩) 2 2) 0 rfl; have q2 := u3.cellOf (v := .pointer (some ⟨w2.heap.size, 0, none⟩)) 0 rfl; have q3 := u3.cellOf (v := .pointer (some ⟨w2.heap.size + 1, 0, none⟩)) 1 rfl; have c2 := u1.cellOf 2 HD2.out; have c17 := u1.cellOf 17 (show (s7c s)[17]? = some (.int .i64 s.a) from rfl); have c18 := u1.cellOf 18 (show (s7c s)[18]? = some (.int .i64 s.r) from rfl); go_simp; with_reducible rfl); simp only [Act.put, List.setIfInBounds_toArray, List.set_cons_zero, List.set_cons_succ])
            (refine script_take (v := ?_) rfl ?_ ?_ ?_; rotate_left; (first | rfl | (go_simp; done)); (rintro w' ⟨u1, u2, u3⟩; have q1 := u2.cellOf (v := .slice (some ⟨w2.heap.size + 2, 0, none⟩) 2 2) 0 rfl; have q2 := u3.cellOf (v := .pointer (some ⟨w2.heap.size, 0, none⟩)) 0 rfl; have q3 := u3.cellOf (v := .pointer (some ⟨w2.heap.size + 1, 0, none⟩)) 1 rfl; have c2 := u1.cellOf 2 HD2.out; have c17 := u1.cellOf 17 (show (s7c s)[17]? = some (.int .i64 s.a) from rfl); have c18 := u1.cellOf 18 (show (s7c s)[18]? = some (.int .i64 s.r) from rfl); go_simp; with_reducible rfl); simp only [Act.put, List.setIfInBounds_toArray, List.set_cons_zero, List.set_cons_succ])
            (refine script_take (v := ?_) rfl ?_ ?_ ?_; rotate_left; (first | rfl | (go_simp; done)); (rintro w' ⟨u1, u2, u3⟩; have q1 := u2.cellOf (v := .slice (some ⟨w2.heap.size + 2, 0, none⟩) 2 2) 0 rfl; have q2 := u3.cellOf (v := .pointer (some ⟨w2.heap.size, 0, none⟩)) 0 rfl; have q3 := u3.cellOf (v := .pointer (some ⟨w2.heap.size + 1, 0, none⟩)) 1 rfl; have c2 := u1.cellOf 2 HD2.out; have c17 := u1.cellOf 17 (show (s7c s)[17]? = some (.int .i64 s.a) from rfl); have c18 := u1.cellOf 18 (show (s7c s)[18]? = some (.int .i64 s.r) from rfl); go_simp; with_reducible rfl); simp only [Act.put, List.setIfInBounds_toArray, List.set_cons_zero, List.set_cons_succ])
            (refine script_take (v := ?_) rfl ?_ ?_ ?_; rotate_left; (first | rfl | (go_simp; done)); (rintro w' ⟨u1, u2, u3⟩; have q1 := u2.cellOf (v := .slice (some ⟨w2.heap.size + 2, 0, none⟩) 2 2) 0 rfl; have q2 := u3.cellOf (v := .pointer (some ⟨w2.heap.size, 0, none⟩)) 0 rfl; have q3 := u3.cellOf (v := .pointer (some ⟨w2.heap.size + 1, 0, none⟩)) 1 rfl; have c2 := u1.cellOf 2 HD2.out; have c17 := u1.cellOf 17 (show (s7c s)[17]? = some (.int .i64 s.a) from rfl); have c18 := u1.cellOf 18 (show (s7c s)[18]? = some (.int .i64 s.r) from rfl); go_simp; with_reducible rfl); simp only [Act.put, List.setIfInBounds_toArray, List.set_cons_zero, List.set_cons_succ])
            (refine script_call 24 ?_ rfl ?_ ?_ ?_; rotate_left; (first | rfl | (go_simp; done)); (go_simp; with_reducible rfl))
            refine (HS.out w10 Kd.C0 (hmd.more Kd.below.size)).mono ?_
            rintro e w11 ⟨rfl, C11, G11⟩
            have K11 := Kd.clk0 C11 G11
            have B11 := Bd.keep G11 (by have := HQ.out; omega)
            refine ⟨_, rfl, ⟨B11, K11.B, K11.S⟩, ?_⟩
            simp only [Act.put, List.setIfInBounds_toArray, List.set_cons_zero, List.set_cons_succ]
            (refine script_take (v := ?_) rfl ?_ ?_ ?_; rotate_left; (first | rfl | (go_simp; done)); (intro w' _; go_simp; with_reducible rfl); simp only [Act.put, List.setIfInBounds_toArray, List.set_cons_zero, List.set_cons_succ])
            refine script_nil ?_
            have za := B11.cellOf (v := .int .i64 s.a) 17 rfl
            have zr := B11.cellOf (v := .int .i64 s.r) 18 rfl
            clear Kd Bd hmd B5 C11 G11
            go_wp2_with (first | (refine wpList_load_any_d rfl 35 (.tmp 173) rfl ⟨gq, 1, none⟩ rfl (mcells s.m s.A s.n s.c) _ (s7_msg B11) Try.underlying35 rfl (by kernel_rfl) ?_) | fail)
            refine (HP.out w11 K11.P ((HC.out.2.msg.below K11.below).more K11.below.size)).mono ?_
            rintro e w12 ⟨rfl, P12, F12⟩
            have HE : Hid (KP w w12 gm gp g0 g1 w2.heap.size most { p with c0 := X2 }) := Lib.hid ⟨K11.pair P12 F12, ⟨HWf.out, HKp.out.2.1.w1⟩, HKp.out.2.2.1, HKp.out.2.2.2⟩
            clear za zr K11 B11 P12 F12 HKp HP HS
            go_wp2_with fail
            clear fI
            go_roundw
            case rel => exact ⟨I, { p with c0 := X2 }, by first | rfl | (rw [HI.out.1]; rfl), by have := HI.out; omega, by have := HI.out; omega, HE⟩
            case measure => have := HI.out; simp [intOf]; omega
        by_cases hd1 : s.m.domain = 1
        · as_aux_lemma =>
            have hd := hd1
            have HD2 : Hid ((s7c s)[2]? = some (.int .i64 1)) := Lib.hid (by show some (Value.int .i64 s.m.domain) = _; rw [hd])
            obtain rfl : ee = true := by rw [HEE.out, hd]; rfl
            obtain ⟨X, hX⟩ : ∃ X, X = follV p.c1 s.m s.a s.r := ⟨_, rfl⟩
            have HS := Lib.hid (fun W C hm => follow_any p.c1 (w2.heap.size + 1) s.m s.A s.n s.c s.a s.r W C hm HC.out.2.wf HC.out.2.a HC.out.2.r)
            have HP := Lib.hid (fun W P hm => pfollow_any p gp g0 g1 s.m s.A s.n s.c s.a s.r W P hm HC.out.2.wf HC.out.2.a HC.out.2.r)
            rw [pfoll1 hd] at HP
            rw [← hX] at HS HP
            have HWf : Hid (X.2.Wf) := Lib.hid (by rw [hX]; exact follV_wf HKp.out.2.1.w1)
            obtain ⟨X1, X2⟩ := X
            have HDom := Lib.hid hd
            clear hX hd
            go_wp2_with fail
            refine wp_region_script [(0, true), (1, true), (2, true), (3, true), (4, true), (5, true), (6, true), (7, true), (8, true), (9, true), (10, true), (11, true), (12, false), (13, true)] (fun w' => Blk w' gq 37 (s7c s) ∧ Blk w' (w2.heap.size + 3) 51 #[.slice (some ⟨w2.heap.size + 2, 0, none⟩) 2 2] ∧ Blk w' (w2.heap.size + 2) 49 #[.pointer (some ⟨w2.heap.size, 0, none⟩), .pointer (some ⟨w2.heap.size + 1, 0, none⟩)]) (by kernel_rfl) (by kernel_rfl) (fun _ _ _ _ _ h => h) ⟨B5.drew, HKp.out.1.B.drew, HKp.out.1.S.drew⟩ ?_
            have Kd := HKp.out.1.kept (show Below w5.heap.size w5 w5.drew from (Below.refl _ _).drew)
            have Bd := B5.drew
            have hmd := HC.out.2.msg.below Kd.below
            generalize w5.drew = w10 at *
            (refine script_take (v := ?_) rfl ?_ ?_ ?_; rotate_left; (first | rfl | (go_simp; done)); (rintro w' ⟨u1, u2, u3⟩; have q1 := u2.cellOf (v := .slice (some ⟨w2.heap.size + 2, 0, none⟩) 2 2) 0 rfl; have q2 := u3.cellOf (v := .pointer (some ⟨w2.heap.size, 0, none⟩)) 0 rfl; have q3 := u3.cellOf (v := .pointer (some ⟨w2.heap.size + 1, 0, none⟩)) 1 rfl; have c2 := u1.cellOf 2 HD2.out; have c17 := u1.cellOf 17 (show (s7c s)[17]? = some (.int .i64 s.a) from rfl); have c18 := u1.cellOf 18 (show (s7c s)[18]? = some (.int .i64 s.r) from rfl); go_simp; with_reducible rfl); simp only [Act.put, List.setIfInBounds_toArray, List.set_cons_zero, List.set_cons_succ])
            (refine script_take (v := ?_) rfl ?_ ?_ ?_; rotate_left; (first | rfl | (go_simp; done)); (rintro w' ⟨u1, u2, u3⟩; have q1 := u2.cellOf (v := .slice (some ⟨w2.heap.size + 2, 0, none⟩) 2 2) 0 rfl; have q2 := u3.cellOf (v := .pointer (some ⟨w2.heap.size, 0, none⟩)) 0 rfl; have q3 := u3.cellOf (v := .pointer (some ⟨w2.heap.size + 1, 0, none⟩)) 1 rfl; have c2 := u1.cellOf 2 HD2.out; have c17 := u1.cellOf 17 (show (s7c s)[17]? = some (.int .i64 s.a) from rfl); have c18 := u1.cellOf 18 (show (s7c s)[18]? = some (.int .i64 s.r) from rfl); go_simp; with_reducible rfl); simp only [Act.put, List.setIfInBounds_toArray, List.set_cons_zero, List.set_cons_succ])
            (refine script_take (v := ?_) rfl ?_ ?_ ?_; rotate_left; (first | rfl | (go_simp; done)); (rintro w' ⟨u1, u2, u3⟩; have q1 := u2.cellOf (v := .slice (some ⟨w2.heap.size + 2, 0, none⟩) 2 2) 0 rfl; have q2 := u3.cellOf (v := .pointer (some ⟨w2.heap.size, 0, none⟩)) 0 rfl; have q3 := u3.cellOf (v := .pointer (some ⟨w2.heap.size + 1, 0, none⟩)) 1 rfl; have c2 := u1.cellOf 2 HD2.out; have c17 := u1.cellOf 17 (show (s7c s)[17]? = some (.int .i64 s.a) from rfl); have c18 := u1.cellOf 18 (show (s7c s)[18]? = some (.int .i64 s.r) from rfl); go_simp; with_reducible rfl); simp only [Act.put, List.setIfInBounds_toArray, List.set_cons_zero, List.set_cons_succ])
            (refine script_take (v := ?_) rfl ?_ ?_ ?_; rotate_left; (first | rfl | (go_simp; done)); (rintro w' ⟨u1, u2, u3⟩; have q1 := u2.cellOf (v := .slice (some ⟨w2.heap.size + 2, 0, none⟩) 2 2) 0 rfl; have q2 := u3.cellOf (v := .pointer (some ⟨w2.heap.size, 0, none⟩)) 0 rfl; have q3 := u3.cellOf (v := .pointer (some ⟨w2.heap.size + 1, 0, none⟩)) 1 rfl; have c2 := u1.cellOf 2 HD2.out; have c17 := u1.cellOf 17 (show (s7c s)[17]? = some (.int .i64 s.a) from rfl); have c18 := u1.cellOf 18 (show (s7c s)[18]? = some (.int .i64 s.r) from rfl); go_simp; with_reducible rfl); simp only [Act.put, List.setIfInBounds_toArray, List.set_cons_zero, List.set_cons_succ])
            (refine script_take (v := ?_) rfl ?_ ?_ ?_; rotate_left; (first | rfl | (go_simp; done)); (rintro w' ⟨u1, u2, u3⟩; have q1 := u2.cellOf (v := .slice (some ⟨w2.heap.size + 2, 0, none⟩) 2 2) 0 rfl; have q2 := u3.cellOf (v := .pointer (some ⟨w2.heap.size, 0, none⟩)) 0 rfl; have q3 := u3.cellOf (v := .pointer (some ⟨w2.heap.size + 1, 0, none⟩)) 1 rfl; have c2 := u1.cellOf 2 HD2.out; have c17 := u1.cellOf 17 (show (s7c s)[17]? = some (.int .i64 s.a) from rfl); have c18 := u1.cellOf 18 (show (s7c s)[18]? = some (.int .i64 s.r) from rfl); go_simp; with_reducible rfl); simp only [Act.put, List.setIfInBounds_toArray, List.set_cons_zero, List.set_cons_succ])
            (refine script_take (v := ?_) rfl ?_ ?_ ?_; rotate_left; (first | rfl | (go_simp; done)); (rintro w' ⟨u1, u2, u3⟩; have q1 := u2.cellOf (v := .slice (some ⟨w2.heap.size + 2, 0, none⟩) 2 2) 0 rfl; have q2 := u3.cellOf (v := .pointer (some ⟨w2.heap.size, 0, none⟩)) 0 rfl; have q3 := u3.cellOf (v := .pointer (some ⟨w2.heap.size + 1, 0, none⟩)) 1 rfl; have c2 := u1.cellOf 2 HD2.out; have c17 := u1.cellOf 17 (show (s7c s)[17]? = some (.int .i64 s.a) from rfl); have c18 := u1.cellOf 18 (show (s7c s)[18]? = some (.int .i64 s.r) from rfl); go_simp; with_reducible rfl); simp only [Act.put, List.setIfInBounds_toArray, List.set_cons_zero, List.set_cons_succ])
            (refine script_take (v := ?_) rfl ?_ ?_ ?_; rotate_left; (first | rfl | (go_simp; done)); (rintro w' ⟨u1, u2, u3⟩; have q1 := u2.cellOf (v := .slice (some ⟨w2.heap.size + 2, 0, none⟩) 2 2) 0 rfl; have q2 := u3.cellOf (v := .pointer (some ⟨w2.heap.size, 0, none⟩)) 0 rfl; have q3 := u3.cellOf (v := .pointer (some ⟨w2.heap.size + 1, 0, none⟩)) 1 rfl; have c2 := u1.cellOf 2 HD2.out; have c17 := u1.cellOf 17 (show (s7c s)[17]? = some (.int .i64 s.a) from rfl); have c18 := u1.cellOf 18 (show (s7c s)[18]? = some (.int .i64 s.r) from rfl); go_simp; with_reducible rfl); simp only [Act.put, List.setIfInBounds_toArray, List.set_cons_zero, List.set_cons_succ])
            (refine script_take (v := .agg (mcells s.m s.A s.n s.c)) rfl ?_ (fun w' hw' => run_load_part 35 (.tmp 165) rfl rfl (s7_msg hw'.1) Try.underlying35 rfl (by kernel_rfl)) ?_; (first | rfl | (go_simp; done)); (simp only [Act.put, List.setIfInBounds_toArray, List.set_cons_zero, List.set_cons_succ]))
            (refine script_take (v := ?_) rfl ?_ ?_ ?_; rotate_left; (first | rfl | (go_simp; done)); (rintro w' ⟨u1, u2, u3⟩; have q1 := u2.cellOf (v := .slice (some ⟨w2.heap.size + 2, 0, none⟩) 2 2) 0 rfl; have q2 := u3.cellOf (v := .pointer (some ⟨w2.heap.size, 0, none⟩)) 0 rfl; have q3 := u3.cellOf (v := .pointer (some ⟨w2.heap.size + 1, 0, none⟩)) 1 rfl; have c2 := u1.cellOf 2 HD2.out; have c17 := u1.cellOf 17 (show (s7c s)[17]? = some (.int .i64 s.a) from rfl); have c18 := u1.cellOf 18 (show (s7c s)[18]? = some (.int .i64 s.r) from rfl); go_simp; with_reducible rfl); simp only [Act.put, List.setIfInBounds_toArray, List.set_cons_zero, List.set_cons_succ])
            (refine script_take (v := ?_) rfl ?_ ?_ ?_; rotate_left; (first | rfl | (go_simp; done)); (rintro w' ⟨u1, u2, u3⟩; have q1 := u2.cellOf (v := .slice (some ⟨w2.heap.size + 2, 0, none⟩) 2 2) 0 rfl; have q2 := u3.cellOf (v := .pointer (some ⟨w2.heap.size, 0, none⟩)) 0 rfl; have q3 := u3.cellOf (v := .pointer (some ⟨w2.heap.size + 1, 0, none⟩)) 1 rfl; have c2 := u1.cellOf 2 HD2.out; have c17 := u1.cellOf 17 (show (s7c s)[17]? = some (.int .i64 s.a) from rfl); have c18 := u1.cellOf 18 (show (s7c s)[18]? = some (.int .i64 s.r) from rfl); go_simp; with_reducible rfl); simp only [Act.put, List.setIfInBounds_toArray, List.set_cons_zero, List.set_cons_succ])
            (refine script_take (v := ?_) rfl ?_ ?_ ?_; rotate_left; (first | rfl | (go_simp; done)); (rintro w' ⟨u1, u2, u3⟩; have q1 := u2.cellOf (v := .slice (some ⟨w2.heap.size + 2, 0, none⟩) 2 2) 0 rfl; have q2 := u3.cellOf (v := .pointer (some ⟨w2.heap.size, 0, none⟩)) 0 rfl; have q3 := u3.cellOf (v := .pointer (some ⟨w2.heap.size + 1, 0, none⟩)) 1 rfl; have c2 := u1.cellOf 2 HD2.out; have c17 := u1.cellOf 17 (show (s7c s)[17]? = some (.int .i64 s.a) from rfl); have c18 := u1.cellOf 18 (show (s7c s)[18]? = some (.int .i64 s.r) from rfl); go_simp; with_reducible rfl); simp only [Act.put, List.setIfInBounds_toArray, List.set_cons_zero, List.set_cons_succ])
            (refine script_take (v := ?_) rfl ?_ ?_ ?_; rotate_left; (first | rfl | (go_simp; done)); (rintro w' ⟨u1, u2, u3⟩; have q1 := u2.cellOf (v := .slice (some ⟨w2.heap.size + 2, 0, none⟩) 2 2) 0 rfl; have q2 := u3.cellOf (v := .pointer (some ⟨w2.heap.size, 0, none⟩)) 0 rfl; have q3 := u3.cellOf (v := .pointer (some ⟨w2.heap.size + 1, 0, none⟩)) 1 rfl; have c2 := u1.cellOf 2 HD2.out; have c17 := u1.cellOf 17 (show (s7c s)[17]? = some (.int .i64 s.a) from rfl); have c18 := u1.cellOf 18 (show (s7c s)[18]? = some (.int .i64 s.r) from rfl); go_simp; with_reducible rfl); simp only [Act.put, List.setIfInBounds_toArray, List.set_cons_zero, List.set_cons_succ])
            (refine script_call 24 ?_ rfl ?_ ?_ ?_; rotate_left; (first | rfl | (go_simp; done)); (go_simp; with_reducible rfl))
            refine (HS.out w10 Kd.C1 (hmd.more Kd.below.size)).mono ?_
            rintro e w11 ⟨rfl, C11, G11⟩
            have K11 := Kd.clk1 C11 G11
            have B11 := Bd.keep G11 (by have := HQ.out; omega)
            refine ⟨_, rfl, ⟨B11, K11.B, K11.S⟩, ?_⟩
            simp only [Act.put, List.setIfInBounds_toArray, List.set_cons_zero, List.set_cons_succ]
            (refine script_take (v := ?_) rfl ?_ ?_ ?_; rotate_left; (first | rfl | (go_simp; done)); (intro w' _; go_simp; with_reducible rfl); simp only [Act.put, List.setIfInBounds_toArray, List.set_cons_zero, List.set_cons_succ])
            refine script_nil ?_
            have za := B11.cellOf (v := .int .i64 s.a) 17 rfl
            have zr := B11.cellOf (v := .int .i64 s.r) 18 rfl
            clear Kd Bd hmd B5 C11 G11
            go_wp2_with (first | (refine wpList_load_any_d rfl 35 (.tmp 173) rfl ⟨gq, 1, none⟩ rfl (mcells s.m s.A s.n s.c) _ (s7_msg B11) Try.underlying35 rfl (by kernel_rfl) ?_) | fail)
            refine (HP.out w11 K11.P ((HC.out.2.msg.below K11.below).more K11.below.size)).mono ?_
            rintro e w12 ⟨rfl, P12, F12⟩
            have HE : Hid (KP w w12 gm gp g0 g1 w2.heap.size most { p with c1 := X2 }) := Lib.hid ⟨K11.pair P12 F12, ⟨HKp.out.2.1.w0, HWf.out⟩, HKp.out.2.2.1, HKp.out.2.2.2⟩
            clear za zr K11 B11 P12 F12 HKp HP HS
            go_wp2_with fail
            clear fI
            go_roundw
            case rel => exact ⟨I, { p with c1 := X2 }, by first | rfl | (rw [HI.out.1]; rfl), by have := HI.out; omega, by have := HI.out; omega, HE⟩
            case measure => have := HI.out; simp [intOf]; omega
        have hno : ¬ (0 ≤ s.m.domain ∧ s.m.domain < 2) := by clear fI; omega
        obtain rfl : ee = false := by rw [HEE.out]; exact decide_eq_false hno
        have HP := Lib.hid (fun W P hm => pfollow_any p gp g0 g1 s.m s.A s.n s.c s.a s.r W P hm HC.out.2.wf HC.out.2.a HC.out.2.r)
        rw [pfoll2 hno] at HP
        have za := B5.cellOf (v := .int .i64 s.a) 17 rfl
        have zr := B5.cellOf (v := .int .i64 s.r) 18 rfl
        clear hno hd
        go_wp2_with (first | (refine wpList_load_any_d rfl 35 (.tmp 173) rfl ⟨gq, 1, none⟩ rfl (mcells s.m s.A s.n s.c) _ (s7_msg B5) Try.underlying35 rfl (by kernel_rfl) ?_) | fail)
        refine (HP.out w5 HKp.out.1.P ((HC.out.2.msg.below HKp.out.1.below).more HKp.out.1.below.size)).mono ?_
        rintro e w12 ⟨rfl, P12, F12⟩
        have HE : Hid (KP w w12 gm gp g0 g1 w2.heap.size most p) := Lib.hid ⟨HKp.out.1.pair P12 F12, HKp.out.2⟩
        clear za zr B5 P12 F12 HKp HP
        go_wp2_with fail
        clear fI
        go_roundw
        case rel => exact ⟨I, p, by first | rfl | (rw [HI.out.1]; rfl), by have := HI.out; omega, by have := HI.out; omega, HE⟩
        case measure => have := HI.out; simp [intOf]; omega
    · as_aux_lemma =>
        by_cases hd : s.d = 0
        · as_aux_lemma =>
            have HD2 : Hid ((s7c s)[19]? = some (.int .i64 0)) := Lib.hid (by show some (Value.int .i64 s.d) = _; rw [hd])
            obtain rfl : dd = true := by rw [HDD.out, hd]; rfl
            have HP := Lib.hid (fun W P => proot_any p gp g0 g1 s.d s.on s.a W P HKp.out.2.1 HC.out.2.a)
            have hV : rootV p s.d s.on s.a = { p with root0 := s.on, c0 := ownV p.c0 s.on s.a } := by unfold rootV; rw [if_pos hd]
            rw [hV] at HP
            have HO := Lib.hid (fun W C => own_any p.c0 w2.heap.size s.on s.a W C HKp.out.2.1.w0 HC.out.2.a)
            have zd := B5.cellOf (v := .int .i64 s.d) 19 rfl
            have zon := B5.cellOf (v := .bool s.on) 20 rfl
            have za := B5.cellOf (v := .int .i64 s.a) 17 rfl
            clear hV hd
            go_wp2_with fail
            refine (HP.out w5 HKp.out.1.P).mono ?_
            rintro e w6 ⟨rfl, P6, F6⟩
            have K6 := HKp.out.1.pair P6 F6
            have B6 := step_pair B5 HQ.out HKp.out.1.pb F6
            clear zd zon za B5 P6 F6 HP
            go_wp2_with fail
            refine wp_region_script [(0, true), (1, true), (2, true), (3, true), (4, true), (5, true), (6, true), (7, true), (8, true), (9, false)] (fun w' => Blk w' gq 37 (s7c s) ∧ Blk w' (w2.heap.size + 3) 51 #[.slice (some ⟨w2.heap.size + 2, 0, none⟩) 2 2] ∧ Blk w' (w2.heap.size + 2) 49 #[.pointer (some ⟨w2.heap.size, 0, none⟩), .pointer (some ⟨w2.heap.size + 1, 0, none⟩)]) (by kernel_rfl) (by kernel_rfl) (fun _ _ _ _ _ h => h) ⟨B6.drew, K6.B.drew, K6.S.drew⟩ ?_
            have Kd := K6.kept (show Below w6.heap.size w6 w6.drew from (Below.refl _ _).drew)
            have Bd := B6.drew
            generalize w6.drew = w10 at *
            iterate 9 (refine script_take (v := ?_) rfl ?_ ?_ ?_; rotate_left; (first | rfl | (go_simp; done)); (rintro w' ⟨u1, u2, u3⟩; have q1 := u2.cellOf (v := .slice (some ⟨w2.heap.size + 2, 0, none⟩) 2 2) 0 rfl; have q2 := u3.cellOf (v := .pointer (some ⟨w2.heap.size, 0, none⟩)) 0 rfl; have q3 := u3.cellOf (v := .pointer (some ⟨w2.heap.size + 1, 0, none⟩)) 1 rfl; have c19 := u1.cellOf 19 HD2.out; have c20 := u1.cellOf 20 (show (s7c s)[20]? = some (.bool s.on) from rfl); have c17 := u1.cellOf 17 (show (s7c s)[17]? = some (.int .i64 s.a) from rfl); go_simp; with_reducible rfl); simp only [Act.put, List.setIfInBounds_toArray, List.set_cons_zero, List.set_cons_succ])
            (refine script_call 25 ?_ rfl ?_ ?_ ?_; rotate_left; (first | rfl | (go_simp; done)); (go_simp; with_reducible rfl))
            refine (HO.out w10 Kd.C0).mono ?_
            rintro e w11 ⟨rfl, C11, G11⟩
            have K11 := Kd.clk0 C11 G11
            have B11 := Bd.keep G11 (by have := HQ.out; clear fI; omega)
            refine ⟨_, rfl, ⟨B11, K11.B, K11.S⟩, ?_⟩
            simp only [Act.put, List.setIfInBounds_toArray, List.set_cons_zero, List.set_cons_succ]
            refine script_nil ?_
            have zd := B11.cellOf 19 HD2.out
            clear Kd Bd C11 G11 B6 K6
            have HE : Hid (KP w w11 gm gp g0 g1 w2.heap.size most { p with root0 := s.on, c0 := ownV p.c0 s.on s.a }) := Lib.hid ⟨K11, ⟨own_wf HKp.out.2.1.w0 HC.out.2.a, HKp.out.2.1.w1⟩, HKp.out.2.2.1, HKp.out.2.2.2⟩
            go_wp2_with fail
            clear zd K11 B11 HKp HO
            go_wp2_with fail
            clear fI
            go_roundw
            case rel => exact ⟨I, { p with root0 := s.on, c0 := ownV p.c0 s.on s.a }, by first | rfl | (rw [HI.out.1]; rfl), by have := HI.out; omega, by have := HI.out; omega, HE⟩
            case measure => have := HI.out; simp [intOf]; omega
        by_cases hd1 : s.d = 1
        · as_aux_lemma =>
            have hd := hd1
            have HD2 : Hid ((s7c s)[19]? = some (.int .i64 1)) := Lib.hid (by show some (Value.int .i64 s.d) = _; rw [hd])
            obtain rfl : dd = true := by rw [HDD.out, hd]; rfl
            have HP := Lib.hid (fun W P => proot_any p gp g0 g1 s.d s.on s.a W P HKp.out.2.1 HC.out.2.a)
            have hV : rootV p s.d s.on s.a = { p with root1 := s.on, c1 := ownV p.c1 s.on s.a } := by unfold rootV; rw [if_neg (by clear fI; omega), if_pos hd]
            rw [hV] at HP
            have HO := Lib.hid (fun W C => own_any p.c1 (w2.heap.size + 1) s.on s.a W C HKp.out.2.1.w1 HC.out.2.a)
            have zd := B5.cellOf (v := .int .i64 s.d) 19 rfl
            have zon := B5.cellOf (v := .bool s.on) 20 rfl
            have za := B5.cellOf (v := .int .i64 s.a) 17 rfl
            clear hV hd hd1
            go_wp2_with fail
            refine (HP.out w5 HKp.out.1.P).mono ?_
            rintro e w6 ⟨rfl, P6, F6⟩
            have K6 := HKp.out.1.pair P6 F6
            have B6 := step_pair B5 HQ.out HKp.out.1.pb F6
            clear zd zon za B5 P6 F6 HP
            go_wp2_with fail
            refine wp_region_script [(0, true), (1, true), (2, true), (3, true), (4, true), (5, true), (6, true), (7, true), (8, true), (9, false)] (fun w' => Blk w' gq 37 (s7c s) ∧ Blk w' (w2.heap.size + 3) 51 #[.slice (some ⟨w2.heap.size + 2, 0, none⟩) 2 2] ∧ Blk w' (w2.heap.size + 2) 49 #[.pointer (some ⟨w2.heap.size, 0, none⟩), .pointer (some ⟨w2.heap.size + 1, 0, none⟩)]) (by kernel_rfl) (by kernel_rfl) (fun _ _ _ _ _ h => h) ⟨B6.drew, K6.B.drew, K6.S.drew⟩ ?_
            have Kd := K6.kept (show Below w6.heap.size w6 w6.drew from (Below.refl _ _).drew)
            have Bd := B6.drew
            generalize w6.drew = w10 at *
            iterate 9 (refine script_take (v := ?_) rfl ?_ ?_ ?_; rotate_left; (first | rfl | (go_simp; done)); (rintro w' ⟨u1, u2, u3⟩; have q1 := u2.cellOf (v := .slice (some ⟨w2.heap.size + 2, 0, none⟩) 2 2) 0 rfl; have q2 := u3.cellOf (v := .pointer (some ⟨w2.heap.size, 0, none⟩)) 0 rfl; have q3 := u3.cellOf (v := .pointer (some ⟨w2.heap.size + 1, 0, none⟩)) 1 rfl; have c19 := u1.cellOf 19 HD2.out; have c20 := u1.cellOf 20 (show (s7c s)[20]? = some (.bool s.on) from rfl); have c17 := u1.cellOf 17 (show (s7c s)[17]? = some (.int .i64 s.a) from rfl); go_simp; with_reducible rfl); simp only [Act.put, List.setIfInBounds_toArray, List.set_cons_zero, List.set_cons_succ])
            (refine script_call 25 ?_ rfl ?_ ?_ ?_; rotate_left; (first | rfl | (go_simp; done)); (go_simp; with_reducible rfl))
            refine (HO.out w10 Kd.C1).mono ?_
            rintro e w11 ⟨rfl, C11, G11⟩
            have K11 := Kd.clk1 C11 G11
            have B11 := Bd.keep G11 (by have := HQ.out; clear fI; omega)
            refine ⟨_, rfl, ⟨B11, K11.B, K11.S⟩, ?_⟩
            simp only [Act.put, List.setIfInBounds_toArray, List.set_cons_zero, List.set_cons_succ]
            refine script_nil ?_
            have zd := B11.cellOf 19 HD2.out
            clear Kd Bd C11 G11 B6 K6
            have zon := B11.cellOf (v := .bool s.on) 20 rfl
            have y4 := K11.R.cellOf (v := .bool p.root1) 0 rfl
            have fz := K11.R.frozen
            have K12 := K11.setR s.on
            have HE : Hid (KP w (w11.setCell ⟨w2.heap.size + 4, 0, none⟩ (.bool s.on)) gm gp g0 g1 w2.heap.size most { p with root1 := s.on, c1 := ownV p.c1 s.on s.a }) := Lib.hid ⟨K12, ⟨HKp.out.2.1.w0, own_wf HKp.out.2.1.w1 HC.out.2.a⟩, HKp.out.2.2.1, HKp.out.2.2.2⟩
            clear K12 K11 B11 HKp HO
            go_wp2_with fail
            clear fI
            go_roundw
            case rel => exact ⟨I, { p with root1 := s.on, c1 := ownV p.c1 s.on s.a }, by first | rfl | (rw [HI.out.1]; rfl), by have := HI.out; omega, by have := HI.out; omega, HE⟩
            case measure => have := HI.out; simp [intOf]; omega
        have hno : ¬ (0 ≤ s.d ∧ s.d < 2) := by clear fI; omega
        obtain rfl : dd = false := by rw [HDD.out]; exact decide_eq_false hno
        have HP := Lib.hid (fun W P => proot_any p gp g0 g1 s.d s.on s.a W P HKp.out.2.1 HC.out.2.a)
        have hV : rootV p s.d s.on s.a = p := by unfold rootV; rw [if_neg hd, if_neg hd1]
        rw [hV] at HP
        have zd := B5.cellOf (v := .int .i64 s.d) 19 rfl
        have zon := B5.cellOf (v := .bool s.on) 20 rfl
        have za := B5.cellOf (v := .int .i64 s.a) 17 rfl
        clear hV hno hd hd1
        go_wp2_with fail
        refine (HP.out w5 HKp.out.1.P).mono ?_
        rintro e w6 ⟨rfl, P6, F6⟩
        have HE : Hid (KP w w6 gm gp g0 g1 w2.heap.size most p) := Lib.hid ⟨HKp.out.1.pair P6 F6, HKp.out.2⟩
        clear zd zon za B5 P6 F6 HP HKp
        go_wp2_with fail
        clear fI
        go_roundw
        case rel => exact ⟨I, p, by first | rfl | (rw [HI.out.1]; rfl), by have := HI.out; omega, by have := HI.out; omega, HE⟩
        case measure => have := HI.out; simp [intOf]; omega
    · as_aux_lemma =>
        rcases pick_range (p := p) (now := s.a) HKp.out.2.2.2 with hd | hd | hd
        · as_aux_lemma =>
            have hV : patV p s.a = ((0, false), lasts p (-1)) := by unfold patV; rw [if_pos (by rw [hd]; decide), hd]
            have HP := Lib.hid (fun W P => pat_any p gp g0 g1 s.a W P HKp.out.2.1 HC.out.2.a HKp.out.2.2.2)
            rw [hV] at HP
            have hpk : pickC p.c0 p.c1 p.last s.a most = -1 := by rw [← HKp.out.2.2.1]; exact hd
            have HPk := Lib.hid (fun W K => pick_run2 w W gm gp g0 g1 w2.heap.size most s.a (lasts p (-1)) p.c0 p.c1 p.root1 p.last K HKp.out.2.1.w0 HKp.out.2.1.w1 HC.out.2.a)
            rw [hpk] at HPk
            have za := B5.cellOf (v := .int .i64 s.a) 17 rfl
            clear hV hpk hd
            go_wp2_with fail
            refine (HP.out w5 HKp.out.1.P).mono ?_
            rintro e w6 ⟨rfl, P6, F6⟩
            have K6 := HKp.out.1.pair P6 F6
            have B6 := step_pair B5 HQ.out HKp.out.1.pb F6
            clear za B5 P6 F6 HP
            have za := B6.cellOf (v := .int .i64 s.a) 17 rfl
            go_wp2_with fail
            refine (HPk.out w6 K6).mono ?_
            rintro e w7 ⟨rfl, K7, G7⟩
            have B7 := B6.keep G7 (by have := HQ.out; clear fI; omega)
            clear za K6 B6 G7 HPk
            have HE : Hid (KP w w7 gm gp g0 g1 w2.heap.size most (lasts p (-1))) := Lib.hid ⟨K7, ⟨HKp.out.2.1.w0, HKp.out.2.1.w1⟩, HKp.out.2.2.1, .inl rfl⟩
            clear K7 B7 HKp
            go_wp2_with fail
            clear fI
            go_roundw
            case rel => exact ⟨I, lasts p (-1), by first | rfl | (rw [HI.out.1]; rfl), by have := HI.out; omega, by have := HI.out; omega, HE⟩
            case measure => have := HI.out; simp [intOf]; omega
        · as_aux_lemma =>
            obtain ⟨q, hq⟩ : ∃ q, q = lendV (lasts p 0) s.a := ⟨_, rfl⟩
            obtain ⟨hs0, hs1, hs2, hs3, hs4⟩ := lend_same (lasts p 0) s.a
            rw [← hq] at hs0 hs1 hs2 hs3 hs4
            have hs1 : lendC p.c0 p.c1 p.root1 s.a most = q.c1 := by rw [hs1, ← HKp.out.2.2.1]; rfl
            have hs0 : q.c0 = p.c0 := hs0
            have hs2 : q.root1 = p.root1 := hs2
            have hs3 : q.last = 0 := hs3
            have hs4 : q.most = p.most := hs4
            obtain ⟨⟨T, o⟩, hT⟩ : ∃ y, atV q.c0 s.a = y := ⟨_, rfl⟩
            have hwq : q.Wf := by rw [hq]; exact lend_wf ⟨HKp.out.2.1.w0, HKp.out.2.1.w1⟩ HC.out.2.a
            have hV : patV p s.a = ((T, o), q) := by unfold patV; rw [if_neg (by rw [hd]; decide), if_pos hd, ← hq, hT]
            have HP := Lib.hid (fun W P => pat_any p gp g0 g1 s.a W P HKp.out.2.1 HC.out.2.a HKp.out.2.2.2)
            rw [hV] at HP
            have hpk : pickC p.c0 p.c1 p.last s.a most = 0 := by rw [← HKp.out.2.2.1]; exact hd
            have HPk := Lib.hid (fun W K => pick_run2 w W gm gp g0 g1 w2.heap.size most s.a q p.c0 p.c1 p.root1 p.last K HKp.out.2.1.w0 HKp.out.2.1.w1 HC.out.2.a)
            rw [hpk] at HPk
            have HLd := Lib.hid (fun W K => lend_run w W gm gp g0 g1 w2.heap.size most s.a q p.c0 p.c1 p.root1 0 K HKp.out.2.1.w0 HC.out.2.a)
            rw [hs1] at HLd
            have HAt := Lib.hid (fun W C => at_run (w := W) (g := w2.heap.size) (c := q.c0) hT hwq.w0 HC.out.2.a C)
            have HQs := Lib.hid (And.intro hs0 (And.intro hs2 (And.intro hs3 (And.intro hs4 hwq))))
            have hTT : (T != T) = false := by simp
            have hoo : (o != o) = false := by simp
            have za := B5.cellOf (v := .int .i64 s.a) 17 rfl
            clear hV hpk hd hq hs0 hs1 hs2 hs3 hs4 hT hwq
            go_wp2_with fail
            refine (HP.out w5 HKp.out.1.P).mono ?_
            rintro e w6 ⟨rfl, P6, F6⟩
            have K6 := HKp.out.1.pair P6 F6
            have B6 := step_pair B5 HQ.out HKp.out.1.pb F6
            clear za B5 P6 F6 HP
            have za := B6.cellOf (v := .int .i64 s.a) 17 rfl
            go_wp2_with fail
            refine (HPk.out w6 K6).mono ?_
            rintro e w7 ⟨rfl, K7, G7⟩
            have B7 := B6.keep G7 (by have := HQ.out; clear fI; omega)
            clear za K6 B6 G7 HPk
            have za := B7.cellOf (v := .int .i64 s.a) 17 rfl
            go_wp2_with fail
            refine (HLd.out w7 K7).mono ?_
            rintro e w8 ⟨rfl, K8, G8⟩
            have B8 := B7.keep G8 (by have := HQ.out; clear fI; omega)
            clear za K7 B7 G8 HLd
            go_wp2_with fail
            refine wp_region_script [(0, true), (1, true), (2, true), (3, true), (4, true), (5, true), (6, false), (7, true), (8, true), (9, true), (10, true), (11, true)] (fun w' => Blk w' gq 37 (s7c s) ∧ Blk w' (w2.heap.size + 3) 51 #[.slice (some ⟨w2.heap.size + 2, 0, none⟩) 2 2] ∧ Blk w' (w2.heap.size + 2) 49 #[.pointer (some ⟨w2.heap.size, 0, none⟩), .pointer (some ⟨w2.heap.size + 1, 0, none⟩)]) (by kernel_rfl) (by kernel_rfl) (fun _ _ _ _ _ h => h) ⟨B8.drew, K8.B.drew, K8.S.drew⟩ ?_
            have Kd := K8.kept (show Below w8.heap.size w8 w8.drew from (Below.refl _ _).drew)
            have Bd := B8.drew
            generalize w8.drew = w10 at *
            iterate 6 (refine script_take (v := ?_) rfl ?_ ?_ ?_; rotate_left; (first | rfl | (go_simp; done)); (rintro w' ⟨u1, u2, u3⟩; have q1 := u2.cellOf (v := .slice (some ⟨w2.heap.size + 2, 0, none⟩) 2 2) 0 rfl; have q2 := u3.cellOf (v := .pointer (some ⟨w2.heap.size, 0, none⟩)) 0 rfl; have q3 := u3.cellOf (v := .pointer (some ⟨w2.heap.size + 1, 0, none⟩)) 1 rfl; have c17 := u1.cellOf 17 (show (s7c s)[17]? = some (.int .i64 s.a) from rfl); go_simp; with_reducible rfl); simp only [Act.put, List.setIfInBounds_toArray, List.set_cons_zero, List.set_cons_succ])
            (refine script_call 20 ?_ rfl ?_ ?_ ?_; rotate_left; (first | rfl | (go_simp; done)); (go_simp; with_reducible rfl))
            refine (HAt.out w10 (by rw [HQs.out.1]; exact Kd.C0)).mono ?_
            rintro e w11 ⟨rfl, _, L11⟩
            have K11 := Kd.kept L11
            refine ⟨_, rfl, ⟨Bd.kept L11, K11.B, K11.S⟩, ?_⟩
            simp only [Act.put, List.setIfInBounds_toArray, List.set_cons_zero, List.set_cons_succ]
            iterate 5 (refine script_take (v := ?_) rfl ?_ ?_ ?_; rotate_left; (first | rfl | (go_simp; done)); (intro w' _; go_simp; with_reducible rfl); simp only [Act.put, List.setIfInBounds_toArray, List.set_cons_zero, List.set_cons_succ])
            refine script_nil ?_
            have HE : Hid (KP w w11 gm gp g0 g1 w2.heap.size most q) := Lib.hid ⟨by rw [HQs.out.1, HQs.out.2.1, HQs.out.2.2.1]; exact K11, HQs.out.2.2.2.2, HQs.out.2.2.2.1.trans HKp.out.2.2.1, by rw [HQs.out.2.2.1]; simp⟩
            clear Kd Bd K8 B8 L11 K11 HAt HKp
            go_wp2_with fail
            clear fI
            go_roundw
            case rel => exact ⟨I, q, by first | rfl | (rw [HI.out.1]; rfl), by have := HI.out; omega, by have := HI.out; omega, HE⟩
            case measure => have := HI.out; simp [intOf]; omega
        · as_aux_lemma =>
            obtain ⟨q, hq⟩ : ∃ q, q = lendV (lasts p 1) s.a := ⟨_, rfl⟩
            obtain ⟨hs0, hs1, hs2, hs3, hs4⟩ := lend_same (lasts p 1) s.a
            rw [← hq] at hs0 hs1 hs2 hs3 hs4
            have hs1 : lendC p.c0 p.c1 p.root1 s.a most = q.c1 := by rw [hs1, ← HKp.out.2.2.1]; rfl
            have hs0 : q.c0 = p.c0 := hs0
            have hs2 : q.root1 = p.root1 := hs2
            have hs3 : q.last = 1 := hs3
            have hs4 : q.most = p.most := hs4
            obtain ⟨⟨T, o⟩, hT⟩ : ∃ y, atV q.c1 s.a = y := ⟨_, rfl⟩
            have hwq : q.Wf := by rw [hq]; exact lend_wf ⟨HKp.out.2.1.w0, HKp.out.2.1.w1⟩ HC.out.2.a
            have hV : patV p s.a = ((T, o), q) := by unfold patV; rw [if_neg (by rw [hd]; decide), if_neg (by rw [hd]; decide), ← hq, hT]
            have HP := Lib.hid (fun W P => pat_any p gp g0 g1 s.a W P HKp.out.2.1 HC.out.2.a HKp.out.2.2.2)
            rw [hV] at HP
            have hpk : pickC p.c0 p.c1 p.last s.a most = 1 := by rw [← HKp.out.2.2.1]; exact hd
            have HPk := Lib.hid (fun W K => pick_run2 w W gm gp g0 g1 w2.heap.size most s.a q p.c0 p.c1 p.root1 p.last K HKp.out.2.1.w0 HKp.out.2.1.w1 HC.out.2.a)
            rw [hpk] at HPk
            have HLd := Lib.hid (fun W K => lend_run w W gm gp g0 g1 w2.heap.size most s.a q p.c0 p.c1 p.root1 1 K HKp.out.2.1.w0 HC.out.2.a)
            rw [hs1] at HLd
            have HAt := Lib.hid (fun W C => at_run (w := W) (g := (w2.heap.size + 1)) (c := q.c1) hT hwq.w1 HC.out.2.a C)
            have HQs := Lib.hid (And.intro hs0 (And.intro hs2 (And.intro hs3 (And.intro hs4 hwq))))
            have hTT : (T != T) = false := by simp
            have hoo : (o != o) = false := by simp
            have za := B5.cellOf (v := .int .i64 s.a) 17 rfl
            clear hV hpk hd hq hs0 hs1 hs2 hs3 hs4 hT hwq
            go_wp2_with fail
            refine (HP.out w5 HKp.out.1.P).mono ?_
            rintro e w6 ⟨rfl, P6, F6⟩
            have K6 := HKp.out.1.pair P6 F6
            have B6 := step_pair B5 HQ.out HKp.out.1.pb F6
            clear za B5 P6 F6 HP
            have za := B6.cellOf (v := .int .i64 s.a) 17 rfl
            go_wp2_with fail
            refine (HPk.out w6 K6).mono ?_
            rintro e w7 ⟨rfl, K7, G7⟩
            have B7 := B6.keep G7 (by have := HQ.out; clear fI; omega)
            clear za K6 B6 G7 HPk
            have za := B7.cellOf (v := .int .i64 s.a) 17 rfl
            go_wp2_with fail
            refine (HLd.out w7 K7).mono ?_
            rintro e w8 ⟨rfl, K8, G8⟩
            have B8 := B7.keep G8 (by have := HQ.out; clear fI; omega)
            clear za K7 B7 G8 HLd
            go_wp2_with fail
            refine wp_region_script [(0, true), (1, true), (2, true), (3, true), (4, true), (5, true), (6, false), (7, true), (8, true), (9, true), (10, true), (11, true)] (fun w' => Blk w' gq 37 (s7c s) ∧ Blk w' (w2.heap.size + 3) 51 #[.slice (some ⟨w2.heap.size + 2, 0, none⟩) 2 2] ∧ Blk w' (w2.heap.size + 2) 49 #[.pointer (some ⟨w2.heap.size, 0, none⟩), .pointer (some ⟨w2.heap.size + 1, 0, none⟩)]) (by kernel_rfl) (by kernel_rfl) (fun _ _ _ _ _ h => h) ⟨B8.drew, K8.B.drew, K8.S.drew⟩ ?_
            have Kd := K8.kept (show Below w8.heap.size w8 w8.drew from (Below.refl _ _).drew)
            have Bd := B8.drew
            generalize w8.drew = w10 at *
            iterate 6 (refine script_take (v := ?_) rfl ?_ ?_ ?_; rotate_left; (first | rfl | (go_simp; done)); (rintro w' ⟨u1, u2, u3⟩; have q1 := u2.cellOf (v := .slice (some ⟨w2.heap.size + 2, 0, none⟩) 2 2) 0 rfl; have q2 := u3.cellOf (v := .pointer (some ⟨w2.heap.size, 0, none⟩)) 0 rfl; have q3 := u3.cellOf (v := .pointer (some ⟨w2.heap.size + 1, 0, none⟩)) 1 rfl; have c17 := u1.cellOf 17 (show (s7c s)[17]? = some (.int .i64 s.a) from rfl); go_simp; with_reducible rfl); simp only [Act.put, List.setIfInBounds_toArray, List.set_cons_zero, List.set_cons_succ])
            (refine script_call 20 ?_ rfl ?_ ?_ ?_; rotate_left; (first | rfl | (go_simp; done)); (go_simp; with_reducible rfl))
            refine (HAt.out w10 Kd.C1).mono ?_
            rintro e w11 ⟨rfl, _, L11⟩
            have K11 := Kd.kept L11
            refine ⟨_, rfl, ⟨Bd.kept L11, K11.B, K11.S⟩, ?_⟩
            simp only [Act.put, List.setIfInBounds_toArray, List.set_cons_zero, List.set_cons_succ]
            iterate 5 (refine script_take (v := ?_) rfl ?_ ?_ ?_; rotate_left; (first | rfl | (go_simp; done)); (intro w' _; go_simp; with_reducible rfl); simp only [Act.put, List.setIfInBounds_toArray, List.set_cons_zero, List.set_cons_succ])
            refine script_nil ?_
            have HE : Hid (KP w w11 gm gp g0 g1 w2.heap.size most q) := Lib.hid ⟨by rw [HQs.out.1, HQs.out.2.1, HQs.out.2.2.1]; exact K11, HQs.out.2.2.2.2, HQs.out.2.2.2.1.trans HKp.out.2.2.1, by rw [HQs.out.2.2.1]; simp⟩
            clear Kd Bd K8 B8 L11 K11 HAt HKp
            go_wp2_with fail
            clear fI
            go_roundw
            case rel => exact ⟨I, q, by first | rfl | (rw [HI.out.1]; rfl), by have := HI.out; omega, by have := HI.out; omega, HE⟩
            case measure => have := HI.out; simp [intOf]; omega
    · as_aux_lemma =>
        by_cases hd : s.d = 0
        · as_aux_lemma =>
            have HD2 : Hid ((s7c s)[19]? = some (.int .i64 0)) := Lib.hid (by show some (Value.int .i64 s.d) = _; rw [hd])
            obtain rfl : dd = true := by rw [HDD.out, hd]; rfl
            obtain ⟨q, hq⟩ : ∃ q, q = lendV p s.a := ⟨_, rfl⟩
            obtain ⟨hs0, hs1, hs2, hs3, hs4⟩ := lend_same p s.a
            rw [← hq] at hs0 hs1 hs2 hs3 hs4
            have hs1 : lendC p.c0 p.c1 p.root1 s.a most = q.c1 := by rw [hs1, HKp.out.2.2.1]
            have hwq : q.Wf := by rw [hq]; exact lend_wf HKp.out.2.1 HC.out.2.a
            obtain ⟨⟨m4, o4⟩, hT⟩ : ∃ y, tellV q.c0 s.nn s.nn s.nn s.a = y := ⟨_, rfl⟩
            have hV : ptellV p s.d s.nn s.nn s.nn s.a = ((m4, o4), q) := by unfold ptellV; rw [if_pos hd, ← hq, hT]
            have HP := Lib.hid (fun W P => ptell_any p gp g0 g1 s.d s.nn s.nn s.nn s.a W P HKp.out.2.1 HC.out.2.a)
            rw [hV] at HP
            have HLd := Lib.hid (fun W K => lend_run w W gm gp g0 g1 w2.heap.size most s.a q p.c0 p.c1 p.root1 p.last K HKp.out.2.1.w0 HC.out.2.a)
            rw [hs1] at HLd
            have HT := Lib.hid (fun W C => tell_run (w := W) (g := w2.heap.size) (c := q.c0) hT hwq.w0 HC.out.2.a C)
            have HQs := Lib.hid (And.intro hs0 (And.intro hs2 (And.intro hs3 (And.intro hs4 hwq))))
            have zd := B5.cellOf (v := .int .i64 s.d) 19 rfl
            have znn := B5.cellOf (v := .int .i64 s.nn) 21 rfl
            have za := B5.cellOf (v := .int .i64 s.a) 17 rfl
            clear hV hd hq hs0 hs1 hs2 hs3 hs4 hT hwq
            go_wp2_with fail
            refine (HP.out w5 HKp.out.1.P).mono ?_
            rintro e w6 ⟨rfl, P6, F6⟩
            have K6 := HKp.out.1.pair P6 F6
            have B6 := step_pair B5 HQ.out HKp.out.1.pb F6
            have M7 := Blk.new w6 35 (mcells m4 none 0 0)
            have K7 := K6.kept ((Below.refl w6.heap.size w6).alloc (Nat.le_refl _) (.cells (mcells m4 none 0 0) 35))
            have B7 := B6.alloc (.cells (mcells m4 none 0 0) 35)
            have HG : Hid (w2.heap.size + 5 < w6.heap.size) := Lib.hid K6.L.lt
            clear zd znn za B5 P6 F6 HP K6 B6
            go_upto_if 268 with (first | (refine wpList_store_new rfl 35 (.tmp 27) (.tmp 265) rfl rfl rfl rfl rfl (by kernel_rfl) (by rw [← Array.all_toList]; rfl) ?_; generalize w6.alloc (.cells (mcells m4 none 0 0) 35) = w7 at *) | fail)
            obtain ⟨g27, hg27⟩ : ∃ g27, g27 = w6.heap.size := ⟨_, rfl⟩
            rw [← hg27] at M7 HG
            simp only [← hg27]
            clear hg27
            have za := B7.cellOf (v := .int .i64 s.a) 17 rfl
            go_wp2_with fail
            refine (HLd.out w7 K7).mono ?_
            rintro e w8 ⟨rfl, K8, G8⟩
            have B8 := B7.keep G8 (by have := HQ.out; clear fI; omega)
            have M8 := M7.keep G8 (by have := HG.out; clear fI; omega)
            clear za K7 B7 M7 G8 HLd
            go_upto_region 58 with fail
            go_cut [29, 30] from 274 to 290 (fun v29 v30 wx => ∃ g29 : Nat, v29 = .pointer (some ⟨g29, 0, none⟩) ∧ v30 = .bool o4 ∧ Hid (KK w wx gm gp g0 g1 w2.heap.size most q p.c0 q.c1 p.root1 p.last ∧ Blk wx gq 37 (s7c s) ∧ Blk wx g27 35 (mcells m4 none 0 0) ∧ Blk wx g29 35 (mcells m4 none 0 0)))
            case first =>
              go_wp2_with fail
              refine wp_region_script2 [(0, true), (1, true), (2, true), (3, true), (4, true), (5, true), (6, true), (7, true), (8, true), (9, true), (10, true), (11, true), (12, true)] 13 17 [(14, true), (15, true), (16, true), (17, false), (18, false), (19, true)] [(13, false), (14, true), (15, true), (16, true), (18, false), (19, true)] (fun w' => Blk w' gq 37 (s7c s) ∧ Blk w' (w2.heap.size + 3) 51 #[.slice (some ⟨w2.heap.size + 2, 0, none⟩) 2 2] ∧ Blk w' (w2.heap.size + 2) 49 #[.pointer (some ⟨w2.heap.size, 0, none⟩), .pointer (some ⟨w2.heap.size + 1, 0, none⟩)]) (by kernel_rfl) (by kernel_rfl) (fun _ _ _ _ _ h => h) ⟨B8.drew, K8.B.drew, K8.S.drew⟩ ?_
              have Kd := K8.kept (show Below w8.heap.size w8 w8.drew from (Below.refl _ _).drew)
              have Bd := B8.drew
              have Md := M8.drew
              clear K8 B8 M8
              generalize w8.drew = w10 at *
              iterate 13 (refine script_take (v := ?_) rfl ?_ ?_ ?_; rotate_left; (first | rfl | (go_simp; done)); (rintro w' ⟨u1, u2, u3⟩; have q1 := u2.cellOf (v := .slice (some ⟨w2.heap.size + 2, 0, none⟩) 2 2) 0 rfl; have q2 := u3.cellOf (v := .pointer (some ⟨w2.heap.size, 0, none⟩)) 0 rfl; have q3 := u3.cellOf (v := .pointer (some ⟨w2.heap.size + 1, 0, none⟩)) 1 rfl; have c19 := u1.cellOf 19 HD2.out; have c21 := u1.cellOf 21 (show (s7c s)[21]? = some (.int .i64 s.nn) from rfl); have c17 := u1.cellOf 17 (show (s7c s)[17]? = some (.int .i64 s.a) from rfl); go_simp; with_reducible rfl); simp only [Act.put, List.setIfInBounds_toArray, List.set_cons_zero, List.set_cons_succ])
              refine script_nil ?_
              refine ⟨?_, ?_⟩
              · (refine script_call 26 ?_ rfl ?_ ?_ ?_; rotate_left; (first | rfl | (go_simp; done)); (go_simp; with_reducible rfl))
                refine (HT.out w10 (by rw [HQs.out.1]; exact Kd.C0)).mono ?_
                rintro e w11 ⟨rfl, _, L11⟩
                have K11 := Kd.kept L11
                have B11 := Bd.kept L11
                have M11 := Md.kept L11
                refine ⟨_, rfl, ⟨B11, K11.B, K11.S⟩, ?_⟩
                simp only [Act.put, List.setIfInBounds_toArray, List.set_cons_zero, List.set_cons_succ]
                iterate 3 (refine script_take (v := ?_) rfl ?_ ?_ ?_; rotate_left; (first | rfl | (go_simp; done)); (intro w' _; go_simp; with_reducible rfl); simp only [Act.put, List.setIfInBounds_toArray, List.set_cons_zero, List.set_cons_succ])
                have K12 := K11.kept ((Below.refl w11.heap.size w11).alloc (Nat.le_refl _) (.cells (mcells zeroM none 0 0) 35))
                have B12 := B11.alloc (.cells (mcells zeroM none 0 0) 35)
                (refine script_run (v := ?_) (w' := ?_) rfl ?_ ?_ ?_ ?_; rotate_left 2; (first | rfl | (go_simp; done)); (go_simp; refine ⟨?_, ?_⟩ <;> with_reducible rfl); (exact ⟨B12, K12.B, K12.S⟩); simp only [Act.put, List.setIfInBounds_toArray, List.set_cons_zero, List.set_cons_succ])
                have K13 := K11.kept ((Below.refl w11.heap.size w11).alloc (Nat.le_refl _) (.cells (mcells m4 none 0 0) 35))
                have B13 := B11.alloc (.cells (mcells m4 none 0 0) 35)
                have M13 := M11.alloc (.cells (mcells m4 none 0 0) 35)
                have N13 := Blk.new w11 35 (mcells m4 none 0 0)
                refine script_store_new (cs := mcells m4 none 0 0) rfl rfl 35 (.tmp 29) (.tmp 289) rfl rfl rfl rfl rfl (by kernel_rfl) (by rw [← Array.all_toList]; rfl) ⟨⟨B13, K13.B, K13.S⟩, ?_⟩
                simp only [Act.put, List.setIfInBounds_toArray, List.set_cons_zero, List.set_cons_succ]
                (refine script_take (v := ?_) rfl ?_ ?_ ?_; rotate_left; (first | rfl | (go_simp; done)); (intro w' _; go_simp; with_reducible rfl); simp only [Act.put, List.setIfInBounds_toArray, List.set_cons_zero, List.set_cons_succ])
                refine script_nil ?_
                have HX : Hid _ := Lib.hid (And.intro K13 (And.intro B13 (And.intro M13 N13)))
                clear Kd Bd Md K11 B11 M11 L11 K12 B12 K13 B13 M13 N13
                go_wp2_with fail
                go_meet
                exact ⟨_, rfl, rfl, HX⟩
              · have K12 := Kd.kept ((Below.refl w10.heap.size w10).alloc (Nat.le_refl _) (.cells (mcells zeroM none 0 0) 35))
                have B12 := Bd.alloc (.cells (mcells zeroM none 0 0) 35)
                have M12 := Md.alloc (.cells (mcells zeroM none 0 0) 35)
                have N12 := Blk.new w10 35 (mcells zeroM none 0 0)
                have HG2 : g27 < w10.heap.size := Md.lt
                have HG3 : Hid (w2.heap.size + 5 < w10.heap.size ∧ gq < w10.heap.size) := Lib.hid ⟨Kd.L.lt, Bd.lt⟩
                (refine script_run (v := ?_) (w' := ?_) rfl ?_ ?_ ?_ ?_; rotate_left 2; (first | rfl | (go_simp; done)); (go_simp; refine ⟨?_, ?_⟩ <;> with_reducible rfl); (exact ⟨B12, K12.B, K12.S⟩); simp only [Act.put, List.setIfInBounds_toArray, List.set_cons_zero, List.set_cons_succ])
                (refine script_call 26 ?_ rfl ?_ ?_ ?_; rotate_left; (first | rfl | (go_simp; done)); (go_simp; with_reducible rfl))
                refine (HT.out _ (by rw [HQs.out.1]; exact K12.C0)).mono ?_
                rintro e w11 ⟨rfl, _, L11⟩
                have K13 := K12.kept L11
                have B13 := B12.kept L11
                have M13 := M12.kept L11
                have N13 := N12.kept L11
                refine ⟨_, rfl, ⟨B13, K13.B, K13.S⟩, ?_⟩
                simp only [Act.put, List.setIfInBounds_toArray, List.set_cons_zero, List.set_cons_succ]
                iterate 3 (refine script_take (v := ?_) rfl ?_ ?_ ?_; rotate_left; (first | rfl | (go_simp; done)); (intro w' _; go_simp; with_reducible rfl); simp only [Act.put, List.setIfInBounds_toArray, List.set_cons_zero, List.set_cons_succ])
                refine script_store_blk rfl rfl 35 (.tmp 29) (.tmp 289) rfl (off := 0) rfl N13 rfl (show 0 + 16 ≤ 16 by omega) (by kernel_rfl) (by rw [← Array.all_toList]; rfl) ?_
                intro w14 R14 z14 g14
                rw [putAll_whole (show (mcells zeroM none 0 0).size = (mcells m4 none 0 0).size from rfl)] at R14
                have K14 : KK w w14 gm gp g0 g1 w2.heap.size most q p.c0 q.c1 p.root1 p.last := K13.fresh g14 (by have := HG3.out; clear fI; omega) K13.below.size
                have B14 := B13.keep g14 (by have := HG3.out; clear fI; omega)
                have M14 := M13.keep g14 (by clear fI; omega)
                refine ⟨⟨B14, K14.B, K14.S⟩, ?_⟩
                simp only [Act.put, List.setIfInBounds_toArray, List.set_cons_zero, List.set_cons_succ]
                (refine script_take (v := ?_) rfl ?_ ?_ ?_; rotate_left; (first | rfl | (go_simp; done)); (intro w' _; go_simp; with_reducible rfl); simp only [Act.put, List.setIfInBounds_toArray, List.set_cons_zero, List.set_cons_succ])
                refine script_nil ?_
                have HX : Hid _ := Lib.hid (And.intro K14 (And.intro B14 (And.intro M14 R14)))
                clear Kd Bd Md K12 B12 M12 N12 K13 B13 M13 N13 L11 K14 B14 M14 R14 z14 g14
                go_wp2_with fail
                go_meet
                exact ⟨_, rfl, rfl, HX⟩
            case rest =>
              obtain ⟨g29, rfl, rfl, hX⟩ := hcut
              obtain ⟨K15, B15, M15, N15⟩ := hX.out
              have xk := M15.cellOf (v := .int .i64 m4.kind) 0 rfl
              have yk := N15.cellOf (v := .int .i64 m4.kind) 0 rfl
              have ek : (m4.kind != m4.kind) = false := by simp
              have xd := M15.cellOf (v := .int .i64 m4.domain) 1 rfl
              have yd := N15.cellOf (v := .int .i64 m4.domain) 1 rfl
              have ed : (m4.domain != m4.domain) = false := by simp
              have xs := M15.cellOf (v := .int .i64 m4.seq) 2 rfl
              have ys := N15.cellOf (v := .int .i64 m4.seq) 2 rfl
              have es : (m4.seq != m4.seq) = false := by simp
              have xc := M15.cellOf (v := .int .i64 m4.corr) 5 rfl
              have yc := N15.cellOf (v := .int .i64 m4.corr) 5 rfl
              have ec : (m4.corr != m4.corr) = false := by simp
              have xt := M15.cellOf (v := .int .i64 m4.time) 6 rfl
              have yt := N15.cellOf (v := .int .i64 m4.time) 6 rfl
              have et : (m4.time != m4.time) = false := by simp
              have xr := M15.cellOf (v := .int .i64 m4.rate) 9 rfl
              have yr := N15.cellOf (v := .int .i64 m4.rate) 9 rfl
              have er : (m4.rate != m4.rate) = false := by simp
              have eo : (o4 != o4) = false := by simp
              have HE : Hid (KP w wc gm gp g0 g1 w2.heap.size most q) := Lib.hid ⟨by rw [HQs.out.1, HQs.out.2.1, HQs.out.2.2.1]; exact K15, HQs.out.2.2.2.2, HQs.out.2.2.2.1.trans HKp.out.2.2.1, by rw [HQs.out.2.2.1]; exact HKp.out.2.2.2⟩
              clear hX K15 B15 M15 N15 K8 B8 M8 HT HKp HG HQs
              go_wp2_with fail
              clear fI
              go_roundw
              case rel => exact ⟨I, q, by first | rfl | (rw [HI.out.1]; rfl), by have := HI.out; omega, by have := HI.out; omega, HE⟩
              case measure => have := HI.out; simp [intOf]; omega
        by_cases hd1 : s.d = 1
        · as_aux_lemma =>
            have hd := hd1
            have HD2 : Hid ((s7c s)[19]? = some (.int .i64 1)) := Lib.hid (by show some (Value.int .i64 s.d) = _; rw [hd])
            obtain rfl : dd = true := by rw [HDD.out, hd]; rfl
            obtain ⟨q, hq⟩ : ∃ q, q = lendV p s.a := ⟨_, rfl⟩
            obtain ⟨hs0, hs1, hs2, hs3, hs4⟩ := lend_same p s.a
            rw [← hq] at hs0 hs1 hs2 hs3 hs4
            have hs1 : lendC p.c0 p.c1 p.root1 s.a most = q.c1 := by rw [hs1, HKp.out.2.2.1]
            have hwq : q.Wf := by rw [hq]; exact lend_wf HKp.out.2.1 HC.out.2.a
            obtain ⟨⟨m4, o4⟩, hT⟩ : ∃ y, tellV q.c1 s.nn s.nn s.nn s.a = y := ⟨_, rfl⟩
            have hV : ptellV p s.d s.nn s.nn s.nn s.a = ((m4, o4), q) := by unfold ptellV; rw [if_neg (by clear fI; omega), if_pos hd, ← hq, hT]
            have HP := Lib.hid (fun W P => ptell_any p gp g0 g1 s.d s.nn s.nn s.nn s.a W P HKp.out.2.1 HC.out.2.a)
            rw [hV] at HP
            have HLd := Lib.hid (fun W K => lend_run w W gm gp g0 g1 w2.heap.size most s.a q p.c0 p.c1 p.root1 p.last K HKp.out.2.1.w0 HC.out.2.a)
            rw [hs1] at HLd
            have HT := Lib.hid (fun W C => tell_run (w := W) (g := (w2.heap.size + 1)) (c := q.c1) hT hwq.w1 HC.out.2.a C)
            have HQs := Lib.hid (And.intro hs0 (And.intro hs2 (And.intro hs3 (And.intro hs4 hwq))))
            have zd := B5.cellOf (v := .int .i64 s.d) 19 rfl
            have znn := B5.cellOf (v := .int .i64 s.nn) 21 rfl
            have za := B5.cellOf (v := .int .i64 s.a) 17 rfl
            clear hV hd hq hs0 hs1 hs2 hs3 hs4 hT hwq hd1
            go_wp2_with fail
            refine (HP.out w5 HKp.out.1.P).mono ?_
            rintro e w6 ⟨rfl, P6, F6⟩
            have K6 := HKp.out.1.pair P6 F6
            have B6 := step_pair B5 HQ.out HKp.out.1.pb F6
            have M7 := Blk.new w6 35 (mcells m4 none 0 0)
            have K7 := K6.kept ((Below.refl w6.heap.size w6).alloc (Nat.le_refl _) (.cells (mcells m4 none 0 0) 35))
            have B7 := B6.alloc (.cells (mcells m4 none 0 0) 35)
            have HG : Hid (w2.heap.size + 5 < w6.heap.size) := Lib.hid K6.L.lt
            clear zd znn za B5 P6 F6 HP K6 B6
            go_upto_if 268 with (first | (refine wpList_store_new rfl 35 (.tmp 27) (.tmp 265) rfl rfl rfl rfl rfl (by kernel_rfl) (by rw [← Array.all_toList]; rfl) ?_; generalize w6.alloc (.cells (mcells m4 none 0 0) 35) = w7 at *) | fail)
            obtain ⟨g27, hg27⟩ : ∃ g27, g27 = w6.heap.size := ⟨_, rfl⟩
            rw [← hg27] at M7 HG
            simp only [← hg27]
            clear hg27
            have za := B7.cellOf (v := .int .i64 s.a) 17 rfl
            go_wp2_with fail
            refine (HLd.out w7 K7).mono ?_
            rintro e w8 ⟨rfl, K8, G8⟩
            have B8 := B7.keep G8 (by have := HQ.out; clear fI; omega)
            have M8 := M7.keep G8 (by have := HG.out; clear fI; omega)
            clear za K7 B7 M7 G8 HLd
            go_upto_region 58 with fail
            go_cut [29, 30] from 274 to 290 (fun v29 v30 wx => ∃ g29 : Nat, v29 = .pointer (some ⟨g29, 0, none⟩) ∧ v30 = .bool o4 ∧ Hid (KK w wx gm gp g0 g1 w2.heap.size most q p.c0 q.c1 p.root1 p.last ∧ Blk wx gq 37 (s7c s) ∧ Blk wx g27 35 (mcells m4 none 0 0) ∧ Blk wx g29 35 (mcells m4 none 0 0)))
            case first =>
              go_wp2_with fail
              refine wp_region_script2 [(0, true), (1, true), (2, true), (3, true), (4, true), (5, true), (6, true), (7, true), (8, true), (9, true), (10, true), (11, true), (12, true)] 13 17 [(14, true), (15, true), (16, true), (17, false), (18, false), (19, true)] [(13, false), (14, true), (15, true), (16, true), (18, false), (19, true)] (fun w' => Blk w' gq 37 (s7c s) ∧ Blk w' (w2.heap.size + 3) 51 #[.slice (some ⟨w2.heap.size + 2, 0, none⟩) 2 2] ∧ Blk w' (w2.heap.size + 2) 49 #[.pointer (some ⟨w2.heap.size, 0, none⟩), .pointer (some ⟨w2.heap.size + 1, 0, none⟩)]) (by kernel_rfl) (by kernel_rfl) (fun _ _ _ _ _ h => h) ⟨B8.drew, K8.B.drew, K8.S.drew⟩ ?_
              have Kd := K8.kept (show Below w8.heap.size w8 w8.drew from (Below.refl _ _).drew)
              have Bd := B8.drew
              have Md := M8.drew
              clear K8 B8 M8
              generalize w8.drew = w10 at *
              iterate 13 (refine script_take (v := ?_) rfl ?_ ?_ ?_; rotate_left; (first | rfl | (go_simp; done)); (rintro w' ⟨u1, u2, u3⟩; have q1 := u2.cellOf (v := .slice (some ⟨w2.heap.size + 2, 0, none⟩) 2 2) 0 rfl; have q2 := u3.cellOf (v := .pointer (some ⟨w2.heap.size, 0, none⟩)) 0 rfl; have q3 := u3.cellOf (v := .pointer (some ⟨w2.heap.size + 1, 0, none⟩)) 1 rfl; have c19 := u1.cellOf 19 HD2.out; have c21 := u1.cellOf 21 (show (s7c s)[21]? = some (.int .i64 s.nn) from rfl); have c17 := u1.cellOf 17 (show (s7c s)[17]? = some (.int .i64 s.a) from rfl); go_simp; with_reducible rfl); simp only [Act.put, List.setIfInBounds_toArray, List.set_cons_zero, List.set_cons_succ])
              refine script_nil ?_
              refine ⟨?_, ?_⟩
              · (refine script_call 26 ?_ rfl ?_ ?_ ?_; rotate_left; (first | rfl | (go_simp; done)); (go_simp; with_reducible rfl))
                refine (HT.out w10 Kd.C1).mono ?_
                rintro e w11 ⟨rfl, _, L11⟩
                have K11 := Kd.kept L11
                have B11 := Bd.kept L11
                have M11 := Md.kept L11
                refine ⟨_, rfl, ⟨B11, K11.B, K11.S⟩, ?_⟩
                simp only [Act.put, List.setIfInBounds_toArray, List.set_cons_zero, List.set_cons_succ]
                iterate 3 (refine script_take (v := ?_) rfl ?_ ?_ ?_; rotate_left; (first | rfl | (go_simp; done)); (intro w' _; go_simp; with_reducible rfl); simp only [Act.put, List.setIfInBounds_toArray, List.set_cons_zero, List.set_cons_succ])
                have K12 := K11.kept ((Below.refl w11.heap.size w11).alloc (Nat.le_refl _) (.cells (mcells zeroM none 0 0) 35))
                have B12 := B11.alloc (.cells (mcells zeroM none 0 0) 35)
                (refine script_run (v := ?_) (w' := ?_) rfl ?_ ?_ ?_ ?_; rotate_left 2; (first | rfl | (go_simp; done)); (go_simp; refine ⟨?_, ?_⟩ <;> with_reducible rfl); (exact ⟨B12, K12.B, K12.S⟩); simp only [Act.put, List.setIfInBounds_toArray, List.set_cons_zero, List.set_cons_succ])
                have K13 := K11.kept ((Below.refl w11.heap.size w11).alloc (Nat.le_refl _) (.cells (mcells m4 none 0 0) 35))
                have B13 := B11.alloc (.cells (mcells m4 none 0 0) 35)
                have M13 := M11.alloc (.cells (mcells m4 none 0 0) 35)
                have N13 := Blk.new w11 35 (mcells m4 none 0 0)
                refine script_store_new (cs := mcells m4 none 0 0) rfl rfl 35 (.tmp 29) (.tmp 289) rfl rfl rfl rfl rfl (by kernel_rfl) (by rw [← Array.all_toList]; rfl) ⟨⟨B13, K13.B, K13.S⟩, ?_⟩
                simp only [Act.put, List.setIfInBounds_toArray, List.set_cons_zero, List.set_cons_succ]
                (refine script_take (v := ?_) rfl ?_ ?_ ?_; rotate_left; (first | rfl | (go_simp; done)); (intro w' _; go_simp; with_reducible rfl); simp only [Act.put, List.setIfInBounds_toArray, List.set_cons_zero, List.set_cons_succ])
                refine script_nil ?_
                have HX : Hid _ := Lib.hid (And.intro K13 (And.intro B13 (And.intro M13 N13)))
                clear Kd Bd Md K11 B11 M11 L11 K12 B12 K13 B13 M13 N13
                go_wp2_with fail
                go_meet
                exact ⟨_, rfl, rfl, HX⟩
              · have K12 := Kd.kept ((Below.refl w10.heap.size w10).alloc (Nat.le_refl _) (.cells (mcells zeroM none 0 0) 35))
                have B12 := Bd.alloc (.cells (mcells zeroM none 0 0) 35)
                have M12 := Md.alloc (.cells (mcells zeroM none 0 0) 35)
                have N12 := Blk.new w10 35 (mcells zeroM none 0 0)
                have HG2 : g27 < w10.heap.size := Md.lt
                have HG3 : Hid (w2.heap.size + 5 < w10.heap.size ∧ gq < w10.heap.size) := Lib.hid ⟨Kd.L.lt, Bd.lt⟩
                (refine script_run (v := ?_) (w' := ?_) rfl ?_ ?_ ?_ ?_; rotate_left 2; (first | rfl | (go_simp; done)); (go_simp; refine ⟨?_, ?_⟩ <;> with_reducible rfl); (exact ⟨B12, K12.B, K12.S⟩); simp only [Act.put, List.setIfInBounds_toArray, List.set_cons_zero, List.set_cons_succ])
                (refine script_call 26 ?_ rfl ?_ ?_ ?_; rotate_left; (first | rfl | (go_simp; done)); (go_simp; with_reducible rfl))
                refine (HT.out _ K12.C1).mono ?_
                rintro e w11 ⟨rfl, _, L11⟩
                have K13 := K12.kept L11
                have B13 := B12.kept L11
                have M13 := M12.kept L11
                have N13 := N12.kept L11
                refine ⟨_, rfl, ⟨B13, K13.B, K13.S⟩, ?_⟩
                simp only [Act.put, List.setIfInBounds_toArray, List.set_cons_zero, List.set_cons_succ]
                iterate 3 (refine script_take (v := ?_) rfl ?_ ?_ ?_; rotate_left; (first | rfl | (go_simp; done)); (intro w' _; go_simp; with_reducible rfl); simp only [Act.put, List.setIfInBounds_toArray, List.set_cons_zero, List.set_cons_succ])
                refine script_store_blk rfl rfl 35 (.tmp 29) (.tmp 289) rfl (off := 0) rfl N13 rfl (show 0 + 16 ≤ 16 by omega) (by kernel_rfl) (by rw [← Array.all_toList]; rfl) ?_
                intro w14 R14 z14 g14
                rw [putAll_whole (show (mcells zeroM none 0 0).size = (mcells m4 none 0 0).size from rfl)] at R14
                have K14 : KK w w14 gm gp g0 g1 w2.heap.size most q p.c0 q.c1 p.root1 p.last := K13.fresh g14 (by have := HG3.out; clear fI; omega) K13.below.size
                have B14 := B13.keep g14 (by have := HG3.out; clear fI; omega)
                have M14 := M13.keep g14 (by clear fI; omega)
                refine ⟨⟨B14, K14.B, K14.S⟩, ?_⟩
                simp only [Act.put, List.setIfInBounds_toArray, List.set_cons_zero, List.set_cons_succ]
                (refine script_take (v := ?_) rfl ?_ ?_ ?_; rotate_left; (first | rfl | (go_simp; done)); (intro w' _; go_simp; with_reducible rfl); simp only [Act.put, List.setIfInBounds_toArray, List.set_cons_zero, List.set_cons_succ])
                refine script_nil ?_
                have HX : Hid _ := Lib.hid (And.intro K14 (And.intro B14 (And.intro M14 R14)))
                clear Kd Bd Md K12 B12 M12 N12 K13 B13 M13 N13 L11 K14 B14 M14 R14 z14 g14
                go_wp2_with fail
                go_meet
                exact ⟨_, rfl, rfl, HX⟩
            case rest =>
              obtain ⟨g29, rfl, rfl, hX⟩ := hcut
              obtain ⟨K15, B15, M15, N15⟩ := hX.out
              have xk := M15.cellOf (v := .int .i64 m4.kind) 0 rfl
              have yk := N15.cellOf (v := .int .i64 m4.kind) 0 rfl
              have ek : (m4.kind != m4.kind) = false := by simp
              have xd := M15.cellOf (v := .int .i64 m4.domain) 1 rfl
              have yd := N15.cellOf (v := .int .i64 m4.domain) 1 rfl
              have ed : (m4.domain != m4.domain) = false := by simp
              have xs := M15.cellOf (v := .int .i64 m4.seq) 2 rfl
              have ys := N15.cellOf (v := .int .i64 m4.seq) 2 rfl
              have es : (m4.seq != m4.seq) = false := by simp
              have xc := M15.cellOf (v := .int .i64 m4.corr) 5 rfl
              have yc := N15.cellOf (v := .int .i64 m4.corr) 5 rfl
              have ec : (m4.corr != m4.corr) = false := by simp
              have xt := M15.cellOf (v := .int .i64 m4.time) 6 rfl
              have yt := N15.cellOf (v := .int .i64 m4.time) 6 rfl
              have et : (m4.time != m4.time) = false := by simp
              have xr := M15.cellOf (v := .int .i64 m4.rate) 9 rfl
              have yr := N15.cellOf (v := .int .i64 m4.rate) 9 rfl
              have er : (m4.rate != m4.rate) = false := by simp
              have eo : (o4 != o4) = false := by simp
              have HE : Hid (KP w wc gm gp g0 g1 w2.heap.size most q) := Lib.hid ⟨by rw [HQs.out.1, HQs.out.2.1, HQs.out.2.2.1]; exact K15, HQs.out.2.2.2.2, HQs.out.2.2.2.1.trans HKp.out.2.2.1, by rw [HQs.out.2.2.1]; exact HKp.out.2.2.2⟩
              clear hX K15 B15 M15 N15 K8 B8 M8 HT HKp HG HQs
              go_wp2_with fail
              clear fI
              go_roundw
              case rel => exact ⟨I, q, by first | rfl | (rw [HI.out.1]; rfl), by have := HI.out; omega, by have := HI.out; omega, HE⟩
              case measure => have := HI.out; simp [intOf]; omega
        have hno : ¬ (0 ≤ s.d ∧ s.d < 2) := by clear fI; omega
        obtain rfl : dd = false := by rw [HDD.out]; exact decide_eq_false hno
        have HP := Lib.hid (fun W P => ptell_any p gp g0 g1 s.d s.nn s.nn s.nn s.a W P HKp.out.2.1 HC.out.2.a)
        have hV : ptellV p s.d s.nn s.nn s.nn s.a = ((zeroM, false), p) := by unfold ptellV; rw [if_neg hd, if_neg hd1]
        rw [hV] at HP
        have zd := B5.cellOf (v := .int .i64 s.d) 19 rfl
        have znn := B5.cellOf (v := .int .i64 s.nn) 21 rfl
        have za := B5.cellOf (v := .int .i64 s.a) 17 rfl
        clear hV hno hd hd1
        go_wp2_with fail
        refine (HP.out w5 HKp.out.1.P).mono ?_
        rintro e w6 ⟨rfl, P6, F6⟩
        have K6 := HKp.out.1.pair P6 F6
        have K7 := K6.kept ((Below.refl w6.heap.size w6).alloc (Nat.le_refl _) (.cells (mcells zeroM none 0 0) 35))
        clear zd znn za B5 P6 F6 HP K6
        go_wp2_with (first | (refine wpList_store_new rfl 35 (.tmp 27) (.tmp 265) rfl rfl rfl rfl rfl (by kernel_rfl) (by rw [← Array.all_toList]; rfl) ?_; generalize w6.alloc (.cells (mcells zeroM none 0 0) 35) = w7 at *; (have HE : Hid (KP w w7 gm gp g0 g1 w2.heap.size most p) := Lib.hid ⟨K7, HKp.out.2⟩); clear K7 HKp) | fail)
        clear fI
        go_roundw
        case rel => exact ⟨I, p, by first | rfl | (rw [HI.out.1]; rfl), by have := HI.out; omega, by have := HI.out; omega, HE⟩
        case measure => have := HI.out; simp [intOf]; omega
    · as_aux_lemma =>
        obtain ⟨D, hD⟩ : ∃ D, pickV p s.a = D := ⟨_, rfl⟩
        have HP := Lib.hid (fun W P => pick_any p gp g0 g1 s.a W P HKp.out.2.1 HC.out.2.a)
        have hpk : pickC p.c0 p.c1 p.last s.a most = D := by rw [← HKp.out.2.2.1]; exact hD
        have HPk := Lib.hid (fun W K => pick_run2 w W gm gp g0 g1 w2.heap.size most s.a (lasts p D) p.c0 p.c1 p.root1 p.last K HKp.out.2.1.w0 HKp.out.2.1.w1 HC.out.2.a)
        rw [hpk] at HPk
        rw [hD] at HP
        have HDr : Hid (D = -1 ∨ D = 0 ∨ D = 1) := Lib.hid (by rw [← hD]; exact pick_range HKp.out.2.2.2)
        have hDD : (D != D) = false := by simp
        clear hD hpk
        go_wp2_with fail
        refine wp_region_script [(0, true), (1, true), (2, true), (4, true), (5, true), (6, true), (3, false), (7, false), (8, true)] (fun w' => Blk w' gq 37 (s7c s)) (by kernel_rfl) (by kernel_rfl) (fun _ _ _ _ _ h => h) B5.drew ?_
        have Kd := HKp.out.1.kept (show Below w5.heap.size w5 w5.drew from (Below.refl _ _).drew)
        have Bd := B5.drew
        generalize w5.drew = w10 at *
        iterate 6 (refine script_take (v := ?_) rfl ?_ ?_ ?_; rotate_left; (first | rfl | (go_simp; done)); (rintro w' u1; have c17 := u1.cellOf 17 (show (s7c s)[17]? = some (.int .i64 s.a) from rfl); go_simp; with_reducible rfl); simp only [Act.put, List.setIfInBounds_toArray, List.set_cons_zero, List.set_cons_succ])
        (refine script_call 10 ?_ rfl ?_ ?_ ?_; rotate_left; (first | rfl | (go_simp; done)); (go_simp; with_reducible rfl))
        refine (HP.out w10 Kd.P).mono ?_
        rintro e w11 ⟨rfl, P11, F11⟩
        have K11 := Kd.pair P11 F11
        have B11 := step_pair Bd HQ.out Kd.pb F11
        refine ⟨_, rfl, B11, ?_⟩
        simp only [Act.put, List.setIfInBounds_toArray, List.set_cons_zero, List.set_cons_succ]
        (refine script_call 22 ?_ rfl ?_ ?_ ?_; rotate_left; (first | rfl | (go_simp; done)); (go_simp; with_reducible rfl))
        refine (HPk.out w11 K11).mono ?_
        rintro e w12 ⟨rfl, K12, G12⟩
        refine ⟨_, rfl, B11.keep G12 (by have := HQ.out; clear fI; omega), ?_⟩
        simp only [Act.put, List.setIfInBounds_toArray, List.set_cons_zero, List.set_cons_succ]
        (refine script_take (v := ?_) rfl ?_ ?_ ?_; rotate_left; (first | rfl | (go_simp; done)); (intro w' _; go_simp; with_reducible rfl); simp only [Act.put, List.setIfInBounds_toArray, List.set_cons_zero, List.set_cons_succ])
        refine script_nil ?_
        have HE : Hid (KP w w12 gm gp g0 g1 w2.heap.size most (lasts p D)) := Lib.hid ⟨K12, ⟨HKp.out.2.1.w0, HKp.out.2.1.w1⟩, HKp.out.2.2.1, HDr.out⟩
        clear Kd Bd B5 P11 F11 K11 B11 K12 G12 HP HPk HKp
        go_wp2_with fail
        clear fI
        go_roundw
        case rel => exact ⟨I, lasts p D, by first | rfl | (rw [HI.out.1]; rfl), by have := HI.out; omega, by have := HI.out; omega, HE⟩
        case measure => have := HI.out; simp [intOf]; omega
    · as_aux_lemma =>
        by_cases hd : s.d = 0
        · as_aux_lemma =>
            have HD2 : Hid ((s7c s)[19]? = some (.int .i64 0)) := Lib.hid (by show some (Value.int .i64 s.d) = _; rw [hd])
            obtain rfl : dd = true := by rw [HDD.out, hd]; rfl
            obtain ⟨f, hf⟩ : ∃ f, freshV p.c0 s.a most = f := ⟨_, rfl⟩
            have hP : ∀ W, Below w5.heap.size w5 W → Calls Try.prog 14 #[.pointer (some ⟨gp, 0, none⟩), .int .i64 0, .int .i64 s.a] W fun e w' => e = .returned (.bool f) ∧ Below W.heap.size W w' := fun W hb => (pfresh0 p gp g0 g1 s.a W (HKp.out.1.P.kept hb) HKp.out.2.1.w0 HC.out.2.a).mono fun e w' h => ⟨by rw [h.1, HKp.out.2.2.1, hf], h.2.2⟩
            have hS : ∀ W, Below w5.heap.size w5 W → Calls Try.prog 19 #[.pointer (some ⟨w2.heap.size, 0, none⟩), .int .i64 s.a, .int .i64 most] W fun e w' => e = .returned (.bool f) ∧ Below W.heap.size W w' := fun W hb => (fresh_any p.c0 w2.heap.size s.a most W (HKp.out.1.C0.kept hb) HKp.out.2.1.w0 HC.out.2.a).mono fun e w' h => ⟨by rw [h.1, hf], by rw [← h.2]; exact Below.refl _ _⟩
            have HP := Lib.hid (And.intro hP hS)
            have hff : (f != f) = false := by simp
            have zd := B5.cellOf 19 HD2.out
            have za := B5.cellOf (v := .int .i64 s.a) 17 rfl
            have k1 := HKp.out.1.B.cellOf (v := .slice (some ⟨w2.heap.size + 2, 0, none⟩) 2 2) 0 rfl
            have k2 := HKp.out.1.S.cellOf (v := .pointer (some ⟨w2.heap.size, 0, none⟩)) 0 rfl
            have k3 := HKp.out.1.M.cellOf (v := .int .i64 most) 0 rfl
            have l1 := B5.lt
            have l2 := HKp.out.1.B.lt
            have l3 := HKp.out.1.S.lt
            have l4 := HKp.out.1.M.lt
            clear hf hP hS hd
            go_wp2_with fail
            refine wp_region_class (fun w' => Below w5.heap.size w5 w') (by kernel_rfl) (by kernel_rfl) (Below.refl _ _).drew ?_
            repeat (first | (with_reducible (refine wpQuiet_skip ?_ ?_); (first | exact wanted_off rfl rfl rfl rfl | exact wanted_off2 rfl rfl rfl); simp only [Act.put, List.setIfInBounds_toArray, List.set_cons_zero, List.set_cons_succ]) | (with_reducible (refine wpQuiet_val (v := ?_) ?_ ?_ ?_); rotate_left; (first | exact wanted_none rfl | exact wanted_on rfl rfl rfl); (intro w' hw'; obtain ⟨hc, hf⟩ := bcell hw'; go_simp; with_reducible rfl); simp only [Act.put, List.setIfInBounds_toArray, List.set_cons_zero, List.set_cons_succ]) | (with_reducible (refine wpQuiet_call (v := ?_) 14 ?_ ?_ ?_ ?_ ?_); rotate_left 2; (first | exact wanted_none rfl | exact wanted_on rfl rfl rfl); (intro w' hw'; obtain ⟨hc, hf⟩ := bcell hw'; go_simp; with_reducible rfl); (intro w' hw'; (with_reducible refine (HP.out.1 _ hw').mono ?_); rintro e w2 ⟨rfl, hb⟩; refine ⟨?_, hw'.trans (hb.mono (by have h0 := hw'.size; first | omega | (simp at h0; omega)))⟩; with_reducible rfl); simp only [Act.put, List.setIfInBounds_toArray, List.set_cons_zero, List.set_cons_succ]) | (with_reducible (refine wpQuiet_call (v := ?_) 19 ?_ ?_ ?_ ?_ ?_); rotate_left 2; (first | exact wanted_none rfl | exact wanted_on rfl rfl rfl); (intro w' hw'; obtain ⟨hc, hf⟩ := bcell hw'; go_simp; with_reducible rfl); (intro w' hw'; (with_reducible refine (HP.out.2 _ hw').mono ?_); rintro e w2 ⟨rfl, hb⟩; refine ⟨?_, hw'.trans (hb.mono (by have h0 := hw'.size; first | omega | (simp at h0; omega)))⟩; with_reducible rfl); simp only [Act.put, List.setIfInBounds_toArray, List.set_cons_zero, List.set_cons_succ]))
            refine wpQuiet_nil ?_
            intro w6 hw6
            have HE : Hid (KP w w6 gm gp g0 g1 w2.heap.size most p) := Lib.hid ⟨HKp.out.1.kept hw6, HKp.out.2⟩
            clear zd za k1 k2 k3 l1 l2 l3 l4 hw6 B5 HP HKp
            go_wp2_with fail
            clear fI
            go_roundw
            case rel => exact ⟨I, p, by first | rfl | (rw [HI.out.1]; rfl), by have := HI.out; omega, by have := HI.out; omega, HE⟩
            case measure => have := HI.out; simp [intOf]; omega
        by_cases hd1 : s.d = 1
        · as_aux_lemma =>
            have hd := hd1
            have HD2 : Hid ((s7c s)[19]? = some (.int .i64 1)) := Lib.hid (by show some (Value.int .i64 s.d) = _; rw [hd])
            obtain rfl : dd = true := by rw [HDD.out, hd]; rfl
            obtain ⟨f, hf⟩ : ∃ f, freshV p.c1 s.a most = f := ⟨_, rfl⟩
            have hP : ∀ W, Below w5.heap.size w5 W → Calls Try.prog 14 #[.pointer (some ⟨gp, 0, none⟩), .int .i64 1, .int .i64 s.a] W fun e w' => e = .returned (.bool f) ∧ Below W.heap.size W w' := fun W hb => (pfresh1 p gp g0 g1 s.a W (HKp.out.1.P.kept hb) HKp.out.2.1.w1 HC.out.2.a).mono fun e w' h => ⟨by rw [h.1, HKp.out.2.2.1, hf], h.2.2⟩
            have hS : ∀ W, Below w5.heap.size w5 W → Calls Try.prog 19 #[.pointer (some ⟨(w2.heap.size + 1), 0, none⟩), .int .i64 s.a, .int .i64 most] W fun e w' => e = .returned (.bool f) ∧ Below W.heap.size W w' := fun W hb => (fresh_any p.c1 (w2.heap.size + 1) s.a most W (HKp.out.1.C1.kept hb) HKp.out.2.1.w1 HC.out.2.a).mono fun e w' h => ⟨by rw [h.1, hf], by rw [← h.2]; exact Below.refl _ _⟩
            have HP := Lib.hid (And.intro hP hS)
            have hff : (f != f) = false := by simp
            have zd := B5.cellOf 19 HD2.out
            have za := B5.cellOf (v := .int .i64 s.a) 17 rfl
            have k1 := HKp.out.1.B.cellOf (v := .slice (some ⟨w2.heap.size + 2, 0, none⟩) 2 2) 0 rfl
            have k2 := HKp.out.1.S.cellOf (v := .pointer (some ⟨(w2.heap.size + 1), 0, none⟩)) 1 rfl
            have k3 := HKp.out.1.M.cellOf (v := .int .i64 most) 0 rfl
            have l1 := B5.lt
            have l2 := HKp.out.1.B.lt
            have l3 := HKp.out.1.S.lt
            have l4 := HKp.out.1.M.lt
            clear hf hP hS hd hd1
            go_wp2_with fail
            refine wp_region_class (fun w' => Below w5.heap.size w5 w') (by kernel_rfl) (by kernel_rfl) (Below.refl _ _).drew ?_
            repeat (first | (with_reducible (refine wpQuiet_skip ?_ ?_); (first | exact wanted_off rfl rfl rfl rfl | exact wanted_off2 rfl rfl rfl); simp only [Act.put, List.setIfInBounds_toArray, List.set_cons_zero, List.set_cons_succ]) | (with_reducible (refine wpQuiet_val (v := ?_) ?_ ?_ ?_); rotate_left; (first | exact wanted_none rfl | exact wanted_on rfl rfl rfl); (intro w' hw'; obtain ⟨hc, hf⟩ := bcell hw'; go_simp; with_reducible rfl); simp only [Act.put, List.setIfInBounds_toArray, List.set_cons_zero, List.set_cons_succ]) | (with_reducible (refine wpQuiet_call (v := ?_) 14 ?_ ?_ ?_ ?_ ?_); rotate_left 2; (first | exact wanted_none rfl | exact wanted_on rfl rfl rfl); (intro w' hw'; obtain ⟨hc, hf⟩ := bcell hw'; go_simp; with_reducible rfl); (intro w' hw'; (with_reducible refine (HP.out.1 _ hw').mono ?_); rintro e w2 ⟨rfl, hb⟩; refine ⟨?_, hw'.trans (hb.mono (by have h0 := hw'.size; first | omega | (simp at h0; omega)))⟩; with_reducible rfl); simp only [Act.put, List.setIfInBounds_toArray, List.set_cons_zero, List.set_cons_succ]) | (with_reducible (refine wpQuiet_call (v := ?_) 19 ?_ ?_ ?_ ?_ ?_); rotate_left 2; (first | exact wanted_none rfl | exact wanted_on rfl rfl rfl); (intro w' hw'; obtain ⟨hc, hf⟩ := bcell hw'; go_simp; with_reducible rfl); (intro w' hw'; (with_reducible refine (HP.out.2 _ hw').mono ?_); rintro e w2 ⟨rfl, hb⟩; refine ⟨?_, hw'.trans (hb.mono (by have h0 := hw'.size; first | omega | (simp at h0; omega)))⟩; with_reducible rfl); simp only [Act.put, List.setIfInBounds_toArray, List.set_cons_zero, List.set_cons_succ]))
            refine wpQuiet_nil ?_
            intro w6 hw6
            have HE : Hid (KP w w6 gm gp g0 g1 w2.heap.size most p) := Lib.hid ⟨HKp.out.1.kept hw6, HKp.out.2⟩
            clear zd za k1 k2 k3 l1 l2 l3 l4 hw6 B5 HP HKp
            go_wp2_with fail
            clear fI
            go_roundw
            case rel => exact ⟨I, p, by first | rfl | (rw [HI.out.1]; rfl), by have := HI.out; omega, by have := HI.out; omega, HE⟩
            case measure => have := HI.out; simp [intOf]; omega
        have hno : ¬ (0 ≤ s.d ∧ s.d < 2) := by clear fI; omega
        obtain rfl : dd = false := by rw [HDD.out]; exact decide_eq_false hno
        have hP : ∀ W, Below w5.heap.size w5 W → Calls Try.prog 14 #[.pointer (some ⟨gp, 0, none⟩), .int .i64 s.d, .int .i64 s.a] W fun e w' => e = .returned (.bool false) ∧ Below W.heap.size W w' := fun W hb => pfresh_out gp s.d hno s.a W
        have HP := Lib.hid hP
        have zd := B5.cellOf (v := .int .i64 s.d) 19 rfl
        have za := B5.cellOf (v := .int .i64 s.a) 17 rfl
        have l1 := B5.lt
        clear hP hno hd hd1
        go_wp2_with fail
        refine wp_region_class (fun w' => Below w5.heap.size w5 w') (by kernel_rfl) (by kernel_rfl) (Below.refl _ _).drew ?_
        repeat (first | (with_reducible (refine wpQuiet_skip ?_ ?_); (first | exact wanted_off rfl rfl rfl rfl | exact wanted_off2 rfl rfl rfl); simp only [Act.put, List.setIfInBounds_toArray, List.set_cons_zero, List.set_cons_succ]) | (with_reducible (refine wpQuiet_val (v := ?_) ?_ ?_ ?_); rotate_left; (first | exact wanted_none rfl | exact wanted_on rfl rfl rfl); (intro w' hw'; obtain ⟨hc, hf⟩ := bcell hw'; go_simp; with_reducible rfl); simp only [Act.put, List.setIfInBounds_toArray, List.set_cons_zero, List.set_cons_succ]) | (with_reducible (refine wpQuiet_call (v := ?_) 14 ?_ ?_ ?_ ?_ ?_); rotate_left 2; (first | exact wanted_none rfl | exact wanted_on rfl rfl rfl); (intro w' hw'; obtain ⟨hc, hf⟩ := bcell hw'; go_simp; with_reducible rfl); (intro w' hw'; (with_reducible refine (HP.out _ hw').mono ?_); rintro e w2 ⟨rfl, hb⟩; refine ⟨?_, hw'.trans (hb.mono (by have h0 := hw'.size; first | omega | (simp at h0; omega)))⟩; with_reducible rfl); simp only [Act.put, List.setIfInBounds_toArray, List.set_cons_zero, List.set_cons_succ]))
        refine wpQuiet_nil ?_
        intro w6 hw6
        have HE : Hid (KP w w6 gm gp g0 g1 w2.heap.size most p) := Lib.hid ⟨HKp.out.1.kept hw6, HKp.out.2⟩
        clear zd za l1 hw6 B5 HP HKp
        go_wp2_with fail
        clear fI
        go_roundw
        case rel => exact ⟨I, p, by first | rfl | (rw [HI.out.1]; rfl), by have := HI.out; omega, by have := HI.out; omega, HE⟩
        case measure => have := HI.out; simp [intOf]; omega
    · as_aux_lemma =>
        have HE : Hid (KP w w5 gm gp g0 g1 w2.heap.size most p) := HKp
        clear HKp B5
        go_wp2_with fail
        clear fI
        go_roundw
        case rel => exact ⟨I, p, by first | rfl | (rw [HI.out.1]; rfl), by have := HI.out; omega, by have := HI.out; omega, HE⟩
        case measure => have := HI.out; simp [intOf]; omega

/-! ### The row's step -/
set_option maxRecDepth 100000 in
theorem pairRuns_lifted (os : Os) (started : os.Started) (H : Type) (enc : TypeId × Value → H) :
    ReturnsInHanded {} Try.checked os 5 .any (Rows.pairRunsSpec.pre6 enc Try.prog Try.f5 Rows.pairRunsRow.domain false) (Rows.pairRunsSpec.post enc Try.prog Try.f5 false true false false) := by
  refine returnsInHanded_of_change (C := Try.checked) own started (by kernel_rfl) Try.func5
    (ChangeSpec.witness6 (enc := enc) (C := Try.checked) false ⟨#[], #[.int .i64 0, .slice none 0 0], []⟩ 8 (by kernel_rfl) (by kernel_rfl) (by kernel_rfl) (by kernel_rfl)) ?_
  intro W base args ds gs before hval0 hW _ _
  have hval : ∀ (j : Nat) t v, Try.f5.params[j]? = some t → args[j]? = some v → Value.okWide Try.prog W .any base t v := hval0
  have hW' := hW
  obtain ⟨p, q, hA0, hV, rfl, hfz, hnd⟩ := hW
  have hA : DataW.TrodAll enc Try.prog W 0 (fun _ => true) true Try.f5.params.toList args.toList ds p := hA0
  rw [Try.params5] at hA hval
  obtain ⟨v0, v1, d0, d1, p0, p1, rfl, rfl, rfl, h0, h1⟩ := trodAll_two hA
  obtain ⟨most, rfl⟩ := okWide_int Try.underlying28 (hval 0 28 v0 rfl rfl)
  obtain ⟨A, n, c, xs, rfl, hn, hr, hst⟩ := open_s7 (hval 1 22 v1 rfl rfl) h1 (fun x hx => hW'.lt x (by simp [hx]))
  exact law_post laidOut (by kernel_rfl) rfl (by kernel_rfl) Try.underlying4 rfl hW' (pairRuns_calls most A n c xs W hn hr hst)

theorem pairRuns_holds : Rows.PairRunsSaid :=
  OpenClaim.holds_of_wide 5 Try.f5 rfl rfl rfl rfl rfl rfl rfl ⟨rfl, rfl, rfl, rfl, rfl⟩ rfl rfl rfl rfl rfl (by kernel_rfl) Try.func5 (by kernel_rfl)
    (of_decide_eq_true (by kernel_rfl)) (by unfold Func.isWrapper; first | (rw [if_pos (by decide +kernel)]; kernel_rfl) | (rw [if_neg (by decide +kernel)]; exact ⟨rfl, rfl⟩))
    (fun os started H enc _ => pairRuns_lifted os started H enc)

#print axioms pairRuns_holds
end Go.Proofs.Ytjjpmckefglhnaa
