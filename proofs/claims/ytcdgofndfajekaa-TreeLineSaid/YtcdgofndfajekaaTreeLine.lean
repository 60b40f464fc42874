/-
  TreeLine: whatever the length and the number, the law returns true: along a line of clocks each tells as many steps as it is away, and the path there. No condition.
-/
import Derived.Test.YtcdgofndfajekaaTreeQ
namespace Go.Proofs.Ytcdgofndfajekaa
set_option linter.unusedSimpArgs false
set_option linter.unusedVariables false
open Go.RowKit Go.WideShapes Go.ChangeShapes
attribute [local go_sem ↓] Go.wp_at_zero Go.wp_at_succ

/-! ### Plain -/
def pathTo (j : Nat) : List Int := (List.range (j + 1)).map fun (i : Nat) => (100 + (i : Int))
theorem pathTo_len (j : Nat) : (pathTo j).length = j + 1 := by simp [pathTo]
theorem pathTo_at {j q : Nat} (h : q ≤ j) : (pathTo j)[q]? = some (100 + (q : Int)) := by unfold pathTo; rw [List.getElem?_map, List.getElem?_range (by omega)]; rfl
theorem pathTo_succ (j : Nat) : pathTo j ++ [100 + ((j + 1 : Nat) : Int)] = pathTo (j + 1) := by
  unfold pathTo
  rw [List.range_succ (n := j + 1), List.map_append]
  rfl
theorem pathTo_mem {j : Nat} {x : Int} (h : x ∈ pathTo j) : 100 ≤ x ∧ x ≤ 100 + (j : Int) := by
  unfold pathTo at h
  obtain ⟨i, hi, rfl⟩ := List.mem_map.1 h
  have := List.mem_range.1 hi
  omega
def lineM (seq : Int) (j : Nat) : Mg := ⟨11, 3, seq, 100 + (j : Int), 1, 0, 0, 0, 0, 0, 0, 0, 0, 100, j, pathTo j⟩
def lineOwn (k : Nat) : Pr := ⟨k, 0, 0, 100 + (k : Int)⟩
def lT0 (k : Nat) : Tre := Tre.new 3 (lineOwn k) 9 2
def lT (k : Nat) : Tre := ⟨3, lineOwn k, 9, [⟨true, false, Vc.zero, [], 0⟩, ⟨true, false, Vc.zero, [], 0⟩]⟩
def lV (j : Nat) : Vc := ⟨⟨0, 0, 0, 100⟩, j, 100 + (j : Int), 1, 0⟩
def lT1 (j : Nat) : Tre := ⟨3, lineOwn (j + 1), 9, [⟨true, true, lV j, pathTo j, 0⟩, ⟨true, false, Vc.zero, [], 0⟩]⟩
theorem l_up (k : Nat) : ((lT0 k).upI 0 true).upI 1 true = lT k := rfl
theorem okN_all {most : Int} {xs : List Int} (h : ∀ x ∈ xs, 0 ≤ x ∧ x ≤ most) : okN most xs = true := by
  unfold okN
  rw [List.all_eq_true]
  intro x hx
  have := h x hx
  rw [decide_eq_true this.1, decide_eq_true this.2]; rfl
theorem l_check (seq : Int) (j : Nat) (hs : 0 ≤ seq ∧ seq ≤ 65535) (hj : j ≤ 15) : checkV (lineM seq j) = 0 := by
  refine tell_right rfl ⟨⟨okN_all ?_, okN_all ?_, okN_all ?_⟩, okN_all ?_, okN_all ?_⟩ rfl rfl rfl rfl (by show (pathTo j).length ≤ 32; rw [pathTo_len]; omega) (okN_all ?_)
  all_goals (intro x hx)
  · simp [lineM] at hx; subst hx; omega
  · simp [lineM] at hx; omega
  · simp [lineM] at hx; unfold ids; omega
  · simp [lineM] at hx; omega
  · simp [lineM] at hx; unfold ids; omega
  · have := pathTo_mem (show x ∈ pathTo j from hx); unfold ids; omega
theorem l_in (seq : Int) (j : Nat) (hs : 0 ≤ seq ∧ seq ≤ 65535) (hj : j ≤ 15) : (lT (j + 1)).inE 0 (lineM seq j) = 0 := by
  unfold Tre.inE
  have h1 : ¬ ((lineM seq j).kind ≠ 11 ∨ checkV (lineM seq j) ≠ 0 ∨ (lineM seq j).domain ≠ (lT (j + 1)).dom) := by
    rw [l_check seq j hs hj]
    intro h
    rcases h with h | h | h <;> exact h rfl
  rw [if_neg h1, if_neg (show ¬ (lT (j + 1)).upAt 0 = false from by show ¬ true = false; decide), if_neg]
  intro h
  rcases h with h | h | h | h
  · have h' : (100 + (j : Int)) = 100 + ((j + 1 : Nat) : Int) := h
    omega
  · have := pathTo_mem (show (100 + ((j + 1 : Nat) : Int)) ∈ pathTo j from h)
    omega
  · have h' : (255 : Int) ≤ (j : Int) := h
    omega
  · have h' : 32 ≤ (pathTo j).length := h
    rw [pathTo_len] at h'
    omega
theorem l_put (seq : Int) (j : Nat) (hs : 0 ≤ seq ∧ seq ≤ 65535) (hj : j ≤ 15) : (lT (j + 1)).in_ 0 (lineM seq j) 0 = lT1 j := by
  unfold Tre.in_
  rw [if_pos (l_in seq j hs hj)]
  rfl
theorem l_cmp (j : Nat) : cmpP ⟨0, 0, 0, 100⟩ (lineOwn (j + 1)) = -1 := by
  unfold cmpP
  have : cmpI 0 (lineOwn (j + 1)).one = -1 := if_pos (show (0 : Int) < ((j + 1 : Nat) : Int) by omega)
  show orI [cmpI 0 (lineOwn (j + 1)).one, _, _, _] = -1
  rw [this]
  rfl
theorem l_hs (j : Nat) : (lT1 j).hs 1 = [⟨true, true, lV j⟩, ⟨true, false, Vc.zero⟩] := rfl
theorem l_top (j : Nat) : (lT1 j).top 1 = { lV j with at_ := 0 } := by
  unfold Tre.top topOf
  rw [l_hs]
  show topStep (ownVec (lineOwn (j + 1))) (topStep (ownVec (lineOwn (j + 1))) (ownVec (lineOwn (j + 1))) 0 ⟨true, true, lV j⟩) 1 ⟨true, false, Vc.zero⟩ = _
  have e1 : topStep (ownVec (lineOwn (j + 1))) (ownVec (lineOwn (j + 1))) 0 ⟨true, true, lV j⟩ = { lV j with at_ := 0 } := by
    unfold topStep
    rw [if_pos ⟨rfl, rfl, by show cmpP ⟨0, 0, 0, 100⟩ (lineOwn (j + 1)) < 0; rw [l_cmp]; decide, .inl (by show (-1 : Int) < 0; decide)⟩]
    rfl
  rw [e1]
  unfold topStep
  rw [if_neg (by simp)]
theorem l_role1 (j : Nat) : roleAt (lT1 j).own ((lT1 j).top 1) ((lT1 j).hs 1) 1 = 1 := by
  rw [l_top, l_hs]
  show roleOf _ _ 1 ⟨true, false, Vc.zero⟩ = 1
  unfold roleOf
  rw [if_neg (by simp), if_neg (by show ¬ ((1 : Nat) : Int) = 0; decide), if_neg (by simp)]
theorem l_role0 (j : Nat) : roleAt (lT1 j).own ((lT1 j).top 1) ((lT1 j).hs 1) 0 = 2 := by
  rw [l_top, l_hs]
  show roleOf _ _ 0 ⟨true, true, lV j⟩ = 2
  unfold roleOf
  rw [if_neg (by simp), if_pos (by show ((0 : Nat) : Int) = 0; rfl)]
theorem l_out (seq : Int) (j : Nat) (hj : j ≤ 15) : (lT1 j).outM 1 seq 1 = lineM seq (j + 1) := by
  unfold Tre.outM
  rw [l_top, if_neg (show ¬ (0 : Int) < 0 by decide)]
  have hw : wrap64 ((j : Int) + 1) = ((j + 1 : Nat) : Int) := by rw [IntWalk.wrap64_in _ ⟨by omega, by omega⟩]; rfl
  show om (lT1 j) 1 seq _ (wrap64 ((j : Int) + 1)) (pathTo j ++ [100 + ((j + 1 : Nat) : Int)]) = _
  rw [hw, pathTo_succ]
  rfl
theorem l_out0 (seq : Int) : (lT 0).outM 1 seq 1 = lineM seq 0 := rfl
theorem l_back (seq : Int) (hs : 0 ≤ seq ∧ seq ≤ 65535) : checkV ((lT 0).outM 0 seq 1) = 0 := by
  have e : (lT 0).outM 0 seq 1 = ⟨11, 3, seq, 100, 0, 0, 0, 0, 0, 0, 0, 0, 0, 100, 0, [100]⟩ := rfl
  rw [e]
  refine tell_right rfl ⟨⟨okN_all ?_, okN_all ?_, okN_all ?_⟩, okN_all ?_, okN_all ?_⟩ rfl rfl rfl rfl (by show 1 ≤ 32; decide) (okN_all ?_)
  all_goals (intro x hx; simp at hx; (try unfold ids); omega)
def mBk (seq : Int) : Mg := ⟨11, 3, seq, 100, 0, 0, 0, 0, 0, 0, 0, 0, 0, 100, 0, [100]⟩
def lastM (seq : Int) (k : Nat) : Mg := match k with | 0 => zeroM | j + 1 => lineM seq j
set_option maxRecDepth 100000 in
set_option maxHeartbeats 8000000 in
theorem treeLine_calls (n0 seq0 : Int) (w : World) :
    Calls Try.prog 6 #[.int .i64 n0, .int .i64 seq0] w fun e w' => e = .returned (.bool true) ∧ Below w.heap.size w w' := by
  obtain ⟨x, hx, hx0, hx1⟩ := and_mask n0 4 15 rfl (by omega)
  obtain ⟨seq, hq, hq0, hq1⟩ := and_mask seq0 16 65535 rfl (by omega)
  obtain ⟨n, hn⟩ : ∃ n : Nat, (n : Int) = 1 + x := ⟨(1 + x).toNat, by omega⟩
  have fn : IntKind.i64.wrap (1 + x) = (n : Int) := by rw [hn]; exact IntWalk.i64_in _ ⟨by omega, by omega⟩
  have hn16 : n ≤ 16 := by omega
  have HQ := Lib.hid (And.intro hq0 hq1)
  clear hx0 hx1 hq0 hq1 hn
  go_enter Try.func6, Try.ntmps6
  go_wp2_with fail
  refine (head_any _).mono ?_
  rintro e w1 ⟨rfl, b1⟩
  have L2 := b1.alloc b1.size (.cells (mcells zeroM none 0 0) 38)
  have M2 := Blk.new w1 38 (mcells zeroM none 0 0)
  have HS2 := Lib.hid (And.intro L2 M2)
  have HW1 := Lib.hid b1.size
  clear b1 L2 M2
  go_wp2_with fail
  go_loopw [6] (fun i wr => ∃ (k : Nat) (A : Option Addr) (c : Nat), i = .int .i64 (k : Nat) ∧ k ≤ n ∧ Hid (Below w.heap.size w wr ∧ Blk wr w1.heap.size 38 (mcells (lastM seq k) A k c) ∧ k ≤ c ∧ Path wr [w1.heap.size] A (lastM seq k).path ∧ w.heap.size ≤ w1.heap.size)) (fun i _ => n - (intOf i).toNat)
  case atStart => exact ⟨0, none, 0, rfl, Nat.zero_le _, Lib.hid ⟨HS2.out.1, HS2.out.2, Nat.le_refl _, Path.nil _ _ _, HW1.out⟩⟩
  case round =>
    obtain ⟨k, A, c, rfl, hk, hinv⟩ := hrel
    obtain ⟨wo, rfl⟩ : ∃ wo : World, wo = wr := ⟨_, rfl⟩
    by_cases hlt : k < n
    · obtain ⟨hL, hM, hc, hP, hge⟩ := hinv.out
      obtain ⟨K, hK⟩ : ∃ K, K = k + 1 := ⟨_, rfl⟩
      have fk : IntKind.i64.wrap ((k : Int) + 1) = (K : Int) := by rw [hK]; exact IntWalk.i64_in _ ⟨by omega, by omega⟩
      have f100 : IntKind.i64.wrap (100 + (k : Int)) = 100 + (k : Int) := IntWalk.i64_in _ ⟨by omega, by omega⟩
      have HK := Lib.hid hK
      have HF := Lib.hid (And.intro fk f100)
      have HL := Lib.hid hL
      have HM := Lib.hid hM
      have HPt := Lib.hid hP
      have HGE := Lib.hid hge
      have h4 : okN 255 [(lineOwn k).one, (lineOwn k).cls, (lineOwn k).two, 0] = true := okN_all (by intro x hx; simp [lineOwn] at hx; omega)
      have h5 : okN ids [(lineOwn k).id] = true := okN_all (by intro x hx; simp [lineOwn] at hx; unfold ids; omega)
      have HOK := Lib.hid (And.intro h4 h5)
      have hk15 : k ≤ 15 := by omega
      have HK15 := Lib.hid hk15
      clear hK hL hM hP hge hc hinv h4 h5 hk15 HS2 fk
      go_wp2_with fail
      refine (new_right 3 (lineOwn k) 2 9 wo (by decide) (by decide) (by decide) HOK.out.1 HOK.out.2).mono ?_
      rintro e w2 ⟨b, ps, rfl, hT, hg, b2⟩
      have hgl : w1.heap.size < wo.heap.size := HM.out.lt
      have HG : Hid (w1.heap.size ∉ b.turn ∧ (∀ q ∈ b.turn, w.heap.size ≤ q) ∧ ∀ q ∈ b.turn, q ∈ w1.heap.size :: b.all) := Lib.hid ⟨fun a => by have := turn_ge hg _ a; omega, fun q hq => by have := turn_ge hg q hq; have := HL.out.size; omega, fun q hq => by simp [Bks.turn, Bks.all] at hq ⊢; omega⟩
      have HT2 : Hid (TAt w2 b (lT0 k) ps) := Lib.hid hT
      have HM2 := Lib.hid (HM.out.kept b2)
      have HP2 : Hid (Path w2 (w1.heap.size :: b.all) A (lastM seq k).path) := Lib.hid (Path.fr (S' := []) (fun h0 => by
        obtain ⟨ad, e, h1, h2, h3⟩ := HPt.out h0
        exact ⟨ad, e, h1, by simp at h2 ⊢; exact ⟨h2, fun a => by have := hg _ a; omega⟩, h3⟩) (Fr.be b2) (by simp))
      have HL2 := Lib.hid (HL.out.trans (b2.mono HL.out.size))
      clear hT hg b2 hgl HM HPt HL HOK
      go_wp2_with fail
      refine (up_any b _ ps 0 true w2 HT2.out).mono ?_
      rintro e w3 ⟨rfl, ⟨ps3, hT⟩, f3⟩
      have HT3 := Lib.hid hT
      have HM3 := Lib.hid (f3.blk HM2.out HG.out.1)
      have HP3 := Lib.hid (HP2.out.fr f3 HG.out.2.2)
      have HL3 := Lib.hid (HL2.out.trans (f3.below HL2.out.size HG.out.2.1))
      clear hT f3 HT2 HM2 HP2 HL2
      go_wp2_with fail
      refine (up_any b _ ps3 1 true w3 HT3.out).mono ?_
      rintro e w4 ⟨rfl, ⟨ps4, hT⟩, f4⟩
      rw [l_up] at hT
      have HT4 := Lib.hid hT
      have HM4 := Lib.hid (f4.blk HM3.out HG.out.1)
      have HP4 := Lib.hid (HP3.out.fr f4 HG.out.2.2)
      have HL4 := Lib.hid (HL3.out.trans (f4.below HL3.out.size HG.out.2.1))
      clear hT f4 HT3 HM3 HP3 HL3
      rcases Nat.eq_zero_or_pos k with hk0 | hk0
      · have d0 : decide (0 < k) = false := decide_eq_false (by omega)
        have HK0 := Lib.hid hk0
        have HTR : Hid ((∀ e ∈ (lT k).es, R64 e.at_) ∧ (∀ e ∈ (lT k).es, e.path.length ≤ 31) ∧ roleAt (lT k).own ((lT k).top 1) ((lT k).hs 1) 1 = 1 ∧ (lT k).outM 1 seq 1 = lineM seq k) := Lib.hid (by
          subst hk0
          exact ⟨by intro e he; simp [lT] at he; rw [he]; exact ⟨by decide, by decide⟩, by intro e he; simp [lT] at he; rw [he]; decide, rfl, rfl⟩)
        have HBK : Hid (roleAt (lT k).own ((lT k).top 1) ((lT k).hs 1) 0 = 1 ∧ (lT k).outM 0 seq 1 = mBk seq ∧ checkV (mBk seq) = 0) := Lib.hid (by
          subst hk0
          exact ⟨rfl, rfl, l_back seq HQ.out⟩)
        clear hk0
        go_wp2_with fail
        have hO := out_master b (lT k) ps4 1 seq 1 w4 HT4.out ⟨by decide, by decide⟩ HTR.out.1 (by show (0 : Int) ≤ 9; decide) (by show (9 : Int) ≤ 9223372036854775807; decide) HTR.out.2.1 ⟨by decide, by show (1 : Int) < 2; decide, HTR.out.2.2.1⟩
        rw [show (1 : Int).toNat = 1 from rfl, HTR.out.2.2.2] at hO
        refine hO.mono ?_
        rintro e w6 ⟨A6, n6, c6, rfl, hn6, P6, hc6, hA6, b6⟩
        obtain rfl : n6 = K := by rw [hn6, HK.out]; exact pathTo_len k
        rw [l_check seq k HQ.out HK15.out, show mcells (lineM seq k) A6 n6 c6 = #[.int .i64 11, .int .i64 3, .int .i64 seq, .int .i64 (100 + (k : Int)), .int .i64 1, .int .i64 0, .int .i64 0, .int .i64 0, .int .i64 0, .int .i64 0, .int .i64 0, .int .i64 0, .int .i64 0, .int .i64 100, .int .i64 (k : Int), .slice A6 n6 c6] from rfl]
        have LL := b6.alloc b6.size (.cells #[.int .i64 11, .int .i64 3, .int .i64 seq, .int .i64 (100 + (k : Int)), .int .i64 1, .int .i64 0, .int .i64 0, .int .i64 0, .int .i64 0, .int .i64 0, .int .i64 0, .int .i64 0, .int .i64 0, .int .i64 100, .int .i64 (k : Int), .slice A6 n6 c6] 38)
        have HX7 : Hid (Blk (w6.alloc (.cells #[.int .i64 11, .int .i64 3, .int .i64 seq, .int .i64 (100 + (k : Int)), .int .i64 1, .int .i64 0, .int .i64 0, .int .i64 0, .int .i64 0, .int .i64 0, .int .i64 0, .int .i64 0, .int .i64 0, .int .i64 100, .int .i64 (k : Int), .slice A6 n6 c6] 38)) w6.heap.size 38 (mcells (lineM seq k) A6 n6 c6)) := Lib.hid (Blk.new w6 38 (mcells (lineM seq k) A6 n6 c6))
        have HT7 := Lib.hid (HT4.out.kept LL)
        have HM7 := Lib.hid (HM4.out.kept LL)
        have HL7 := Lib.hid (HL4.out.trans (LL.mono HL4.out.size))
        have HP7 := Lib.hid (P6.fr (S' := []) (Fr.be ((Below.refl w6.heap.size w6).alloc (Nat.le_refl _) (.cells #[.int .i64 11, .int .i64 3, .int .i64 seq, .int .i64 (100 + (k : Int)), .int .i64 1, .int .i64 0, .int .i64 0, .int .i64 0, .int .i64 0, .int .i64 0, .int .i64 0, .int .i64 0, .int .i64 0, .int .i64 100, .int .i64 (k : Int), .slice A6 n6 c6] 38))) (by simp))
        have HA7 : Hid (∀ ad : Addr, A6 = some ad → w1.heap.size < ad.block) := Lib.hid fun ad had => by have := hA6 ad had; have := HM4.out.lt; omega
        have HC7 : Hid (n6 ≤ c6) := Lib.hid (by rw [hn6]; exact hc6)
        clear hO hn6 P6 hc6 hA6 b6 LL HT4 HM4 HL4
        obtain ⟨fk, f100⟩ := HF.out
        go_wp2_with fail
        clear fk f100
        generalize w6.alloc (.cells #[.int .i64 11, .int .i64 3, .int .i64 seq, .int .i64 (100 + (k : Int)), .int .i64 1, .int .i64 0, .int .i64 0, .int .i64 0, .int .i64 0, .int .i64 0, .int .i64 0, .int .i64 0, .int .i64 0, .int .i64 100, .int .i64 (k : Int), .slice A6 n6 c6] 38) = w7 at *
        generalize w6.heap.size = gm at *
        go_loopw [103] (fun i wq => ∃ q : Nat, i = .int .i64 (q : Nat) ∧ q ≤ n6 ∧ wq = w7) (fun i _ => n6 - (intOf i).toNat)
        case atStart => exact ⟨0, rfl, Nat.zero_le _, rfl⟩
        case round =>
          obtain ⟨q, rfl, hq', rfl⟩ := hrel
          by_cases hql : q < n6
          · obtain ⟨ad, rfl, had, _, hcell⟩ := HP7.out (by show 0 < (pathTo k).length; rw [pathTo_len]; omega)
            have x0 := hcell q _ (show (pathTo k)[q]? = some (100 + (q : Int)) from pathTo_at (by have := HK.out; omega))
            have hq20 : q ≤ 20 := by have := HK.out; have := HK15.out; omega
            have fq : IntKind.i64.wrap (100 + (q : Int)) = 100 + (q : Int) := IntWalk.i64_in _ ⟨by omega, by omega⟩
            have hc7 := HC7.out
            clear hcell
            go_wp2_with fail
            clear fq
            go_roundw
            case rel => exact ⟨q + 1, by first | rfl | (refine congrArg (Value.int IntKind.i64) ?_; rw [IntWalk.wrap64_in _ ⟨by omega, by omega⟩]; rfl), by omega, by first | rfl | trivial⟩
            case measure => simp [intOf]; omega
          · obtain rfl : q = n6 := by omega
            have dq : decide (q < q) = false := by simp
            clear hql hq'
            go_wp2_with fail
            clear dq
            have hB := out_master b (lT k) ps4 0 seq 1 wr HT7.out ⟨by decide, by decide⟩ HTR.out.1 (by show (0 : Int) ≤ 9; decide) (by show (9 : Int) ≤ 9223372036854775807; decide) HTR.out.2.1 ⟨by decide, by show (0 : Int) < 2; decide, HBK.out.1⟩
            rw [show (0 : Int).toNat = 0 from rfl, HBK.out.2.1] at hB
            refine hB.mono ?_
            rintro e w8 ⟨A9, n9, c9, rfl, hn9, _, _, _, b8⟩
            obtain rfl : n9 = 1 := hn9
            rw [HBK.out.2.2, show mcells (mBk seq) A9 1 c9 = #[.int .i64 11, .int .i64 3, .int .i64 seq, .int .i64 100, .int .i64 0, .int .i64 0, .int .i64 0, .int .i64 0, .int .i64 0, .int .i64 0, .int .i64 0, .int .i64 0, .int .i64 0, .int .i64 100, .int .i64 0, .slice A9 1 c9] from rfl]
            have e0 : ((k : Int) == 0) = true := beq_iff_eq.2 (by have := HK0.out; omega)
            have LL := b8.alloc b8.size (.cells #[.int .i64 11, .int .i64 3, .int .i64 seq, .int .i64 100, .int .i64 0, .int .i64 0, .int .i64 0, .int .i64 0, .int .i64 0, .int .i64 0, .int .i64 0, .int .i64 0, .int .i64 0, .int .i64 100, .int .i64 0, .slice A9 1 c9] 38)
            clear hB b8
            have HL8 := Lib.hid (HL7.out.trans (LL.mono HL7.out.size))
            have hX8 := HX7.out.kept LL
            have hM8 := HM7.out.kept LL
            have HP8 := Lib.hid (HP7.out.fr (S' := []) (Fr.be LL) (by simp))
            clear LL
            have HX8 := Lib.hid hX8
            have HM8 := Lib.hid hM8
            clear hX8 hM8 HX7 HM7 HL7 HP7 HT7
            go_wp2_with (first
              | (refine wpList_load_any_d rfl 38 (.tmp 9) rfl ⟨gm, 0, none⟩ rfl (mcells (lineM seq k) A6 q c6) _ (blk_cells HX8.out) Try.underlying38 rfl (by kernel_rfl) ?_)
              | (refine wpList_store_part (cs := mcells (lineM seq k) A6 q c6) rfl 38 (.tmp 5) (.tmp 123) rfl (off := 0) rfl HM8.out rfl (Nat.le_refl _) (by kernel_rfl) (by rw [← Array.all_toList]; rfl) ?_; intro w10 X10 z10 g10))
            have hM10 : Blk w10 w1.heap.size 38 (mcells (lineM seq k) A6 q c6) := blk_whole X10 rfl
            have hL10 : Below w.heap.size w w10 := HL8.out.trans (below_one g10 HL8.out.size HGE.out)
            have hP10 : Path w10 [w1.heap.size] A6 (pathTo k) := Path.fr (S' := [w1.heap.size]) (fun h0 => by
              obtain ⟨ad, e, h1, _, h3⟩ := HP8.out h0
              exact ⟨ad, e, h1, by simp; have := HA7.out ad e; omega, h3⟩) (Fr.gr g10 (by simp)) (by simp)
            have HE := Lib.hid (And.intro hL10 (And.intro hM10 hP10))
            clear X10 z10 g10 hM10 hL10 hP10 HX8 HM8 HP8 HL8 e0
            go_roundw
            case rel =>
              refine ⟨k + 1, A6, c6, by first | rfl | (refine congrArg (Value.int IntKind.i64) ?_; rw [IntWalk.wrap64_in _ ⟨by omega, by omega⟩]; rfl), by omega, Lib.hid ⟨HE.out.1, ?_, by rw [← HK.out]; exact HC7.out, HE.out.2.2, HGE.out⟩⟩
              have h := HE.out.2.1
              rw [HK.out] at h
              exact h
            case measure => simp [intOf]; omega
      · obtain ⟨j, hj⟩ : ∃ j, k = j + 1 := ⟨k - 1, by omega⟩
        have hj15 : j ≤ 14 := by have := HK15.out; omega
        have HJ := Lib.hid hj
        have hlm : lastM seq k = lineM seq j := by rw [hj]; rfl
        have hM4 := HM4.out
        have hP4 := HP4.out
        rw [hlm] at hM4 hP4
        have HI : Hid (Calls Try.prog 13 #[.pointer (some ⟨b.g, 0, none⟩), .int .i64 0, .agg (mcells (lineM seq j) A k c), .int .i64 0] w4 fun e w' => e = .returned (.int .i64 0) ∧ (∃ ps', TAt w' b (lT1 j) ps') ∧ Fr b.turn w4 w') := Lib.hid (by
          have hT := HT4.out
          rw [hj] at hT
          have := in_any b (lT (j + 1)) ps4 0 0 (lineM seq j) A k c w4 hT ⟨by have h := hP4.reads; rw [show (lineM seq j).path.length = k from by show (pathTo j).length = k; rw [pathTo_len, hj]] at h; exact h, by show (pathTo j).length = k; rw [pathTo_len, hj], by have := HK15.out; simp [maxLen]; omega⟩ (hP4.less (by intro q hq; simp [hq]))
          rw [l_in seq j HQ.out (by omega), l_put seq j HQ.out (by omega)] at this
          exact this)
        have HTR : Hid ((∀ e ∈ (lT1 j).es, R64 e.at_) ∧ (∀ e ∈ (lT1 j).es, e.path.length ≤ 31) ∧ roleAt (lT1 j).own ((lT1 j).top 1) ((lT1 j).hs 1) 1 = 1 ∧ (lT1 j).outM 1 seq 1 = lineM seq k) := Lib.hid ⟨by
          intro e he
          simp [lT1] at he
          rcases he with rfl | rfl <;> exact (⟨by decide, by decide⟩ : R64 0), by
          intro e he
          simp [lT1] at he
          rcases he with rfl | rfl
          · show (pathTo j).length ≤ 31
            rw [pathTo_len]; omega
          · exact Nat.zero_le _, l_role1 j, by rw [hj]; exact l_out seq j (by omega)⟩
        obtain ⟨y0, y1, y2, y3, y4, y5, y6, y7, y8, y9, y10, y11, y12, y13, y14, y15⟩ := mcells_at hM4
        have HBK : Hid (roleAt (lT1 j).own ((lT1 j).top 1) ((lT1 j).hs 1) 0 = 2) := Lib.hid (l_role0 j)
        clear hj hj15 hlm hM4 hP4
        go_wp2_with fail
        refine HI.out.mono ?_
        rintro e w5 ⟨rfl, ⟨ps5, hT⟩, f5⟩
        have HT5 := Lib.hid hT
        have HM5 := Lib.hid (f5.blk HM4.out HG.out.1)
        have HL5 := Lib.hid (HL4.out.trans (f5.below HL4.out.size HG.out.2.1))
        clear hT f5 HT4 HM4 HP4 HL4 HI y0 y1 y2 y3 y4 y5 y6 y7 y8 y9 y10 y11 y12 y13 y14 y15
        have d0 : (0 : Int) < (k : Int) := by omega
        go_wp2_with fail
        have hO := out_master b (lT1 j) ps5 1 seq 1 w5 HT5.out ⟨by decide, by decide⟩ HTR.out.1 (by show (0 : Int) ≤ 9; decide) (by show (9 : Int) ≤ 9223372036854775807; decide) HTR.out.2.1 ⟨by decide, by show (1 : Int) < 2; decide, HTR.out.2.2.1⟩
        rw [show (1 : Int).toNat = 1 from rfl, HTR.out.2.2.2] at hO
        refine hO.mono ?_
        rintro e w6 ⟨A6, n6, c6, rfl, hn6, P6, hc6, hA6, b6⟩
        obtain rfl : n6 = K := by rw [hn6, HK.out]; exact pathTo_len k
        rw [l_check seq k HQ.out HK15.out, show mcells (lineM seq k) A6 n6 c6 = #[.int .i64 11, .int .i64 3, .int .i64 seq, .int .i64 (100 + (k : Int)), .int .i64 1, .int .i64 0, .int .i64 0, .int .i64 0, .int .i64 0, .int .i64 0, .int .i64 0, .int .i64 0, .int .i64 0, .int .i64 100, .int .i64 (k : Int), .slice A6 n6 c6] from rfl]
        have LL := b6.alloc b6.size (.cells #[.int .i64 11, .int .i64 3, .int .i64 seq, .int .i64 (100 + (k : Int)), .int .i64 1, .int .i64 0, .int .i64 0, .int .i64 0, .int .i64 0, .int .i64 0, .int .i64 0, .int .i64 0, .int .i64 0, .int .i64 100, .int .i64 (k : Int), .slice A6 n6 c6] 38)
        have HX7 : Hid (Blk (w6.alloc (.cells #[.int .i64 11, .int .i64 3, .int .i64 seq, .int .i64 (100 + (k : Int)), .int .i64 1, .int .i64 0, .int .i64 0, .int .i64 0, .int .i64 0, .int .i64 0, .int .i64 0, .int .i64 0, .int .i64 0, .int .i64 100, .int .i64 (k : Int), .slice A6 n6 c6] 38)) w6.heap.size 38 (mcells (lineM seq k) A6 n6 c6)) := Lib.hid (Blk.new w6 38 (mcells (lineM seq k) A6 n6 c6))
        have HT7 := Lib.hid (HT5.out.kept LL)
        have HM7 := Lib.hid (HM5.out.kept LL)
        have HL7 := Lib.hid (HL5.out.trans (LL.mono HL5.out.size))
        have HP7 := Lib.hid (P6.fr (S' := []) (Fr.be ((Below.refl w6.heap.size w6).alloc (Nat.le_refl _) (.cells #[.int .i64 11, .int .i64 3, .int .i64 seq, .int .i64 (100 + (k : Int)), .int .i64 1, .int .i64 0, .int .i64 0, .int .i64 0, .int .i64 0, .int .i64 0, .int .i64 0, .int .i64 0, .int .i64 0, .int .i64 100, .int .i64 (k : Int), .slice A6 n6 c6] 38))) (by simp))
        have HA7 : Hid (∀ ad : Addr, A6 = some ad → w1.heap.size < ad.block) := Lib.hid fun ad had => by have := hA6 ad had; have := HM5.out.lt; omega
        have HC7 : Hid (n6 ≤ c6) := Lib.hid (by rw [hn6]; exact hc6)
        clear hO hn6 P6 hc6 hA6 b6 LL HT5 HM5 HL5
        obtain ⟨fk, f100⟩ := HF.out
        go_wp2_with fail
        clear fk f100
        generalize w6.alloc (.cells #[.int .i64 11, .int .i64 3, .int .i64 seq, .int .i64 (100 + (k : Int)), .int .i64 1, .int .i64 0, .int .i64 0, .int .i64 0, .int .i64 0, .int .i64 0, .int .i64 0, .int .i64 0, .int .i64 0, .int .i64 100, .int .i64 (k : Int), .slice A6 n6 c6] 38) = w7 at *
        generalize w6.heap.size = gm at *
        go_loopw [103] (fun i wq => ∃ q : Nat, i = .int .i64 (q : Nat) ∧ q ≤ n6 ∧ wq = w7) (fun i _ => n6 - (intOf i).toNat)
        case atStart => exact ⟨0, rfl, Nat.zero_le _, rfl⟩
        case round =>
          obtain ⟨q, rfl, hq', rfl⟩ := hrel
          by_cases hql : q < n6
          · obtain ⟨ad, rfl, had, _, hcell⟩ := HP7.out (by show 0 < (pathTo k).length; rw [pathTo_len]; omega)
            have x0 := hcell q _ (show (pathTo k)[q]? = some (100 + (q : Int)) from pathTo_at (by have := HK.out; omega))
            have hq20 : q ≤ 20 := by have := HK.out; have := HK15.out; omega
            have fq : IntKind.i64.wrap (100 + (q : Int)) = 100 + (q : Int) := IntWalk.i64_in _ ⟨by omega, by omega⟩
            have hc7 := HC7.out
            clear hcell
            go_wp2_with fail
            clear fq
            go_roundw
            case rel => exact ⟨q + 1, by first | rfl | (refine congrArg (Value.int IntKind.i64) ?_; rw [IntWalk.wrap64_in _ ⟨by omega, by omega⟩]; rfl), by omega, by first | rfl | trivial⟩
            case measure => simp [intOf]; omega
          · obtain rfl : q = n6 := by omega
            have dq : decide (q < q) = false := by simp
            clear hql hq'
            go_wp2_with fail
            clear dq
            have hB := out_else b (lT1 j) ps5 0 seq 1 wr HT7.out ⟨by decide, by decide⟩ HTR.out.1 (by show (0 : Int) ≤ 9; decide) (by show (9 : Int) ≤ 9223372036854775807; decide) HTR.out.2.1 (fun h => by have h2 := h.2.2; rw [show (0 : Int).toNat = 0 from rfl, HBK.out] at h2; exact absurd h2 (by decide))
            refine hB.mono ?_
            rintro e w8 ⟨rfl, b8⟩
            rw [show mcells zeroM none 0 0 = #[.int .i64 0, .int .i64 0, .int .i64 0, .int .i64 0, .int .i64 0, .int .i64 0, .int .i64 0, .int .i64 0, .int .i64 0, .int .i64 0, .int .i64 0, .int .i64 0, .int .i64 0, .int .i64 0, .int .i64 0, .slice none 0 0] from rfl]
            have e0 : ((k : Int) == 0) = false := beq_eq_false_iff_ne.2 (by omega)
            have LL := b8.alloc b8.size (.cells #[.int .i64 0, .int .i64 0, .int .i64 0, .int .i64 0, .int .i64 0, .int .i64 0, .int .i64 0, .int .i64 0, .int .i64 0, .int .i64 0, .int .i64 0, .int .i64 0, .int .i64 0, .int .i64 0, .int .i64 0, .slice none 0 0] 38)
            clear hB b8
            have HL8 := Lib.hid (HL7.out.trans (LL.mono HL7.out.size))
            have hX8 := HX7.out.kept LL
            have hM8 := HM7.out.kept LL
            have HP8 := Lib.hid (HP7.out.fr (S' := []) (Fr.be LL) (by simp))
            clear LL
            have HX8 := Lib.hid hX8
            have HM8 := Lib.hid hM8
            clear hX8 hM8 HX7 HM7 HL7 HP7 HT7
            go_wp2_with (first
              | (refine wpList_load_any_d rfl 38 (.tmp 9) rfl ⟨gm, 0, none⟩ rfl (mcells (lineM seq k) A6 q c6) _ (blk_cells HX8.out) Try.underlying38 rfl (by kernel_rfl) ?_)
              | (refine wpList_store_part (cs := mcells (lineM seq k) A6 q c6) rfl 38 (.tmp 5) (.tmp 123) rfl (off := 0) rfl HM8.out rfl (Nat.le_refl _) (by kernel_rfl) (by rw [← Array.all_toList]; rfl) ?_; intro w10 X10 z10 g10))
            have hM10 : Blk w10 w1.heap.size 38 (mcells (lineM seq k) A6 q c6) := blk_whole X10 rfl
            have hL10 : Below w.heap.size w w10 := HL8.out.trans (below_one g10 HL8.out.size HGE.out)
            have hP10 : Path w10 [w1.heap.size] A6 (pathTo k) := Path.fr (S' := [w1.heap.size]) (fun h0 => by
              obtain ⟨ad, e, h1, _, h3⟩ := HP8.out h0
              exact ⟨ad, e, h1, by simp; have := HA7.out ad e; omega, h3⟩) (Fr.gr g10 (by simp)) (by simp)
            have HE := Lib.hid (And.intro hL10 (And.intro hM10 hP10))
            clear X10 z10 g10 hM10 hL10 hP10 HX8 HM8 HP8 HL8 e0
            go_roundw
            case rel =>
              refine ⟨k + 1, A6, c6, by first | rfl | (refine congrArg (Value.int IntKind.i64) ?_; rw [IntWalk.wrap64_in _ ⟨by omega, by omega⟩]; rfl), by omega, Lib.hid ⟨HE.out.1, ?_, by rw [← HK.out]; exact HC7.out, HE.out.2.2, HGE.out⟩⟩
              have h := HE.out.2.1
              rw [HK.out] at h
              exact h
            case measure => simp [intOf]; omega
    · obtain rfl : k = n := by omega
      have dn : decide (k < k) = false := by simp
      have hw := hinv.out.1
      clear hlt hk hinv HS2
      go_wp2_with fail
      go_ret
      exact ⟨rfl, hw⟩

/-! ### The row's step -/
set_option maxRecDepth 100000 in
theorem treeLine_lifted (os : Os) (started : os.Started) (H : Type) (enc : TypeId × Value → H) :
    ReturnsInHanded {} Try.checked os 6 .any (Rows.treeLineSpec.pre6 enc Try.prog Try.f6 Rows.treeLineRow.domain false) (Rows.treeLineSpec.post enc Try.prog Try.f6 false true false false) := by
  refine returnsInHanded_of_change (C := Try.checked) own started (by kernel_rfl) Try.func6
    (ChangeSpec.witness6 (enc := enc) (C := Try.checked) false ⟨#[], #[.int .i64 0, .int .i64 0], []⟩ 8 (by kernel_rfl) (by kernel_rfl) (by kernel_rfl) (by kernel_rfl)) ?_
  intro W base args ds gs before hval0 hW _ _
  have hval : ∀ (j : Nat) t v, Try.f6.params[j]? = some t → args[j]? = some v → Value.okWide Try.prog W .any base t v := hval0
  have hW' := hW
  obtain ⟨p, q, hA0, hV, rfl, hfz, hnd⟩ := hW
  have hA : DataW.TrodAll enc Try.prog W 0 (fun _ => true) true Try.f6.params.toList args.toList ds p := hA0
  rw [Try.params6] at hA hval
  obtain ⟨v0, v1, d0, d1, p0, p1, rfl, rfl, rfl, h0, h1⟩ := trodAll_two hA
  obtain ⟨x, rfl⟩ := okWide_int Try.underlying3 (hval 0 3 v0 rfl rfl)
  obtain ⟨y, rfl⟩ := okWide_int Try.underlying3 (hval 1 3 v1 rfl rfl)
  exact law_post laidOut (by kernel_rfl) rfl (by kernel_rfl) Try.underlying4 rfl hW' (treeLine_calls x y W)

theorem treeLine_holds : Rows.TreeLineSaid :=
  OpenClaim.holds_of_wide 6 Try.f6 rfl rfl rfl rfl rfl rfl rfl ⟨rfl, rfl, rfl, rfl, rfl⟩ rfl rfl rfl rfl rfl (by kernel_rfl) Try.func6 (by kernel_rfl)
    (of_decide_eq_true (by kernel_rfl)) (by unfold Func.isWrapper; first | (rw [if_pos (by decide +kernel)]; kernel_rfl) | (rw [if_neg (by decide +kernel)]; exact ⟨rfl, rfl⟩))
    (fun os started H enc _ => treeLine_lifted os started H enc)

#print axioms treeLine_holds
end Go.Proofs.Ytcdgofndfajekaa
