/-
  OscGrows: whatever the start, the turns and the times, the law returns true: a clock always goes on, and between two true times as far as its rates allow. No condition.
-/
import Derived.Test.YtfpbahihndgabaaOscH
import Derived.Test.YtfpbahihndgabaaRatePlain
namespace Go.Proofs.Ytfpbahihndgabaa
set_option linter.unusedSimpArgs false
set_option linter.unusedVariables false
open Go.RowKit Go.WideShapes Go.ChangeShapes
attribute [local go_sem ↓] Go.wp_at_zero Go.wp_at_succ

theorem by_any (s r : Int) (hs : I64 s) (hr : I64 r) (w : World) :
    Calls Try.prog 13 #[.int .i64 s, .int .i64 r] w fun e w' => e = .returned (.tuple #[.int .i64 (mulDivV s r 2199023255552 2).1, .int .i64 (mulDivV s r 2199023255552 2).2]) ∧ Below w.heap.size w w' := by
  have hm := fun W => mulDiv_any s r 2199023255552 2 hs hr (by unfold I64; omega) (.inr (.inr rfl)) W
  generalize mulDivV s r 2199023255552 2 = x at *
  obtain ⟨x1, x2⟩ := x
  have HM := Lib.hid hm
  clear hm
  go_enter Try.func13, Try.ntmps13
  go_wp2_with fail
  refine (HM.out _).mono ?_
  rintro e w1 ⟨rfl, hb1⟩
  go_wp2_with fail
  go_ret2
  exact ⟨rfl, hb1⟩
/-! ### How far a clock comes, exactly -/
def exB (tA tR : Nat → Int) : Nat → Int
  | 0 => 0
  | i + 1 => exB tA tR i + (tA (i + 1) - tA i) * tR i
def exT (n : Nat) (tA tR : Nat → Int) (t : Int) : Int := exB tA tR (pcV tA t n) + (t - tA (pcV tA t n)) * tR (pcV tA t n)
theorem exB_err {S : Int} {n : Nat} {tA tR bs : Nat → Int} (hT : Turns n tA tR) (hB : Bases S n tA tR bs) : ∀ {i : Nat}, i < n → 0 ≤ exB tA tR i - 33554432 * (bs i - S) ∧ exB tA tR i - 33554432 * (bs i - S) ≤ (i : Int) * 33554431
  | 0, _ => by rw [hB.start]; unfold exB; omega
  | i + 1, hi => by
    have ih := exB_err hT hB (i := i) (by omega)
    have h1 := hT.rise i hi
    have h2 := hT.late (i + 1) hi
    have h3 := hT.low (i := i) (by omega)
    rw [hB.next i hi, run_val (by omega) (by omega) (hT.rate i (by omega))]
    unfold exB
    generalize (tA (i + 1) - tA i) * tR i = p at *
    omega
theorem exT_err {S : Int} {n : Nat} {tA tR bs : Nat → Int} (hT : Turns n tA tR) (hB : Bases S n tA tR bs) {t : Int} (h0 : 0 ≤ t) (h1 : t ≤ 1099511627776) : 0 ≤ exT n tA tR t - 33554432 * (tellV n tA tR bs t - S) ∧ exT n tA tR t - 33554432 * (tellV n tA tR bs t - S) ≤ (n : Int) * 33554431 := by
  have hp := pcV_lt tA t n hT.pos
  have hle := pc_le hT h0
  have h3 := hT.low hp
  have hb := exB_err hT hB hp
  unfold exT tellV
  rw [run_val (by omega) (by omega) (hT.rate _ hp)]
  generalize (t - tA (pcV tA t n)) * tR (pcV tA t n) = p at *
  generalize pcV tA t n = j at *
  omega
/-- A line below (s = 1) or above (s = -1) all rates: what the clock comes further than it never goes back. -/
theorem line_mono {n : Nat} {tA tR : Nat → Int} (hT : Turns n tA tR) (s q : Int) (hq : ∀ i, i < n → 0 ≤ s * (tR i - q)) {a b : Int} (h0 : 0 ≤ a) (hab : a ≤ b) : s * (exT n tA tR a - q * a) ≤ s * (exT n tA tR b - q * b) := by
  have hstep : ∀ i, i + 1 < n → s * (exB tA tR i - q * tA i) ≤ s * (exB tA tR (i + 1) - q * tA (i + 1)) := fun i hi => by
    have h1 := hT.rise i hi
    have h2 := Int.mul_nonneg (show 0 ≤ tA (i + 1) - tA i by omega) (hq i (by omega))
    have e : s * (exB tA tR (i + 1) - q * tA (i + 1)) = s * (exB tA tR i - q * tA i) + (tA (i + 1) - tA i) * (s * (tR i - q)) := by rw [exB]; grind
    omega
  have hmono : ∀ i j, i ≤ j → j < n → s * (exB tA tR i - q * tA i) ≤ s * (exB tA tR j - q * tA j) := by
    intro i j hij
    induction j with
    | zero => intro _; obtain rfl : i = 0 := by omega
              exact Int.le_refl _
    | succ j ih =>
      intro hj
      rcases Nat.lt_or_ge i (j + 1) with h | h
      · exact Int.le_trans (ih (by omega) (by omega)) (hstep j hj)
      · obtain rfl : i = j + 1 := by omega
        exact Int.le_refl _
  have hpart : ∀ t j, exB tA tR j + (t - tA j) * tR j - q * t = (exB tA tR j - q * tA j) + (t - tA j) * (tR j - q) := fun t j => by grind
  have hp := pcV_lt tA a n hT.pos
  have hq' := pcV_lt tA b n hT.pos
  have hm := pc_mono hT h0 hab
  have ha := pc_le hT h0
  have hb := pc_le hT (show 0 ≤ b by omega)
  unfold exT
  rw [hpart, hpart, Int.mul_add, Int.mul_add]
  have ka : ∀ t j, s * ((t - tA j) * (tR j - q)) = (t - tA j) * (s * (tR j - q)) := fun t j => by grind
  rw [ka, ka]
  have kb := Int.mul_nonneg (show 0 ≤ b - tA (pcV tA b n) by omega) (hq _ hq')
  rcases Nat.lt_or_ge (pcV tA a n) (pcV tA b n) with h | h
  · have hn := pc_next hT (at_ := a) (i := pcV tA a n + 1) (by omega) (show pcV tA a n + 1 < n by omega)
    have h5 := hmono (pcV tA a n + 1) (pcV tA b n) (by omega) hq'
    have h6 := Int.mul_le_mul_of_nonneg_right (show a - tA (pcV tA a n) ≤ tA (pcV tA a n + 1) - tA (pcV tA a n) by omega) (hq _ hp)
    have e : s * (exB tA tR (pcV tA a n + 1) - q * tA (pcV tA a n + 1)) = s * (exB tA tR (pcV tA a n) - q * tA (pcV tA a n)) + (tA (pcV tA a n + 1) - tA (pcV tA a n)) * (s * (tR (pcV tA a n) - q)) := by rw [exB]; grind
    omega
  · have e : pcV tA b n = pcV tA a n := by omega
    rw [e]
    have h6 := Int.mul_le_mul_of_nonneg_right (show a - tA (pcV tA a n) ≤ b - tA (pcV tA a n) by omega) (hq _ hp)
    omega
theorem grows {S : Int} {n : Nat} {tA tR bs : Nat → Int} (hT : Turns n tA tR) (hB : Bases S n tA tR bs) {a m lo hi : Int} (h0 : 0 ≤ a) (h1 : 1 ≤ m) (h2 : a ≤ 549755813888) (h3 : m ≤ 549755813888)
    (hlo : 2181843386368 ≤ lo ∧ lo ≤ 2216203124736) (hhi : 2181843386368 ≤ hi ∧ hi ≤ 2216203124736) (hr : ∀ i, i < n → lo ≤ tR i ∧ tR i ≤ hi) :
    ∃ N M : Int, mulDivV m lo 2199023255552 2 = (N, 0) ∧ mulDivV m hi 2199023255552 2 = (M, 0) ∧ 0 ≤ N ∧ N ≤ 1099511627776 ∧ 0 ≤ M ∧ M ≤ 1099511627776 ∧
      (N - 1) * 65536 - 2 * n ≤ tellV n tA tR bs (a + m) - tellV n tA tR bs a ∧ tellV n tA tR bs (a + m) - tellV n tA tR bs a ≤ (M + 1) * 65536 + 2 * n ∧ tellV n tA tR bs a < tellV n tA tR bs (a + m) := by
  have e1 := exT_err hT hB h0 (by omega)
  have e2 := exT_err hT hB (t := a + m) (by omega) (by omega)
  have l1 := line_mono hT 1 lo (fun i hi' => by have := hr i hi'; omega) h0 (show a ≤ a + m by omega)
  have l2 := line_mono hT (-1) hi (fun i hi' => by have := hr i hi'; omega) h0 (show a ≤ a + m by omega)
  have hn := hT.most
  obtain ⟨N, hN, nN⟩ := md_near (a := m) (b := lo) (c := 2199023255552) (by omega) (by omega) (by omega) (by
    have : m * lo ≤ 549755813888 * 2216203124736 := Int.mul_le_mul h3 hlo.2 (by omega) (by omega)
    omega)
  obtain ⟨M, hM, nM⟩ := md_near (a := m) (b := hi) (c := 2199023255552) (by omega) (by omega) (by omega) (by
    have : m * hi ≤ 549755813888 * 2216203124736 := Int.mul_le_mul h3 hhi.2 (by omega) (by omega)
    omega)
  refine ⟨N, M, hN, hM, ?_⟩
  have p1 : 2181843386368 ≤ m * lo := by have := Int.mul_le_mul_of_nonneg_right h1 (show 0 ≤ lo by omega); omega
  have p2 : m * lo ≤ 549755813888 * 2216203124736 := Int.mul_le_mul h3 hlo.2 (by omega) (by omega)
  have p3 : m * hi ≤ 549755813888 * 2216203124736 := Int.mul_le_mul h3 hhi.2 (by omega) (by omega)
  have p4 : 2181843386368 ≤ m * hi := by have := Int.mul_le_mul_of_nonneg_right h1 (show 0 ≤ hi by omega); omega
  have q1 : lo * (a + m) = lo * a + m * lo := by grind
  have q2 : hi * (a + m) = hi * a + m * hi := by grind
  unfold Nr at nN nM
  rw [q1] at l1
  rw [q2] at l2
  generalize m * lo = P at *
  generalize m * hi = Q at *
  generalize lo * a = P0 at *
  generalize hi * a = Q0 at *
  generalize exT n tA tR a = X at *
  generalize exT n tA tR (a + m) = Y at *
  generalize tellV n tA tR bs a = U at *
  generalize tellV n tA tR bs (a + m) = V at *
  omega
set_option maxRecDepth 100000 in
set_option maxHeartbeats 4000000 in
theorem oscGrows_calls (x at_ m : Int) (A : Option Addr) (n c : Nat) (tA tR : Nat → Int) (w : World) (hT : TIn w A n tA tR) (hnc : n ≤ c) :
    Calls Try.prog 6 #[.int .i64 x, .slice A n c, .int .i64 at_, .int .i64 m] w fun e w' => e = .returned (.bool true) ∧ Below w.heap.size w w' := by
  have HT := Lib.hid hT
  clear hT
  by_cases hn : 64 < n
  · have dn : (64 : Int) < (n : Int) := by omega
    clear hn
    go_enter Try.func6, Try.ntmps6
    go_wp2_with fail
    refine (head_any _).mono ?_
    rintro e w1 ⟨rfl, b1⟩
    go_wp2_with fail
    go_ret
    exact ⟨rfl, b1⟩
  have dn : decide ((64 : Int) < (n : Int)) = false := by simp; omega
  have hok := fun h : newE x 1 n tA tR = 0 => new_ok h
  have HN1 := Lib.hid (fun W (h : TIn W A n tA tR) => new_any x 1 A n c tA tR W h)
  have HOK := Lib.hid hok
  generalize newE x 1 n tA tR = E at *
  have HN64 : Hid (n ≤ 64) := Lib.hid (by omega)
  clear hok hn
  go_enter Try.func6, Try.ntmps6
  go_wp2_with fail
  refine (head_any _).mono ?_
  rintro e w1 ⟨rfl, b1⟩
  have HT1 := Lib.hid (HT.out.below b1)
  clear HT
  go_wp2_with fail
  refine (HN1.out w1 HT1.out).mono ?_
  rintro e w2 ⟨h2, b2⟩
  have hb1 := b1.size
  have HT2 := Lib.hid (HT1.out.below b2)
  have bw2 := b1.trans (b2.mono hb1)
  clear HT1 HN1 b1 b2 hb1
  by_cases hE : E = 0
  · have ho := HOK.out hE
    rcases h2 with ⟨h, _⟩ | ⟨_, g, rfl, hgg, hC⟩
    · exact absurd hE h
    subst hE
    have HC := Lib.hid hC
    have HO := Lib.hid ho
    clear hC ho hgg HOK
    by_cases h1 : at_ < 0
    · go_wp2_with fail
      go_ret
      exact ⟨rfl, bw2⟩
    have d1 : decide (at_ < 0) = false := decide_eq_false h1
    by_cases h2 : m < 1
    · clear h1
      go_wp2_with fail
      go_ret
      exact ⟨rfl, bw2⟩
    have d2 : decide (m < 1) = false := decide_eq_false h2
    by_cases h3 : 549755813888 < at_
    · clear h1 h2
      go_wp2_with fail
      go_ret
      exact ⟨rfl, bw2⟩
    have d3 : decide (549755813888 < at_) = false := decide_eq_false h3
    by_cases h4 : 549755813888 < m
    · clear h1 h2 h3
      go_wp2_with fail
      go_ret
      exact ⟨rfl, bw2⟩
    have d4 : decide (549755813888 < m) = false := decide_eq_false h4
    have HX : Hid (0 ≤ at_ ∧ 1 ≤ m ∧ at_ ≤ 549755813888 ∧ m ≤ 549755813888) := Lib.hid ⟨by omega, by omega, by omega, by omega⟩
    obtain ⟨t2, ht2⟩ : ∃ t2, t2 = at_ + m := ⟨_, rfl⟩
    have ft : IntKind.i64.wrap (at_ + m) = t2 := by rw [← ht2]; exact IntWalk.i64_in _ ⟨by omega, by omega⟩
    have HT2E := Lib.hid ht2
    have HL2 : Hid (0 ≤ t2 ∧ t2 ≤ 1099511627776) := Lib.hid ⟨by omega, by omega⟩
    clear h1 h2 h3 h4 ht2
    go_wp2_with fail
    refine (at_any g at_ x n tA tR _ 1 w2 HC.out HO.out.1 HO.out.2.1 HX.out.1 (by have := HX.out; omega)).mono ?_
    rintro e w3 ⟨rfl, b3⟩
    have hb2 := bw2.size
    have bw3 := bw2.trans (b3.mono hb2)
    have HC3 := Lib.hid (HC.out.below b3)
    have HT3 := Lib.hid (HT2.out.below b3)
    clear HC HT2 b3 bw2 hb2 d1 d2 d3 d4
    go_wp2_with fail
    refine (at_any g t2 x n tA tR _ 1 w3 HC3.out HO.out.1 HO.out.2.1 HL2.out.1 HL2.out.2).mono ?_
    rintro e w4 ⟨rfl, b4⟩
    have hb3 := bw3.size
    have bw4 := bw3.trans (b4.mono hb3)
    have HT4 := Lib.hid (HT3.out.below b4)
    clear HC3 HT3 b4 bw3 hb3
    have hgr := fun lo hi (h1 : 2181843386368 ≤ lo ∧ lo ≤ 2216203124736) (h2 : 2181843386368 ≤ hi ∧ hi ≤ 2216203124736) hr => grows (lo := lo) (hi := hi) HO.out.1 HO.out.2.1 HX.out.1 HX.out.2.1 HX.out.2.2.1 HX.out.2.2.2 h1 h2 hr
    rw [← HT2E.out] at hgr
    have hlt : tellV n tA tR (baseV x tA tR) at_ < tellV n tA tR (baseV x tA tR) t2 := by
      obtain ⟨_, _, _, _, _, _, _, _, _, _, h⟩ := hgr 2181843386368 2216203124736 (by omega) (by omega) (fun i hi => HO.out.1.rate i hi)
      exact h
    have l1 := tell_lim HO.out.1 HO.out.2.1 HX.out.1 (by have := HX.out; omega)
    have l2 := tell_lim HO.out.1 HO.out.2.1 HL2.out.1 HL2.out.2
    have q1 := HO.out.2.1.low
    have q2 := HO.out.2.1.high
    have q3 := HL2.out
    have q4 := HX.out
    obtain ⟨V1, hV1⟩ : ∃ V1, V1 = tellV n tA tR (baseV x tA tR) at_ := ⟨_, rfl⟩
    obtain ⟨V2, hV2⟩ : ∃ V2, V2 = tellV n tA tR (baseV x tA tR) t2 := ⟨_, rfl⟩
    rw [← hV1, ← hV2] at hgr
    rw [← hV1] at l1 hlt ⊢
    rw [← hV2] at l2 hlt ⊢
    obtain ⟨D, hD⟩ : ∃ D, D = V2 - V1 := ⟨_, rfl⟩
    have fd : IntKind.i64.wrap (V2 - V1) = D := by rw [← hD]; exact IntWalk.i64_in _ ⟨by omega, by omega⟩
    have dle : decide (V2 ≤ V1) = false := decide_eq_false (by omega)
    rw [← hD] at hgr
    have HDB : Hid (-4611686018427387904 ≤ D ∧ D ≤ 4611686018427387904) := Lib.hid ⟨by omega, by omega⟩
    have HGR := Lib.hid hgr
    have HRT := Lib.hid HO.out.1.rate
    have hp0 := HO.out.1.pos
    have hT4 := HT4.out
    obtain ⟨ad, rfl, hal, hcl⟩ := HT4.out hp0
    have x1 : w4.cell? ⟨ad.block, ad.off + 1, none⟩ = some (.int .i64 (tR 0)) := by
      have := (hT4.at_ (k := 0) hp0).2
      have e : ad.add (0 * 2) = ad := by cases ad; simp [Addr.add]
      rw [e] at this
      exact this
    have hcl0 := hT4
    have HCL := Lib.hid hT4
    clear hT4 hcl hcl0 l1 l2 q1 q2 q3 q4 hD hlt hV1 hV2 hgr
    have HW := Lib.hid bw4
    go_wp2_with fail
    have HR0 : Hid (2181843386368 ≤ tR 0 ∧ tR 0 ≤ 2216203124736) := Lib.hid (HRT.out 0 hp0)
    generalize tR 0 = r0 at x1 HR0 ⊢
    have HBW := Lib.hid (Below.refl w4.heap.size w4)
    go_loopw [15, 16, 88] (fun lo hi i wr => ∃ (k : Nat) (l h : Int), i = .int .i64 (k : Nat) ∧ k ≤ n ∧ lo = .int .i64 l ∧ hi = .int .i64 h ∧ Hid ((2181843386368 ≤ l ∧ l ≤ 2216203124736) ∧ (2181843386368 ≤ h ∧ h ≤ 2216203124736) ∧ ∀ i, i < k → l ≤ tR i ∧ tR i ≤ h) ∧ Below w4.heap.size w4 wr) (fun _ _ i _ => n - (intOf i).toNat)
    case atStart => exact ⟨0, r0, r0, rfl, Nat.zero_le _, rfl, rfl, Lib.hid ⟨HR0.out, HR0.out, fun i hi => absurd hi (by omega)⟩, HBW.out⟩
    case round =>
      obtain ⟨k, l, h, rfl, hk, rfl, rfl, hsc, hb⟩ := hrel
      by_cases hlt : k < n
      · have hck : ∀ j v, (tcv tA tR k)[j]? = some v → wr.cell? ((ad.add (k * 2)).add j) = some v := fun j v h => by
          obtain ⟨ad', ha, _, hcl⟩ := (HCL.out.below hb) hp0
          injection ha with ha
          subst ha
          exact hcl k hlt j v h
        have HCK := Lib.hid hck
        have HB := Lib.hid hb
        have B5 := Blk.new wr 38 #[.int .i64 (tA k), .int .i64 (tR k)]
        have y1 := B5.cellOf (v := .int .i64 (tR k)) 1 rfl
        have sb : wr.heap.size < (wr.alloc (.cells #[.int .i64 (tA k), .int .i64 (tR k)] 38)).heap.size := by simp
        have HRK := Lib.hid (HRT.out k hlt)
        have L5 := hb.alloc (hb.size) (.cells #[.int .i64 (tA k), .int .i64 (tR k)] 38)
        have HL5 := Lib.hid L5
        clear hck hb B5 L5 x1
        go_wp2_with ((refine wpList_load_any_d rfl 38 (.tmp 90) rfl (ad.add (k * 2)) rfl #[.int .i64 (tA k), .int .i64 (tR k)] _ (fun j v h => HCK.out j v h) Try.underlying38 rfl (by kernel_rfl) ?_))
        go_roundw
        case rel =>
          have h64 := HN64.out
          refine ⟨k + 1, _, _, by first | rfl | (refine congrArg (Value.int IntKind.i64) ?_; rw [IntWalk.wrap64_in _ ⟨by omega, by omega⟩]; rfl), by omega, rfl, rfl, Lib.hid ⟨?_, ?_, ?_⟩, HL5.out⟩
          · have := HRK.out; have := hsc.out.1; omega
          · have := HRK.out; have := hsc.out.2.1; omega
          · intro i hi
            have h1 := HRK.out
            rcases Nat.lt_or_ge i k with h2 | h2
            · have := hsc.out.2.2 i h2; omega
            · obtain rfl : i = k := by omega
              omega
        case measure =>
          have h64 := HN64.out
          have hw : wrap64 ((k : Int) + 1) = ((k + 1 : Nat) : Int) := by rw [IntWalk.wrap64_in _ ⟨by omega, by omega⟩]; rfl
          clear dn fd dle ft
          rw [hw]
          show n - (((k + 1 : Nat) : Int)).toNat < n - ((k : Nat) : Int).toNat
          rw [Int.toNat_natCast, Int.toNat_natCast]
          omega
      · obtain rfl : k = n := by omega
        have dn : decide ((k : Int) < (k : Int)) = false := by simp
        obtain ⟨N, M, hN, hM, n1, n2, m1, m2, g1, g2, _⟩ := HGR.out l h hsc.out.1 hsc.out.2.1 hsc.out.2.2
        have B1 := by_any m l (by have := HX.out; unfold I64; omega) (by have := hsc.out.1; unfold I64; omega)
        have B2 := by_any m h (by have := HX.out; unfold I64; omega) (by have := hsc.out.2.1; unfold I64; omega)
        rw [hN] at B1
        rw [hM] at B2
        have HB1 := Lib.hid B1
        have HB2 := Lib.hid B2
        have hd := HDB.out
        have h64 := HN64.out
        obtain ⟨N1, e1⟩ : ∃ N1, N1 = N - 1 := ⟨_, rfl⟩
        obtain ⟨N2, e2⟩ : ∃ N2, N2 = N1 * 65536 := ⟨_, rfl⟩
        obtain ⟨K2, e3⟩ : ∃ K2, K2 = 2 * (k : Int) := ⟨_, rfl⟩
        obtain ⟨N3, e4⟩ : ∃ N3, N3 = N2 - K2 := ⟨_, rfl⟩
        obtain ⟨M1, e5⟩ : ∃ M1, M1 = M + 1 := ⟨_, rfl⟩
        obtain ⟨M2, e6⟩ : ∃ M2, M2 = M1 * 65536 := ⟨_, rfl⟩
        obtain ⟨M3, e7⟩ : ∃ M3, M3 = M2 + K2 := ⟨_, rfl⟩
        have f1 : IntKind.i64.wrap (N - 1) = N1 := by rw [← e1]; exact IntWalk.i64_in _ ⟨by omega, by omega⟩
        have f2 : IntKind.i64.wrap (N1 * 65536) = N2 := by rw [← e2]; exact IntWalk.i64_in _ ⟨by omega, by omega⟩
        have f3 : IntKind.i64.wrap (2 * (k : Int)) = K2 := by rw [← e3]; exact IntWalk.i64_in _ ⟨by omega, by omega⟩
        have f4 : IntKind.i64.wrap (N2 - K2) = N3 := by rw [← e4]; exact IntWalk.i64_in _ ⟨by omega, by omega⟩
        have f5 : IntKind.i64.wrap (M + 1) = M1 := by rw [← e5]; exact IntWalk.i64_in _ ⟨by omega, by omega⟩
        have f6 : IntKind.i64.wrap (M1 * 65536) = M2 := by rw [← e6]; exact IntWalk.i64_in _ ⟨by omega, by omega⟩
        have f7 : IntKind.i64.wrap (M2 + K2) = M3 := by rw [← e7]; exact IntWalk.i64_in _ ⟨by omega, by omega⟩
        have r1 : N3 ≤ D := by omega
        have r2 : D ≤ M3 := by omega
        have HBB := Lib.hid hb
        clear hN hM n1 n2 m1 m2 g1 g2 B1 B2 hd h64 e1 e2 e3 e4 e5 e6 e7 hb hlt hk x1
        go_wp2_with fail
        refine (HB1.out _).mono ?_
        rintro e w6 ⟨rfl, b6⟩
        have hs6 := HBB.out.size
        have HB6 := Lib.hid (HBB.out.trans (b6.mono hs6))
        clear b6 hs6 HB1 HBB
        go_wp2_with fail
        refine (HB2.out _).mono ?_
        rintro e w7 ⟨rfl, b7⟩
        have hs7 := HB6.out.size
        have HB7 := Lib.hid (HB6.out.trans (b7.mono hs7))
        have hs4 := HW.out.size
        have HB8 := Lib.hid (HW.out.trans (HB7.out.mono hs4))
        clear b7 hs7 HB2 HB6 HB7 hs4
        go_wp2_with fail
        go_ret
        exact ⟨rfl, HB8.out⟩
  · have d1 : (E != 0) = true := bne_iff_ne.2 hE
    have d2 : (E == 0) = false := beq_eq_false_iff_ne.2 hE
    rcases h2 with ⟨_, rfl⟩ | ⟨h, _⟩
    · clear HOK hE
      go_wp2_with fail
      go_ret
      exact ⟨rfl, bw2⟩
    · exact absurd h hE

/-! ### The row's step -/
set_option maxRecDepth 100000 in
theorem oscGrows_lifted (os : Os) (started : os.Started) (H : Type) (enc : TypeId × Value → H) :
    ReturnsInHanded {} Try.checked os 6 .any (Rows.oscGrowsSpec.pre6 enc Try.prog Try.f6 Rows.oscGrowsRow.domain false) (Rows.oscGrowsSpec.post enc Try.prog Try.f6 false true false false) := by
  refine returnsInHanded_of_change (C := Try.checked) own started (by kernel_rfl) Try.func6
    (ChangeSpec.witness6 (enc := enc) (C := Try.checked) false ⟨#[], #[.int .i64 0, .slice none 0 0, .int .i64 0, .int .i64 0], []⟩ 8 (by kernel_rfl) (by kernel_rfl) (by kernel_rfl) (by kernel_rfl)) ?_
  intro W base args ds gs before hval0 hW _ _
  have hval : ∀ (j : Nat) t v, Try.f6.params[j]? = some t → args[j]? = some v → Value.okWide Try.prog W .any base t v := hval0
  have hW' := hW
  obtain ⟨p, q, hA0, hV, rfl, hfz, hnd⟩ := hW
  have hA : DataW.TrodAll enc Try.prog W 0 (fun _ => true) true Try.f6.params.toList args.toList ds p := hA0
  rw [Try.params6] at hA hval
  obtain ⟨v0, v1, v2, v3, d0, d1, d2, d3, p0, p1, p2, p3, rfl, rfl, rfl, h0, h1, h2, h3⟩ := trodAll_four hA
  obtain ⟨a, rfl⟩ := okWide_int Try.underlying22 (hval 0 22 v0 rfl rfl)
  obtain ⟨A, n, c, tA, tR, rfl, hnc, hT, _⟩ := open_turns (hval 1 23 v1 rfl rfl) h1 (fun x hx => hW'.lt x (by simp [hx]))
  obtain ⟨t, rfl⟩ := okWide_int Try.underlying3 (hval 2 3 v2 rfl rfl)
  obtain ⟨m, rfl⟩ := okWide_int Try.underlying3 (hval 3 3 v3 rfl rfl)
  exact law_post laidOut (by kernel_rfl) rfl (by kernel_rfl) Try.underlying4 rfl hW' (oscGrows_calls a t m A n c tA tR W hT hnc)

theorem oscGrows_holds : Rows.OscGrowsSaid :=
  OpenClaim.holds_of_wide 6 Try.f6 rfl rfl rfl rfl rfl rfl rfl ⟨rfl, rfl, rfl, rfl, rfl⟩ rfl rfl rfl rfl rfl (by kernel_rfl) Try.func6 (by kernel_rfl)
    (of_decide_eq_true (by kernel_rfl)) (by unfold Func.isWrapper; first | (rw [if_pos (by decide +kernel)]; kernel_rfl) | (rw [if_neg (by decide +kernel)]; exact ⟨rfl, rfl⟩))
    (fun os started H enc _ => oscGrows_lifted os started H enc)

#print axioms oscGrows_holds
end Go.Proofs.Ytfpbahihndgabaa
