/-
  math/bits' Div64: what it gives.
-/
import Derived.Test.YtjjpmckefglhnaaLead
import Derived.Lib.BitFns
import Derived.Deep.DeepCutAuto
import Derived.Deep.CutBlock
namespace Go.Proofs.Ytjjpmckefglhnaa
open Go.RowKit
attribute [local go_sem ↓] Go.wp_at_zero Go.wp_at_succ

theorem orU_nat (a b : Nat) (ha : a < 18446744073709551616) (hb : b < 18446744073709551616) (hc : (a ||| b) < 18446744073709551616) : bits .or .u64 (a : Int) (b : Int) = ((a ||| b : Nat) : Int) := by
  have h : bits .or .u64 (a : Int) (b : Int) = IntKind.u64.wrap ((BitVec.ofInt 64 (a : Int) ||| BitVec.ofInt 64 (b : Int)).toNat : Int) := rfl
  rw [h, wrapU, BitVec.toNat_or, ofInt_u64 a ha, ofInt_u64 b hb]
  omega
theorem wrapLt {n : Nat} (h : n < 18446744073709551616) : IntKind.u64.wrap (n : Int) = (n : Int) := by rw [wrapN, Nat.mod_eq_of_lt h]
theorem pow_cast (s : Nat) : (2 : Int) ^ s = ((2 ^ s : Nat) : Int) := by rw [Int.natCast_pow]; rfl

set_option maxHeartbeats 4000000 in
theorem div64_big (hi lo y s : Nat) (hs : Lib.bitLen y + s = 64) (h0 : 0 < hi) (hhi : hi < y) (hlo : lo < 18446744073709551616) (hy : y < 18446744073709551616) (w : World) :
    Calls Try.prog 45 #[.int .u64 hi, .int .u64 lo, .int .u64 y] w fun e w' => e = .returned (.tuple #[.int .u64 (((hi * 18446744073709551616 + lo) / y : Nat) : Int), .int .u64 (((hi * 18446744073709551616 + lo) % y : Nat) : Int)]) ∧ w = w' := by
  have hs64 : s ≤ 64 := by omega
  obtain ⟨hY63, hY64⟩ := Dv.norm_y (by omega : 0 < y) hy hs
  obtain ⟨hL, hV⟩ := Dv.norm_lo hs64 hlo
  obtain ⟨hH64, hor, hu, hN⟩ := Dv.norm_hi hs64 hhi hlo hY64
  have hNend := Dv.norm_end (y := y) hN
  obtain ⟨Y, hYd⟩ : ∃ Y, Y = y * 2 ^ s := ⟨_, rfl⟩
  obtain ⟨v, hvd⟩ : ∃ v, v = lo * 2 ^ s % 18446744073709551616 := ⟨_, rfl⟩
  obtain ⟨H, hHd⟩ : ∃ H, H = hi * 2 ^ s := ⟨_, rfl⟩
  obtain ⟨L, hLd⟩ : ∃ L, L = lo / 2 ^ (64 - s) := ⟨_, rfl⟩
  rw [← hYd] at hY63 hY64 hu hNend
  rw [← hvd, ← hHd, ← hLd] at hNend
  rw [← hHd, ← hLd] at hor hu
  rw [← hHd] at hH64
  have hvlt : v < 18446744073709551616 := by omega
  have eY : IntKind.u64.wrap ((y : Int) * 2 ^ s) = (Y : Int) := by rw [pow_cast, ← Int.natCast_mul, ← hYd, wrapLt hY64]
  have eV : IntKind.u64.wrap ((lo : Int) * 2 ^ s) = (v : Int) := by rw [pow_cast, ← Int.natCast_mul, wrapN, ← hvd]
  have eH : IntKind.u64.wrap ((hi : Int) * 2 ^ s) = (H : Int) := by rw [pow_cast, ← Int.natCast_mul, ← hHd, wrapLt hH64]
  have eL : (lo : Int) / 2 ^ (64 - s) = (L : Int) := by rw [pow_cast, hLd]; rfl
  have hLlt : L < 18446744073709551616 := by rw [hLd]; exact Nat.lt_of_le_of_lt (Nat.div_le_self _ _) hlo
  obtain ⟨u, hud⟩ : ∃ u, u = H + L := ⟨_, rfl⟩
  rw [← hud] at hor hu hNend
  have eU : bits .or .u64 (H : Int) (L : Int) = (u : Int) := by rw [orU_nat H L hH64 hLlt (by rw [hor]; omega), hor]
  obtain ⟨y1, hy1d⟩ : ∃ y1, y1 = Y / 4294967296 := ⟨_, rfl⟩
  obtain ⟨y0, hy0d⟩ : ∃ y0, y0 = Y % 4294967296 := ⟨_, rfl⟩
  obtain ⟨u1, hu1d⟩ : ∃ u1, u1 = v / 4294967296 := ⟨_, rfl⟩
  obtain ⟨u0, hu0d⟩ : ∃ u0, u0 = v % 4294967296 := ⟨_, rfl⟩
  have eY1 : (Y : Int) / 4294967296 = (y1 : Int) := by rw [divN, hy1d]
  have eY0 : bits .and .u64 (Y : Int) 4294967295 = (y0 : Int) := by rw [andU Y hY64, hy0d]
  have eV1 : (v : Int) / 4294967296 = (u1 : Int) := by rw [divN, hu1d]
  have eV0 : bits .and .u64 (v : Int) 4294967295 = (u0 : Int) := by rw [andU v hvlt, hu0d]
  have hYs : Y = y1 * 4294967296 + y0 := by omega
  have hvs : v = u1 * 4294967296 + u0 := by omega
  have by1 : 2147483648 ≤ y1 := by omega
  have by1' : y1 < 4294967296 := by omega
  have by0 : y0 < 4294967296 := by omega
  have bu1 : u1 < 4294967296 := by omega
  have bu0 : u0 < 4294967296 := by omega
  obtain ⟨a, had⟩ : ∃ a, a = u / y1 := ⟨_, rfl⟩
  obtain ⟨c, hcd⟩ : ∃ c, c = a * y1 := ⟨_, rfl⟩
  obtain ⟨r, hrd⟩ : ∃ r, r = u % y1 := ⟨_, rfl⟩
  have hult : u < 18446744073709551616 := by omega
  have hacr : c + r = u := by rw [hcd, hrd, had, Nat.mul_comm]; exact Nat.div_add_mod u y1
  have eA : IntKind.u64.wrap ((u : Int) / (y1 : Int)) = (a : Int) := by
    rw [show (u : Int) / (y1 : Int) = ((u / y1 : Nat) : Int) from rfl, wrapLt (Nat.lt_of_le_of_lt (Nat.div_le_self _ _) hult), had]
  have eC : IntKind.u64.wrap ((a : Int) * (y1 : Int)) = (c : Int) := by rw [← Int.natCast_mul, ← hcd, wrapLt (by omega)]
  have eR : IntKind.u64.wrap ((u : Int) - (c : Int)) = (r : Int) := by rw [show (u : Int) - (c : Int) = (r : Int) from by omega, wrapLt (by omega)]
  have hinv : Dv.Inv u u1 y1 y0 a r := by rw [had, hrd]; exact Dv.inv_start (by omega) by0 (by omega) bu1
  have hrlt : r < 4294967296 := by rw [hrd]; exact Nat.lt_trans (Nat.mod_lt _ (by omega)) by1'
  have HINV := Lib.hid hinv
  have hlz := fun W => lz64_any y hy W
  rw [show (64 : Int) - (Lib.bitLen y : Int) = (s : Int) from by omega] at hlz
  have HLZ := Lib.hid hlz
  have HF2 := Lib.hid (And.intro (show u < y1 * 4294967296 + y0 by omega) hYs)
  have HALL := Lib.hid (And.intro hNend (And.intro hYs (And.intro hvs (And.intro hu (And.intro hY64 (And.intro hhi (And.intro hy hlo)))))))
  have t1 : ((hi : Int) == 0) = false := beq_eq_false_iff_ne.2 (by omega)
  have t2 : ((y : Int) == 0) = false := beq_eq_false_iff_ne.2 (by omega)
  have t3 : ¬ ((y1 : Int) = 0) := by omega
  have t4 : ¬ y ≤ hi := by omega
  clear had hcd hrd hult hacr hinv hlz hs hY63 hL hV hor hu hN hNend hYd hvd hHd hLd hud hy1d hy0d hu1d hu0d hYs hvs hH64 hLlt hvlt hY64 h0 hhi
  go_enter Try.func45, Try.ntmps45
  go_wp2_with fail
  refine (HLZ.out _).mono ?_
  rintro e w1 ⟨rfl, rfl⟩
  go_upto_block 0 with fail
  go_cut [15, 16] (fun sq _ wx => sq = .int .u64 ((u * 4294967296 + u1) / Y : Nat) ∧ w = wx)
  case first =>
    go_wp2_with fail
    go_loop [15, 16] (fun sq sr => ∃ q r : Nat, sq = .int .u64 q ∧ sr = .int .u64 r ∧ Hid (Dv.Inv u u1 y1 y0 q r) ∧ r < 4294967296) (fun sq _ => (intOf sq).toNat)
    case atStart => exact ⟨a, r, rfl, rfl, HINV.out, hrlt⟩
    case round =>
      clear eA eC eR hrlt
      obtain ⟨q, r, rfl, rfl, hi_, hr⟩ := hrel
      have hq1 : q ≤ 4294967297 := hi_.out.2.2
      obtain ⟨p, hpd⟩ : ∃ p, p = q * y0 := ⟨_, rfl⟩
      have hp : p ≤ 4294967297 * 4294967295 := by rw [hpd]; exact Nat.mul_le_mul hq1 (by omega)
      obtain ⟨b, hbd⟩ : ∃ b, b = 4294967296 * r := ⟨_, rfl⟩
      obtain ⟨d, hdd⟩ : ∃ d, d = b + u1 := ⟨_, rfl⟩
      have eP : IntKind.u64.wrap ((q : Int) * (y0 : Int)) = (p : Int) := by rw [← Int.natCast_mul, ← hpd, wrapLt (by omega)]
      have eB : IntKind.u64.wrap (4294967296 * (r : Int)) = (b : Int) := by rw [show (4294967296 : Int) * (r : Int) = (b : Int) from by omega, wrapLt (by omega)]
      have eD : IntKind.u64.wrap ((b : Int) + (u1 : Int)) = (d : Int) := by rw [show (b : Int) + (u1 : Int) = (d : Int) from by omega, wrapLt (by omega)]
      have HF := Lib.hid (And.intro hpd (And.intro hbd hdd))
      have down : (4294967296 ≤ q ∨ 4294967296 * r + u1 < q * y0) → 0 < q ∧ Dv.Inv u u1 y1 y0 (q - 1) (r + y1) := fun h => Dv.inv_down HF2.out.1 bu1 hi_.out h
      have fin : q * y0 ≤ 4294967296 * r + u1 → q = (u * 4294967296 + u1) / Y := fun h => by rw [HF2.out.2]; exact Dv.inv_end by1 hi_.out h
      have brk : Dv.Inv u u1 y1 y0 (q - 1) (r + y1) → 4294967296 ≤ r + y1 → q - 1 = (u * 4294967296 + u1) / Y := fun h h2 => by rw [HF2.out.2]; exact Dv.inv_break by1 by0 h (by omega) h2
      have HDF := Lib.hid (And.intro down (And.intro fin brk))
      clear hpd hbd hdd down fin brk hp
      have go : (4294967296 ≤ q ∨ d < p) → (4294967296 ≤ q ∨ 4294967296 * r + u1 < q * y0) := fun h => by
        obtain ⟨h1, h2, h3⟩ := HF.out
        omega
      have HGO := Lib.hid go
      clear go
      by_cases hc : 4294967296 ≤ q ∨ d < p
      · obtain ⟨hq0, hinv2⟩ := HDF.out.1 (HGO.out hc)
        obtain ⟨q', hq'⟩ : ∃ q', q' = q - 1 := ⟨_, rfl⟩
        obtain ⟨r', hr'⟩ : ∃ r', r' = r + y1 := ⟨_, rfl⟩
        have eQ : IntKind.u64.wrap ((q : Int) - 1) = (q' : Int) := by rw [show (q : Int) - 1 = (q' : Int) from by omega, wrapLt (by omega)]
        have eR' : IntKind.u64.wrap ((r : Int) + (y1 : Int)) = (r' : Int) := by rw [show (r : Int) + (y1 : Int) = (r' : Int) from by omega, wrapLt (by omega)]
        have hlt' : q' < q := by omega
        have hfin := HDF.out.2.2 hinv2
        rw [← hq', ← hr'] at hinv2 hfin
        have HI2 := Lib.hid (And.intro hinv2 hfin)
        clear hinv2 hfin hq' hr' hq1
        by_cases hr2 : 4294967296 ≤ r'
        · have hr2i : (4294967296 : Int) ≤ (r' : Int) := by omega
          by_cases hq : 4294967296 ≤ q
          · have hqi : (4294967296 : Int) ≤ (q : Int) := by omega
            clear hc
            go_wp2_with fail
            go_meet
            exact ⟨by rw [HI2.out.2 hr2], rfl⟩
          · have dq : decide ((4294967296 : Int) ≤ (q : Int)) = false := by simp; omega
            have dq2 : decide (4294967296 ≤ q) = false := by simp; omega
            have hdp : d < p := by omega
            clear hc
            go_wp2_with fail
            go_meet
            exact ⟨by rw [HI2.out.2 hr2], rfl⟩
        · have dr : decide ((4294967296 : Int) ≤ (r' : Int)) = false := by simp; omega
          have dr2 : decide (4294967296 ≤ r') = false := by simp; omega
          by_cases hq : 4294967296 ≤ q
          · have hqi : (4294967296 : Int) ≤ (q : Int) := by omega
            clear hc
            go_wp2_with fail
            go_round
            case rel => exact ⟨q', r', rfl, rfl, HI2.out.1, by omega⟩
            case measure => simp [intOf]; omega
          · have dq : decide ((4294967296 : Int) ≤ (q : Int)) = false := by simp; omega
            have dq2 : decide (4294967296 ≤ q) = false := by simp; omega
            have hdp : d < p := by omega
            clear hc
            go_wp2_with fail
            go_round
            case rel => exact ⟨q', r', rfl, rfl, HI2.out.1, by omega⟩
            case measure => simp [intOf]; omega
      · have dq : decide ((4294967296 : Int) ≤ (q : Int)) = false := by simp; omega
        have dq2 : decide (4294967296 ≤ q) = false := by simp; omega
        have dp : decide (d < p) = false := by simp; omega
        have hle : q * y0 ≤ 4294967296 * r + u1 := by
          obtain ⟨h1, h2, h3⟩ := HF.out
          omega
        have HLE := Lib.hid hle
        clear hc hle
        go_wp2_with fail
        go_meet
        exact ⟨by rw [HDF.out.2.1 HLE.out], rfl⟩
  case rest =>
    obtain ⟨Q1, hQ1⟩ : ∃ Q1, Q1 = (u * 4294967296 + u1) / Y := ⟨_, rfl⟩
    obtain ⟨R, hR⟩ : ∃ R, R = (u * 4294967296 + u1) % Y := ⟨_, rfl⟩
    rw [← hQ1] at hcut
    obtain ⟨rfl, rfl⟩ := hcut
    obtain ⟨hNend, hYs, hvs, hu, hY64, hhi, hy', hlo'⟩ := HALL.out
    have hYpos : 0 < Y := by omega
    have hRY : R < Y := by rw [hR]; exact Nat.mod_lt _ hYpos
    obtain ⟨TT, hTT⟩ : ∃ TT, TT = Q1 * Y := ⟨_, rfl⟩
    have hQR : TT + R = u * 4294967296 + u1 := by rw [hTT, hQ1, hR, Nat.mul_comm]; exact Nat.div_add_mod _ _
    obtain ⟨m1, hm1⟩ : ∃ m1, m1 = u * 4294967296 % 18446744073709551616 := ⟨_, rfl⟩
    obtain ⟨m2, hm2⟩ : ∃ m2, m2 = (m1 + u1) % 18446744073709551616 := ⟨_, rfl⟩
    obtain ⟨m3, hm3⟩ : ∃ m3, m3 = TT % 18446744073709551616 := ⟨_, rfl⟩
    have eW1 : IntKind.u64.wrap ((u : Int) * 4294967296) = (m1 : Int) := by rw [wrapU]; omega
    have eW2 : IntKind.u64.wrap ((m1 : Int) + (u1 : Int)) = (m2 : Int) := by rw [wrapU]; omega
    have eW3 : IntKind.u64.wrap ((Q1 : Int) * (Y : Int)) = (m3 : Int) := by rw [← Int.natCast_mul, ← hTT, wrapN, hm3]
    have eW4 : IntKind.u64.wrap ((m2 : Int) - (m3 : Int)) = (R : Int) := by rw [wrapU]; omega
    obtain ⟨a2, had2⟩ : ∃ a2, a2 = R / y1 := ⟨_, rfl⟩
    obtain ⟨c2, hcd2⟩ : ∃ c2, c2 = a2 * y1 := ⟨_, rfl⟩
    obtain ⟨r2, hrd2⟩ : ∃ r2, r2 = R % y1 := ⟨_, rfl⟩
    have hacr2 : c2 + r2 = R := by rw [hcd2, hrd2, had2, Nat.mul_comm]; exact Nat.div_add_mod R y1
    have eA2 : IntKind.u64.wrap ((R : Int) / (y1 : Int)) = (a2 : Int) := by
      rw [show (R : Int) / (y1 : Int) = ((R / y1 : Nat) : Int) from rfl, wrapLt (Nat.lt_of_le_of_lt (Nat.div_le_self _ _) (by omega)), had2]
    have eC2 : IntKind.u64.wrap ((a2 : Int) * (y1 : Int)) = (c2 : Int) := by rw [← Int.natCast_mul, ← hcd2, wrapLt (by omega)]
    have eR2 : IntKind.u64.wrap ((R : Int) - (c2 : Int)) = (r2 : Int) := by rw [show (R : Int) - (c2 : Int) = (r2 : Int) from by omega, wrapLt (by omega)]
    have hinv2 : Dv.Inv R u0 y1 y0 a2 r2 := by rw [had2, hrd2]; exact Dv.inv_start (by omega) by0 (by omega) bu0
    have hrlt2 : r2 < 4294967296 := by rw [hrd2]; exact Nat.lt_trans (Nat.mod_lt _ (by omega)) by1'
    have HINV2 := Lib.hid hinv2
    have HF3 := Lib.hid (And.intro (show R < y1 * 4294967296 + y0 by omega) hYs)
    have HQ := Lib.hid (And.intro hQ1 (And.intro hR (And.intro hTT (And.intro hQR hRY))))
    clear hQ1 hR hNend hYs hvs hu hY64 hhi hy' hlo' hYpos hRY hTT hQR hm1 hm2 hm3 had2 hcd2 hrd2 hacr2 hinv2
    go_upto_block 2 with fail
    go_cut [18, 16] (fun sq _ wx => sq = .int .u64 ((R * 4294967296 + u0) / Y : Nat) ∧ w = wx)
    case first =>
      go_wp2_with fail
      go_loop [18, 16] (fun sq sr => ∃ q r : Nat, sq = .int .u64 q ∧ sr = .int .u64 r ∧ Hid (Dv.Inv R u0 y1 y0 q r) ∧ r < 4294967296) (fun sq _ => (intOf sq).toNat)
      case atStart => exact ⟨a2, r2, rfl, rfl, HINV2.out, hrlt2⟩
      case round =>
        clear eW1 eW2 eW3 eW4 eA2 eC2 eR2 hrlt2
        obtain ⟨q, r, rfl, rfl, hi_, hr⟩ := hrel
        have hq1 : q ≤ 4294967297 := hi_.out.2.2
        obtain ⟨p, hpd⟩ : ∃ p, p = q * y0 := ⟨_, rfl⟩
        have hp : p ≤ 4294967297 * 4294967295 := by rw [hpd]; exact Nat.mul_le_mul hq1 (by omega)
        obtain ⟨b, hbd⟩ : ∃ b, b = 4294967296 * r := ⟨_, rfl⟩
        obtain ⟨d, hdd⟩ : ∃ d, d = b + u0 := ⟨_, rfl⟩
        have eP : IntKind.u64.wrap ((q : Int) * (y0 : Int)) = (p : Int) := by rw [← Int.natCast_mul, ← hpd, wrapLt (by omega)]
        have eB : IntKind.u64.wrap (4294967296 * (r : Int)) = (b : Int) := by rw [show (4294967296 : Int) * (r : Int) = (b : Int) from by omega, wrapLt (by omega)]
        have eD : IntKind.u64.wrap ((b : Int) + (u0 : Int)) = (d : Int) := by rw [show (b : Int) + (u0 : Int) = (d : Int) from by omega, wrapLt (by omega)]
        have HF := Lib.hid (And.intro hpd (And.intro hbd hdd))
        have down : (4294967296 ≤ q ∨ 4294967296 * r + u0 < q * y0) → 0 < q ∧ Dv.Inv R u0 y1 y0 (q - 1) (r + y1) := fun h => Dv.inv_down HF3.out.1 bu0 hi_.out h
        have fin : q * y0 ≤ 4294967296 * r + u0 → q = (R * 4294967296 + u0) / Y := fun h => by rw [HF3.out.2]; exact Dv.inv_end by1 hi_.out h
        have brk : Dv.Inv R u0 y1 y0 (q - 1) (r + y1) → 4294967296 ≤ r + y1 → q - 1 = (R * 4294967296 + u0) / Y := fun h h2 => by rw [HF3.out.2]; exact Dv.inv_break by1 by0 h (by omega) h2
        have HDF := Lib.hid (And.intro down (And.intro fin brk))
        clear hpd hbd hdd down fin brk hp
        have go : (4294967296 ≤ q ∨ d < p) → (4294967296 ≤ q ∨ 4294967296 * r + u0 < q * y0) := fun h => by
          obtain ⟨h1, h2, h3⟩ := HF.out
          omega
        have HGO := Lib.hid go
        clear go
        by_cases hc : 4294967296 ≤ q ∨ d < p
        · obtain ⟨hq0, hinv2⟩ := HDF.out.1 (HGO.out hc)
          obtain ⟨q', hq'⟩ : ∃ q', q' = q - 1 := ⟨_, rfl⟩
          obtain ⟨r', hr'⟩ : ∃ r', r' = r + y1 := ⟨_, rfl⟩
          have eQ : IntKind.u64.wrap ((q : Int) - 1) = (q' : Int) := by rw [show (q : Int) - 1 = (q' : Int) from by omega, wrapLt (by omega)]
          have eR' : IntKind.u64.wrap ((r : Int) + (y1 : Int)) = (r' : Int) := by rw [show (r : Int) + (y1 : Int) = (r' : Int) from by omega, wrapLt (by omega)]
          have hlt' : q' < q := by omega
          have hfin := HDF.out.2.2 hinv2
          rw [← hq', ← hr'] at hinv2 hfin
          have HI2 := Lib.hid (And.intro hinv2 hfin)
          clear hinv2 hfin hq' hr' hq1
          by_cases hr2 : 4294967296 ≤ r'
          · have hr2i : (4294967296 : Int) ≤ (r' : Int) := by omega
            by_cases hq : 4294967296 ≤ q
            · have hqi : (4294967296 : Int) ≤ (q : Int) := by omega
              clear hc
              go_wp2_with fail
              go_meet
              exact ⟨by rw [HI2.out.2 hr2], rfl⟩
            · have dq : decide ((4294967296 : Int) ≤ (q : Int)) = false := by simp; omega
              have dq2 : decide (4294967296 ≤ q) = false := by simp; omega
              have hdp : d < p := by omega
              clear hc
              go_wp2_with fail
              go_meet
              exact ⟨by rw [HI2.out.2 hr2], rfl⟩
          · have dr : decide ((4294967296 : Int) ≤ (r' : Int)) = false := by simp; omega
            have dr2 : decide (4294967296 ≤ r') = false := by simp; omega
            by_cases hq : 4294967296 ≤ q
            · have hqi : (4294967296 : Int) ≤ (q : Int) := by omega
              clear hc
              go_wp2_with fail
              go_round
              case rel => exact ⟨q', r', rfl, rfl, HI2.out.1, by omega⟩
              case measure => simp [intOf]; omega
            · have dq : decide ((4294967296 : Int) ≤ (q : Int)) = false := by simp; omega
              have dq2 : decide (4294967296 ≤ q) = false := by simp; omega
              have hdp : d < p := by omega
              clear hc
              go_wp2_with fail
              go_round
              case rel => exact ⟨q', r', rfl, rfl, HI2.out.1, by omega⟩
              case measure => simp [intOf]; omega
        · have dq : decide ((4294967296 : Int) ≤ (q : Int)) = false := by simp; omega
          have dq2 : decide (4294967296 ≤ q) = false := by simp; omega
          have dp : decide (d < p) = false := by simp; omega
          have hle : q * y0 ≤ 4294967296 * r + u0 := by
            obtain ⟨h1, h2, h3⟩ := HF.out
            omega
          have HLE := Lib.hid hle
          clear hc hle
          go_wp2_with fail
          go_meet
          exact ⟨by rw [HDF.out.2.1 HLE.out], rfl⟩
    case rest =>
      obtain ⟨Q0, hQ0⟩ : ∃ Q0, Q0 = (R * 4294967296 + u0) / Y := ⟨_, rfl⟩
      rw [← hQ0] at hcut
      obtain ⟨rfl, rfl⟩ := hcut
      obtain ⟨hNend, hYs, hvs, hu, hY64, hhi, hy', hlo'⟩ := HALL.out
      obtain ⟨hQ1, hR, hTT, hQR, hRY⟩ := HQ.out
      have hYpos : 0 < Y := by omega
      obtain ⟨R0, hR0⟩ : ∃ R0, R0 = (R * 4294967296 + u0) % Y := ⟨_, rfl⟩
      obtain ⟨T2, hT2⟩ : ∃ T2, T2 = Q0 * Y := ⟨_, rfl⟩
      have hQR0 : T2 + R0 = R * 4294967296 + u0 := by rw [hT2, hQ0, hR0, Nat.mul_comm]; exact Nat.div_add_mod _ _
      have hR0Y : R0 < Y := by rw [hR0]; exact Nat.mod_lt _ hYpos
      have hw : (u * 4294967296 + u1) * 4294967296 + u0 = u * 18446744073709551616 + v := by omega
      have hquo : Q1 * 4294967296 + Q0 = (hi * 18446744073709551616 + lo) / y := by
        rw [← hNend.1, ← hw, hQ1, hQ0, hR]
        exact Dv.two_digits hYpos
      have hrem : R0 / 2 ^ s = (hi * 18446744073709551616 + lo) % y := by
        rw [← hNend.2, ← hw, hR0, hR, Dv.two_rest]
      have hqlt : Q1 * 4294967296 + Q0 < 18446744073709551616 := by
        rw [hquo]
        refine (Nat.div_lt_iff_lt_mul (by omega)).2 ?_
        omega
      obtain ⟨n1, hn1⟩ : ∃ n1, n1 = R * 4294967296 % 18446744073709551616 := ⟨_, rfl⟩
      obtain ⟨n2, hn2⟩ : ∃ n2, n2 = (n1 + u0) % 18446744073709551616 := ⟨_, rfl⟩
      obtain ⟨n3, hn3⟩ : ∃ n3, n3 = T2 % 18446744073709551616 := ⟨_, rfl⟩
      obtain ⟨k1, hk1⟩ : ∃ k1, k1 = Q1 * 4294967296 := ⟨_, rfl⟩
      obtain ⟨k2, hk2⟩ : ∃ k2, k2 = k1 + Q0 := ⟨_, rfl⟩
      have eX1 : IntKind.u64.wrap ((R : Int) * 4294967296) = (n1 : Int) := by rw [wrapU]; omega
      have eX2 : IntKind.u64.wrap ((n1 : Int) + (u0 : Int)) = (n2 : Int) := by rw [wrapU]; omega
      have eX3 : IntKind.u64.wrap ((Q0 : Int) * (Y : Int)) = (n3 : Int) := by rw [← Int.natCast_mul, ← hT2, wrapN, hn3]
      have eX4 : IntKind.u64.wrap ((n2 : Int) - (n3 : Int)) = (R0 : Int) := by rw [wrapU]; omega
      have eX5 : IntKind.u64.wrap ((Q1 : Int) * 4294967296) = (k1 : Int) := by rw [wrapU]; omega
      have eX6 : IntKind.u64.wrap ((k1 : Int) + (Q0 : Int)) = (k2 : Int) := by rw [wrapU]; omega
      obtain ⟨fin, hfin⟩ : ∃ fin, fin = R0 / 2 ^ s := ⟨_, rfl⟩
      have eX7 : (R0 : Int) / 2 ^ s = (fin : Int) := by rw [pow_cast, hfin]; rfl
      have HE := Lib.hid (And.intro (show k2 = (hi * 18446744073709551616 + lo) / y by omega) (show fin = (hi * 18446744073709551616 + lo) % y by rw [hfin, hrem]))
      clear hQ0 hNend hYs hvs hu hY64 hhi hy' hlo' hQ1 hR hTT hQR hRY hYpos hR0 hT2 hQR0 hR0Y hw hquo hrem hqlt hn1 hn2 hn3 hk1 hk2 hfin
      clear eW1 eW2 eW3 eW4 eA2 eC2 eR2 eA eC eR eY eV eH eL eU eY1 eY0 eV1 eV0
      go_wp2_with fail
      go_ret2
      exact ⟨by rw [← HE.out.1, ← HE.out.2]; rfl, rfl⟩
end Go.Proofs.Ytjjpmckefglhnaa
