/-
  SyncChain: for any rates, delays and times the law returns true: from clock to clock the last one tells the first one's time; the arguments read as they did. No condition.
-/
import Derived.Test.YtbkflmeijjcnhaaChainL
namespace Go.Proofs.Ytbkflmeijjcnhaa
set_option linter.unusedSimpArgs false
set_option linter.unusedVariables false
open Go.RowKit Go.WideShapes Go.ChangeShapes
attribute [local go_sem ↓] Go.wp_at_zero Go.wp_at_succ

set_option maxHeartbeats 2000000 in
set_option maxRecDepth 100000 in
theorem open_ints {H : Type} {enc : TypeId × Value → H} {W : World} {v : Value} {d : DataW H} {p : List MemPlace} {b0 : Nat} (hv : Value.okWide Try.prog W .any b0 31 v)
    (h : DataW.Trod enc Try.prog W 0 (fun _ => true) true 31 v d p) (hlt : ∀ x ∈ p, x.block < W.heap.size) :
    ∃ (A : Option Addr) (n c : Nat) (xs : List Value) (f : Nat → Int), v = .slice A n c ∧ n ≤ maxLen ∧ Reads W W.heap.size 1 A n xs ∧ ∀ i, i < n → xs[i]? = some (.int .i64 (f i)) := by
  obtain ⟨A, n, c, xs, rfl, h1, h2, _, hr, hall⟩ := open_slice_arg (n := 5) (ls := [3]) Try.underlying31 (by kernel_rfl) (by kernel_rfl) rfl hv h hlt
  have key : ∀ i, ∃ x : Int, i < n → xs[i]? = some (.int .i64 x) := fun i => by
    by_cases hi : i < n
    · have ha := hall i hi
      have hl : i < xs.length := by have := hr.1; simp only [List.length_singleton] at this; omega
      simp only [List.length_singleton, Nat.mul_one] at ha
      rw [List.drop_eq_getElem_cons hl] at ha
      obtain ⟨l0, _⟩ := ha
      obtain ⟨n0, h0, _⟩ := l0.i64 Try.underlying3
      exact ⟨n0, fun _ => by rw [List.getElem?_eq_getElem hl, h0]⟩
    · exact ⟨0, fun h => absurd h hi⟩
  exact ⟨A, n, c, xs, fun i => Classical.choose (key i), rfl, by omega, hr, fun i hi => Classical.choose_spec (key i) hi⟩
def chRs (f : Nat → Int) (k : Nat) : Int := if k = 0 then 2199023255552 else 2199023255552 + (f (k - 1) % 128 - 64) * 2199023
theorem chRs_ok (f : Nat → Int) : Rs (chRs f) := ⟨rfl, fun k => by
  unfold Near chRs
  split
  · omega
  · have := Int.emod_nonneg (f (k - 1)) (show (128 : Int) ≠ 0 by omega)
    have := Int.emod_lt_of_pos (f (k - 1)) (show (0 : Int) < 128 by omega)
    omega⟩
set_option maxRecDepth 100000 in
set_option maxHeartbeats 4000000 in
theorem tellc_any (f : Nat → Int) (A : Option Addr) (n c pb k : Nat) (ns : Int) (xs : List Value) (w : World) (B : Nat) (S : Blk w pb 31 #[.slice A n c]) (hr : Reads w B 1 A n xs) (hf : ∀ i, i < n → xs[i]? = some (.int .i64 (f i))) (hn : n ≤ 6) (hk : k ≤ n) (h0 : 0 ≤ ns ∧ ns ≤ 30000000) :
    Calls Try.prog 22 #[.int .i64 k, .int .i64 ns, .pointer (some ⟨pb, 0, none⟩)] w fun e w' => e = .returned (.int .i64 (byN (chRs f k) (ns * 65536))) ∧ Below w.heap.size w w' := by
  have hnr := (chRs_ok f).near k
  obtain ⟨c1, c2, _, _, c5⟩ := by_near hnr h0.1 h0.2
  have hb := by_any (ns * 65536) (chRs f k) (by unfold I64; omega) (by have h1 := hnr.1; have h2 := hnr.2; unfold I64; omega) w
  rw [c1] at hb
  have f1 : IntKind.i64.wrap (ns * 65536) = ns * 65536 := wrap_of (by omega) (by omega)
  have HB := Lib.hid hb
  generalize byN (chRs f k) (ns * 65536) = V at *
  clear c1 c2 c5 hb h0
  rcases Nat.eq_zero_or_pos k with rfl | hp
  · have HR : Hid (chRs f 0 = 2199023255552) := Lib.hid rfl
    rw [HR.out] at HB
    clear hnr
    go_enter Try.func22, Try.ntmps22
    go_wp2_with fail
    refine HB.out.mono ?_
    rintro e w1 ⟨rfl, L1⟩
    go_wp2_with fail
    go_ret
    exact ⟨rfl, L1⟩
  · obtain ⟨i, rfl⟩ : ∃ i, k = i + 1 := ⟨k - 1, by omega⟩
    obtain ⟨ad, rfl, _, hc⟩ := hr.2 (by omega)
    have hx := hc i _ (hf i (by omega))
    have y0 := S.cellOf (v := .slice (some ad) n c) 0 rfl
    obtain ⟨K, hK⟩ : ∃ K : Int, K = ((i + 1 : Nat) : Int) := ⟨_, rfl⟩
    rw [← hK]
    have a1 : bits .and .i64 (f i) 127 = f i % 128 := andI (f i) 7 (by omega) _ rfl
    have r1 := Int.emod_nonneg (f i) (show (128 : Int) ≠ 0 by omega)
    have r2 := Int.emod_lt_of_pos (f i) (show (0 : Int) < 128 by omega)
    generalize hfm : f i % 128 = fm at *
    have hrs : chRs f (i + 1) = 2199023255552 + (fm - 64) * 2199023 := by rw [← hfm]; unfold chRs; rw [if_neg (by omega), Nat.add_sub_cancel]
    rw [hrs] at HB
    obtain ⟨q1, hq1⟩ : ∃ q1, q1 = fm - 64 := ⟨_, rfl⟩
    obtain ⟨q2, hq2⟩ : ∃ q2, q2 = q1 * 2199023 := ⟨_, rfl⟩
    obtain ⟨q3, hq3⟩ : ∃ q3, q3 = 2199023255552 + q2 := ⟨_, rfl⟩
    rw [← hq1, ← hq2, ← hq3] at HB
    have g1 : IntKind.i64.wrap (fm - 64) = q1 := by rw [hq1]; exact wrap_of (by omega) (by omega)
    have g2 : IntKind.i64.wrap (q1 * 2199023) = q2 := by rw [hq2]; exact wrap_of (by omega) (by omega)
    have g3 : IntKind.i64.wrap (2199023255552 + q2) = q3 := by rw [hq3]; exact wrap_of (by omega) (by omega)
    have g4 : IntKind.i64.wrap (K - 1) = (i : Int) := by rw [hK, show ((i + 1 : Nat) : Int) - 1 = (i : Int) by omega]; exact wrap_of (by omega) (by omega)
    have hKp : 0 < K := by omega
    have hin : i < n := by omega
    clear hnr hrs hq1 hq2 hq3 hK hk r1 r2 hfm hr hc hf S hp
    go_enter Try.func22, Try.ntmps22
    go_wp2_with fail
    refine HB.out.mono ?_
    rintro e w1 ⟨rfl, L1⟩
    go_wp2_with fail
    go_ret
    exact ⟨rfl, L1⟩
set_option maxRecDepth 100000 in
set_option maxHeartbeats 4000000 in
theorem ratec_any (f : Nat → Int) (A : Option Addr) (n c pb k : Nat) (xs : List Value) (w : World) (B : Nat) (S : Blk w pb 31 #[.slice A n c]) (hr : Reads w B 1 A n xs) (hf : ∀ i, i < n → xs[i]? = some (.int .i64 (f i))) (hn : n ≤ 6) (hk : k ≤ n) :
    Calls Try.prog 24 #[.int .i64 k, .pointer (some ⟨pb, 0, none⟩)] w fun e w' => e = .returned (.int .i64 (chRs f k)) ∧ w = w' := by
  rcases Nat.eq_zero_or_pos k with rfl | hp
  · rw [show chRs f 0 = 2199023255552 from rfl]
    go_enter Try.func24, Try.ntmps24
    go_wp2_with fail
    go_ret
    exact ⟨rfl, rfl⟩
  · obtain ⟨i, rfl⟩ : ∃ i, k = i + 1 := ⟨k - 1, by omega⟩
    obtain ⟨ad, rfl, _, hc⟩ := hr.2 (by omega)
    have hx := hc i _ (hf i (by omega))
    have y0 := S.cellOf (v := .slice (some ad) n c) 0 rfl
    obtain ⟨K, hK⟩ : ∃ K : Int, K = ((i + 1 : Nat) : Int) := ⟨_, rfl⟩
    rw [← hK]
    have a1 : bits .and .i64 (f i) 127 = f i % 128 := andI (f i) 7 (by omega) _ rfl
    have r1 := Int.emod_nonneg (f i) (show (128 : Int) ≠ 0 by omega)
    have r2 := Int.emod_lt_of_pos (f i) (show (0 : Int) < 128 by omega)
    generalize hfm : f i % 128 = fm at *
    have hrs : chRs f (i + 1) = 2199023255552 + (fm - 64) * 2199023 := by rw [← hfm]; unfold chRs; rw [if_neg (by omega), Nat.add_sub_cancel]
    rw [hrs]
    obtain ⟨q1, hq1⟩ : ∃ q1, q1 = fm - 64 := ⟨_, rfl⟩
    obtain ⟨q2, hq2⟩ : ∃ q2, q2 = q1 * 2199023 := ⟨_, rfl⟩
    obtain ⟨q3, hq3⟩ : ∃ q3, q3 = 2199023255552 + q2 := ⟨_, rfl⟩
    rw [← hq1, ← hq2, ← hq3]
    have g1 : IntKind.i64.wrap (fm - 64) = q1 := by rw [hq1]; exact wrap_of (by omega) (by omega)
    have g2 : IntKind.i64.wrap (q1 * 2199023) = q2 := by rw [hq2]; exact wrap_of (by omega) (by omega)
    have g3 : IntKind.i64.wrap (2199023255552 + q2) = q3 := by rw [hq3]; exact wrap_of (by omega) (by omega)
    have g4 : IntKind.i64.wrap (K - 1) = (i : Int) := by rw [hK, show ((i + 1 : Nat) : Int) - 1 = (i : Int) by omega]; exact wrap_of (by omega) (by omega)
    have hKb : (K == 0) = false := beq_eq_false_iff_ne.2 (by omega)
    have hin : i < n := by omega
    clear hrs hq1 hq2 hq3 hK hk r1 r2 hfm hr hc hf S hp
    go_enter Try.func24, Try.ntmps24
    go_wp2_with fail
    go_ret
    exact ⟨rfl, rfl⟩
/-- A closure's contract, wherever what it reads lies as it did. -/
def TellC (f : Nat → Int) (A : Option Addr) (n c : Nat) (w : World) : Prop := ∀ (k : Nat) (ns : Int), k ≤ n → 0 ≤ ns → ns ≤ 30000000 → ∀ W, Below w.heap.size w W → Blk W w.heap.size 31 #[.slice A n c] →
  Calls Try.prog 22 #[.int .i64 k, .int .i64 ns, .pointer (some ⟨w.heap.size, 0, none⟩)] W fun e w' => e = .returned (.int .i64 (byN (chRs f k) (ns * 65536))) ∧ Below W.heap.size W w'
def RateC (f : Nat → Int) (A : Option Addr) (n c : Nat) (w : World) : Prop := ∀ (k : Nat), k ≤ n → ∀ W, Below w.heap.size w W → Blk W w.heap.size 31 #[.slice A n c] →
  Calls Try.prog 24 #[.int .i64 k, .pointer (some ⟨w.heap.size, 0, none⟩)] W fun e w' => e = .returned (.int .i64 (chRs f k)) ∧ W = w'
def chFirst : Ck := { ckNew 0 with own := true, opn := false }
theorem chFirst_is : ownV (ckNew 0) true 0 = chFirst := rfl
set_option maxRecDepth 100000 in
set_option maxHeartbeats 16000000 in
theorem syncChain_calls (A A2 : Option Addr) (n c n2 c2 : Nat) (xs xs2 : List Value) (f f2 : Nat → Int) (x3 x4 : Int) (w : World) (hn : n ≤ maxLen) (hn2 : n2 ≤ maxLen) (hr : Reads w w.heap.size 1 A n xs) (hr2 : Reads w w.heap.size 1 A2 n2 xs2)
    (hf : ∀ i, i < n → xs[i]? = some (.int .i64 (f i))) (hf2 : ∀ i, i < n2 → xs2[i]? = some (.int .i64 (f2 i))) :
    Calls Try.prog 4 #[.slice A n c, .slice A2 n2 c2, .int .i64 x3, .int .i64 x4] w fun e w' => e = .returned (.bool true) ∧ Below w.heap.size w w' := by
  unfold maxLen at hn hn2
  have S0 := Blk.new w 31 #[.slice A n c]
  have L0 := (Below.refl w.heap.size w).alloc (Nat.le_refl _) (.cells #[.slice A n c] 31)
  have HR := Lib.hid (And.intro hr (And.intro hf (And.intro hr2 hf2)))
  clear hr hf hr2 hf2
  go_enter Try.func4, Try.ntmps4
  go_wp2_with fail
  generalize w.alloc (.cells #[.slice A n c] 31) = w0 at *
  refine (head18 w0).mono ?_
  rintro e w1 ⟨rfl, L1⟩
  have S1 := S0.kept L1
  have LL1 := L0.trans (L1.mono L0.size)
  have y0 := S1.cellOf (v := .slice A n c) 0 rfl
  clear S0 L0 L1
  by_cases h6 : 6 < n
  · have d : decide ((6 : Int) < (n : Int)) = true := by simp; omega
    clear HR S1
    go_wp2_with fail
    go_ret
    exact ⟨rfl, LL1⟩
  by_cases h2 : n2 < n
  · have d : decide ((6 : Int) < (n : Int)) = false := by simp; omega
    have d2 : decide ((n2 : Int) < (n : Int)) = true := by simp; omega
    clear HR S1 h6
    go_wp2_with fail
    go_ret
    exact ⟨rfl, LL1⟩
  have hn6 : n ≤ 6 := by omega
  have hnn : n ≤ n2 := by omega
  have d : decide ((6 : Int) < (n : Int)) = false := by simp; omega
  have d2 : decide ((n2 : Int) < (n : Int)) = false := by simp; omega
  have HT : Hid (TellC f A n c w) := Lib.hid fun k ns hk h0 h1 W hW hS => tellc_any f A n c w.heap.size k ns xs W w.heap.size hS (HR.out.1.below hW) HR.out.2.1 hn6 hk ⟨h0, h1⟩
  have HQ : Hid (RateC f A n c w) := Lib.hid fun k hk W hW hS => ratec_any f A n c w.heap.size k xs W w.heap.size hS (HR.out.1.below hW) HR.out.2.1 hn6 hk
  have HD : Hid (∀ j, j < n → ∃ ad2, A2 = some ad2 ∧ ∀ W, Below w.heap.size w W → W.cell? (ad2.add j) = some (.int .i64 (f2 j))) := Lib.hid fun j hj => by
    obtain ⟨ad, e, _⟩ := HR.out.2.2.1.2 (by omega)
    refine ⟨ad, e, fun W hW => ?_⟩
    obtain ⟨ad', e', _, hc⟩ := (HR.out.2.2.1.below hW).2 (by omega)
    rw [e] at e'
    injection e' with e'
    subst e'
    exact hc j _ (HR.out.2.2.2 j (by omega))
  have a3 : bits .and .i64 x3 16777215 = x3 % 16777216 := andI x3 24 (by omega) _ rfl
  have a4 : bits .and .i64 x4 1048575 = x4 % 1048576 := andI x4 20 (by omega) _ rfl
  obtain ⟨st, hst⟩ : ∃ st, st = 1000000 + x3 % 16777216 := ⟨_, rfl⟩
  have g3 : IntKind.i64.wrap (1000000 + x3 % 16777216) = st := by rw [hst]; exact wrap_of (by omega) (by omega)
  have hst2 : 1000000 ≤ st ∧ st ≤ 17777215 := by omega
  have hlt : 0 ≤ x4 % 1048576 ∧ x4 % 1048576 ≤ 1048575 := by omega
  generalize x4 % 1048576 = la at *
  generalize x3 % 16777216 = sa at *
  clear HR hst h6 h2
  go_wp2_with fail
  refine (new_run 0 w1).mono ?_
  rintro e w2 ⟨rfl, K2, z2, L2⟩
  have S2 := S1.kept L2
  have LL2 := LL1.trans (L2.mono LL1.size)
  have hg : w.heap.size < w1.heap.size := S1.lt
  clear S1 L2 y0 d d2 a3 a4 g3
  go_wp2_with fail
  refine (own_run chFirst_is (ckNew_wf 0) i64_zero K2).mono ?_
  rintro e w3 ⟨rfl, K3, G3⟩
  have S3 := S2.keep G3 (by omega)
  have LL3 := LL2.trans (below_one G3 LL2.size (by omega))
  have C3 : Hid (Ch (chRs f) 0 chFirst st) := Lib.hid ⟨rfl, ⟨i64_zero, i64_zero, by unfold I64; show -9223372036854775808 ≤ (2199023255552 : Int) ∧ (2199023255552 : Int) ≤ 9223372036854775807; omega, i64_zero, i64_zero⟩, .inl ⟨rfl, rfl, rfl⟩⟩
  have LLz := LL3.size
  clear K2 S2 LL2 G3 z2
  go_wp2_with fail
  go_loopw [12, 13, 14] (fun p nw i wr => ∃ (j : Nat) (ck : Ck) (g : Nat) (N : Int), j ≤ n ∧ p = .pointer (some ⟨g, 0, none⟩) ∧ nw = .int .i64 N ∧ i = .int .i64 ((j + 1 : Nat) : Int) ∧ CkIn wr g ck ∧ Hid (Ch (chRs f) j ck N) ∧ (0 ≤ N ∧ N ≤ 17777215 + 9095 * (j : Int)) ∧ Blk wr w.heap.size 31 #[.slice A n c] ∧ Below w.heap.size w wr ∧ w.heap.size < g) (fun _ _ i _ => n + 1 - (intOf i).toNat)
  case atStart => exact ⟨0, chFirst, w1.heap.size, st, Nat.zero_le _, rfl, rfl, rfl, K3, C3, by omega, S3, LL3, hg⟩
  case round =>
    clear K3 C3 S3 LL3 hg LLz
    obtain ⟨j, ck, g, N, hj, rfl, rfl, rfl, KC, C, hN, S, L, hg⟩ := hrel
    have y0 := S.cellOf (v := .slice A n c) 0 rfl
    by_cases hjn : j < n
    · obtain ⟨ad2, rfl, hcd⟩ := HD.out j hjn
      have HCD := Lib.hid hcd
      obtain ⟨K, hK⟩ : ∃ K : Nat, K = j + 1 := ⟨_, rfl⟩
      rw [← hK]
      have hjn2 : j < n2 := by omega
      have hKn : K ≤ n := by omega
      have dK : decide ((K : Int) ≤ (n : Int)) = true := by simp; omega
      have s1 : IntKind.i64.wrap ((K : Int) - 1) = (j : Int) := by rw [hK, show ((j + 1 : Nat) : Int) - 1 = (j : Int) by omega]; exact wrap_of (by omega) (by omega)
      have s2 : IntKind.i64.wrap ((K : Int) + 1) = ((K + 1 : Nat) : Int) := by rw [show (K : Int) + 1 = ((K + 1 : Nat) : Int) by omega]; exact wrap_of (by omega) (by omega)
      have ad : bits .and .i64 (f2 j) 4095 = f2 j % 4096 := andI (f2 j) 12 (by omega) _ rfl
      have hdd : 0 ≤ f2 j % 4096 ∧ f2 j % 4096 ≤ 4095 := by omega
      obtain ⟨corr, time, rho, hT, hA, hF, ic, it⟩ := chain_tell (k := (K : Int)) (chRs_ok f) C.out (by omega) ⟨hN.1, by omega⟩ ⟨by omega, by omega⟩
      obtain ⟨a, c', ha, hra, hfo, hch⟩ := chain_next (k := (K : Int)) (d := f2 j % 4096) (chRs_ok f) (by omega) ⟨hN.1, by omega⟩ ⟨by omega, by omega⟩ hdd hA hF
      have hrho := fit_range ((chRs_ok f).near j) ⟨by omega, by omega⟩ hF
      rw [← hK] at ha hfo hch
      obtain ⟨mm, hmm⟩ : ∃ mm : Mg, mm = ⟨8, 0, (K : Int), 7, 1, corr, time, 0, 0, rho, 0, 0, 0, 0, 0, []⟩ := ⟨_, rfl⟩
      rw [← hmm] at hT hfo
      have hmp : mm.path = [] := by rw [hmm]
      have hmw : mm.Wf := by rw [hmm]; exact ⟨ic, it, by unfold I64; show -9223372036854775808 ≤ rho ∧ rho ≤ 9223372036854775807; omega⟩
      generalize f2 j % 4096 = dd at *
      obtain ⟨b1, b2, _, _, b5⟩ := by_near (n := N) ((chRs_ok f).near j) hN.1 (by omega)
      obtain ⟨e1, e2, _, _, e5⟩ := by_near (n := N + dd) ((chRs_ok f).near K) (by omega) (by omega)
      obtain ⟨o1, o2, _, _, o5⟩ := by_near (n := dd) ((chRs_ok f).near K) hdd.1 (by omega)
      have nK := (chRs_ok f).near K
      have nj := (chRs_ok f).near j
      have iK : I64 (chRs f K) := by have h1 := nK.1; have h2 := nK.2; unfold I64; omega
      have ij : I64 (chRs f j) := by have h1 := nj.1; have h2 := nj.2; unfold I64; omega
      have HBy : Hid (∀ W, Calls Try.prog 23 #[.int .i64 (dd * 65536), .int .i64 (chRs f K)] W fun e w' => e = .returned (.tuple #[.int .i64 (byN (chRs f K) (dd * 65536)), .int .i64 0]) ∧ Below W.heap.size W w') := Lib.hid fun W => by have := by_any (dd * 65536) (chRs f K) (by unfold I64; omega) iK W; rw [o1] at this; exact this
      have HBt := Lib.hid (fun W => between_ok (chRs f j) (chRs f K) a ij iK (by have := nj.1; omega) (by have := nK.1; omega) ha hra W)
      have HTe := Lib.hid (fun W KC => tell_run (w := W) (g := g) hT C.out.wf (show I64 (byN (chRs f j) (N * 65536)) by unfold I64; omega) KC)
      have HSy := Lib.hid (fun W g KC => sync_run (w := W) (g := g) (x := 0) (c := ckNew 0) (c' := chS K (byN (chRs f K) ((N + dd) * 65536))) (m := ⟨0, 0, (K : Int), 7, 1, 0, 0, 0, 0, 0, 0, 0, 0, 0, 0, []⟩) (at_ := byN (chRs f K) ((N + dd) * 65536)) (sync_ok rfl (sync_right ⟨by omega, by omega⟩ ⟨by omega, by omega⟩ ⟨by omega, by omega⟩ ⟨by omega, by omega⟩) rfl rfl) rfl KC)
      have HFo := Lib.hid (fun W g KC => foll_run (w := W) (g := g) (c := chS K (byN (chRs f K) ((N + dd) * 65536))) (c' := c') (x := 0) hfo hmp hmw (show I64 (byN (chRs f K) (dd * 65536)) by unfold I64; omega) (show I64 a by unfold Rg at hra; unfold I64; omega) KC)
      have HCh := Lib.hid hch
      have hnd : 0 ≤ N + dd ∧ N + dd ≤ 30000000 := by omega
      have t1 : IntKind.i64.wrap (N + dd) = N + dd := wrap_of (by omega) (by omega)
      have t2 : IntKind.i64.wrap (dd * 65536) = dd * 65536 := wrap_of (by omega) (by omega)
      have t3 : IntKind.i64.wrap (dd + 5000) = dd + 5000 := wrap_of (by omega) (by omega)
      have t4 : IntKind.i64.wrap (N + (dd + 5000)) = N + (dd + 5000) := wrap_of (by omega) (by omega)
      have HNB : Hid (0 ≤ N + (dd + 5000) ∧ N + (dd + 5000) ≤ 17777215 + 9095 * ((j + 1 : Nat) : Int)) := Lib.hid (by omega)
      have hN1 := Lib.hid hN
      have HK := Lib.hid hK
      have HND := Lib.hid hnd
      clear hT hA hF ic it ha hra hfo hch hrho hmm hmp hmw b1 b2 b5 e1 e2 e5 o1 o2 o5 nK nj iK ij hcd hN hdd HD hlt hst2 hK hnd
      go_wp2_with fail
      refine (HT.out j N (by omega) hN1.out.1 (by have := hN1.out.2; omega) wr L S).mono ?_
      rintro e w4 ⟨rfl, L4⟩
      have KC4 : CkIn w4 g ck := KC.kept L4
      have S4 := S.kept L4
      have LL4 := L.trans (L4.mono L.size)
      clear KC S L L4 y0
      go_wp2_with fail
      refine (HTe.out w4 KC4).mono ?_
      rintro e w5 ⟨rfl, _, L5⟩
      have S5 := S4.kept L5
      have LL5 := LL4.trans (L5.mono LL4.size)
      have M6 := Blk.new w5 33 (mcells mm none 0 0)
      have S6 := S5.alloc (.cells (mcells mm none 0 0) 33)
      have LL6 := LL5.alloc LL5.size (.cells (mcells mm none 0 0) 33)
      clear KC4 S4 LL4 L5 S5 HTe
      go_wp2_with (refine wpList_store_new (cs := mcells mm none 0 0) rfl 33 (.tmp 15) (.tmp 65) rfl rfl rfl rfl rfl (by kernel_rfl) (by rw [← Array.all_toList]; rfl) ?_; generalize w5.alloc (.cells (mcells mm none 0 0) 33) = w6 at *; (have hd6 := HCD.out w6 LL6); go_wp2_with fail)
      clear hd6
      have z6 := LL6.size
      refine (new_run 0 w6).mono ?_
      rintro e w7 ⟨rfl, K7, z7, L7⟩
      have M7 := M6.kept L7
      have S7 := S6.kept L7
      have LL7 := LL6.trans (L7.mono LL6.size)
      have lm : w5.heap.size < w6.heap.size := M6.lt
      have ls : w.heap.size < w6.heap.size := S6.lt
      clear M6 S6 LL6 L7
      go_wp2_with fail
      refine (HT.out K (N + dd) hKn HND.out.1 HND.out.2 w7 LL7 S7).mono ?_
      rintro e w8 ⟨rfl, L8⟩
      have K8 : CkIn w8 w6.heap.size (ckNew 0) := K7.kept L8
      have M8 := M7.kept L8
      have S8 := S7.kept L8
      have LL8 := LL7.trans (L8.mono LL7.size)
      clear K7 M7 S7 LL7 L8 z7
      go_wp2_with fail
      refine (HSy.out w8 _ K8).mono ?_
      rintro e w9 ⟨rfl, K9, G9⟩
      have M9 := M8.keep G9 (by omega)
      have S9 := S8.keep G9 (by omega)
      have LL9 := LL8.trans (below_one G9 LL8.size z6)
      clear K8 M8 S8 LL8 G9 HSy
      go_wp2_with fail
      refine (HQ.out j (by omega) w9 LL9 S9).mono ?_
      rintro e w10 ⟨rfl, rfl⟩
      go_wp2_with fail
      refine (HQ.out K hKn w9 LL9 S9).mono ?_
      rintro e w10 ⟨rfl, rfl⟩
      go_wp2_with fail
      refine (HBt.out w9).mono ?_
      rintro e w10 ⟨rfl, L10⟩
      have K10 : CkIn w10 w6.heap.size _ := K9.kept L10
      have M10 := M9.kept L10
      have S10 := S9.kept L10
      have LL10 := LL9.trans (L10.mono LL9.size)
      clear K9 M9 S9 LL9 L10 HBt
      go_wp2_with fail
      refine (HQ.out K hKn w10 LL10 S10).mono ?_
      rintro e w11 ⟨rfl, rfl⟩
      go_wp2_with fail
      refine (HBy.out w10).mono ?_
      rintro e w11 ⟨rfl, L11⟩
      have K11 : CkIn w11 w6.heap.size _ := K10.kept L11
      have M11 := M10.kept L11
      have S11 := S10.kept L11
      have LL11 := LL10.trans (L11.mono LL10.size)
      clear K10 M10 S10 LL10 L11 HBy
      go_wp2_with (refine wpList_load_row_g (by first | rfl | (go_simp; done)) 33 (.tmp 15) rfl w5.heap.size rfl 33 (mcells mm none 0 0) (0, 0) _ M11 Try.underlying33 rfl (by kernel_rfl) ?_)
      refine (HFo.out w11 _ K11).mono ?_
      rintro e w12 ⟨rfl, K12, G12⟩
      have S12 := S11.keep G12 (by omega)
      have LL12 := LL11.trans (below_one G12 LL11.size z6)
      clear K11 M11 S11 LL11 G12 HFo
      go_wp2_with fail
      go_roundw
      case rel => exact ⟨j + 1, c', w6.heap.size, N + (dd + 5000), by omega, rfl, rfl, by rw [HK.out]; exact congrArg (Value.int IntKind.i64) (by omega), K12, by rw [← HK.out]; exact HCh, HNB.out, S12, LL12, ls⟩
      case measure => simp [intOf]; omega
    · obtain rfl : n = j := by omega
      have hdn : decide (((n + 1 : Nat) : Int) ≤ (n : Int)) = false := by simp; omega
      obtain ⟨A0, hAt, o1, o2⟩ := chain_at (t := N + la) (chRs_ok f) C.out (by omega) ⟨hN.1, by omega⟩ ⟨by omega, by omega⟩
      obtain ⟨b1, b2, _, _, b5⟩ := by_near (n := N + la) ((chRs_ok f).near n) (by omega) (by omega)
      have HAt := Lib.hid (fun W KC => at_run (w := W) (g := g) hAt C.out.wf (show I64 (byN (chRs f n) ((N + la) * 65536)) by unfold I64; omega) KC)
      have hnl : 0 ≤ N + la ∧ N + la ≤ 30000000 := by omega
      obtain ⟨X, hX⟩ : ∃ X : Int, X = (n : Int) + 1 := ⟨_, rfl⟩
      obtain ⟨q, hq⟩ : ∃ q, q = la.tdiv 1000 := ⟨_, rfl⟩
      have hq2 : 0 ≤ q ∧ q ≤ 1049 := by rw [hq, Int.tdiv_eq_ediv_of_nonneg hlt.1]; omega
      obtain ⟨off, hoff⟩ : ∃ off, off = A0 - (N + la) * 65536 := ⟨_, rfl⟩
      obtain ⟨Y1, hY1⟩ : ∃ Y, Y = -100 * X := ⟨_, rfl⟩
      obtain ⟨Y2, hY2⟩ : ∃ Y, Y = Y1 - q := ⟨_, rfl⟩
      obtain ⟨Y3, hY3⟩ : ∃ Y, Y = 100 * X := ⟨_, rfl⟩
      obtain ⟨Y4, hY4⟩ : ∃ Y, Y = Y3 + q := ⟨_, rfl⟩
      have t1 : IntKind.i64.wrap (N + la) = N + la := wrap_of (by omega) (by omega)
      have t2 : IntKind.i64.wrap ((N + la) * 65536) = (N + la) * 65536 := wrap_of (by omega) (by omega)
      have t3 : IntKind.i64.wrap (A0 - (N + la) * 65536) = off := by rw [hoff]; exact wrap_of (by omega) (by omega)
      have t4 : IntKind.i64.wrap ((n : Int) + 1) = X := by rw [hX]; exact wrap_of (by omega) (by omega)
      have t5 : IntKind.i64.wrap (-100 * X) = Y1 := by rw [hY1]; exact wrap_of (by omega) (by omega)
      have t6 : IntKind.i64.wrap (la.tdiv 1000) = q := by rw [← hq]; exact wrap_of (by omega) (by omega)
      have t7 : IntKind.i64.wrap (Y1 - q) = Y2 := by rw [hY2]; exact wrap_of (by omega) (by omega)
      have t8 : IntKind.i64.wrap (100 * X) = Y3 := by rw [hY3]; exact wrap_of (by omega) (by omega)
      have t9 : IntKind.i64.wrap (Y3 + q) = Y4 := by rw [hY4]; exact wrap_of (by omega) (by omega)
      have v1 : Y2 < off := by omega
      have v2 : off < Y4 := by omega
      clear hAt o1 o2 b1 b2 b5 hX hq hq2 hoff hY1 hY2 hY3 hY4 HD HQ hlt hst2 hjn hj
      go_wp2_with fail
      refine (HT.out n (N + la) (Nat.le_refl _) hnl.1 hnl.2 wr L S).mono ?_
      rintro e w4 ⟨rfl, L4⟩
      have KC4 : CkIn w4 g ck := KC.kept L4
      have S4 := S.kept L4
      have LL4 := L.trans (L4.mono L.size)
      clear KC S L L4 y0
      go_wp2_with fail
      refine (HAt.out w4 KC4).mono ?_
      rintro e w5 ⟨rfl, _, L5⟩
      have S5 := S4.kept L5
      have LL5 := LL4.trans (L5.mono LL4.size)
      have y5 := S5.cellOf (v := .slice A n c) 0 rfl
      clear KC4 S4 LL4 L5 S5 HAt HT
      go_wp2_with fail
      go_ret
      exact ⟨rfl, LL5⟩

/-! ### The row's step -/
set_option maxRecDepth 100000 in
theorem syncChain_lifted (os : Os) (started : os.Started) (H : Type) (enc : TypeId × Value → H) :
    ReturnsInHanded {} Try.checked os 4 .any (Rows.syncChainSpec.pre6 enc Try.prog Try.f4 Rows.syncChainRow.domain false) (Rows.syncChainSpec.post enc Try.prog Try.f4 false true false false) := by
  refine returnsInHanded_of_change (C := Try.checked) own started (by kernel_rfl) Try.func4
    (ChangeSpec.witness6 (enc := enc) (C := Try.checked) false ⟨#[], #[.slice none 0 0, .slice none 0 0, .int .i64 0, .int .i64 0], []⟩ 8 (by kernel_rfl) (by kernel_rfl) (by kernel_rfl) (by kernel_rfl)) ?_
  intro W base args ds gs before hval0 hW _ _
  have hval : ∀ (j : Nat) t v, Try.f4.params[j]? = some t → args[j]? = some v → Value.okWide Try.prog W .any base t v := hval0
  have hW' := hW
  obtain ⟨p, q, hA0, hV, rfl, hfz, hnd⟩ := hW
  have hA : DataW.TrodAll enc Try.prog W 0 (fun _ => true) true Try.f4.params.toList args.toList ds p := hA0
  rw [Try.params4] at hA hval
  obtain ⟨v0, v1, v2, v3, d0, d1, d2, d3, p0, p1, p2, p3, rfl, rfl, rfl, h0, h1, h2, h3⟩ := trodAll_four hA
  obtain ⟨A, n, c, xs, f, rfl, hn, hr, hf⟩ := open_ints (hval 0 31 v0 rfl rfl) h0 (fun x hx => hW'.lt x (by simp [hx]))
  obtain ⟨A2, n2, c2, xs2, f2, rfl, hn2, hr2, hf2⟩ := open_ints (hval 1 31 v1 rfl rfl) h1 (fun x hx => hW'.lt x (by simp [hx]))
  obtain ⟨x3, rfl⟩ := okWide_int Try.underlying3 (hval 2 3 v2 rfl rfl)
  obtain ⟨x4, rfl⟩ := okWide_int Try.underlying3 (hval 3 3 v3 rfl rfl)
  exact law_post laidOut (by kernel_rfl) rfl (by kernel_rfl) Try.underlying4 rfl hW' (syncChain_calls A A2 n c n2 c2 xs xs2 f f2 x3 x4 W hn hn2 hr hr2 hf hf2)

theorem syncChain_holds : Rows.SyncChainSaid :=
  OpenClaim.holds_of_wide 4 Try.f4 rfl rfl rfl rfl rfl rfl rfl ⟨rfl, rfl, rfl, rfl, rfl⟩ rfl rfl rfl rfl rfl (by kernel_rfl) Try.func4 (by kernel_rfl)
    (of_decide_eq_true (by kernel_rfl)) (by unfold Func.isWrapper; first | (rw [if_pos (by decide +kernel)]; kernel_rfl) | (rw [if_neg (by decide +kernel)]; exact ⟨rfl, rfl⟩))
    (fun os started H enc _ => syncChain_lifted os started H enc)

#print axioms syncChain_holds
end Go.Proofs.Ytbkflmeijjcnhaa
