/-
  PeerFinds: for any numbers the law returns true: between clocks that run evenly the delay is found to a nanosecond, the rate to what was reckoned over. No condition.
-/
import Derived.Test.YtbkflmeijjcnhaaPeerF
namespace Go.Proofs.Ytbkflmeijjcnhaa
set_option linter.unusedSimpArgs false
set_option linter.unusedVariables false
open Go.RowKit Go.WideShapes Go.ChangeShapes
attribute [local go_sem ↓] Go.wp_at_zero Go.wp_at_succ

section
variable {H : Type} {enc : TypeId × Value → H} {P : Program} {w : World} {base : Nat} {spare : Nat → Bool} {held : Bool}
theorem trodAll_six {t0 t1 t2 t3 t4 t5 : TypeId} {args : Array Value} {ds : List (DataW H)} {ps : List MemPlace} (h : DataW.TrodAll enc P w base spare held [t0, t1, t2, t3, t4, t5] args.toList ds ps) :
    ∃ v0 v1 v2 v3 v4 v5 d0 d1 d2 d3 d4 d5 p0 p1 p2 p3 p4 p5, args = #[v0, v1, v2, v3, v4, v5] ∧ ds = [d0, d1, d2, d3, d4, d5] ∧ ps = p0 ++ p1 ++ p2 ++ p3 ++ p4 ++ p5 ∧ DataW.Trod enc P w base spare held t0 v0 d0 p0 ∧ DataW.Trod enc P w base spare held t1 v1 d1 p1 ∧ DataW.Trod enc P w base spare held t2 v2 d2 p2 ∧ DataW.Trod enc P w base spare held t3 v3 d3 p3 ∧ DataW.Trod enc P w base spare held t4 v4 d4 p4 ∧ DataW.Trod enc P w base spare held t5 v5 d5 p5 := by
  obtain ⟨v0, vs0, d0, ds0, p0, q0, hargs, rfl, rfl, hd0, hr0⟩ := trodAll_cons h
  obtain ⟨v1, vs1, d1, ds1, p1, q1, rfl, rfl, rfl, hd1, hr1⟩ := trodAll_cons hr0
  obtain ⟨v2, vs2, d2, ds2, p2, q2, rfl, rfl, rfl, hd2, hr2⟩ := trodAll_cons hr1
  obtain ⟨v3, vs3, d3, ds3, p3, q3, rfl, rfl, rfl, hd3, hr3⟩ := trodAll_cons hr2
  obtain ⟨v4, vs4, d4, ds4, p4, q4, rfl, rfl, rfl, hd4, hr4⟩ := trodAll_cons hr3
  obtain ⟨v5, vs5, d5, ds5, p5, q5, rfl, rfl, rfl, hd5, hr5⟩ := trodAll_cons hr4
  obtain ⟨rfl, rfl, rfl⟩ := trodAll_nil hr5
  exact ⟨v0, v1, v2, v3, v4, v5, d0, d1, d2, d3, d4, d5, p0, p1, p2, p3, p4, p5, by cases args; simp_all, rfl, by simp, hd0, hd1, hd2, hd3, hd4, hd5⟩
end
theorem Reckons.drop {p : Pe} {g : Nat} {t3 a0 b0 r tw : Int} {x0 : Int × Int} {T : List (Int × Int)} (hw : p.mn = p.cf.window + 1 ∧ p.cf.window ≤ 32) (R : Rk p t3 a0 b0 r tw) : Reckons p g t3 (x0 :: (a0, b0) :: T) p.mn r (max (tw.tdiv 2) 0) ((a0, b0) :: T ++ [(t3, p.t4)]) := fun W B M =>
  reckon_drop p g t3 a0 b0 r tw x0 T W B M hw R
/-- What the law sets: the clocks. -/
structure Fi where
  r : Int
  st : Int
  d : Int
  l : Int
  gap : Int
structure Fi.Ok (f : Fi) : Prop where
  r : Near f.r
  st : 0 ≤ f.st ∧ f.st < 16777216
  d : 0 ≤ f.d ∧ f.d ≤ 4095
  l : 0 ≤ f.l ∧ f.l ≤ 65535
  gap : 100000 ≤ f.gap ∧ f.gap ≤ 1148575
def Fi.now (f : Fi) (k : Nat) : Int := 1000 + k * f.gap
def Fi.thr (f : Fi) (n : Int) : Int := byN f.r (n * 65536) + f.st * 65536
def Fi.mark (f : Fi) (k : Nat) : Int × Int := (f.thr (f.now k + f.d + f.l), (f.now k + 2 * f.d + f.l) * 65536)
def Fi.marks (f : Fi) : Nat → Nat → List (Int × Int)
  | _, 0 => []
  | lo, n + 1 => f.mark lo :: f.marks (lo + 1) n
theorem Fi.marks_snoc (f : Fi) : ∀ (n lo : Nat), f.marks lo n ++ [f.mark (lo + n)] = f.marks lo (n + 1)
  | 0, lo => rfl
  | n + 1, lo => by
    have := f.marks_snoc n (lo + 1)
    show f.mark lo :: (f.marks (lo + 1) n ++ [f.mark (lo + (n + 1))]) = _
    rw [show lo + (n + 1) = lo + 1 + n by omega, this]
    rfl
/-- What is known behind so many answers. -/
structure FS (f : Fi) (p : Pe) (i : Nat) : Prop where
  cf : p.cf = conf0
  wf : p.Wf
  asked : p.asked = false
  bad : p.bad = 0
  mn : p.mn = min i 5
  found : 2 ≤ i → (-336 ≤ p.rate - f.r ∧ p.rate - f.r ≤ 336) ∧ -10 ≤ p.delay - f.d * 65536 ∧ p.delay - f.d * 65536 ≤ 10
theorem ask_calm {p : Pe} (h : p.asked = false) : askP p = { p with seq := (p.seq + 1) % 65536, asked := true } := by unfold askP; rw [if_neg (by rw [h]; simp)]
theorem find_next {f : Fi} {p : Pe} {i : Nat} (F : FS f p i) (t0 t1 t3 : Int) (A : Option Addr) (c : Nat) (r d : Int) (h : 2 ≤ i + 1 → (-336 ≤ r - f.r ∧ r - f.r ≤ 336) ∧ -10 ≤ d - f.d * 65536 ∧ d - f.d * 65536 ≤ 10) : FS f (doneP (talkQ p t0 t1 t3) A (min (i + 1) 5) c r d) (i + 1) :=
  ⟨by show (askP p).cf = conf0; rw [askP_cf]; exact F.cf, doneP_wf F.wf _ _ _ _ _ _ _ _, rfl, rfl, rfl, h⟩
set_option maxHeartbeats 1000000 in
theorem find_step {f : Fi} (hf : f.Ok) (i : Nat) (hi : i ≤ 16) (g : Nat) (p : Pe) (w : World) (B : PeIn w g p) (F : FS f p i) (M : Mk w g p.mA p.mn p.mc (f.marks (i - min i 5) (min i 5))) :
    Calls Try.prog 49 #[.pointer (some ⟨g, 0, none⟩), .agg #[.int .i64 (f.now i * 65536), .int .i64 (f.thr (f.now i + f.d)), .int .i64 (f.thr (f.now i + f.d + f.l)), .int .i64 ((f.now i + 2 * f.d + f.l) * 65536)]] w fun e w' => e = .returned (.int .i64 0) ∧ ∃ q, PeIn w' g q ∧ FS f q (i + 1) ∧ Mk w' g q.mA q.mn q.mc (f.marks (i + 1 - min (i + 1) 5) (min (i + 1) 5)) ∧ w.grownBy w' (some g) := by
  have ea := ask_calm F.asked
  have hM : Mk w g (askP p).mA (askP p).mn (askP p).mc (f.marks (i - min i 5) (min i 5)) := by rw [ea]; exact M
  have hmn : (askP p).mn = min i 5 := by rw [ea]; exact F.mn
  have hcf : (askP p).cf = conf0 := by rw [askP_cf]; exact F.cf
  obtain ⟨Q, hQ⟩ : ∃ Q, Q = talkQ p (f.now i * 65536) (f.thr (f.now i + f.d)) ((f.now i + 2 * f.d + f.l) * 65536) := ⟨_, rfl⟩
  have hQmn : Q.mn = min i 5 := by rw [hQ]; exact hmn
  have hQcf : Q.cf = conf0 := by rw [hQ]; exact hcf
  have hQ4 : Q.t4 = (f.now i + 2 * f.d + f.l) * 65536 := by rw [hQ]; rfl
  have hQ1 : Q.t1 = f.now i * 65536 := by rw [hQ]; rfl
  have hQ2 : Q.t2 = f.thr (f.now i + f.d) := by rw [hQ]; rfl
  have fin : ∀ (n : Nat) (r d : Int) (N : List (Int × Int)), Reckons Q g (f.thr (f.now i + f.d + f.l)) (f.marks (i - min i 5) (min i 5)) n r d N → n = min (i + 1) 5 → N = f.marks (i + 1 - min (i + 1) 5) (min (i + 1) 5) → (2 ≤ i + 1 → (-336 ≤ r - f.r ∧ r - f.r ≤ 336) ∧ -10 ≤ d - f.d * 65536 ∧ d - f.d * 65536 ≤ 10) →
      Calls Try.prog 49 #[.pointer (some ⟨g, 0, none⟩), .agg #[.int .i64 (f.now i * 65536), .int .i64 (f.thr (f.now i + f.d)), .int .i64 (f.thr (f.now i + f.d + f.l)), .int .i64 ((f.now i + 2 * f.d + f.l) * 65536)]] w fun e w' => e = .returned (.int .i64 0) ∧ ∃ q, PeIn w' g q ∧ FS f q (i + 1) ∧ Mk w' g q.mA q.mn q.mc (f.marks (i + 1 - min (i + 1) 5) (min (i + 1) 5)) ∧ w.grownBy w' (some g) := fun n r d N hr hn hN hb => by
    subst hn hN
    rw [hQ] at hr
    refine (talk_any p g _ _ _ _ _ _ _ r d w B hM F.wf hr).mono ?_
    rintro e w' ⟨rfl, A, c, B', M', G⟩
    exact ⟨rfl, _, B', find_next F _ _ _ _ _ _ _ hb, M', G⟩
  have rk : ∀ (k : Nat), k < i → i ≤ k + 4 → ∃ s tw, Rk Q (f.mark i).1 (f.mark k).1 (f.mark k).2 s tw ∧ (-336 ≤ s - f.r ∧ s - f.r ≤ 336) ∧ -10 ≤ max (tw.tdiv 2) 0 - f.d * 65536 ∧ max (tw.tdiv 2) 0 - f.d * 65536 ≤ 10 := fun k hk1 hk2 => by
    obtain ⟨t, ht⟩ : ∃ t : Nat, i = k + t := ⟨i - k, by omega⟩
    have hg := hf.gap
    have hd := hf.d
    have hl := hf.l
    have e1 : f.now i = f.now k + (t : Int) * f.gap := by unfold Fi.now; rw [ht, Int.natCast_add, Int.add_mul]; omega
    have k0 : 0 ≤ (k : Int) * f.gap := Int.mul_nonneg (by omega) (by omega)
    have k1 : (k : Int) * f.gap ≤ 16 * 1148575 := Int.mul_le_mul (by omega) (by omega) (by omega) (by omega)
    have t0 : 1 * 100000 ≤ (t : Int) * f.gap := Int.mul_le_mul (by omega) (by omega) (by omega) (by omega)
    have t1 : (t : Int) * f.gap ≤ 4 * 1148575 := Int.mul_le_mul (by omega) (by omega) (by omega) (by omega)
    have ek : f.now k = 1000 + (k : Int) * f.gap := rfl
    obtain ⟨s, tw, h1, h2, h3, h4⟩ := find_rk (p := Q) (g := (t : Int) * f.gap) (n1 := f.now k + f.d + f.l) (l := f.l) (d := f.d) (st := f.st) hf.r ⟨by omega, by omega⟩ ⟨by omega, by omega⟩ ⟨by omega, by omega, by omega⟩ hd hf.st hQcf (by rw [hQ4, e1]; congr 1; omega) (by rw [hQ1, e1]; congr 1; omega) (by rw [hQ2, e1]; unfold Fi.thr; congr 3; omega)
    refine ⟨s, tw, ?_, h2, h3, h4⟩
    have m1 : (f.mark i).1 = byN f.r ((f.now k + f.d + f.l + (t : Int) * f.gap) * 65536) + f.st * 65536 := by unfold Fi.mark Fi.thr; rw [e1]; show byN f.r ((f.now k + (t : Int) * f.gap + f.d + f.l) * 65536) + f.st * 65536 = _; congr 3; omega
    have m2 : (f.mark k).2 = (f.now k + f.d + f.l + f.d) * 65536 := by unfold Fi.mark; show (f.now k + 2 * f.d + f.l) * 65536 = _; congr 1; omega
    rw [m1, m2]
    exact h1
  have mk : (f.thr (f.now i + f.d + f.l), Q.t4) = f.mark i := by rw [hQ4]; rfl
  have hwin : conf0.window = 4 := rfl
  by_cases h0 : i = 0
  · subst h0
    refine fin 1 Q.rate Q.delay _ (Reckons.first hQmn (by rw [hQcf]; decide)) rfl ?_ (fun h => by omega)
    rw [mk]; rfl
  · by_cases h4 : i ≤ 4
    · obtain ⟨n, rfl⟩ : ∃ n, i = n + 1 := ⟨i - 1, by omega⟩
      obtain ⟨s, tw, h1, h2, h3⟩ := rk 0 (by omega) (by omega)
      have hm5 : min (n + 1) 5 = n + 1 := by omega
      have hL : f.marks (n + 1 - min (n + 1) 5) (min (n + 1) 5) = f.mark 0 :: f.marks 1 n := by rw [hm5, Nat.sub_self]; rfl
      have hR := Reckons.more (p := Q) (g := g) (T := f.marks 1 n) (by rw [hQmn, hQcf, hwin]; omega) h1
      refine fin _ s _ _ (by rw [hL]; exact hR) (by rw [hQmn]; omega) ?_ (fun _ => ⟨h2, h3⟩)
      rw [show min (n + 1 + 1) 5 = n + 2 by omega, show n + 1 + 1 - (n + 2) = 0 by omega]
      show f.mark 0 :: (f.marks 1 n ++ [(f.thr (f.now (n + 1) + f.d + f.l), Q.t4)]) = _
      rw [mk, show n + 1 = 1 + n by omega, f.marks_snoc n 1]
      rfl
    · obtain ⟨n, rfl⟩ : ∃ n, i = n + 5 := ⟨i - 5, by omega⟩
      obtain ⟨s, tw, h1, h2, h3⟩ := rk (n + 1) (by omega) (by omega)
      have hL : f.marks (n + 5 - min (n + 5) 5) (min (n + 5) 5) = f.mark n :: f.mark (n + 1) :: f.marks (n + 2) 3 := by
        rw [show min (n + 5) 5 = 5 by omega, show n + 5 - 5 = n by omega]; rfl
      have hR := Reckons.drop (p := Q) (g := g) (x0 := f.mark n) (T := f.marks (n + 2) 3) (by rw [hQmn, hQcf, hwin]; omega) h1
      refine fin _ s _ _ (by rw [hL]; exact hR) (by rw [hQmn]; omega) ?_ (fun _ => ⟨h2, h3⟩)
      rw [show min (n + 5 + 1) 5 = 5 by omega, show n + 5 + 1 - 5 = n + 1 by omega]
      show f.mark (n + 1) :: (f.marks (n + 2) 3 ++ [(f.thr (f.now (n + 5) + f.d + f.l), Q.t4)]) = _
      rw [mk, show n + 5 = n + 2 + 3 by omega, f.marks_snoc 3 (n + 2)]
      rfl
set_option maxRecDepth 100000 in
set_option maxHeartbeats 2000000 in
theorem there_any (r st n : Int) (rb sb : Nat) (hr : Near r) (hs : 0 ≤ st ∧ st < 16777216) (hn : 0 ≤ n ∧ n ≤ 30000000) (w : World) (R : Blk w rb 25 #[.int .i64 r]) (S : Blk w sb 3 #[.int .i64 st]) :
    Calls Try.prog 48 #[.int .i64 n, .pointer (some ⟨rb, 0, none⟩), .pointer (some ⟨sb, 0, none⟩)] w fun e w' => e = .returned (.int .i64 (byN r (n * 65536) + st * 65536)) ∧ Below w.heap.size w w' := by
  obtain ⟨c1, c2, _, _, c5⟩ := by_near hr hn.1 hn.2
  have hb := by_any (n * 65536) r (by unfold I64; omega) (by have h1 := hr.1; have h2 := hr.2; unfold I64; omega) w
  rw [c1] at hb
  have y0 := R.cellOf (v := .int .i64 r) 0 rfl
  have f1 : IntKind.i64.wrap (n * 65536) = n * 65536 := wrap_of (by omega) (by omega)
  have f2 : IntKind.i64.wrap (st * 65536) = st * 65536 := wrap_of (by omega) (by omega)
  have f3 : IntKind.i64.wrap (byN r (n * 65536) + st * 65536) = byN r (n * 65536) + st * 65536 := wrap_of (by omega) (by omega)
  have HB := Lib.hid hb
  clear hr hs hn c1 c2 c5 hb
  generalize byN r (n * 65536) = V at *
  go_enter Try.func48, Try.ntmps48
  go_wp2_with fail
  refine HB.out.mono ?_
  rintro e w1 ⟨rfl, L1⟩
  have z0 := (S.kept L1).cellOf (v := .int .i64 st) 0 rfl
  clear S R y0 HB f1
  go_wp2_with fail
  go_ret
  exact ⟨rfl, L1⟩
set_option maxRecDepth 100000 in
set_option maxHeartbeats 16000000 in
theorem peerFinds_calls (x0 x1 x2 x3 x4 x5 : Int) (w : World) : Calls Try.prog 11 #[.int .i64 x0, .int .i64 x1, .int .i64 x2, .int .i64 x3, .int .i64 x4, .int .i64 x5] w fun e w' => e = .returned (.bool true) ∧ Below w.heap.size w w' := by
  have a0 : bits .and .i64 x0 4095 = x0 % 4096 := andI x0 12 (by omega) _ rfl
  have a1 : bits .and .i64 x1 65535 = x1 % 65536 := andI x1 16 (by omega) _ rfl
  have a2 : bits .and .i64 x2 1048575 = x2 % 1048576 := andI x2 20 (by omega) _ rfl
  have a3 : bits .and .i64 x3 255 = x3 % 256 := andI x3 8 (by omega) _ rfl
  have a4 : bits .and .i64 x4 16777215 = x4 % 16777216 := andI x4 24 (by omega) _ rfl
  have a5 : bits .and .i64 x5 15 = x5 % 16 := andI x5 4 (by omega) _ rfl
  have d0 : 0 ≤ x0 % 4096 ∧ x0 % 4096 ≤ 4095 := by omega
  have l0 : 0 ≤ x1 % 65536 ∧ x1 % 65536 ≤ 65535 := by omega
  have s0 : 0 ≤ x4 % 16777216 ∧ x4 % 16777216 < 16777216 := by omega
  have g0 : 0 ≤ x2 % 1048576 ∧ x2 % 1048576 ≤ 1048575 := by omega
  have p0 : 0 ≤ x3 % 256 ∧ x3 % 256 ≤ 255 := by omega
  have n0 : 0 ≤ x5 % 16 ∧ x5 % 16 ≤ 15 := by omega
  generalize x0 % 4096 = d at *
  generalize x1 % 65536 = l at *
  generalize x2 % 1048576 = ga at *
  generalize x3 % 256 = pa at *
  generalize x4 % 16777216 = st at *
  generalize x5 % 16 = na at *
  obtain ⟨gap, hgap⟩ : ∃ gap, gap = 100000 + ga := ⟨_, rfl⟩
  obtain ⟨pp, hpp⟩ : ∃ pp, pp = pa - 128 := ⟨_, rfl⟩
  obtain ⟨n, hn⟩ : ∃ n : Nat, (n : Int) = 2 + na := ⟨(2 + na).toNat, by omega⟩
  obtain ⟨r1, hr1⟩ : ∃ r1, r1 = pp * 2199023 := ⟨_, rfl⟩
  obtain ⟨r, hr⟩ : ∃ r, r = 2199023255552 + r1 := ⟨_, rfl⟩
  have b2 : IntKind.i64.wrap (100000 + ga) = gap := by rw [hgap]; exact wrap_of (by omega) (by omega)
  have b3 : IntKind.i64.wrap (pa - 128) = pp := by rw [hpp]; exact wrap_of (by omega) (by omega)
  have b5 : IntKind.i64.wrap (2 + na) = (n : Int) := by rw [hn]; exact wrap_of (by omega) (by omega)
  have b6 : IntKind.i64.wrap (pp * 2199023) = r1 := by rw [hr1]; exact wrap_of (by omega) (by omega)
  have b7 : IntKind.i64.wrap (2199023255552 + r1) = r := by rw [hr]; exact wrap_of (by omega) (by omega)
  have hok : Fi.Ok ⟨r, st, d, l, gap⟩ := ⟨by unfold Near; show 2198741780608 ≤ r ∧ r ≤ 2199304730496; omega, s0, d0, l0, by show 100000 ≤ gap ∧ gap ≤ 1148575; omega⟩
  have HF := Lib.hid (And.intro hok (show 2 ≤ n ∧ n ≤ 17 by omega))
  clear hgap hpp hr1 hr hn d0 l0 s0 g0 p0 n0 hok
  have S0 := Blk.new w 3 #[.int .i64 x4]
  have L0 := (Below.refl w.heap.size w).alloc (Nat.le_refl _) (.cells #[.int .i64 x4] 3)
  go_enter Try.func11, Try.ntmps11
  go_wp2_with fail
  generalize w.alloc (.cells #[.int .i64 x4] 3) = w0 at *
  refine (head17 w0).mono ?_
  rintro e w1 ⟨rfl, L1⟩
  have S1 := S0.kept L1
  have LL1 := L0.trans (L1.mono L0.size)
  have y0 := S1.cellOf (v := .int .i64 x4) 0 rfl
  have fz := S1.frozen
  have S2 : Blk (w1.setCell ⟨w.heap.size, 0, none⟩ (.int .i64 st)) w.heap.size 3 #[.int .i64 st] := S1.set_ 0 (.int .i64 st)
  have LL2 := LL1.setCell (p := ⟨w.heap.size, 0, none⟩) (Nat.le_refl _) (.int .i64 st)
  have HS2 := Lib.hid (And.intro S2 LL2)
  clear S0 L0 L1 S1 LL1 S2 LL2
  go_wp2_with fail
  have hC := HS2.out
  clear HS2 y0 fz a0 a1 a2 a3 a4 a5 b2 b3 b5 b6 b7
  have hz2 : (w1.setCell ⟨w.heap.size, 0, none⟩ (.int .i64 st)).heap.size = w1.heap.size := by simp [World.setCell]
  have R3 := Blk.new (w1.setCell ⟨w.heap.size, 0, none⟩ (.int .i64 st)) 25 #[.int .i64 r]
  have S3 := hC.1.alloc (.cells #[.int .i64 r] 25)
  have L3 := hC.2.alloc hC.2.size (.cells #[.int .i64 r] 25)
  rw [hz2] at R3
  have hsr : w.heap.size < w1.heap.size := by have := hC.1.lt; rw [hz2] at this; exact this
  clear hC hz2
  generalize (w1.setCell ⟨w.heap.size, 0, none⟩ (.int .i64 st)).alloc (.cells #[.int .i64 r] 25) = w3 at *
  refine (conf_any w3).mono ?_
  rintro e w4 ⟨rfl, L4⟩
  have S4 := S3.kept L4
  have R4 := R3.kept L4
  have LL4 := L3.trans (L4.mono L3.size)
  have hr4 := R4.lt
  clear S3 R3 L3 L4
  go_wp2_with fail
  refine (penew_ok conf0 conf0_right w4).mono ?_
  rintro e w5 ⟨g, rfl, P5, hg, L5⟩
  have S5 := S4.kept L5
  have R5 := R4.kept L5
  have LL5 := LL4.trans (L5.mono LL4.size)
  have hgw : w.heap.size ≤ g := Nat.le_trans LL4.size hg
  have hrg : w1.heap.size ≠ g := by omega
  have hsg : w.heap.size ≠ g := by omega
  clear S4 R4 LL4 L5 hg hr4
  obtain ⟨f, hf⟩ : ∃ f : Fi, f = ⟨r, st, d, l, gap⟩ := ⟨_, rfl⟩
  have F5 : Hid (FS f (peNew conf0) 0 ∧ Mk w5 g (peNew conf0).mA (peNew conf0).mn (peNew conf0).mc (f.marks (0 - min 0 5) (min 0 5))) := Lib.hid ⟨⟨rfl, peNew_wf conf0_right, rfl, rfl, rfl, fun h => by omega⟩, Mk.none_ w5 g⟩
  have HFF := Lib.hid hf
  have HOK : Hid (f.Ok ∧ 2 ≤ n ∧ n ≤ 17) := Lib.hid (by rw [hf]; exact HF.out)
  clear hf HF
  go_wp2_with fail
  go_loopw [17, 18] (fun nw i wr => ∃ (k : Nat) (p : Pe), k ≤ n ∧ nw = .int .i64 (f.now k) ∧ i = .int .i64 k ∧ PeIn wr g p ∧ Hid (FS f p k ∧ Mk wr g p.mA p.mn p.mc (f.marks (k - min k 5) (min k 5))) ∧ Blk wr w.heap.size 3 #[.int .i64 st] ∧ Blk wr w1.heap.size 25 #[.int .i64 r] ∧ Below w.heap.size w wr) (fun _ i _ => n - (intOf i).toNat)
  case atStart => exact ⟨0, _, Nat.zero_le _, by unfold Fi.now; simp, rfl, P5, F5, S5, R5, LL5⟩
  case round =>
    clear P5 F5 S5 R5 LL5
    obtain ⟨k, p, hk, rfl, rfl, P, F, S, R, L⟩ := hrel
    have hok := HOK.out
    have hd : 0 ≤ d ∧ d ≤ 4095 := by have := hok.1.d; rw [HFF.out] at this; exact this
    have hl : 0 ≤ l ∧ l ≤ 65535 := by have := hok.1.l; rw [HFF.out] at this; exact this
    have hg : 100000 ≤ gap ∧ gap ≤ 1148575 := by have := hok.1.gap; rw [HFF.out] at this; exact this
    by_cases hkn : k < n
    · have hn17 : n ≤ 17 := hok.2.2
      have hN0 : f.now k = 1000 + (k : Int) * gap := by rw [HFF.out]; rfl
      have hN1 : f.now (k + 1) = f.now k + gap := by rw [hN0]; rw [HFF.out]; show 1000 + ((k + 1 : Nat) : Int) * gap = _; rw [Int.natCast_add, Int.add_mul]; omega
      have k0 : 0 ≤ (k : Int) * gap := Int.mul_nonneg (by omega) (by omega)
      have k1 : (k : Int) * gap ≤ 16 * 1148575 := Int.mul_le_mul (by omega) (by omega) (by omega) (by omega)
      have hstep := find_step hok.1 k (by omega) g p
      have hth : ∀ x, f.thr x = byN r (x * 65536) + st * 65536 := fun x => by rw [HFF.out]; rfl
      rw [show f.d = d by rw [HFF.out], show f.l = l by rw [HFF.out]] at hstep
      obtain ⟨N, hN⟩ : ∃ N, N = f.now k := ⟨_, rfl⟩
      rw [← hN] at hN0 hN1 hstep
      have f1 : IntKind.i64.wrap (N * 65536) = N * 65536 := wrap_of (by omega) (by omega)
      have f2 : IntKind.i64.wrap (N + d) = N + d := wrap_of (by omega) (by omega)
      have f3 : IntKind.i64.wrap (N + d + l) = N + d + l := wrap_of (by omega) (by omega)
      have f4 : IntKind.i64.wrap (2 * d) = 2 * d := wrap_of (by omega) (by omega)
      have f5 : IntKind.i64.wrap (N + 2 * d) = N + 2 * d := wrap_of (by omega) (by omega)
      have f6 : IntKind.i64.wrap (N + 2 * d + l) = N + 2 * d + l := wrap_of (by omega) (by omega)
      have f7 : IntKind.i64.wrap ((N + 2 * d + l) * 65536) = (N + 2 * d + l) * 65536 := wrap_of (by omega) (by omega)
      have f8 : IntKind.i64.wrap (N + gap) = N + gap := wrap_of (by omega) (by omega)
      have HST := Lib.hid hstep
      have HN1 := Lib.hid hN1
      have HTH := Lib.hid hth
      have hNb : 0 ≤ N ∧ N ≤ 1000 + 16 * 1148575 := by omega
      rw [← hN]
      clear hstep hN1 hth hN0 k0 k1 hok hN
      have hnr : Near r := by have := HOK.out.1.r; rw [HFF.out] at this; exact this
      have hst : 0 ≤ st ∧ st < 16777216 := by have := HOK.out.1.st; rw [HFF.out] at this; exact this
      have HC1 : Hid (∀ W, Blk W w1.heap.size 25 #[.int .i64 r] → Blk W w.heap.size 3 #[.int .i64 st] → Calls Try.prog 48 #[.int .i64 (N + d), .pointer (some ⟨w1.heap.size, 0, none⟩), .pointer (some ⟨w.heap.size, 0, none⟩)] W fun e w' => e = .returned (.int .i64 (f.thr (N + d))) ∧ Below W.heap.size W w') := Lib.hid fun W hR hS => by rw [HTH.out]; exact there_any r st (N + d) _ _ hnr hst ⟨by omega, by omega⟩ W hR hS
      have HC2 : Hid (∀ W, Blk W w1.heap.size 25 #[.int .i64 r] → Blk W w.heap.size 3 #[.int .i64 st] → Calls Try.prog 48 #[.int .i64 (N + d + l), .pointer (some ⟨w1.heap.size, 0, none⟩), .pointer (some ⟨w.heap.size, 0, none⟩)] W fun e w' => e = .returned (.int .i64 (f.thr (N + d + l))) ∧ Below W.heap.size W w') := Lib.hid fun W hR hS => by rw [HTH.out]; exact there_any r st (N + d + l) _ _ hnr hst ⟨by omega, by omega⟩ W hR hS
      clear hnr hst hNb hd hl hg HTH
      go_wp2_with fail
      refine (HC1.out wr R S).mono ?_
      rintro e w6 ⟨rfl, L6⟩
      have P6 : PeIn w6 g p := P.kept L6
      have S6 := S.kept L6
      have R6 := R.kept L6
      have M6 := F.out.2.kept L6
      have LL6 := L.trans (L6.mono L.size)
      clear P S R L L6
      go_wp2_with fail
      refine (HC2.out w6 R6 S6).mono ?_
      rintro e w7 ⟨rfl, L7⟩
      have P7 : PeIn w7 g p := P6.kept L7
      have S7 := S6.kept L7
      have R7 := R6.kept L7
      have M7 := M6.kept L7
      have LL7 := LL6.trans (L7.mono LL6.size)
      have P8 := P7.alloc (.cells #[.int .i64 (N * 65536), .int .i64 (f.thr (N + d)), .int .i64 (f.thr (N + d + l)), .int .i64 ((N + 2 * d + l) * 65536)] 82)
      have S8 := S7.alloc (.cells #[.int .i64 (N * 65536), .int .i64 (f.thr (N + d)), .int .i64 (f.thr (N + d + l)), .int .i64 ((N + 2 * d + l) * 65536)] 82)
      have R8 := R7.alloc (.cells #[.int .i64 (N * 65536), .int .i64 (f.thr (N + d)), .int .i64 (f.thr (N + d + l)), .int .i64 ((N + 2 * d + l) * 65536)] 82)
      have M8 := M7.keep (gr_new (grownBy_refl w7 (some g)) (.cells #[.int .i64 (N * 65536), .int .i64 (f.thr (N + d)), .int .i64 (f.thr (N + d + l)), .int .i64 ((N + 2 * d + l) * 65536)] 82))
      have LL8 := LL7.alloc LL7.size (.cells #[.int .i64 (N * 65536), .int .i64 (f.thr (N + d)), .int .i64 (f.thr (N + d + l)), .int .i64 ((N + 2 * d + l) * 65536)] 82)
      have A8 := Blk.new w7 82 #[.int .i64 (N * 65536), .int .i64 (f.thr (N + d)), .int .i64 (f.thr (N + d + l)), .int .i64 ((N + 2 * d + l) * 65536)]
      clear P6 S6 R6 M6 LL6 L7 P7 S7 R7 M7 LL7 HC1 HC2
      go_wp2_with (refine wpList_store_new (cs := #[.int .i64 (N * 65536), .int .i64 (f.thr (N + d)), .int .i64 (f.thr (N + d + l)), .int .i64 ((N + 2 * d + l) * 65536)]) rfl 82 (.tmp 19) (.tmp 77) rfl rfl rfl rfl rfl (by kernel_rfl) (by rw [← Array.all_toList]; rfl) ?_; generalize w7.alloc (.cells #[.int .i64 (N * 65536), .int .i64 (f.thr (N + d)), .int .i64 (f.thr (N + d + l)), .int .i64 ((N + 2 * d + l) * 65536)] 82) = w8 at *; go_wp2_with (refine wpList_load_row_g (by first | rfl | (go_simp; done)) 82 (.tmp 19) rfl w7.heap.size rfl 82 #[.int .i64 (N * 65536), .int .i64 (f.thr (N + d)), .int .i64 (f.thr (N + d + l)), .int .i64 ((N + 2 * d + l) * 65536)] (0, 0) _ A8 Try.underlying82 rfl (by kernel_rfl) ?_))
      refine (HST.out w8 P8 F.out.1 M8).mono ?_
      rintro e w9 ⟨rfl, q, P9, F9, M9, G9⟩
      have S9 := S8.keep G9 hsg
      have R9 := R8.keep G9 hrg
      have LL9 := LL8.trans (below_one G9 LL8.size hgw)
      clear P8 S8 R8 M8 LL8 A8 HST G9
      go_wp2_with fail
      go_roundw
      case rel => exact ⟨k + 1, q, by omega, by rw [HN1.out], by go_num, P9, Lib.hid ⟨F9, M9⟩, S9, R9, LL9⟩
      case measure => simp [intOf]; omega
    · obtain rfl : n = k := by omega
      have hmn : p.mn = min n 5 := F.out.1.mn
      have hab : ableV p = true := by
        unfold ableV
        rw [F.out.1.bad, F.out.1.cf, hmn]
        rw [decide_eq_true (show 2 ≤ min n 5 by omega)]
        rfl
      obtain ⟨⟨o1, o2⟩, o3, o4⟩ := F.out.1.found (by omega)
      have od : f.d = d := by rw [HFF.out]
      have or_ : f.r = r := by rw [HFF.out]
      rw [od] at o3 o4
      rw [or_] at o1 o2
      have nr : Near r := by have := hok.1.r; rw [HFF.out] at this; exact this
      obtain ⟨nr1, nr2⟩ := nr
      have f1 : IntKind.i64.wrap (d * 65536) = d * 65536 := wrap_of (by omega) (by omega)
      obtain ⟨dd, hdd⟩ : ∃ dd, dd = p.delay - d * 65536 := ⟨_, rfl⟩
      have f2 : IntKind.i64.wrap (p.delay - d * 65536) = dd := by rw [hdd]; exact wrap_of (by omega) (by omega)
      obtain ⟨oo, hoo⟩ : ∃ oo, oo = p.rate - r := ⟨_, rfl⟩
      have f3 : IntKind.i64.wrap (p.rate - r) = oo := by rw [hoo]; exact wrap_of (by omega) (by omega)
      have c1 : (-65536 : Int) ≤ dd := by omega
      have c2 : dd ≤ 65536 := by omega
      have c3 : (-4096 : Int) < oo := by omega
      have c4 : oo < 4096 := by omega
      have HAB := Lib.hid hab
      have y0 := R.cellOf (v := .int .i64 r) 0 rfl
      have srb := R.lt
      have sg := P.lt
      have HRt : Hid (∀ W, Below wr.heap.size wr W → Calls Try.prog 50 #[.pointer (some ⟨g, 0, none⟩)] W fun e w' => e = .returned (.int .i64 p.rate) ∧ Below W.heap.size W w') := Lib.hid fun W hW => (perate_run p g W (P.kept hW)).mono fun e w' h => ⟨h.1, by rw [← h.2]; exact Below.refl _ _⟩
      clear hab hmn o1 o2 o3 o4 od or_ nr1 nr2 hdd hoo hok hd hl hg S R hkn hk
      go_wp2_with fail
      refine (delay_run p g wr P).mono ?_
      rintro e w6 ⟨rfl, rfl⟩
      go_wp2_with fail
      refine wp_region_class (fun w' => Below wr.heap.size wr w') (by kernel_rfl) (by kernel_rfl) (Below.refl _ _).drew ?_
      repeat (first | (refine wpQuiet_skip ?_ ?_; rfl; simp only [Act.put, List.setIfInBounds_toArray, List.set_cons_zero, List.set_cons_succ]) | (refine wpQuiet_val (v := ?_) ?_ ?_ ?_; rotate_left; rfl; (intro w' hw'; obtain ⟨hc, hf⟩ := bcell hw'; go_simp; with_reducible rfl); simp only [Act.put, List.setIfInBounds_toArray, List.set_cons_zero, List.set_cons_succ]) | (refine wpQuiet_call (v := ?_) 50 ?_ ?_ ?_ ?_ ?_; rotate_left 2; (first | rfl | (go_simp; done)); (intro w' hw'; obtain ⟨hc, hf⟩ := bcell hw'; go_simp; with_reducible rfl); (intro w' hw'; (with_reducible refine (HRt.out _ hw').mono ?_); rintro e w2 ⟨rfl, hb⟩; refine ⟨?_, hw'.trans (hb.mono (by have h0 := hw'.size; first | omega | (simp at h0; omega)))⟩; with_reducible rfl); simp only [Act.put, List.setIfInBounds_toArray, List.set_cons_zero, List.set_cons_succ]) | (refine wpQuiet_val (v := ?_) ?_ ?_ ?_; rotate_left; (first | rfl | (go_simp; done)); (intro w' hw'; obtain ⟨hc, hf⟩ := bcell hw'; go_simp; with_reducible rfl); simp only [Act.put, List.setIfInBounds_toArray, List.set_cons_zero, List.set_cons_succ]) | (refine wpQuiet_skip ?_ ?_; (first | rfl | (go_simp; done)); simp only [Act.put, List.setIfInBounds_toArray, List.set_cons_zero, List.set_cons_succ]))
      refine wpQuiet_nil ?_
      intro w6 L6
      have P6 : PeIn w6 g p := P.kept L6
      have LL6 := L.trans (L6.mono L.size)
      clear y0 srb sg HRt P L L6 f1 f2 f3
      go_wp2_with fail
      refine (able_any p g w6 P6).mono ?_
      rintro e w7 ⟨rfl, P7, L7⟩
      have LL7 := LL6.trans (L7.mono LL6.size)
      rw [HAB.out]
      clear P6 LL6 P7 L7
      go_wp2_with fail
      go_ret
      exact ⟨rfl, LL7⟩

/-! ### The row's step -/
set_option maxRecDepth 100000 in
theorem peerFinds_lifted (os : Os) (started : os.Started) (H : Type) (enc : TypeId × Value → H) :
    ReturnsInHanded {} Try.checked os 11 .any (Rows.peerFindsSpec.pre6 enc Try.prog Try.f11 Rows.peerFindsRow.domain false) (Rows.peerFindsSpec.post enc Try.prog Try.f11 false true false false) := by
  refine returnsInHanded_of_change (C := Try.checked) own started (by kernel_rfl) Try.func11
    (ChangeSpec.witness6 (enc := enc) (C := Try.checked) false ⟨#[], #[.int .i64 0, .int .i64 0, .int .i64 0, .int .i64 0, .int .i64 0, .int .i64 0], []⟩ 8 (by kernel_rfl) (by kernel_rfl) (by kernel_rfl) (by kernel_rfl)) ?_
  intro W base args ds gs before hval0 hW _ _
  have hval : ∀ (j : Nat) t v, Try.f11.params[j]? = some t → args[j]? = some v → Value.okWide Try.prog W .any base t v := hval0
  have hW' := hW
  obtain ⟨p, q, hA0, hV, rfl, hfz, hnd⟩ := hW
  have hA : DataW.TrodAll enc Try.prog W 0 (fun _ => true) true Try.f11.params.toList args.toList ds p := hA0
  rw [Try.params11] at hA hval
  obtain ⟨v0, v1, v2, v3, v4, v5, d0, d1, d2, d3, d4, d5, p0, p1, p2, p3, p4, p5, rfl, rfl, rfl, h0, h1, h2, h3, h4, h5⟩ := trodAll_six hA
  obtain ⟨x0, rfl⟩ := okWide_int Try.underlying3 (hval 0 3 v0 rfl rfl)
  obtain ⟨x1, rfl⟩ := okWide_int Try.underlying3 (hval 1 3 v1 rfl rfl)
  obtain ⟨x2, rfl⟩ := okWide_int Try.underlying3 (hval 2 3 v2 rfl rfl)
  obtain ⟨x3, rfl⟩ := okWide_int Try.underlying3 (hval 3 3 v3 rfl rfl)
  obtain ⟨x4, rfl⟩ := okWide_int Try.underlying3 (hval 4 3 v4 rfl rfl)
  obtain ⟨x5, rfl⟩ := okWide_int Try.underlying3 (hval 5 3 v5 rfl rfl)
  exact law_post laidOut (by kernel_rfl) rfl (by kernel_rfl) Try.underlying4 rfl hW' (peerFinds_calls x0 x1 x2 x3 x4 x5 W)

theorem peerFinds_holds : Rows.PeerFindsSaid :=
  OpenClaim.holds_of_wide 11 Try.f11 rfl rfl rfl rfl rfl rfl rfl ⟨rfl, rfl, rfl, rfl, rfl⟩ rfl rfl rfl rfl rfl (by kernel_rfl) Try.func11 (by kernel_rfl)
    (of_decide_eq_true (by kernel_rfl)) (by unfold Func.isWrapper; first | (rw [if_pos (by decide +kernel)]; kernel_rfl) | (rw [if_neg (by decide +kernel)]; exact ⟨rfl, rfl⟩))
    (fun os started H enc _ => peerFinds_lifted os started H enc)

#print axioms peerFinds_holds
end Go.Proofs.Ytbkflmeijjcnhaa
