/-
  Layer 20: what the laws share: the head.
-/
import Derived.Test.YtcdgofndfajekaaTreeD
import Derived.Test.YtcdgofndfajekaaTreeF
import Derived.Test.YtcdgofndfajekaaTreeG
namespace Go.Proofs.Ytcdgofndfajekaa
set_option linter.unusedSimpArgs false
set_option linter.unusedVariables false
open Go.RowKit Go.WideShapes Go.ChangeShapes
attribute [local go_sem ↓] Go.wp_at_zero Go.wp_at_succ

theorem TAt.far0 {w w' : World} {b : Bks} {t : Tre} {ps : List Value} {S : List Nat} (h : TAt w b t ps) (hf : Fr S w w') (hs : ∀ k ∈ S, k ∉ b.all) (he : ∀ e ∈ t.es, e.path = []) : TAt w' b t ps :=
  h.far hf hs fun k e A c hk _ => by rw [he e (List.mem_of_getElem? hk)]; exact Path.nil _ _ _
theorem tell_right {m : Mg} (hk : m.kind = 11) (hr : m.inRange) (h1 : m.to = 0) (h2 : m.toPort = 0) (h3 : m.time = 0) (h4 : m.rate = 0) (hp : m.path.length ≤ 32) (ho : okN ids m.path = true) : checkV m = 0 := by
  rw [check_last (by unfold Known; omega) hr ⟨fun _ _ => ⟨h1, h2, fun _ => h3⟩, fun _ => h4⟩ (fun h => absurd hk h) hp, if_pos ho]
theorem okN_one {most x : Int} (h : 0 ≤ x ∧ x ≤ most) : okN most [x] = true := by rw [okN_cons, okN_nil, decide_eq_true h]; rfl
theorem okN_more {most x : Int} {xs : List Int} (h : 0 ≤ x ∧ x ≤ most) (hx : okN most xs = true) : okN most (x :: xs) = true := by rw [okN_cons, hx, decide_eq_true h]; rfl
theorem zr {m : Int} (h : 0 ≤ m) : (0 : Int) ≤ 0 ∧ (0 : Int) ≤ m := ⟨Int.le_refl _, h⟩
/-- What tree.New gives of what is right. -/
theorem new_right (dom : Int) (own : Pr) (n : Nat) (most : Int) (w : World) (h1 : 0 ≤ dom ∧ dom ≤ 127) (h2 : n ≤ 8) (h3 : 1 ≤ most ∧ most ≤ 1099511627776) (h4 : okN 255 [own.one, own.cls, own.two, 0] = true) (h5 : okN ids [own.id] = true) :
    Calls Try.prog 8 #[.int .i64 dom, .agg #[.int .i64 own.one, .int .i64 own.cls, .int .i64 own.two, .int .i64 own.id], .int .i64 (n : Int), .int .i64 most] w fun e w' => ∃ b ps, e = .returned (.tuple #[.pointer (some ⟨b.g, 0, none⟩), .int .i64 0]) ∧ TAt w' b (Tre.new dom own most n) ps ∧ (∀ g ∈ b.all, w.heap.size ≤ g) ∧ Below w.heap.size w w' := by
  refine (new_any dom own n most w).mono ?_
  intro e w' h
  unfold NewT at h
  have hc : checkV (mOwn own) = 0 := tell_right rfl ⟨⟨okN_one (zr (by decide)), okN_more (zr (by decide)) (okN_more (zr (by decide)) (okN_one (zr (by decide)))), okN_more (zr (by decide)) (okN_one (zr (by decide)))⟩, h4, h5⟩ rfl rfl rfl rfl (Nat.zero_le 32) rfl
  rw [if_neg (by omega), if_neg (by rw [hc]; decide), Int.toNat_natCast] at h
  exact h
theorem Tre.up_path {t : Tre} {k : Nat} {x : Bool} (h : ∀ e ∈ t.es, e.path = []) : ∀ e ∈ (t.up k x).es, e.path = [] := by
  intro e he
  unfold Tre.up at he
  split at he
  · exact h e he
  · split at he
    · exact h e he
    · rcases List.mem_or_eq_of_mem_set he with h1 | h1
      · exact h e h1
      · rw [h1]
theorem bks_apart {w : World} {b b' : Bks} (h : ∀ g ∈ b.all, g < w.heap.size) (h' : ∀ g ∈ b'.all, w.heap.size ≤ g) : (∀ k ∈ b'.turn, k ∉ b.all) ∧ (∀ k ∈ b.turn, k ∉ b'.all) := by
  constructor
  · intro k hk a
    have h1 := h k a
    have h2 := h' k (by simp [Bks.turn, Bks.all] at hk ⊢; omega)
    omega
  · intro k hk a
    have h1 := h k (by simp [Bks.turn, Bks.all] at hk ⊢; omega)
    have h2 := h' k a
    omega
theorem TAt.lt {w : World} {b : Bks} {t : Tre} {ps : List Value} (h : TAt w b t ps) : ∀ g ∈ b.all, g < w.heap.size := by
  intro g hg
  simp [Bks.all] at hg
  rcases hg with rfl | rfl | rfl | rfl | rfl
  · exact h.box.lt
  · exact h.ups.lt
  · exact h.hds.lt
  · exact h.pat.lt
  · exact h.whn.lt
theorem turn_ge {b : Bks} {B : Nat} (h : ∀ g ∈ b.all, B ≤ g) : ∀ k ∈ b.turn, B ≤ k := fun k hk => h k (by simp [Bks.turn, Bks.all] at hk ⊢; omega)
theorem out_master (b : Bks) (t : Tre) (ps : List Value) (at_ seq now : Int) (w : World) (h : TAt w b t ps) (hnow : R64 now) (hat : ∀ e ∈ t.es, R64 e.at_) (hm0 : 0 ≤ t.most) (hm1 : t.most ≤ 9223372036854775807) (hpl : ∀ e ∈ t.es, e.path.length ≤ 31)
    (hr : 0 ≤ at_ ∧ at_ < t.es.length ∧ roleAt t.own (t.top now) (t.hs now) at_.toNat = 1) :
    Calls Try.prog 10 #[.pointer (some ⟨b.g, 0, none⟩), .int .i64 at_, .int .i64 seq, .int .i64 now] w (OutM (t.outM at_.toNat seq now) w) := by
  refine (out_any b t ps at_ seq now w h hnow hat hm0 hm1 hpl).mono fun e w' h' => ?_
  rw [if_pos hr] at h'
  exact h'
theorem out_else (b : Bks) (t : Tre) (ps : List Value) (at_ seq now : Int) (w : World) (h : TAt w b t ps) (hnow : R64 now) (hat : ∀ e ∈ t.es, R64 e.at_) (hm0 : 0 ≤ t.most) (hm1 : t.most ≤ 9223372036854775807) (hpl : ∀ e ∈ t.es, e.path.length ≤ 31)
    (hr : ¬ (0 ≤ at_ ∧ at_ < t.es.length ∧ roleAt t.own (t.top now) (t.hs now) at_.toNat = 1)) :
    Calls Try.prog 10 #[.pointer (some ⟨b.g, 0, none⟩), .int .i64 at_, .int .i64 seq, .int .i64 now] w (OutZ w) := by
  refine (out_any b t ps at_ seq now w h hnow hat hm0 hm1 hpl).mono fun e w' h' => ?_
  rw [if_neg hr] at h'
  exact h'
/-! ### head, plain -/
def hA : Tre := ⟨0, ⟨1, 0, 0, 1⟩, 100, [⟨true, false, Vc.zero, [], 0⟩]⟩
def hB0 : Tre := ⟨0, ⟨2, 0, 0, 2⟩, 100, [⟨true, false, Vc.zero, [], 0⟩]⟩
def hM : Mg := ⟨11, 0, 1, 1, 0, 0, 0, 0, 0, 0, 1, 0, 0, 1, 0, [1]⟩
def hB1 : Tre := ⟨0, ⟨2, 0, 0, 2⟩, 100, [⟨true, true, ⟨⟨1, 0, 0, 1⟩, 0, 1, 0, 0⟩, [1], 0⟩]⟩
theorem hA_up : (Tre.new 0 ⟨1, 0, 0, 1⟩ 100 1).upI 0 true = hA := rfl
theorem hB_up : (Tre.new 0 ⟨2, 0, 0, 2⟩ 100 1).upI 0 true = hB0 := rfl
theorem hA_top : hA.top 0 = ⟨⟨1, 0, 0, 1⟩, 0, 1, 0, -1⟩ := rfl
theorem hA_role : roleAt hA.own (hA.top 0) (hA.hs 0) 0 = 1 := rfl
theorem hA_out : hA.outM 0 1 0 = hM := rfl
theorem hM_check : checkV hM = 0 := tell_right rfl ⟨⟨okN_one (by decide), okN_more (by decide) (okN_more (by decide) (okN_one (by decide))), okN_more (by decide) (okN_one (by decide))⟩, okN_more (by decide) (okN_more (by decide) (okN_more (by decide) (okN_one (by decide)))), okN_one (by decide)⟩ rfl rfl rfl rfl (by decide) (okN_one (by decide))
theorem hB_in : hB0.inE 0 hM = 0 := by
  unfold Tre.inE
  rw [if_neg (by rw [hM_check]; decide), if_neg (by decide), if_neg (by decide)]
theorem hB_put : hB0.in_ 0 hM 0 = hB1 := by unfold Tre.in_; rw [if_pos hB_in]; rfl
theorem hB_top : hB1.top 5 = ⟨⟨1, 0, 0, 1⟩, 0, 1, 0, 0⟩ := rfl
theorem hB_role : (List.range 1).map (fun j => Value.int .i64 (roleAt hB1.own (hB1.top 5) (hB1.hs 5) j)) = [.int .i64 2] := rfl
theorem hA_root : decide ((hA.top 5).at_ < 0) = true := rfl
theorem hB_root : decide ((hB1.top 5).at_ < 0) = false := rfl
set_option maxRecDepth 100000 in
set_option maxHeartbeats 4000000 in
theorem head_any (w : World) : Calls Try.prog 7 #[] w fun e w' => e = .returned (.bool true) ∧ Below w.heap.size w w' := by
  have hrz : R64 0 := by unfold R64; omega
  have hr5 : R64 5 := by unfold R64; omega
  have HRZ := Lib.hid (And.intro hrz hr5)
  clear hrz hr5
  go_enter Try.func7, Try.ntmps7
  go_wp2_with fail
  refine (new_right 0 ⟨1, 0, 0, 1⟩ 1 100 w (by decide) (by decide) (by decide) rfl rfl).mono ?_
  rintro e w1 ⟨a, pa, rfl, hta, hga, b1⟩
  have HA1 := Lib.hid hta
  have HGA := Lib.hid hga
  have HW1 := Lib.hid b1
  clear hta hga b1
  go_wp2_with fail
  refine (new_right 0 ⟨2, 0, 0, 2⟩ 1 100 w1 (by decide) (by decide) (by decide) rfl rfl).mono ?_
  rintro e w2 ⟨b, pb, rfl, htb, hgb, b2⟩
  have hap := bks_apart HA1.out.lt hgb
  have HAP := Lib.hid hap
  have HB2 := Lib.hid htb
  have HA2 := Lib.hid (HA1.out.kept b2)
  have HGB : Hid (∀ g ∈ b.all, w.heap.size ≤ g) := Lib.hid fun g hg => Nat.le_trans HW1.out.size (hgb g hg)
  have HW2 := Lib.hid (HW1.out.trans (b2.mono HW1.out.size))
  clear htb hgb b2 hap HA1 HW1
  go_wp2_with fail
  refine (up_any a _ pa 0 true w2 HA2.out).mono ?_
  rintro e w3 ⟨rfl, ⟨pa3, hta⟩, f3⟩
  rw [hA_up] at hta
  have HA3 := Lib.hid hta
  have HB3 := Lib.hid (HB2.out.far0 f3 HAP.out.2 (by intro e he; simp [Tre.new] at he; rw [he]; rfl))
  have HW3 := Lib.hid (HW2.out.trans (f3.below HW2.out.size (turn_ge HGA.out)))
  clear hta f3 HA2 HB2 HW2
  go_wp2_with fail
  refine (up_any b _ pb 0 true w3 HB3.out).mono ?_
  rintro e w4 ⟨rfl, ⟨pb4, htb⟩, f4⟩
  rw [hB_up] at htb
  have HB4 := Lib.hid htb
  have HA4 := Lib.hid (HA3.out.far0 f4 HAP.out.1 (by intro e he; simp [hA] at he; rw [he]))
  have HW4 := Lib.hid (HW3.out.trans (f4.below HW3.out.size (turn_ge HGB.out)))
  clear htb f4 HA3 HB3 HW3
  go_wp2_with fail
  have hO := out_master a hA pa3 0 1 0 w4 HA4.out HRZ.out.1 (by intro e he; simp [hA] at he; rw [he]; exact HRZ.out.1) (by decide) (by decide) (by intro e he; simp [hA] at he; rw [he]; decide) ⟨by decide, by decide, hA_role⟩
  refine hO.mono ?_
  rintro e w5 ⟨A5, n5, c5, rfl, hn5, P5, _, hA5, b5⟩
  have hchk : (checkV (hA.outM (0 : Int).toNat 1 0) == 0) = true := by rw [show hA.outM (0 : Int).toNat 1 0 = hM from rfl, hM_check]; rfl
  obtain rfl : n5 = 1 := hn5
  rw [hchk, show mcells (hA.outM (0 : Int).toNat 1 0) A5 1 c5 = #[.int .i64 11, .int .i64 0, .int .i64 1, .int .i64 1, .int .i64 0, .int .i64 0, .int .i64 0, .int .i64 0, .int .i64 0, .int .i64 0, .int .i64 1, .int .i64 0, .int .i64 0, .int .i64 1, .int .i64 0, .slice A5 1 c5] from rfl]
  have HA5 := Lib.hid (HA4.out.kept b5)
  have HB5 := Lib.hid (HB4.out.kept b5)
  have HW5 := Lib.hid (HW4.out.trans (b5.mono HW4.out.size))
  have hP5 : Path w5 b.all A5 [1] := fun h0 => by
    obtain ⟨ad, e1, e2, _, e4⟩ := P5 h0
    refine ⟨ad, e1, e2, fun a1 => ?_, e4⟩
    have := hA5 ad e1
    have := HB4.out.lt _ a1
    omega
  have HP5 := Lib.hid hP5
  have LL := (Below.refl w5.heap.size w5).alloc (Nat.le_refl _) (.cells #[.int .i64 11, .int .i64 0, .int .i64 1, .int .i64 1, .int .i64 0, .int .i64 0, .int .i64 0, .int .i64 0, .int .i64 0, .int .i64 0, .int .i64 1, .int .i64 0, .int .i64 0, .int .i64 1, .int .i64 0, .slice A5 1 c5] 38)
  have HL5 := Lib.hid LL
  clear hO P5 hA5 b5 hchk hP5 LL HA4 HB4 HW4
  go_wp2_with fail
  have hP6 := HP5.out.fr (S' := []) (Fr.be HL5.out) (by simp)
  have hI := in_any b hB0 pb4 0 0 hM A5 1 c5 _ (HB5.out.kept HL5.out) ⟨hP6.reads, rfl, by simp [maxLen]⟩ hP6
  rw [hB_in, hB_put] at hI
  have HA6 := Lib.hid (HA5.out.kept HL5.out)
  have HW6 := Lib.hid (HW5.out.trans (HL5.out.mono HW5.out.size))
  have HI := Lib.hid hI
  clear hI hP6 HL5 HP5 HA5 HB5 HW5
  refine HI.out.mono ?_
  rintro e w7 ⟨rfl, ⟨pb7, htb⟩, f7⟩
  have HB7 := Lib.hid htb
  have HA7 := Lib.hid (HA6.out.far0 f7 HAP.out.1 (by intro e he; simp [hA] at he; rw [he]))
  have HW7 := Lib.hid (HW6.out.trans (f7.below HW6.out.size (turn_ge HGB.out)))
  clear htb f7 HA6 HW6 HI
  go_wp2_with fail
  have hat1 : ∀ e ∈ hB1.es, R64 e.at_ := by intro e he; simp [hB1] at he; rw [he]; exact HRZ.out.1
  have hat0 : ∀ e ∈ hA.es, R64 e.at_ := by intro e he; simp [hA] at he; rw [he]; exact HRZ.out.1
  have HAT := Lib.hid (And.intro hat1 hat0)
  clear hat1 hat0
  have hBe := best_any b hB1 pb7 5 w7 HB7.out HRZ.out.2 HAT.out.1 (by decide) (by decide)
  rw [hB_top, show hB1.es.length = 1 from rfl] at hBe
  have hro := hB_role
  rw [hB_top] at hro
  rw [hro] at hBe
  have HBe := Lib.hid hBe
  clear hBe hro
  refine HBe.out.mono ?_
  rintro e w8 ⟨v8, rfl, own8, b8⟩
  rw [show (Vc.val ⟨⟨1, 0, 0, 1⟩, 0, 1, 0, 0⟩) = .agg #[.int .i64 1, .int .i64 0, .int .i64 0, .int .i64 1, .int .i64 0, .int .i64 1, .int .i64 0, .int .i64 0] from rfl]
  have LL := b8.alloc b8.size (.cells #[.int .i64 1, .int .i64 0, .int .i64 0, .int .i64 1, .int .i64 0, .int .i64 1, .int .i64 0, .int .i64 0] 31)
  have own9 := own8.alloc (.cells #[.int .i64 1, .int .i64 0, .int .i64 0, .int .i64 1, .int .i64 0, .int .i64 1, .int .i64 0, .int .i64 0] 31)
  have HA9 := Lib.hid (HA7.out.kept LL)
  have HB9 := Lib.hid (HB7.out.kept LL)
  have HW9 := Lib.hid (HW7.out.trans (LL.mono HW7.out.size))
  have hrow : ∃ A c, v8 = .slice A 1 c ∧ ∃ g, A = some ⟨g, 0, none⟩ ∧ (w8.alloc (.cells #[.int .i64 1, .int .i64 0, .int .i64 0, .int .i64 1, .int .i64 0, .int .i64 1, .int .i64 0, .int .i64 0] 31)).cell? ⟨g, 0, none⟩ = some (.int .i64 2) := by
    rcases own9.2 with ⟨_, h2⟩ | ⟨g, cap, cur, hv, hg, hh, hle, _, hsz, ht⟩
    · omega
    · refine ⟨_, cap, hv, g, rfl, ?_⟩
      have hb : Blk (w8.alloc (.cells #[.int .i64 1, .int .i64 0, .int .i64 0, .int .i64 1, .int .i64 0, .int .i64 1, .int .i64 0, .int .i64 0] 31)) g 3 cur := hh
      rw [hb.cell]
      have h3 : (cur.toList.take (1 * 1))[0]? = some (Value.int .i64 2) := by rw [ht]; rfl
      rw [List.getElem?_take] at h3
      split at h3
      · simpa using h3
      · cases h3
  obtain ⟨A8, c8, rfl, g8, rfl, z8⟩ := hrow
  clear own8 own9 b8 LL HBe HA7 HB7 HW7
  go_wp2_with fail
  have hRa := root_any a hA pa3 5 _ HA9.out HRZ.out.2 HAT.out.2 (by decide) (by decide)
  rw [hA_root] at hRa
  refine hRa.mono ?_
  rintro e w10 ⟨rfl, b10⟩
  have HB10 := Lib.hid (HB9.out.kept b10)
  have HW10 := Lib.hid (HW9.out.trans (b10.mono HW9.out.size))
  clear b10 HB9 HW9 HA9 hRa z8
  go_wp2_with fail
  have hRb := root_any b hB1 pb7 5 _ HB10.out HRZ.out.2 HAT.out.1 (by decide) (by decide)
  rw [hB_root] at hRb
  refine hRb.mono ?_
  rintro e w11 ⟨rfl, b11⟩
  have HW11 := Lib.hid (HW10.out.trans (b11.mono HW10.out.size))
  clear b11 HW10 HB10 hRb
  go_wp2_with fail
  go_ret
  exact ⟨rfl, HW11.out⟩
theorem own : ownKnob Try.prog.godebug = none := by kernel_rfl
theorem laidOut : laidOutB Try.prog = true := by kernel_rfl
end Go.Proofs.Ytcdgofndfajekaa
