/-
  Layer 8: what the laws share: the head, an agenda beside the rest, a list of numbers as an argument.
-/
import Derived.Test.YtkocedbpnpclcaaAgKI
import Derived.Test.YtkocedbpnpclcaaAgJB
import Derived.Test.YtkocedbpnpclcaaMask
namespace Go.Proofs.Ytkocedbpnpclcaa
set_option linter.unusedSimpArgs false
set_option linter.unusedVariables false
open Go.RowKit Go.WideShapes Go.ChangeShapes
attribute [local go_sem ↓] Go.wp_at_zero Go.wp_at_succ

/-- An agenda that the call has made. -/
structure Has (w0 w : World) (g : Nat) (S : List Nat) (a : Ag) : Prop where
  at_ : AAtI w g S a
  new : ∀ k ∈ S, w0.heap.size ≤ k
  below : Below w0.heap.size w0 w
theorem Has.step {w0 w w' : World} {g : Nat} {S S' : List Nat} {a a' : Ag} (h : Has w0 w g S a) (h1 : AAtI w' g S' a') (h2 : Sub w S S') (h3 : Fr S w w') : Has w0 w' g S' a' :=
  ⟨h1, fun k hk => by rcases h2 k hk with h4 | h4; exact h.new k h4; exact Nat.le_trans h.below.size h4, h.below.trans (h3.below h.below.size h.new)⟩
theorem Has.kept {w0 w w' : World} {g : Nat} {S : List Nat} {a : Ag} (h : Has w0 w g S a) (h1 : AAtI w' g S a) (hb : Below w.heap.size w w') : Has w0 w' g S a :=
  ⟨h1, h.new, h.below.trans (hb.mono h.below.size)⟩
theorem Has.mv {w0 w w' : World} {g : Nat} {S : List Nat} {a : Ag} (h : Has w0 w g S a) (hb : Below w.heap.size w w') : Has w0 w' g S a := h.kept (h.at_.kept hb) hb
theorem AAtI.facts {w : World} {g : Nat} {S : List Nat} {a : Ag} (h : AAtI w g S a) : (a.its.map It.turn).Nodup ∧ (∀ x ∈ a.its, 1 ≤ x.turn ∧ x.turn ≤ a.turn) ∧ 0 ≤ a.turn ∧ a.its.length ≤ 8192 := by
  obtain ⟨A, c, gm, n0, D, xs, h⟩ := h
  exact ⟨h.tnd, h.turns, h.turn0, h.few⟩
theorem gone_len {its : List It} {m : It} (hm : m ∈ its) (hn : (its.map It.turn).Nodup) : (its.filter fun y => decide (y.turn ≠ m.turn)).length + 1 = its.length := by
  obtain ⟨l1, l2, rfl⟩ := List.append_of_mem hm
  have hp : (m :: (l1 ++ l2)).Perm (l1 ++ m :: l2) := List.perm_middle.symm
  have := (perm_gone hp hn).length_eq
  rw [← this, ← hp.length_eq]
  rfl
def hAg : Nat → Ag
  | 0 => ⟨0, 0, []⟩
  | 1 => ⟨0, 1, [⟨5, 1, 5⟩]⟩
  | 2 => ⟨0, 2, [⟨5, 1, 5⟩, ⟨3, 2, 3⟩]⟩
  | _ => ⟨0, 3, [⟨5, 1, 5⟩, ⟨3, 2, 3⟩, ⟨5, 3, 5⟩]⟩
set_option maxRecDepth 100000 in
set_option maxHeartbeats 4000000 in
theorem head_any (w : World) : Calls Try.prog 8 #[] w fun e w' => e = .returned (.bool true) ∧ Below w.heap.size w w' := by
  go_enter Try.func8, Try.ntmps8
  go_wp2_with fail
  refine (new_anyB w).mono ?_
  rintro e w1 ⟨g, S, rfl, hA, hS, hb⟩
  have hlt := hA.lt
  have HB := Lib.hid (And.intro hA (And.intro hS (And.intro hb hlt)))
  clear hA hS hb hlt
  go_wp2_with fail
  have hlt1 : ∀ k ∈ S, k ≠ w1.heap.size := fun k hk e => by have := HB.out.2.2.2 k hk; omega
  have HA : Hid (AAtB (w1.alloc (.cells #[.int .i64 5, .int .i64 3, .int .i64 5] 3)) g S (hAg 0) ∧ (∀ k ∈ S, w.heap.size ≤ k) ∧ Below w.heap.size w (w1.alloc (.cells #[.int .i64 5, .int .i64 3, .int .i64 5] 3)) ∧ (w1.heap.size ∉ S) ∧ Blk (w1.alloc (.cells #[.int .i64 5, .int .i64 3, .int .i64 5] 3)) w1.heap.size 3 #[.int .i64 5, .int .i64 3, .int .i64 5]) :=
    Lib.hid ⟨HB.out.1.kept ((Below.refl _ _).alloc (Nat.le_refl _) _), HB.out.2.1, HB.out.2.2.1.alloc HB.out.2.2.1.size _, fun hm => hlt1 _ hm rfl, Blk.new _ _ _⟩
  clear HB hlt1
  generalize w1.alloc (.cells #[.int .i64 5, .int .i64 3, .int .i64 5] 3) = w2 at *
  generalize w1.heap.size = ga at *
  go_loopw [19] (fun i wr => ∃ (k : Nat) (S' : List Nat), i = .int .i64 (k : Nat) ∧ k ≤ 3 ∧ Hid (AAtB wr g S' (hAg k) ∧ (∀ k ∈ S', w.heap.size ≤ k) ∧ Below w.heap.size w wr ∧ ga ∉ S' ∧ Blk wr ga 3 #[.int .i64 5, .int .i64 3, .int .i64 5])) (fun i _ => 3 - (intOf i).toNat)
  case atStart => exact ⟨0, S, rfl, by omega, HA⟩
  case round =>
    obtain ⟨k, S', rfl, hk, hinv⟩ := hrel
    obtain ⟨wo, rfl⟩ : ∃ wo : World, wo = wr := ⟨_, rfl⟩
    clear HA
    by_cases hlt : k < 3
    · obtain ⟨X, hX⟩ : ∃ X : Int, (#[Value.int .i64 5, .int .i64 3, .int .i64 5][k]? = some (.int .i64 X) ∧ IntKind.u8.wrap X = X ∧ (hAg k).putE X = 0 ∧ (hAg k).put X X = hAg (k + 1) ∧ (hAg k).turn ≤ 3) := by
        have : k = 0 ∨ k = 1 ∨ k = 2 := by omega
        rcases this with rfl | rfl | rfl
        · exact ⟨5, rfl, by decide, by decide, rfl, by decide⟩
        · exact ⟨3, rfl, by decide, by decide, rfl, by decide⟩
        · exact ⟨5, rfl, by decide, by decide, rfl, by decide⟩
      obtain ⟨hx1, hx2, hx3, hx4, hx5⟩ := hX
      have q := hinv.out.2.2.2.2.cellOf k hx1
      have HX := Lib.hid (And.intro hx3 (And.intro hx4 hx5))
      have HI := hinv
      clear hx1 hx3 hx4 hx5 hinv
      obtain ⟨K, hK⟩ : ∃ K, K = k + 1 := ⟨_, rfl⟩
      have fk : IntKind.i64.wrap ((k : Int) + 1) = (K : Int) := by rw [hK]; exact IntWalk.i64_in _ ⟨by omega, by omega⟩
      have HK := Lib.hid hK
      clear hK
      go_wp2_with fail
      refine (put_anyB wo g S' (hAg k) HI.out.1 X X (by have := HX.out.2.2; omega)).mono ?_
      rintro e w3 (⟨h, _⟩ | ⟨_, rfl, S3, hA3, hS3, hF3⟩)
      · exact absurd HX.out.1 h
      rw [HX.out.2.1] at hA3
      have HI3 : Hid (AAtB w3 g S3 (hAg (k + 1)) ∧ (∀ k ∈ S3, w.heap.size ≤ k) ∧ Below w.heap.size w w3 ∧ ga ∉ S3 ∧ Blk w3 ga 3 #[.int .i64 5, .int .i64 3, .int .i64 5]) := Lib.hid (by
        obtain ⟨hA, hS, hb, hg, hB⟩ := HI.out
        refine ⟨hA3, fun k hk => ?_, hb.trans (hF3.below hb.size hS), fun hm => ?_, hF3.blk hB hg⟩
        · rcases hS3 k hk with h | h
          · exact hS k h
          · exact Nat.le_trans hb.size h
        · rcases hS3 ga hm with h | h
          · exact hg h
          · have := hB.lt; omega)
      clear hA3 hS3 hF3 HI q hx2 HX
      go_wp2_with fail
      clear fk
      go_roundw
      case rel => exact ⟨K, S3, rfl, by have := HK.out; omega, by rw [HK.out]; exact HI3⟩
      case measure => have := HK.out; simp [intOf]; omega
    · obtain rfl : k = 3 := by omega
      clear hk hlt
      go_wp2_with fail
      refine (next_anyB wo g S' (hAg 3) hinv.out.1 9 (by decide)).mono ?_
      rintro e w3 (⟨h, _⟩ | ⟨m, hm, hmin, _, rfl, S3, hA3, hS3, hF3⟩)
      · exact absurd (h ⟨3, 2, 3⟩ (by simp [hAg])) (by decide)
      have h1 := hmin ⟨3, 2, 3⟩ (by simp [hAg])
      simp [hAg] at hm
      have hm2 : m = ⟨3, 2, 3⟩ := by
        rcases hm with rfl | rfl | rfl
        · exact absurd h1 (by simp [It.le])
        · rfl
        · exact absurd h1 (by simp [It.le])
      subst hm2
      have HI3 : Hid (AAtB w3 g S3 ⟨3, 3, [⟨5, 1, 5⟩, ⟨5, 3, 5⟩]⟩ ∧ (∀ k ∈ S3, w.heap.size ≤ k) ∧ Below w.heap.size w w3) := Lib.hid (by
        obtain ⟨hA, hS, hb, hg, hB⟩ := hinv.out
        refine ⟨hA3, fun k hk => ?_, hb.trans (hF3.below hb.size hS)⟩
        rcases hS3 k hk with h | h
        · exact hS k h
        · exact Nat.le_trans hb.size h)
      clear hinv hA3 hS3 hF3 hmin hm h1
      go_wp2_with fail
      refine (next_anyB w3 g S3 ⟨3, 3, [⟨5, 1, 5⟩, ⟨5, 3, 5⟩]⟩ HI3.out.1 9 (by decide)).mono ?_
      rintro e w4 (⟨h, _⟩ | ⟨m, hm, hmin, _, rfl, S4, hA4, hS4, hF4⟩)
      · exact absurd (h ⟨5, 1, 5⟩ (by simp)) (by decide)
      have h1 := hmin ⟨5, 1, 5⟩ (by simp)
      simp at hm
      have hm2 : m = ⟨5, 1, 5⟩ := by
        rcases hm with rfl | rfl
        · rfl
        · exact absurd h1 (by simp [It.le])
      subst hm2
      have HW := Lib.hid (HI3.out.2.2.trans (hF4.below HI3.out.2.2.size HI3.out.2.1))
      clear HI3 hA4 hS4 hF4 hmin hm h1
      go_wp2_with fail
      go_ret
      exact ⟨rfl, HW.out⟩
theorem open_ints {H : Type} {enc : TypeId × Value → H} {W : World} {v : Value} {d : DataW H} {p : List MemPlace} {b0 : Nat} (hv : Value.okWide Try.prog W .any b0 22 v)
    (h : DataW.Trod enc Try.prog W 0 (fun _ => true) true 22 v d p) (hlt : ∀ x ∈ p, x.block < W.heap.size) :
    ∃ (A : Option Addr) (n c : Nat) (xs : List Value) (f : Nat → Int), v = .slice A n c ∧ n ≤ maxLen ∧ Reads W W.heap.size 1 A n xs ∧ ∀ i, i < n → xs[i]? = some (.int .i64 (f i)) := by
  obtain ⟨A, n, c, xs, rfl, h1, h2, _, hr, hall⟩ := open_slice_arg (n := 5) (ls := [3]) Try.underlying22 (by kernel_rfl) (by kernel_rfl) rfl hv h hlt
  have key : ∀ i, ∃ x : Int, i < n → xs[i]? = some (.int .i64 x) := fun i => by
    by_cases hi : i < n
    · have ha := hall i hi
      have hl : i < xs.length := by have := hr.1; simp only [List.length_singleton] at this; omega
      simp only [List.length_singleton, Nat.mul_one] at ha
      rw [List.drop_eq_getElem_cons hl] at ha
      obtain ⟨l0, _⟩ := ha
      obtain ⟨n0, h0, _⟩ := l0.i64 Try.underlying3
      exact ⟨n0, fun _ => by rw [List.getElem?_eq_getElem hl, h0]⟩
    · exact ⟨0, fun h => absurd h hi⟩
  exact ⟨A, n, c, xs, fun i => (key i).choose, rfl, by omega, hr, fun i hi => (key i).choose_spec hi⟩
/-- Times, masked, as they are put. -/
def tims (t : Nat → Int) (n : Nat) : List It := (List.range n).map fun (i : Nat) => ⟨t i, (i : Int) + 1, (i : Int)⟩
def tAg (t : Nat → Int) (n : Nat) : Ag := ⟨0, n, tims t n⟩
theorem tims_len (t : Nat → Int) (n : Nat) : (tims t n).length = n := by simp [tims]
theorem tims_mem {t : Nat → Int} {n : Nat} {y : It} (h : y ∈ tims t n) : ∃ i : Nat, i < n ∧ y = ⟨t i, (i : Int) + 1, (i : Int)⟩ := by
  obtain ⟨i, hi, rfl⟩ := List.mem_map.1 h
  exact ⟨i, List.mem_range.1 hi, rfl⟩
theorem tAg_put (t : Nat → Int) (k : Nat) : (tAg t k).put (t k) k = tAg t (k + 1) := by
  unfold tAg Ag.put tims
  rw [List.range_succ, List.map_append]
  rfl
theorem tAg_putE {t : Nat → Int} {k : Nat} (h : 0 ≤ t k ∧ t k ≤ 1099511627776) (hk : k < 8192) : (tAg t k).putE (t k) = 0 := by
  unfold Ag.putE
  have e : (tAg t k).its.length = k := tims_len t k
  rw [if_neg (by omega), if_neg (by show ¬ t k < 0; omega), if_neg (by rw [e]; omega)]
theorem own : ownKnob Try.prog.godebug = none := by kernel_rfl
theorem laidOut : laidOutB Try.prog = true := by kernel_rfl
end Go.Proofs.Ytkocedbpnpclcaa
