/-
  Layer 7: when a clock tells a time; the laws' own start.
-/
import Derived.Test.YtfpbahihndgabaaOscD
namespace Go.Proofs.Ytfpbahihndgabaa
set_option linter.unusedSimpArgs false
set_option linter.unusedVariables false
open Go.RowKit

set_option maxRecDepth 100000 in
set_option maxHeartbeats 2000000 in
theorem when1_any (i : Nat) (b1 b2 g : Nat) (s S : Int) (n : Nat) (tA tR bs : Nat → Int) (gr : Int) (w : World) (hC : Clk w g n tA tR bs gr) (hT : Turns n tA tR) (hB : Bases S n tA tR bs) (hi : i < 1099511627776)
    (h1 : w.cell? ⟨b1, 0, none⟩ = some (.pointer (some ⟨g, 0, none⟩))) (h2 : ∀ W, Below w.heap.size w W → W.cell? ⟨b2, 0, none⟩ = some (.int .i64 s)) (l1 : b1 < w.heap.size) (l2 : b2 < w.heap.size) :
    Calls Try.prog 23 #[.int .i64 i, .pointer (some ⟨b1, 0, none⟩), .pointer (some ⟨b2, 0, none⟩)] w fun e w' => e = .returned (.bool (decide (s ≤ tellV n tA tR bs (i : Int)))) ∧ Below w.heap.size w w' := by
  have HA := Lib.hid (at_any g (i : Int) S n tA tR bs gr w hC hT hB (by omega) (by omega))
  generalize tellV n tA tR bs (i : Int) = V at *
  have H2 := Lib.hid h2
  clear hC hT hB h2
  go_enter Try.func23, Try.ntmps23
  go_wp2_with fail
  refine HA.out.mono ?_
  rintro e w1 ⟨rfl, b1'⟩
  have c2 := H2.out w1 b1'
  clear h1 H2 HA
  go_wp2_with fail
  go_ret
  exact ⟨rfl, b1'⟩
theorem when_nil (s : Int) (w : World) :
    Calls Try.prog 10 #[.pointer none, .int .i64 s] w fun e w' => e = .returned (.tuple #[.int .i64 0, .int .i64 1]) ∧ Below w.heap.size w w' := by
  go_enter Try.func10, Try.ntmps10
  go_wp2_with fail
  go_ret2
  exact ⟨rfl, ((Below.refl w.heap.size w).alloc (Nat.le_refl _) _).alloc (by simp) _⟩
def WhenP (S s : Int) (n : Nat) (tA tR bs : Nat → Int) (w : World) (e : Ending) (w' : World) : Prop :=
  (tellV n tA tR bs 1099511627776 < s ∧ e = .returned (.tuple #[.int .i64 0, .int .i64 10]) ∨
   s ≤ tellV n tA tR bs 1099511627776 ∧ ∃ k : Nat, e = .returned (.tuple #[.int .i64 k, .int .i64 0]) ∧ k ≤ 1099511627776 ∧ (∀ i : Nat, i < k → tellV n tA tR bs (i : Int) < s) ∧ (∀ i : Nat, k ≤ i → i < 1099511627776 → s ≤ tellV n tA tR bs (i : Int))) ∧ Below w.heap.size w w'
set_option maxRecDepth 100000 in
set_option maxHeartbeats 2000000 in
theorem when_any (g : Nat) (s S : Int) (n : Nat) (tA tR bs : Nat → Int) (gr : Int) (w : World) (hC : Clk w g n tA tR bs gr) (hT : Turns n tA tR) (hB : Bases S n tA tR bs) :
    Calls Try.prog 10 #[.pointer (some ⟨g, 0, none⟩), .int .i64 s] w (WhenP S s n tA tR bs w) := by
  have HC := Lib.hid hC
  have HT := Lib.hid (And.intro hT hB)
  clear hC hT hB
  go_enter Try.func10, Try.ntmps10
  go_wp2_with fail
  have bb := ((Below.refl w.heap.size w).alloc (Nat.le_refl _) (.cells #[.pointer (some ⟨g, 0, none⟩)] 25)).alloc (by simp) (.cells #[.int .i64 s] 22)
  have B1 : Blk ((w.alloc (.cells #[.pointer (some ⟨g, 0, none⟩)] 25)).alloc (.cells #[.int .i64 s] 22)) w.heap.size _ _ := (Blk.new w 25 _).alloc _
  have B2 : Blk ((w.alloc (.cells #[.pointer (some ⟨g, 0, none⟩)] 25)).alloc (.cells #[.int .i64 s] 22)) (w.heap.size + 1) _ _ := Blk.at_new _ 22 _ (by simp)
  have hsz : ((w.alloc (.cells #[.pointer (some ⟨g, 0, none⟩)] 25)).alloc (.cells #[.int .i64 s] 22)).heap.size = w.heap.size + 2 := by simp
  have HCb := Lib.hid (HC.out.below bb)
  generalize (w.alloc (.cells #[.pointer (some ⟨g, 0, none⟩)] 25)).alloc (.cells #[.int .i64 s] 22) = w0 at *
  refine (at_any g 1099511627776 S n tA tR bs gr w0 HCb.out HT.out.1 HT.out.2 (by omega) (by omega)).mono ?_
  rintro e w1 ⟨rfl, b1⟩
  obtain ⟨L, hL⟩ : ∃ L, L = tellV n tA tR bs 1099511627776 := ⟨_, rfl⟩
  rw [← hL]
  have HL := Lib.hid hL
  have B1' := B1.below b1 (by omega)
  have B2' := B2.below b1 (by omega)
  have c1 := B1'.cellOf (v := .pointer (some ⟨g, 0, none⟩)) 0 rfl
  have c2 := B2'.cellOf (v := .int .i64 s) 0 rfl
  have hz1 := b1.size
  have bw1 := bb.trans (b1.mono (by omega))
  have HC1 := Lib.hid (HCb.out.below b1)
  have HBB := Lib.hid (And.intro B1' B2')
  clear hL B1 B2 HCb b1 bb B1' B2'
  by_cases hlt : L < s
  · clear hz1 hsz
    have H := Lib.hid hlt
    go_wp2_with fail
    go_ret2
    exact ⟨.inl ⟨by rw [← HL.out]; exact H.out, rfl⟩, bw1⟩
  · have dl : decide (L < s) = false := decide_eq_false hlt
    have H := Lib.hid hlt
    clear hlt
    go_wp2_with fail
    refine (search_any 1099511627776 (by omega) 23 (.pointer (some ⟨w.heap.size, 0, none⟩)) (.pointer (some ⟨w.heap.size + 1, 0, none⟩)) (fun i => decide (s ≤ tellV n tA tR bs (i : Int))) w1 ?_ ?_ ?_).mono ?_
    · intro i hi W hW
      exact when1_any i w.heap.size (w.heap.size + 1) g s S n tA tR bs gr W (HC1.out.below hW) HT.out.1 HT.out.2 hi ((HBB.out.1.below hW (by omega)).cellOf 0 rfl) (fun W' hW' => ((HBB.out.2.below hW (by omega)).below hW' (by have := hW.size; omega)).cellOf 0 rfl) (by have := hW.size; omega) (by have := hW.size; omega)
    · intro i j hij hj hp
      have hp' := of_decide_eq_true hp
      have := tell_mono HT.out.1 HT.out.2 (a := (i : Int)) (b := (j : Int)) (by omega) (by omega) (by omega)
      exact decide_eq_true (Int.le_trans hp' this)
    · intro i W
      kernel_rfl
    rintro e w2 ⟨k, rfl, hkn, hk1, hk2, b2⟩
    have bw2 := bw1.trans (b2.mono (by omega))
    have HK := Lib.hid (And.intro hkn (And.intro hk1 hk2))
    clear hkn hk1 hk2 b2 bw1 hz1 hsz c1 c2
    go_wp2_with fail
    go_ret2
    refine ⟨.inr ⟨by rw [← HL.out]; have := H.out; omega, k, rfl, HK.out.1, fun i hi => ?_, fun i h1 h2 => ?_⟩, bw2⟩
    · have := HK.out.2.1 i hi
      have := of_decide_eq_false this
      omega
    · exact of_decide_eq_true (HK.out.2.2 i h1 h2)
/-! ### head -/
theorem tin_one (w : World) : TIn (w.alloc (.cells #[.int .i64 0, .int .i64 2199023255552] 38)) (some ⟨w.heap.size, 0, none⟩) 1 (fun _ => 0) (fun _ => 2199023255552) := fun _ => by
  refine ⟨_, rfl, by simp, fun k hk j v hv => ?_⟩
  obtain rfl : k = 0 := by omega
  have ha : ∀ j : Nat, ((⟨w.heap.size, 0, none⟩ : Addr).add (0 * 2)).add j = ⟨w.heap.size, j, none⟩ := fun j => by by_cases hj : j = 0 <;> simp [Addr.add, hj]
  rw [ha, (Blk.new w _ _).cell]
  simpa [tcv] using hv
theorem head_tell (i : Int) : tellV 1 (fun _ => 0) (fun _ => 2199023255552) (baseV 0 (fun _ => 0) (fun _ => 2199023255552)) i = runV i 2199023255552 := by
  have : pcV (fun _ => 0) i 1 = 0 := by unfold pcV pcV; split <;> rfl
  unfold tellV
  rw [this]
  show 0 + runV (i - 0) 2199023255552 = _
  rw [Int.zero_add, Int.sub_zero]
set_option maxRecDepth 100000 in
set_option maxHeartbeats 2000000 in
theorem head_any (w : World) : Calls Try.prog 8 #[] w fun e w' => e = .returned (.bool true) ∧ Below w.heap.size w w' := by
  have hN := new_any 0 8 (some ⟨w.heap.size, 0, none⟩) 1 1 (fun _ => 0) (fun _ => 2199023255552) _ (tin_one w)
  have hE : newE 0 8 1 (fun _ => 0) (fun _ => 2199023255552) = 0 := by decide
  have hok := new_ok hE
  rw [hE] at hN
  have HN := Lib.hid hN
  have HO := Lib.hid hok
  clear hN hE hok
  go_enter Try.func8, Try.ntmps8
  go_wp2_with fail
  refine HN.out.mono ?_
  rintro e w1 ⟨h, b1⟩
  rcases h with ⟨h, _⟩ | ⟨_, g, rfl, hg, hC⟩
  · exact absurd rfl h
  have bw1 := ((Below.refl w.heap.size w).alloc (Nat.le_refl _) (.cells #[.int .i64 0, .int .i64 2199023255552] 38)).trans (b1.mono (by simp))
  have HC := Lib.hid hC
  clear hC b1 hg
  go_wp2_with fail
  refine (at_any g 10 0 1 _ _ _ 8 w1 HC.out HO.out.1 HO.out.2.1 (by omega) (by omega)).mono ?_
  rintro e w2 ⟨rfl, b2⟩
  rw [head_tell, show runV 10 2199023255552 = 655360 by decide]
  have bw2 := bw1.trans (b2.mono bw1.size)
  have HC2 := Lib.hid (HC.out.below b2)
  clear HC b2 bw1
  go_wp2_with fail
  refine (mark_any g 10 0 1 _ _ _ 8 w2 HC2.out HO.out.1 HO.out.2.1 (by omega) (by omega) (by omega) (by omega)).mono ?_
  rintro e w3 ⟨rfl, b3⟩
  rw [show markV 1 (fun _ => 0) (fun _ => 2199023255552) (baseV 0 (fun _ => 0) (fun _ => 2199023255552)) 8 10 = 524288 by unfold markV; rw [head_tell]; decide]
  have bw3 := bw2.trans (b3.mono bw2.size)
  have HC3 := Lib.hid (HC2.out.below b3)
  clear HC2 b3 bw2
  go_wp2_with fail
  refine (when_any g 327680 0 1 _ _ _ 8 w3 HC3.out HO.out.1 HO.out.2.1).mono ?_
  rintro e w4 ⟨h, b4⟩
  have bw4 := bw3.trans (b4.mono bw3.size)
  clear bw3 b4
  rcases h with ⟨h, _⟩ | ⟨_, k, rfl, hk, h1, h2⟩
  · rw [head_tell] at h
    exact absurd h (by decide)
  have e5 : k = 5 := by
    have t5 : tellV 1 (fun _ => 0) (fun _ => 2199023255552) (baseV 0 (fun _ => 0) (fun _ => 2199023255552)) ((5 : Nat) : Int) = 327680 := by rw [head_tell]; decide
    have t4 : tellV 1 (fun _ => 0) (fun _ => 2199023255552) (baseV 0 (fun _ => 0) (fun _ => 2199023255552)) ((4 : Nat) : Int) = 262144 := by rw [head_tell]; decide
    rcases Nat.lt_trichotomy k 5 with h | h | h
    · have := h2 4 (by omega) (by omega)
      rw [t4] at this
      omega
    · exact h
    · have := h1 5 h
      rw [t5] at this
      omega
  subst e5
  clear h1 h2 hk
  go_wp2_with fail
  go_ret
  exact ⟨rfl, bw4⟩
end Go.Proofs.Ytfpbahihndgabaa
