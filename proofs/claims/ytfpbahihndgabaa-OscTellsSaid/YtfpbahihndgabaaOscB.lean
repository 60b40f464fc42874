/-
  Layer 7: a clock in memory; the piece that a time lies in.
-/
import Derived.Test.YtfpbahihndgabaaOscA
namespace Go.Proofs.Ytfpbahihndgabaa
set_option linter.unusedSimpArgs false
set_option linter.unusedVariables false
open Go.RowKit

/-- A clock's turns (times, rates), what it tells at each, its grain: as they lie in memory. -/
structure ClkIn (w : World) (g : Nat) (n : Nat) (tA tR bs : Nat → Int) (gr : Int) (g1 c1 g2 c2 : Nat) : Prop where
  box : Blk w g 52 #[.slice (some ⟨g1, 0, none⟩) n c1, .slice (some ⟨g2, 0, none⟩) n c2, .int .i64 gr]
  h1 : n ≤ c1
  h2 : n ≤ c2
  l1 : g1 < w.heap.size
  l2 : g2 < w.heap.size
  a0 : ∀ k, k < n → w.cell? ⟨g1, k * 2, none⟩ = some (.int .i64 (tA k))
  a1 : ∀ k, k < n → w.cell? ⟨g1, k * 2 + 1, none⟩ = some (.int .i64 (tR k))
  b0 : ∀ k, k < n → w.cell? ⟨g2, k, none⟩ = some (.int .i64 (bs k))
def Clk (w : World) (g n : Nat) (tA tR bs : Nat → Int) (gr : Int) : Prop := ∃ g1 c1 g2 c2, ClkIn w g n tA tR bs gr g1 c1 g2 c2
theorem ClkIn.below {w w' : World} {g n : Nat} {tA tR bs : Nat → Int} {gr : Int} {g1 c1 g2 c2 : Nat} (h : ClkIn w g n tA tR bs gr g1 c1 g2 c2) (hb : Below w.heap.size w w') : ClkIn w' g n tA tR bs gr g1 c1 g2 c2 :=
  ⟨h.box.below hb h.box.lt, h.h1, h.h2, Nat.lt_of_lt_of_le h.l1 hb.size, Nat.lt_of_lt_of_le h.l2 hb.size,
   fun k hk => (hb.cell (p := ⟨g1, k * 2, none⟩) h.l1).trans (h.a0 k hk), fun k hk => (hb.cell (p := ⟨g1, k * 2 + 1, none⟩) h.l1).trans (h.a1 k hk), fun k hk => (hb.cell (p := ⟨g2, k, none⟩) h.l2).trans (h.b0 k hk)⟩
theorem Clk.below {w w' : World} {g n : Nat} {tA tR bs : Nat → Int} {gr : Int} (h : Clk w g n tA tR bs gr) (hb : Below w.heap.size w w') : Clk w' g n tA tR bs gr := by
  obtain ⟨g1, c1, g2, c2, h⟩ := h
  exact ⟨g1, c1, g2, c2, h.below hb⟩
/-- The last turn not later than a time. -/
def pcV (tA : Nat → Int) (at_ : Int) : Nat → Nat
  | 0 => 0
  | m + 1 => if tA m ≤ at_ then m else pcV tA at_ m
theorem pcV_lt (tA : Nat → Int) (at_ : Int) : ∀ n, 0 < n → pcV tA at_ n < n
  | 0, h => absurd h (by omega)
  | m + 1, _ => by
    unfold pcV
    split
    · omega
    · rcases Nat.eq_zero_or_pos m with rfl | hm
      · show 0 < 1; omega
      · have := pcV_lt tA at_ m hm; omega
theorem pcV_is {tA : Nat → Int} {at_ : Int} : ∀ {n k : Nat}, k < n → tA k ≤ at_ → (∀ i, k < i → i < n → at_ < tA i) → pcV tA at_ n = k
  | 0, k, h, _, _ => absurd h (by omega)
  | m + 1, k, h, h1, h2 => by
    unfold pcV
    rcases Nat.lt_or_ge k m with hk | hk
    · rw [if_neg (by have := h2 m hk (by omega); omega)]
      exact pcV_is hk h1 (fun i hi hm => h2 i hi (by omega))
    · obtain rfl : k = m := by omega
      rw [if_pos h1]
structure Turns (n : Nat) (tA tR : Nat → Int) : Prop where
  pos : 0 < n
  most : n ≤ 64
  first : tA 0 = 0
  rise : ∀ i, i + 1 < n → tA i < tA (i + 1)
  late : ∀ i, i < n → tA i ≤ 1099511627776
  rate : ∀ i, i < n → 2181843386368 ≤ tR i ∧ tR i ≤ 2216203124736
theorem Turns.mono {n : Nat} {tA tR : Nat → Int} (h : Turns n tA tR) {i : Nat} : ∀ {j : Nat}, i ≤ j → j < n → tA i ≤ tA j
  | 0, hij, _ => by obtain rfl : i = 0 := by omega
                    exact Int.le_refl _
  | j + 1, hij, hj => by
    rcases Nat.lt_or_ge i (j + 1) with hi | hi
    · have h1 := h.mono (i := i) (j := j) (by omega) (by omega)
      have h2 := h.rise j hj
      omega
    · obtain rfl : i = j + 1 := by omega
      exact Int.le_refl _
theorem Turns.low {n : Nat} {tA tR : Nat → Int} (h : Turns n tA tR) {i : Nat} (hi : i < n) : 0 ≤ tA i := by
  have := h.mono (i := 0) (j := i) (Nat.zero_le _) hi
  rw [h.first] at this
  exact this
set_option maxRecDepth 100000 in
set_option maxHeartbeats 2000000 in
theorem piece1_any (i : Nat) (b1 b2 g : Nat) (at_ : Int) (n : Nat) (tA tR bs : Nat → Int) (gr : Int) (w : World) (hC : Clk w g n tA tR bs gr) (hi : i < n)
    (h1 : w.cell? ⟨b1, 0, none⟩ = some (.pointer (some ⟨g, 0, none⟩))) (h2 : w.cell? ⟨b2, 0, none⟩ = some (.int .i64 at_)) (l1 : b1 < w.heap.size) (l2 : b2 < w.heap.size) :
    Calls Try.prog 30 #[.int .i64 i, .pointer (some ⟨b1, 0, none⟩), .pointer (some ⟨b2, 0, none⟩)] w fun e w' => e = .returned (.bool (decide (at_ < tA i))) ∧ Below w.heap.size w w' := by
  obtain ⟨g1, c1, g2, c2, C⟩ := hC
  have y0 := C.box.cellOf 0 rfl
  have y1 := C.a0 i hi
  have sg := C.box.lt
  have sg1 := C.l1
  have hn := C.h1
  clear C
  go_enter Try.func30, Try.ntmps30
  go_wp2_with fail
  refine wp_region_class (fun w' => Below w.heap.size w w') (by kernel_rfl) (by kernel_rfl) (Below.refl _ _).drew ?_
  repeat (first | (refine wpQuiet_skip ?_ ?_; rfl; simp only [Act.put, List.setIfInBounds_toArray, List.set_cons_zero, List.set_cons_succ]) | (refine wpQuiet_val (v := ?_) ?_ ?_ ?_; rotate_left; rfl; (intro w' hw'; obtain ⟨hc, hf⟩ := bcell hw'; go_simp; with_reducible rfl); simp only [Act.put, List.setIfInBounds_toArray, List.set_cons_zero, List.set_cons_succ]) | (refine wpQuiet_val (v := ?_) ?_ ?_ ?_; rotate_left; (first | rfl | (go_simp; done)); (intro w' hw'; obtain ⟨hc, hf⟩ := bcell hw'; go_simp; with_reducible rfl); simp only [Act.put, List.setIfInBounds_toArray, List.set_cons_zero, List.set_cons_succ]) | (refine wpQuiet_skip ?_ ?_; (first | rfl | (go_simp; done)); simp only [Act.put, List.setIfInBounds_toArray, List.set_cons_zero, List.set_cons_succ]))
  refine wpQuiet_nil ?_
  intro w4 hw4
  clear y0 y1 h1 h2 sg sg1 l1 l2 hn
  go_wp2_with fail
  go_ret
  exact ⟨rfl, hw4⟩
set_option maxRecDepth 100000 in
set_option maxHeartbeats 2000000 in
theorem piece_any (g : Nat) (at_ : Int) (n : Nat) (tA tR bs : Nat → Int) (gr : Int) (w : World) (hC : Clk w g n tA tR bs gr) (hT : Turns n tA tR) (h0 : 0 ≤ at_) :
    Calls Try.prog 24 #[.pointer (some ⟨g, 0, none⟩), .int .i64 at_] w fun e w' => e = .returned (.int .i64 (pcV tA at_ n)) ∧ Below w.heap.size w w' := by
  obtain ⟨g1, c1, g2, c2, C⟩ := hC
  have y0 := C.box.cellOf 0 rfl
  have sg := C.box.lt
  have HC := Lib.hid C
  have hnm := hT.most
  have HT := Lib.hid hT
  have H0 := Lib.hid h0
  clear C hT
  go_enter Try.func24, Try.ntmps24
  go_wp2_with fail
  have bb := ((Below.refl w.heap.size w).alloc (Nat.le_refl _) (.cells #[.pointer (some ⟨g, 0, none⟩)] 25)).alloc (by simp) (.cells #[.int .i64 at_] 3)
  have B1 : Blk ((w.alloc (.cells #[.pointer (some ⟨g, 0, none⟩)] 25)).alloc (.cells #[.int .i64 at_] 3)) w.heap.size _ _ := (Blk.new w 25 _).alloc _
  have B2 : Blk ((w.alloc (.cells #[.pointer (some ⟨g, 0, none⟩)] 25)).alloc (.cells #[.int .i64 at_] 3)) (w.heap.size + 1) _ _ := Blk.at_new _ 3 _ (by simp)
  have hsz : ((w.alloc (.cells #[.pointer (some ⟨g, 0, none⟩)] 25)).alloc (.cells #[.int .i64 at_] 3)).heap.size = w.heap.size + 2 := by simp
  have HCb := Lib.hid (HC.out.below bb)
  generalize (w.alloc (.cells #[.pointer (some ⟨g, 0, none⟩)] 25)).alloc (.cells #[.int .i64 at_] 3) = w0 at *
  refine (search_any n (by omega) 30 (.pointer (some ⟨w.heap.size, 0, none⟩)) (.pointer (some ⟨w.heap.size + 1, 0, none⟩)) (fun i => decide (at_ < tA i)) _ ?_ ?_ ?_).mono ?_
  · intro i hi W hW
    exact piece1_any i w.heap.size (w.heap.size + 1) g at_ n tA tR bs gr W ⟨_, _, _, _, HCb.out.below hW⟩ hi ((B1.below hW (by omega)).cellOf 0 rfl) ((B2.below hW (by omega)).cellOf 0 rfl) (by have := hW.size; omega) (by have := hW.size; omega)
  · intro i j hij hj hp
    have := HT.out.mono hij hj
    simp only [decide_eq_true_eq] at hp ⊢
    omega
  · intro i W
    kernel_rfl
  rintro e w1 ⟨k, rfl, hkn, hk1, hk2, b1⟩
  have hkp : 0 < k := by
    rcases Nat.eq_zero_or_pos k with rfl | h
    · have := hk2 0 (Nat.le_refl _) HT.out.pos
      rw [HT.out.first] at this
      simp at this
      omega
    · exact h
  have hv : pcV tA at_ n = k - 1 := by
    refine pcV_is (by omega) ?_ (fun i hi hin => ?_)
    · have := hk1 (k - 1) (by omega)
      simp at this
      omega
    · have := hk2 i (by omega) hin
      simpa using this
  have f1 : IntKind.i64.wrap ((k : Int) - 1) = ((k - 1 : Nat) : Int) := by rw [show (k : Int) - 1 = ((k - 1 : Nat) : Int) by omega]; exact IntWalk.i64_in _ ⟨by omega, by omega⟩
  have HV := Lib.hid hv
  have bw := bb.trans (b1.mono (by omega))
  clear hk1 hk2 hv B1 B2 HCb hsz b1 bb
  go_wp2_with fail
  go_ret
  exact ⟨by rw [HV.out]; rfl, bw⟩
end Go.Proofs.Ytfpbahihndgabaa
