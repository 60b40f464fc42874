/-
  Layer 7: a clock turned into the reference's.
-/
import Derived.Test.YtfpbahihndgabaaOscT
namespace Go.Proofs.Ytfpbahihndgabaa
set_option linter.unusedSimpArgs false
set_option linter.unusedVariables false
open Go.RowKit

theorem styI : SliceTy Try.prog 41 3 1 8 := sliceTy_mk (z := .int .i64 0) Try.underlying41 (by kernel_rfl) rfl
/-- Where plain stands at its two appends. -/
structure Pl (w W : World) (C : Array Value) (s1 s2 : Value) (i j : Nat) (tA tR : Nat → Int) : Prop where
  R : Blk W w.heap.size 43 #[.int .i64 0, .int .i64 0, .slice none 0 0, .slice none 0 0]
  X : Blk W (w.heap.size + 1) 43 C
  o1 : W.ownsRow (w.heap.size + 2) 3 1 s1 i (xs2 tA i)
  o2 : W.ownsRow (w.heap.size + 2) 3 1 s2 j (xs2 tR j)
  d : ∀ b, s1.ownBlock = some b → s2.ownBlock = some b → False
  L : Below w.heap.size w W
  z : w.heap.size + 2 ≤ W.heap.size
section
variable {w W W' : World} {C : Array Value} {s1 s2 v : Value} {i j : Nat} {tA tR : Nat → Int}
theorem Pl.alloc (h : Pl w W C s1 s2 i j tA tR) (o : Obj) : Pl w (W.alloc o) C s1 s2 i j tA tR :=
  ⟨h.R.alloc o, h.X.alloc o, h.o1.alloc o, h.o2.alloc o, h.d, h.L.alloc (by have := h.z; omega) o, by have := h.z; simp; omega⟩
theorem Pl.grow1 (h : Pl w W C s1 s2 i j tA tR) (hg : W.grownBy W' s1.ownBlock) (hm : Moved W s1 v) (ho : W'.ownsRow (w.heap.size + 2) 3 1 v (i + 1) (xs2 tA i ++ #[Value.int .i64 (tA i)].toList)) : Pl w W' C v s2 (i + 1) j tA tR :=
  ⟨h.R.grown hg (Ne.symm (own_blk_ne h.o1 h.R (by decide))), h.X.grown hg (Ne.symm (own_blk_ne h.o1 h.X (by decide))), by rw [xs2_succ]; exact ho,
   h.o2.kept hg (by
    cases hs : s2.ownBlock with
    | none => exact .inl rfl
    | some b => exact .inr fun e => h.d b e.symm hs),
   fun b h1 h2 => by
    rcases hm with hm | ⟨g, hm, hge⟩
    · exact h.d b (by rw [← hm]; exact h1) h2
    · have := (ownsRow_lt h.o2 b h2).2
      rw [hm] at h1; injection h1 with h1; omega,
   h.L.grown hg (by have := h.z; omega) (fun k hk => by have := (ownsRow_lt h.o1 k hk).1; omega), Nat.le_trans h.z hg.size⟩
theorem Pl.grow2 (h : Pl w W C s1 s2 i j tA tR) (hg : W.grownBy W' s2.ownBlock) (hm : Moved W s2 v) (ho : W'.ownsRow (w.heap.size + 2) 3 1 v (j + 1) (xs2 tR j ++ #[Value.int .i64 (tR j)].toList)) : Pl w W' C s1 v i (j + 1) tA tR :=
  ⟨h.R.grown hg (Ne.symm (own_blk_ne h.o2 h.R (by decide))), h.X.grown hg (Ne.symm (own_blk_ne h.o2 h.X (by decide))),
   h.o1.kept hg (by
    cases hs : s1.ownBlock with
    | none => exact .inl rfl
    | some b => exact .inr fun e => h.d b hs e.symm), by rw [xs2_succ]; exact ho,
   fun b h1 h2 => by
    rcases hm with hm | ⟨g, hm, hge⟩
    · exact h.d b h1 (by rw [← hm]; exact h2)
    · have := (ownsRow_lt h.o1 b h1).2
      rw [hm] at h2; injection h2 with h2; omega,
   h.L.grown hg (by have := h.z; omega) (fun k hk => by have := (ownsRow_lt h.o2 k hk).1; omega), Nat.le_trans h.z hg.size⟩
theorem Pl.put (h : Pl w W C s1 s2 i j tA tR) (k : Nat) (u : Value) : Pl w (W.setCell ⟨w.heap.size + 1, k, none⟩ u) (C.setIfInBounds k u) s1 s2 i j tA tR := by
  have gg : W.grownBy (W.setCell ⟨w.heap.size + 1, k, none⟩ u) (some (w.heap.size + 1)) := gr_set (grownBy_refl _ _) k u
  exact ⟨h.R.grown gg (by simp), h.X.set_ k u, h.o1.kept gg (.inr (own_blk_ne h.o1 h.X (by decide))), h.o2.kept gg (.inr (own_blk_ne h.o2 h.X (by decide))), h.d, h.L.setCell (p := ⟨w.heap.size + 1, k, none⟩) (by simp) u, by simpa [World.setCell] using h.z⟩
theorem ints_of {B : Nat} {s : Value} {n : Nat} {f : Nat → Int} (h : W.ownsRow B 3 1 s n (xs2 f n)) (hn : 0 < n) : ∃ g c, s = .slice (some ⟨g, 0, none⟩) n c ∧ n ≤ c ∧ Ints W g n f := by
  rcases h.2 with ⟨_, h2⟩ | ⟨g, c, cur, rfl, _, e2, f2, _, k2, t2⟩
  · omega
  have b2 : Blk W g 3 cur := e2
  refine ⟨g, c, rfl, f2, b2.lt, fun k hk => ?_⟩
  rw [b2.cell]
  have hv : (xs2 f n)[k]? = some (.int .i64 (f k)) := by unfold xs2; rw [List.getElem?_map, List.getElem?_range hk]; rfl
  rw [← t2, List.getElem?_take] at hv
  split at hv
  · simpa using hv
  · cases hv
end
set_option maxRecDepth 100000 in
set_option maxHeartbeats 4000000 in
theorem plain_any (S gr : Int) (A : Option Addr) (n c : Nat) (tA tR : Nat → Int) (w : World) (hT : TIn w A n tA tR) (hn : n ≤ 100) (hnc : n ≤ c) :
    Calls Try.prog 14 #[.int .i64 S, .int .i64 gr, .slice A n c] w fun e w' => ∃ A1 A2 c1 c2, e = .returned (.agg #[.int .i64 S, .int .i64 gr, .slice A1 n c1, .slice A2 n c2]) ∧ CIn w' A1 A2 n c1 c2 tA tR ∧ Below w.heap.size w w' := by
  have HT := Lib.hid hT
  clear hT
  go_enter Try.func14, Try.ntmps14
  go_wp2_with fail
  have L0 := ((Below.refl w.heap.size w).alloc (Nat.le_refl _) (.cells #[.int .i64 0, .int .i64 0, .slice none 0 0, .slice none 0 0] 43)).alloc (by simp) (.cells #[.int .i64 S, .int .i64 gr, .slice none 0 0, .slice none 0 0] 43)
  have P0 : Pl w ((w.alloc (.cells #[.int .i64 0, .int .i64 0, .slice none 0 0, .slice none 0 0] 43)).alloc (.cells #[.int .i64 S, .int .i64 gr, .slice none 0 0, .slice none 0 0] 43)) #[.int .i64 S, .int .i64 gr, .slice none 0 0, .slice none 0 0] (.slice none 0 0) (.slice none 0 0) 0 0 tA tR :=
    ⟨(Blk.new w _ _).alloc _, Blk.at_new _ _ _ (by simp), ownsRow_nil _ _ _ _, ownsRow_nil _ _ _ _, fun b h _ => by simp [Value.ownBlock] at h, L0, by simp⟩
  generalize (w.alloc (.cells #[.int .i64 0, .int .i64 0, .slice none 0 0, .slice none 0 0] 43)).alloc (.cells #[.int .i64 S, .int .i64 gr, .slice none 0 0, .slice none 0 0] 43) = w0 at *
  have HP0 := Lib.hid P0
  clear P0 L0
  go_loopw [15] (fun i wr => ∃ (k : Nat) (s1 s2 : Value), i = .int .i64 (k : Nat) ∧ k ≤ n ∧ Pl w wr #[.int .i64 S, .int .i64 gr, s1, s2] s1 s2 k k tA tR) (fun i _ => n - (intOf i).toNat)
  case atStart => exact ⟨0, _, _, rfl, Nat.zero_le _, HP0.out⟩
  case round =>
    obtain ⟨k, s1, s2, rfl, hk, P⟩ := hrel
    have HP := Lib.hid P
    by_cases hlt : k < n
    · obtain ⟨ad, rfl, hal, hcl⟩ := (HT.out.below P.L) (by omega)
      have hck := hcl k hlt
      have HCK := Lib.hid hck
      have B5 := Blk.new wr 38 #[.int .i64 (tA k), .int .i64 (tR k)]
      have P5 := P.alloc (.cells #[.int .i64 (tA k), .int .i64 (tR k)] 38)
      have zr := P.z
      have sb : wr.heap.size < (wr.alloc (.cells #[.int .i64 (tA k), .int .i64 (tR k)] 38)).heap.size := by simp
      have x2 := P5.X.cellOf (v := s1) 2 rfl
      have b0 := B5.cellOf (v := .int .i64 (tA k)) 0 rfl
      have xl := P5.X.lt
      clear hck hcl hal P
      go_wp2_with (first
        | (refine wpList_load_any_d rfl 38 (.tmp 17) rfl (ad.add (k * 2)) rfl #[.int .i64 (tA k), .int .i64 (tR k)] _ (fun j v h => HCK.out j v h) Try.underlying38 rfl (by kernel_rfl) ?_)
        | (at_builtin; refine wpList_pushG 1 rfl (.tmp 20) (.tmp 23) 41 rfl styI (cs := #[.int .i64 (tA k)]) rfl (by intro u hu; simp at hu; subst hu; rfl) rfl P5.o1 rfl (by simp) (by omega) (by have := P5.z; omega) ?_; intro v1 wa own1 gr1 mv1; obtain ⟨Av1, cv1, rfl, _, _⟩ := ownsRow_reads own1; have P1 := P5.grow1 gr1 mv1 own1; have B6 := B5.grown gr1 (Ne.symm (own_blk_ne P5.o1 B5 (by decide))); have fz := P1.X.frozen; have xl1 := P1.X.lt; have z0 := P1.X.cellOf (v := s1) 2 rfl; have P2 := P1.put 2 (.slice Av1 (k + 1) cv1); have B7 := B6.grown (gr_set (grownBy_refl wa (some (w.heap.size + 1))) 2 (.slice Av1 (k + 1) cv1)) (by simp; omega); have x3 := P2.X.cellOf (v := s2) 3 rfl; have b1 := B7.cellOf (v := .int .i64 (tR k)) 1 rfl; clear P5 B5 x2 b0 own1 gr1 mv1 sb xl B6 P1)
        | (at_builtin; refine wpList_pushG 1 rfl (.tmp 27) (.tmp 30) 41 rfl styI (cs := #[.int .i64 (tR k)]) rfl (by intro u hu; simp at hu; subst hu; rfl) rfl P2.o2 rfl (by simp) (by omega) (by have := P2.z; omega) ?_; intro v2 wb own2 gr2 mv2; obtain ⟨Av2, cv2, rfl, _, _⟩ := ownsRow_reads own2; have P3 := P2.grow2 gr2 mv2 own2; clear x3 b1 B7 P2 z0 fz xl1; have fz := P3.X.frozen; have xl1 := P3.X.lt; have z0 := P3.X.cellOf (v := s2) 3 rfl; have P4 := P3.put 3 (.slice Av2 (k + 1) cv2); clear P3 own2 gr2 mv2))
      go_roundw
      case rel => exact ⟨k + 1, _, _, by first | rfl | (refine congrArg (Value.int IntKind.i64) ?_; rw [IntWalk.wrap64_in _ ⟨by omega, by omega⟩]; rfl), by omega, P4⟩
      case measure => simp [intOf]; omega
    · obtain rfl : k = n := by omega
      have dn : decide (k < k) = false := by simp
      have X := P.X
      have r0 := P.R.lt
      have xl := P.X.lt
      have fz := P.R.frozen
      have c0 := P.R.cellOf (v := .int .i64 0) 0 rfl
      have c1' := P.R.cellOf (v := .int .i64 0) 1 rfl
      have c2' := P.R.cellOf (v := .slice none 0 0) 2 rfl
      have c3 := P.R.cellOf (v := .slice none 0 0) 3 rfl
      obtain ⟨A1, c1, rfl, _, _⟩ := ownsRow_reads P.o1
      obtain ⟨A2, c2, rfl, _, _⟩ := ownsRow_reads P.o2
      clear P hlt hk
      go_wp2_with (first
        | (refine wpList_load_any_d rfl 43 (.tmp 7) rfl ⟨w.heap.size + 1, 0, none⟩ rfl #[.int .i64 S, .int .i64 gr, .slice A1 k c1, .slice A2 k c2] _ (fun j v h => by rw [show (⟨w.heap.size + 1, 0, none⟩ : Addr).add j = ⟨w.heap.size + 1, j, none⟩ from by by_cases hj : j = 0 <;> simp [Addr.add, hj], X.cell]; simpa using h) Try.underlying43 rfl (by kernel_rfl) ?_))
      have gz : wr.grownBy ((((wr.setCell ⟨w.heap.size, 0, none⟩ (.int .i64 S)).setCell ⟨w.heap.size, 1, none⟩ (.int .i64 gr)).setCell ⟨w.heap.size, 2, none⟩ (.slice A1 k c1)).setCell ⟨w.heap.size, 3, none⟩ (.slice A2 k c2)) (some w.heap.size) := gr_set (gr_set (gr_set (gr_set (grownBy_refl _ _) 0 _) 1 _) 2 _) 3 _
      have Bz : Blk ((((wr.setCell ⟨w.heap.size, 0, none⟩ (.int .i64 S)).setCell ⟨w.heap.size, 1, none⟩ (.int .i64 gr)).setCell ⟨w.heap.size, 2, none⟩ (.slice A1 k c1)).setCell ⟨w.heap.size, 3, none⟩ (.slice A2 k c2)) w.heap.size 43 #[.int .i64 S, .int .i64 gr, .slice A1 k c1, .slice A2 k c2] := by simpa using (((HP.out.R.set_ 0 (.int .i64 S)).set_ 1 (.int .i64 gr)).set_ 2 (.slice A1 k c1)).set_ 3 (.slice A2 k c2)
      generalize ((((wr.setCell ⟨w.heap.size, 0, none⟩ (.int .i64 S)).setCell ⟨w.heap.size, 1, none⟩ (.int .i64 gr)).setCell ⟨w.heap.size, 2, none⟩ (.slice A1 k c1)).setCell ⟨w.heap.size, 3, none⟩ (.slice A2 k c2)) = wz at *
      have z0 := Bz.cellOf (v := .int .i64 S) 0 rfl
      have z1 := Bz.cellOf (v := .int .i64 gr) 1 rfl
      have z2 := Bz.cellOf (v := .slice A1 k c1) 2 rfl
      have z3 := Bz.cellOf (v := .slice A2 k c2) 3 rfl
      have hP := HP.out
      refine bodyPost_ret (v := .agg #[.int .i64 S, .int .i64 gr, .slice A1 k c1, .slice A2 k c2]) (by simp [results, Try.results14, go_sem, z0, z1, z2, z3]; try rfl) rfl ?_
      refine ⟨A1, A2, c1, c2, rfl, fun h0 => ?_, hP.L.grown gz (by have := hP.z; omega) (fun b hb => by injection hb with hb; omega)⟩
      obtain ⟨g1, d1, e1, k1, I1⟩ := ints_of (hP.o1.kept gz (.inr (own_blk_ne hP.o1 hP.R (by decide)))) h0
      obtain ⟨g2, d2, e2, k2, I2⟩ := ints_of (hP.o2.kept gz (.inr (own_blk_ne hP.o2 hP.R (by decide)))) h0
      injection e1 with e11 _ e13
      injection e2 with e21 _ e23
      exact ⟨g1, g2, e11, e21, I1, I2, by rw [e13]; exact k1, by rw [e23]; exact k2⟩
end Go.Proofs.Ytfpbahihndgabaa
