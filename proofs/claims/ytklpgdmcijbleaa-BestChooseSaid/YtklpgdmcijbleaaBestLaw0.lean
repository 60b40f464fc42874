/-
  Layer 19's laws, what they share: the head's example; the arguments read as a list of what ports have heard.
-/
import Derived.Test.YtklpgdmcijbleaaBestChoose0
namespace Go.Proofs.Ytklpgdmcijbleaa
open Go.RowKit Go.WideShapes Go.ChangeShapes

theorem headTop : topOf ⟨5, 0, 0, 4⟩ [⟨true, true, ⟨⟨3, 0, 0, 9⟩, 2, 9, 0, 0⟩⟩, ⟨true, true, ⟨⟨3, 0, 0, 9⟩, 4, 8, 0, 0⟩⟩] = ⟨⟨3, 0, 0, 9⟩, 2, 9, 0, 0⟩ := by rfl
theorem headRoles : ((List.range 2).map fun j => Value.int .i64 (roleAt ⟨5, 0, 0, 4⟩ ⟨⟨3, 0, 0, 9⟩, 2, 9, 0, 0⟩ [⟨true, true, ⟨⟨3, 0, 0, 9⟩, 2, 9, 0, 0⟩⟩, ⟨true, true, ⟨⟨3, 0, 0, 9⟩, 4, 8, 0, 0⟩⟩] j)) = [.int .i64 2, .int .i64 1] := by
  have h0 : roleAt ⟨5, 0, 0, 4⟩ ⟨⟨3, 0, 0, 9⟩, 2, 9, 0, 0⟩ [⟨true, true, ⟨⟨3, 0, 0, 9⟩, 2, 9, 0, 0⟩⟩, ⟨true, true, ⟨⟨3, 0, 0, 9⟩, 4, 8, 0, 0⟩⟩] 0 = 2 := by decide +kernel
  have h1 : roleAt ⟨5, 0, 0, 4⟩ ⟨⟨3, 0, 0, 9⟩, 2, 9, 0, 0⟩ [⟨true, true, ⟨⟨3, 0, 0, 9⟩, 2, 9, 0, 0⟩⟩, ⟨true, true, ⟨⟨3, 0, 0, 9⟩, 4, 8, 0, 0⟩⟩] 1 = 1 := by decide +kernel
  have e : List.range 2 = [0, 1] := rfl
  rw [e]
  simp only [List.map_cons, List.map_nil, h0, h1]

set_option maxHeartbeats 1000000 in
theorem head_any (w : World) : Calls Try.prog 14 #[] w fun e w' => e = .returned (.bool true) ∧ Below w.heap.size w w' := by
  have hc : ∀ (W : World) (g : Nat), g = W.heap.size → Calls Try.prog 15 #[(⟨5, 0, 0, 4⟩ : Pr).val, .slice (some ⟨g, 0, none⟩) 2 2] (W.alloc (.cells #[.bool true, .bool true, .int .i64 3, .int .i64 0, .int .i64 0, .int .i64 9, .int .i64 2, .int .i64 9, .int .i64 0, .int .i64 0, .bool true, .bool true, .int .i64 3, .int .i64 0, .int .i64 0, .int .i64 9, .int .i64 4, .int .i64 8, .int .i64 0, .int .i64 0] 40)) (ChooseRet ⟨5, 0, 0, 4⟩ [⟨true, true, ⟨⟨3, 0, 0, 9⟩, 2, 9, 0, 0⟩⟩, ⟨true, true, ⟨⟨3, 0, 0, 9⟩, 4, 8, 0, 0⟩⟩] 2 (W.alloc (.cells #[.bool true, .bool true, .int .i64 3, .int .i64 0, .int .i64 0, .int .i64 9, .int .i64 2, .int .i64 9, .int .i64 0, .int .i64 0, .bool true, .bool true, .int .i64 3, .int .i64 0, .int .i64 0, .int .i64 9, .int .i64 4, .int .i64 8, .int .i64 0, .int .i64 0] 40))) := by
    intro W g hg
    subst hg
    refine choose_any ⟨5, 0, 0, 4⟩ _ 2 2 [⟨true, true, ⟨⟨3, 0, 0, 9⟩, 2, 9, 0, 0⟩⟩, ⟨true, true, ⟨⟨3, 0, 0, 9⟩, 4, 8, 0, 0⟩⟩] _ ?_ rfl (by omega)
    exact Reads.of_own (ownsRow_new W (n := 2) (base := 0) (cs := #[.bool true, .bool true, .int .i64 3, .int .i64 0, .int .i64 0, .int .i64 9, .int .i64 2, .int .i64 9, .int .i64 0, .int .i64 0, .bool true, .bool true, .int .i64 3, .int .i64 0, .int .i64 0, .int .i64 9, .int .i64 4, .int .i64 8, .int .i64 0, .int .i64 0]) (e := 40) (Nat.zero_le _) rfl (by simp [maxLen]))
  unfold ChooseRet at hc
  rw [headTop, headRoles] at hc
  unfold Vc.val Vc.cells Pr.val Pr.cells iz at hc
  simp only [List.cons_append, List.nil_append] at hc
  have HC := Lib.hid hc
  clear hc
  go_enter Try.func14, Try.ntmps14
  go_wp2_with fail
  refine (HC.out _ _ (by simp)).mono ?_
  rintro e w1 ⟨v, rfl, hown, hb⟩
  have hb1 : Below w.heap.size w w1 := (((Below.refl _ _).alloc (Nat.le_refl _) _).alloc (by simp) _).trans (hb.mono (by simp; omega))
  have hz := hb.size
  simp only [World.size_alloc] at hz
  have B0 : Blk w1 w.heap.size 23 #[.int .i64 3, .int .i64 0, .int .i64 0, .int .i64 9] := ((Blk.new _ _ _).alloc _).below hb (by simp; omega)
  have b0 := B0.cell 0
  have b1 := B0.cell 1
  have b2 := B0.cell 2
  have b3 := B0.cell 3
  simp at b0 b1 b2 b3
  obtain ⟨g, cap, rfl, hg, hlt⟩ := hown.form (by omega)
  have c0 := hown.cells (g := g) rfl 0 _ rfl
  have c1 := hown.cells (g := g) rfl 1 _ rfl
  simp [Addr.add] at c0 c1
  clear hown hb HC
  have hs1 : w.heap.size < w1.heap.size := by omega
  go_wp2_with fail
  go_ret
  exact ⟨rfl, hb1.alloc (by omega) _⟩

/-- The ports' argument reads as a list of what they have heard. -/
theorem open_heards {H : Type} {enc : TypeId × Value → H} {W : World} {v : Value} {d : DataW H} {p : List MemPlace} {b0 : Nat} (hv : Value.okWide Try.prog W .any b0 36 v)
    (h : DataW.Trod enc Try.prog W 0 (fun _ => true) true 36 v d p) (hlt : ∀ x ∈ p, x.block < W.heap.size) :
    ∃ (A : Option Addr) (n c : Nat) (hs : List Hd), v = .slice A n c ∧ n ≤ maxLen ∧ hs.length = n ∧ Reads W W.heap.size 10 A n (hcells hs) := by
  obtain ⟨A, n, c, xs, rfl, h1, h2, _, hr, hall⟩ := open_slice_arg (n := 5) (ls := [4, 4, 3, 3, 3, 3, 3, 3, 3, 3]) Try.underlying36 (by kernel_rfl) (by kernel_rfl) rfl hv h hlt
  have key : ∀ l, l ≤ n → ∃ hs : List Hd, hs.length = l ∧ xs.take (l * 10) = hcells hs := by
    intro l
    induction l with
    | zero => exact fun _ => ⟨[], rfl, by simp [hcells]⟩
    | succ l ih =>
      intro hl
      obtain ⟨hs, e1, e2⟩ := ih (by omega)
      have ha := hall l (by omega)
      simp only [List.length_cons, List.length_nil] at ha
      have hx : (xs.drop (l * 10)).take 10 = (xs.drop (l * 10)).take 10 := rfl
      generalize hc : (xs.drop (l * 10)).take 10 = cs at *
      match cs, ha with
      | [c0, c1, c2, c3, c4, c5, c6, c7, c8, c9], ⟨h0, h1, h2, h3, h4, h5, h6, h7, h8, h9, _⟩ =>
        obtain ⟨u, rfl⟩ := h0.bool Try.underlying4
        obtain ⟨o, rfl⟩ := h1.bool Try.underlying4
        obtain ⟨n2, rfl, _⟩ := h2.int Try.underlying3
        obtain ⟨n3, rfl, _⟩ := h3.int Try.underlying3
        obtain ⟨n4, rfl, _⟩ := h4.int Try.underlying3
        obtain ⟨n5, rfl, _⟩ := h5.int Try.underlying3
        obtain ⟨n6, rfl, _⟩ := h6.int Try.underlying3
        obtain ⟨n7, rfl, _⟩ := h7.int Try.underlying3
        obtain ⟨n8, rfl, _⟩ := h8.int Try.underlying3
        obtain ⟨n9, rfl, _⟩ := h9.int Try.underlying3
        refine ⟨hs ++ [⟨u, o, ⟨⟨n2, n3, n4, n5⟩, n6, n7, n8, n9⟩⟩], by simp [e1], ?_⟩
        rw [Nat.succ_mul, List.take_add, e2, hc]
        simp [hcells, Hd.cells, Vc.cells, Pr.cells, iz]
  obtain ⟨hs, e1, e2⟩ := key n (Nat.le_refl _)
  refine ⟨A, n, c, hs, rfl, by omega, e1, ?_⟩
  have e3 : xs.length = n * 10 := hr.1
  rw [List.take_of_length_le (Nat.le_of_eq e3)] at e2
  rw [← e2]
  exact hr
theorem open_prior {H : Type} {enc : TypeId × Value → H} {W : World} {v : Value} {d : DataW H} {p : List MemPlace} {b0 : Nat} (hv : Value.okWide Try.prog W .any b0 23 v)
    (h : DataW.Trod enc Try.prog W 0 (fun _ => true) true 23 v d p) : ∃ a : Pr, v = a.val := by
  obtain ⟨cs, rfl, hsz⟩ := okWide_struct Try.underlying23 hv
  obtain ⟨fuel, hf⟩ := h
  have ha := trod_flat (Q := fun _ => True) 5 23 [3, 3, 3, 3] (by kernel_rfl) fuel _ _ (by simpa [Value.cells] using hf) (fun _ _ => trivial)
  obtain ⟨l⟩ := cs
  match l, ha with
  | [c0, c1, c2, c3], ⟨h0, h1, h2, h3, _⟩ =>
    obtain ⟨n0, rfl, _⟩ := h0.int Try.underlying3
    obtain ⟨n1, rfl, _⟩ := h1.int Try.underlying3
    obtain ⟨n2, rfl, _⟩ := h2.int Try.underlying3
    obtain ⟨n3, rfl, _⟩ := h3.int Try.underlying3
    exact ⟨⟨n0, n1, n2, n3⟩, rfl⟩
theorem own : ownKnob Try.prog.godebug = none := by kernel_rfl
theorem laidOut : laidOutB Try.prog = true := by kernel_rfl
end Go.Proofs.Ytklpgdmcijbleaa
