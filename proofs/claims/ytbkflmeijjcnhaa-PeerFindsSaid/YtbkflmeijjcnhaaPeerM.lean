/-
  Layer 17: the marks of a link: a slice that always grows into a row of its own.
-/
import Derived.Test.YtbkflmeijjcnhaaMsgBase
import Derived.Laws.Append
namespace Go.Proofs.Ytbkflmeijjcnhaa
set_option linter.unusedSimpArgs false
set_option linter.unusedVariables false
open Go.RowKit Go.WideShapes Go.ChangeShapes
attribute [local go_sem ↓] Go.wp_at_zero Go.wp_at_succ

def mkc (L : List (Int × Int)) : List Value := L.flatMap fun x => [.int .i64 x.1, .int .i64 x.2]
theorem mkc_len : ∀ L : List (Int × Int), (mkc L).length = L.length * 2
  | [] => rfl
  | x :: L => by
    have := mkc_len L
    simp only [mkc, List.flatMap_cons, List.length_append, List.length_cons, List.length_nil] at this ⊢
    omega
theorem mkc_append (L M : List (Int × Int)) : mkc (L ++ M) = mkc L ++ mkc M := by simp [mkc]
/-- Marks that lie elsewhere than block g. -/
structure Mk (w : World) (g : Nat) (A : Option Addr) (n c : Nat) (L : List (Int × Int)) : Prop where
  len : L.length = n
  cap : n ≤ c
  few : n ≤ 100
  nil : n = 0 → A = none ∧ c = 0
  at_ : 0 < n → ∃ ad : Addr, A = some ad ∧ ad.block ≠ g ∧ ad.block < w.heap.size ∧ ∀ j v, (mkc L)[j]? = some v → w.cell? (ad.add j) = some v
theorem Mk.none_ (w : World) (g : Nat) : Mk w g none 0 0 [] := ⟨rfl, Nat.le_refl _, by omega, fun _ => ⟨rfl, rfl⟩, fun h => absurd h (by omega)⟩
theorem Mk.keep {w w' : World} {g : Nat} {A : Option Addr} {n c : Nat} {L : List (Int × Int)} (h : Mk w g A n c L) (hb : w.grownBy w' (some g)) : Mk w' g A n c L :=
  ⟨h.len, h.cap, h.few, h.nil, fun hn => by
    obtain ⟨ad, e, h1, h2, h3⟩ := h.at_ hn
    exact ⟨ad, e, h1, Nat.lt_of_lt_of_le h2 hb.size, fun j v hj => (World.cell?_of_block (hb.block _ (by rw [block_of_add]; exact h2) (by rw [block_of_add]; intro e; injection e with e; exact h1 e))).trans (h3 j v hj)⟩⟩
theorem Mk.kept {w w' : World} {g : Nat} {A : Option Addr} {n c : Nat} {L : List (Int × Int)} (h : Mk w g A n c L) (hb : Below w.heap.size w w') : Mk w' g A n c L := h.keep (gr_below hb _)
theorem Mk.mark {w : World} {g : Nat} {A : Option Addr} {n c : Nat} {L : List (Int × Int)} (h : Mk w g A n c L) {k : Nat} {x : Int × Int} (hk : L[k]? = some x) :
    ∃ ad : Addr, A = some ad ∧ ad.block ≠ g ∧ ad.block < w.heap.size ∧ w.cell? (ad.add (k * 2)) = some (.int .i64 x.1) ∧ w.cell? ⟨(ad.add (k * 2)).block, (ad.add (k * 2)).off + 1, none⟩ = some (.int .i64 x.2) := by
  have hlt : k < L.length := by
    rcases Nat.lt_or_ge k L.length with h1 | h1
    · exact h1
    · rw [List.getElem?_eq_none h1] at hk; cases hk
  obtain ⟨ad, e, h1, h2, h3⟩ := h.at_ (by rw [← h.len]; omega)
  have key : ∀ (L : List (Int × Int)) (k : Nat), L[k]? = some x → (mkc L)[k * 2]? = some (.int .i64 x.1) ∧ (mkc L)[k * 2 + 1]? = some (.int .i64 x.2) := by
    intro L
    induction L with
    | nil => intro k hk; simp at hk
    | cons y L ih =>
      intro k hk
      have hm : mkc (y :: L) = .int .i64 y.1 :: .int .i64 y.2 :: mkc L := by simp [mkc]
      cases k with
      | zero =>
        have : y = x := by simpa using hk
        rw [hm, this]
        exact ⟨rfl, rfl⟩
      | succ k =>
        have := ih k (by simpa using hk)
        rw [hm, show (k + 1) * 2 = k * 2 + 2 by omega]
        simpa using this
  obtain ⟨k1, k2⟩ := key L k hk
  have k3 := h3 _ _ k2
  rw [← add_of_add, show (ad.add (k * 2)).add 1 = ⟨(ad.add (k * 2)).block, (ad.add (k * 2)).off + 1, none⟩ from rfl] at k3
  exact ⟨ad, e, h1, h2, h3 _ _ k1, k3⟩
theorem Mk.tail {w : World} {g : Nat} {ad : Addr} {n c : Nat} {x : Int × Int} {L : List (Int × Int)} (h : Mk w g (some ad) n c (x :: L)) (hn : 2 ≤ n) : Mk w g (some (ad.add 2)) (n - 1) (c - 1) L := by
  have hl := h.len
  have hc := h.cap
  have hf := h.few
  simp only [List.length_cons] at hl
  refine ⟨by omega, by omega, by omega, fun h0 => by omega, fun _ => ?_⟩
  obtain ⟨ad2, e, h1, h2, h3⟩ := h.at_ (by omega)
  injection e with e
  subst e
  refine ⟨_, rfl, by rw [block_of_add]; exact h1, by rw [block_of_add]; exact h2, fun j v hj => ?_⟩
  rw [add_of_add, Nat.add_comm]
  have hm : mkc (x :: L) = .int .i64 x.1 :: .int .i64 x.2 :: mkc L := by simp [mkc]
  exact h3 _ v (by rw [hm]; simpa using hj)
set_option maxRecDepth 100000 in
/-- One more mark: its pair lies in the block made just before. -/
theorem run_append_mark {w : World} {g : Nat} {A : Option Addr} {n c : Nat} {L : List (Int × Int)} (h : Mk w g A n c L) (hn : n < 100) (hg : g < w.heap.size) (t3 t4 : Int) {ty : TypeId} :
    ∃ ad c' w', (Builtin.append_ #[101, 101] ty #[.slice A n n, .slice (some ⟨w.heap.size, 0, none⟩) 1 1]).run Try.prog (w.alloc (.cells #[.int .i64 t3, .int .i64 t4] 118)) = .ok (.slice (some ad) (n + 1) c') w' ∧
      Mk w' g (some ad) (n + 1) c' (L ++ [(t3, t4)]) ∧ Below w.heap.size w w' ∧ w.heap.size + 2 = w'.heap.size := by
  obtain ⟨W, hW⟩ : ∃ W, W = w.alloc (.cells #[.int .i64 t3, .int .i64 t4] 118) := ⟨_, rfl⟩
  have hB : Blk W w.heap.size 118 #[.int .i64 t3, .int .i64 t4] := by rw [hW]; exact Blk.new _ _ _
  have hL : Below w.heap.size w W := by rw [hW]; exact (Below.refl _ _).alloc (Nat.le_refl _) _
  have hz : W.heap.size = w.heap.size + 1 := by rw [hW]; simp
  have hM : Mk W g A n c L := h.kept hL
  rw [← hW]
  have hnews : ∀ j v, [Value.int .i64 t3, .int .i64 t4][j]? = some v → W.cell? ((⟨w.heap.size, 0, none⟩ : Addr).add j) = some v := fun j v hj => by
    match j, hj with
    | 0, hj => injection hj with hj; rw [← hj]; exact hB.cellOf 0 rfl
    | 1, hj => injection hj with hj; rw [← hj]; exact hB.cellOf 1 rfl
  have fin : ∀ c' (zs cs : Array Value), cs = (mkc L).toArray ++ #[.int .i64 t3, .int .i64 t4] ++ zs → n + 1 ≤ c' → Mk (W.drew.alloc (.cells cs 118)) g (some ⟨w.heap.size + 1, 0, none⟩) (n + 1) c' (L ++ [(t3, t4)]) := fun c' zs cs hcs hc => by
    refine ⟨by simp [h.len], hc, by omega, fun h0 => by omega, fun _ => ⟨_, rfl, by show w.heap.size + 1 ≠ g; omega, by show w.heap.size + 1 < _; simp [hz], fun j v hj => ?_⟩⟩
    have hj' : cs[j]? = some v := by
      rw [mkc_append] at hj
      have hlt : j < (mkc L ++ mkc [(t3, t4)]).length := by
        rcases Nat.lt_or_ge j (mkc L ++ mkc [(t3, t4)]).length with h1 | h1
        · exact h1
        · rw [List.getElem?_eq_none h1] at hj; cases hj
      rw [hcs, Array.getElem?_append_left (by simpa [mkc] using hlt)]
      simpa [mkc] using hj
    have := Blk.new W.drew 118 cs
    rw [show W.drew.heap.size = w.heap.size + 1 from hz] at this
    have := this.cellOf j hj'
    by_cases h0 : j = 0
    · subst h0; exact this
    · rw [show (⟨w.heap.size + 1, 0, none⟩ : Addr).add j = ⟨w.heap.size + 1, j, none⟩ by simp [Addr.add, h0]]; exact this
  have bel : ∀ o, Below w.heap.size w (W.drew.alloc o) := fun o => hL.drew.alloc (by show w.heap.size ≤ W.heap.size; omega) o
  rcases Nat.eq_zero_or_pos n with rfl | hp
  · obtain ⟨rfl, hc⟩ := h.nil rfl
    have hl0 : L = [] := List.eq_nil_of_length_eq_zero h.len
    subst hl0
    have hrun := run_append_nil (P := Try.prog) (w := W) 101 ty 118 _ _ Try.underlying101 rfl rfl ⟨w.heap.size, 0, none⟩ 1 1 [.int .i64 t3, .int .i64 t4] rfl hnews (by omega) (by omega) (by decide)
    rw [hz] at hrun
    exact ⟨_, _, _, hrun, fin _ _ _ (by simp [mkc]; rfl) (grownCap_ge _ _ _ _), bel _, by simp [hz]⟩
  · obtain ⟨ad, rfl, _, _, hcs⟩ := hM.at_ hp
    have hrun := run_append_grow (P := Try.prog) (w := W) 101 ty 118 _ _ Try.underlying101 rfl rfl ad n n (mkc L) (by rw [mkc_len, h.len]; rfl) hcs ⟨w.heap.size, 0, none⟩ 1 1 [.int .i64 t3, .int .i64 t4] rfl hnews (by omega) (by omega) (growslice_fits_succ (by show n * 16 ≤ _; omega) (by show 16 ≤ _; omega))
    rw [hz] at hrun
    exact ⟨_, _, _, hrun, fin _ _ _ rfl (grownCap_ge _ _ _ _), bel _, by simp [hz]⟩
section
variable {lo : List Oper} {S : World → Prop} {Q : Exit → Act → World → Prop} {E : Act → World → Prop}
theorem script_mark {i : Nat} {l : List (Nat × Bool)} {a : Act} {o : Oper} (ho0 : lo[i]? = some o) (hgd : o.guard = none) (s x : Operand) (ho : o.op = .call { callee := .builtin .append, args := #[s, x], argTypes := #[101, 101] })
    {w : World} {g : Nat} {A : Option Addr} {n c : Nat} {L : List (Int × Int)} (h : Mk w g A n c L) (hn : n < 100) (hg : g < w.heap.size) (t3 t4 : Int) (hs : a.eval s = .slice A n n) (hx : a.eval x = .slice (some ⟨w.heap.size, 0, none⟩) 1 1)
    (hk : ∀ ad c' w', Mk w' g (some ad) (n + 1) c' (L ++ [(t3, t4)]) → Below w.heap.size w w' → S w' ∧ wpScript Try.prog lo.toArray S Q E l (a.put o.dst (.slice (some ad) (n + 1) c')) w') :
    wpScript Try.prog lo.toArray S Q E ((i, false) :: l) a (w.alloc (.cells #[.int .i64 t3, .int .i64 t4] 118)) := by
  obtain ⟨ad, c', w', hrun, h1, h2, h3⟩ := run_append_mark h hn hg t3 t4 (ty := o.type)
  refine script_wp ho0 (by simp [Region.wanted, hgd]) ?_
  unfold Oper.wp execOp
  simp only [ho, resolve, invoke, builtin, Sem.run_bind, Sem.run_pure, Result.andThen_ok, List.map_toArray, List.map_cons, List.map_nil, hs, hx, hrun]
  exact hk ad c' w' h1 h2
end
end Go.Proofs.Ytbkflmeijjcnhaa
