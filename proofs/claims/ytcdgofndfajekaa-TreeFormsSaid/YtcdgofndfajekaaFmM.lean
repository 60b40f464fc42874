/-
  TreeForms: the law's own memory: the row of clocks' priorities, the boxes of the rows, what the clocks' blocks are of.
-/
import Derived.Test.YtcdgofndfajekaaFmO
namespace Go.Proofs.Ytcdgofndfajekaa
set_option linter.unusedSimpArgs false
set_option linter.unusedVariables false
open Go.RowKit Go.WideShapes Go.ChangeShapes

theorem putAll_get : ∀ (vs : List Value) (old : Array Value) (o i : Nat), o + vs.length ≤ old.size → (putAll old o vs)[i]? = if o ≤ i ∧ i < o + vs.length then vs[i - o]? else old[i]?
  | [], old, o, i, _ => by
    rw [if_neg (by first | (simp; done) | (simp; omega))]
    rfl
  | v :: vs, old, o, i, h => by
    simp only [List.length_cons] at h ⊢
    rw [putAll, putAll_get vs (old.setIfInBounds o v) (o + 1) i (by rw [Array.size_setIfInBounds]; omega)]
    by_cases h1 : o + 1 ≤ i ∧ i < o + 1 + vs.length
    · rw [if_pos h1, if_pos (by omega), show i - o = (i - (o + 1)) + 1 by omega]
      rfl
    · rw [if_neg h1, Array.getElem?_setIfInBounds]
      by_cases h2 : o = i
      · subst h2
        rw [if_pos rfl, if_pos (by omega), if_pos (by omega), Nat.sub_self]
        rfl
      · rw [if_neg h2, if_neg (by omega)]
theorem putAll_size : ∀ (vs : List Value) (old : Array Value) (o : Nat), (putAll old o vs).size = old.size
  | [], _, _ => rfl
  | v :: vs, old, o => by rw [putAll, putAll_size, Array.size_setIfInBounds]
/-! ### The row of priorities -/
def pcl (p : Pr) : List Value := [.int .i64 p.one, .int .i64 p.cls, .int .i64 p.two, .int .i64 p.id]
def PrR (w : World) (g n : Nat) (f : Nat → Pr) : Prop := ∃ cur : Array Value, Blk w g 23 cur ∧ n * 4 ≤ cur.size ∧ ∀ k, k < n → ∀ (r : Nat) (v : Value), (pcl (f k))[r]? = some v → cur[k * 4 + r]? = some v
section
variable {w w' : World} {g n : Nat} {f : Nat → Pr}
theorem PrR.cell (h : PrR w g n f) {k : Nat} (hk : k < n) {r : Nat} {v : Value} (hv : (pcl (f k))[r]? = some v) : w.cell? ⟨g, k * 4 + r, none⟩ = some v := by
  obtain ⟨cur, B, _, hc⟩ := h
  exact B.cellOf _ (hc k hk r v hv)
theorem PrR.cellA (h : PrR w g n f) {k : Nat} (hk : k < n) {r : Nat} {v : Value} (hv : (pcl (f k))[r]? = some v) : w.cell? ((⟨g, k * 4, none⟩ : Addr).add r) = some v := by
  have e1 : (⟨g, k * 4, none⟩ : Addr).add r = ⟨g, k * 4 + r, none⟩ := by unfold Addr.add; split <;> simp_all
  rw [e1]
  exact h.cell hk hv
theorem PrR.lt (h : PrR w g n f) : g < w.heap.size := by
  obtain ⟨cur, B, _⟩ := h
  exact B.lt
theorem PrR.kept (h : PrR w g n f) (hb : Below w.heap.size w w') : PrR w' g n f := by
  obtain ⟨cur, B, h1, h2⟩ := h
  exact ⟨cur, B.kept hb, h1, h2⟩
theorem PrR.grown (h : PrR w g n f) {q : Option Nat} (gr : w.grownBy w' q) (hq : q ≠ some g) : PrR w' g n f := by
  obtain ⟨cur, B, h1, h2⟩ := h
  exact ⟨cur, B.grown gr (fun e => hq e.symm), h1, h2⟩
theorem PrR.fr (h : PrR w g n f) {S : List Nat} (hf : Fr S w w') (hg : g ∉ S) : PrR w' g n f := by
  obtain ⟨cur, B, h1, h2⟩ := h
  exact ⟨cur, hf.blk B hg, h1, h2⟩
theorem PrR.put {cur : Array Value} (hs : n * 4 ≤ cur.size) (hc : ∀ k, k < n → ∀ (r : Nat) (v : Value), (pcl (f k))[r]? = some v → cur[k * 4 + r]? = some v) {i : Nat} (hi : i < n) (p : Pr) (B : Blk w' g 23 (putAll cur (i * 4) (pcl p))) {f' : Nat → Pr} (hf : ∀ k, k < n → f' k = if k = i then p else f k) : PrR w' g n f' := by
  have hl : (pcl p).length = 4 := rfl
  refine ⟨_, B, by rw [putAll_size]; exact hs, fun k hk r v hv => ?_⟩
  have hr : r < 4 := (List.getElem?_eq_some_iff.1 hv).1
  rw [putAll_get _ _ _ _ (by rw [hl]; omega), hl]
  rw [hf k hk] at hv
  by_cases h : k = i
  · subst h
    rw [if_pos rfl] at hv
    rw [if_pos (by omega), show k * 4 + r - k * 4 = r by omega]
    exact hv
  · rw [if_neg h] at hv
    rw [if_neg (by omega)]
    exact hc k hk r v hv
theorem PrR.of_row {B0 : Nat} {v : Value} (h : w.ownsRow B0 23 4 v n ((List.range n).flatMap fun k => pcl (f k))) (hn : 0 < n) : ∃ g c, v = .slice (some ⟨g, 0, none⟩) n c ∧ B0 ≤ g ∧ PrR w g n f := by
  rcases h.2 with ⟨_, h2⟩ | ⟨g, cap, cur, hv, hg, hh, hle, _, hsz, ht⟩
  · omega
  · refine ⟨g, cap, hv, hg, cur, hh, by rw [hsz]; exact Nat.mul_le_mul_right 4 hle, fun k hk r u hu => ?_⟩
    have hr : r < 4 := (List.getElem?_eq_some_iff.1 hu).1
    have h1 : ((List.range n).flatMap fun k => pcl (f k))[k * 4 + r]? = (pcl (f k))[r]? := flatMap_get (f := fun k => pcl (f k)) (size := 4) (fun _ => rfl) (List.getElem?_range hk) r hr
    rw [hu, ← ht, List.getElem?_take] at h1
    split at h1
    · simpa using h1
    · cases h1
end
def maskP (r : Pr) (k : Nat) : Pr := ⟨bits .and .i64 r.one 3, bits .and .i64 r.cls 1, bits .and .i64 r.two 1, 10 + (k : Int)⟩
theorem mask_who {R : Nat → Pr} {n : Nat} (hn : n ≤ 7) : Who (fun k => maskP (R k) k) n := by
  refine ⟨hn, fun i hi => ⟨rfl, ?_, ?_, ?_⟩⟩
  · obtain ⟨x, h1, h2, h3⟩ := and_mask (R i).one 2 3 rfl (by omega)
    show 0 ≤ bits .and .i64 (R i).one 3 ∧ bits .and .i64 (R i).one 3 ≤ 3
    rw [h1]
    exact ⟨h2, h3⟩
  · obtain ⟨x, h1, h2, h3⟩ := and_mask (R i).cls 1 1 rfl (by omega)
    show 0 ≤ bits .and .i64 (R i).cls 1 ∧ bits .and .i64 (R i).cls 1 ≤ 1
    rw [h1]
    exact ⟨h2, h3⟩
  · obtain ⟨x, h1, h2, h3⟩ := and_mask (R i).two 1 1 rfl (by omega)
    show 0 ≤ bits .and .i64 (R i).two 1 ∧ bits .and .i64 (R i).two 1 ≤ 1
    rw [h1]
    exact ⟨h2, h3⟩
/-! ### What the clocks' blocks are of -/
def ctypes : List TypeId := [75, 4, 80, 32, 3]
theorem TAt.ne {w : World} {b : Bks} {t : Tre} {ps : List Value} (h : TAt w b t ps) {g : Nat} {ty : TypeId} {cs : Array Value} (B : Blk w g ty cs) (hty : ty ∉ ctypes) : g ∉ b.all := by
  unfold ctypes at hty
  simp only [List.mem_cons, List.not_mem_nil, or_false, not_or] at hty
  obtain ⟨h1, h2, h3, h4, h5⟩ := hty
  intro hm
  simp only [Bks.all, List.mem_cons, List.not_mem_nil, or_false] at hm
  rcases hm with hm | hm | hm | hm | hm
  · exact Blk.ne_ B h.box h1 hm
  · exact Blk.ne_ B h.ups h2 hm
  · exact Blk.ne_ B h.hds h3 hm
  · exact Blk.ne_ B h.pat h4 hm
  · exact Blk.ne_ B h.whn h5 hm
section
variable {w w' : World} {F : List Nat} {Bs : List Bks} {L : List Tre} {PS : List (List Value)}
theorem Nt.all_at (h : Nt w F Bs L PS) {b : Bks} (hb : b ∈ Bs) : ∃ t ps, TAt w b t ps := by
  obtain ⟨i, hi⟩ := List.getElem?_of_mem hb
  have hl := (List.getElem?_eq_some_iff.1 hi).1
  have h1 : i < L.length := by rw [← h.lenB]; exact hl
  have h2 : i < PS.length := by rw [h.lenP]; exact h1
  exact ⟨_, _, h.tat i b _ _ hi (List.getElem?_eq_getElem h1) (List.getElem?_eq_getElem h2)⟩
theorem Nt.ne (h : Nt w F Bs L PS) {g : Nat} {ty : TypeId} {cs : Array Value} (B : Blk w g ty cs) (hty : ty ∉ ctypes) : ∀ b ∈ Bs, g ∉ b.all := fun b hb => by
  obtain ⟨t, ps, T⟩ := h.all_at hb
  exact T.ne B hty
theorem Nt.gr0 (h : Nt w F Bs L PS) (hp : ∀ t ∈ L, ∀ e ∈ t.es, e.path = []) {q : Option Nat} (gr : w.grownBy w' q) (hq : ∀ g, q = some g → ∀ b ∈ Bs, g ∉ b.all) : Nt w' F Bs L PS := by
  cases q with
  | none => exact h.far0 (S := []) hp ⟨gr.os, gr.tape, gr.output, gr.size, fun k hk _ => gr.block k hk (by simp)⟩ (by simp)
  | some g => exact h.far0 (S := [g]) hp (Fr.gr gr (by simp)) (fun b hb k hk hm => by simp at hm; subst hm; exact hq _ rfl b hb hk)
theorem Nt.blk0 (h : Nt w F Bs L PS) (hp : ∀ t ∈ L, ∀ e ∈ t.es, e.path = []) {g : Nat} {ty : TypeId} {cs : Array Value} (B : Blk w g ty cs) (hty : ty ∉ ctypes) (gr : w.grownBy w' (some g)) : Nt w' F Bs L PS :=
  h.gr0 hp gr (fun k hk => by injection hk with hk; subst hk; exact h.ne B hty)
theorem Nt.row0 (h : Nt w F Bs L PS) (hp : ∀ t ∈ L, ∀ e ∈ t.es, e.path = []) {B0 size n : Nat} {e : TypeId} {v : Value} {xs : List Value} (own : w.ownsRow B0 e size v n xs) (hty : e ∉ ctypes) (gr : w.grownBy w' v.ownBlock) : Nt w' F Bs L PS :=
  h.gr0 hp gr (fun k hk => by
    rcases own.2 with ⟨rfl, _⟩ | ⟨g, cap, cur, rfl, _, hh, _⟩
    · cases hk
    · have hk : g = k := by simpa [Value.ownBlock] using hk
      subst hk
      exact h.ne hh hty)
end
theorem new_paths (dom : Int) (own : Pr) (most : Int) (n : Nat) : ∀ e ∈ (Tre.new dom own most n).es, e.path = [] := fun e he => by
  have := List.eq_of_mem_replicate he
  subst this
  rfl
theorem new_rows {w : World} {b : Bks} {t : Tre} {ps : List Value} (T : TAt w b t ps) (hp : ∀ e ∈ t.es, e.path = []) : ∀ (k : Nat) (A : Option Addr) (n c : Nat), ps[k]? = some (Value.slice A n c) → 0 < n → False := fun k A n c hk h0 => by
  have hl := (List.getElem?_eq_some_iff.1 hk).1
  rw [T.len] at hl
  obtain ⟨A', c', h1, _, _⟩ := T.pth k _ (List.getElem?_eq_getElem hl)
  rw [hk] at h1
  injection h1 with h1
  injection h1 with _ h1 _
  rw [hp _ (List.getElem_mem hl)] at h1
  simp at h1
  omega
theorem new_tok {P : Nat → Pr} {n : Nat} (h : Who P n) {i : Nat} (hi : i < n) : TOk (P i) 0 5 8 (Tre.new 0 (P i) 5 8) :=
  ⟨rfl, rfl, rfl, by simp [Tre.new], fun e he => by
    have := List.eq_of_mem_replicate he
    subst this
    exact EOk.new⟩
/-! ### Ahead of the wires -/
theorem styT : SliceTy Try.prog 61 26 1 8 := sliceTy_mk (z := .pointer none) Try.underlying61 (by kernel_rfl) rfl
theorem styP : SliceTy Try.prog 59 23 4 32 := sliceTy_mk (z := .agg #[.int .i64 0, .int .i64 0, .int .i64 0, .int .i64 0]) Try.underlying59 (by kernel_rfl) rfl
theorem styE : SliceTy Try.prog 62 66 4 32 := sliceTy_mk (z := .agg #[.int .i64 0, .int .i64 0, .int .i64 0, .int .i64 0]) Try.underlying62 (by kernel_rfl) rfl
theorem styL : SliceTy Try.prog 67 32 1 24 := sliceTy_mk (z := .slice none 0 0) Try.underlying67 (by kernel_rfl) rfl
structure Sa (w0 w : World) (g0 g8 n i : Nat) (v8 : Value) (R : Nat → Pr) (F : List Nat) (Bs : List Bks) (L : List Tre) (PS : List (List Value)) : Prop where
  low : Below w0.heap.size w0 w
  b0 : w0.heap.size ≤ g0
  b8 : w0.heap.size ≤ g8
  pr : PrR w g0 n (fun k => if k < i then maskP (R k) k else R k)
  box : Blk w g8 61 #[v8]
  row : w.ownsRow w0.heap.size 26 1 v8 i (ptrs Bs)
  nt : Nt w F Bs L PS
  fl : ∀ g ∈ F, w0.heap.size ≤ g
  lis : L = (List.range i).map fun k => Tre.new 0 (maskP (R k) k) 5 8
theorem Sa.paths {w0 w : World} {g0 g8 n i : Nat} {v8 : Value} {R : Nat → Pr} {F : List Nat} {Bs : List Bks} {L : List Tre} {PS : List (List Value)} (h : Sa w0 w g0 g8 n i v8 R F Bs L PS) : ∀ t ∈ L, ∀ e ∈ t.es, e.path = [] := fun t ht e he => by
  rw [h.lis] at ht
  obtain ⟨k, _, rfl⟩ := List.mem_map.1 ht
  exact new_paths _ _ _ _ e he
end Go.Proofs.Ytcdgofndfajekaa
