/-
  Layer 20: a tree as plain data, and how it lies in memory; a frame over some blocks.
-/
import Derived.Test.YtcdgofndfajekaaBestChoose0
import Derived.Test.YtcdgofndfajekaaMsgM
import Derived.Test.YtcdgofndfajekaaKitD
import Derived.Test.YtcdgofndfajekaaFr
namespace Go.Proofs.Ytcdgofndfajekaa
set_option linter.unusedSimpArgs false
set_option linter.unusedVariables false
open Go.RowKit

/-! ### A list of ints that lies somewhere -/
def Path (w : World) (S : List Nat) (A : Option Addr) (xs : List Int) : Prop :=
  0 < xs.length → ∃ ad, A = some ad ∧ ad.block < w.heap.size ∧ ad.block ∉ S ∧ ∀ j x, xs[j]? = some x → w.cell? (ad.add j) = some (.int .i64 x)
theorem Path.fr {S S' : List Nat} {w w' : World} {A : Option Addr} {xs : List Int} (h : Path w S A xs) (hf : Fr S' w w') (hs : ∀ k, k ∈ S' → k ∈ S) : Path w' S A xs := fun h0 => by
  obtain ⟨ad, e, hl, hn, hc⟩ := h h0
  exact ⟨ad, e, Nat.lt_of_lt_of_le hl hf.size, hn, fun j x hx => by rw [hf.cell (by rw [block_of_add]; exact hl) (by rw [block_of_add]; exact fun a => hn (hs _ a))]; exact hc j x hx⟩
theorem Path.nil (w : World) (S : List Nat) (A : Option Addr) : Path w S A [] := fun h => absurd h (by simp)
theorem Path.reads {S : List Nat} {w : World} {A : Option Addr} {xs : List Int} (h : Path w S A xs) : Reads w w.heap.size 1 A xs.length (vs xs) := by
  refine ⟨by rw [vs_length]; omega, fun h0 => ?_⟩
  obtain ⟨ad, e, hl, _, hc⟩ := h h0
  refine ⟨ad, e, hl, fun j u hu => ?_⟩
  unfold vs at hu
  rw [List.getElem?_map] at hu
  cases hx : xs[j]? with
  | none => rw [hx] at hu; cases hu
  | some x => rw [hx] at hu; injection hu with hu; subst hu; exact hc j x hx
theorem Path.of_reads {S : List Nat} {w : World} {B n : Nat} {A : Option Addr} {xs : List Int} (h : Reads w B 1 A n (vs xs)) (hB : B ≤ w.heap.size) (hn : ∀ ad, A = some ad → ad.block ∉ S) : Path w S A xs := fun h0 => by
  have hl := h.1
  rw [vs_length] at hl
  obtain ⟨ad, e, hb, hc⟩ := h.2 (by omega)
  exact ⟨ad, e, by omega, hn ad e, fun j x hx => hc j _ (by unfold vs; rw [List.getElem?_map, hx]; rfl)⟩
theorem Path.less {S S' : List Nat} {w : World} {A : Option Addr} {xs : List Int} (h : Path w S A xs) (hs : ∀ k, k ∈ S' → k ∈ S) : Path w S' A xs := fun h0 => by
  obtain ⟨ad, e, hl, hn, hc⟩ := h h0
  exact ⟨ad, e, hl, fun a => hn (hs _ a), hc⟩
/-! ### A tree, plain -/
def Vc.zero : Vc := ⟨⟨0, 0, 0, 0⟩, 0, 0, 0, 0⟩
structure En where
  up : Bool
  ok : Bool
  vec : Vc
  path : List Int
  at_ : Int
def En.hd0 (e : En) : Hd := ⟨false, e.ok, e.vec⟩
def En.new : En := ⟨false, false, Vc.zero, [], 0⟩
structure Tre where
  dom : Int
  own : Pr
  most : Int
  es : List En
def En.live (e : En) (most now : Int) : Bool := e.ok && (decide (e.at_ ≤ now) && decide (now - e.at_ ≤ most))
def Tre.hs (t : Tre) (now : Int) : List Hd := t.es.map fun e => ⟨e.up, e.live t.most now, e.vec⟩
def Tre.top (t : Tre) (now : Int) : Vc := topOf t.own (t.hs now)
def Tre.up (t : Tre) (k : Nat) (x : Bool) : Tre :=
  match t.es[k]? with
  | none => t
  | some e => if e.up = x then t else { t with es := t.es.set k ⟨x, false, Vc.zero, [], e.at_⟩ }
def Tre.put (t : Tre) (k : Nat) (m : Mg) (now : Int) : Tre :=
  match t.es[k]? with
  | none => t
  | some e => { t with es := t.es.set k ⟨e.up, true, ⟨⟨m.one, m.cls, m.two, m.id⟩, m.steps, m.src, m.port, 0⟩, m.path, now⟩ }
/-! ### A tree in memory -/
structure Bks where
  g : Nat
  gu : Nat
  gh : Nat
  gp : Nat
  gw : Nat
def Bks.all (b : Bks) : List Nat := [b.g, b.gu, b.gh, b.gp, b.gw]
def Bks.turn (b : Bks) : List Nat := [b.gu, b.gh, b.gp, b.gw]
def tcs (b : Bks) (t : Tre) : Array Value :=
  #[.int .i64 t.dom, .int .i64 t.own.one, .int .i64 t.own.cls, .int .i64 t.own.two, .int .i64 t.own.id, .int .i64 t.most, .slice (some ⟨b.gu, 0, none⟩) t.es.length t.es.length, .slice (some ⟨b.gh, 0, none⟩) t.es.length t.es.length, .slice (some ⟨b.gp, 0, none⟩) t.es.length t.es.length, .slice (some ⟨b.gw, 0, none⟩) t.es.length t.es.length]
def ucs (es : List En) : Array Value := (es.map fun e => Value.bool e.up).toArray
def wcs (es : List En) : Array Value := (es.map fun e => Value.int .i64 e.at_).toArray
def hcs (es : List En) : Array Value := (hcells (es.map En.hd0)).toArray
structure TAt (w : World) (b : Bks) (t : Tre) (ps : List Value) : Prop where
  box : Blk w b.g 75 (tcs b t)
  ups : Blk w b.gu 4 (ucs t.es)
  hds : Blk w b.gh 80 (hcs t.es)
  pat : Blk w b.gp 32 ps.toArray
  whn : Blk w b.gw 3 (wcs t.es)
  len : ps.length = t.es.length
  pth : ∀ (k : Nat) (e : En), t.es[k]? = some e → ∃ (A : Option Addr) (c : Nat), ps[k]? = some (Value.slice A e.path.length c) ∧ e.path.length ≤ c ∧ Path w b.all A e.path
  dist : b.all.Nodup
  few : t.es.length ≤ 8
section
variable {w w' : World} {b : Bks} {t : Tre} {ps : List Value}
theorem TAt.kept (h : TAt w b t ps) (hb : Below w.heap.size w w') : TAt w' b t ps :=
  ⟨h.box.kept hb, h.ups.kept hb, h.hds.kept hb, h.pat.kept hb, h.whn.kept hb, h.len, fun k e he => by
    obtain ⟨A, c, h1, h2, h3⟩ := h.pth k e he
    exact ⟨A, c, h1, h2, h3.fr (S' := []) (Fr.be hb) (by simp)⟩, h.dist, h.few⟩
/-- Other blocks turn. -/
theorem TAt.far (h : TAt w b t ps) {S : List Nat} (hf : Fr S w w') (hs : ∀ k ∈ S, k ∉ b.all) (hp : ∀ (k : Nat) (e : En) (A : Option Addr) (c : Nat), t.es[k]? = some e → ps[k]? = some (Value.slice A e.path.length c) → Path w S A e.path) : TAt w' b t ps := by
  have hn : ∀ k, k ∈ b.all → k ∉ S := fun k a c => hs k c a
  refine ⟨hf.blk h.box (hn _ (by simp [Bks.all])), hf.blk h.ups (hn _ (by simp [Bks.all])), hf.blk h.hds (hn _ (by simp [Bks.all])), hf.blk h.pat (hn _ (by simp [Bks.all])), hf.blk h.whn (hn _ (by simp [Bks.all])), h.len, fun k e he => ?_, h.dist, h.few⟩
  obtain ⟨A, c, h1, h2, h3⟩ := h.pth k e he
  refine ⟨A, c, h1, h2, fun h0 => ?_⟩
  obtain ⟨ad, e1, hl, hn1, hc⟩ := h3 h0
  obtain ⟨ad', e2, _, hn2, _⟩ := hp k e A c he h1 h0
  rw [e1] at e2
  injection e2 with e2
  subst e2
  exact ⟨ad, e1, Nat.lt_of_lt_of_le hl hf.size, hn1, fun j x hx => by rw [hf.cell (by rw [block_of_add]; exact hl) (by rw [block_of_add]; exact hn2)]; exact hc j x hx⟩
end
/-! ### Lists of cells, turned at one place -/
theorem ucs_at {es : List En} {k : Nat} {e : En} (h : es[k]? = some e) : (ucs es)[k]? = some (.bool e.up) := by simp [ucs, h]
theorem wcs_at {es : List En} {k : Nat} {e : En} (h : es[k]? = some e) : (wcs es)[k]? = some (.int .i64 e.at_) := by simp [wcs, h]
theorem ucs_set (es : List En) (k : Nat) (e : En) : (ucs es).setIfInBounds k (.bool e.up) = ucs (es.set k e) := by simp [ucs, List.map_set]
theorem wcs_set (es : List En) (k : Nat) (e : En) : (wcs es).setIfInBounds k (.int .i64 e.at_) = wcs (es.set k e) := by simp [wcs, List.map_set]
theorem putAll_list : ∀ (vs : List Value) (pre old post : List Value), old.length = vs.length → putAll (pre ++ old ++ post).toArray pre.length vs = (pre ++ vs ++ post).toArray
  | [], pre, old, post, h => by
    have : old = [] := List.eq_nil_of_length_eq_zero (by simpa using h)
    subst this
    rfl
  | v :: vs, pre, [], post, h => by simp at h
  | v :: vs, pre, u :: old, post, h => by
    rw [putAll]
    have e : (pre ++ u :: old ++ post).toArray.setIfInBounds pre.length v = ((pre ++ [v]) ++ old ++ post).toArray := by simp
    rw [e]
    have := putAll_list vs (pre ++ [v]) old post (by simpa using h)
    simp only [List.length_append, List.length_singleton] at this
    rw [this]
    simp
theorem hcells_append (a b : List Hd) : hcells (a ++ b) = hcells a ++ hcells b := by simp [hcells]
theorem hcells_len : ∀ hs : List Hd, (hcells hs).length = hs.length * 10
  | [] => rfl
  | h :: hs => by show (h.cells ++ hcells hs).length = _; rw [List.length_append, Hd.len, hcells_len hs]; simp; omega
theorem hcs_set (es : List En) (k : Nat) (e : En) (hk : k < es.length) : putAll (hcs es) (k * 10) e.hd0.cells = hcs (es.set k e) := by
  obtain ⟨e0, he0⟩ : ∃ e0, es[k]? = some e0 := ⟨_, List.getElem?_eq_getElem hk⟩
  have h1 : es = es.take k ++ e0 :: es.drop (k + 1) := by
    have := List.getElem?_eq_some_iff.1 he0
    rw [← this.2, List.getElem_cons_drop, List.take_append_drop]
  have h2 : es.set k e = es.take k ++ e :: es.drop (k + 1) := by
    rw [List.set_eq_take_append_cons_drop, if_pos hk]
  have hl : (hcells ((es.take k).map En.hd0)).length = k * 10 := by rw [hcells_len, List.length_map, List.length_take, Nat.min_eq_left (Nat.le_of_lt hk)]
  unfold hcs
  rw [h2]
  have e1 : hcells (es.map En.hd0) = hcells ((es.take k).map En.hd0) ++ e0.hd0.cells ++ hcells ((es.drop (k + 1)).map En.hd0) := by
    conv => lhs; rw [h1]
    rw [List.map_append, hcells_append, List.map_cons, List.append_assoc]
    rfl
  have e2 : hcells ((es.take k ++ e :: es.drop (k + 1)).map En.hd0) = hcells ((es.take k).map En.hd0) ++ e.hd0.cells ++ hcells ((es.drop (k + 1)).map En.hd0) := by
    rw [List.map_append, hcells_append, List.map_cons, List.append_assoc]
    rfl
  rw [e1, e2, ← hl]
  exact putAll_list e.hd0.cells _ _ _ (by rw [Hd.len, Hd.len])
end Go.Proofs.Ytcdgofndfajekaa
