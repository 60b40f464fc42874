/-
  Layer 6: Decode, what it gives for whatever bytes.
-/
import Derived.Test.YtlhaloabophliaaPtpGet
import Derived.Test.YtlhaloabophliaaPtpCheck
import Derived.Deep.DeepCutAuto
import Derived.Deep.CutBlock
namespace Go.Proofs.Ytlhaloabophliaa
open Go.RowKit Go.WideShapes Go.ChangeShapes
attribute [local go_sem ↓] Go.wp_at_zero Go.wp_at_succ

/-! ### A whole struct stored into a box that is known whole -/
theorem setCells_stores (g : Nat) : ∀ (us : List Value) (i : Nat) (w : World), w.setCells g i us = stores w g i us
  | [], _, _ => rfl
  | u :: us, i, w => by rw [World.setCells, stores]; exact setCells_stores g us (i + 1) _
section
variable {P : Program}
theorem wpList_store_blk {ops : Array Oper} {rest : List Oper} {o : Oper} {a : Act} {Q : Exit → Act → World → Prop} (hgd : o.guard = none) (ty : TypeId) (x y : Operand) (ho : o.op = .store ty x y)
    {w : World} {te : TypeId} {old cs : Array Value} {g : Nat} (hx : a.eval x = .pointer (some ⟨g, 0, none⟩)) (B : Blk w g te old) (hy : a.eval y = .agg cs) (hsz : old.size = cs.size) (hi : (P.info? ty).map (·.size) = some cs.size) (h1 : cs.all (·.oneCell') = true)
    (h : ∀ w', Blk w' g te cs → w'.heap.size = w.heap.size → (∀ g' t' cs', g' ≠ g → Blk w g' t' cs' → Blk w' g' t' cs') → (∀ C, C ≤ g → Below C w w') → (∀ (base : Nat) (e : TypeId) (size n : Nat) (v : Value) (xs : List Value), v.ownBlock ≠ some g → w.ownsRow base e size v n xs → w'.ownsRow base e size v n xs) → wpList P ops Q rest (a.put o.dst undef) w') : wpList P ops Q (o :: rest) a w := by
  refine wpList_store_mid hgd ty x y ho g 0 cs hx hy (fun j hj => ?_) hi h1 ?_
  · rw [Nat.zero_add, B.cell, B.frozen]
    exact ⟨by rw [Array.getElem?_eq_getElem (by omega)]; rfl, rfl⟩
  · rw [setCells_stores]
    refine h _ ?_ (stores_size _ _ _) (fun g' t' cs' hne hb => stores_far hne _ 0 hb) (fun C hC => stores_below hC _ 0 (Below.refl _ _)) (fun _ _ _ _ _ _ hne ho => stores_own hne _ 0 ho)
    have := stores_all B cs.toList (by simpa using hsz)
    simpa using this
end

/-- A message's cells, under one name. -/
def mcells (m : Mg) (A : Option Addr) (n c : Nat) : Array Value := #[.int .i64 m.kind, .int .i64 m.domain, .int .i64 m.seq, .int .i64 m.src, .int .i64 m.port, .int .i64 m.corr, .int .i64 m.time, .int .i64 m.to, .int .i64 m.toPort, .int .i64 m.rate, .int .i64 m.one, .int .i64 m.cls, .int .i64 m.two, .int .i64 m.id, .int .i64 m.steps, .slice A n c]
theorem mcells_at {w : World} {g : Nat} {t : TypeId} {m : Mg} {A : Option Addr} {n c : Nat} (h : Blk w g t (mcells m A n c)) : w.cell? ⟨g, 0, none⟩ = some (.int .i64 m.kind) ∧ w.cell? ⟨g, 1, none⟩ = some (.int .i64 m.domain) ∧ w.cell? ⟨g, 2, none⟩ = some (.int .i64 m.seq) ∧ w.cell? ⟨g, 3, none⟩ = some (.int .i64 m.src) ∧ w.cell? ⟨g, 4, none⟩ = some (.int .i64 m.port) ∧ w.cell? ⟨g, 5, none⟩ = some (.int .i64 m.corr) ∧ w.cell? ⟨g, 6, none⟩ = some (.int .i64 m.time) ∧ w.cell? ⟨g, 7, none⟩ = some (.int .i64 m.to) ∧ w.cell? ⟨g, 8, none⟩ = some (.int .i64 m.toPort) ∧ w.cell? ⟨g, 9, none⟩ = some (.int .i64 m.rate) ∧ w.cell? ⟨g, 10, none⟩ = some (.int .i64 m.one) ∧ w.cell? ⟨g, 11, none⟩ = some (.int .i64 m.cls) ∧ w.cell? ⟨g, 12, none⟩ = some (.int .i64 m.two) ∧ w.cell? ⟨g, 13, none⟩ = some (.int .i64 m.id) ∧ w.cell? ⟨g, 14, none⟩ = some (.int .i64 m.steps) ∧ w.cell? ⟨g, 15, none⟩ = some (.slice A n c) :=
  ⟨h.cellOf 0 rfl, h.cellOf 1 rfl, h.cellOf 2 rfl, h.cellOf 3 rfl, h.cellOf 4 rfl, h.cellOf 5 rfl, h.cellOf 6 rfl, h.cellOf 7 rfl, h.cellOf 8 rfl, h.cellOf 9 rfl, h.cellOf 10 rfl, h.cellOf 11 rfl, h.cellOf 12 rfl, h.cellOf 13 rfl, h.cellOf 14 rfl, h.cellOf 15 rfl⟩
theorem GetFar.trans {w w' w'' : World} {B Bb Bs : Nat} (h : GetFar w w' B Bb Bs) (h' : GetFar w' w'' B Bb Bs) : GetFar w w'' B Bb Bs :=
  ⟨h'.1.trans h.1, h.2.1.trans h'.2.1, fun g t cs h1 h2 hb => h'.2.2 g t cs h1 h2 (h.2.2 g t cs h1 h2 hb)⟩

theorem GetSt.alloc {w : World} {B Bb Bs : Nat} {r : List Int} {s : Bool} (h : GetSt w B Bb Bs r s) (o : Obj) : GetSt (w.alloc o) B Bb Bs r s := by
  obtain ⟨⟨A, len, cap, h1, h2, h3, B1, hr⟩, B2, h4, h5, h6⟩ := h
  have := B1.lt
  exact ⟨⟨A, len, cap, h1, h2, h3, B1.alloc _, hr.alloc (by omega) _⟩, B2.alloc _, h4, h5, h6⟩
theorem GetSt.far {w : World} {B Bb Bs g : Nat} {r : List Int} {s : Bool} (h : GetSt w B Bb Bs r s) (hg : B ≤ g) (h1 : Bb ≠ g) (h2 : Bs ≠ g) (i : Nat) (u : Value) : GetSt (w.setCell ⟨g, i, none⟩ u) B Bb Bs r s := by
  obtain ⟨⟨A, len, cap, k1, k2, k3, B1, hr⟩, B2, h4, h5, h6⟩ := h
  exact ⟨⟨A, len, cap, k1, k2, k3, B1.far h1 _, hr.setCell hg _⟩, B2.far h2 _, h4, h5, h6⟩
theorem GetSt.gr {w w' : World} {B Bb Bs g : Nat} {r : List Int} {s : Bool} (h : GetSt w B Bb Bs r s) (hg : w.grownBy w' (some g)) (hB : B ≤ g) (h1 : Bb ≠ g) (h2 : Bs ≠ g) : GetSt w' B Bb Bs r s := by
  obtain ⟨⟨A, len, cap, k1, k2, k3, B1, hr⟩, B2, h4, h5, h6⟩ := h
  have hlt := B1.lt
  exact ⟨⟨A, len, cap, k1, k2, k3, B1.grown hg (by simpa using h1), hr.grown hg (by omega) (fun k hk => by injection hk with hk; omega)⟩, B2.grown hg (by simpa using h2), h4, h5, h6⟩
theorem own_far {w w' : World} {B Bb Bs : Nat} (h : GetFar w w' B Bb Bs) {base : Nat} {e : TypeId} {size n : Nat} {v : Value} {xs : List Value} (ho : w.ownsRow base e size v n xs) (h1 : Bb < base) (h2 : Bs < base) : w'.ownsRow base e size v n xs := by
  obtain ⟨k1, k2⟩ := ho
  refine ⟨k1, ?_⟩
  rcases k2 with k2 | ⟨g, cap, cur, hv, hg, hh, r⟩
  · exact .inl k2
  · exact .inr ⟨g, cap, cur, hv, hg, h.2.2 g e cur (by omega) (by omega) hh, r⟩
theorem getR_bytes {n : Nat} {rest : List Int} (h : Bytes rest) : Bytes (getR n rest) := by
  unfold getR
  split
  · exact fun x hx => h x (List.mem_of_mem_drop hx)
  · intro x hx; cases hx

theorem getV_small {n : Nat} {rest : List Int} (hn : n ≤ 6) (hb : Bytes rest) : 0 ≤ getV n rest ∧ getV n rest < 256 ^ n := by
  unfold getV
  split
  · exact num_small (by rw [List.length_take]; omega) hn (fun x hx => hb x (List.mem_of_mem_take hx))
  · exact ⟨Int.le_refl _, Int.pow_pos (by omega)⟩
theorem and15 (v : Int) (h : 0 ≤ v ∧ v < 256) : bits .and .i64 v 15 = v % 16 := by
  have key : ∀ k : Fin 256, bits .and .i64 (k.val : Int) 15 = (k.val : Int) % 16 := by decide +kernel
  have h2 := key ⟨v.toNat, by omega⟩
  simp only at h2
  rw [show ((v.toNat : Nat) : Int) = v from by omega] at h2
  exact h2

/-! ### What Decode gives, in plain Lean -/
def zeroM : Mg := ⟨0, 0, 0, 0, 0, 0, 0, 0, 0, 0, 0, 0, 0, 0, 0, []⟩
/-- The steps of a path: as many as are said, as long as there are bytes. -/
def pathG : Nat → List Int → List Int × List Int × Bool
  | 0, r => ([], r, false)
  | k + 1, r => if 6 ≤ r.length then (num 0 (r.take 6) :: (pathG k (r.drop 6)).1, (pathG k (r.drop 6)).2) else ([0], [], true)
def headR (b : List Int) : List Int := getR 8 (getR 2 (getR 6 (getR 2 (getR 1 (getR 1 b)))))
def headS (b : List Int) : Bool := getS 8 (getR 2 (getR 6 (getR 2 (getR 1 (getR 1 b))))) (getS 2 (getR 6 (getR 2 (getR 1 (getR 1 b)))) (getS 6 (getR 2 (getR 1 (getR 1 b))) (getS 2 (getR 1 (getR 1 b)) (getS 1 (getR 1 b) (getS 1 b false)))))
def headM_ (b : List Int) : Mg := ⟨getV 1 b % 16, getV 1 (getR 1 b), getV 2 (getR 1 (getR 1 b)), getV 6 (getR 2 (getR 1 (getR 1 b))), getV 2 (getR 6 (getR 2 (getR 1 (getR 1 b)))), getV 8 (getR 2 (getR 6 (getR 2 (getR 1 (getR 1 b))))), 0, 0, 0, 0, 0, 0, 0, 0, 0, []⟩
/-- What of its own a kind has: the message, what is left, were there too few; or the error. -/
def bodyG (m : Mg) (r : List Int) : Except Int (Mg × List Int × Bool) :=
  if m.kind = 0 ∨ m.kind = 2 then .ok (m, r, false)
  else if m.kind = 3 ∨ m.kind = 10 then .ok ((⟨m.kind, m.domain, m.seq, m.src, m.port, m.corr, getV 8 r, getV 6 (getR 8 r), getV 2 (getR 6 (getR 8 r)), m.rate, m.one, m.cls, m.two, m.id, m.steps, m.path⟩ : Mg), getR 2 (getR 6 (getR 8 r)), getS 2 (getR 6 (getR 8 r)) (getS 6 (getR 8 r) (getS 8 r false)))
  else if m.kind = 8 then .ok ({ m with time := getV 8 r, rate := getV 8 (getR 8 r) }, getR 8 (getR 8 r), getS 8 (getR 8 r) (getS 8 r false))
  else if m.kind = 11 then
    let r1 := getR 1 r
    let r2 := getR 1 r1
    let r3 := getR 1 r2
    let r4 := getR 6 r3
    let r5 := getR 1 r4
    let s6 := getS 1 r5 (getS 1 r4 (getS 6 r3 (getS 1 r2 (getS 1 r1 (getS 1 r false)))))
    let n := getV 1 r5
    if 32 < n then .error 4
    else
      let p := if s6 = true then ([], getR 1 r5, true) else pathG n.toNat (getR 1 r5)
      .ok ({ m with one := getV 1 r, cls := getV 1 r1, two := getV 1 r2, id := getV 6 r3, steps := getV 1 r4, path := p.1 }, p.2)
  else .error 23
noncomputable def dec (b : List Int) : Mg × Int :=
  if headS b = true then (zeroM, 20)
  else if getV 1 b / 16 ≠ 1 then (zeroM, 21)
  else match bodyG (headM_ b) (headR b) with
    | .error x => (zeroM, x)
    | .ok (m, r, s) => if s = true then (zeroM, 20) else if 0 < r.length then (zeroM, 24) else if checkV m ≠ 0 then (zeroM, 1) else (m, 0)
def DecRet (b : List Int) (w : World) (e : Ending) (w' : World) : Prop :=
  ∃ (m : Mg) (A : Option Addr) (n c : Nat) (x : Int), e = .returned (.tuple #[.agg (mcells m A n c), .int .i64 x]) ∧ m.path.length = n ∧ n ≤ 32 ∧ Reads w' w'.heap.size 1 A n (vs m.path) ∧ Below w.heap.size w w' ∧ Hid (dec b = (m, x))
theorem dec_of {b : List Int} {m : Mg} {r : List Int} {s : Bool} (h1 : headS b = false) (h2 : getV 1 b / 16 = 1) (h3 : bodyG (headM_ b) (headR b) = .ok (m, r, s)) :
    dec b = if s = true then (zeroM, 20) else if 0 < r.length then (zeroM, 24) else if checkV m ≠ 0 then (zeroM, 1) else (m, 0) := by
  unfold dec
  rw [if_neg (by rw [h1]; simp), if_neg (by rw [h2]; simp), h3]
theorem dec_zero {b : List Int} {w w' : World} {x : Int} {e : Ending} (he : e = .returned (.tuple #[.agg (mcells zeroM none 0 0), .int .i64 x])) (hb : Below w.heap.size w w') (hd : dec b = (zeroM, x)) : DecRet b w e w' :=
  ⟨zeroM, none, 0, 0, x, he, rfl, by omega, Reads.none_, hb, hd⟩

set_option maxHeartbeats 1000000 in
/-- Decode's return: its result lies in a box that is known whole. -/
theorem dec_end {a : Act} {w' : World} {g n c : Nat} {x : Int} {m : Mg} {A : Option Addr} {Q : Ending → World → Prop} (hd : a.defers = []) (h2 : a.eval (.tmp 2) = .pointer (some ⟨g, 0, none⟩)) (h3 : a.eval (.tmp 3) = .int .i64 x)
    (R : Blk w' g 28 (mcells m A n c)) (h : Q (.returned (.tuple #[.agg (mcells m A n c), .int .i64 x])) w') : bodyPost Try.prog Try.f15 Q Exit.ret a w' := by
  obtain ⟨y0, y1, y2, y3, y4, y5, y6, y7, y8, y9, y10, y11, y12, y13, y14, y15⟩ := mcells_at R
  refine bodyPost_ret (v := .tuple #[.agg (mcells m A n c), .int .i64 x]) ?_ hd h
  simp only [Act.eval, Array.getD_eq_getD_getElem?] at h2 h3
  simp [results, Try.results15, go_sem, mcells, h2, h3, y0, y1, y2, y3, y4, y5, y6, y7, y8, y9, y10, y11, y12, y13, y14, y15]
end Go.Proofs.Ytlhaloabophliaa
