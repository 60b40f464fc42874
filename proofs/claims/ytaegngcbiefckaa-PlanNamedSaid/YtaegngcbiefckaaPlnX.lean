/-
  Plans: with flows that are alike but for the time at which they set out, and how long they may.
-/
import Derived.Test.YtaegngcbiefckaaPlnM
import Derived.Test.YtaegngcbiefckaaKitB
import Derived.Test.YtaegngcbiefckaaPlnOpen
namespace Go.Proofs.Ytaegngcbiefckaa
set_option linter.unusedSimpArgs false
set_option linter.unusedVariables false

def Likes : List Fw → List Fw → Prop
  | [], [] => True
  | f :: fs, g :: gs => Like f g ∧ Likes fs gs
  | _, _ => False
theorem Likes.length : ∀ {fs gs : List Fw}, Likes fs gs → gs.length = fs.length
  | [], [], _ => rfl
  | [], _ :: _, h => h.elim
  | _ :: _, [], h => h.elim
  | f :: fs, g :: gs, h => by simp [Likes.length h.2]
theorem flowGo_good {C : Cf} {off : Int} {S : List Sp} {f : Fw} {r : List Sp × (Int × Int)} (h : flowGo C off S f = .ok r) : ¬ badFlow C f := by
  intro hb
  unfold flowGo at h
  rw [if_pos hb] at h
  cases h
theorem FlowsOk.good {C : Cf} {off : Int} : ∀ {fs : List Fw} {rs : List (List Sp × (Int × Int))}, FlowsOk C off fs rs → ∀ f ∈ fs, ¬ badFlow C f
  | [], _, _, _, hf => by cases hf
  | _ :: _, [], h, _, _ => h.elim
  | g :: fs, r :: rs, h, f, hf => by
    rcases List.mem_cons.1 hf with rfl | hf
    · exact flowGo_good h.1
    · exact FlowsOk.good h.2 f hf
theorem flowsGo_like (C : Cf) (off : Int) : ∀ (fs gs : List Fw) (rs : List (List Sp × (Int × Int))), Likes fs gs → FlowsOk C off fs rs →
    (∃ rs', FlowsOk C off gs rs' ∧ rs'.map (·.2) = rs.map (·.2)) ∨ (∀ S W, flowsGo C off S W gs = .error 61) ∨ ((∃ (k : Nat) (g : Fw), gs[k]? = some g ∧ badFlow C g) ∧ ∀ S W, flowsGo C off S W gs = .error 1)
  | [], [], [], _, _ => .inl ⟨[], trivial, rfl⟩
  | [], [], _ :: _, _, h => h.elim
  | [], _ :: _, _, h, _ => h.elim
  | _ :: _, [], _, h, _ => h.elim
  | _ :: _, _ :: _, [], _, h => h.elim
  | f :: fs, g :: gs, (T, w) :: rs, hl, ho => by
    rcases flowGo_like hl.1 ho.1 with ⟨T', h⟩ | h | ⟨h, hb⟩
    · rcases flowsGo_like C off fs gs rs hl.2 ho.2 with ⟨rs', h1, h2⟩ | h1 | ⟨⟨k, g', hk, hb⟩, h1⟩
      · exact .inl ⟨(T', w) :: rs', ⟨h, h1⟩, by simp [h2]⟩
      · refine .inr (.inl fun S W => ?_)
        rw [flowsGo, flowGo_acc, h]
        exact h1 _ _
      · refine .inr (.inr ⟨⟨k + 1, g', by simpa using hk, hb⟩, fun S W => ?_⟩)
        rw [flowsGo, flowGo_acc, h]
        exact h1 _ _
    · refine .inr (.inl fun S W => ?_)
      rw [flowsGo, flowGo_acc, h]
    · refine .inr (.inr ⟨⟨0, g, rfl, hb⟩, fun S W => ?_⟩)
      rw [flowsGo, flowGo_acc, h]
/-- PlanWider, PlanLater. -/
theorem make_like {C : Cf} {S : List Sp} {W : List (Int × Int)} {F : List Fw} (h : makeV C = .ok (S, W)) (hl : Likes C.flows F) :
    (∃ S', makeV { C with flows := F } = .ok (S', W)) ∨ makeV { C with flows := F } = .error 61 ∨ (makeV { C with flows := F } = .error 1 ∧ ∃ (k : Nat) (g : Fw), F[k]? = some g ∧ badFlow C g) := by
  obtain ⟨h0, hp, rs, h1, rfl, rfl⟩ := makeV_ok.1 h
  have h16 : F.length ≤ 16 := by
    have := (checkV_zero.1 h0).1
    unfold Many at this
    have := hl.length
    omega
  have h0' := checkV_flows (F := F) h0 h16
  have hmk : makeV { C with flows := F } = match flowsGo C (offV C) [] [] F with | .error e => .error e | .ok (S, W) => if portsOk C S then .ok (S, W) else .error 61 := by
    unfold makeV
    rw [if_neg (by rw [h0']; exact fun h => h rfl)]
    simp only [flowsGo_flows]
    rfl
  rw [hmk]
  rcases flowsGo_like C (offV C) C.flows F rs hl h1 with ⟨rs', h2, h3⟩ | h2 | ⟨hb, h2⟩
  · have := (flowsGo_ok C (offV C) F [] [] _ _).2 ⟨rs', h2, rfl, rfl⟩
    rw [this]
    simp only [List.nil_append]
    by_cases hp' : portsOk C (rs'.flatMap (·.1)) = true
    · rw [if_pos hp', h3]
      exact .inl ⟨_, rfl⟩
    · rw [if_neg hp']
      exact .inr (.inl rfl)
  · rw [h2]; exact .inr (.inl rfl)
  · rw [h2]; exact .inr (.inr ⟨rfl, hb⟩)
theorem Likes.refl : ∀ (fs : List Fw), Likes fs fs
  | [] => trivial
  | f :: fs => ⟨⟨rfl, rfl, rfl, rfl, rfl, rfl⟩, Likes.refl fs⟩
theorem Likes.set : ∀ (fs : List Fw) (i : Nat) (f : Fw) (m : Int), fs[i]? = some f → Likes fs (fs.set i { f with len := f.len + m })
  | [], _, _, _, h => by simp at h
  | g :: fs, 0, f, m, h => by
    simp at h
    subst h
    exact ⟨⟨rfl, rfl, rfl, rfl, rfl, rfl⟩, Likes.refl fs⟩
  | g :: fs, i + 1, f, m, h => ⟨⟨rfl, rfl, rfl, rfl, rfl, rfl⟩, Likes.set fs i f m (by simpa using h)⟩
theorem Likes.later (by_ : Int) : ∀ (fs : List Fw), Likes fs (fs.map fun f => { f with start := f.start + by_ })
  | [] => trivial
  | f :: fs => ⟨⟨rfl, rfl, rfl, rfl, rfl, rfl⟩, Likes.later by_ fs⟩
theorem offV_every {C : Cf} {ev : Int} (h : OffOk C) (h1 : C.every ≤ ev) : offV C ≤ offV { C with every := ev } := by
  obtain ⟨hn1, hn2, hl1, hl, he1, he2, hp1, hp2, hg1, hg2⟩ := h
  unfold offV
  simp only
  have a1 : 8 * C.ppm * C.every ≤ 8 * C.ppm * ev := Int.mul_le_mul_of_nonneg_left h1 (by omega)
  have a0 : 0 ≤ 8 * C.ppm * C.every := Int.mul_nonneg (by omega) (by omega)
  have m0 : 0 ≤ 8 * C.ppm * ((C.nodes.length : Int) + 8) := Int.mul_nonneg (by omega) (by omega)
  have b1 : 8 * C.ppm * ((C.nodes.length : Int) + 8) * C.every ≤ 8 * C.ppm * ((C.nodes.length : Int) + 8) * ev := Int.mul_le_mul_of_nonneg_left h1 m0
  have b0 : 0 ≤ 8 * C.ppm * ((C.nodes.length : Int) + 8) * C.every := Int.mul_nonneg m0 (by omega)
  rw [Int.tdiv_eq_ediv_of_nonneg a0, Int.tdiv_eq_ediv_of_nonneg b0, Int.tdiv_eq_ediv_of_nonneg (Int.le_trans a0 a1), Int.tdiv_eq_ediv_of_nonneg (Int.le_trans b0 b1)]
  have c1 : 8 * C.ppm * C.every / 1000000 ≤ 8 * C.ppm * ev / 1000000 := Int.ediv_le_ediv (by omega) a1
  have c2 : 8 * C.ppm * ((C.nodes.length : Int) + 8) * C.every / 1000000 ≤ 8 * C.ppm * ((C.nodes.length : Int) + 8) * ev / 1000000 := Int.ediv_le_ediv (by omega) b1
  have c3 := Int.mul_le_mul_of_nonneg_left (show (C.links.foldl (fun s l => max s (l.hi - l.lo)) 0) + 8 * C.grain + 8 * C.ppm * C.every / 1000000 ≤ (C.links.foldl (fun s l => max s (l.hi - l.lo)) 0) + 8 * C.grain + 8 * C.ppm * ev / 1000000 by omega) (show 0 ≤ (C.nodes.length : Int) - 1 by omega)
  omega
end Go.Proofs.Ytaegngcbiefckaa

namespace Go.Proofs.Ytaegngcbiefckaa
set_option linter.unusedSimpArgs false
set_option linter.unusedVariables false
open Go.RowKit Go.WideShapes Go.ChangeShapes

theorem ofInt_u64 (a : Nat) (ha : a < 18446744073709551616) : (BitVec.ofInt 64 (a : Int)).toNat = a := by
  rw [BitVec.toNat_ofInt]
  have : ((a : Int) % 18446744073709551616).toNat = a := by omega
  simpa using this
theorem andI (x : Int) (k : Nat) (hk : k ≤ 62) (m : Int) (hm : m = ((2 ^ k - 1 : Nat) : Int)) : bits .and .i64 x m = x % ((2 ^ k : Nat) : Int) := by
  subst hm
  have hp : 2 ^ k ≤ 2 ^ 62 := Nat.pow_le_pow_right (by omega) hk
  have hp0 : 0 < 2 ^ k := Nat.pow_pos (by omega)
  have h : bits .and .i64 x ((2 ^ k - 1 : Nat) : Int) = IntKind.i64.wrap ((BitVec.ofInt 64 x &&& BitVec.ofInt 64 ((2 ^ k - 1 : Nat) : Int)).toNat : Int) := rfl
  have e1 : (BitVec.ofInt 64 ((2 ^ k - 1 : Nat) : Int)).toNat = 2 ^ k - 1 := ofInt_u64 _ (by omega)
  have e2 : (BitVec.ofInt 64 x).toNat = (x % 18446744073709551616).toNat := by rw [BitVec.toNat_ofInt]; simp
  have e3 : ((x % 18446744073709551616).toNat % 2 ^ k : Nat) = (x % ((2 ^ k : Nat) : Int)).toNat := by
    have hd : ((2 ^ k : Nat) : Int) ∣ 18446744073709551616 := by
      have : (2 ^ k : Nat) ∣ 18446744073709551616 := by
        rw [show (18446744073709551616 : Nat) = 2 ^ 64 from by decide]
        exact Nat.pow_dvd_pow 2 (by omega)
      exact Int.natCast_dvd_natCast.2 this
    have h1 : x % 18446744073709551616 % ((2 ^ k : Nat) : Int) = x % ((2 ^ k : Nat) : Int) := Int.emod_emod_of_dvd x hd
    have h2 : ((x % 18446744073709551616).toNat : Int) = x % 18446744073709551616 := Int.toNat_of_nonneg (by omega)
    have h3 : x % 18446744073709551616 % ((2 ^ k : Nat) : Int) = (((x % 18446744073709551616).toNat % 2 ^ k : Nat) : Int) := by rw [Int.natCast_emod, h2]
    rw [← h1, h3, Int.toNat_natCast]
  rw [h, BitVec.toNat_and, e1, e2, Nat.and_two_pow_sub_one_eq_mod, e3]
  have hnn : 0 ≤ x % ((2 ^ k : Nat) : Int) := Int.emod_nonneg _ (by omega)
  have hlt : x % ((2 ^ k : Nat) : Int) < ((2 ^ k : Nat) : Int) := Int.emod_lt_of_pos _ (by omega)
  rw [Int.toNat_of_nonneg hnn]
  have : IntKind.i64.wrap (x % ((2 ^ k : Nat) : Int)) = x % ((2 ^ k : Nat) : Int) := IntWalk.i64_in _ (by constructor <;> omega)
  exact this

/-- What the three numbers come to. -/
theorem and_mask (a : Int) (k : Nat) (m : Int) (hm : m = ((2 ^ k - 1 : Nat) : Int)) (hk : k ≤ 62) : ∃ x, bits .and .i64 a m = x ∧ 0 ≤ x ∧ x ≤ m := by
  refine ⟨_, rfl, ?_⟩
  rw [andI a k hk m hm]
  have hp : 0 < 2 ^ k := Nat.pow_pos (by omega)
  have h1 := Int.emod_nonneg a (show ((2 ^ k : Nat) : Int) ≠ 0 by omega)
  have h2 := Int.emod_lt_of_pos a (show (0 : Int) < ((2 ^ k : Nat) : Int) by omega)
  omega
end Go.Proofs.Ytaegngcbiefckaa

namespace Go.Proofs.Ytaegngcbiefckaa
set_option linter.unusedSimpArgs false
set_option linter.unusedVariables false
open Go.RowKit Go.WideShapes Go.ChangeShapes

abbrev Fx := Fw × (Sl × Sl)
def fxc (x : Fx) : List Value := fwc x.1 x.2
theorem fxc_len (x : Fx) : (fxc x).length = 8 := rfl
def WayR (w : World) (B : Nat) (x : Fx) : Prop := Reads w B 1 x.2.1.A x.1.w0.length (x.1.w0.map (Value.int .i64)) ∧ Reads w B 1 x.2.2.A x.1.w1.length (x.1.w1.map (Value.int .i64))
theorem WayR.below {w w' : World} {B : Nat} {x : Fx} (h : WayR w B x) (hb : Below B w w') : WayR w' B x := ⟨h.1.below hb, h.2.below hb⟩
theorem WayR.more {w : World} {B B' : Nat} {x : Fx} (h : WayR w B x) (hB : B ≤ B') : WayR w B' x := ⟨h.1.more hB, h.2.more hB⟩
section
variable {w : World} {B : Nat} {C : Cf} {Y : Lay}
theorem CfAt.way (h : CfAt w B C Y) : ∀ x ∈ C.flows.zip Y.ws, WayR w B x := by
  intro x hx
  obtain ⟨k, hk⟩ := List.mem_iff_getElem?.1 hx
  obtain ⟨hf, hs⟩ := List.getElem?_zip_eq_some.1 hk
  exact h.ways k x.1 x.2 hf hs
theorem CfAt.fst (h : CfAt w B C Y) : (C.flows.zip Y.ws).map (·.1) = C.flows := List.map_fst_zip (Nat.le_of_eq h.wslen.symm)
theorem CfAt.zlen (h : CfAt w B C Y) : (C.flows.zip Y.ws).length = C.flows.length := by rw [List.length_zip, h.wslen, Nat.min_self]
/-- Other flows. -/
theorem CfAt.swap (h : CfAt w B C Y) {L : List Fx} {A : Option Addr} (c : Nat) (hF : Reads w B 8 A L.length (L.flatMap fxc)) (hw : ∀ x ∈ L, WayR w B x) : CfAt w B { C with flows := L.map (·.1) } { Y with F := ⟨A, c⟩, ws := L.map (·.2) } := by
  refine ⟨h.nodes, h.links, by simp, ?_, fun i f s hf hs => ?_⟩
  · show Reads w B 8 A (L.map (·.1)).length (((L.map (·.1)).zip (L.map (·.2))).flatMap fun x => fwc x.1 x.2)
    rw [zip_back, List.length_map]
    exact hF
  · have hf' : (L.map (·.1))[i]? = some f := hf
    have hs' : (L.map (·.2))[i]? = some s := hs
    rw [List.getElem?_map] at hf' hs'
    cases hx : L[i]? with
    | none => rw [hx] at hf'; cases hf'
    | some x =>
      rw [hx] at hf' hs'
      cases hf'
      cases hs'
      exact hw x (List.mem_of_getElem? hx)
end
theorem flat_take {α : Type} {f : α → List Value} {size : Nat} (hf : ∀ a, (f a).length = size) : ∀ (l : List α) (i : Nat), (l.flatMap f).take (i * size) = (l.take i).flatMap f
  | [], i => by simp
  | a :: l, 0 => by simp
  | a :: l, i + 1 => by
    rw [List.flatMap_cons, List.take_succ_cons, List.flatMap_cons, Nat.succ_mul, List.take_append, hf, List.take_of_length_le (by rw [hf]; omega), Nat.add_sub_cancel, flat_take hf l i]
theorem flat_drop {α : Type} {f : α → List Value} {size : Nat} (hf : ∀ a, (f a).length = size) : ∀ (l : List α) (i : Nat), (l.flatMap f).drop (i * size) = (l.drop i).flatMap f
  | [], i => by simp
  | a :: l, 0 => by simp
  | a :: l, i + 1 => by
    rw [List.flatMap_cons, List.drop_succ_cons, Nat.succ_mul, List.drop_append, hf, List.drop_of_length_le (by rw [hf]; omega), Nat.add_sub_cancel, flat_drop hf l i, List.nil_append]
section
variable {α : Type} {f : α → List Value} {w : World} {B size n i : Nat} {ad : Addr} {l : List α}
theorem reads_take (hf : ∀ a, (f a).length = size) (h : Reads w B size (some ad) n (l.flatMap f)) (hi : i ≤ n) (hl : l.length = n) : Reads w B size (some ad) i ((l.take i).flatMap f) := by
  refine ⟨by rw [flatMap_length hf, List.length_take]; congr 1; omega, fun hp => ?_⟩
  obtain ⟨a, e, hb, hc⟩ := h.2 (by omega)
  refine ⟨a, e, hb, fun j u hu => hc j u ?_⟩
  rw [← flat_take hf, List.getElem?_take] at hu
  split at hu
  · exact hu
  · cases hu
theorem reads_drop (hf : ∀ a, (f a).length = size) (h : Reads w B size (some ad) n (l.flatMap f)) (hi : i ≤ n) (hl : l.length = n) {A : Option Addr} (hA : i < n → A = some (ad.add (i * size))) : Reads w B size A (n - i) ((l.drop i).flatMap f) := by
  refine ⟨by rw [flatMap_length hf, List.length_drop, hl], fun hp => ?_⟩
  obtain ⟨a, e, hb, hc⟩ := h.2 (by omega)
  cases e
  refine ⟨_, hA (by omega), by rw [add_blk]; exact hb, fun j u hu => ?_⟩
  rw [← flat_drop hf, List.getElem?_drop] at hu
  rw [add_of_add]
  exact hc _ u hu
/-- One cell of an owned row turns. -/
theorem row_cell {e : TypeId} {v : Value} {x : α} {k j : Nat} (hf : ∀ a, (f a).length = size) (h : w.ownsRow B e size v n (l.flatMap f)) (hx : l[k]? = some x) (hj : j < size) :
    ∃ g cap cur, v = .slice (some ⟨g, 0, none⟩) n cap ∧ B ≤ g ∧ n ≤ cap ∧ Blk w g e cur ∧ cur[k * size + j]? = (f x)[j]? := by
  have hlen := h.1
  rw [flatMap_length hf] at hlen
  have hkl := (List.getElem?_eq_some_iff.1 hx).1
  rcases h.2 with ⟨_, hn⟩ | ⟨g, cap, cur, hv, hg, hh, hnc, _, hsz, htk⟩
  · subst hn
    have : l.length * size = 0 := by omega
    rcases Nat.mul_eq_zero.1 this with h0 | h0 <;> omega
  · refine ⟨g, cap, cur, hv, hg, hnc, hh, ?_⟩
    have h1 := flatMap_get hf hx j hj
    have hlt : k * size + j < n * size := by
      rw [← hlen]
      have : (k + 1) * size ≤ l.length * size := Nat.mul_le_mul_right _ hkl
      rw [Nat.succ_mul] at this
      omega
    rw [← htk, List.getElem?_take, if_pos hlt] at h1
    simpa using h1
theorem flat_set {x x' : α} (hf : ∀ a, (f a).length = size) (j : Nat) (u : Value) (hj : j < size) (hu : f x' = (f x).set j u) : ∀ (l : List α) (k : Nat), l[k]? = some x → (l.flatMap f).set (k * size + j) u = (l.set k x').flatMap f
  | [], k, h => by simp at h
  | a :: l, 0, h => by
    simp only [List.getElem?_cons_zero, Option.some.injEq] at h
    subst h
    rw [List.set_cons_zero, List.flatMap_cons, List.flatMap_cons, hu, List.set_append, if_pos (by rw [hf]; omega)]
    congr 2
    omega
  | a :: l, k + 1, h => by
    simp only [List.getElem?_cons_succ] at h
    rw [List.set_cons_succ, List.flatMap_cons, List.flatMap_cons, ← flat_set hf j u hj hu l k h, List.set_append, if_neg (by rw [hf, Nat.succ_mul]; omega)]
    congr 2
    rw [hf, Nat.succ_mul]; omega
theorem row_put {e : TypeId} {g cap k j : Nat} {x x' : α} {u : Value} (hf : ∀ a, (f a).length = size) (h : w.ownsRow B e size (.slice (some ⟨g, 0, none⟩) n cap) n (l.flatMap f)) (hx : l[k]? = some x) (hj : j < size) (hu : f x' = (f x).set j u) :
    (w.setCell ⟨g, k * size + j, none⟩ u).ownsRow B e size (.slice (some ⟨g, 0, none⟩) n cap) n ((l.set k x').flatMap f) ∧ w.grownBy (w.setCell ⟨g, k * size + j, none⟩ u) (some g) := by
  refine ⟨⟨by rw [flatMap_length hf, List.length_set, ← flatMap_length hf]; exact h.1, ?_⟩, gr_set (grownBy_refl w _) _ _⟩
  rcases h.2 with ⟨h0, _⟩ | ⟨q, cap', cur, hv, hg, hh, hnc, hm, hsz, htk⟩
  · cases h0
  · injection hv with hv1 hv2 hv3
    injection hv1 with hv1
    injection hv1 with hv1
    subst hv1
    subst hv3
    refine .inr ⟨g, cap, cur.setIfInBounds (k * size + j) u, rfl, hg, (show Blk w g e cur from hh).set_ _ _, hnc, hm, by simpa using hsz, ?_⟩
    rw [Array.toList_setIfInBounds, List.take_set, htk]
    exact flat_set hf j u hj hu l k hx
end
section
variable {P : Program} {lo : List Oper} {S : World → Prop} {Q : Exit → Act → World → Prop}
theorem tr_pushR {i : Nat} {l : Tr} {a : Act} {o : Oper} (ho0 : lo[i]? = some o) (hgd : o.guard = none) (s x : Operand) (t : TypeId)
    (ho : o.op = .call { callee := .builtin .append, args := #[s, x], argTypes := #[t, t] })
    {e : TypeId} {size bytes : Nat} (hty : SliceTy P t e size bytes) {w : World} {A : Option Addr} {q c B : Nat} {news : List Value} (hx : a.eval x = .slice A q c) (hr : Reads w B size A q news) (h1 : ∀ u ∈ news, u.oneCell' = true)
    {base : Nat} {v : Value} {n : Nat} {xs : List Value} (hs : a.eval s = v) (hown : w.ownsRow base e size v n xs)
    (hbytes : (n + q) * bytes ≤ 140737488355328) (hbase : base ≤ w.heap.size)
    (h : ∀ v' w', w'.ownsRow base e size v' (n + q) (xs ++ news) → w.grownBy w' v.ownBlock → S w' ∧ wpTr P lo.toArray S Q l (a.put o.dst v') w') : wpTr P lo.toArray S Q (.one i l) a w := by
  obtain ⟨ht, j, z, hi, hz, hsz, hby, hzs, hp, hq⟩ := hty
  have hbn : n + q ≤ 140737488355328 := Nat.le_trans (Nat.le_mul_of_pos_right _ hq) hbytes
  refine tr_wp ho0 (by simp [Region.wanted, hgd]) ?_
  rcases Nat.eq_zero_or_pos q with h0 | h0
  · subst h0
    have hn : news = [] := List.eq_nil_of_length_eq_zero (by rw [hr.1, Nat.zero_mul])
    subst hn
    have hrun : ∀ ty, (Builtin.append_ #[t, t] ty #[v, .slice A 0 c]).run P w = .ok v w := fun ty => by
      rcases hown.2 with ⟨rfl, rfl⟩ | ⟨g, cap, cur, rfl, _, _, hle, _⟩
      · exact run_append_none w t ty e j ht hi none 0 0 (Nat.le_refl _) A c
      · exact run_append_none w t ty e j ht hi _ n cap hle A c
    unfold Oper.wp execOp
    simp only [ho, resolve, invoke, builtin, Sem.run_bind, Sem.run_pure, Result.andThen_ok, List.map_toArray, List.map_cons, List.map_nil, hs, hx, hrun]
    exact h v w (by simpa using hown) (grownBy_refl w _)
  · obtain ⟨ad, rfl, _, hc⟩ := hr.2 h0
    obtain ⟨v', w', hrun, h2, h3, _, _⟩ := run_append_own_at (P := P) w base t o.type e j z size bytes ht hi hz hsz hby hzs hp v n xs hown ad q c news hr.1 hc h1 (by simp only [maxLen]; omega) hbytes hbase
    unfold Oper.wp execOp
    simp only [ho, resolve, invoke, builtin, Sem.run_bind, Sem.run_pure, Result.andThen_ok, List.map_toArray, List.map_cons, List.map_nil, hs, hx, hrun]
    exact h v' w' h2 h3
end
theorem fxc_one (L : List Fx) : ∀ u ∈ L.flatMap fxc, u.oneCell' = true := by
  intro u hu
  obtain ⟨x, _, hx⟩ := List.mem_flatMap.1 hu
  unfold fxc fwc at hx
  simp only [List.mem_cons, List.not_mem_nil, or_false] at hx
  rcases hx with rfl | rfl | rfl | rfl | rfl | rfl | rfl | rfl <;> rfl
theorem flows_size (W : World) : (sizeOf (Try.prog.elem 24)).run Try.prog W = .ok 8 W := by kernel_rfl
theorem slice_take (ad : Addr) (n c i : Nat) (hi : i ≤ c) (W : World) : (Instr.slice 24 (.slice (some ad) n c) none (some (.int .i64 (i : Int))) none).run Try.prog W = .ok (.slice (some ad) i c) W := by
  rw [run_slice_h W 24 (some ad) n c (by kernel_rfl) .i64 (i : Int) (by omega) (by omega), flows_size]
  have h0 : ad.add 0 = ad := by unfold Addr.add; simp
  simp [sliced, Result.andThen, h0]
theorem slice_drop (ad : Addr) (n c i : Nat) (hi : i + 1 ≤ n) (W : World) : (Instr.slice 24 (.slice (some ad) n c) (some (.int .i64 ((i : Int) + 1))) none none).run Try.prog W = .ok (.slice (if c = i + 1 then some ad else some (ad.add ((i + 1) * 8))) (n - (i + 1)) (c - (i + 1))) W := by
  rw [run_slice_l W 24 (some ad) n c (by kernel_rfl) .i64 ((i : Int) + 1) (by omega) (by omega), flows_size]
  have h1 : ((i : Int) + 1).toNat = i + 1 := by omega
  simp only [sliced, Result.andThen, h1, Option.map_some]
/-- An error of Make is one. -/
theorem flowGo_err {C : Cf} {off k : Int} {S : List Sp} {f : Fw} (h : flowGo C off S f = .error k) : k = 1 ∨ k = 60 ∨ k = 61 ∨ k = 62 := by
  have hops : ∀ (n : Nat) (es : List (Int × Int)) (is : List Int) (i : Nat) (S : List Sp) (low high : Int), hopsGo C off f n i S es is low high = .error k → k = 61 := by
    intro n es
    induction es with
    | nil => intro is i S low high h; simp [hopsGo] at h
    | cons e es ih =>
      intro is i S low high h
      cases is with
      | nil => simp [hopsGo] at h
      | cons j is =>
        rw [hopsGo] at h
        split at h
        · cases h; rfl
        · cases hl : C.links[j.toNat]? with
          | none => rw [hl] at h; cases h; rfl
          | some l => rw [hl] at h; exact ih _ _ _ _ _ h
  unfold flowGo at h
  split at h
  · cases h; exact .inl rfl
  split at h
  · cases h; exact .inr (.inl rfl)
  split at h
  · rename_i xs ys _ _
    split at h
    · cases h0 : hopsGo C off f xs.length 0 S xs f.w0 0 0 with
      | error e =>
        rw [h0] at h
        simp only at h
        cases h
        exact .inr (.inr (.inl (hops _ _ _ _ _ _ _ h0)))
      | ok r0 =>
        obtain ⟨S1, lo0, hi0⟩ := r0
        rw [h0] at h
        simp only at h
        cases h1 : hopsGo C off f ys.length 0 S1 ys f.w1 0 0 with
        | error e =>
          rw [h1] at h
          simp only at h
          cases h
          exact .inr (.inr (.inl (hops _ _ _ _ _ _ _ h1)))
        | ok r1 =>
          obtain ⟨S2, lo1, hi1⟩ := r1
          rw [h1] at h
          simp only at h
          split at h
          · cases h; exact .inr (.inr (.inr rfl))
          · cases h
    · cases h; exact .inr (.inl rfl)
  · cases h; exact .inr (.inl rfl)
theorem flowsGo_err {C : Cf} {off k : Int} : ∀ (fs : List Fw) (S : List Sp) (W : List (Int × Int)), flowsGo C off S W fs = .error k → k ≠ 0
  | [], S, W, h => by simp [flowsGo] at h
  | f :: fs, S, W, h => by
    rw [flowsGo] at h
    cases hf : flowGo C off S f with
    | error e =>
      rw [hf] at h
      simp only at h
      cases h
      have := flowGo_err hf
      omega
    | ok r =>
      obtain ⟨S', w⟩ := r
      rw [hf] at h
      exact flowsGo_err fs _ _ h
theorem make_err_ne {C : Cf} {k : Int} (h : makeV C = .error k) : k ≠ 0 := by
  unfold makeV at h
  split at h
  · rename_i hc
    cases h
    exact hc
  · split at h
    · rename_i e he
      cases h
      exact flowsGo_err _ _ _ he
    · rename_i S W he
      split at h
      · cases h
      · cases h; decide
/-- Both answers of Make in one: the plan's three cells and the error. -/
def PlanIs (C : Cf) (b : Nat) (w' : World) (off : Int) (wv mv : Value) (k : Int) : Prop :=
  (k ≠ 0 ∧ makeV C = .error k ∧ off = 0 ∧ wv = .slice none 0 0 ∧ mv = .map none) ∨
    (k = 0 ∧ off = offV C ∧ ∃ (S : List Sp) (W : List (Int × Int)) (B1 gG mg : Nat) (fg : Int × Int → Option Value), makeV C = .ok (S, W) ∧ mv = .map (some gG) ∧ b ≤ gG ∧ GtM w' B1 gG mg fg (endsTo C C.nodes.length) C.cycle S ∧
      w'.ownsRow b 52 2 wv W.length (W.flatMap spc) ∧ ∀ x ∈ S, GoodSp C x)
theorem Made.two {C : Cf} {w w' : World} {e : Ending} (h : Made C w w' e) : ∃ (k off : Int) (wv mv : Value), e = .returned (.tuple #[.agg #[.int .i64 off, wv, mv], .int .i64 k]) ∧ Below w.heap.size w w' ∧ (#[.int .i64 off, wv, mv] : Array Value).all (·.oneCell') = true ∧ PlanIs C w.heap.size w' off wv mv k := by
  obtain ⟨hb, ⟨k, hk, rfl⟩ | ⟨S, W, wv, B1, gG, mg, fg, hm, rfl, hG, hT, hO, hg⟩⟩ := h
  · exact ⟨k, 0, _, _, rfl, hb, (by rw [← Array.all_toList]; rfl), .inl ⟨make_err_ne hk, hk, rfl, rfl, rfl⟩⟩
  · obtain ⟨A, c, rfl, _, _⟩ := ownsRow_reads hO
    exact ⟨0, offV C, _, _, rfl, hb, (by rw [← Array.all_toList]; rfl), .inr ⟨rfl, rfl, S, W, B1, gG, mg, fg, hm, rfl, hG, hT, hO, hg⟩⟩
end Go.Proofs.Ytaegngcbiefckaa

namespace Go.Proofs.Ytaegngcbiefckaa
set_option linter.unusedSimpArgs false
set_option linter.unusedVariables false
open Go.RowKit Go.WideShapes Go.ChangeShapes

def preS (t : List (Int × Int)) (i : Nat) : Int := ((t.take i).map (·.2)).sum
theorem preS_zero (t : List (Int × Int)) : preS t 0 = 0 := rfl
theorem preS_succ {t : List (Int × Int)} {i : Nat} {s : Int × Int} (h : t[i]? = some s) : preS t (i + 1) = preS t i + s.2 := by
  unfold preS
  rw [List.take_add_one, h]
  simp
structure Gd (t : List (Int × Int)) (cyc : Int) : Prop where
  l1 : 1 ≤ t.length
  l2 : t.length ≤ 64
  c1 : 1 ≤ cyc
  c2 : cyc ≤ 1073741824
  o : ∀ s ∈ t, (s.1 = 127 ∨ s.1 = 128) ∧ 1 ≤ s.2
  sum : preS t t.length = cyc
theorem preS_le {t : List (Int × Int)} (ho : ∀ s ∈ t, (s.1 = 127 ∨ s.1 = 128) ∧ 1 ≤ s.2) : ∀ (d i : Nat), i + d ≤ t.length → preS t i ≤ preS t (i + d)
  | 0, i, _ => Int.le_refl _
  | d + 1, i, h => by
    have h1 := preS_le ho d i (by omega)
    obtain ⟨s, hs⟩ : ∃ s, t[i + d]? = some s := ⟨_, List.getElem?_eq_getElem (by omega)⟩
    have h2 := preS_succ hs
    have h3 := (ho s (List.mem_of_getElem? hs)).2
    rw [show i + (d + 1) = i + d + 1 from rfl, h2]
    omega
theorem Gd.pre {t : List (Int × Int)} {cyc : Int} (h : Gd t cyc) {i : Nat} (hi : i ≤ t.length) : 0 ≤ preS t i ∧ preS t i ≤ cyc := by
  have h1 := preS_le h.o i 0 (by omega)
  have h2 := preS_le h.o (t.length - i) i (by omega)
  rw [show i + (t.length - i) = t.length by omega, h.sum] at h2
  rw [Nat.zero_add, preS_zero] at h1
  exact ⟨h1, h2⟩
/-- A place in the cycle lies in one slot alone. -/
theorem Gd.one {t : List (Int × Int)} {cyc p : Int} (h : Gd t cyc) {i j : Nat} (hi : i < t.length) (hj : j < t.length) (h1 : preS t i ≤ p) (h2 : p < preS t (i + 1)) (h3 : preS t j ≤ p) (h4 : p < preS t (j + 1)) : i = j := by
  rcases Nat.lt_trichotomy i j with hlt | he | hlt
  · have := preS_le h.o (j - (i + 1)) (i + 1) (by omega)
    rw [show i + 1 + (j - (i + 1)) = j by omega] at this
    omega
  · exact he
  · have := preS_le h.o (i - (j + 1)) (j + 1) (by omega)
    rw [show j + 1 + (i - (j + 1)) = i by omega] at this
    omega
theorem preS_cons (x : Int × Int) (t : List (Int × Int)) (i : Nat) : preS (x :: t) (i + 1) = x.2 + preS t i := by
  simp [preS]
/-- What a port's gates do, slot by slot. -/
theorem goV_slots (cyc : Int) : ∀ (d : List (Int × Int)) (at_ : Int) (t : List (Int × Int)), goV cyc at_ d = some t → at_ ≤ cyc → (∀ x ∈ d, x.1 < x.2 ∧ x.2 ≤ cyc) →
    (∀ s ∈ t, (s.1 = 127 ∨ s.1 = 128) ∧ 1 ≤ s.2) ∧ preS t t.length = cyc - at_ ∧ t.length ≤ 2 * d.length + 1 ∧ ∀ x ∈ d, ∃ i, t[i]? = some (128, x.2 - x.1) ∧ at_ + preS t i = x.1
  | [], at_, t, h, ha, _ => by
    rw [goV] at h
    obtain rfl := Option.some.inj h
    by_cases hc : at_ < cyc
    · rw [if_pos hc]
      refine ⟨fun s hs => ?_, ?_, by simp, fun x hx => (by cases hx)⟩
      · simp at hs; subst hs; exact ⟨.inl rfl, by simp only; omega⟩
      · simp [preS]
    · rw [if_neg hc]
      refine ⟨fun s hs => (by cases hs), ?_, by simp, fun x hx => (by cases hx)⟩
      show (0 : Int) = _
      omega
  | (a, b) :: r, at_, t, h, ha, hx => by
    rw [goV] at h
    by_cases hlt : a < at_
    · rw [if_pos hlt] at h; cases h
    rw [if_neg hlt] at h
    cases hr : goV cyc b r with
    | none => rw [hr] at h; cases h
    | some u =>
      rw [hr] at h
      obtain rfl := Option.some.inj h
      have hab := hx (a, b) (List.mem_cons_self ..)
      simp only at hab
      obtain ⟨h1, h2, h3, h4⟩ := goV_slots cyc r b u hr hab.2 fun x h => hx x (List.mem_cons_of_mem _ h)
      by_cases hg : at_ < a
      · rw [if_pos hg]
        simp only [List.cons_append, List.nil_append]
        refine ⟨fun s hs => ?_, ?_, by simp; omega, fun x hx' => ?_⟩
        · rcases List.mem_cons.1 hs with rfl | hs
          · exact ⟨.inl rfl, by simp only; omega⟩
          · rcases List.mem_cons.1 hs with rfl | hs
            · exact ⟨.inr rfl, by simp only; omega⟩
            · exact h1 s hs
        · rw [List.length_cons, preS_cons, List.length_cons, preS_cons, h2]
          simp only
          omega
        · rcases List.mem_cons.1 hx' with rfl | hx'
          · exact ⟨1, rfl, by rw [preS_cons, preS_zero]; simp only; omega⟩
          · obtain ⟨i, hi1, hi2⟩ := h4 x hx'
            exact ⟨i + 2, hi1, by rw [preS_cons, preS_cons]; simp only; omega⟩
      · rw [if_neg hg]
        simp only [List.nil_append]
        refine ⟨fun s hs => ?_, ?_, by simp; omega, fun x hx' => ?_⟩
        · rcases List.mem_cons.1 hs with rfl | hs
          · exact ⟨.inr rfl, by simp only; omega⟩
          · exact h1 s hs
        · rw [List.length_cons, preS_cons, h2]
          simp only
          omega
        · rcases List.mem_cons.1 hx' with rfl | hx'
          · exact ⟨0, rfl, by rw [preS_zero]; simp only; omega⟩
          · obtain ⟨i, hi1, hi2⟩ := h4 x hx'
            exact ⟨i + 1, hi1, by rw [preS_cons]; simp only; omega⟩
end Go.Proofs.Ytaegngcbiefckaa

namespace Go.Proofs.Ytaegngcbiefckaa
set_option linter.unusedSimpArgs false
set_option linter.unusedVariables false
open Go.RowKit Go.WideShapes Go.ChangeShapes

/-! ### A way, hop by hop -/
def Steps (C : Cf) : Int → List (Int × Int) → List Int → Prop
  | at_, e :: es, k :: ks => e.1 = at_ ∧ ∃ (l : Lk) (nxt : Int), (0 ≤ k ∧ k < (C.links.length : Int)) ∧ C.links[k.toNat]? = some l ∧ ((e = (l.n0, l.p0) ∧ nxt = l.n1) ∨ (e = (l.n1, l.p1) ∧ l.n0 ≠ at_ ∧ nxt = l.n0)) ∧ Steps C nxt es ks
  | _, [], [] => True
  | _, _, _ => False
theorem wayGo_steps (C : Cf) (n : Nat) : ∀ (ks : List Int) (i : Nat) (at_ : Int) (seen : List Int) (out : List (Int × Int)) (r : Int × List (Int × Int)), seen = out.map (·.1) ++ [at_] → seen.Nodup → wayGo C n i at_ seen out ks = some r →
    ∃ es, r.2 = out ++ es ∧ es.length = ks.length ∧ Steps C at_ es ks ∧ (r.2.map (·.1)).Nodup
  | [], _, at_, seen, out, r, hs, hn, h => by
    rw [wayGo] at h
    obtain rfl := Option.some.inj h
    refine ⟨[], by simp, rfl, trivial, ?_⟩
    rw [hs] at hn
    exact (List.nodup_append.1 hn).1
  | k :: ks, i, at_, seen, out, r, hs, hn, h => by
    rw [wayGo] at h
    by_cases hk : k < 0 ∨ (C.links.length : Int) ≤ k
    · rw [if_pos hk] at h; cases h
    rw [if_neg hk] at h
    cases hl : C.links[k.toNat]? with
    | none => rw [hl] at h; cases h
    | some l =>
      rw [hl] at h
      simp only at h
      have key : ∀ (nx pt : Int), (if hopBad C n i seen nx then none else wayGo C n (i + 1) nx (seen ++ [nx]) (out ++ [(at_, pt)]) ks) = some r → ∃ es, r.2 = out ++ (at_, pt) :: es ∧ es.length = ks.length ∧ Steps C nx es ks ∧ (r.2.map (·.1)).Nodup := fun nx pt h => by
        by_cases hb : hopBad C n i seen nx = true
        · rw [if_pos hb] at h; cases h
        rw [if_neg hb] at h
        have hnx : nx ∉ seen := fun hm => hb (by unfold hopBad; rw [List.contains_iff_mem.2 hm]; rfl)
        obtain ⟨es, h1, h2, h3, h4⟩ := wayGo_steps C n ks (i + 1) nx (seen ++ [nx]) (out ++ [(at_, pt)]) r (by rw [hs]; simp) (by
          rw [List.nodup_append]
          refine ⟨hn, by simp, fun a ha b hb => ?_⟩
          simp at hb
          subst hb
          exact fun e => hnx (e ▸ ha)) h
        exact ⟨es, by rw [h1]; simp, h2, h3, h4⟩
      by_cases h0 : l.n0 = at_
      · rw [if_pos h0] at h
        subst h0
        obtain ⟨es, h1, h2, h3, h4⟩ := key _ _ h
        exact ⟨_ :: es, h1, by simp [h2], ⟨rfl, l, l.n1, by omega, hl, .inl ⟨rfl, rfl⟩, h3⟩, h4⟩
      rw [if_neg h0] at h
      by_cases h5 : l.n1 = at_
      · rw [if_pos h5] at h
        subst h5
        obtain ⟨es, h1, h2, h3, h4⟩ := key _ _ h
        exact ⟨_ :: es, h1, by simp [h2], ⟨rfl, l, l.n0, by omega, hl, .inr ⟨rfl, h0, rfl⟩, h3⟩, h4⟩
      rw [if_neg h5] at h; cases h
theorem wayV_steps {C : Cf} {src dst : Int} {ks : List Int} {es : List (Int × Int)} (h : wayV C src dst ks = some es) : es.length = ks.length ∧ 0 < es.length ∧ Steps C src es ks ∧ (es.map (·.1)).Nodup := by
  unfold wayV at h
  cases hg : wayGo C ks.length 0 src [src] [] ks with
  | none => rw [hg] at h; cases h
  | some r =>
    obtain ⟨at_, out⟩ := r
    rw [hg] at h
    simp only at h
    by_cases hc : 0 < out.length ∧ at_ = dst
    · rw [if_pos hc] at h
      obtain rfl := Option.some.inj h
      obtain ⟨es', h1, h2, h3, h4⟩ := wayGo_steps C _ ks 0 src [src] [] _ rfl (by simp) hg
      simp only [List.nil_append] at h1
      subst h1
      exact ⟨h2, hc.1, h3, h4⟩
    · rw [if_neg hc] at h; cases h
theorem linksV_ne {C : Cf} : ∀ (ls : List Lk) (used : List (Int × Int)), linksV C used ls = 0 → ∀ l ∈ ls, l.n0 ≠ l.n1
  | [], _, _, _, hl => by cases hl
  | m :: ls, used, h, l, hl => by
    rw [linksV] at h
    by_cases h0 : badEnd C used (m.n0, m.p0) = true
    · rw [if_pos h0] at h; cases h
    rw [if_neg h0] at h
    by_cases h1 : badEnd C ((m.n0, m.p0) :: used) (m.n1, m.p1) = true
    · rw [if_pos h1] at h; cases h
    rw [if_neg h1] at h
    by_cases h2 : badLink m = true
    · rw [if_pos h2] at h; cases h
    rw [if_neg h2] at h
    rcases List.mem_cons.1 hl with rfl | hl
    · exact fun e => h2 (badLink_iff.2 (.inl e))
    · exact linksV_ne ls _ h l hl

/-! ### The spans of a way -/
theorem hopsGo_ends {C : Cf} {off : Int} {f : Fw} {n : Nat} : ∀ (es : List (Int × Int)) (is : List Int) (k : Nat) (low high : Int) (r : List Sp × Int × Int), es.length = is.length → hopsGo C off f n k [] es is low high = .ok r →
    r.1.map (·.1) = es ∧ ∀ e es', es = e :: es' → ∃ T', r.1 = (e, (f.start + low - 2 * off, f.start + f.len + high + 8 * f.size + 2 * off)) :: T'
  | [], is, k, low, high, r, _, h => by
    simp [hopsGo] at h
    subst h
    exact ⟨rfl, fun e es' h => by cases h⟩
  | e :: es, [], k, low, high, r, hl, h => by simp at hl
  | e :: es, i :: is, k, low, high, r, hl, h => by
    rw [hopsGo] at h
    split at h
    · cases h
    · cases hi : C.links[i.toNat]? with
      | none => rw [hi] at h; cases h
      | some l =>
        rw [hi] at h
        simp only [List.nil_append] at h
        rw [hopsGo_acc] at h
        cases h2 : hopsGo C off f n (k + 1) [] es is (low + (8 * f.size + l.lo) + if k + 1 < n then C.proc else 0) (high + (8 * f.size + l.hi) + if k + 1 < n then C.proc else 0) with
        | error x => rw [h2] at h; cases h
        | ok r2 =>
          obtain ⟨T, lo, hi'⟩ := r2
          rw [h2] at h
          cases h
          obtain ⟨h3, _⟩ := hopsGo_ends es is (k + 1) _ _ _ (by simpa using hl) h2
          simp only at h3
          exact ⟨by simp [h3], fun e' es' he => by cases he; exact ⟨T, rfl⟩⟩
structure Parts (C : Cf) (off : Int) (f : Fw) (T : List Sp) : Prop where
  good : ¬ badFlow C f
  both : ∃ (xs ys : List (Int × Int)) (S1 T1 : List Sp) (lo0 hi0 lo1 hi1 : Int), wayV C f.src f.dst f.w0 = some xs ∧ wayV C f.src f.dst f.w1 = some ys ∧ apartV f.w0 f.w1 xs ys = true ∧
    hopsGo C off f xs.length 0 [] xs f.w0 0 0 = .ok (S1, lo0, hi0) ∧ hopsGo C off f ys.length 0 [] ys f.w1 0 0 = .ok (T1, lo1, hi1) ∧ T = S1 ++ T1
theorem flow_parts {C : Cf} {off : Int} {f : Fw} {T : List Sp} {w : Int × Int} (h : flowGo C off [] f = .ok (T, w)) : Parts C off f T := by
  unfold flowGo at h
  split at h
  · cases h
  rename_i hb
  split at h
  · cases h
  split at h
  · rename_i xs ys hx hy
    split at h
    · rename_i hap
      cases h0 : hopsGo C off f xs.length 0 [] xs f.w0 0 0 with
      | error e => rw [h0] at h; cases h
      | ok r0 =>
        obtain ⟨S1, lo0, hi0⟩ := r0
        rw [h0] at h
        simp only at h
        rw [hopsGo_acc] at h
        cases h1 : hopsGo C off f ys.length 0 [] ys f.w1 0 0 with
        | error e => rw [h1] at h; cases h
        | ok r1 =>
          obtain ⟨T1, lo1, hi1⟩ := r1
          rw [h1] at h
          simp only at h
          split at h
          · cases h
          · cases h
            exact ⟨hb, xs, ys, S1, T1, lo0, hi0, lo1, hi1, hx, hy, hap, h0, h1, rfl⟩
    · cases h
  · cases h
theorem atEnd_app (S T : List Sp) (e : Int × Int) : atEnd (S ++ T) e = atEnd S e ++ atEnd T e := by
  unfold atEnd
  rw [List.filterMap_append]
theorem atEnd_mem {S : List Sp} {e : Int × Int} {x : Int × Int} : x ∈ atEnd S e ↔ (e, x) ∈ S := by
  unfold atEnd
  rw [List.mem_filterMap]
  constructor
  · rintro ⟨⟨a, b⟩, h1, h2⟩
    simp only at h2
    split at h2
    · rename_i he
      cases h2
      rw [← he]; exact h1
    · cases h2
  · intro h
    exact ⟨(e, x), h, by simp⟩
/-- A list whose ends differ lies at an end once. -/
theorem atEnd_once (e : Int × Int) : ∀ (S : List Sp), (S.map (·.1)).Nodup → (atEnd S e).length ≤ 1
  | [], _ => by simp [atEnd]
  | (a, b) :: S, h => by
    rw [List.map_cons, List.nodup_cons] at h
    have ih := atEnd_once e S h.2
    by_cases ha : a = e
    · subst ha
      have h0 : atEnd S a = [] := by
        cases hS : atEnd S a with
        | nil => rfl
        | cons x r =>
          have hx : x ∈ atEnd S a := by rw [hS]; exact List.mem_cons_self ..
          exact absurd (List.mem_map.2 ⟨(a, x), atEnd_mem.1 hx, rfl⟩) h.1
      show (List.filterMap _ _).length ≤ 1
      rw [List.filterMap_cons]
      simp only [if_true]
      rw [show List.filterMap (fun x : Sp => if x.1 = a then some x.2 else none) S = atEnd S a from rfl, h0]
      simp
    · show (List.filterMap _ _).length ≤ 1
      rw [List.filterMap_cons]
      simp only [if_neg ha]
      exact ih
theorem nodup_fst {es : List (Int × Int)} (h : (es.map (·.1)).Nodup) : es.Nodup := by
  induction es with
  | nil => exact List.nodup_nil
  | cons e es ih =>
    rw [List.map_cons, List.nodup_cons] at h
    rw [List.nodup_cons]
    exact ⟨fun hm => h.1 (List.mem_map.2 ⟨e, hm, rfl⟩), ih h.2⟩
/-- A flow's frames have one span at an end, if what lies there is apart. -/
theorem Parts.once {C : Cf} {off : Int} {f : Fw} {T : List Sp} (h : Parts C off f T) (hoff : 0 ≤ off) {e : Int × Int} (hd : Disj (atEnd T e)) : (atEnd T e).length ≤ 1 := by
  obtain ⟨hb, xs, ys, S1, T1, lo0, hi0, lo1, hi1, hx, hy, hap, h0, h1, rfl⟩ := h
  unfold badFlow at hb
  obtain ⟨hxl, hx0, _, hxn⟩ := wayV_steps hx
  obtain ⟨hyl, hy0, _, hyn⟩ := wayV_steps hy
  obtain ⟨m0, c0⟩ := hopsGo_ends xs f.w0 0 0 0 _ hxl h0
  obtain ⟨m1, c1⟩ := hopsGo_ends ys f.w1 0 0 0 _ hyl h1
  simp only at m0 m1 c0 c1
  have l0 := atEnd_once e S1 (by rw [m0]; exact nodup_fst hxn)
  have l1 := atEnd_once e T1 (by rw [m1]; exact nodup_fst hyn)
  rw [atEnd_app] at hd ⊢
  cases ha : atEnd S1 e with
  | nil => rw [ha] at l0; simpa [ha] using l1
  | cons a ra =>
    cases hbb : atEnd T1 e with
    | nil => rw [ha] at l0; simpa [ha, hbb] using l0
    | cons b rb =>
      exfalso
      have ma : (e, a) ∈ S1 := atEnd_mem.1 (by rw [ha]; exact List.mem_cons_self ..)
      have mb : (e, b) ∈ T1 := atEnd_mem.1 (by rw [hbb]; exact List.mem_cons_self ..)
      have ex : e ∈ xs := by rw [← m0]; exact List.mem_map.2 ⟨_, ma, rfl⟩
      have ey : e ∈ ys := by rw [← m1]; exact List.mem_map.2 ⟨_, mb, rfl⟩
      obtain ⟨i, hi⟩ := List.mem_iff_getElem?.1 ex
      obtain ⟨k, hk⟩ := List.mem_iff_getElem?.1 ey
      have hz : i + k = 0 := by
        by_cases hz : i + k = 0
        · exact hz
        · have := apartV_node (w0 := f.w0) (w1 := f.w1) hi hk ⟨rfl, by omega⟩
          rw [hap] at this
          cases this
      obtain rfl : i = 0 := by omega
      obtain rfl : k = 0 := by omega
      cases hxs : xs with
      | nil => rw [hxs] at hi; cases hi
      | cons x0 xr =>
        cases hys : ys with
        | nil => rw [hys] at hk; cases hk
        | cons y0 yr =>
          rw [hxs] at hi
          rw [hys] at hk
          cases hi
          cases hk
          obtain ⟨S1', e0⟩ := c0 _ _ hxs
          obtain ⟨T1', e1⟩ := c1 _ _ hys
          have ha' : (f.start + 0 - 2 * off, f.start + f.len + 0 + 8 * f.size + 2 * off) ∈ atEnd S1 e := atEnd_mem.2 (by rw [e0]; exact List.mem_cons_self ..)
          have hb' : (f.start + 0 - 2 * off, f.start + f.len + 0 + 8 * f.size + 2 * off) ∈ atEnd T1 e := atEnd_mem.2 (by rw [e1]; exact List.mem_cons_self ..)
          have hp := (List.pairwise_append.1 hd).2.2 _ ha' _ hb'
          simp only at hp
          omega
theorem atEnd_flat (e : Int × Int) : ∀ (rs : List (List Sp × (Int × Int))), (∀ r ∈ rs, (atEnd r.1 e).length ≤ 1) → (atEnd (rs.flatMap (·.1)) e).length ≤ rs.length
  | [], _ => by simp [atEnd]
  | r :: rs, h => by
    have h1 := atEnd_flat e rs fun q hq => h q (List.mem_cons_of_mem _ hq)
    have h2 := h r (List.mem_cons_self ..)
    rw [List.flatMap_cons, atEnd_app, List.length_append, List.length_cons]
    omega
theorem FlowsOk.parts {C : Cf} {off : Int} : ∀ {fs : List Fw} {rs : List (List Sp × (Int × Int))}, FlowsOk C off fs rs → (∀ r ∈ rs, ∃ f, Parts C off f r.1) ∧ ∀ (i : Nat) (f : Fw), fs[i]? = some f → ∃ r, r ∈ rs ∧ Parts C off f r.1
  | [], [], _ => ⟨fun r h => (by cases h), fun i f h => (by simp at h)⟩
  | [], _ :: _, h => h.elim
  | _ :: _, [], h => h.elim
  | g :: fs, r :: rs, h => by
    obtain ⟨ih1, ih2⟩ := FlowsOk.parts h.2
    have hp : Parts C off g r.1 := flow_parts (w := r.2) h.1
    refine ⟨fun q hq => ?_, fun i f hi => ?_⟩
    · rcases List.mem_cons.1 hq with rfl | hq
      · exact ⟨g, hp⟩
      · exact ih1 q hq
    · cases i with
      | zero => simp at hi; subst hi; exact ⟨r, List.mem_cons_self .., hp⟩
      | succ i =>
        obtain ⟨q, h1, h2⟩ := ih2 i f (by simpa using hi)
        exact ⟨q, List.mem_cons_of_mem _ h1, h2⟩
theorem disj_sub {S T : List Sp} (h : T.Sublist S) {e : Int × Int} (hd : Disj (atEnd S e)) : Disj (atEnd T e) := Disj.sub (atEnd_sub h e) hd
theorem mem_sub_flat {rs : List (List Sp × (Int × Int))} : ∀ {r : List Sp × (Int × Int)}, r ∈ rs → r.1.Sublist (rs.flatMap (·.1)) := by
  intro r hr
  induction rs with
  | nil => cases hr
  | cons q rs ih =>
    rw [List.flatMap_cons]
    rcases List.mem_cons.1 hr with rfl | hr
    · exact List.sublist_append_left _ _
    · exact (ih hr).trans (List.sublist_append_right _ _)
/-- Of a plan that is made: at an end that has a span the gates are a list that is right. -/
theorem plan_gates {C : Cf} {S : List Sp} {W : List (Int × Int)} (h : makeV C = .ok (S, W)) (hg : ∀ x ∈ S, GoodSp C x) {e x : Int × Int} (he : e ∈ endsTo C C.nodes.length) (hx : (e, x) ∈ S) {ss t : List (Int × Int)} (hp : ss.Perm (atEnd S e)) (ht : goV C.cycle 0 ss = some t) :
    Gd t C.cycle ∧ ∃ i, t[i]? = some (128, x.2 - x.1) ∧ preS t i = x.1 := by
  obtain ⟨h0, hpo, rs, h1, rfl, rfl⟩ := makeV_ok.1 h
  have hw := well h0
  have hd := portsOk_iff.1 hpo e he
  have hoff := (offV_bounds hw.off).1
  have hlen : (atEnd (rs.flatMap (·.1)) e).length ≤ 16 := by
    refine Nat.le_trans (atEnd_flat e rs fun r hr => ?_) (by rw [h1.length]; exact hw.flows)
    obtain ⟨f, hf⟩ := h1.parts.1 r hr
    exact hf.once (by omega) (disj_sub (mem_sub_flat hr) hd)
  have hgs : ∀ y ∈ ss, 0 ≤ y.1 ∧ y.1 < y.2 ∧ y.2 ≤ C.cycle := fun y hy => atEnd_good hg y (hp.subset hy)
  obtain ⟨g1, g2, g3, g4⟩ := goV_slots C.cycle ss 0 t ht (by have := hw.c1; omega) fun y hy => (hgs y hy).2
  have hxs : x ∈ ss := hp.symm.subset (atEnd_mem.2 hx)
  obtain ⟨i, hi1, hi2⟩ := g4 x hxs
  have hit := (List.getElem?_eq_some_iff.1 hi1).1
  have hsl := hp.length_eq
  exact ⟨⟨by omega, by omega, hw.c1, hw.c2, g1, by rw [g2]; omega⟩, i, hi1, by omega⟩
/-- Of a way of a flow in a plan: its hops, and that its spans are the plan's. -/
theorem plan_way {C : Cf} {S : List Sp} {W : List (Int × Int)} (h : makeV C = .ok (S, W)) {i : Nat} {f : Fw} (hf : C.flows[i]? = some f) (q : Nat) (hq : q < 2) :
    ¬ badFlow C f ∧ ∃ (es : List (Int × Int)) (r : List Sp × Int × Int), wayV C f.src f.dst (two f.w0 f.w1 q) = some es ∧ hopsGo C (offV C) f es.length 0 [] es (two f.w0 f.w1 q) 0 0 = .ok r ∧ ∀ x ∈ r.1, x ∈ S := by
  obtain ⟨h0, hpo, rs, h1, rfl, rfl⟩ := makeV_ok.1 h
  obtain ⟨r, hr, hb, xs, ys, S1, T1, lo0, hi0, lo1, hi1, hx, hy, hap, h3, h4, e⟩ := h1.parts.2 i f hf
  have hsub : ∀ x ∈ r.1, x ∈ rs.flatMap (·.1) := fun x hx => (mem_sub_flat hr).subset hx
  refine ⟨hb, ?_⟩
  rcases (by omega : q = 0 ∨ q = 1) with rfl | rfl
  · exact ⟨xs, _, hx, h3, fun x hx => hsub x (by rw [e]; exact List.mem_append.2 (.inl hx))⟩
  · exact ⟨ys, _, hy, h4, fun x hx => hsub x (by rw [e]; exact List.mem_append.2 (.inr hx))⟩
end Go.Proofs.Ytaegngcbiefckaa
