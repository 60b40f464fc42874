/-
  Layer 20: what a port tells.
-/
import Derived.Test.YtcdgofndfajekaaTreeE
import Derived.Test.YtcdgofndfajekaaBestPlain
namespace Go.Proofs.Ytcdgofndfajekaa
set_option linter.unusedSimpArgs false
set_option linter.unusedVariables false
open Go.RowKit
attribute [local go_sem ↓] Go.wp_at_zero Go.wp_at_succ

theorem putAll_all : ∀ (vs pre old : List Value), old.length = vs.length → putAll (pre ++ old).toArray pre.length vs = (pre ++ vs).toArray
  | [], pre, old, h => by
    have : old = [] := List.eq_nil_of_length_eq_zero h
    subst this
    rfl
  | v :: vs, pre, [], h => by simp at h
  | v :: vs, pre, u :: old, h => by
    rw [putAll]
    have e : ((pre ++ u :: old).toArray).setIfInBounds pre.length v = ((pre ++ [v]) ++ old).toArray := by simp
    rw [e]
    have := putAll_all vs (pre ++ [v]) old (by simpa using h)
    simp only [List.length_append, List.length_cons, List.length_nil] at this
    rw [this]
    simp
theorem putAll_whole {old cs : Array Value} (h : old.size = cs.size) : putAll old 0 cs.toList = cs := by
  have := putAll_all cs.toList [] old.toList (by simpa using h)
  simpa using this
theorem tat_far1 {w w' : World} {b : Bks} {t : Tre} {ps : List Value} {gm : Nat} (h : TAt w b t ps) (hg : w.grownBy w' (some gm)) (hn : ∀ g ∈ b.all, g ≠ gm)
    (hp : ∀ (q : Nat) (e : En) (A : Option Addr) (c : Nat), t.es[q]? = some e → ps[q]? = some (Value.slice A e.path.length c) → 0 < e.path.length → ∀ ad, A = some ad → ad.block ≠ gm) : TAt w' b t ps :=
  h.far (S := [gm]) (Fr.gr hg (by simp)) (fun k hk => by simp at hk; subst hk; exact fun a => hn _ a rfl) (fun q e A c he hps h0 => by
    obtain ⟨A', c', h1, _, h2⟩ := h.pth q e he
    rw [hps] at h1
    injection h1 with h1
    injection h1 with h1 _ _
    obtain ⟨ad, h3, h4, _, h5⟩ := h2 h0
    rw [← h1] at h3
    exact ⟨ad, h3, h4, by simp; exact hp q e A c he hps h0 ad h3, h5⟩)
theorem blk_whole {w : World} {g : Nat} {t : TypeId} {old cs : Array Value} (h : Blk w g t (putAll old 0 cs.toList)) (hs : old.size = cs.size) : Blk w g t cs := by rw [putAll_whole hs] at h; exact h
def zeroM : Mg := ⟨0, 0, 0, 0, 0, 0, 0, 0, 0, 0, 0, 0, 0, 0, 0, []⟩
def om (t : Tre) (k : Nat) (seq : Int) (T : Vc) (steps : Int) (path : List Int) : Mg := ⟨11, t.dom, seq, t.own.id, k, 0, 0, 0, 0, 0, T.root.one, T.root.cls, T.root.two, T.root.id, steps, path⟩
def Tre.outM (t : Tre) (k : Nat) (seq now : Int) : Mg :=
  if (t.top now).at_ < 0 then om t k seq (t.top now) 0 [t.own.id]
  else om t k seq (t.top now) (wrap64 ((t.top now).steps + 1)) ((match t.es[(t.top now).at_.toNat]? with | some e => e.path | none => []) ++ [t.own.id])
def OutZ (w : World) (e : Ending) (w' : World) : Prop := e = .returned (.tuple #[.agg (mcells zeroM none 0 0), .bool false]) ∧ Below w.heap.size w w'
def OutM (m : Mg) (w : World) (e : Ending) (w' : World) : Prop :=
  ∃ A n c, e = .returned (.tuple #[.agg (mcells m A n c), .bool (checkV m == 0)]) ∧ n = m.path.length ∧ Path w' [] A m.path ∧ m.path.length ≤ c ∧ (∀ ad, A = some ad → w.heap.size ≤ ad.block) ∧ Below w.heap.size w w'
set_option maxHeartbeats 1000000 in
theorem out_end {a : Act} {w' : World} {g : Nat} {m : Mg} {A : Option Addr} {n c : Nat} {b : Bool} {Q : Ending → World → Prop} (hd : a.defers = []) (h2 : a.eval (.tmp 8) = .pointer (some ⟨g, 0, none⟩)) (h3 : a.eval (.tmp 9) = .bool b)
    (R : Blk w' g 38 (mcells m A n c)) (h : Q (.returned (.tuple #[.agg (mcells m A n c), .bool b])) w') : bodyPost Try.prog Try.f10 Q Exit.ret a w' := by
  obtain ⟨y0, y1, y2, y3, y4, y5, y6, y7, y8, y9, y10, y11, y12, y13, y14, y15⟩ := mcells_at R
  refine bodyPost_ret (v := .tuple #[.agg (mcells m A n c), .bool b]) ?_ hd h
  simp only [Act.eval, Array.getD_eq_getD_getElem?] at h2 h3
  simp [results, Try.results10, go_sem, mcells, h2, h3, y0, y1, y2, y3, y4, y5, y6, y7, y8, y9, y10, y11, y12, y13, y14, y15]
set_option maxRecDepth 100000 in
theorem out_nil (at_ seq now : Int) (w : World) : Calls Try.prog 10 #[.pointer none, .int .i64 at_, .int .i64 seq, .int .i64 now] w (OutZ w) := by
  have Z0 : Blk (w.alloc (.cells #[.int .i64 0, .int .i64 0, .int .i64 0, .int .i64 0, .int .i64 0, .int .i64 0, .int .i64 0, .int .i64 0, .int .i64 0, .int .i64 0, .int .i64 0, .int .i64 0, .int .i64 0, .int .i64 0, .int .i64 0, .slice none 0 0] 38)) w.heap.size 38 (mcells zeroM none 0 0) := Blk.new _ _ _
  have L0 := (Below.refl w.heap.size w).alloc (Nat.le_refl _) (.cells #[.int .i64 0, .int .i64 0, .int .i64 0, .int .i64 0, .int .i64 0, .int .i64 0, .int .i64 0, .int .i64 0, .int .i64 0, .int .i64 0, .int .i64 0, .int .i64 0, .int .i64 0, .int .i64 0, .int .i64 0, .slice none 0 0] 38)
  go_enter Try.func10, Try.ntmps10
  go_wp2_with (refine wpList_store_part rfl 38 (.tmp 8) (.tmp 28) rfl (off := 0) rfl Z0 rfl (Nat.le_refl _) (by kernel_rfl) (by rw [← Array.all_toList]; rfl) ?_; intro wz Rz zz gz)
  exact out_end rfl rfl rfl (show Blk wz w.heap.size 38 (mcells zeroM none 0 0) from Rz) ⟨rfl, L0.trans (below_one gz (by first | omega | (simp; done) | (simp; omega)) (Nat.le_refl _))⟩
set_option maxRecDepth 100000 in
set_option maxHeartbeats 8000000 in
theorem out_any (b : Bks) (t : Tre) (ps : List Value) (at_ seq now : Int) (w : World) (h : TAt w b t ps) (hnow : R64 now) (hat : ∀ e ∈ t.es, R64 e.at_) (hm0 : 0 ≤ t.most) (hm1 : t.most ≤ 9223372036854775807) (hpl : ∀ e ∈ t.es, e.path.length ≤ 31) :
    Calls Try.prog 10 #[.pointer (some ⟨b.g, 0, none⟩), .int .i64 at_, .int .i64 seq, .int .i64 now] w fun e w' => if 0 ≤ at_ ∧ at_ < t.es.length ∧ roleAt t.own (t.top now) (t.hs now) at_.toNat = 1 then OutM (t.outM at_.toNat seq now) w e w' else OutZ w e w' := by
  have Z0 : Blk (w.alloc (.cells #[.int .i64 0, .int .i64 0, .int .i64 0, .int .i64 0, .int .i64 0, .int .i64 0, .int .i64 0, .int .i64 0, .int .i64 0, .int .i64 0, .int .i64 0, .int .i64 0, .int .i64 0, .int .i64 0, .int .i64 0, .slice none 0 0] 38)) w.heap.size 38 (mcells zeroM none 0 0) := Blk.new _ _ _
  have L0 := (Below.refl w.heap.size w).alloc (Nat.le_refl _) (.cells #[.int .i64 0, .int .i64 0, .int .i64 0, .int .i64 0, .int .i64 0, .int .i64 0, .int .i64 0, .int .i64 0, .int .i64 0, .int .i64 0, .int .i64 0, .int .i64 0, .int .i64 0, .int .i64 0, .int .i64 0, .slice none 0 0] 38)
  have T0 := h.kept L0
  by_cases h0 : at_ < 0
  · simp only [if_neg (show ¬ (0 ≤ at_ ∧ at_ < t.es.length ∧ roleAt t.own (t.top now) (t.hs now) at_.toNat = 1) from fun a => by omega)]
    clear h T0 hnow hat hm0 hm1
    go_enter Try.func10, Try.ntmps10
    go_wp2_with (refine wpList_store_part rfl 38 (.tmp 8) (.tmp 28) rfl (off := 0) rfl Z0 rfl (Nat.le_refl _) (by kernel_rfl) (by rw [← Array.all_toList]; rfl) ?_; intro wz Rz zz gz)
    exact out_end rfl rfl rfl (show Blk wz w.heap.size 38 (mcells zeroM none 0 0) from Rz) ⟨rfl, L0.trans (below_one gz (by first | omega | (simp; done) | (simp; omega)) (Nat.le_refl _))⟩
  obtain ⟨k, rfl⟩ := Int.eq_ofNat_of_zero_le (show 0 ≤ at_ by omega)
  rw [Int.toNat_natCast]
  have d0 : decide ((k : Int) < 0) = false := decide_eq_false h0
  have y6 := T0.box.cellOf (v := .slice (some ⟨b.gu, 0, none⟩) t.es.length t.es.length) 6 rfl
  by_cases hk : t.es.length ≤ k
  · simp only [if_neg (show ¬ (0 ≤ (k : Int) ∧ (k : Int) < t.es.length ∧ roleAt t.own (t.top now) (t.hs now) k = 1) from fun a => by omega)]
    have dk : (t.es.length : Int) ≤ (k : Int) := by omega
    clear h T0 hnow hat hm0 hm1 h0 hk
    go_enter Try.func10, Try.ntmps10
    go_wp2_with (refine wpList_store_part rfl 38 (.tmp 8) (.tmp 28) rfl (off := 0) rfl Z0 rfl (Nat.le_refl _) (by kernel_rfl) (by rw [← Array.all_toList]; rfl) ?_; intro wz Rz zz gz)
    exact out_end rfl rfl rfl (show Blk wz w.heap.size 38 (mcells zeroM none 0 0) from Rz) ⟨rfl, L0.trans (below_one gz (by first | omega | (simp; done) | (simp; omega)) (Nat.le_refl _))⟩
  have hkn : k < t.es.length := by omega
  have dk : decide (t.es.length ≤ k) = false := decide_eq_false hk
  have HB := Lib.hid (best_any b t ps now (w.alloc (.cells #[.int .i64 0, .int .i64 0, .int .i64 0, .int .i64 0, .int .i64 0, .int .i64 0, .int .i64 0, .int .i64 0, .int .i64 0, .int .i64 0, .int .i64 0, .int .i64 0, .int .i64 0, .int .i64 0, .int .i64 0, .slice none 0 0] 38)) T0 hnow hat hm0 hm1)
  have hn8 := h.few
  have htf := top_facts t.own (t.hs now)
  have hlh : (t.hs now).length = t.es.length := by unfold Tre.hs; rw [List.length_map]
  have HTL : Hid ((t.top now).at_ < t.es.length) := Lib.hid (by have := htf.lt; rw [hlh] at this; exact this)
  have HT0 := Lib.hid T0
  have HZ0 := Lib.hid Z0
  have HL0 := Lib.hid L0
  have hpb : ∀ g ∈ b.all, g < w.heap.size := by
    intro g hg
    simp [Bks.all] at hg
    rcases hg with rfl | rfl | rfl | rfl | rfl
    · exact h.box.lt
    · exact h.ups.lt
    · exact h.hds.lt
    · exact h.pat.lt
    · exact h.whn.lt
  have HPB := Lib.hid hpb
  have HPL := Lib.hid hpl
  have HPM : Hid (∀ (q : Nat) (e : En) (A : Option Addr) (c : Nat), t.es[q]? = some e → ps[q]? = some (Value.slice A e.path.length c) → 0 < e.path.length → ∀ ad, A = some ad → ad.block < w.heap.size) := Lib.hid fun q e A c he hp h1 ad had => by
    obtain ⟨A', c', h2, _, h3⟩ := h.pth q e he
    rw [hp] at h2
    injection h2 with h2
    injection h2 with h2 _ _
    obtain ⟨ad', h4, h5, _⟩ := h3 h1
    rw [← h2, had] at h4
    injection h4 with h4
    rw [h4]
    exact h5
  clear hpl
  unfold Tre.outM
  generalize t.top now = T at *
  generalize hrl : roleAt t.own T (t.hs now) k = R
  have hro : ((List.range t.es.length).map fun j => Value.int .i64 (roleAt t.own T (t.hs now) j))[k]? = some (.int .i64 R) := by rw [List.getElem?_map, List.getElem?_range hkn, ← hrl]; rfl
  generalize (List.range t.es.length).map (fun j => Value.int .i64 (roleAt t.own T (t.hs now) j)) = RS at HB hro
  have HRO := Lib.hid hro
  have hkI : (k : Int) < t.es.length := by omega
  have hkI0 : 0 ≤ (k : Int) := by omega
  by_cases hR : R ≠ 1
  · have dR : (R != 1) = true := bne_iff_ne.2 hR
    simp only [if_neg (show ¬ (0 ≤ (k : Int) ∧ (k : Int) < t.es.length ∧ R = 1) from fun a => hR a.2.2)]
    clear h T0 hnow hat hm0 hm1 h0 hk htf hlh hR hrl hpb hkI hkI0 Z0 L0 hro
    go_enter Try.func10, Try.ntmps10
    go_wp2_with fail
    generalize w.alloc (.cells #[.int .i64 0, .int .i64 0, .int .i64 0, .int .i64 0, .int .i64 0, .int .i64 0, .int .i64 0, .int .i64 0, .int .i64 0, .int .i64 0, .int .i64 0, .int .i64 0, .int .i64 0, .int .i64 0, .int .i64 0, .slice none 0 0] 38) = w0 at *
    refine HB.out.mono ?_
    rintro e w1 ⟨v1, rfl, own1, b1⟩
    rw [show T.val = .agg #[.int .i64 T.root.one, .int .i64 T.root.cls, .int .i64 T.root.two, .int .i64 T.root.id, .int .i64 T.steps, .int .i64 T.src, .int .i64 T.port, .int .i64 T.at_] from rfl]
    have L1 := b1.alloc b1.size (.cells #[.int .i64 T.root.one, .int .i64 T.root.cls, .int .i64 T.root.two, .int .i64 T.root.id, .int .i64 T.steps, .int .i64 T.src, .int .i64 T.port, .int .i64 T.at_] 31)
    have V1 := Blk.new w1 31 #[.int .i64 T.root.one, .int .i64 T.root.cls, .int .i64 T.root.two, .int .i64 T.root.id, .int .i64 T.steps, .int .i64 T.src, .int .i64 T.port, .int .i64 T.at_]
    have own2 := own1.alloc (.cells #[.int .i64 T.root.one, .int .i64 T.root.cls, .int .i64 T.root.two, .int .i64 T.root.id, .int .i64 T.steps, .int .i64 T.src, .int .i64 T.port, .int .i64 T.at_] 31)
    have hrow : ∃ A c, v1 = .slice A t.es.length c ∧ ∃ g, A = some ⟨g, 0, none⟩ ∧ (w1.alloc (.cells #[.int .i64 T.root.one, .int .i64 T.root.cls, .int .i64 T.root.two, .int .i64 T.root.id, .int .i64 T.steps, .int .i64 T.src, .int .i64 T.port, .int .i64 T.at_] 31)).cell? ⟨g, k, none⟩ = some (.int .i64 R) := by
      rcases own2.2 with ⟨_, h2⟩ | ⟨g, cap, cur, hv, hg, hh, hle, _, hsz, ht⟩
      · omega
      · refine ⟨_, cap, hv, g, rfl, ?_⟩
        have hb : Blk (w1.alloc (.cells #[.int .i64 T.root.one, .int .i64 T.root.cls, .int .i64 T.root.two, .int .i64 T.root.id, .int .i64 T.steps, .int .i64 T.src, .int .i64 T.port, .int .i64 T.at_] 31)) g 3 cur := hh
        rw [hb.cell]
        have h3 := HRO.out
        rw [← ht, List.getElem?_take] at h3
        split at h3
        · simpa using h3
        · cases h3
    obtain ⟨A1, c1, rfl, g1, rfl, z1⟩ := hrow
    have HT1 := Lib.hid (HT0.out.kept L1)
    have Z1 := HZ0.out.kept L1
    have HL1 := Lib.hid (HL0.out.trans (L1.mono HL0.out.size))
    have hwz : w.heap.size < w0.heap.size := HZ0.out.lt
    have hw1z : w.heap.size < w1.heap.size := Nat.lt_of_lt_of_le hwz b1.size
    have HGV : Hid (w.heap.size ≠ w1.heap.size ∧ w.heap.size ≤ w1.heap.size) := Lib.hid ⟨by omega, by omega⟩
    clear own1 own2 b1 L1 HB HT0 HZ0 HL0
    go_wp2_with (refine wpList_store_part rfl 38 (.tmp 8) (.tmp 40) rfl (off := 0) rfl Z1 rfl (Nat.le_refl _) (by kernel_rfl) (by rw [← Array.all_toList]; rfl) ?_; intro wz Rz zz gz)
    exact out_end rfl rfl rfl (show Blk wz w.heap.size 38 (mcells zeroM none 0 0) from Rz) ⟨rfl, HL1.out.trans (below_one gz (by first | omega | (simp; done) | (simp; omega)) (Nat.le_refl _))⟩
  obtain rfl : R = 1 := Decidable.not_not.1 hR
  simp only [eq_true hkI0, eq_true hkI, and_self, if_true]
  have dR : ((1 : Int) != 1) = false := rfl
  clear h T0 hnow hat hm0 hm1 h0 hk htf hlh hR hrl hpb hkI hkI0 Z0 L0 hro
  by_cases hT0 : T.at_ < 0
  · simp only [if_pos hT0]
    have dT : decide (0 ≤ T.at_) = false := decide_eq_false (by omega)
    have HTL' := HTL
    clear hT0
    go_enter Try.func10, Try.ntmps10
    go_wp2_with fail
    generalize w.alloc (.cells #[.int .i64 0, .int .i64 0, .int .i64 0, .int .i64 0, .int .i64 0, .int .i64 0, .int .i64 0, .int .i64 0, .int .i64 0, .int .i64 0, .int .i64 0, .int .i64 0, .int .i64 0, .int .i64 0, .int .i64 0, .slice none 0 0] 38) = w0 at *
    refine HB.out.mono ?_
    rintro e w1 ⟨v1, rfl, own1, b1⟩
    rw [show T.val = .agg #[.int .i64 T.root.one, .int .i64 T.root.cls, .int .i64 T.root.two, .int .i64 T.root.id, .int .i64 T.steps, .int .i64 T.src, .int .i64 T.port, .int .i64 T.at_] from rfl]
    have L1 := b1.alloc b1.size (.cells #[.int .i64 T.root.one, .int .i64 T.root.cls, .int .i64 T.root.two, .int .i64 T.root.id, .int .i64 T.steps, .int .i64 T.src, .int .i64 T.port, .int .i64 T.at_] 31)
    have V1 := Blk.new w1 31 #[.int .i64 T.root.one, .int .i64 T.root.cls, .int .i64 T.root.two, .int .i64 T.root.id, .int .i64 T.steps, .int .i64 T.src, .int .i64 T.port, .int .i64 T.at_]
    have own2 := own1.alloc (.cells #[.int .i64 T.root.one, .int .i64 T.root.cls, .int .i64 T.root.two, .int .i64 T.root.id, .int .i64 T.steps, .int .i64 T.src, .int .i64 T.port, .int .i64 T.at_] 31)
    have hrow : ∃ A c, v1 = .slice A t.es.length c ∧ ∃ g, A = some ⟨g, 0, none⟩ ∧ (w1.alloc (.cells #[.int .i64 T.root.one, .int .i64 T.root.cls, .int .i64 T.root.two, .int .i64 T.root.id, .int .i64 T.steps, .int .i64 T.src, .int .i64 T.port, .int .i64 T.at_] 31)).cell? ⟨g, k, none⟩ = some (.int .i64 1) := by
      rcases own2.2 with ⟨_, h2⟩ | ⟨g, cap, cur, hv, hg, hh, hle, _, hsz, ht⟩
      · omega
      · refine ⟨_, cap, hv, g, rfl, ?_⟩
        have hb : Blk (w1.alloc (.cells #[.int .i64 T.root.one, .int .i64 T.root.cls, .int .i64 T.root.two, .int .i64 T.root.id, .int .i64 T.steps, .int .i64 T.src, .int .i64 T.port, .int .i64 T.at_] 31)) g 3 cur := hh
        rw [hb.cell]
        have h3 := HRO.out
        rw [← ht, List.getElem?_take] at h3
        split at h3
        · simpa using h3
        · cases h3
    obtain ⟨A1, c1, rfl, g1, rfl, z1⟩ := hrow
    have HT1 := Lib.hid (HT0.out.kept L1)
    have Z1 := HZ0.out.kept L1
    have HL1 := Lib.hid (HL0.out.trans (L1.mono HL0.out.size))
    have hwz : w.heap.size < w0.heap.size := HZ0.out.lt
    have hw1z : w.heap.size < w1.heap.size := Nat.lt_of_lt_of_le hwz b1.size
    have HGV : Hid (w.heap.size ≠ w1.heap.size ∧ w.heap.size ≤ w1.heap.size) := Lib.hid ⟨by omega, by omega⟩
    clear own1 own2 b1 L1 HB HT0 HZ0 HL0
    go_wp2_with fail
    clear z1 dR
    generalize w1.alloc (.cells #[.int .i64 T.root.one, .int .i64 T.root.cls, .int .i64 T.root.two, .int .i64 T.root.id, .int .i64 T.steps, .int .i64 T.src, .int .i64 T.port, .int .i64 T.at_] 31) = w2 at *
    generalize w1.heap.size = gv at *
    have HT2 := Lib.hid (HT1.out.kept (Below.refl _ _).drew)
    have V2 : Blk w2.drew gv 31 #[.int .i64 T.root.one, .int .i64 T.root.cls, .int .i64 T.root.two, .int .i64 T.root.id, .int .i64 T.steps, .int .i64 T.src, .int .i64 T.port, .int .i64 T.at_] := V1
    have HL2 : Hid (Below w.heap.size w w2.drew) := Lib.hid HL1.out.drew
    have HZ2 : Hid (Blk w2.drew w.heap.size 38 (mcells zeroM none 0 0)) := Lib.hid Z1
    have E2 := HT2.out.box
    refine wp_region_tree [21] (.free 0 (.free 1 (.free 2 (.take 3 (.free 4 (.free 5 (.free 6 (.free 7 (.free 8 (.take 9 (.free 10 (.free 11 (.take 12 (.free 13 (.free 14 (.free 15 (.free 16 (.take 17 (.two 18 20 (.free 19 (.one 20 (.wr 21 .nil))) (.one 18 (.free 19 (.wr 21 .nil)))))))))))))))))))))) (fun w' => Blk w' b.g 75 (tcs b t) ∧ Blk w' gv 31 #[.int .i64 T.root.one, .int .i64 T.root.cls, .int .i64 T.root.two, .int .i64 T.root.id, .int .i64 T.steps, .int .i64 T.src, .int .i64 T.port, .int .i64 T.at_]) (by kernel_rfl) (by kernel_rfl) (fun _ _ _ _ _ h => h) ⟨E2, V2⟩ ?_
    clear HT1 HL1 Z1 V1
    generalize w2.drew = w3 at *
    have hwg : w.heap.size < w3.heap.size := HZ2.out.lt
    have hgv3 : gv < w3.heap.size := V2.lt
    (with_reducible (refine tr_free (v := ?_) rfl ?_ ?_ ?_); rotate_left; (first | exact wanted_none rfl | exact wanted_on rfl rfl rfl); (intro w'; go_simp; with_reducible rfl); simp only [Act.put, List.setIfInBounds_toArray, List.set_cons_zero, List.set_cons_succ])
    (with_reducible (refine tr_free (v := ?_) rfl ?_ ?_ ?_); rotate_left; (first | exact wanted_none rfl | exact wanted_on rfl rfl rfl); (intro w'; go_simp; with_reducible rfl); simp only [Act.put, List.setIfInBounds_toArray, List.set_cons_zero, List.set_cons_succ])
    (with_reducible (refine tr_free (v := ?_) rfl ?_ ?_ ?_); rotate_left; (first | exact wanted_none rfl | exact wanted_on rfl rfl rfl); (intro w'; go_simp; with_reducible rfl); simp only [Act.put, List.setIfInBounds_toArray, List.set_cons_zero, List.set_cons_succ])
    (with_reducible (refine tr_take (v := ?_) rfl ?_ ?_ ?_); rotate_left; (first | exact wanted_none rfl | exact wanted_on rfl rfl rfl); (rintro w' ⟨u1, u2⟩; (have q0 := u1.cellOf (v := .int .i64 t.dom) 0 rfl); go_simp; with_reducible rfl); simp only [Act.put, List.setIfInBounds_toArray, List.set_cons_zero, List.set_cons_succ])
    iterate 5 (with_reducible (refine tr_free (v := ?_) rfl ?_ ?_ ?_); rotate_left; (first | exact wanted_none rfl | exact wanted_on rfl rfl rfl); (intro w'; go_simp; with_reducible rfl); simp only [Act.put, List.setIfInBounds_toArray, List.set_cons_zero, List.set_cons_succ])
    (with_reducible (refine tr_take (v := ?_) rfl ?_ ?_ ?_); rotate_left; (first | exact wanted_none rfl | exact wanted_on rfl rfl rfl); (rintro w' ⟨u1, u2⟩; (have q4 := u1.cellOf (v := .int .i64 t.own.id) 4 rfl); go_simp; with_reducible rfl); simp only [Act.put, List.setIfInBounds_toArray, List.set_cons_zero, List.set_cons_succ])
    (with_reducible (refine tr_free (v := ?_) rfl ?_ ?_ ?_); rotate_left; (first | exact wanted_none rfl | exact wanted_on rfl rfl rfl); (intro w'; go_simp; with_reducible rfl); simp only [Act.put, List.setIfInBounds_toArray, List.set_cons_zero, List.set_cons_succ])
    (with_reducible (refine tr_free (v := ?_) rfl ?_ ?_ ?_); rotate_left; (first | exact wanted_none rfl | exact wanted_on rfl rfl rfl); (intro w'; go_simp; with_reducible rfl); simp only [Act.put, List.setIfInBounds_toArray, List.set_cons_zero, List.set_cons_succ])
    (with_reducible (refine tr_take (v := ?_) rfl ?_ ?_ ?_); rotate_left; (first | exact wanted_none rfl | exact wanted_on rfl rfl rfl); (rintro w' ⟨u1, u2⟩; (obtain ⟨q0, q1, q2, q3, q4, q5, q6, q7⟩ := u2.vec); go_simp; with_reducible rfl); simp only [Act.put, List.setIfInBounds_toArray, List.set_cons_zero, List.set_cons_succ])
    iterate 4 (with_reducible (refine tr_free (v := ?_) rfl ?_ ?_ ?_); rotate_left; (first | exact wanted_none rfl | exact wanted_on rfl rfl rfl); (intro w'; go_simp; with_reducible rfl); simp only [Act.put, List.setIfInBounds_toArray, List.set_cons_zero, List.set_cons_succ])
    (with_reducible (refine tr_take (v := ?_) rfl ?_ ?_ ?_); rotate_left; (first | exact wanted_none rfl | exact wanted_on rfl rfl rfl); (rintro w' ⟨u1, u2⟩; (have q4 := u1.cellOf (v := .int .i64 t.own.id) 4 rfl); go_simp; with_reducible rfl); simp only [Act.put, List.setIfInBounds_toArray, List.set_cons_zero, List.set_cons_succ])
    refine tr_two ?_ ?_
    (with_reducible (refine tr_run (v := ?_) (w' := ?_) rfl ?_ ?_ ?_ ?_); rotate_left 2; (first | exact wanted_none rfl | exact wanted_on rfl rfl rfl); (go_simp; refine ⟨?_, ?_⟩ <;> with_reducible rfl); (exact ⟨E2.alloc _, V2.alloc _⟩); simp only [Act.put, List.setIfInBounds_toArray, List.set_cons_zero, List.set_cons_succ])
    (with_reducible (refine tr_free (v := ?_) rfl ?_ ?_ ?_); rotate_left; (first | exact wanted_none rfl | exact wanted_on rfl rfl rfl); (intro w'; go_simp; with_reducible rfl); simp only [Act.put, List.setIfInBounds_toArray, List.set_cons_zero, List.set_cons_succ])
    (with_reducible (refine tr_run (v := ?_) (w' := ?_) rfl ?_ ?_ ?_ ?_); rotate_left 2; (first | exact wanted_none rfl | exact wanted_on rfl rfl rfl); (go_simp; refine ⟨?_, ?_⟩ <;> with_reducible rfl); (exact ⟨(E2.alloc _).alloc _, (V2.alloc _).alloc _⟩); simp only [Act.put, List.setIfInBounds_toArray, List.set_cons_zero, List.set_cons_succ])
    refine tr_wr_part (cs := mcells (om t k seq T 0 [t.own.id]) (some ⟨w3.heap.size, 0, none⟩) 1 1) rfl rfl 38 (.tmp 12) (.tmp 60) rfl (off := 0) rfl (Blk.at_new _ _ _ (by simp)) rfl (Nat.le_refl _) (by kernel_rfl) (by rw [← Array.all_toList]; rfl) ?_
    intro w4 X4 z4 g4
    simp only [Act.put, List.setIfInBounds_toArray, List.set_cons_zero, List.set_cons_succ]
    refine tr_nil ?_
    have XS : Blk w4 w3.heap.size 3 #[.int .i64 t.own.id] := ((Blk.new w3 _ _).alloc _).grown g4 (by simp)
    have XM : Blk w4 (w3.heap.size + 1) 38 (mcells (om t k seq T 0 [t.own.id]) (some ⟨w3.heap.size, 0, none⟩) 1 1) := blk_whole X4 rfl
    have hb4 : Below w3.heap.size w3 w4 := (((Below.refl w3.heap.size w3).alloc (Nat.le_refl _) _).alloc (by simp) _).grown g4 (by simp; omega) (fun q hq => by injection hq with hq; omega)
    have NE : Hid (w3.heap.size + 1 ≠ w3.heap.size ∧ w.heap.size < w3.heap.size ∧ w.heap.size < w3.heap.size + 1 ∧ gv ≠ w3.heap.size + 1) := Lib.hid ⟨by omega, by omega, by omega, by omega⟩
    have HT4 := Lib.hid (HT2.out.kept hb4)
    have V4 := V2.kept hb4
    have HZ4 := Lib.hid (HZ2.out.kept hb4)
    have HL4 := Lib.hid (HL2.out.trans (hb4.mono HL2.out.size))
    clear X4 z4 g4 hb4 HT2 V2 HZ2 HL2 E2 hgv3 hwg
    generalize w3.heap.size + 1 = gm at *
    generalize w3.heap.size = gs at *
    rotate_left
    (with_reducible (refine tr_run (v := ?_) (w' := ?_) rfl ?_ ?_ ?_ ?_); rotate_left 2; (first | exact wanted_none rfl | exact wanted_on rfl rfl rfl); (go_simp; refine ⟨?_, ?_⟩ <;> with_reducible rfl); (exact ⟨E2.alloc _, V2.alloc _⟩); simp only [Act.put, List.setIfInBounds_toArray, List.set_cons_zero, List.set_cons_succ])
    (with_reducible (refine tr_run (v := ?_) (w' := ?_) rfl ?_ ?_ ?_ ?_); rotate_left 2; (first | exact wanted_none rfl | exact wanted_on rfl rfl rfl); (go_simp; refine ⟨?_, ?_⟩ <;> with_reducible rfl); (exact ⟨(E2.alloc _).alloc _, (V2.alloc _).alloc _⟩); simp only [Act.put, List.setIfInBounds_toArray, List.set_cons_zero, List.set_cons_succ])
    (with_reducible (refine tr_free (v := ?_) rfl ?_ ?_ ?_); rotate_left; (first | exact wanted_none rfl | exact wanted_on rfl rfl rfl); (intro w'; go_simp; with_reducible rfl); simp only [Act.put, List.setIfInBounds_toArray, List.set_cons_zero, List.set_cons_succ])
    refine tr_wr_part (cs := mcells (om t k seq T 0 [t.own.id]) (some ⟨w3.heap.size + 1, 0, none⟩) 1 1) rfl rfl 38 (.tmp 12) (.tmp 60) rfl (off := 0) rfl ((Blk.new w3 _ _).alloc _) rfl (Nat.le_refl _) (by kernel_rfl) (by rw [← Array.all_toList]; rfl) ?_
    intro w4 X4 z4 g4
    simp only [Act.put, List.setIfInBounds_toArray, List.set_cons_zero, List.set_cons_succ]
    refine tr_nil ?_
    have XS : Blk w4 (w3.heap.size + 1) 3 #[.int .i64 t.own.id] := (Blk.at_new _ _ _ (by simp)).grown g4 (by simp)
    have XM : Blk w4 w3.heap.size 38 (mcells (om t k seq T 0 [t.own.id]) (some ⟨w3.heap.size + 1, 0, none⟩) 1 1) := blk_whole X4 rfl
    have hb4 : Below w3.heap.size w3 w4 := (((Below.refl w3.heap.size w3).alloc (Nat.le_refl _) _).alloc (by simp) _).grown g4 (by simp; omega) (fun q hq => by injection hq with hq; omega)
    have NE : Hid (w3.heap.size ≠ w3.heap.size + 1 ∧ w.heap.size < w3.heap.size + 1 ∧ w.heap.size < w3.heap.size ∧ gv ≠ w3.heap.size) := Lib.hid ⟨by omega, by omega, by omega, by omega⟩
    have HT4 := Lib.hid (HT2.out.kept hb4)
    have V4 := V2.kept hb4
    have HZ4 := Lib.hid (HZ2.out.kept hb4)
    have HL4 := Lib.hid (HL2.out.trans (hb4.mono HL2.out.size))
    clear X4 z4 g4 hb4 HT2 V2 HZ2 HL2 E2 hgv3 hwg
    generalize w3.heap.size + 1 = gs at *
    generalize w3.heap.size = gm at *
    all_goals
      have v7 := V4.vec.2.2.2.2.2.2.2
      have v4 := V4.vec.2.2.2.2.1
      have HAW : Hid (∀ ad : Addr, (some ⟨gs, 0, none⟩ : Option Addr) = some ad → w.heap.size < ad.block) := Lib.hid fun ad h => by injection h with h; subst h; exact NE.out.2.1
      have HCAP : Hid (([t.own.id] : List Int).length ≤ 1) := Lib.hid (Nat.le_refl _)
      have PA : Path w4 [] (some ⟨gs, 0, none⟩) [t.own.id] := fun _ => ⟨⟨gs, 0, none⟩, rfl, XS.lt, by simp, fun j x hx => by
        have h1 := blk_cells XS j (.int .i64 x) (by
          cases j with
          | zero => simp at hx; subst hx; rfl
          | succ j => simp at hx)
        exact h1⟩
      have HPA := Lib.hid PA
      have XMz := XM
      clear XS V4 PA XM
      go_wp2_with fail
      clear v7 v4
      have ck := fun W (hr : Reads W W.heap.size 1 ((some ⟨gs, 0, none⟩)) (1) (vs ((om t k seq T 0 [t.own.id])).path)) => check_m ((om t k seq T 0 [t.own.id])) ((some ⟨gs, 0, none⟩)) (1) (1) W hr (rfl) (by simp [maxLen])
      have HCK := Lib.hid ck
      clear ck
      have HPD : Hid (Path w4.drew [] ((some ⟨gs, 0, none⟩)) ((om t k seq T 0 [t.own.id])).path) := Lib.hid HPA.out
      have HZD : Hid (Blk w4.drew w.heap.size 38 (mcells zeroM none 0 0)) := Lib.hid HZ4.out
      have HLD : Hid (Below w.heap.size w w4.drew) := Lib.hid HL4.out.drew
      refine wp_region_tree [4] (.take 0 (.one 1 (.one 2 (.free 3 (.wr 4 (.free 5 .nil)))))) (fun w' => Blk w' gm 38 (mcells ((om t k seq T 0 [t.own.id])) ((some ⟨gs, 0, none⟩)) (1) (1))) (by kernel_rfl) (by kernel_rfl) (fun _ _ _ _ _ h => h) XMz ?_
      have XMd : Blk w4.drew gm 38 (mcells ((om t k seq T 0 [t.own.id])) ((some ⟨gs, 0, none⟩)) (1) (1)) := XMz
      clear XMz HPA HZ4 HL4
      generalize w4.drew = wd at *
      (refine tr_take (v := .agg (mcells ((om t k seq T 0 [t.own.id])) ((some ⟨gs, 0, none⟩)) (1) (1))) rfl ?_ (fun w' hw' => run_load_whole_d 38 (.tmp 12) rfl rfl (hw') Try.underlying38 rfl (by kernel_rfl)) ?_; (first | exact wanted_none rfl | exact wanted_on rfl rfl rfl); simp only [Act.put, List.setIfInBounds_toArray, List.set_cons_zero, List.set_cons_succ])
      refine tr_run (v := .agg (mcells ((om t k seq T 0 [t.own.id])) ((some ⟨gs, 0, none⟩)) (1) (1))) rfl ?_ (run_load_whole_d 38 (.tmp 12) rfl rfl XMd Try.underlying38 rfl (by kernel_rfl)) XMd ?_
      (first | exact wanted_none rfl | exact wanted_on rfl rfl rfl)
      simp only [Act.put, List.setIfInBounds_toArray, List.set_cons_zero, List.set_cons_succ]
      (with_reducible (refine tr_call 15 ?_ rfl ?_ ?_ ?_); rotate_left; (first | exact wanted_none rfl | exact wanted_on rfl rfl rfl); (go_simp; with_reducible rfl))
      refine (HCK.out wd (by have := HPD.out.reads; rwa [show ((om t k seq T 0 [t.own.id])).path.length = (1) from rfl] at this)).mono ?_
      rintro e w8 ⟨rfl, b8⟩
      refine ⟨_, rfl, XMd.kept b8, ?_⟩
      simp only [Act.put, List.setIfInBounds_toArray, List.set_cons_zero, List.set_cons_succ]
      have Z8 := HZD.out.kept b8
      have HP8 := Lib.hid (HPD.out.fr (S' := []) (Fr.be b8) (by simp))
      have HL8 := Lib.hid (HLD.out.trans (b8.mono HLD.out.size))
      clear b8 XMd HPD HZD HLD HCK
      (with_reducible (refine tr_free (v := ?_) rfl ?_ ?_ ?_); rotate_left; (first | exact wanted_none rfl | exact wanted_on rfl rfl rfl); (intro w'; go_simp; with_reducible rfl); simp only [Act.put, List.setIfInBounds_toArray, List.set_cons_zero, List.set_cons_succ])
      refine tr_wr_part (cs := mcells ((om t k seq T 0 [t.own.id])) ((some ⟨gs, 0, none⟩)) (1) (1)) rfl rfl 38 (.tmp 8) (.tmp 85) rfl (off := 0) rfl Z8 rfl (Nat.le_refl _) (by kernel_rfl) (by rw [← Array.all_toList]; rfl) ?_
      intro w9 X9 z9 g9
      simp only [Act.put, List.setIfInBounds_toArray, List.set_cons_zero, List.set_cons_succ]
      have X9' : Blk w9 w.heap.size 38 (mcells ((om t k seq T 0 [t.own.id])) ((some ⟨gs, 0, none⟩)) (1) (1)) := blk_whole X9 rfl
      have L9 := HL8.out.trans (below_one g9 HL8.out.size (Nat.le_refl _))
      have P9 : Path w9 [] ((some ⟨gs, 0, none⟩)) ((om t k seq T 0 [t.own.id])).path := fun h1 => by
        obtain ⟨ad, h2, h3, h4, h5⟩ := HP8.out h1
        refine ⟨ad, h2, Nat.lt_of_lt_of_le h3 g9.size, h4, fun j x hx => ?_⟩
        have hne := HAW.out ad h2
        rw [← h5 j x hx]
        have hbl : ((ad.add j)).block = ad.block := block_of_add _ _
        unfold World.cell?
        rw [hbl, g9.block ad.block h3 (by simp; omega)]
      have HE := Lib.hid (And.intro X9' (And.intro L9 P9))
      clear X9 X9' L9 P9 z9 g9 Z8
      (with_reducible (refine tr_free (v := ?_) rfl ?_ ?_ ?_); rotate_left; (first | exact wanted_none rfl | exact wanted_on rfl rfl rfl); (intro w'; go_simp; with_reducible rfl); simp only [Act.put, List.setIfInBounds_toArray, List.set_cons_zero, List.set_cons_succ])
      refine tr_nil ?_
      go_wp2_with fail
      exact out_end rfl rfl rfl HE.out.1 ⟨_, _, _, rfl, by exact (rfl).symm, HE.out.2.2, HCAP.out, fun ad had => Nat.le_of_lt (HAW.out ad had), HE.out.2.1⟩
  · simp only [if_neg hT0]
    obtain ⟨kt, hkt⟩ : ∃ kt : Nat, T.at_ = (kt : Int) := ⟨T.at_.toNat, by omega⟩
    have hktn : kt < t.es.length := by have := HTL.out; omega
    obtain ⟨et, het⟩ : ∃ et, t.es[kt]? = some et := ⟨_, List.getElem?_eq_getElem hktn⟩
    have hpth : (match t.es[T.at_.toNat]? with | some e => e.path | none => []) = et.path := by rw [hkt, Int.toNat_natCast, het]
    rw [hpth]
    have dT : 0 ≤ T.at_ := by omega
    have HKT := Lib.hid hkt
    have HET := Lib.hid het
    clear hT0 hkt het hpth
    go_enter Try.func10, Try.ntmps10
    go_wp2_with fail
    generalize w.alloc (.cells #[.int .i64 0, .int .i64 0, .int .i64 0, .int .i64 0, .int .i64 0, .int .i64 0, .int .i64 0, .int .i64 0, .int .i64 0, .int .i64 0, .int .i64 0, .int .i64 0, .int .i64 0, .int .i64 0, .int .i64 0, .slice none 0 0] 38) = w0 at *
    refine HB.out.mono ?_
    rintro e w1 ⟨v1, rfl, own1, b1⟩
    rw [show T.val = .agg #[.int .i64 T.root.one, .int .i64 T.root.cls, .int .i64 T.root.two, .int .i64 T.root.id, .int .i64 T.steps, .int .i64 T.src, .int .i64 T.port, .int .i64 T.at_] from rfl]
    have L1 := b1.alloc b1.size (.cells #[.int .i64 T.root.one, .int .i64 T.root.cls, .int .i64 T.root.two, .int .i64 T.root.id, .int .i64 T.steps, .int .i64 T.src, .int .i64 T.port, .int .i64 T.at_] 31)
    have V1 := Blk.new w1 31 #[.int .i64 T.root.one, .int .i64 T.root.cls, .int .i64 T.root.two, .int .i64 T.root.id, .int .i64 T.steps, .int .i64 T.src, .int .i64 T.port, .int .i64 T.at_]
    have own2 := own1.alloc (.cells #[.int .i64 T.root.one, .int .i64 T.root.cls, .int .i64 T.root.two, .int .i64 T.root.id, .int .i64 T.steps, .int .i64 T.src, .int .i64 T.port, .int .i64 T.at_] 31)
    have hrow : ∃ A c, v1 = .slice A t.es.length c ∧ ∃ g, A = some ⟨g, 0, none⟩ ∧ (w1.alloc (.cells #[.int .i64 T.root.one, .int .i64 T.root.cls, .int .i64 T.root.two, .int .i64 T.root.id, .int .i64 T.steps, .int .i64 T.src, .int .i64 T.port, .int .i64 T.at_] 31)).cell? ⟨g, k, none⟩ = some (.int .i64 1) := by
      rcases own2.2 with ⟨_, h2⟩ | ⟨g, cap, cur, hv, hg, hh, hle, _, hsz, ht⟩
      · omega
      · refine ⟨_, cap, hv, g, rfl, ?_⟩
        have hb : Blk (w1.alloc (.cells #[.int .i64 T.root.one, .int .i64 T.root.cls, .int .i64 T.root.two, .int .i64 T.root.id, .int .i64 T.steps, .int .i64 T.src, .int .i64 T.port, .int .i64 T.at_] 31)) g 3 cur := hh
        rw [hb.cell]
        have h3 := HRO.out
        rw [← ht, List.getElem?_take] at h3
        split at h3
        · simpa using h3
        · cases h3
    obtain ⟨A1, c1, rfl, g1, rfl, z1⟩ := hrow
    have HT1 := Lib.hid (HT0.out.kept L1)
    have Z1 := HZ0.out.kept L1
    have HL1 := Lib.hid (HL0.out.trans (L1.mono HL0.out.size))
    have hwz : w.heap.size < w0.heap.size := HZ0.out.lt
    have hw1z : w.heap.size < w1.heap.size := Nat.lt_of_lt_of_le hwz b1.size
    have HGV : Hid (w.heap.size ≠ w1.heap.size ∧ w.heap.size ≤ w1.heap.size) := Lib.hid ⟨by omega, by omega⟩
    clear own1 own2 b1 L1 HB HT0 HZ0 HL0
    go_wp2_with fail
    clear z1 dR
    generalize w1.alloc (.cells #[.int .i64 T.root.one, .int .i64 T.root.cls, .int .i64 T.root.two, .int .i64 T.root.id, .int .i64 T.steps, .int .i64 T.src, .int .i64 T.port, .int .i64 T.at_] 31) = w2 at *
    generalize w1.heap.size = gv at *
    have HT2 := Lib.hid (HT1.out.kept (Below.refl _ _).drew)
    have V2 : Blk w2.drew gv 31 #[.int .i64 T.root.one, .int .i64 T.root.cls, .int .i64 T.root.two, .int .i64 T.root.id, .int .i64 T.steps, .int .i64 T.src, .int .i64 T.port, .int .i64 T.at_] := V1
    have HL2 : Hid (Below w.heap.size w w2.drew) := Lib.hid HL1.out.drew
    have HZ2 : Hid (Blk w2.drew w.heap.size 38 (mcells zeroM none 0 0)) := Lib.hid Z1
    have E2 := HT2.out.box
    refine wp_region_tree [21] (.free 0 (.free 1 (.free 2 (.take 3 (.free 4 (.free 5 (.free 6 (.free 7 (.free 8 (.take 9 (.free 10 (.free 11 (.take 12 (.free 13 (.free 14 (.free 15 (.free 16 (.take 17 (.two 18 20 (.free 19 (.one 20 (.wr 21 .nil))) (.one 18 (.free 19 (.wr 21 .nil)))))))))))))))))))))) (fun w' => Blk w' b.g 75 (tcs b t) ∧ Blk w' gv 31 #[.int .i64 T.root.one, .int .i64 T.root.cls, .int .i64 T.root.two, .int .i64 T.root.id, .int .i64 T.steps, .int .i64 T.src, .int .i64 T.port, .int .i64 T.at_]) (by kernel_rfl) (by kernel_rfl) (fun _ _ _ _ _ h => h) ⟨E2, V2⟩ ?_
    clear HT1 HL1 Z1 V1
    generalize w2.drew = w3 at *
    have hwg : w.heap.size < w3.heap.size := HZ2.out.lt
    have hgv3 : gv < w3.heap.size := V2.lt
    (with_reducible (refine tr_free (v := ?_) rfl ?_ ?_ ?_); rotate_left; (first | exact wanted_none rfl | exact wanted_on rfl rfl rfl); (intro w'; go_simp; with_reducible rfl); simp only [Act.put, List.setIfInBounds_toArray, List.set_cons_zero, List.set_cons_succ])
    (with_reducible (refine tr_free (v := ?_) rfl ?_ ?_ ?_); rotate_left; (first | exact wanted_none rfl | exact wanted_on rfl rfl rfl); (intro w'; go_simp; with_reducible rfl); simp only [Act.put, List.setIfInBounds_toArray, List.set_cons_zero, List.set_cons_succ])
    (with_reducible (refine tr_free (v := ?_) rfl ?_ ?_ ?_); rotate_left; (first | exact wanted_none rfl | exact wanted_on rfl rfl rfl); (intro w'; go_simp; with_reducible rfl); simp only [Act.put, List.setIfInBounds_toArray, List.set_cons_zero, List.set_cons_succ])
    (with_reducible (refine tr_take (v := ?_) rfl ?_ ?_ ?_); rotate_left; (first | exact wanted_none rfl | exact wanted_on rfl rfl rfl); (rintro w' ⟨u1, u2⟩; (have q0 := u1.cellOf (v := .int .i64 t.dom) 0 rfl); go_simp; with_reducible rfl); simp only [Act.put, List.setIfInBounds_toArray, List.set_cons_zero, List.set_cons_succ])
    iterate 5 (with_reducible (refine tr_free (v := ?_) rfl ?_ ?_ ?_); rotate_left; (first | exact wanted_none rfl | exact wanted_on rfl rfl rfl); (intro w'; go_simp; with_reducible rfl); simp only [Act.put, List.setIfInBounds_toArray, List.set_cons_zero, List.set_cons_succ])
    (with_reducible (refine tr_take (v := ?_) rfl ?_ ?_ ?_); rotate_left; (first | exact wanted_none rfl | exact wanted_on rfl rfl rfl); (rintro w' ⟨u1, u2⟩; (have q4 := u1.cellOf (v := .int .i64 t.own.id) 4 rfl); go_simp; with_reducible rfl); simp only [Act.put, List.setIfInBounds_toArray, List.set_cons_zero, List.set_cons_succ])
    (with_reducible (refine tr_free (v := ?_) rfl ?_ ?_ ?_); rotate_left; (first | exact wanted_none rfl | exact wanted_on rfl rfl rfl); (intro w'; go_simp; with_reducible rfl); simp only [Act.put, List.setIfInBounds_toArray, List.set_cons_zero, List.set_cons_succ])
    (with_reducible (refine tr_free (v := ?_) rfl ?_ ?_ ?_); rotate_left; (first | exact wanted_none rfl | exact wanted_on rfl rfl rfl); (intro w'; go_simp; with_reducible rfl); simp only [Act.put, List.setIfInBounds_toArray, List.set_cons_zero, List.set_cons_succ])
    (with_reducible (refine tr_take (v := ?_) rfl ?_ ?_ ?_); rotate_left; (first | exact wanted_none rfl | exact wanted_on rfl rfl rfl); (rintro w' ⟨u1, u2⟩; (obtain ⟨q0, q1, q2, q3, q4, q5, q6, q7⟩ := u2.vec); go_simp; with_reducible rfl); simp only [Act.put, List.setIfInBounds_toArray, List.set_cons_zero, List.set_cons_succ])
    iterate 4 (with_reducible (refine tr_free (v := ?_) rfl ?_ ?_ ?_); rotate_left; (first | exact wanted_none rfl | exact wanted_on rfl rfl rfl); (intro w'; go_simp; with_reducible rfl); simp only [Act.put, List.setIfInBounds_toArray, List.set_cons_zero, List.set_cons_succ])
    (with_reducible (refine tr_take (v := ?_) rfl ?_ ?_ ?_); rotate_left; (first | exact wanted_none rfl | exact wanted_on rfl rfl rfl); (rintro w' ⟨u1, u2⟩; (have q4 := u1.cellOf (v := .int .i64 t.own.id) 4 rfl); go_simp; with_reducible rfl); simp only [Act.put, List.setIfInBounds_toArray, List.set_cons_zero, List.set_cons_succ])
    refine tr_two ?_ ?_
    (with_reducible (refine tr_run (v := ?_) (w' := ?_) rfl ?_ ?_ ?_ ?_); rotate_left 2; (first | exact wanted_none rfl | exact wanted_on rfl rfl rfl); (go_simp; refine ⟨?_, ?_⟩ <;> with_reducible rfl); (exact ⟨E2.alloc _, V2.alloc _⟩); simp only [Act.put, List.setIfInBounds_toArray, List.set_cons_zero, List.set_cons_succ])
    (with_reducible (refine tr_free (v := ?_) rfl ?_ ?_ ?_); rotate_left; (first | exact wanted_none rfl | exact wanted_on rfl rfl rfl); (intro w'; go_simp; with_reducible rfl); simp only [Act.put, List.setIfInBounds_toArray, List.set_cons_zero, List.set_cons_succ])
    (with_reducible (refine tr_run (v := ?_) (w' := ?_) rfl ?_ ?_ ?_ ?_); rotate_left 2; (first | exact wanted_none rfl | exact wanted_on rfl rfl rfl); (go_simp; refine ⟨?_, ?_⟩ <;> with_reducible rfl); (exact ⟨(E2.alloc _).alloc _, (V2.alloc _).alloc _⟩); simp only [Act.put, List.setIfInBounds_toArray, List.set_cons_zero, List.set_cons_succ])
    refine tr_wr_part (cs := mcells (om t k seq T 0 [t.own.id]) (some ⟨w3.heap.size, 0, none⟩) 1 1) rfl rfl 38 (.tmp 12) (.tmp 60) rfl (off := 0) rfl (Blk.at_new _ _ _ (by simp)) rfl (Nat.le_refl _) (by kernel_rfl) (by rw [← Array.all_toList]; rfl) ?_
    intro w4 X4 z4 g4
    simp only [Act.put, List.setIfInBounds_toArray, List.set_cons_zero, List.set_cons_succ]
    refine tr_nil ?_
    have XS : Blk w4 w3.heap.size 3 #[.int .i64 t.own.id] := ((Blk.new w3 _ _).alloc _).grown g4 (by simp)
    have XM : Blk w4 (w3.heap.size + 1) 38 (mcells (om t k seq T 0 [t.own.id]) (some ⟨w3.heap.size, 0, none⟩) 1 1) := blk_whole X4 rfl
    have hb4 : Below w3.heap.size w3 w4 := (((Below.refl w3.heap.size w3).alloc (Nat.le_refl _) _).alloc (by simp) _).grown g4 (by simp; omega) (fun q hq => by injection hq with hq; omega)
    have NE : Hid (w3.heap.size + 1 ≠ w3.heap.size ∧ w.heap.size < w3.heap.size ∧ w.heap.size < w3.heap.size + 1 ∧ gv ≠ w3.heap.size + 1) := Lib.hid ⟨by omega, by omega, by omega, by omega⟩
    have HT4 := Lib.hid (HT2.out.kept hb4)
    have V4 := V2.kept hb4
    have HZ4 := Lib.hid (HZ2.out.kept hb4)
    have HL4 := Lib.hid (HL2.out.trans (hb4.mono HL2.out.size))
    clear X4 z4 g4 hb4 HT2 V2 HZ2 HL2 E2 hgv3 hwg
    generalize w3.heap.size + 1 = gm at *
    generalize w3.heap.size = gs at *
    rotate_left
    (with_reducible (refine tr_run (v := ?_) (w' := ?_) rfl ?_ ?_ ?_ ?_); rotate_left 2; (first | exact wanted_none rfl | exact wanted_on rfl rfl rfl); (go_simp; refine ⟨?_, ?_⟩ <;> with_reducible rfl); (exact ⟨E2.alloc _, V2.alloc _⟩); simp only [Act.put, List.setIfInBounds_toArray, List.set_cons_zero, List.set_cons_succ])
    (with_reducible (refine tr_run (v := ?_) (w' := ?_) rfl ?_ ?_ ?_ ?_); rotate_left 2; (first | exact wanted_none rfl | exact wanted_on rfl rfl rfl); (go_simp; refine ⟨?_, ?_⟩ <;> with_reducible rfl); (exact ⟨(E2.alloc _).alloc _, (V2.alloc _).alloc _⟩); simp only [Act.put, List.setIfInBounds_toArray, List.set_cons_zero, List.set_cons_succ])
    (with_reducible (refine tr_free (v := ?_) rfl ?_ ?_ ?_); rotate_left; (first | exact wanted_none rfl | exact wanted_on rfl rfl rfl); (intro w'; go_simp; with_reducible rfl); simp only [Act.put, List.setIfInBounds_toArray, List.set_cons_zero, List.set_cons_succ])
    refine tr_wr_part (cs := mcells (om t k seq T 0 [t.own.id]) (some ⟨w3.heap.size + 1, 0, none⟩) 1 1) rfl rfl 38 (.tmp 12) (.tmp 60) rfl (off := 0) rfl ((Blk.new w3 _ _).alloc _) rfl (Nat.le_refl _) (by kernel_rfl) (by rw [← Array.all_toList]; rfl) ?_
    intro w4 X4 z4 g4
    simp only [Act.put, List.setIfInBounds_toArray, List.set_cons_zero, List.set_cons_succ]
    refine tr_nil ?_
    have XS : Blk w4 (w3.heap.size + 1) 3 #[.int .i64 t.own.id] := (Blk.at_new _ _ _ (by simp)).grown g4 (by simp)
    have XM : Blk w4 w3.heap.size 38 (mcells (om t k seq T 0 [t.own.id]) (some ⟨w3.heap.size + 1, 0, none⟩) 1 1) := blk_whole X4 rfl
    have hb4 : Below w3.heap.size w3 w4 := (((Below.refl w3.heap.size w3).alloc (Nat.le_refl _) _).alloc (by simp) _).grown g4 (by simp; omega) (fun q hq => by injection hq with hq; omega)
    have NE : Hid (w3.heap.size ≠ w3.heap.size + 1 ∧ w.heap.size < w3.heap.size + 1 ∧ w.heap.size < w3.heap.size ∧ gv ≠ w3.heap.size) := Lib.hid ⟨by omega, by omega, by omega, by omega⟩
    have HT4 := Lib.hid (HT2.out.kept hb4)
    have V4 := V2.kept hb4
    have HZ4 := Lib.hid (HZ2.out.kept hb4)
    have HL4 := Lib.hid (HL2.out.trans (hb4.mono HL2.out.size))
    clear X4 z4 g4 hb4 HT2 V2 HZ2 HL2 E2 hgv3 hwg
    generalize w3.heap.size + 1 = gs at *
    generalize w3.heap.size = gm at *
    all_goals
      have v7 := V4.vec.2.2.2.2.2.2.2
      have v4 := V4.vec.2.2.2.2.1
      have m14 := XM.cellOf (v := .int .i64 0) 14 rfl
      have fzM := XM.frozen
      have sgm := XM.lt
      go_wp2_with fail
      have gr5 : w4.grownBy (w4.setCell ⟨gm, 14, none⟩ (.int .i64 (wrap64 (T.steps + 1)))) (some gm) := gr_set (grownBy_refl _ _) 14 _
      have X5 : Blk (w4.setCell ⟨gm, 14, none⟩ (.int .i64 (wrap64 (T.steps + 1)))) gm 38 (mcells (om t k seq T (wrap64 (T.steps + 1)) [t.own.id]) (some ⟨gs, 0, none⟩) 1 1) := XM.set_ 14 _
      have V5 := V4.grown gr5 (by have := NE.out; simp; omega)
      have Z5 := HZ4.out.grown gr5 (by have := NE.out; simp; omega)
      have hnb : ∀ g ∈ b.all, g ≠ gm := fun g hg e => by have := HPB.out g hg; have := NE.out; omega
      have T5 : TAt (w4.setCell ⟨gm, 14, none⟩ (.int .i64 (wrap64 (T.steps + 1)))) b t ps := tat_far1 HT4.out gr5 hnb (fun q e A c he hp h1 ad had => by
        have := HPM.out q e A c he hp h1 ad had
        have := NE.out
        omega)
      have L5 := HL4.out.trans (below_one gr5 (Nat.le_of_lt (by have := NE.out; have := HZ4.out.lt; omega)) (by have := NE.out; omega))
      have P5 := T5.pat
      have E5 := T5.box
      have H5 := Lib.hid (And.intro X5 (And.intro Z5 (And.intro T5 L5)))
      clear v7 v4 m14 fzM gr5 X5 Z5 T5 L5 XM XS V4 HZ4 HT4 HL4 hnb
      generalize w4.setCell ⟨gm, 14, none⟩ (.int .i64 (wrap64 (T.steps + 1))) = w5 at *
      obtain ⟨Ap, cp, hps, hcp, hpp⟩ := H5.out.2.2.1.pth kt et HET.out
      have HPS := Lib.hid hps
      have HPP := Lib.hid hpp
      clear hps hpp
      refine wp_region_tree [17] (.free 0 (.free 1 (.free 2 (.take 3 (.free 4 (.take 5 (.free 6 (.take 7 (.free 9 (.free 10 (.free 11 (.free 12 (.take 13 (.two 8 14 (.one 14 (.one 15 (.free 16 (.wr 17 .nil)))) (.one 8 (.one 15 (.free 16 (.wr 17 .nil)))))))))))))))))) (fun w' => Blk w' b.g 75 (tcs b t) ∧ Blk w' gv 31 #[.int .i64 T.root.one, .int .i64 T.root.cls, .int .i64 T.root.two, .int .i64 T.root.id, .int .i64 T.steps, .int .i64 T.src, .int .i64 T.port, .int .i64 T.at_] ∧ Blk w' b.gp 32 ps.toArray) (by kernel_rfl) (by kernel_rfl) (fun _ _ _ _ _ h => h) ⟨E5, V5, P5⟩ ?_
      have E6 : Blk w5.drew b.g 75 (tcs b t) := E5
      have V6 : Blk w5.drew gv 31 #[.int .i64 T.root.one, .int .i64 T.root.cls, .int .i64 T.root.two, .int .i64 T.root.id, .int .i64 T.steps, .int .i64 T.src, .int .i64 T.port, .int .i64 T.at_] := V5
      have P6 : Blk w5.drew b.gp 32 ps.toArray := P5
      have H6 : Hid (Blk w5.drew gm 38 (mcells (om t k seq T (wrap64 (T.steps + 1)) [t.own.id]) (some ⟨gs, 0, none⟩) 1 1) ∧ Blk w5.drew w.heap.size 38 (mcells zeroM none 0 0) ∧ Below w.heap.size w w5.drew) := Lib.hid ⟨H5.out.1, H5.out.2.1, H5.out.2.2.2.drew⟩
      have HR6 : Hid (Reads w5.drew w5.drew.heap.size 1 Ap et.path.length (vs et.path)) := Lib.hid HPP.out.reads
      clear H5 HPP E5 V5 P5
      generalize w5.drew = w6 at *
      iterate 3 (with_reducible (refine tr_free (v := ?_) rfl ?_ ?_ ?_); rotate_left; (first | exact wanted_none rfl | exact wanted_on rfl rfl rfl); (intro w'; go_simp; with_reducible rfl); simp only [Act.put, List.setIfInBounds_toArray, List.set_cons_zero, List.set_cons_succ])
      (with_reducible (refine tr_take (v := ?_) rfl ?_ ?_ ?_); rotate_left; (first | exact wanted_none rfl | exact wanted_on rfl rfl rfl); (rintro w' ⟨u1, u2, u3⟩; (have q8 := u1.cellOf (v := .slice (some ⟨b.gp, 0, none⟩) t.es.length t.es.length) 8 rfl); go_simp; with_reducible rfl); simp only [Act.put, List.setIfInBounds_toArray, List.set_cons_zero, List.set_cons_succ])
      (with_reducible (refine tr_free (v := ?_) rfl ?_ ?_ ?_); rotate_left; (first | exact wanted_none rfl | exact wanted_on rfl rfl rfl); (intro w'; go_simp; with_reducible rfl); simp only [Act.put, List.setIfInBounds_toArray, List.set_cons_zero, List.set_cons_succ])
      (with_reducible (refine tr_take (v := ?_) rfl ?_ ?_ ?_); rotate_left; (first | exact wanted_none rfl | exact wanted_on rfl rfl rfl); (rintro w' ⟨u1, u2, u3⟩; (have q7 := u2.vec.2.2.2.2.2.2.2); (rw [HKT.out] at q7); go_simp; with_reducible rfl); simp only [Act.put, List.setIfInBounds_toArray, List.set_cons_zero, List.set_cons_succ])
      (with_reducible (refine tr_free (v := ?_) rfl ?_ ?_ ?_); rotate_left; (first | exact wanted_none rfl | exact wanted_on rfl rfl rfl); (intro w'; go_simp; with_reducible rfl); simp only [Act.put, List.setIfInBounds_toArray, List.set_cons_zero, List.set_cons_succ])
      (with_reducible (refine tr_take (v := ?_) rfl ?_ ?_ ?_); rotate_left; (first | exact wanted_none rfl | exact wanted_on rfl rfl rfl); (rintro w' ⟨u1, u2, u3⟩; (have q9 := u3.cellOf (v := .slice Ap et.path.length cp) kt (by simpa using HPS.out)); go_simp; with_reducible rfl); simp only [Act.put, List.setIfInBounds_toArray, List.set_cons_zero, List.set_cons_succ])
      iterate 4 (with_reducible (refine tr_free (v := ?_) rfl ?_ ?_ ?_); rotate_left; (first | exact wanted_none rfl | exact wanted_on rfl rfl rfl); (intro w'; go_simp; with_reducible rfl); simp only [Act.put, List.setIfInBounds_toArray, List.set_cons_zero, List.set_cons_succ])
      (with_reducible (refine tr_take (v := ?_) rfl ?_ ?_ ?_); rotate_left; (first | exact wanted_none rfl | exact wanted_on rfl rfl rfl); (rintro w' ⟨u1, u2, u3⟩; (have q4 := u1.cellOf (v := .int .i64 t.own.id) 4 rfl); go_simp; with_reducible rfl); simp only [Act.put, List.setIfInBounds_toArray, List.set_cons_zero, List.set_cons_succ])
      have hpl := HPL.out et (List.mem_of_getElem? HET.out)
      have hsz6 : w.heap.size ≤ w6.heap.size := H6.out.2.2.size
      refine tr_two ?_ ?_
      (with_reducible (refine tr_call 21 ?_ rfl ?_ ?_ ?_); rotate_left; (first | exact wanted_none rfl | exact wanted_on rfl rfl rfl); (go_simp; with_reducible rfl))
      refine (clone_ints et.path Ap _ cp w6 HR6.out (by omega)).mono ?_
      rintro e w7 ⟨v7, rfl, own7, b7⟩
      refine ⟨v7, rfl, ⟨E6.kept b7, V6.kept b7, P6.kept b7⟩, ?_⟩
      simp only [Act.put, List.setIfInBounds_toArray, List.set_cons_zero, List.set_cons_succ]
      (with_reducible (refine tr_run (v := ?_) (w' := ?_) rfl ?_ ?_ ?_ ?_); rotate_left 2; (first | exact wanted_none rfl | exact wanted_on rfl rfl rfl); (go_simp; refine ⟨?_, ?_⟩ <;> with_reducible rfl); (exact ⟨(E6.kept b7).alloc _, (V6.kept b7).alloc _, (P6.kept b7).alloc _⟩); simp only [Act.put, List.setIfInBounds_toArray, List.set_cons_zero, List.set_cons_succ])
      refine tr_pushes_at 1 rfl rfl (.tmp 76) (.tmp 82) 32 rfl styN (cs := #[.int .i64 t.own.id]) rfl (by intro u hu; simp at hu; subst hu; rfl) rfl (own7.alloc _) rfl (Blk.new w7 3 _) (by omega) (by have := b7.size; simp; omega) ?_
      intro v8 w8 own8 bel8 gr8
      have hb8 : Below w6.heap.size w6 w8 := (b7.alloc b7.size _).trans bel8
      clear bel8 gr8 b7 own7
      rotate_left
      (with_reducible (refine tr_run (v := ?_) (w' := ?_) rfl ?_ ?_ ?_ ?_); rotate_left 2; (first | exact wanted_none rfl | exact wanted_on rfl rfl rfl); (go_simp; refine ⟨?_, ?_⟩ <;> with_reducible rfl); (exact ⟨E6.alloc _, V6.alloc _, P6.alloc _⟩); simp only [Act.put, List.setIfInBounds_toArray, List.set_cons_zero, List.set_cons_succ])
      (with_reducible (refine tr_call 21 ?_ rfl ?_ ?_ ?_); rotate_left; (first | exact wanted_none rfl | exact wanted_on rfl rfl rfl); (go_simp; with_reducible rfl))
      refine (clone_ints et.path Ap _ cp _ ((HR6.out.alloc (Nat.le_refl _) _).more (by simp)) (by omega)).mono ?_
      rintro e w7 ⟨v7, rfl, own7, b7⟩
      refine ⟨v7, rfl, ⟨(E6.alloc _).kept b7, (V6.alloc _).kept b7, (P6.alloc _).kept b7⟩, ?_⟩
      simp only [Act.put, List.setIfInBounds_toArray, List.set_cons_zero, List.set_cons_succ]
      refine tr_pushes_at 1 rfl rfl (.tmp 76) (.tmp 82) 32 rfl styN (cs := #[.int .i64 t.own.id]) rfl (by intro u hu; simp at hu; subst hu; rfl) rfl (ownsRow_mono_base own7 (B' := w6.heap.size) (by simp)) rfl ((Blk.new w6 3 _).kept b7) (by omega) (by have := b7.size; simp at this; omega) ?_
      intro v8 w8 own8 bel8 gr8
      have hb8 : Below w6.heap.size w6 w8 := (((Below.refl w6.heap.size w6).alloc (Nat.le_refl _) _).trans (b7.mono (by simp))).trans bel8
      clear bel8 gr8 b7 own7
      all_goals
        refine ⟨⟨E6.kept hb8, V6.kept hb8, P6.kept hb8⟩, ?_⟩
        simp only [Act.put, List.setIfInBounds_toArray, List.set_cons_zero, List.set_cons_succ]
        have hvs : vs et.path ++ #[Value.int .i64 t.own.id].toList = vs (et.path ++ [t.own.id]) := by simp [vs]
        have hln : et.path.length + 1 = (et.path ++ [t.own.id]).length := by simp
        rw [hvs] at own8
        have hlt8 := fun g hg => (ownsRow_lt own8 g hg).1
        obtain ⟨A8, c8, rfl, k8, rd8⟩ := ownsRow_reads own8
        have HAW : Hid (∀ ad : Addr, A8 = some ad → w.heap.size < ad.block ∧ ad.block ≠ gm) := Lib.hid fun ad h => by
          subst h
          rcases own8.2 with ⟨h4, _⟩ | ⟨g, cap, cur, h4, h5, h6, _⟩
          · cases h4
          · injection h4 with h4 _ _
            injection h4 with h4
            subst h4
            have h7 : gm < w6.heap.size := H6.out.1.lt
            have h8 := H6.out.2.1.lt
            exact ⟨by show w.heap.size < g; omega, by show g ≠ gm; omega⟩
        have HRD := Lib.hid rd8
        have HCAP : Hid ((et.path ++ [t.own.id]).length ≤ c8) := Lib.hid (by rw [← hln]; exact k8)
        have X8 := H6.out.1.kept hb8
        have m15 := X8.cellOf (v := .slice (some ⟨gs, 0, none⟩) 1 1) 15 rfl
        have fz8 := X8.frozen
        have H8 := Lib.hid (And.intro X8 (And.intro (H6.out.2.1.kept hb8) (H6.out.2.2.trans (hb8.mono H6.out.2.2.size))))
        clear own8 hlt8 rd8 k8 X8 hb8 H6 E6 V6 P6 HR6 hvs hln hpl hsz6
        (with_reducible (refine tr_free (v := ?_) rfl ?_ ?_ ?_); rotate_left; (first | exact wanted_none rfl | exact wanted_on rfl rfl rfl); (intro w'; go_simp; with_reducible rfl); simp only [Act.put, List.setIfInBounds_toArray, List.set_cons_zero, List.set_cons_succ])
        (with_reducible (refine tr_wr (w' := ?_) rfl ?_ ?_ ?_); rotate_left; (first | exact wanted_none rfl | exact wanted_on rfl rfl rfl); (go_simp; with_reducible rfl); simp only [Act.put, List.setIfInBounds_toArray, List.set_cons_zero, List.set_cons_succ])
        refine tr_nil ?_
        clear m15 fz8
        have gr9 : w8.grownBy (w8.setCell ⟨gm, 15, none⟩ (.slice A8 (et.path.length + 1) c8)) (some gm) := gr_set (grownBy_refl _ _) 15 _
        have XMz : Blk (w8.setCell ⟨gm, 15, none⟩ (.slice A8 (et.path.length + 1) c8)) gm 38 (mcells (om t k seq T (wrap64 (T.steps + 1)) (et.path ++ [t.own.id])) A8 (et.path.length + 1) c8) := H8.out.1.set_ 15 _
        have HZ4 := Lib.hid (H8.out.2.1.grown gr9 (by have := NE.out; simp; omega))
        have HL4 := Lib.hid (H8.out.2.2.trans (below_one gr9 H8.out.2.2.size (by have := NE.out; omega)))
        have PA8 : Path w8 [gm] A8 (et.path ++ [t.own.id]) := Path.of_reads HRD.out (Nat.le_refl _) (fun ad had => by simp; exact (HAW.out ad had).2)
        have HPA : Hid (Path (w8.setCell ⟨gm, 15, none⟩ (.slice A8 (et.path.length + 1) c8)) [] A8 (et.path ++ [t.own.id])) := Lib.hid ((PA8.fr (S' := [gm]) (Fr.gr gr9 (by simp)) (by simp)).less (by simp))
        clear gr9 PA8 HRD H8
        generalize w8.setCell ⟨gm, 15, none⟩ (.slice A8 (et.path.length + 1) c8) = w9 at *
        have HAWX := HAW
        have HAW : Hid (∀ ad : Addr, A8 = some ad → w.heap.size < ad.block) := Lib.hid fun ad h => (HAWX.out ad h).1
        have HPLE : Hid (et.path.length + 1 ≤ maxLen) := Lib.hid (by have := HPL.out et (List.mem_of_getElem? HET.out); simp [maxLen]; omega)
        have HLN : Hid ((om t k seq T (wrap64 (T.steps + 1)) (et.path ++ [t.own.id])).path.length = et.path.length + 1) := Lib.hid (by show (et.path ++ [t.own.id]).length = _; simp)
        go_wp2_with fail
        have ck := fun W (hr : Reads W W.heap.size 1 (A8) ((et.path.length + 1)) (vs ((om t k seq T (wrap64 (T.steps + 1)) (et.path ++ [t.own.id]))).path)) => check_m ((om t k seq T (wrap64 (T.steps + 1)) (et.path ++ [t.own.id]))) (A8) ((et.path.length + 1)) (c8) W hr (HLN.out) (HPLE.out)
        have HCK := Lib.hid ck
        clear ck
        have HPD : Hid (Path w9.drew [] (A8) ((om t k seq T (wrap64 (T.steps + 1)) (et.path ++ [t.own.id]))).path) := Lib.hid HPA.out
        have HZD : Hid (Blk w9.drew w.heap.size 38 (mcells zeroM none 0 0)) := Lib.hid HZ4.out
        have HLD : Hid (Below w.heap.size w w9.drew) := Lib.hid HL4.out.drew
        refine wp_region_tree [4] (.take 0 (.one 1 (.one 2 (.free 3 (.wr 4 (.free 5 .nil)))))) (fun w' => Blk w' gm 38 (mcells ((om t k seq T (wrap64 (T.steps + 1)) (et.path ++ [t.own.id]))) (A8) ((et.path.length + 1)) (c8))) (by kernel_rfl) (by kernel_rfl) (fun _ _ _ _ _ h => h) XMz ?_
        have XMd : Blk w9.drew gm 38 (mcells ((om t k seq T (wrap64 (T.steps + 1)) (et.path ++ [t.own.id]))) (A8) ((et.path.length + 1)) (c8)) := XMz
        clear XMz HPA HZ4 HL4
        generalize w9.drew = wd at *
        (refine tr_take (v := .agg (mcells ((om t k seq T (wrap64 (T.steps + 1)) (et.path ++ [t.own.id]))) (A8) ((et.path.length + 1)) (c8))) rfl ?_ (fun w' hw' => run_load_whole_d 38 (.tmp 12) rfl rfl (hw') Try.underlying38 rfl (by kernel_rfl)) ?_; (first | exact wanted_none rfl | exact wanted_on rfl rfl rfl); simp only [Act.put, List.setIfInBounds_toArray, List.set_cons_zero, List.set_cons_succ])
        refine tr_run (v := .agg (mcells ((om t k seq T (wrap64 (T.steps + 1)) (et.path ++ [t.own.id]))) (A8) ((et.path.length + 1)) (c8))) rfl ?_ (run_load_whole_d 38 (.tmp 12) rfl rfl XMd Try.underlying38 rfl (by kernel_rfl)) XMd ?_
        (first | exact wanted_none rfl | exact wanted_on rfl rfl rfl)
        simp only [Act.put, List.setIfInBounds_toArray, List.set_cons_zero, List.set_cons_succ]
        (with_reducible (refine tr_call 15 ?_ rfl ?_ ?_ ?_); rotate_left; (first | exact wanted_none rfl | exact wanted_on rfl rfl rfl); (go_simp; with_reducible rfl))
        refine (HCK.out wd (by have := HPD.out.reads; rwa [show ((om t k seq T (wrap64 (T.steps + 1)) (et.path ++ [t.own.id]))).path.length = ((et.path.length + 1)) from HLN.out] at this)).mono ?_
        rintro e w8 ⟨rfl, b8⟩
        refine ⟨_, rfl, XMd.kept b8, ?_⟩
        simp only [Act.put, List.setIfInBounds_toArray, List.set_cons_zero, List.set_cons_succ]
        have Z8 := HZD.out.kept b8
        have HP8 := Lib.hid (HPD.out.fr (S' := []) (Fr.be b8) (by simp))
        have HL8 := Lib.hid (HLD.out.trans (b8.mono HLD.out.size))
        clear b8 XMd HPD HZD HLD HCK
        (with_reducible (refine tr_free (v := ?_) rfl ?_ ?_ ?_); rotate_left; (first | exact wanted_none rfl | exact wanted_on rfl rfl rfl); (intro w'; go_simp; with_reducible rfl); simp only [Act.put, List.setIfInBounds_toArray, List.set_cons_zero, List.set_cons_succ])
        refine tr_wr_part (cs := mcells ((om t k seq T (wrap64 (T.steps + 1)) (et.path ++ [t.own.id]))) (A8) ((et.path.length + 1)) (c8)) rfl rfl 38 (.tmp 8) (.tmp 85) rfl (off := 0) rfl Z8 rfl (Nat.le_refl _) (by kernel_rfl) (by rw [← Array.all_toList]; rfl) ?_
        intro w9 X9 z9 g9
        simp only [Act.put, List.setIfInBounds_toArray, List.set_cons_zero, List.set_cons_succ]
        have X9' : Blk w9 w.heap.size 38 (mcells ((om t k seq T (wrap64 (T.steps + 1)) (et.path ++ [t.own.id]))) (A8) ((et.path.length + 1)) (c8)) := blk_whole X9 rfl
        have L9 := HL8.out.trans (below_one g9 HL8.out.size (Nat.le_refl _))
        have P9 : Path w9 [] (A8) ((om t k seq T (wrap64 (T.steps + 1)) (et.path ++ [t.own.id]))).path := fun h1 => by
          obtain ⟨ad, h2, h3, h4, h5⟩ := HP8.out h1
          refine ⟨ad, h2, Nat.lt_of_lt_of_le h3 g9.size, h4, fun j x hx => ?_⟩
          have hne := HAW.out ad h2
          rw [← h5 j x hx]
          have hbl : ((ad.add j)).block = ad.block := block_of_add _ _
          unfold World.cell?
          rw [hbl, g9.block ad.block h3 (by simp; omega)]
        have HE := Lib.hid (And.intro X9' (And.intro L9 P9))
        clear X9 X9' L9 P9 z9 g9 Z8
        (with_reducible (refine tr_free (v := ?_) rfl ?_ ?_ ?_); rotate_left; (first | exact wanted_none rfl | exact wanted_on rfl rfl rfl); (intro w'; go_simp; with_reducible rfl); simp only [Act.put, List.setIfInBounds_toArray, List.set_cons_zero, List.set_cons_succ])
        refine tr_nil ?_
        go_wp2_with fail
        exact out_end rfl rfl rfl HE.out.1 ⟨_, _, _, rfl, by exact (HLN.out).symm, HE.out.2.2, HCAP.out, fun ad had => Nat.le_of_lt (HAW.out ad had), HE.out.2.1⟩
end Go.Proofs.Ytcdgofndfajekaa
