/-
  ether: the end of a frame that is read.
-/
import Derived.Test.YthhlfojaloaooaaGreatRows
import Derived.Test.YthhlfojaloaooaaGreatEtKZ
import Derived.WalkKit
import Derived.ProofKit
import Derived.OpenShut
import Derived.LoopTactic
import Derived.WalkLawsBesides
import Derived.WalkSpells
import Derived.Outline
import Derived.Lib.Hide
import Derived.Deep.DrawnRows
import Derived.Laws.CopyOwn
import Derived.MapKept
namespace Go.Proofs.YthhlfojaloaooaaGreat
set_option linter.unusedSimpArgs false
set_option linter.unusedVariables false
open Go.RowKit Go.WideShapes Go.ChangeShapes
attribute [local go_sem ↓] Go.wp_at_zero Go.wp_at_succ

theorem putAll_all : ∀ (vs pre old : List Value), old.length = vs.length → putAll (pre ++ old).toArray pre.length vs = (pre ++ vs).toArray
  | [], pre, old, h => by
    have : old = [] := List.eq_nil_of_length_eq_zero (by simpa using h)
    subst this
    rfl
  | v :: vs, pre, [], h => by simp at h
  | v :: vs, pre, u :: old, h => by
    rw [putAll]
    have e : (pre ++ u :: old).toArray.setIfInBounds pre.length v = ((pre ++ [v]) ++ old).toArray := by simp
    rw [e]
    have := putAll_all vs (pre ++ [v]) old (by simpa using h)
    simp only [List.length_append, List.length_singleton] at this
    rw [this]
    simp
theorem putAll_whole {old cs : Array Value} (h : old.size = cs.size) : putAll old 0 cs.toList = cs := by
  have := putAll_all cs.toList [] old.toList (by simpa using h)
  simpa using this
section
variable {P : Program}
theorem wpList_load_any_w {ops : Array Oper} {rest : List Oper} {op : Oper} {a : Act} {w : World} {Q : Exit → Act → World → Prop} (hw : Region.wanted op (yielded ops a.tmps) = true) (ty : TypeId) (x : Operand) (ho : op.op = .load ty x)
    (ad : Addr) (hx : a.eval x = .pointer (some ad)) (M : Array Value) (d : TypeDesc) (hc : ∀ j v, M.toList[j]? = some v → w.cell? (ad.add j) = some v)
    (hu : P.underlying ty = some d) (hd : d.isRow = true) (hi : (P.info? ty).map (·.size) = some M.size)
    (h : wpList P ops Q rest (a.put op.dst (.agg M)) w) : wpList P ops Q (op :: rest) a w := by
  refine BigFrame.wpList_want hw fun K hK => ?_
  unfold Oper.wp execOp
  simp only [ho, hx, Instr.loadAt, Instr.sureAddr, Sem.run_bind, Sem.run_pure, Result.andThen_ok, run_load_any_d w ad ty M.toList d hc hu hd (by simpa using hi)]
  exact hK _ _ h
end
theorem reads_gr2 {w w' : World} {A : Option Addr} {n q : Nat} {xs : List Value} (h : Reads w w.heap.size 1 A n xs) (gr : w.grownBy w' (some q)) (hq : ∀ ad, A = some ad → ad.block ≠ q) : Reads w' w'.heap.size 1 A n xs := ⟨h.1, fun h0 => by
  obtain ⟨ad, e, hl, hc⟩ := h.2 h0
  subst e
  exact (reads_gr h gr (hq ad rfl)).2 h0⟩
theorem own_ne {w : World} {base : Nat} {e : TypeId} {size n c q m : Nat} {A : Option Addr} {xs : List Value} (h : w.ownsRow base e size (.slice A n c) m xs) (hq : q < base) : ∀ ad, A = some ad → ad.block ≠ q := by
  intro ad hA hb
  subst hA
  have h2 := (ownsRow_lt h ad.block rfl).1
  omega
/-- What Decode answers. -/
def DecR (w : World) (r : Except Int Fm) (e : Ending) (w' : World) : Prop := Below w.heap.size w w' ∧ match r with
  | .error k => e = .returned (.tuple #[.agg zeroFm, .int .i64 k])
  | .ok f => f.Wf ∧ ∃ A c, e = .returned (.tuple #[.agg (f.cells A f.data.length c), .int .i64 0]) ∧ Reads w' w'.heap.size 1 A f.data.length (us f.data)
theorem reads_sub {w : World} {A : Addr} {n m : Nat} {xs : List Int} (h : Reads w w.heap.size 1 (some A) n (us xs)) (hm : m ≤ n) : Reads w w.heap.size 1 (some A) m (us (xs.take m)) := by
  have hl := h.1
  rw [us_length] at hl
  refine ⟨by rw [us_length, List.length_take]; omega, fun h0 => ?_⟩
  obtain ⟨ad, e, hb, hc⟩ := h.2 (by omega)
  refine ⟨ad, e, hb, fun j u hu => hc j u ?_⟩
  unfold us at hu ⊢
  rw [List.map_take, List.getElem?_take] at hu
  split at hu
  · exact hu
  · cases hu
theorem reads_drop {w : World} {A : Addr} {n m : Nat} {xs : List Int} (h : Reads w w.heap.size 1 (some A) n (us xs)) (hm : m ≤ n) : Reads w w.heap.size 1 (some (A.add m)) (n - m) (us (xs.drop m)) := by
  have hl := h.1
  rw [us_length] at hl
  refine ⟨by rw [us_length, List.length_drop]; omega, fun h0 => ?_⟩
  obtain ⟨ad, e, hb, hc⟩ := h.2 (by omega)
  injection e with e
  subst e
  refine ⟨_, rfl, by rw [block_of_add]; exact hb, fun j u hu => ?_⟩
  rw [add_of_add]
  refine hc _ u ?_
  unfold us at hu ⊢
  rw [List.map_drop, List.getElem?_drop] at hu
  exact hu
theorem reads_fr {w w' : World} {S : List Nat} {A : Addr} {n : Nat} {xs : List Value} (h : Reads w w.heap.size 1 (some A) n xs) (hf : Fr S w w') (hq : A.block ∉ S) : Reads w' w'.heap.size 1 (some A) n xs := ⟨h.1, fun h0 => by
  obtain ⟨ad, e, hl, hc⟩ := h.2 h0
  injection e with e
  subst e
  exact ⟨_, rfl, Nat.lt_of_lt_of_le hl hf.size, fun j u hu => by rw [hf.cell (by rw [block_of_add]; exact hl) (by rw [block_of_add]; exact hq)]; exact hc j u hu⟩⟩
/-- When the data is read. -/
structure DeT (w wk : World) (g2 g5 : Nat) (f : Fm) (A4 : Option Addr) (X c4 : Nat) (rs : List Int) (A2 : Addr) : Prop where
  low : Below w.heap.size w wk
  b2 : Blk wk g2 52 zeroFm
  fb : FB wk g5 f A4 X c4
  rd : Reads wk wk.heap.size 1 (some A2) rs.length (us rs)
  dat : Reads wk wk.heap.size 1 A4 X (us f.data)
  ap : g2 ≠ g5 ∧ w.heap.size ≤ g2 ∧ w.heap.size ≤ g5
  len : f.data.length = X
  far : ∀ ad, A4 = some ad → ad.block ≠ g2
theorem DeT.kept {w wk w' : World} {g2 g5 : Nat} {f : Fm} {A4 : Option Addr} {X c4 : Nat} {rs : List Int} {A2 : Addr} (h : DeT w wk g2 g5 f A4 X c4 rs A2) (hb : Below wk.heap.size wk w') : DeT w w' g2 g5 f A4 X c4 rs A2 :=
  ⟨h.low.trans (hb.mono h.low.size), h.b2.kept hb, h.fb.kept hb, (h.rd.below hb).more hb.size, (h.dat.below hb).more hb.size, h.ap, h.len, h.far⟩
theorem fm_set_data (f : Fm) (h : f.Wf) (A : Option Addr) (n c : Nat) (d : List Int) : (f.cells none 0 0).setIfInBounds 19 (.slice A n c) = ({ f with data := d } : Fm).cells A n c := by
  rw [Fm.cells_eq, Fm.cells_eq, show 19 = 12 + 7 from rfl, cells2_set h.dst h.src]
  rfl
set_option maxRecDepth 100000 in
set_option maxHeartbeats 4000000 in
theorem dec_d (f : Fm) (rest : List Int) (A : Addr) (c g2 g5 g6 tot c0 : Nat) (A0 : Option Addr) (w wk : World) (hE : DeS w wk g2 g5 g6 f rest A c) (hL : 20 ≤ rest.length) (hT : tot ≤ 1600) (hLT : rest.length ≤ 1600) (R : Ending → World → Prop) (hRR : ∀ e w', DecR w (decD f rest ((tot : Int) + 4)) e w' → R e w') (a : Act)
    (hs : a.tmps.size = 118) (hd : a.defers = []) (e0 : a.tmps[0]? = some (.slice A0 tot c0)) (e2 : a.tmps[2]? = some (.pointer (some ⟨g2, 0, none⟩))) (e3 : a.tmps[3]? = some (.int .i64 0)) (e5 : a.tmps[5]? = some (.pointer (some ⟨g5, 0, none⟩))) (e6 : a.tmps[6]? = some (.pointer (some ⟨g6, 0, none⟩))) (e7 : a.tmps[7]? = some (.func (.func 25) #[] #[.pointer (some ⟨g6, 0, none⟩)])) :
    Code.wp Tryz.prog (sub [true, true, true, true, true, true, true, true, true, true, true, true] (bodyOf Tryz.f11)) (bodyPost Tryz.prog Tryz.f11 R) a wk := by
  obtain ⟨b0, b1, rs, hrs⟩ : ∃ b0 b1 rs, rest = b0 :: b1 :: rs := by
    match rest, hL with
    | b0 :: b1 :: rs, _ => exact ⟨b0, b1, rs, rfl⟩
  subst hrs
  simp only [List.length_cons] at hL hLT
  obtain ⟨h1, h2, h3, h4, h5⟩ := hE.two
  have hcp := hE.cap
  simp only [List.length_cons] at hcp
  have HN := Lib.hid (next_any g6 A rs.length c b0 b1 wk hE.b6 h1 h2 h3 h4 h5 hcp (by omega) hE.cm)
  have hxr : 0 ≤ b0 * 256 + b1 ∧ b0 * 256 + b1 ≤ 65535 := by omega
  have HE := Lib.hid hE
  have HRR := Lib.hid hRR
  clear hE hRR h1 h2 h3 h4 h5 hcp
  conv => arg 2; whnf
  refine wp_seq_k fun Kq1 hKq1 => ?_
  refine sm_list [7, 9] 80 2 hs hd (by kernel_rfl) (agC e7 (agU agN)) rfl ?_
  simp only [seval]
  go_wp2_with fail
  refine HN.out.mono ?_
  rintro e w3 ⟨rfl, hB3, gr3⟩
  have HE3 := Lib.hid (HE.out.next hB3 gr3)
  clear hB3 gr3
  go_wp2_with fail
  intro a H; replace hs := H.s hs; replace hd := H.d rfl; replace e7 := H.g 7 rfl rfl; replace e0 := H.k e0 rfl; replace e2 := H.k e2 rfl; replace e3 := H.k e3 rfl; replace e5 := H.k e5 rfl; replace e6 := H.k e6 rfl; have e9 := H.g 9 rfl rfl; clear H; refine hKq1 _ _ ?_; clear hKq1 Kq1; refine wp_seq_k fun Kq2 hKq2 => ?_; refine wp_seq_k fun Kq3 hKq3 => ?_
  obtain ⟨X, hX⟩ : ∃ X : Nat, b0 * 256 + b1 = (X : Int) := ⟨(b0 * 256 + b1).toNat, by omega⟩
  rw [hX] at e9
  have hX6 : X ≤ 65535 := by omega
  have hD : decD f (b0 :: b1 :: rs) ((tot : Int) + 4) = if rs.length < X then .error 21 else if checkF { f with data := rs.take X } ≠ 0 ∨ (tot : Int) + 4 ≠ max 64 (sizeF { f with data := rs.take X }) then .error 21 else if (rs.drop X).all (· == 0) then .ok { f with data := rs.take X } else .error 21 := by
      unfold decD
      rw [show num2 (b0 :: b1 :: rs) = (X : Int) from hX, Int.toNat_natCast]
      have e1 : ((((b0 :: b1 :: rs).length : Nat) : Int) - 2 < (X : Int)) = (rs.length < X) := by simp only [List.length_cons, eq_iff_iff]; omega
      simp only [e1]; rfl
  have HD := Lib.hid hD
  have q6 := HE3.out.b6.cellOf (v := .slice (some (A.add 2)) rs.length (c - 2)) 0 rfl
  have hrI : (rs.length : Int) ≤ 1600 := by omega
  clear hD hX hxr HN HE
  refine sm_list [6, 9] 82 4 hs hd (by kernel_rfl) (agC e6 (agC e9 agN)) rfl ?_
  simp only [seval]
  go_wp2_with fail
  intro a H; replace hs := H.s hs; replace hd := H.d rfl; replace e6 := H.g 6 rfl rfl; replace e9 := H.g 9 rfl rfl; replace e0 := H.k e0 rfl; replace e2 := H.k e2 rfl; replace e3 := H.k e3 rfl; replace e5 := H.k e5 rfl; replace e7 := H.k e7 rfl; have e85 := H.g 85 rfl rfl; clear H; refine hKq3 _ _ ?_; clear hKq3 Kq3; clear q6
  by_cases hlt : rs.length < X
  · first | rw [decide_eq_true (show (rs.length : Int) < (X : Int) by omega)] at e85 | (rw [decide_eq_true hlt] at e85) | skip
    refine wp_cond_true (slotE e85) ?_
    clear e85; refine wp_seq_k fun Kq4 hKq4 => ?_
    refine sm_list [2, 3] 86 1 hs hd (by kernel_rfl) (agC e2 (agC e3 agN)) rfl ?_
    simp only [seval]
    go_wp2_with (first | (refine wpList_store_part rfl 52 (.tmp 0) (.tmp 2) rfl (off := 0) rfl HE3.out.b2 rfl (by simp [zeroFm]) (by kernel_rfl) (by rw [← Array.all_toList]; rfl) ?_; intro wz Bz zz gz) | fail)
    intro a H; replace hs := H.s hs; replace hd := H.d rfl; replace e2 := H.g 2 rfl rfl; replace e0 := H.k e0 rfl; replace e5 := H.k e5 rfl; replace e6 := H.k e6 rfl; replace e7 := H.k e7 rfl; replace e9 := H.k e9 rfl; replace e3 := H.g 3 rfl rfl; clear H; refine hKq4 _ _ ?_; clear hKq4 Kq4; refine wp_ret ?_; refine exit_then rfl ?_
    have Bz2 : Blk wz g2 52 zeroFm := by simpa [putAll, zeroFm] using Bz
    have bz := (HE3.out.low).grown gz (HE3.out.low).size (fun k hk => by cases hk; exact HE3.out.ap.2.1)
    exact sm_ret_cell rfl hd e2 Bz2 Tryz.underlying52 rfl (by kernel_rfl) e3 (HRR.out _ _ (by rw [HD.out, if_pos hlt]; exact ⟨bz, rfl⟩))
  have hXr : X ≤ rs.length := by omega
  first | rw [decide_eq_false (show ¬ (rs.length : Int) < (X : Int) by omega)] at e85 | (rw [decide_eq_false hlt] at e85)
  refine wp_cond_false (slotE e85) ?_
  clear e85; refine wp_skip ?_; refine hKq2 _ _ ?_; clear hKq2 Kq2; refine wp_seq_k fun Kq4 hKq4 => ?_
  obtain ⟨c6, hc6⟩ : ∃ q, q = c - 2 := ⟨_, rfl⟩
  have HE4 := HE3.out
  rw [← hc6] at HE4
  have hcap := HE4.cap; have hcm := HE4.cm
  have hcI : (c6 : Int) ≤ 9223372036854775807 := by unfold maxLen at hcm; omega
  have q6 := HE4.b6.cellOf (v := .slice (some (A.add 2)) rs.length c6) 0 rfl
  have rX := reads_sub HE4.rd hXr
  have one := us_one (rs.take X)
  have own0 := ownsRow_nil w3 w3.heap.size 5 1
  have X0 : (0 : Int) ≤ (X : Int) := by omega
  have Xc : (X : Int) ≤ (c6 : Int) := by omega
  have hXk : X ≤ 1600 := by omega
  have h19 : w3.cell? ⟨g5, 19, none⟩ = some (.slice none 0 0) := HE4.fb.c19
  have fz5 := HE4.fb.blk.frozen; have hne5 := HE4.fb.blk
  have HE5 := Lib.hid HE4
  obtain ⟨A2, hA2⟩ : ∃ q, q = A.add 2 := ⟨_, rfl⟩
  rw [← hA2] at q6 rX HE5
  have HA2 := Lib.hid hA2
  clear HE4 hcap hcm HE3 hc6 hA2
  refine sm_list [5, 6, 9] 87 5 hs hd (by kernel_rfl) (agC e5 (agC e6 (agC e9 agN))) rfl ?_
  simp only [seval]
  go_wp2_with (first | (refine wpList_pushR rfl (.const (.slice none 0 0)) (.tmp 5) 23 rfl styB rfl rX one rfl own0 (by omega) (Nat.le_refl _) ?_; intro v4 w4 own4 gr4; rw [Nat.zero_add, List.nil_append] at own4; obtain ⟨A4, c4, rfl, hc4, hr4⟩ := ownsRow_reads own4; have B54 := hne5.grown gr4 (own_blk_ne own0 hne5 (by decide)).symm; have q19 := B54.cellOf 19 (Fm.at_ HE5.out.fb.wf 7); have fz54 := B54.frozen) | fail)
  intro a H; replace hs := H.s hs; replace hd := H.d rfl; replace e5 := H.g 5 rfl rfl; replace e6 := H.g 6 rfl rfl; replace e9 := H.g 9 rfl rfl; replace e0 := H.k e0 rfl; replace e2 := H.k e2 rfl; replace e3 := H.k e3 rfl; replace e7 := H.k e7 rfl; clear H; refine hKq4 _ _ ?_; clear hKq4 Kq4; refine wp_seq_k fun Kq5 hKq5 => ?_
  obtain ⟨f1, hf1⟩ : ∃ f1 : Fm, f1 = { f with data := rs.take X } := ⟨_, rfl⟩
  have hD := HD.out
  rw [← hf1] at hD
  have hwf1 : f1.Wf := by
    have h := HE5.out.fb.wf
    rw [hf1]
    exact ⟨h.dst, h.src, h.dstB, h.srcB, fun b hb => HE5.out.bB b (List.mem_of_mem_take hb)⟩
  have hlen1 : f1.data.length = X := by rw [hf1]; show (rs.take X).length = X; rw [List.length_take]; omega
  have gs : w4.grownBy (w4.setCell ⟨g5, 19, none⟩ (.slice A4 X c4)) (some g5) := gr_set (grownBy_refl _ _) _ _
  have B55 : Blk (w4.setCell ⟨g5, 19, none⟩ (.slice A4 X c4)) g5 52 (f1.cells A4 X c4) := by
    have h := B54.set_ 19 (.slice A4 X c4)
    rw [fm_set_data f HE5.out.fb.wf A4 X c4 (rs.take X)] at h
    rw [hf1]; exact h
  have F4 : Fr [] w3 w4 := ⟨gr4.os, gr4.tape, gr4.output, gr4.size, fun k hk _ => gr4.block k hk (show some k ≠ none by simp)⟩
  have F5 : Fr [g5] w4 (w4.setCell ⟨g5, 19, none⟩ (.slice A4 X c4)) := Fr.gr gs (by simp)
  obtain ⟨a1, a2, a3, a4⟩ := HE5.out.ap
  obtain ⟨cur, hcur⟩ := HE5.out.rt.2
  have hn5 : A2.block ∉ [g5] := by simp; exact Blk.ne_ hcur hne5 (by decide)
  have own5 := own_kept own4 gs (fun k hk e => by injection e with e; subst e; exact own_blk_ne own4 B54 (by decide) hk)
  obtain ⟨A4b, c4b, hv, _, hr5⟩ := ownsRow_reads own5
  injection hv with hv1 _ hv2
  subst hv1 hv2
  have hlo4 := HE5.out.low.trans ((below_of_grown gr4 own0 (Nat.le_refl _)).mono HE5.out.low.size)
  have T5 : DeT w (w4.setCell ⟨g5, 19, none⟩ (.slice A4 X c4)) g2 g5 f1 A4 X c4 rs A2 := ⟨hlo4.grown gs hlo4.size (fun k hk => by cases hk; exact a3), F5.blk (F4.blk HE5.out.b2 (by simp)) (by simp; exact a1), ⟨B55, hwf1⟩, reads_fr (reads_fr HE5.out.rd F4 (by simp)) F5 hn5, by rw [hf1]; exact hr5, ⟨a1, a2, a3⟩, hlen1, own_ne own4 HE5.out.b2.lt⟩
  have B65 := F5.blk (F4.blk HE5.out.b6 (by simp)) (by simp; intro e; exact Blk.ne_ HE5.out.b6 hne5 (by decide) e)
  have hcap5 := HE5.out.cap
  obtain ⟨w5, hw5⟩ : ∃ z, z = w4.setCell ⟨g5, 19, none⟩ (.slice A4 X c4) := ⟨_, rfl⟩
  rw [← hw5] at T5 B65
  rw [← hw5]
  have q6 := B65.cellOf (v := .slice (some A2) rs.length c6) 0 rfl
  have HT5 := Lib.hid T5
  have HD2 := Lib.hid hD
  have HRB : Hid (∀ b ∈ rs, 0 ≤ b ∧ b ≤ 255) := Lib.hid HE5.out.bB
  clear hw5 gs B55 F4 F5 a1 a2 a3 a4 hcur hn5 own5 hr5 hlo4 B54 own4 gr4 hc4 hr4 q19 fz54 B65 T5 hne5 fz5 h19 own0 one rX HE5 HD hD hf1
  have hXc2 : X = c6 ∨ X < c6 := by omega
  have hrI2 : (rs.length : Int) ≤ (c6 : Int) := by omega
  have hXrI : (X : Int) ≤ (rs.length : Int) := by omega
  obtain ⟨A10, c10, hAc⟩ : ∃ (A10 : Option Addr) (c10 : Nat), (X = c6 → A10 = some A2 ∧ c10 = 0) ∧ (X < c6 → A10 = some (A2.add X) ∧ c10 = c6 - X) := by
      rcases hXc2 with h | h
      · exact ⟨some A2, 0, fun _ => ⟨rfl, rfl⟩, fun h2 => by omega⟩
      · exact ⟨some (A2.add X), c6 - X, fun h2 => by omega, fun _ => ⟨rfl, rfl⟩⟩
  have HAC := Lib.hid hAc
  clear hAc
  suffices HK : ∀ (a' : Act) (w5b : World) (A10 : Option Addr) (c10 : Nat), a'.tmps.size = a.tmps.size → a'.defers = [] → a'.tmps[0]? = a.tmps[0]? → a'.tmps[2]? = a.tmps[2]? → a'.tmps[3]? = a.tmps[3]? → a'.tmps[5]? = a.tmps[5]? → a'.tmps[6]? = a.tmps[6]? → a'.tmps[7]? = a.tmps[7]? → a'.tmps[9]? = a.tmps[9]? → a'.tmps[10]? = some (.slice A10 (rs.length - X) c10) → w5b = w5 → Hid (Reads w5 w5.heap.size 1 A10 (rs.length - X) (us (rs.drop X))) → Kq5 a' w5b by
    rcases hXc2 with rfl | hXl
    all_goals
      refine sm_list [6, 9, 10] 92 3 hs hd (by kernel_rfl) (agC e6 (agC e9 (agU agN))) rfl ?_
      simp only [seval]
      go_wp2_with fail
      all_goals
        intro a' H
        refine HK a' _ A10 c10 H.size H.defers (H.out 0 rfl) (H.out 2 rfl) (H.out 3 rfl) (H.out 5 rfl) ((H.got rfl rfl).trans e6.symm) (H.out 7 rfl) ((H.got rfl rfl).trans e9.symm) ?_ ?_ ?_
        · (refine (H.got (t := 10) rfl rfl).trans (congrArg some ?_); first | (have h0 := HAC.out.2 hXl; obtain ⟨h1, h2⟩ := h0; rw [h1, h2]) | (obtain ⟨h1, h2⟩ := HAC.out.1 (by first | rfl | trivial); rw [h1, h2]; congr 1; omega))
        · exact rfl
        · first | (have h0 := HAC.out.2 hXl; obtain ⟨h1, h2⟩ := h0; rw [h1]; exact Lib.hid (reads_drop HT5.out.rd hXr)) | (refine Lib.hid ⟨by rw [us_length, List.length_drop, Nat.mul_one], fun h0 => absurd h0 (by omega)⟩)
  intro a' w5b A10 c10 g_s g_d g0 g2 g3 g5 g6 g7 g9 f10 hwe RF
  replace hs := g_s.trans hs; replace hd := g_d; replace e0 := g0.trans e0; replace e2 := g2.trans e2; replace e3 := g3.trans e3; replace e5 := g5.trans e5; replace e6 := g6.trans e6; replace e7 := g7.trans e7; replace e9 := g9.trans e9; clear g_s g_d g0 g2 g3 g5 g6 g7 g9
  have e10 := f10
  clear f10
  first | clear a | skip
  obtain ⟨a, rfl⟩ : ∃ a, a = a' := ⟨_, rfl⟩
  refine hKq5 _ _ ?_; clear hKq5 Kq5; refine wp_seq_k fun Kq6 hKq6 => ?_; refine wp_seq_k fun Kq7 hKq7 => ?_
  have hwe2 := hwe.symm
  subst hwe2
  clear hwe; clear hXc2 hrI2 q6
  obtain ⟨M, hM⟩ : ∃ M, M = f1.cells A4 X c4 := ⟨_, rfl⟩
  have hM1 : (Tryz.prog.info? 52).map (·.size) = some M.size := by rw [hM, Fm.size HT5.out.fb.wf]; kernel_rfl
  have BM5 : Blk w5 g5 52 M := by rw [hM]; exact HT5.out.fb.blk
  obtain ⟨K, hK⟩ : ∃ K, K = checkF f1 := ⟨_, rfl⟩
  obtain ⟨S, hS⟩ : ∃ S, S = max 64 (sizeF f1) := ⟨_, rfl⟩
  have hCK : ∀ W, Calls Tryz.prog 26 #[.agg M] W fun e w' => e = .returned (.int .i64 K) ∧ Below W.heap.size W w' := fun W => by rw [hK]; exact fcheck_any f1 A4 X c4 M hM HT5.out.fb.wf HT5.out.len (by omega) W
  have hSZ : ∀ W, Calls Tryz.prog 27 #[.agg M] W fun e w' => e = .returned (.int .i64 S) ∧ Below W.heap.size W w' := fun W => by rw [hS]; exact fsize_any f1 A4 X c4 M hM HT5.out.fb.wf HT5.out.len (by omega) W
  have HCK := Lib.hid hCK
  have HSZ := Lib.hid hSZ
  have HBM := Lib.hid BM5
  have HKS := Lib.hid (And.intro hK (And.intro hS hM))
  have hwt : IntKind.i64.wrap ((tot : Int) + 4) = (tot : Int) + 4 := IntWalk.i64_in _ ⟨by omega, by omega⟩
  have hT4 : (tot : Int) ≤ 1600 := by omega
  obtain ⟨B, hB⟩ : ∃ B, B = decide (K ≠ 0 ∨ (tot : Int) + 4 ≠ S) := ⟨_, rfl⟩
  have hcase : ((K != 0) = true ∧ B = true) ∨ ((K != 0) = false ∧ ((tot : Int) + 4 != S) = true ∧ B = true) ∨ ((K != 0) = false ∧ ((tot : Int) + 4 != S) = false ∧ B = false) := by
      rw [hB]; by_cases z1 : K = 0 <;> by_cases z2 : (tot : Int) + 4 = S <;> simp [z1, z2]
  have HB := Lib.hid hB
  clear hB hK hS hM hCK hSZ BM5
  suffices HK : ∀ (a' : Act) (w8 : World), a'.tmps.size = a.tmps.size → a'.defers = [] → a'.tmps[0]? = a.tmps[0]? → a'.tmps[2]? = a.tmps[2]? → a'.tmps[3]? = a.tmps[3]? → a'.tmps[5]? = a.tmps[5]? → a'.tmps[6]? = a.tmps[6]? → a'.tmps[7]? = a.tmps[7]? → a'.tmps[9]? = a.tmps[9]? → a'.tmps[10]? = a.tmps[10]? → a'.tmps[105]? = some (.bool B) → Below w5.heap.size w5 w8 → Kq7 a' w8 by
    rcases hcase with ⟨d1, d2⟩ | ⟨d1, d2, d3⟩ | ⟨d1, d2, d3⟩
    all_goals
      refine sm_list [0, 5] 95 11 hs hd (by kernel_rfl) (agC e0 (agC e5 agN)) rfl ?_
      simp only [seval]
      go_wp2_with (first | (refine wpList_load_any_d rfl 52 (.tmp 1) rfl ⟨g5, 0, none⟩ rfl M _ (blk_cells HBM.out) Tryz.underlying52 rfl hM1 ?_) | fail)
      refine (HCK.out _).mono ?_
      rintro e w7 ⟨rfl, hb7⟩
      have BM7 := HBM.out.kept hb7
      first
        | (go_wp2_with fail; done)
        | skip
      all_goals go_wp2_with (first | (refine wpList_load_any_w (wanted_on rfl rfl rfl) 52 (.tmp 1) rfl ⟨g5, 0, none⟩ rfl M _ (blk_cells BM7) Tryz.underlying52 rfl hM1 ?_) | fail)
      all_goals first | (refine (HSZ.out _).mono ?_; rintro e w8 ⟨rfl, hb8⟩; have hb78 := hb7.trans (hb8.mono hb7.size); go_wp2_with fail) | (have hb78 := hb7; skip)
      all_goals
        intro a' H
        refine HK a' _ H.size H.defers ((H.got rfl rfl).trans e0.symm) (H.out 2 rfl) (H.out 3 rfl) ((H.got rfl rfl).trans e5.symm) (H.out 6 rfl) (H.out 7 rfl) (H.out 9 rfl) (H.out 10 rfl) ?_ ?_
        · (refine (H.got (t := 105) rfl rfl).trans (congrArg some ?_); first | (rw [d2]; done) | (rw [d3]; done) | simp [d1, d2] | simp [d1, d2, d3])
        · exact hb78
  intro a' w8 g_s g_d g0 g2 g3 g5 g6 g7 g9 g10 f105 hb8
  replace hs := g_s.trans hs; replace hd := g_d; replace e0 := g0.trans e0; replace e2 := g2.trans e2; replace e3 := g3.trans e3; replace e5 := g5.trans e5; replace e6 := g6.trans e6; replace e7 := g7.trans e7; replace e9 := g9.trans e9; replace e10 := g10.trans e10; clear g_s g_d g0 g2 g3 g5 g6 g7 g9 g10
  have e105 := f105
  clear f105
  first | clear a | skip
  obtain ⟨a, rfl⟩ : ∃ a, a = a' := ⟨_, rfl⟩
  refine hKq7 _ _ ?_; clear hKq7 Kq7; clear hcase hwt; have T8 := HT5.out.kept hb8
  have RF8 := (RF.out.below hb8).more hb8.size
  clear RF HT5 HBM hM1
  obtain ⟨N, hN⟩ : ∃ N, N = rs.length - X := ⟨_, rfl⟩
  rw [← hN] at e10 RF8
  have hNl : (rs.drop X).length = N := by rw [List.length_drop]; exact hN.symm
  have HNl := Lib.hid hNl
  have hN16 : N ≤ 1600 := by omega
  clear hN hNl
  obtain ⟨qs, hqs⟩ : ∃ qs, qs = rs.drop X := ⟨_, rfl⟩
  rw [← hqs] at RF8 HNl
  have HQS := Lib.hid hqs
  have HT8 := Lib.hid T8
  have HRF := Lib.hid RF8
  clear hqs T8 RF8
  skip
  cases B
  rotate_left
  ·
    refine wp_cond_true (slotE e105) ?_
    clear e105; refine wp_seq_k fun Kq8 hKq8 => ?_
    have hD3 : decD f (b0 :: b1 :: rs) ((tot : Int) + 4) = .error 21 := by
      have hb := of_decide_eq_true HB.out.symm
      rw [HKS.out.1, HKS.out.2.1] at hb
      rw [HD2.out, if_neg hlt, if_pos hb]
    have HD3 := Lib.hid hD3
    clear hD3
    refine sm_list [2, 3] 106 1 hs hd (by kernel_rfl) (agC e2 (agC e3 agN)) rfl ?_
    simp only [seval]
    go_wp2_with (first | (refine wpList_store_part rfl 52 (.tmp 0) (.tmp 2) rfl (off := 0) rfl HT8.out.b2 rfl (by simp [zeroFm]) (by kernel_rfl) (by rw [← Array.all_toList]; rfl) ?_; intro wz Bz zz gz) | fail)
    intro a H; replace hs := H.s hs; replace hd := H.d rfl; replace e2 := H.g 2 rfl rfl; replace e0 := H.k e0 rfl; replace e5 := H.k e5 rfl; replace e6 := H.k e6 rfl; replace e7 := H.k e7 rfl; replace e9 := H.k e9 rfl; replace e10 := H.k e10 rfl; replace e3 := H.g 3 rfl rfl; clear H; refine hKq8 _ _ ?_; clear hKq8 Kq8; refine wp_ret ?_; refine exit_then rfl ?_
    have Bz2 : Blk wz g2 52 zeroFm := by simpa [putAll, zeroFm] using Bz
    have bz := (HT8.out.low).grown gz (HT8.out.low).size (fun k hk => by cases hk; exact HT8.out.ap.2.1)
    exact sm_ret_cell rfl hd e2 Bz2 Tryz.underlying52 rfl (by kernel_rfl) e3 (HRR.out _ _ (by rw [HD3.out]; exact ⟨bz, rfl⟩))
  have hD3 : decD f (b0 :: b1 :: rs) ((tot : Int) + 4) = if qs.all (· == 0) then .ok f1 else .error 21 := by
    have hb := of_decide_eq_false HB.out.symm
    rw [HKS.out.1, HKS.out.2.1] at hb
    rw [HD2.out, if_neg hlt, if_neg hb, HQS.out]
  have HD3 := Lib.hid hD3
  clear hD3; have hM2 := HKS.out.2.2
  have hMs : M.size = 20 := by rw [hM2]; exact Fm.size HT8.out.fb.wf
  have hMo : M.all (·.oneCell') = true := by rw [hM2]; exact Fm.one
  have hMB : Blk w8 g5 52 M := by rw [hM2]; exact HT8.out.fb.blk
  have hMi : (Tryz.prog.info? 52).map (·.size) = some M.size := by rw [hMs]; kernel_rfl
  have HM8 := Lib.hid (And.intro hM2 (And.intro hMs (And.intro hMo (And.intro hMB hMi))))
  have hbq : ∀ b ∈ qs, 0 ≤ b ∧ b ≤ 255 := fun b hb => HRB.out b (List.mem_of_mem_drop (by rw [← HQS.out]; exact hb))
  have HBQ := Lib.hid hbq
  clear hM2 hMs hMo hMB hMi hbq HD2 HB hlt
  refine wp_cond_false (slotE e105) ?_
  clear e105; refine wp_skip ?_; refine hKq6 _ _ ?_; clear hKq6 Kq6; refine wp_seq_k fun Kq8 hKq8 => ?_; refine wp_seq_k fun Kq9 hKq9 => ?_
  refine sm_list [10] 107 3 hs hd (by kernel_rfl) (agC e10 agN) rfl ?_
  simp only [seval]
  go_wp2_with fail
  intro a H; replace hs := H.s hs; replace hd := H.d rfl; replace e10 := H.g 10 rfl rfl; replace e0 := H.k e0 rfl; replace e2 := H.k e2 rfl; replace e3 := H.k e3 rfl; replace e5 := H.k e5 rfl; replace e6 := H.k e6 rfl; replace e7 := H.k e7 rfl; replace e9 := H.k e9 rfl; have e107 := H.g 107 rfl rfl; have e108 := H.g 108 rfl rfl; have e109 := H.g 109 rfl rfl; clear H; refine hKq9 _ _ ?_; clear hKq9 Kq9
  refine wp_block ?_
  refine wp_loop (fun a w' => ∃ (j : Nat), j ≤ N ∧ Hid ((qs.take j).all (· == 0) = true) ∧ a.tmps.size = 118 ∧ a.defers = [] ∧ a.tmps[2]? = some (.pointer (some ⟨g2, 0, none⟩)) ∧ a.tmps[3]? = some (.int .i64 0) ∧ a.tmps[5]? = some (.pointer (some ⟨g5, 0, none⟩)) ∧ a.tmps[107]? = some (.slice A10 N c10) ∧ a.tmps[108]? = some (.int .i64 (N : Int)) ∧ a.tmps[109]? = some (.int .i64 (j : Int)) ∧ w8 = w') (fun a _ => N - (intOf (a.tmps.getD 109 undef)).toNat) ?_ ?_
  · exact ⟨0, Nat.zero_le _, Lib.hid rfl, hs, hd, e2, e3, e5, e107, e108, e109, rfl⟩
  clear hs hd e0 e2 e3 e5 e6 e7 e9 e10 e107 e108 e109 a
  rintro a w9 ⟨j, hj, HZ, hs, hd, e2, e3, e5, e107, e108, e109, rfl⟩
  have hm := slot e109
  refine wp_seq_k fun Kq10 hKq10 => ?_
  by_cases hlt3 : j < N
  ·
    have dj : decide ((j : Int) < (N : Int)) = true := decide_eq_true (by omega)
    have j0 : (0 : Int) ≤ (j : Int) := by omega
    have j1 : (j : Int) < (N : Int) := by omega
    have hnI : (N : Int) ≤ 1600 := by omega
    obtain ⟨b, hb⟩ : ∃ b, qs[j]? = some b := ⟨_, List.getElem?_eq_getElem (by rw [HNl.out]; exact hlt3)⟩
    obtain ⟨ad, rfl, _, hc⟩ := HRF.out.2 (by omega)
    have hc0 := hc j _ (us_at hb)
    obtain ⟨hb0, hb1⟩ := HBQ.out b (List.mem_of_getElem? hb)
    have HMB := Lib.hid hb
    clear hc hb
    refine sm_list [108, 109] 110 1 hs hd (by kernel_rfl) (agC e108 (agC e109 agN)) rfl ?_
    simp only [seval]
    go_wp2_with fail
    intro a H; replace hs := H.s hs; replace hd := H.d rfl; replace e108 := H.g 108 rfl rfl; replace e109 := H.g 109 rfl rfl; replace e2 := H.k e2 rfl; replace e3 := H.k e3 rfl; replace e5 := H.k e5 rfl; replace e107 := H.k e107 rfl; have e110 := H.g 110 rfl rfl; clear H; refine hKq10 _ _ ?_; clear hKq10 Kq10; refine wp_seq_k fun Kq11 hKq11 => ?_
    refine wp_cond_true (slotE e110) ?_
    clear e110; refine wp_skip ?_; refine hKq11 _ _ ?_; clear hKq11 Kq11; refine wp_seq_k fun Kq12 hKq12 => ?_; refine wp_block ?_; refine wp_seq_k fun Kq13 hKq13 => ?_
    refine sm_list [12, 107, 109] 111 2 hs hd (by kernel_rfl) (agU (agC e107 (agC e109 agN))) rfl ?_
    simp only [seval]
    go_wp2_with fail
    intro a H; replace hs := H.s hs; replace hd := H.d rfl; replace e107 := H.g 107 rfl rfl; replace e109 := H.g 109 rfl rfl; replace e2 := H.k e2 rfl; replace e3 := H.k e3 rfl; replace e5 := H.k e5 rfl; replace e108 := H.k e108 rfl; have e12 := H.g 12 rfl rfl; clear H; refine hKq13 _ _ ?_; clear hKq13 Kq13; refine wp_seq_k fun Kq14 hKq14 => ?_; clear hc0 dj
    by_cases hz : b = 0
    ·
      subst hz
      refine sm_list [12] 113 2 hs hd (by kernel_rfl) (agC e12 agN) rfl ?_
      simp only [seval]
      go_wp2_with fail
      intro a H; replace hs := H.s hs; replace hd := H.d rfl; replace e12 := H.g 12 rfl rfl; replace e2 := H.k e2 rfl; replace e3 := H.k e3 rfl; replace e5 := H.k e5 rfl; replace e107 := H.k e107 rfl; replace e108 := H.k e108 rfl; replace e109 := H.k e109 rfl; have e114 := H.g 114 rfl rfl; clear H; refine hKq14 _ _ ?_; clear hKq14 Kq14
      refine wp_cond_false (slotE e114) ?_
      clear e114; refine wp_skip ?_; refine hKq12 _ _ ?_; clear hKq12 Kq12; clear e12
      refine sm_list [109] 116 1 hs hd (by kernel_rfl) (agC e109 agN) rfl ?_
      simp only [seval]
      go_wp2_with fail
      intro a H; replace hs := H.s hs; replace hd := H.d rfl; replace e2 := H.k e2 rfl; replace e3 := H.k e3 rfl; replace e5 := H.k e5 rfl; replace e107 := H.k e107 rfl; replace e108 := H.k e108 rfl; replace e109 := H.g 109 rfl rfl; clear H
      have HZ2 : Hid ((qs.take (j + 1)).all (· == 0) = true) := Lib.hid (by rw [List.take_add_one, HMB.out, List.all_append, HZ.out]; rfl)
      exact ⟨⟨j + 1, by omega, HZ2, hs, hd, e2, e3, e5, e107, e108, e109, rfl⟩, by first | (simp only [hm, slot e109, intOf]; omega) | (simp [hm, slot e109, intOf]; omega)⟩
    ·
      have hq : (b != 0) = true := bne_iff_ne.2 hz
      refine sm_list [12] 113 2 hs hd (by kernel_rfl) (agC e12 agN) rfl ?_
      simp only [seval]
      go_wp2_with fail
      intro a H; replace hs := H.s hs; replace hd := H.d rfl; replace e12 := H.g 12 rfl rfl; replace e2 := H.k e2 rfl; replace e3 := H.k e3 rfl; replace e5 := H.k e5 rfl; replace e107 := H.k e107 rfl; replace e108 := H.k e108 rfl; replace e109 := H.k e109 rfl; have e114 := H.g 114 rfl rfl; clear H; refine hKq14 _ _ ?_; clear hKq14 Kq14
      refine wp_cond_true (slotE e114) ?_
      clear e114; refine wp_seq_k fun Kq15 hKq15 => ?_
      have hD4 : decD f (b0 :: b1 :: rs) ((tot : Int) + 4) = .error 21 := by
        rw [HD3.out, if_neg]
        intro h
        have h2 := List.all_eq_true.1 h b (List.mem_of_getElem? HMB.out)
        exact hz (by simpa using h2)
      have HD4 := Lib.hid hD4
      clear hD4
      refine sm_list [2, 3] 115 1 hs hd (by kernel_rfl) (agC e2 (agC e3 agN)) rfl ?_
      simp only [seval]
      go_wp2_with (first | (refine wpList_store_part rfl 52 (.tmp 0) (.tmp 2) rfl (off := 0) rfl HT8.out.b2 rfl (by simp [zeroFm]) (by kernel_rfl) (by rw [← Array.all_toList]; rfl) ?_; intro wz Bz zz gz) | fail)
      intro a H; replace hs := H.s hs; replace hd := H.d rfl; replace e2 := H.g 2 rfl rfl; replace e5 := H.k e5 rfl; replace e107 := H.k e107 rfl; replace e108 := H.k e108 rfl; replace e109 := H.k e109 rfl; replace e12 := H.k e12 rfl; replace e3 := H.g 3 rfl rfl; clear H; refine hKq15 _ _ ?_; clear hKq15 Kq15; refine wp_ret ?_; refine ret_block ?_; refine exit_then rfl ?_; refine exit_then rfl ?_; refine ret_block ?_
      refine exit_then rfl ?_
      have Bz2 : Blk wz g2 52 zeroFm := by simpa [putAll, zeroFm] using Bz
      have bz := (HT8.out.low).grown gz (HT8.out.low).size (fun k hk => by cases hk; exact HT8.out.ap.2.1)
      exact sm_ret_cell rfl hd e2 Bz2 Tryz.underlying52 rfl (by kernel_rfl) e3 (HRR.out _ _ (by rw [HD4.out]; exact ⟨bz, rfl⟩))
  · have hkn : j = N := by omega
    have dj : decide ((j : Int) < (N : Int)) = false := decide_eq_false (by omega)
    have dj2 : decide (j < N) = false := decide_eq_false (by omega)
    clear hm; have hz := HZ.out
    rw [hkn, List.take_of_length_le (by rw [HNl.out]; exact Nat.le_refl _)] at hz
    have hD4 : decD f (b0 :: b1 :: rs) ((tot : Int) + 4) = .ok f1 := by rw [HD3.out, if_pos hz]
    have HD4 := Lib.hid hD4
    clear HZ hz hD4
    refine sm_list [108, 109] 110 1 hs hd (by kernel_rfl) (agC e108 (agC e109 agN)) rfl ?_
    simp only [seval]
    go_wp2_with fail
    intro a H; replace hs := H.s hs; replace hd := H.d rfl; replace e108 := H.g 108 rfl rfl; replace e109 := H.g 109 rfl rfl; replace e2 := H.k e2 rfl; replace e3 := H.k e3 rfl; replace e5 := H.k e5 rfl; replace e107 := H.k e107 rfl; have e110 := H.g 110 rfl rfl; clear H; refine hKq10 _ _ ?_; clear hKq10 Kq10; refine wp_seq_k fun Kq11 hKq11 => ?_
    refine wp_cond_false (slotE e110) ?_
    clear e110; refine wp_exit ?_; refine exit_then rfl ?_; clear hKq11 Kq11; refine exit_then rfl ?_; refine exit_hit ?_; refine hKq8 _ _ ?_; clear hKq8 Kq8; refine wp_seq_k fun Kq12 hKq12 => ?_
    refine sm_list [2, 3, 5] 117 1 hs hd (by kernel_rfl) (agC e2 (agC e3 (agC e5 agN))) rfl ?_
    simp only [seval]
    go_wp2_with (first | (refine wpList_load_any_d rfl 52 (.tmp 2) rfl ⟨g5, 0, none⟩ rfl M _ (blk_cells HM8.out.2.2.2.1) Tryz.underlying52 rfl HM8.out.2.2.2.2 ?_) | (refine wpList_store_part rfl 52 (.tmp 0) (.tmp 3) rfl (off := 0) rfl HT8.out.b2 rfl (by rw [HM8.out.2.1]; decide) HM8.out.2.2.2.2 HM8.out.2.2.1 ?_; intro wz Bz zz gz) | fail)
    intro a H; replace hs := H.s hs; replace hd := H.d rfl; replace e2 := H.g 2 rfl rfl; replace e5 := H.g 5 rfl rfl; replace e107 := H.k e107 rfl; replace e108 := H.k e108 rfl; replace e109 := H.k e109 rfl; replace e3 := H.g 3 rfl rfl; clear H; refine hKq12 _ _ ?_; clear hKq12 Kq12; refine wp_ret ?_
    have Bz2 : Blk wz g2 52 M := by rw [putAll_whole (by rw [HM8.out.2.1]; rfl)] at Bz; exact Bz
    have bz := HT8.out.low.grown gz HT8.out.low.size (fun k hk => by cases hk; exact HT8.out.ap.2.1)
    refine sm_ret_cell rfl hd e2 Bz2 Tryz.underlying52 rfl HM8.out.2.2.2.2 e3 (HRR.out _ _ ?_)
    rw [HD4.out]
    refine ⟨bz, HT8.out.fb.wf, A4, c4, ?_, ?_⟩
    · rw [HM8.out.1, HT8.out.len]
    · rw [HT8.out.len]; exact reads_gr2 HT8.out.dat gz HT8.out.far
end Go.Proofs.YthhlfojaloaooaaGreat
