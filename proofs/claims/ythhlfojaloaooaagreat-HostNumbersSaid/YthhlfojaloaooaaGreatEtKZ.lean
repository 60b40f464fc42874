/-
  ether: what bytes are read as, and what is kept while they are.
-/
import Derived.Test.YthhlfojaloaooaaGreatRows
import Derived.Test.YthhlfojaloaooaaGreatEtY
import Derived.WalkKit
import Derived.ProofKit
import Derived.OpenShut
import Derived.LoopTactic
import Derived.WalkLawsBesides
import Derived.WalkSpells
import Derived.Outline
import Derived.Lib.Hide
import Derived.Deep.DrawnRows
import Derived.Laws.CopyOwn
import Derived.MapKept
namespace Go.Proofs.YthhlfojaloaooaaGreat
set_option linter.unusedSimpArgs false
set_option linter.unusedVariables false
open Go.RowKit Go.WideShapes Go.ChangeShapes
attribute [local go_sem ↓] Go.wp_at_zero Go.wp_at_succ

def num2 : List Int → Int
  | b0 :: b1 :: _ => b0 * 256 + b1
  | _ => 0
def zeroFm : Array Value := #[.int .u8 0, .int .u8 0, .int .u8 0, .int .u8 0, .int .u8 0, .int .u8 0, .int .u8 0, .int .u8 0, .int .u8 0, .int .u8 0, .int .u8 0, .int .u8 0, .bool false, .int .i64 0, .int .i64 0, .bool false, .bool false, .int .i64 0, .int .i64 0, .slice none 0 0]
def decD (f : Fm) (rest : List Int) (total : Int) : Except Int Fm :=
  if ((rest.length : Int) - 2) < num2 rest then .error 21
  else if checkF { f with data := (rest.drop 2).take (num2 rest).toNat } ≠ 0 ∨ total ≠ max 64 (sizeF { f with data := (rest.drop 2).take (num2 rest).toNat }) then .error 21
  else if ((rest.drop 2).drop (num2 rest).toNat).all (· == 0) then .ok { f with data := (rest.drop 2).take (num2 rest).toNat } else .error 21
def decC (f : Fm) (rest : List Int) (total : Int) : Except Int Fm :=
  if f.ty = 61889 then (if num2 rest ≠ 0 then .error 21 else decD { f with many := true, seq := num2 (rest.drop 2), ty := num2 (rest.drop 4) } (rest.drop 6) total) else decD f rest total
def decB (f : Fm) (rest : List Int) (total : Int) : Except Int Fm :=
  if f.ty = 33024 then decC { f with tagged := true, prio := num2 rest / 8192, drop := num2 rest / 4096 % 2 == 1, vid := num2 rest % 4096, ty := num2 (rest.drop 2) } (rest.drop 4) total else decC f rest total
def fm0 (ys : List Int) : Fm := ⟨ys.take 6, (ys.drop 6).take 6, false, 0, 0, false, false, 0, num2 (ys.drop 12), []⟩
def decV (bs : List Int) : Except Int Fm := if bs.length < 64 then .error 20 else if 1600 < bs.length then .error 3 else match openV bs with
  | none => .error 22
  | some ys => decB (fm0 ys) (ys.drop 14) ((ys.length : Int) + 4)
def cells2 (d s : List Int) (l : List Value) : Array Value := (us d ++ us s ++ l).toArray
theorem cells2_set {d s : List Int} (hd : d.length = 6) (hs : s.length = 6) (l : List Value) (k : Nat) (u : Value) : (cells2 d s l).setIfInBounds (12 + k) u = cells2 d s (l.set k u) := by
  unfold cells2
  have h : (us d ++ us s).length = 12 := by rw [List.length_append, us_length, us_length, hd, hs]
  rw [List.setIfInBounds_toArray, List.set_append_right _ _ (by omega), h, Nat.add_sub_cancel_left]
theorem Fm.cells_eq (f : Fm) (A : Option Addr) (n c : Nat) : f.cells A n c = cells2 f.dst f.src [.bool f.tagged, .int .i64 f.vid, .int .i64 f.prio, .bool f.drop, .bool f.many, .int .i64 f.seq, .int .i64 f.ty, .slice A n c] := rfl
/-- While a frame is read. -/
structure DeS (w wk : World) (g2 g5 g6 : Nat) (f : Fm) (rest : List Int) (A : Addr) (c : Nat) : Prop where
  low : Below w.heap.size w wk
  b2 : Blk wk g2 52 zeroFm
  fb : FB wk g5 f none 0 0
  b6 : Blk wk g6 23 #[.slice (some A) rest.length c]
  rd : Reads wk wk.heap.size 1 (some A) rest.length (us rest)
  cap : rest.length ≤ c
  cm : c ≤ maxLen
  bB : ∀ b ∈ rest, 0 ≤ b ∧ b ≤ 255
  ap : g2 ≠ g5 ∧ w.heap.size ≤ g2 ∧ w.heap.size ≤ g5 ∧ w.heap.size ≤ g6
  rt : A.block ≠ g6 ∧ ∃ cur : Array Value, Blk wk A.block 5 cur
  data : f.data = []
section
variable {w wk w' : World} {g2 g5 g6 c : Nat} {f f' : Fm} {rest : List Int} {A : Addr}
theorem reads_gr {w w' : World} {A : Addr} {n q : Nat} {xs : List Value} (h : Reads w w.heap.size 1 (some A) n xs) (gr : w.grownBy w' (some q)) (hq : A.block ≠ q) : Reads w' w'.heap.size 1 (some A) n xs := ⟨h.1, fun h0 => by
  obtain ⟨ad, e, hl, hc⟩ := h.2 h0
  injection e with e
  subst e
  exact ⟨_, rfl, Nat.lt_of_lt_of_le hl gr.size, fun j u hu => by
    have hb := gr.block A.block hl (by intro e; injection e with e; exact hq e)
    have := hc j u hu
    unfold World.cell? at this ⊢
    rw [block_of_add] at this ⊢
    rw [hb]
    exact this⟩⟩
/-- The next number is taken. -/
theorem DeS.next {b0 b1 : Int} (h : DeS w wk g2 g5 g6 f (b0 :: b1 :: rest) A c) (hB : Blk w' g6 23 #[.slice (some (A.add 2)) rest.length (c - 2)]) (gr : wk.grownBy w' (some g6)) : DeS w w' g2 g5 g6 f rest (A.add 2) (c - 2) := by
  obtain ⟨a1, a2, a3, a4⟩ := h.ap
  obtain ⟨cur, hcur⟩ := h.rt.2
  have hc := h.cap
  simp only [List.length_cons] at hc
  refine ⟨h.low.grown gr h.low.size (fun k hk => by cases hk; exact a4), h.b2.grown gr (by intro e; injection e with e; exact Blk.ne_ h.b2 h.b6 (by decide) e), ⟨h.fb.blk.grown gr (by intro e; injection e with e; exact Blk.ne_ h.fb.blk h.b6 (by decide) e), h.fb.wf⟩, hB, ?_, by omega, by have := h.cm; omega, fun b hb => h.bB b (by simp [hb]), h.ap, ⟨by rw [block_of_add]; exact h.rt.1, cur, by rw [block_of_add]; exact hcur.grown gr (by intro e; injection e with e; exact h.rt.1 e)⟩, h.data⟩
  have hr := reads_gr h.rd gr h.rt.1
  refine ⟨by rw [us_length, Nat.mul_one], fun h0 => ?_⟩
  obtain ⟨ad, e, hl, hc2⟩ := hr.2 (by simp)
  injection e with e
  subst e
  refine ⟨_, rfl, by rw [block_of_add]; exact hl, fun j u hu => ?_⟩
  rw [add_of_add]
  refine hc2 (2 + j) u ?_
  show (us (b0 :: b1 :: rest))[2 + j]? = _
  rw [show us (b0 :: b1 :: rest) = [.int .u8 b0, .int .u8 b1] ++ us rest from rfl, List.getElem?_append_right (by simp)]
  simpa using hu
/-- The frame turns in some of its cells. -/
theorem DeS.put (h : DeS w wk g2 g5 g6 f rest A c) (hB : Blk w' g5 52 (f'.cells none 0 0)) (hd : f'.dst = f.dst ∧ f'.src = f.src ∧ f'.data = f.data) (gr : wk.grownBy w' (some g5)) : DeS w w' g2 g5 g6 f' rest A c := by
  obtain ⟨a1, a2, a3, a4⟩ := h.ap
  obtain ⟨cur, hcur⟩ := h.rt.2
  have hne : A.block ≠ g5 := Blk.ne_ hcur h.fb.blk (by decide)
  have hW := h.fb.wf
  exact ⟨h.low.grown gr h.low.size (fun k hk => by cases hk; exact a3), h.b2.grown gr (by intro e; injection e with e; exact a1 e), ⟨hB, ⟨by rw [hd.1]; exact hW.dst, by rw [hd.2.1]; exact hW.src, by rw [hd.1]; exact hW.dstB, by rw [hd.2.1]; exact hW.srcB, by rw [hd.2.2]; exact hW.dataB⟩⟩,
    h.b6.grown gr (by intro e; injection e with e; exact Blk.ne_ h.b6 h.fb.blk (by decide) e), reads_gr h.rd gr hne, h.cap, h.cm, h.bB, h.ap, ⟨h.rt.1, cur, hcur.grown gr (by intro e; injection e with e; exact hne e)⟩, hd.2.2.trans h.data⟩
theorem DeS.two {b0 b1 : Int} (h : DeS w wk g2 g5 g6 f (b0 :: b1 :: rest) A c) : wk.cell? A = some (.int .u8 b0) ∧ wk.cell? (A.add 1) = some (.int .u8 b1) ∧ A.block < wk.heap.size ∧ (0 ≤ b0 ∧ b0 ≤ 255) ∧ (0 ≤ b1 ∧ b1 ≤ 255) := by
  obtain ⟨ad, e, hl, hc⟩ := h.rd.2 (by simp)
  injection e with e
  subst e
  refine ⟨?_, hc 1 _ rfl, hl, h.bB b0 (by simp), h.bB b1 (by simp)⟩
  have := hc 0 _ rfl
  rwa [show A.add 0 = A by unfold Addr.add; simp] at this
end

end Go.Proofs.YthhlfojaloaooaaGreat
