/-
  host: what comes in (the pieces).
-/
import Derived.Test.YthhlfojaloaooaaGreatRows
import Derived.Test.YthhlfojaloaooaaGreatHnYZ
import Derived.WalkKit
import Derived.ProofKit
import Derived.OpenShut
import Derived.LoopTactic
import Derived.WalkLawsBesides
import Derived.WalkSpells
import Derived.Outline
import Derived.Lib.Hide
import Derived.Deep.DrawnRows
import Derived.Laws.CopyOwn
import Derived.MapKept
namespace Go.Proofs.YthhlfojaloaooaaGreat
set_option linter.unusedSimpArgs false
set_option linter.unusedVariables false
open Go.RowKit Go.WideShapes Go.ChangeShapes
attribute [local go_sem ↓] Go.wp_at_zero Go.wp_at_succ

/-- What may turn when a frame comes to a station. -/
def ityps : List TypeId := [77, 135, 133, 189]
def mtyps : List TypeId := [135, 133, 189]
theorem mg_fty {w w' : World} {b : MgB} {r : Int} {s0 s1 sa : SqS} (m : MgAt w b r s0 s1 sa) (hf : Fr b.all w w') : FTy mtyps w w' := by
  refine FTy.fr hf fun k hk hlt => ?_
  obtain ⟨c, nx, pa, ag, si, bm, own⟩ := m.bm
  simp only [MgB.all, List.mem_cons, List.not_mem_nil, or_false] at hk
  rcases hk with rfl | rfl | rfl | rfl
  · exact ⟨_, _, bm, by simp [mtyps]⟩
  · obtain ⟨_, _, _, _, _, _, hB⟩ := m.s0
    exact ⟨_, _, hB, by simp [mtyps]⟩
  · obtain ⟨_, _, _, _, _, _, hB⟩ := m.s1
    exact ⟨_, _, hB, by simp [mtyps]⟩
  · obtain ⟨_, _, _, _, _, _, hB⟩ := m.sa
    exact ⟨_, _, hB, by simp [mtyps]⟩
/-- No byte. -/
def noU8 : Value → Bool
  | .int .u8 _ => false
  | _ => true
theorem blk_u8 {w : World} {k : Nat} {T : TypeId} {cs : Array Value} (B : Blk w k T cs) (hc : cs.all noU8 = true) {p : Addr} {x : Int} (h : w.cell? p = some (.int .u8 x)) : p.block ≠ k := by
  intro e
  unfold World.cell? at h
  rw [e, B] at h
  dsimp only at h
  split at h
  · cases h
  · rw [← Array.all_toList, List.all_eq_true] at hc
    have hm : Value.int .u8 x ∈ cs.toList := by
      rw [Array.mem_toList_iff]
      exact Array.mem_of_getElem? h
    exact absurd (hc _ hm) (by simp [noU8])
/-- What is read of bytes lies in none of a merge's blocks. -/
theorem mg_u8 {w : World} {b : MgB} {r : Int} {s0 s1 sa : SqS} (m : MgAt w b r s0 s1 sa) {B n : Nat} {A : Option Addr} {xs : List Int} (h : Reads w B 1 A n (us xs)) (hn : 0 < n) : ∀ ad, A = some ad → ad.block ∉ b.all := by
  intro ad e hk
  obtain ⟨ad', e', _, hc⟩ := h.2 (by omega)
  rw [e] at e'
  injection e' with e'
  subst e'
  have hl : xs.length = n := by have := h.1; rw [us_length] at this; omega
  obtain ⟨x, hx⟩ : ∃ x, (us xs)[0]? = some (.int .u8 x) := by
    cases xs with
    | nil => simp at hl; omega
    | cons y l => exact ⟨y, rfl⟩
  have h0 := hc 0 _ hx
  have hb : (ad.add 0).block = ad.block := block_of_add ad 0
  obtain ⟨c, nx, pa, ag, si, bm, _⟩ := m.bm
  have hq : ∀ k any last had when, SqAt w k r any last had when → (ad.add 0).block ≠ k := by
    rintro k any last had when ⟨c0, c1, c2, c3, rs, lo, hB⟩
    exact blk_u8 hB (by rw [← Array.all_toList]; simp [sqc, noU8]) h0
  rw [← hb] at hk
  simp only [MgB.all, List.mem_cons, List.not_mem_nil, or_false] at hk
  rcases hk with hk | hk | hk | hk
  · exact blk_u8 bm (by rw [← Array.all_toList]; simp [mgc, noU8]) h0 hk
  · exact hq _ _ _ _ _ m.s0 hk
  · exact hq _ _ _ _ _ m.s1 hk
  · exact hq _ _ _ _ _ m.sa hk
theorem reads_mg {w w' : World} {b : MgB} {r : Int} {s0 s1 sa : SqS} (m : MgAt w b r s0 s1 sa) (hf : Fr b.all w w') {n : Nat} {A : Option Addr} {xs : List Int} (h : Reads w w.heap.size 1 A n (us xs)) : Reads w' w'.heap.size 1 A n (us xs) := by
  rcases Nat.eq_zero_or_pos n with h0 | h0
  · exact ⟨h.1, fun hp => by omega⟩
  · exact (reads_frs hf h (Nat.le_refl _) (mg_u8 m h h0)).more hf.size
/-- What is read as bytes stays. -/
def Bys (w w' : World) : Prop := ∀ (n : Nat) (A : Option Addr) (xs : List Int), Reads w w.heap.size 1 A n (us xs) → Reads w' w'.heap.size 1 A n (us xs)
theorem Bys.refl (w : World) : Bys w w := fun _ _ _ h => h
theorem Bys.trans {w w' w'' : World} (h : Bys w w') (h' : Bys w' w'') : Bys w w'' := fun n A xs hr => h' n A xs (h n A xs hr)
theorem Bys.be {w w' : World} (h : Below w.heap.size w w') : Bys w w' := fun _ _ _ hr => (hr.below h).more h.size
theorem Bys.mg {w w' : World} {b : MgB} {r : Int} {s0 s1 sa : SqS} (m : MgAt w b r s0 s1 sa) (hf : Fr b.all w w') : Bys w w' := fun _ _ _ hr => reads_mg m hf hr
theorem Bys.blk {w w' : World} {g : Nat} {T : TypeId} {cs : Array Value} (B : Blk w g T cs) (hc : cs.all noU8 = true) (gr : w.grownBy w' (some g)) : Bys w w' := fun n A xs h => by
  rcases Nat.eq_zero_or_pos n with h0 | h0
  · exact ⟨h.1, fun hp => by omega⟩
  · refine (reads_frs (Fr.gr gr (List.mem_singleton.2 rfl)) h (Nat.le_refl _) fun ad e hk => ?_).more gr.size
    rw [List.mem_singleton] at hk
    obtain ⟨ad', e', _, hcl⟩ := h.2 (by omega)
    rw [e] at e'
    injection e' with e'
    subst e'
    have hl : xs.length = n := by have := h.1; rw [us_length] at this; omega
    obtain ⟨x, hx⟩ : ∃ x, (us xs)[0]? = some (.int .u8 x) := by
      cases xs with
      | nil => simp at hl; omega
      | cons y l => exact ⟨y, rfl⟩
    have hb : (ad.add 0).block = ad.block := block_of_add ad 0
    exact blk_u8 B hc (hcl 0 _ hx) (hb.trans hk)
theorem mtyps_ityps : ∀ t ∈ mtyps, t ∈ ityps := by
  intro t ht
  simp only [mtyps, List.mem_cons, List.not_mem_nil, or_false] at ht
  simp only [ityps, List.mem_cons, List.not_mem_nil, or_false]
  exact .inr ht
theorem ed_mac : ∀ j v, (#[.int .u8 1, .int .u8 2, .int .u8 0, .int .u8 0, .int .u8 0, .int .u8 0] : Array Value).toList[j]? = some v → (#[.int .i64 5, .int .u8 1, .int .u8 2, .int .u8 0, .int .u8 0, .int .u8 0, .int .u8 0, .int .i64 0, .int .i64 0, .int .i64 0, .int .i64 0, .int .i64 1, .bool false] : Array Value)[1 + j]? = some v
  | 0, v, h => h
  | 1, v, h => h
  | 2, v, h => h
  | 3, v, h => h
  | 4, v, h => h
  | 5, v, h => h
  | n + 6, v, h => by simp at h
theorem ed_prt : ∀ j v, (#[.int .i64 0, .int .i64 1] : Array Value).toList[j]? = some v → (#[.int .i64 5, .int .u8 1, .int .u8 2, .int .u8 0, .int .u8 0, .int .u8 0, .int .u8 0, .int .i64 0, .int .i64 0, .int .i64 0, .int .i64 0, .int .i64 1, .bool false] : Array Value)[10 + j]? = some v
  | 0, v, h => h
  | 1, v, h => h
  | n + 2, v, h => by simp at h
theorem fr_mac {s0 s1 s2 s3 s4 s5 seq : Int} {A2 : Option Addr} {l c2 : Nat} : ∀ j v, (#[.int .u8 1, .int .u8 2, .int .u8 0, .int .u8 0, .int .u8 0, .int .u8 0] : Array Value).toList[j]? = some v → (#[.int .u8 1, .int .u8 2, .int .u8 0, .int .u8 0, .int .u8 0, .int .u8 0, .int .u8 s0, .int .u8 s1, .int .u8 s2, .int .u8 s3, .int .u8 s4, .int .u8 s5, .bool true, .int .i64 5, .int .i64 7, .bool false, .bool true, .int .i64 seq, .int .i64 2048, .slice A2 l c2] : Array Value)[0 + j]? = some v
  | 0, v, h => h
  | 1, v, h => h
  | 2, v, h => h
  | 3, v, h => h
  | 4, v, h => h
  | 5, v, h => h
  | n + 6, v, h => by simp at h
theorem styGOT : SliceTy Tryz.prog 61 71 23 120 := sliceTy_mk (z := .agg #[.int .i64 0, .int .i64 0, .slice none 0 0, .int .u8 0, .int .u8 0, .int .u8 0, .int .u8 0, .int .u8 0, .int .u8 0, .int .u8 0, .int .u8 0, .int .u8 0, .int .u8 0, .int .u8 0, .int .u8 0, .bool false, .int .i64 0, .int .i64 0, .bool false, .bool false, .int .i64 0, .int .i64 0, .slice none 0 0]) Tryz.underlying61 (by kernel_rfl) rfl
set_option maxRecDepth 100000 in
set_option maxHeartbeats 4000000 in
theorem floor_any (x : Int) (w : World) : Calls Tryz.prog 31 #[.int .i64 x] w fun e w' => e = .returned (.int .i64 (x / 65536)) ∧ w = w' := by
  refine calls_sm (N := 5) Tryz.func31 rfl (by kernel_rfl) ?_
  intro a hs hd ha
  have e0 : a.tmps[0]? = some (.int .i64 x) := ha 0 _ rfl
  clear ha
  conv => arg 2; whnf
  refine wp_seq_k fun Kq1 hKq1 => ?_
  refine sm_list [] 2 1 hs hd (by kernel_rfl) agN rfl ?_
  simp only [seval]
  go_wp2_with fail
  intro a H; replace hs := H.s hs; replace hd := H.d rfl; replace e0 := H.k e0 rfl; have e2 := H.g 2 rfl rfl; clear H; refine hKq1 _ _ ?_; clear hKq1 Kq1; refine wp_seq_k fun Kq2 hKq2 => ?_
  refine sm_list [0] 2 3 hs hd (by kernel_rfl) (agC e0 agN) rfl ?_
  simp only [seval]
  go_wp2_with fail
  intro a H; replace hs := H.s hs; replace hd := H.d rfl; replace e0 := H.g 0 rfl rfl; replace e2 := H.g 2 rfl rfl; clear H; refine hKq2 _ _ ?_; clear hKq2 Kq2; refine wp_ret ?_
  exact sm_ret rfl hd e2 ⟨rfl, rfl⟩

end Go.Proofs.YthhlfojaloaooaaGreat
