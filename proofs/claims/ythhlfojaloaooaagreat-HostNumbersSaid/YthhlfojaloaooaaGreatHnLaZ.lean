/-
  the laws of stations: their setups.
-/
import Derived.Test.YthhlfojaloaooaaGreatRows
import Derived.Test.YthhlfojaloaooaaGreatHnZZ
import Derived.Laws.BytesArg
import Derived.Lib.SlBytesConst
import Derived.WalkKit
import Derived.ProofKit
import Derived.OpenShut
import Derived.LoopTactic
import Derived.WalkLawsBesides
import Derived.WalkSpells
import Derived.Outline
import Derived.Lib.Hide
import Derived.Deep.DrawnRows
import Derived.Laws.CopyOwn
import Derived.MapKept
namespace Go.Proofs.YthhlfojaloaooaaGreat
set_option linter.unusedSimpArgs false
set_option linter.unusedVariables false
open Go.RowKit Go.WideShapes Go.ChangeShapes
attribute [local go_sem ↓] Go.wp_at_zero Go.wp_at_succ

def Bytes (xs : List Int) : Prop := ∀ x ∈ xs, 0 ≤ x ∧ x < 256
theorem Reads.cellAt {w : World} {B : Nat} {ad : Addr} {n j : Nat} {xs : List Value} {v : Value} (h : Reads w B 1 (some ad) n xs) (hj : xs[j]? = some v) : w.cell? (ad.add j) = some v := by
  have hlt : j < n := by
    have h1 := h.1
    have := (List.getElem?_eq_some_iff.1 hj).1
    omega
  obtain ⟨ad2, u, he, _, hu, hc⟩ := h.at_ hlt
  cases he
  rw [hj] at hu
  cases hu
  exact hc
theorem run_conv_reads {P : Program} {w : World} {src e dst : TypeId} (hs : P.underlying src = some (.slice e)) (he : P.underlying e = some (.int .u8)) (hd : P.underlying dst = some .string) {A : Option Addr} {n c B : Nat} {xs : List Int} (hr : Reads w B 1 A n (us xs)) :
    (convert src dst (.slice A n c)).run P w = .ok (.string (strOfNums xs)) w := by
  have hlen : xs.length = n := by have := hr.1; simpa [us] using this
  cases A with
  | none =>
    have hn : n = 0 := by
      rcases Nat.eq_zero_or_pos n with h | h
      · exact h
      · obtain ⟨_, _, h1, _⟩ := hr.at_ h
        cases h1
    subst hn
    have hx : xs = [] := List.eq_nil_of_length_eq_zero hlen
    subst hx
    exact run_convert_bytes_nil w src e hs he 0 c dst hd
  | some ad =>
    have hl : (loadCells ad n).run P w = .ok (us xs).toArray w := by
      have := run_loadCells_list (P := P) w ad (us xs) (fun j v hj => hr.cellAt hj)
      simpa [hlen, us] using this
    rw [run_convert_bytes_string w src dst e _ n c hs he hd, run_bytesToString w _ n c xs hl, foldl_push_bytes]
    simp [strOfNums, ByteArray.empty, ByteArray.emptyWithCapacity]
    rfl
theorem byte_inj {x y : Int} (hx : 0 ≤ x ∧ x < 256) (hy : 0 ≤ y ∧ y < 256) (h : UInt8.ofNat x.toNat = UInt8.ofNat y.toNat) : x = y := by
  have := congrArg UInt8.toNat h
  simp [UInt8.toNat_ofNat'] at this
  omega
theorem map_byte_inj : ∀ {xs ys : List Int}, Bytes xs → Bytes ys → (xs.map fun n => UInt8.ofNat n.toNat) = (ys.map fun n => UInt8.ofNat n.toNat) → xs = ys
  | [], [], _, _, _ => rfl
  | [], _ :: _, _, _, h => by simp at h
  | _ :: _, [], _, _, h => by simp at h
  | x :: xs, y :: ys, hx, hy, h => by
    simp only [List.map_cons, List.cons.injEq] at h
    rw [byte_inj (hx x (by simp)) (hy y (by simp)) h.1, map_byte_inj (fun z hz => hx z (by simp [hz])) (fun z hz => hy z (by simp [hz])) h.2]
theorem str_iff {xs ys : List Int} (hx : Bytes xs) (hy : Bytes ys) : (strOfNums xs = strOfNums ys) ↔ xs = ys :=
  ⟨fun h => map_byte_inj hx hy (by rw [← strOfNums_data, ← strOfNums_data, h]), fun h => by rw [h]⟩

theorem same_any (A A2 : Option Addr) (n c n2 c2 : Nat) (xs ys : List Int) (w : World) (B B2 : Nat) (hr : Reads w B 1 A n (us xs)) (hr2 : Reads w B2 1 A2 n2 (us ys)) (hx : Bytes xs) (hy : Bytes ys) :
    Calls Tryz.prog 10 #[.slice A n c, .slice A2 n2 c2] w fun e w' => e = .returned (.bool (decide (xs = ys))) ∧ w = w' := by
  have h1 := run_conv_reads (P := Tryz.prog) (src := 23) (dst := 9) Tryz.underlying23 Tryz.underlying5 Tryz.underlying9 (c := c) hr
  have h2 := run_conv_reads (P := Tryz.prog) (src := 23) (dst := 9) Tryz.underlying23 Tryz.underlying5 Tryz.underlying9 (c := c2) hr2
  have hi := str_iff hx hy
  generalize strOfNums xs = s1 at *
  generalize strOfNums ys = s2 at *
  have HI := Lib.hid hi
  clear hi hr hr2 hx hy
  go_enter Tryz.func10, Tryz.ntmps10
  go_wp2
  go_ret
  refine ⟨ret_bool ?_, rfl⟩
  rw [Bool.eq_iff_iff, beq_iff_eq, decide_eq_true_iff, ← HI.out, ByteArray.toList_eq, ByteArray.toList_eq]
  constructor
  · intro h
    cases s1
    cases s2
    simp at h
    simp [h]
  · intro h
    rw [h]

set_option maxRecDepth 100000 in
set_option maxHeartbeats 4000000 in
theorem conf_any (id P : Int) (w : World) : Calls Tryz.prog 8 #[.int .i64 id, .int .i64 P] w fun e w' => e = .returned (.agg (cfc id P)) ∧ Below w.heap.size w w' := by
  refine calls_sm (N := 13) Tryz.func8 rfl (by kernel_rfl) ?_
  intro a hs hd ha
  have e0 : a.tmps[0]? = some (.int .i64 id) := ha 0 _ rfl
  have e1 : a.tmps[1]? = some (.int .i64 P) := ha 1 _ rfl
  clear ha
  conv => arg 2; whnf
  refine wp_seq_k fun Kq1 hKq1 => ?_
  refine sm_list [] 4 1 hs hd (by kernel_rfl) agN rfl ?_
  simp only [seval]
  go_wp2_with fail
  intro a H; replace hs := H.s hs; replace hd := H.d rfl; replace e0 := H.k e0 rfl; replace e1 := H.k e1 rfl; have e4 := H.g 4 rfl rfl; clear H; refine hKq1 _ _ ?_; clear hKq1 Kq1; refine wp_seq_k fun Kq2 hKq2 => ?_
  have B := Blk.new w 42 #[.int .i64 0, .int .i64 0, .bool false, .int .i64 0, .int .i64 0, .int .i64 0, .int .i64 0, .int .i64 0, .int .i64 0, .int .i64 0, .int .i64 0, .int .i64 0, .slice none 0 0]
  have L1 := (Below.refl w.heap.size w).alloc (Nat.le_refl _) (.cells #[.int .i64 0, .int .i64 0, .bool false, .int .i64 0, .int .i64 0, .int .i64 0, .int .i64 0, .int .i64 0, .int .i64 0, .int .i64 0, .int .i64 0, .int .i64 0, .slice none 0 0] 42)
  generalize hw1 : w.alloc (.cells #[.int .i64 0, .int .i64 0, .bool false, .int .i64 0, .int .i64 0, .int .i64 0, .int .i64 0, .int .i64 0, .int .i64 0, .int .i64 0, .int .i64 0, .int .i64 0, .slice none 0 0] 42) = w1 at B L1 ⊢
  obtain ⟨q, hq⟩ : ∃ q, q = w.heap.size := ⟨_, rfl⟩
  have hqw : w.heap.size ≤ q := by omega
  rw [← hq] at B e4
  clear hw1 hq
  refine sm_list [0, 1, 4] 5 8 hs hd (by kernel_rfl) (agC e0 (agC e1 (agC e4 agN))) rfl ?_
  simp only [seval]
  go_wp2_with (first | (refine wpList_store_part rfl 42 (.tmp 2) (.tmp 10) rfl (off := 0) rfl B rfl (by simp) (by kernel_rfl) (by rw [← Array.all_toList]; rfl) ?_; intro wz Bz zz gz) | fail)
  intro a H; replace hs := H.s hs; replace hd := H.d rfl; replace e0 := H.g 0 rfl rfl; replace e1 := H.g 1 rfl rfl; replace e4 := H.g 4 rfl rfl; clear H; refine hKq2 _ _ ?_; clear hKq2 Kq2; refine wp_ret ?_
  have Bz2 : Blk wz q 42 (cfc id P) := by simpa [putAll, cfc] using Bz
  exact sm_ret_box rfl hd e4 Bz2 Tryz.underlying42 rfl (by kernel_rfl) ⟨rfl, L1.grown gz L1.size (fun k hk => by cases hk; exact hqw)⟩
set_option maxRecDepth 100000 in
set_option maxHeartbeats 4000000 in
theorem ends_any (w : World) : Calls Tryz.prog 13 #[] w fun e w' => ∃ A c, e = .returned (.slice A 2 c) ∧ Reads w' w'.heap.size 13 A 2 (([⟨5, 1, 2, 0, 0, 0, 0, 0, 0, 0, 0, 1, true⟩, ⟨5, 1, 2, 0, 0, 0, 0, 0, 0, 0, 0, 1, false⟩] : List Ed).flatMap Ed.cells) ∧ Below w.heap.size w w' := by
  refine calls_sm (N := 11) Tryz.func13 rfl (by kernel_rfl) ?_
  intro a hs hd ha
  clear ha
  conv => arg 2; whnf
  refine wp_seq_k fun Kq1 hKq1 => ?_
  refine sm_list [] 0 1 hs hd (by kernel_rfl) agN rfl ?_
  simp only [seval]
  go_wp2_with fail
  intro a H; replace hs := H.s hs; replace hd := H.d rfl; have e0 := H.g 0 rfl rfl; clear H; refine hKq1 _ _ ?_; clear hKq1 Kq1; refine wp_seq_k fun Kq2 hKq2 => ?_
  refine sm_list [] 1 3 hs hd (by kernel_rfl) agN rfl ?_
  simp only [seval]
  go_wp2_with (first | (refine wpList_store_new rfl 29 (.tmp 0) (.tmp 2) rfl rfl rfl rfl rfl (by kernel_rfl) (by rw [← Array.all_toList]; rfl) ?_) | fail)
  intro a H; replace hs := H.s hs; replace hd := H.d rfl; replace e0 := H.k e0 rfl; have e1 := H.g 1 rfl rfl; clear H; refine hKq2 _ _ ?_; clear hKq2 Kq2; refine wp_seq_k fun Kq3 hKq3 => ?_
  have B := Blk.new w 29 #[.int .i64 5, .int .u8 1, .int .u8 2, .int .u8 0, .int .u8 0, .int .u8 0, .int .u8 0, .int .i64 0, .int .i64 0, .int .i64 0]
  have L1 := (Below.refl w.heap.size w).alloc (Nat.le_refl _) (.cells #[.int .i64 5, .int .u8 1, .int .u8 2, .int .u8 0, .int .u8 0, .int .u8 0, .int .u8 0, .int .i64 0, .int .i64 0, .int .i64 0] 29)
  generalize hw1 : w.alloc (.cells #[.int .i64 5, .int .u8 1, .int .u8 2, .int .u8 0, .int .u8 0, .int .u8 0, .int .u8 0, .int .i64 0, .int .i64 0, .int .i64 0] 29) = w1 at B L1 ⊢
  obtain ⟨q, hq⟩ : ∃ q, q = w.heap.size := ⟨_, rfl⟩
  rw [← hq] at B e1
  clear hw1 hq
  refine sm_list [0, 1] 4 7 hs hd (by kernel_rfl) (agC e0 (agC e1 agN)) rfl ?_
  simp only [seval]
  go_wp2_with (first | (refine wpList_load_any_d rfl 29 (.tmp 1) rfl ⟨q, 0, none⟩ rfl #[.int .i64 5, .int .u8 1, .int .u8 2, .int .u8 0, .int .u8 0, .int .u8 0, .int .u8 0, .int .i64 0, .int .i64 0, .int .i64 0] _ (blk_cells B) Tryz.underlying29 rfl (by kernel_rfl) ?_) | fail)
  intro a H; replace hs := H.s hs; replace hd := H.d rfl; replace e1 := H.g 1 rfl rfl; replace e0 := H.g 0 rfl rfl; clear H; refine hKq3 _ _ ?_; clear hKq3 Kq3; refine wp_ret ?_
  have Bn := Blk.new w1 32 (([⟨5, 1, 2, 0, 0, 0, 0, 0, 0, 0, 0, 1, true⟩, ⟨5, 1, 2, 0, 0, 0, 0, 0, 0, 0, 0, 1, false⟩] : List Ed).flatMap Ed.cells).toArray
  refine sm_ret rfl hd e0 ⟨some ⟨w1.heap.size, 0, none⟩, 2, rfl, ⟨rfl, fun _ => ⟨_, rfl, Bn.lt, fun j v hv => blk_cells Bn j v (by simpa using hv)⟩⟩, L1.alloc L1.size _⟩
theorem ckF_ok {d s : List Int} {vid seq : Int} {data : List Int} (hv : 0 ≤ vid ∧ vid ≤ 4094) (hs : 0 ≤ seq ∧ seq < 65536) (hl : data.length ≤ 1500) : checkF ⟨d, s, true, vid, 7, false, true, seq, 2048, data⟩ = 0 := by
  unfold checkF
  rw [if_neg (by unfold BadF; dsimp only; omega), if_neg (by unfold BareF; dsimp only; rintro (⟨h, _⟩ | ⟨h, _⟩) <;> cases h), if_neg (by dsimp only; omega), if_neg (by unfold sizeF; dsimp only; simp only [if_true]; omega)]
theorem be2_b (x : Int) : ∀ b ∈ be2 x, 0 ≤ b ∧ b ≤ 255 := by
  intro b hb
  simp only [be2, List.mem_cons, List.not_mem_nil, or_false] at hb
  omega
theorem encF_len (f : Fm) (hf : f.Wf) (hc : checkF f = 0) : (encF f).length ≤ 2000 ∧ ∀ b ∈ encF f, 0 ≤ b ∧ b ≤ 255 := by
  obtain ⟨_, _, _, _, h3⟩ := checkF_zero hc
  have hp := padF_len f hf
  obtain ⟨s0, s1⟩ := sumV_range (padF (bodyF f))
  constructor
  · unfold encF
    rw [List.length_append]
    simp only [le4, List.length_cons, List.length_nil]
    omega
  · intro b hb
    unfold encF at hb
    rcases List.mem_append.1 hb with hb | hb
    · unfold padF at hb
      rcases List.mem_append.1 hb with hb | hb
      · unfold bodyF headF at hb
        simp only [List.mem_append] at hb
        rcases hb with (((((hb | hb) | hb) | hb) | hb) | hb) | hb
        · exact hf.dstB b hb
        · exact hf.srcB b hb
        · split at hb
          · rcases List.mem_append.1 hb with hb | hb <;> exact be2_b _ b hb
          · simp at hb
        · split at hb
          · rcases List.mem_append.1 hb with hb | hb
            · rcases List.mem_append.1 hb with hb | hb <;> exact be2_b _ b hb
            · exact be2_b _ b hb
          · simp at hb
        · exact be2_b _ b hb
        · exact be2_b _ b hb
        · exact hf.dataB b hb
      · rw [List.eq_of_mem_replicate hb]; omega
    · simp only [le4, List.mem_cons, List.not_mem_nil, or_false] at hb
      omega

end Go.Proofs.YthhlfojaloaooaaGreat
