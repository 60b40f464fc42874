/-
  Layer 6's laws, what they share: the same bytes, the same message, a message for the reference.
-/
import Derived.Test.YtlhaloabophliaaPtpBase
import Derived.Laws.BytesArg
namespace Go.Proofs.Ytlhaloabophliaa
open Go.RowKit Go.WideShapes Go.ChangeShapes
attribute [local go_sem ↓] Go.wp_at_zero Go.wp_at_succ

def Bytes (xs : List Int) : Prop := ∀ x ∈ xs, 0 ≤ x ∧ x < 256
theorem Reads.cellAt {w : World} {B : Nat} {ad : Addr} {n j : Nat} {xs : List Value} {v : Value} (h : Reads w B 1 (some ad) n xs) (hj : xs[j]? = some v) : w.cell? (ad.add j) = some v := by
  have hlt : j < n := by
    have h1 := h.1
    have := (List.getElem?_eq_some_iff.1 hj).1
    omega
  obtain ⟨ad2, u, he, _, hu, hc⟩ := h.at_ hlt
  cases he
  rw [hj] at hu
  cases hu
  exact hc
theorem run_conv_reads {P : Program} {w : World} {src e dst : TypeId} (hs : P.underlying src = some (.slice e)) (he : P.underlying e = some (.int .u8)) (hd : P.underlying dst = some .string) {A : Option Addr} {n c B : Nat} {xs : List Int} (hr : Reads w B 1 A n (us xs)) :
    (convert src dst (.slice A n c)).run P w = .ok (.string (strOfNums xs)) w := by
  have hlen : xs.length = n := by have := hr.1; simpa [us] using this
  cases A with
  | none =>
    have hn : n = 0 := by
      rcases Nat.eq_zero_or_pos n with h | h
      · exact h
      · obtain ⟨_, _, h1, _⟩ := hr.at_ h
        cases h1
    subst hn
    have hx : xs = [] := List.eq_nil_of_length_eq_zero hlen
    subst hx
    exact run_convert_bytes_nil w src e hs he 0 c dst hd
  | some ad =>
    have hl : (loadCells ad n).run P w = .ok (us xs).toArray w := by
      have := run_loadCells_list (P := P) w ad (us xs) (fun j v hj => hr.cellAt hj)
      simpa [hlen, us] using this
    rw [run_convert_bytes_string w src dst e _ n c hs he hd, run_bytesToString w _ n c xs hl, foldl_push_bytes]
    simp [strOfNums, ByteArray.empty, ByteArray.emptyWithCapacity]
    rfl
theorem byte_inj {x y : Int} (hx : 0 ≤ x ∧ x < 256) (hy : 0 ≤ y ∧ y < 256) (h : UInt8.ofNat x.toNat = UInt8.ofNat y.toNat) : x = y := by
  have := congrArg UInt8.toNat h
  simp [UInt8.toNat_ofNat'] at this
  omega
theorem map_byte_inj : ∀ {xs ys : List Int}, Bytes xs → Bytes ys → (xs.map fun n => UInt8.ofNat n.toNat) = (ys.map fun n => UInt8.ofNat n.toNat) → xs = ys
  | [], [], _, _, _ => rfl
  | [], _ :: _, _, _, h => by simp at h
  | _ :: _, [], _, _, h => by simp at h
  | x :: xs, y :: ys, hx, hy, h => by
    simp only [List.map_cons, List.cons.injEq] at h
    rw [byte_inj (hx x (by simp)) (hy y (by simp)) h.1, map_byte_inj (fun z hz => hx z (by simp [hz])) (fun z hz => hy z (by simp [hz])) h.2]
theorem str_iff {xs ys : List Int} (hx : Bytes xs) (hy : Bytes ys) : (strOfNums xs = strOfNums ys) ↔ xs = ys :=
  ⟨fun h => map_byte_inj hx hy (by rw [← strOfNums_data, ← strOfNums_data, h]), fun h => by rw [h]⟩

theorem same_any (A A2 : Option Addr) (n c n2 c2 : Nat) (xs ys : List Int) (w : World) (B B2 : Nat) (hr : Reads w B 1 A n (us xs)) (hr2 : Reads w B2 1 A2 n2 (us ys)) (hx : Bytes xs) (hy : Bytes ys) :
    Calls Try.prog 11 #[.slice A n c, .slice A2 n2 c2] w fun e w' => e = .returned (.bool (decide (xs = ys))) ∧ w = w' := by
  have h1 := run_conv_reads (P := Try.prog) (src := 32) (dst := 9) Try.underlying32 Try.underlying5 Try.underlying9 (c := c) hr
  have h2 := run_conv_reads (P := Try.prog) (src := 32) (dst := 9) Try.underlying32 Try.underlying5 Try.underlying9 (c := c2) hr2
  have hi := str_iff hx hy
  generalize strOfNums xs = s1 at *
  generalize strOfNums ys = s2 at *
  have HI := Lib.hid hi
  clear hi hr hr2 hx hy
  go_enter Try.func11, Try.ntmps11
  go_wp2
  go_ret
  refine ⟨ret_bool ?_, rfl⟩
  rw [Bool.eq_iff_iff, beq_iff_eq, decide_eq_true_iff, ← HI.out, ByteArray.toList_eq, ByteArray.toList_eq]
  constructor
  · intro h
    cases s1
    cases s2
    simp at h
    simp [h]
  · intro h
    rw [h]

/-! ### A message for the reference, and whether two are the same -/
def Mg.ints (m : Mg) : List Int := [m.kind, m.domain, m.seq, m.src, m.port, m.corr, m.time, m.to, m.toPort, m.rate, m.one, m.cls, m.two, m.id, m.steps]
theorem Mg.ext_iff' {a b : Mg} : a = b ↔ a.ints = b.ints ∧ a.path = b.path := by
  constructor
  · rintro rfl; exact ⟨rfl, rfl⟩
  · rintro ⟨h, h2⟩
    cases a
    cases b
    simp only [Mg.ints, List.cons.injEq, and_true] at h
    simp_all
noncomputable instance : DecidableEq Mg := fun _ _ => Classical.propDecidable _

set_option maxHeartbeats 1000000 in
theorem plain_any (m : Mg) (A : Option Addr) (n c : Nat) (w : World) :
    Calls Try.prog 13 #[.agg #[.int .i64 m.kind, .int .i64 m.domain, .int .i64 m.seq, .int .i64 m.src, .int .i64 m.port, .int .i64 m.corr, .int .i64 m.time, .int .i64 m.to, .int .i64 m.toPort, .int .i64 m.rate, .int .i64 m.one, .int .i64 m.cls, .int .i64 m.two, .int .i64 m.id, .int .i64 m.steps, .slice A n c]] w fun e w' => e = .returned (.agg #[.int .i64 m.kind, .int .i64 m.domain, .int .i64 m.seq, .int .i64 m.src, .int .i64 m.port, .int .i64 m.corr, .int .i64 m.time, .int .i64 m.to, .int .i64 m.toPort, .int .i64 m.rate, .int .i64 m.one, .int .i64 m.cls, .int .i64 m.two, .int .i64 m.id, .int .i64 m.steps, .slice A n c]) ∧ Below w.heap.size w w' := by
  go_enter Try.func13, Try.ntmps13
  go_wp2_with fail
  refine bodyPost_ret (v := .agg #[.int .i64 m.kind, .int .i64 m.domain, .int .i64 m.seq, .int .i64 m.src, .int .i64 m.port, .int .i64 m.corr, .int .i64 m.time, .int .i64 m.to, .int .i64 m.toPort, .int .i64 m.rate, .int .i64 m.one, .int .i64 m.cls, .int .i64 m.two, .int .i64 m.id, .int .i64 m.steps, .slice A n c]) (by simp [results, Try.results13, go_sem]) rfl ⟨rfl, ?_⟩
  exact ((Below.refl _ _).alloc (Nat.le_refl _) _).alloc (by simp) _

set_option maxRecDepth 100000 in
set_option maxHeartbeats 4000000 in
theorem refSame_any (a b : Mg) (A A2 : Option Addr) (n c n2 c2 : Nat) (w : World) (hr : Reads w w.heap.size 1 A n (vs a.path)) (hr2 : Reads w w.heap.size 1 A2 n2 (vs b.path)) (hl : a.path.length = n) (hl2 : b.path.length = n2) (hn : n ≤ 1000000) (hn2 : n2 ≤ 1000000) :
    Calls Try.prog 12 #[.agg #[.int .i64 a.kind, .int .i64 a.domain, .int .i64 a.seq, .int .i64 a.src, .int .i64 a.port, .int .i64 a.corr, .int .i64 a.time, .int .i64 a.to, .int .i64 a.toPort, .int .i64 a.rate, .int .i64 a.one, .int .i64 a.cls, .int .i64 a.two, .int .i64 a.id, .int .i64 a.steps, .slice A n c], .agg #[.int .i64 b.kind, .int .i64 b.domain, .int .i64 b.seq, .int .i64 b.src, .int .i64 b.port, .int .i64 b.corr, .int .i64 b.time, .int .i64 b.to, .int .i64 b.toPort, .int .i64 b.rate, .int .i64 b.one, .int .i64 b.cls, .int .i64 b.two, .int .i64 b.id, .int .i64 b.steps, .slice A2 n2 c2]] w fun e w' => e = .returned (.bool (decide (a = b))) ∧ Below w.heap.size w w' := by
  have hneq : ∀ w, (binOp .neq 38 (.agg #[.int .i64 a.kind, .int .i64 a.domain, .int .i64 a.seq, .int .i64 a.src, .int .i64 a.port, .int .i64 a.corr, .int .i64 a.time, .int .i64 a.to, .int .i64 a.toPort, .int .i64 a.rate, .int .i64 a.one, .int .i64 a.cls, .int .i64 a.two, .int .i64 a.id, .int .i64 a.steps]) (.agg #[.int .i64 b.kind, .int .i64 b.domain, .int .i64 b.seq, .int .i64 b.src, .int .i64 b.port, .int .i64 b.corr, .int .i64 b.time, .int .i64 b.to, .int .i64 b.toPort, .int .i64 b.rate, .int .i64 b.one, .int .i64 b.cls, .int .i64 b.two, .int .i64 b.id, .int .i64 b.steps])).run Try.prog w = .ok (.bool (!(a.ints == b.ints))) w := fun w => by
    have h5 := run_neq_arr (P := Try.prog) (k := .i64) Try.underlying38 Try.underlying3 (by kernel_rfl) a.ints b.ints rfl rfl w
    simpa [Mg.ints] using h5
  have HL := Lib.hid hl
  have HL2 := Lib.hid hl2
  clear hl hl2
  by_cases hi : a.ints = b.ints
  · have hb : (!(a.ints == b.ints)) = false := by simp [hi]
    rw [hb] at hneq
    have HI := Lib.hid hi
    clear hi hb
    by_cases hnn : n = n2
    · subst hnn
      have nn : ((n : Int) != (n : Int)) = false := by simp
      have B0 := (Blk.new w 40 #[.int .i64 a.kind, .int .i64 a.domain, .int .i64 a.seq, .int .i64 a.src, .int .i64 a.port, .int .i64 a.corr, .int .i64 a.time, .int .i64 a.to, .int .i64 a.toPort, .int .i64 a.rate, .int .i64 a.one, .int .i64 a.cls, .int .i64 a.two, .int .i64 a.id, .int .i64 a.steps, .slice A n c]).alloc (.cells #[.int .i64 b.kind, .int .i64 b.domain, .int .i64 b.seq, .int .i64 b.src, .int .i64 b.port, .int .i64 b.corr, .int .i64 b.time, .int .i64 b.to, .int .i64 b.toPort, .int .i64 b.rate, .int .i64 b.one, .int .i64 b.cls, .int .i64 b.two, .int .i64 b.id, .int .i64 b.steps, .slice A2 n c2] 40)
      have B1 : Blk ((w.alloc (.cells #[.int .i64 a.kind, .int .i64 a.domain, .int .i64 a.seq, .int .i64 a.src, .int .i64 a.port, .int .i64 a.corr, .int .i64 a.time, .int .i64 a.to, .int .i64 a.toPort, .int .i64 a.rate, .int .i64 a.one, .int .i64 a.cls, .int .i64 a.two, .int .i64 a.id, .int .i64 a.steps, .slice A n c] 40)).alloc (.cells #[.int .i64 b.kind, .int .i64 b.domain, .int .i64 b.seq, .int .i64 b.src, .int .i64 b.port, .int .i64 b.corr, .int .i64 b.time, .int .i64 b.to, .int .i64 b.toPort, .int .i64 b.rate, .int .i64 b.one, .int .i64 b.cls, .int .i64 b.two, .int .i64 b.id, .int .i64 b.steps, .slice A2 n c2] 40)) (w.heap.size + 1) 40 #[.int .i64 b.kind, .int .i64 b.domain, .int .i64 b.seq, .int .i64 b.src, .int .i64 b.port, .int .i64 b.corr, .int .i64 b.time, .int .i64 b.to, .int .i64 b.toPort, .int .i64 b.rate, .int .i64 b.one, .int .i64 b.cls, .int .i64 b.two, .int .i64 b.id, .int .i64 b.steps, .slice A2 n c2] := Blk.at_new _ _ _ (by simp)
      have BB : Below w.heap.size w ((w.alloc (.cells #[.int .i64 a.kind, .int .i64 a.domain, .int .i64 a.seq, .int .i64 a.src, .int .i64 a.port, .int .i64 a.corr, .int .i64 a.time, .int .i64 a.to, .int .i64 a.toPort, .int .i64 a.rate, .int .i64 a.one, .int .i64 a.cls, .int .i64 a.two, .int .i64 a.id, .int .i64 a.steps, .slice A n c] 40)).alloc (.cells #[.int .i64 b.kind, .int .i64 b.domain, .int .i64 b.seq, .int .i64 b.src, .int .i64 b.port, .int .i64 b.corr, .int .i64 b.time, .int .i64 b.to, .int .i64 b.toPort, .int .i64 b.rate, .int .i64 b.one, .int .i64 b.cls, .int .i64 b.two, .int .i64 b.id, .int .i64 b.steps, .slice A2 n c2] 40)) := (by (repeat (refine Below.alloc ?_ (by first | omega | (simp; done) | (simp; omega)) _)); exact Below.refl _ _)
      go_enter Try.func12, Try.ntmps12
      go_wp2_with fail
      clear hneq
      go_loopw [5, 23] (fun _ i wr => ∃ k : Nat, k ≤ n ∧ i = .int .i64 k ∧ Hid (∀ j, j < k → a.path[j]? = b.path[j]?) ∧ Blk wr w.heap.size 40 #[.int .i64 a.kind, .int .i64 a.domain, .int .i64 a.seq, .int .i64 a.src, .int .i64 a.port, .int .i64 a.corr, .int .i64 a.time, .int .i64 a.to, .int .i64 a.toPort, .int .i64 a.rate, .int .i64 a.one, .int .i64 a.cls, .int .i64 a.two, .int .i64 a.id, .int .i64 a.steps, .slice A n c] ∧ Blk wr (w.heap.size + 1) 40 #[.int .i64 b.kind, .int .i64 b.domain, .int .i64 b.seq, .int .i64 b.src, .int .i64 b.port, .int .i64 b.corr, .int .i64 b.time, .int .i64 b.to, .int .i64 b.toPort, .int .i64 b.rate, .int .i64 b.one, .int .i64 b.cls, .int .i64 b.two, .int .i64 b.id, .int .i64 b.steps, .slice A2 n c2] ∧ Below w.heap.size w wr) (fun _ i _ => n - (intOf i).toNat)
      case atStart => exact ⟨0, Nat.zero_le _, rfl, (fun j hj => by omega), B0, B1, BB⟩
      case round =>
        clear B0 B1 BB
        obtain ⟨k, hk, rfl, hs, B0, B1, BB⟩ := hrel
        by_cases hlt : k < n
        · obtain ⟨ad, v, rfl, _, hx, hc⟩ := (hr.below BB).at_ hlt
          obtain ⟨ad2, v2, rfl, _, hx2, hc2⟩ := (hr2.below BB).at_ hlt
          obtain ⟨x, hx1, rfl⟩ := getElem?_map_some hx
          obtain ⟨y, hy1, rfl⟩ := getElem?_map_some hx2
          have HX := Lib.hid hx1
          have HY := Lib.hid hy1
          clear hx hx1 hx2 hy1
          have hk1 : (k : Int) < n := by omega
          have hk0 : (0 : Int) ≤ k := by omega
          have p0 := B0.cell 15
          have p1 := B1.cell 15
          simp at p0 p1
          by_cases hxy : x = y
          · have t0 : (x != y) = false := by simp [hxy]
            have HXY := Lib.hid hxy
            clear hxy
            go_wp2_with fail
            go_quiet (fail)
            go_wp2_with fail
            go_roundw
            case rel => exact ⟨k + 1, by omega, by go_num, (fun j hj => by
              by_cases h : j < k
              · exact hs.out j h
              · rw [show j = k from by omega, HX.out, HY.out, HXY.out]), B0.drewN _, B1.drewN _, below_drewN BB _⟩
            case measure => simp [intOf]; omega
          · have t0 : (x != y) = true := by simp [hxy]
            have HXY := Lib.hid hxy
            clear hxy
            go_wp2_with fail
            go_quiet (fail)
            go_wp2_with fail
            go_ret
            exact ⟨ret_bool (Eq.symm (decide_eq_false (fun h => HXY.out (by have h1 := HX.out; rw [h, HY.out] at h1; exact (Option.some.inj h1).symm)))), below_drewN BB _⟩
        · obtain rfl : n = k := by omega
          go_wp2_with fail
          go_ret
          refine ⟨ret_bool (Eq.symm (decide_eq_true (Mg.ext_iff'.2 ⟨HI.out, ?_⟩))), BB⟩
          apply List.ext_getElem?
          intro j
          by_cases hj : j < n
          · exact hs.out j hj
          · rw [List.getElem?_eq_none (by rw [HL.out]; omega), List.getElem?_eq_none (by rw [HL2.out]; omega)]
    · have nn : ((n : Int) != (n2 : Int)) = true := by rw [bne_iff_ne]; omega
      have HN := Lib.hid hnn
      clear hnn
      go_enter Try.func12, Try.ntmps12
      go_wp2_with fail
      go_ret
      exact ⟨ret_bool (Eq.symm (decide_eq_false (fun h => HN.out (by rw [← HL.out, ← HL2.out, h])))), (by (repeat (refine Below.alloc ?_ (by first | omega | (simp; done) | (simp; omega)) _)); exact Below.refl _ _)⟩
  · have hb : (!(a.ints == b.ints)) = true := by simp [hi]
    rw [hb] at hneq
    have HI := Lib.hid hi
    clear hi hb
    go_enter Try.func12, Try.ntmps12
    go_wp2_with fail
    go_ret
    exact ⟨ret_bool (Eq.symm (decide_eq_false (fun h => HI.out (by rw [h])))), (by (repeat (refine Below.alloc ?_ (by first | omega | (simp; done) | (simp; omega)) _)); exact Below.refl _ _)⟩
end Go.Proofs.Ytlhaloabophliaa
