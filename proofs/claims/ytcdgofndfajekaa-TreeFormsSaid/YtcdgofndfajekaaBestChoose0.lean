/-
  best.Choose: what it gives, as a plain function of the own clock and of what the ports have heard.
-/
import Derived.Test.YtcdgofndfajekaaBestBase
namespace Go.Proofs.Ytcdgofndfajekaa
open Go.RowKit
attribute [local go_sem ↓] Go.wp_at_zero Go.wp_at_succ

structure Hd where
  up : Bool
  ok : Bool
  vec : Vc
def Hd.cells (h : Hd) : List Value := .bool h.up :: .bool h.ok :: h.vec.cells
theorem Hd.len (h : Hd) : h.cells.length = 10 := rfl
def topStep (own top : Vc) (i : Nat) (h : Hd) : Vc :=
  if h.up = true ∧ h.ok = true ∧ cmpP h.vec.root own.root < 0 ∧ (top.at_ < 0 ∨ cmpV { h.vec with at_ := (i : Int) } top < 0) then { h.vec with at_ := (i : Int) } else top
def topFrom (own : Vc) : Vc → Nat → List Hd → Vc
  | top, _, [] => top
  | top, i, h :: hs => topFrom own (topStep own top i h) (i + 1) hs
def ownVec (own : Pr) : Vc := ⟨own, 0, own.id, 0, -1⟩
def topOf (own : Pr) (hs : List Hd) : Vc := topFrom (ownVec own) (ownVec own) 0 hs
def mineOf (own : Pr) (top : Vc) (i : Nat) : Vc := ⟨top.root, if top.at_ < 0 then 0 else wrap64 (top.steps + 1), own.id, i, 0⟩
def roleOf (own : Pr) (top : Vc) (i : Nat) (h : Hd) : Int :=
  if h.up = false then 0 else if (i : Int) = top.at_ then 2 else if 0 ≤ top.at_ ∧ h.ok = true ∧ cmpV { h.vec with at_ := 0 } (mineOf own top i) < 0 then 3 else 1

def roleAt (own : Pr) (top : Vc) (hs : List Hd) (j : Nat) : Int := match hs[j]? with | some h => roleOf own top j h | none => 0
def hcells (hs : List Hd) : List Value := hs.flatMap Hd.cells

theorem Blk.vec {w : World} {g : Nat} {t : TypeId} {v : Vc} (h : Blk w g t #[.int .i64 v.root.one, .int .i64 v.root.cls, .int .i64 v.root.two, .int .i64 v.root.id, .int .i64 v.steps, .int .i64 v.src, .int .i64 v.port, .int .i64 v.at_]) : w.cell? ⟨g, 0, none⟩ = some (.int .i64 v.root.one) ∧ w.cell? ⟨g, 1, none⟩ = some (.int .i64 v.root.cls) ∧ w.cell? ⟨g, 2, none⟩ = some (.int .i64 v.root.two) ∧
    w.cell? ⟨g, 3, none⟩ = some (.int .i64 v.root.id) ∧ w.cell? ⟨g, 4, none⟩ = some (.int .i64 v.steps) ∧ w.cell? ⟨g, 5, none⟩ = some (.int .i64 v.src) ∧ w.cell? ⟨g, 6, none⟩ = some (.int .i64 v.port) ∧ w.cell? ⟨g, 7, none⟩ = some (.int .i64 v.at_) :=
  ⟨h.cell 0, h.cell 1, h.cell 2, h.cell 3, h.cell 4, h.cell 5, h.cell 6, h.cell 7⟩
theorem Blk.pri {w : World} {g : Nat} {t : TypeId} {v : Pr} (h : Blk w g t #[.int .i64 v.one, .int .i64 v.cls, .int .i64 v.two, .int .i64 v.id]) : w.cell? ⟨g, 0, none⟩ = some (.int .i64 v.one) ∧ w.cell? ⟨g, 1, none⟩ = some (.int .i64 v.cls) ∧ w.cell? ⟨g, 2, none⟩ = some (.int .i64 v.two) ∧ w.cell? ⟨g, 3, none⟩ = some (.int .i64 v.id) :=
  ⟨h.cell 0, h.cell 1, h.cell 2, h.cell 3⟩

theorem styI : SliceTy Try.prog 32 3 1 8 := sliceTy_mk (z := .int .i64 0) Try.underlying32 (by kernel_rfl) rfl

theorem mk_ints (n : Nat) (hn : n ≤ 1000) (W : World) : (Instr.makeSlice 32 (.int .i64 (n : Int)) (.int .i64 (n : Int))).run Try.prog W = .ok (.slice (some ⟨W.heap.size, 0, none⟩) n n) (W.alloc (.cells (rowF n fun _ => .int .i64 0) 3)) :=
  make_row (bytes := 8) Try.underlying32 (by kernel_rfl) rfl (by omega) (by omega) W

def ChooseRet (own : Pr) (hs : List Hd) (n : Nat) (w : World) (e : Ending) (w' : World) : Prop :=
  ∃ v, e = .returned (.tuple #[(topOf own hs).val, v]) ∧ w'.ownsRow w.heap.size 3 1 v n ((List.range n).map fun j => .int .i64 (roleAt own (topOf own hs) hs j)) ∧ Below w.heap.size w w'

set_option maxRecDepth 100000 in
set_option maxHeartbeats 8000000 in
theorem choose_any (own : Pr) (A : Option Addr) (n c : Nat) (hs_ : List Hd) (w : World) (hr : Reads w w.heap.size 10 A n (hcells hs_)) (hl : hs_.length = n) (hn : n ≤ 1000) :
    Calls Try.prog 19 #[own.val, .slice A n c] w (ChooseRet own hs_ n w) := by
  have hr0 := hr
  unfold Pr.val Pr.cells iz
  go_enter Try.func19, Try.ntmps19
  go_wp2_with fail
  go_loopw [21] (fun i wr => ∃ (k : Nat) (top : Vc), k ≤ n ∧ i = .int .i64 k ∧ Hid (topOf own hs_ = topFrom (ownVec own) top k (hs_.drop k)) ∧ Blk wr w.heap.size 23 #[.int .i64 own.one, .int .i64 own.cls, .int .i64 own.two, .int .i64 own.id] ∧ Blk wr (w.heap.size + 1) 31 #[.int .i64 0, .int .i64 0, .int .i64 0, .int .i64 0, .int .i64 0, .int .i64 0, .int .i64 0, .int .i64 0] ∧ Blk wr (w.heap.size + 1 + 1) 31 #[.int .i64 top.root.one, .int .i64 top.root.cls, .int .i64 top.root.two, .int .i64 top.root.id, .int .i64 top.steps, .int .i64 top.src, .int .i64 top.port, .int .i64 top.at_] ∧ w.heap.size + 1 + 1 < wr.heap.size ∧ Below w.heap.size w wr) (fun i _ => n - (intOf i).toNat)
  case atStart =>
    exact ⟨0, ownVec own, Nat.zero_le _, rfl, rfl, ((Blk.new w _ _).alloc _).alloc _, (Blk.at_new _ _ _ (by simp)).alloc _, Blk.at_new _ _ _ (by simp), by simp, (((Below.refl _ _).alloc (Nat.le_refl _) _).alloc (by simp) _).alloc (by simp; omega) _⟩
  case round =>
    obtain ⟨k, top, hk, rfl, hs, hbo, hb4, hb6, hsz, hb⟩ := hrel
    have hbs := hb.size
    by_cases hlt : k < n
    · obtain ⟨v, hv⟩ := getElem?_some_of_lt hl hlt
      have HS := Lib.hid (hs.out.trans (by rw [drop_get hv]; rfl : _ = topFrom (ownVec own) (topStep (ownVec own) top k v) (k + 1) (hs_.drop (k + 1))))
      obtain ⟨ad, rfl, hblk, hc0, hcj⟩ := (hr.below hb).elem Hd.len hv hlt
      have hblk' : (ad.add (k * 10)).block < wr.heap.size := by omega
      have hs0 : w.heap.size < wr.heap.size := by omega
      have hs1 : w.heap.size + 1 < wr.heap.size := by omega
      obtain ⟨o0, o1, o2, o3⟩ := hbo.pri
      obtain ⟨t0, t1, t2, t3, t4, t5, t6, t7⟩ := hb6.vec
      have p0 := hc0 _ rfl
      have p1 := hcj 1 _ (by omega) rfl
      have p2 := hcj 2 _ (by omega) rfl
      have p3 := hcj 3 _ (by omega) rfl
      have p4 := hcj 4 _ (by omega) rfl
      have p5 := hcj 5 _ (by omega) rfl
      have p6 := hcj 6 _ (by omega) rfl
      have p7 := hcj 7 _ (by omega) rfl
      have p8 := hcj 8 _ (by omega) rfl
      have p9 := hcj 9 _ (by omega) rfl
      clear hc0 hcj hs hv
      unfold iz at *
      have hP := fun W => cmpP_any v.vec.root own W
      have hV := fun W => cmpV_any { v.vec with at_ := (k : Int) } top W
      unfold Vc.val Vc.cells at hV
      unfold Pr.val at hP
      unfold Pr.cells iz at hP hV
      simp only [List.cons_append, List.nil_append] at hV
      have HC := Lib.hid (And.intro hP hV)
      clear hP hV
      by_cases hu : v.up = true
      · by_cases ho : v.ok = true
        · rw [hu] at p0
          rw [ho] at p1
          go_wp2_with fail
          refine (HC.out.1 _).mono ?_
          rintro e w1 ⟨rfl, hb1⟩
          have D0 : Blk w1 w.heap.size _ _ := ((hbo.alloc _).alloc _).below hb1 (by simp; omega)
          have D4 : Blk w1 (w.heap.size + 1) _ _ := ((hb4.alloc _).alloc _).below hb1 (by simp; omega)
          have D6 : Blk w1 (w.heap.size + 1 + 1) _ _ := ((hb6.alloc _).alloc _).below hb1 (by simp; omega)
          have Dv : Blk w1 (wr.heap.size + 1) 31 #[.int .i64 ({ v.vec with at_ := (k : Int) } : Vc).root.one, .int .i64 ({ v.vec with at_ := (k : Int) } : Vc).root.cls, .int .i64 ({ v.vec with at_ := (k : Int) } : Vc).root.two, .int .i64 ({ v.vec with at_ := (k : Int) } : Vc).root.id, .int .i64 ({ v.vec with at_ := (k : Int) } : Vc).steps, .int .i64 ({ v.vec with at_ := (k : Int) } : Vc).src, .int .i64 ({ v.vec with at_ := (k : Int) } : Vc).port, .int .i64 ({ v.vec with at_ := (k : Int) } : Vc).at_] := (Blk.at_new _ _ _ (by simp)).below hb1 (by simp)
          have hz1 := hb1.size
          simp only [World.size_alloc] at hz1
          have hW1 : Below w.heap.size w w1 := ((hb.alloc hbs _).alloc (by simp; omega) _).trans (hb1.mono (by simp; omega))
          obtain ⟨s0, s1, s2, s3, s4, s5, s6, s7⟩ := D6.vec
          obtain ⟨q0, q1, q2, q3, q4, q5, q6, q7⟩ := Dv.vec
          have fz := D6.frozen
          clear hb1
          by_cases h1 : cmpP v.vec.root own < 0
          · by_cases h2 : top.at_ < 0
            · have e1 : topStep (ownVec own) top k v = { v.vec with at_ := (k : Int) } := if_pos ⟨hu, ho, h1, .inl h2⟩
              have HS2 := Lib.hid (HS.out.trans (by rw [e1]))
              clear e1 HS
              go_wp2_with fail
              go_roundw
              case rel =>
                have hzz : w.heap.size + 1 + 1 < w1.heap.size := by omega
                exact ⟨k + 1, { v.vec with at_ := (k : Int) }, by omega, by go_num, HS2.out, stores_far (by omega) [.int .i64 ({ v.vec with at_ := (k : Int) } : Vc).root.one, .int .i64 ({ v.vec with at_ := (k : Int) } : Vc).root.cls, .int .i64 ({ v.vec with at_ := (k : Int) } : Vc).root.two, .int .i64 ({ v.vec with at_ := (k : Int) } : Vc).root.id, .int .i64 ({ v.vec with at_ := (k : Int) } : Vc).steps, .int .i64 ({ v.vec with at_ := (k : Int) } : Vc).src, .int .i64 ({ v.vec with at_ := (k : Int) } : Vc).port, .int .i64 ({ v.vec with at_ := (k : Int) } : Vc).at_] 0 D0, stores_far (by omega) [.int .i64 ({ v.vec with at_ := (k : Int) } : Vc).root.one, .int .i64 ({ v.vec with at_ := (k : Int) } : Vc).root.cls, .int .i64 ({ v.vec with at_ := (k : Int) } : Vc).root.two, .int .i64 ({ v.vec with at_ := (k : Int) } : Vc).root.id, .int .i64 ({ v.vec with at_ := (k : Int) } : Vc).steps, .int .i64 ({ v.vec with at_ := (k : Int) } : Vc).src, .int .i64 ({ v.vec with at_ := (k : Int) } : Vc).port, .int .i64 ({ v.vec with at_ := (k : Int) } : Vc).at_] 0 D4, stores_all D6 [.int .i64 ({ v.vec with at_ := (k : Int) } : Vc).root.one, .int .i64 ({ v.vec with at_ := (k : Int) } : Vc).root.cls, .int .i64 ({ v.vec with at_ := (k : Int) } : Vc).root.two, .int .i64 ({ v.vec with at_ := (k : Int) } : Vc).root.id, .int .i64 ({ v.vec with at_ := (k : Int) } : Vc).steps, .int .i64 ({ v.vec with at_ := (k : Int) } : Vc).src, .int .i64 ({ v.vec with at_ := (k : Int) } : Vc).port, .int .i64 ({ v.vec with at_ := (k : Int) } : Vc).at_] rfl, Nat.lt_of_lt_of_eq hzz (stores_size [.int .i64 ({ v.vec with at_ := (k : Int) } : Vc).root.one, .int .i64 ({ v.vec with at_ := (k : Int) } : Vc).root.cls, .int .i64 ({ v.vec with at_ := (k : Int) } : Vc).root.two, .int .i64 ({ v.vec with at_ := (k : Int) } : Vc).root.id, .int .i64 ({ v.vec with at_ := (k : Int) } : Vc).steps, .int .i64 ({ v.vec with at_ := (k : Int) } : Vc).src, .int .i64 ({ v.vec with at_ := (k : Int) } : Vc).port, .int .i64 ({ v.vec with at_ := (k : Int) } : Vc).at_] 0 w1).symm, stores_below (by omega) [.int .i64 ({ v.vec with at_ := (k : Int) } : Vc).root.one, .int .i64 ({ v.vec with at_ := (k : Int) } : Vc).root.cls, .int .i64 ({ v.vec with at_ := (k : Int) } : Vc).root.two, .int .i64 ({ v.vec with at_ := (k : Int) } : Vc).root.id, .int .i64 ({ v.vec with at_ := (k : Int) } : Vc).steps, .int .i64 ({ v.vec with at_ := (k : Int) } : Vc).src, .int .i64 ({ v.vec with at_ := (k : Int) } : Vc).port, .int .i64 ({ v.vec with at_ := (k : Int) } : Vc).at_] 0 hW1⟩
              case measure => simp [intOf]; omega
            · have d2 : decide (top.at_ < 0) = false := by simpa using h2
              go_wp2_with fail
              refine (HC.out.2 _).mono ?_
              rintro e w2 ⟨rfl, hb2⟩
              have hz2 := hb2.size
              have E0 := D0.below hb2 (by omega)
              have E4 := D4.below hb2 (by omega)
              have E6 := D6.below hb2 (by omega)
              have Ev := Dv.below hb2 (by omega)
              have hW2 : Below w.heap.size w w2 := hW1.trans (hb2.mono (by omega))
              clear hb2 s0 s1 s2 s3 s4 s5 s6 s7 q0 q1 q2 q3 q4 q5 q6 q7 fz
              obtain ⟨s0, s1, s2, s3, s4, s5, s6, s7⟩ := E6.vec
              obtain ⟨q0, q1, q2, q3, q4, q5, q6, q7⟩ := Blk.vec (v := { v.vec with at_ := (k : Int) }) Ev
              have fz := E6.frozen
              by_cases h3 : cmpV { v.vec with at_ := (k : Int) } top < 0
              · have e1 : topStep (ownVec own) top k v = { v.vec with at_ := (k : Int) } := if_pos ⟨hu, ho, h1, .inr h3⟩
                have HS2 := Lib.hid (HS.out.trans (by rw [e1]))
                clear e1 HS
                go_wp2_with fail
                go_roundw
                case rel =>
                  have hzz : w.heap.size + 1 + 1 < w2.heap.size := by omega
                  exact ⟨k + 1, { v.vec with at_ := (k : Int) }, by omega, by go_num, HS2.out, stores_far (by omega) [.int .i64 ({ v.vec with at_ := (k : Int) } : Vc).root.one, .int .i64 ({ v.vec with at_ := (k : Int) } : Vc).root.cls, .int .i64 ({ v.vec with at_ := (k : Int) } : Vc).root.two, .int .i64 ({ v.vec with at_ := (k : Int) } : Vc).root.id, .int .i64 ({ v.vec with at_ := (k : Int) } : Vc).steps, .int .i64 ({ v.vec with at_ := (k : Int) } : Vc).src, .int .i64 ({ v.vec with at_ := (k : Int) } : Vc).port, .int .i64 ({ v.vec with at_ := (k : Int) } : Vc).at_] 0 E0, stores_far (by omega) [.int .i64 ({ v.vec with at_ := (k : Int) } : Vc).root.one, .int .i64 ({ v.vec with at_ := (k : Int) } : Vc).root.cls, .int .i64 ({ v.vec with at_ := (k : Int) } : Vc).root.two, .int .i64 ({ v.vec with at_ := (k : Int) } : Vc).root.id, .int .i64 ({ v.vec with at_ := (k : Int) } : Vc).steps, .int .i64 ({ v.vec with at_ := (k : Int) } : Vc).src, .int .i64 ({ v.vec with at_ := (k : Int) } : Vc).port, .int .i64 ({ v.vec with at_ := (k : Int) } : Vc).at_] 0 E4, stores_all E6 [.int .i64 ({ v.vec with at_ := (k : Int) } : Vc).root.one, .int .i64 ({ v.vec with at_ := (k : Int) } : Vc).root.cls, .int .i64 ({ v.vec with at_ := (k : Int) } : Vc).root.two, .int .i64 ({ v.vec with at_ := (k : Int) } : Vc).root.id, .int .i64 ({ v.vec with at_ := (k : Int) } : Vc).steps, .int .i64 ({ v.vec with at_ := (k : Int) } : Vc).src, .int .i64 ({ v.vec with at_ := (k : Int) } : Vc).port, .int .i64 ({ v.vec with at_ := (k : Int) } : Vc).at_] rfl, Nat.lt_of_lt_of_eq hzz (stores_size [.int .i64 ({ v.vec with at_ := (k : Int) } : Vc).root.one, .int .i64 ({ v.vec with at_ := (k : Int) } : Vc).root.cls, .int .i64 ({ v.vec with at_ := (k : Int) } : Vc).root.two, .int .i64 ({ v.vec with at_ := (k : Int) } : Vc).root.id, .int .i64 ({ v.vec with at_ := (k : Int) } : Vc).steps, .int .i64 ({ v.vec with at_ := (k : Int) } : Vc).src, .int .i64 ({ v.vec with at_ := (k : Int) } : Vc).port, .int .i64 ({ v.vec with at_ := (k : Int) } : Vc).at_] 0 w2).symm, stores_below (by omega) [.int .i64 ({ v.vec with at_ := (k : Int) } : Vc).root.one, .int .i64 ({ v.vec with at_ := (k : Int) } : Vc).root.cls, .int .i64 ({ v.vec with at_ := (k : Int) } : Vc).root.two, .int .i64 ({ v.vec with at_ := (k : Int) } : Vc).root.id, .int .i64 ({ v.vec with at_ := (k : Int) } : Vc).steps, .int .i64 ({ v.vec with at_ := (k : Int) } : Vc).src, .int .i64 ({ v.vec with at_ := (k : Int) } : Vc).port, .int .i64 ({ v.vec with at_ := (k : Int) } : Vc).at_] 0 hW2⟩
                case measure => simp [intOf]; omega
              · have e1 : topStep (ownVec own) top k v = top := if_neg (fun h => h.2.2.2.elim (fun h => by omega) h3)
                have HS2 := Lib.hid (HS.out.trans (by rw [e1]))
                have d3 : decide (cmpV { v.vec with at_ := (k : Int) } top < 0) = false := by simpa using h3
                clear e1 HS h3
                go_wp2_with fail
                go_roundw
                case rel => exact ⟨k + 1, top, by omega, by go_num, HS2.out, E0, E4, E6, by omega, hW2⟩
                case measure => simp [intOf]; omega
          · have d1 : decide (cmpP v.vec.root own < 0) = false := by simpa using h1
            have e1 : topStep (ownVec own) top k v = top := if_neg (fun h => h1 h.2.2.1)
            have HS2 := Lib.hid (HS.out.trans (by rw [e1]))
            clear e1 HS h1
            go_wp2_with fail
            go_roundw
            case rel => exact ⟨k + 1, top, by omega, by go_num, HS2.out, D0, D4, D6, by omega, hW1⟩
            case measure => simp [intOf]; omega
        · have ho' : v.ok = false := by simpa using ho
          rw [hu] at p0
          rw [ho'] at p1
          have e1 : topStep (ownVec own) top k v = top := if_neg (fun h => ho h.2.1)
          have HS2 := Lib.hid (HS.out.trans (by rw [e1]))
          clear e1 HS ho
          go_wp2_with fail
          go_roundw
          case rel => exact ⟨k + 1, top, by omega, by go_num, HS2.out, (hbo.alloc _).alloc _, (hb4.alloc _).alloc _, (hb6.alloc _).alloc _, by simp; omega, (hb.alloc hbs _).alloc (by simp; omega) _⟩
          case measure => simp [intOf]; omega
      · have hu' : v.up = false := by simpa using hu
        rw [hu'] at p0
        have e1 : topStep (ownVec own) top k v = top := if_neg (fun h => hu h.1)
        have HS2 := Lib.hid (HS.out.trans (by rw [e1]))
        clear e1 HS hu
        go_wp2_with fail
        go_roundw
        case rel => exact ⟨k + 1, top, by omega, by go_num, HS2.out, (hbo.alloc _).alloc _, (hb4.alloc _).alloc _, (hb6.alloc _).alloc _, by simp; omega, (hb.alloc hbs _).alloc (by simp; omega) _⟩
        case measure => simp [intOf]; omega
    · obtain rfl : n = k := by omega
      have htop := hs.out
      rw [List.drop_eq_nil_of_le (by omega)] at htop
      have htop' : topOf own hs_ = top := htop
      have HT := Lib.hid htop'
      clear hs htop htop' hlt hr
      have hmk := fun W => mk_ints n hn W
      go_wp2_with fail
      obtain ⟨wo, rfl⟩ : ∃ wo : World, wo = wr := ⟨_, rfl⟩
      have g0 := hbo.alloc (.cells (rowF n fun _ => .int .i64 0) 3)
      have g4 := hb4.alloc (.cells (rowF n fun _ => .int .i64 0) 3)
      have g6 := hb6.alloc (.cells (rowF n fun _ => .int .i64 0) 3)
      have g7 := Blk.new wo 3 (rowF n fun _ => .int .i64 0)
      have gb := hb.alloc hbs (.cells (rowF n fun _ => .int .i64 0) 3)
      clear hbo hb4 hb6 hb
      have hsg := hsz
      clear hsz hmk
      go_loopw [61] (fun i wr2 => ∃ (k : Nat), k ≤ n ∧ i = .int .i64 k ∧ Blk wr2 w.heap.size 23 #[.int .i64 own.one, .int .i64 own.cls, .int .i64 own.two, .int .i64 own.id] ∧ Blk wr2 (w.heap.size + 1) 31 #[.int .i64 0, .int .i64 0, .int .i64 0, .int .i64 0, .int .i64 0, .int .i64 0, .int .i64 0, .int .i64 0] ∧ Blk wr2 (w.heap.size + 1 + 1) 31 #[.int .i64 top.root.one, .int .i64 top.root.cls, .int .i64 top.root.two, .int .i64 top.root.id, .int .i64 top.steps, .int .i64 top.src, .int .i64 top.port, .int .i64 top.at_] ∧ Blk wr2 wo.heap.size 3 (rowF n fun j => .int .i64 (if j < k then roleAt own top hs_ j else 0)) ∧ wo.heap.size < wr2.heap.size ∧ Below w.heap.size w wr2) (fun i _ => n - (intOf i).toNat)
      case atStart => exact ⟨0, Nat.zero_le _, rfl, g0, g4, g6, g7, by simp, gb⟩
      case round =>
        clear g0 g4 g6 g7 gb
        obtain ⟨k, hk, rfl, hbo, hb4, hb6, hb7, hsz, hb⟩ := hrel
        have hbs2 := hb.size
        by_cases hlt : k < n
        · obtain ⟨v, hv⟩ := getElem?_some_of_lt hl hlt
          have hra : roleAt own top hs_ k = roleOf own top k v := by simp [roleAt, hv]
          have HR := Lib.hid hra
          clear hra
          obtain ⟨ad, rfl, hblk, hc0, hcj⟩ := (hr0.below hb).elem Hd.len hv hlt
          have hblk' : (ad.add (k * 10)).block < wr.heap.size := by omega
          have hs0 : w.heap.size < wr.heap.size := by omega
          have hs1 : w.heap.size + 1 < wr.heap.size := by omega
          have hs2 : w.heap.size + 1 + 1 < wr.heap.size := by omega
          obtain ⟨o0, o1, o2, o3⟩ := hbo.pri
          obtain ⟨t0, t1, t2, t3, t4, t5, t6, t7⟩ := hb6.vec
          have p0 := hc0 _ rfl
          have p1 := hcj 1 _ (by omega) rfl
          have p2 := hcj 2 _ (by omega) rfl
          have p3 := hcj 3 _ (by omega) rfl
          have p4 := hcj 4 _ (by omega) rfl
          have p5 := hcj 5 _ (by omega) rfl
          have p6 := hcj 6 _ (by omega) rfl
          have p7 := hcj 7 _ (by omega) rfl
          have p8 := hcj 8 _ (by omega) rfl
          have p9 := hcj 9 _ (by omega) rfl
          have fz := hb7.frozen
          have hz1 : wo.heap.size < wr.heap.size + 1 := by omega
          have hz2 : wo.heap.size < wr.heap.size + 1 + 1 := by omega
          have hz3 : wo.heap.size < wr.heap.size + 1 + 1 + 1 := by omega
          have y0 : wr.cell? ⟨wo.heap.size, k, none⟩ = some (.int .i64 0) := by rw [hb7.cell, rowF_get hlt]; simp
          clear hc0 hcj hv
          unfold iz at *
          have nu : ∀ {b : Bool}, b = true → ¬ b = false := fun h => by rw [h]; simp
          by_cases h2 : top.at_ < 0
          · by_cases hu : v.up = true
            · have c1 : ((k : Int) == top.at_) = false := by simp; omega
              have c2 : ¬ (k : Int) = top.at_ := by omega
              have c3 : decide (0 ≤ top.at_) = false := by simp; omega
              have HN := Lib.hid c2
              clear c2
              rw [hu] at p0
              go_wp2_with fail
              go_roundw
              case rel => exact ⟨k + 1, by omega, by go_num, (((hbo.far (by simp; omega) _).alloc _).alloc _).alloc _, (((hb4.far (by simp; omega) _).alloc _).alloc _).alloc _, (((hb6.far (by simp; omega) _).alloc _).alloc _).alloc _, (((row_step hb7 (HR.out.trans (by rw [roleOf, if_neg (nu hu), if_neg HN.out, if_neg (fun h => by omega)]))).alloc _).alloc _).alloc _, by simp [World.setCell]; omega, (((hb.setCell (p := ⟨wo.heap.size, k, none⟩) hbs _).alloc (by simp [World.setCell]; omega) _).alloc (by simp [World.setCell]; omega) _).alloc (by simp [World.setCell]; omega) _⟩
              case measure => simp [intOf]; omega
            · have hu' : v.up = false := by simpa using hu
              rw [hu'] at p0
              go_wp2_with fail
              go_roundw
              case rel => exact ⟨k + 1, by omega, by go_num, ((hbo.alloc _).alloc _).alloc _, ((hb4.alloc _).alloc _).alloc _, ((hb6.alloc _).alloc _).alloc _, (((row_skip hb7 (HR.out.trans (by rw [roleOf, if_pos hu']))).alloc _).alloc _).alloc _, by simp; omega, ((hb.alloc hbs2 _).alloc (by simp; omega) _).alloc (by simp; omega) _⟩
              case measure => simp [intOf]; omega
          · have h2' : 0 ≤ top.at_ := by omega
            have d2 : decide (top.at_ < 0) = false := by simpa using h2
            by_cases hu : v.up = true
            · rw [hu] at p0
              by_cases hi : (k : Int) = top.at_
              · have c1 : ((k : Int) == top.at_) = true := by simp [hi]
                have HN := Lib.hid hi
                clear hi
                go_wp2_with fail
                go_roundw
                case rel => exact ⟨k + 1, by omega, by go_num, (((hbo.far (by simp; omega) _).alloc _).alloc _).alloc _, (((hb4.far (by simp; omega) _).alloc _).alloc _).alloc _, (((hb6.far (by simp; omega) _).alloc _).alloc _).alloc _, (((row_step hb7 (HR.out.trans (by rw [roleOf, if_neg (nu hu), if_pos HN.out]))).alloc _).alloc _).alloc _, by simp [World.setCell]; omega, (((hb.setCell (p := ⟨wo.heap.size, k, none⟩) hbs _).alloc (by simp [World.setCell]; omega) _).alloc (by simp [World.setCell]; omega) _).alloc (by simp [World.setCell]; omega) _⟩
                case measure => simp [intOf]; omega
              · have c1 : ((k : Int) == top.at_) = false := by simp; omega
                by_cases ho : v.ok = true
                · rw [ho] at p1
                  have hV := fun W => cmpV_any { v.vec with at_ := 0 } (mineOf own top k) W
                  generalize hx : cmpV { v.vec with at_ := 0 } (mineOf own top k) = x at hV
                  have HX := Lib.hid hx
                  clear hx
                  unfold Vc.val Vc.cells mineOf at hV
                  unfold Pr.cells iz at hV
                  simp only [List.cons_append, List.nil_append, if_neg h2] at hV
                  have HC := Lib.hid hV
                  have HN := Lib.hid hi
                  clear hV hi
                  go_wp2_with fail
                  refine (HC.out _).mono ?_
                  rintro e w2 ⟨rfl, hb2⟩
                  have E0 : Blk w2 w.heap.size _ _ := (((hbo.alloc _).alloc _).alloc _).below hb2 (by simp; omega)
                  have E4 : Blk w2 (w.heap.size + 1) _ _ := (((hb4.alloc _).alloc _).alloc _).below hb2 (by simp; omega)
                  have E6 : Blk w2 (w.heap.size + 1 + 1) _ _ := (((hb6.alloc _).alloc _).alloc _).below hb2 (by simp; omega)
                  have E7 : Blk w2 wo.heap.size _ _ := (((hb7.alloc _).alloc _).alloc _).below hb2 (by simp; omega)
                  have hW2 : Below w.heap.size w w2 := (((hb.alloc hbs2 _).alloc (by simp; omega) _).alloc (by simp; omega) _).trans (hb2.mono (by simp; omega))
                  have hz2 := hb2.size
                  simp only [World.size_alloc] at hz2
                  have fz2 := E7.frozen
                  have y2 : w2.cell? ⟨wo.heap.size, k, none⟩ = some (.int .i64 0) := by rw [E7.cell, rowF_get hlt]; simp
                  clear hb2
                  by_cases h3 : x < 0
                  · go_wp2_with fail
                    go_roundw
                    case rel => exact ⟨k + 1, by omega, by go_num, E0.far (by simp; omega) _, E4.far (by simp; omega) _, E6.far (by simp; omega) _, row_step E7 (HR.out.trans (by rw [roleOf, if_neg (nu hu), if_neg HN.out, if_pos ⟨h2', ho, by rw [HX.out]; exact h3⟩])), by simp [World.setCell]; omega, hW2.setCell (p := ⟨wo.heap.size, k, none⟩) hbs _⟩
                    case measure => simp [intOf]; omega
                  · have d3 : decide (x < 0) = false := by simpa using h3
                    go_wp2_with fail
                    go_roundw
                    case rel => exact ⟨k + 1, by omega, by go_num, E0.far (by simp; omega) _, E4.far (by simp; omega) _, E6.far (by simp; omega) _, row_step E7 (HR.out.trans (by rw [roleOf, if_neg (nu hu), if_neg HN.out, if_neg (fun h => by have h4 := h.2.2; rw [HX.out] at h4; omega)])), by simp [World.setCell]; omega, hW2.setCell (p := ⟨wo.heap.size, k, none⟩) hbs _⟩
                    case measure => simp [intOf]; omega
                · have ho' : v.ok = false := by simpa using ho
                  rw [ho'] at p1
                  have HN := Lib.hid hi
                  clear hi
                  go_wp2_with fail
                  go_roundw
                  case rel => exact ⟨k + 1, by omega, by go_num, (((hbo.far (by simp; omega) _).alloc _).alloc _).alloc _, (((hb4.far (by simp; omega) _).alloc _).alloc _).alloc _, (((hb6.far (by simp; omega) _).alloc _).alloc _).alloc _, (((row_step hb7 (HR.out.trans (by rw [roleOf, if_neg (nu hu), if_neg HN.out, if_neg (fun h => ho h.2.1)]))).alloc _).alloc _).alloc _, by simp [World.setCell]; omega, (((hb.setCell (p := ⟨wo.heap.size, k, none⟩) hbs _).alloc (by simp [World.setCell]; omega) _).alloc (by simp [World.setCell]; omega) _).alloc (by simp [World.setCell]; omega) _⟩
                  case measure => simp [intOf]; omega
            · have hu' : v.up = false := by simpa using hu
              rw [hu'] at p0
              go_wp2_with fail
              go_roundw
              case rel => exact ⟨k + 1, by omega, by go_num, ((hbo.alloc _).alloc _).alloc _, ((hb4.alloc _).alloc _).alloc _, ((hb6.alloc _).alloc _).alloc _, (((row_skip hb7 (HR.out.trans (by rw [roleOf, if_pos hu']))).alloc _).alloc _).alloc _, by simp; omega, ((hb.alloc hbs2 _).alloc (by simp; omega) _).alloc (by simp; omega) _⟩
              case measure => simp [intOf]; omega
        · obtain rfl : n = k := by omega
          obtain ⟨t0, t1, t2, t3, t4, t5, t6, t7⟩ := hb6.vec
          have z0 := hb4.cell 0
          have z1 := hb4.cell 1
          have z2 := hb4.cell 2
          have z3 := hb4.cell 3
          have z4 := hb4.cell 4
          have z5 := hb4.cell 5
          have z6 := hb4.cell 6
          have z7 := hb4.cell 7
          have fz := hb4.frozen
          simp at z0 z1 z2 z3 z4 z5 z6 z7
          go_wp2_with fail
          have hrow : Blk wr wo.heap.size 3 (rowF n fun j => .int .i64 (roleAt own top hs_ j)) := by
            have h := hb7
            rw [rowF_congr (g := fun j => .int .i64 (roleAt own top hs_ j)) (fun j hj => by rw [if_pos hj])] at h
            exact h
          obtain ⟨c0, c1, c2, c3, c4, c5, c6, c7⟩ := Blk.vec (v := top) (stores_all hb4 [.int .i64 top.root.one, .int .i64 top.root.cls, .int .i64 top.root.two, .int .i64 top.root.id, .int .i64 top.steps, .int .i64 top.src, .int .i64 top.port, .int .i64 top.at_] rfl)
          simp only [stores, Nat.zero_add, Nat.reduceAdd] at c0 c1 c2 c3 c4 c5 c6 c7
          refine bodyPost_ret (v := .tuple #[top.val, .slice (some ⟨wo.heap.size, 0, none⟩) n n]) (by simp [results, Try.results19, go_sem, Vc.val, Vc.cells, Pr.cells, iz, c0, c1, c2, c3, c4, c5, c6, c7]) rfl ?_
          unfold ChooseRet
          rw [HT.out]
          exact ⟨_, rfl, stores_own (by simp [Value.ownBlock]; omega) [.int .i64 top.root.one, .int .i64 top.root.cls, .int .i64 top.root.two, .int .i64 top.root.id, .int .i64 top.steps, .int .i64 top.src, .int .i64 top.port, .int .i64 top.at_] 0 (own_of_blk hrow (by omega) (by simp [maxLen]; omega)), stores_below (by omega) [.int .i64 top.root.one, .int .i64 top.root.cls, .int .i64 top.root.two, .int .i64 top.root.id, .int .i64 top.steps, .int .i64 top.src, .int .i64 top.port, .int .i64 top.at_] 0 hb⟩
end Go.Proofs.Ytcdgofndfajekaa
