/-
  The reference's Choose: what it gives, as a plain function of numbers.
-/
import Derived.Test.YtcdgofndfajekaaBestChoose0
namespace Go.Proofs.Ytcdgofndfajekaa
open Go.RowKit
attribute [local go_sem ↓] Go.wp_at_zero Go.wp_at_succ

def refRole (own : Pr) (top : Vc) (i : Nat) (h : Hd) : Int :=
  if h.up = false then 0 else if 0 ≤ top.at_ then
    (if (i : Int) = top.at_ then 2 else if h.ok = true ∧ cmpV ⟨h.vec.root, wrap64 (h.vec.steps - 1), h.vec.src, h.vec.port, 0⟩ ⟨top.root, top.steps, own.id, i, 0⟩ < 0 ∧ -9223372036854775808 < h.vec.steps then 3 else 1) else 1
def refRoles (own : Pr) (top : Vc) : Nat → List Hd → List Int
  | _, [] => []
  | i, h :: hs => refRole own top i h :: refRoles own top (i + 1) hs
theorem refRoles_snoc (own : Pr) (top : Vc) : ∀ (hs : List Hd) (i : Nat) (h : Hd), refRoles own top i (hs ++ [h]) = refRoles own top i hs ++ [refRole own top (i + hs.length) h]
  | [], i, h => by simp [refRoles]
  | x :: hs, i, h => by
    rw [List.cons_append, refRoles, refRoles_snoc own top hs (i + 1) h, refRoles, List.cons_append, List.length_cons, Nat.add_assoc, Nat.add_comm 1]
theorem refRoles_length (own : Pr) (top : Vc) : ∀ (hs : List Hd) (i : Nat), (refRoles own top i hs).length = hs.length
  | [], _ => rfl
  | _ :: hs, i => by rw [refRoles, List.length_cons, refRoles_length own top hs (i + 1), List.length_cons]
theorem refRoles_get (own : Pr) (top : Vc) : ∀ (hs : List Hd) (i k : Nat) (h : Hd), hs[k]? = some h → (refRoles own top i hs)[k]? = some (refRole own top (i + k) h)
  | [], _, _, _, h => by simp at h
  | x :: hs, i, 0, h, hk => by simp at hk; subst hk; rfl
  | x :: hs, i, k + 1, h, hk => by
    have := refRoles_get own top hs (i + 1) k h (by simpa using hk)
    rw [refRoles, List.getElem?_cons_succ, this, Nat.add_assoc, Nat.add_comm 1]
def RefRet (own : Pr) (hs : List Hd) (n : Nat) (w : World) (e : Ending) (w' : World) : Prop :=
  ∃ v, e = .returned (.tuple #[(topOf own hs).val, v]) ∧ w'.ownsRow w.heap.size 3 1 v n ((refRoles own (topOf own hs) 0 hs).map fun x => .int .i64 x) ∧ Below w.heap.size w w'

set_option maxRecDepth 100000 in
set_option maxHeartbeats 8000000 in
theorem refChoose_any (ow : Vc) (A : Option Addr) (n c : Nat) (hs_ : List Hd) (w : World) (hr : Reads w w.heap.size 10 A n (hcells hs_)) (hl : hs_.length = n) (hn : n ≤ 1000) :
    Calls Try.prog 14 #[ow.val, .slice A n c] w (RefRet ow.root hs_ n w) := by
  have hr0 := hr
  unfold Vc.val Vc.cells Pr.cells iz
  simp only [List.cons_append, List.nil_append]
  go_enter Try.func14, Try.ntmps14
  go_wp2_with fail
  go_loopw [29] (fun i wr => ∃ (k : Nat) (top : Vc), k ≤ n ∧ i = .int .i64 k ∧ Hid (topOf ow.root hs_ = topFrom (ownVec ow.root) top k (hs_.drop k)) ∧ Blk wr w.heap.size 46 #[.int .i64 ow.root.one, .int .i64 ow.root.cls, .int .i64 ow.root.two, .int .i64 ow.root.id, .int .i64 ow.steps, .int .i64 ow.src, .int .i64 ow.port, .int .i64 ow.at_] ∧ Blk wr (w.heap.size + 1) 46 #[.int .i64 0, .int .i64 0, .int .i64 0, .int .i64 0, .int .i64 0, .int .i64 0, .int .i64 0, .int .i64 0] ∧ Blk wr (w.heap.size + 1 + 1) 46 #[.int .i64 top.root.one, .int .i64 top.root.cls, .int .i64 top.root.two, .int .i64 top.root.id, .int .i64 top.steps, .int .i64 top.src, .int .i64 top.port, .int .i64 top.at_] ∧ w.heap.size + 1 + 1 < wr.heap.size ∧ Below w.heap.size w wr) (fun i _ => n - (intOf i).toNat)
  case atStart =>
    exact ⟨0, ownVec ow.root, Nat.zero_le _, rfl, rfl, ((Blk.new w _ _).alloc _).alloc _, (Blk.at_new _ _ _ (by simp)).alloc _, Blk.at_new _ _ _ (by simp), by simp, (((Below.refl _ _).alloc (Nat.le_refl _) _).alloc (by simp) _).alloc (by simp; omega) _⟩
  case round =>
    obtain ⟨k, top, hk, rfl, hs, hbo, hb4, hb6, hsz, hb⟩ := hrel
    have hbs := hb.size
    by_cases hlt : k < n
    · obtain ⟨v, hv⟩ := getElem?_some_of_lt hl hlt
      have HS := Lib.hid (hs.out.trans (by rw [drop_get hv]; rfl : _ = topFrom (ownVec ow.root) (topStep (ownVec ow.root) top k v) (k + 1) (hs_.drop (k + 1))))
      obtain ⟨ad, rfl, hblk, hc0, hcj⟩ := ((hr.below hb)).elem Hd.len hv hlt
      have p0 := hc0 _ rfl
      have p1 := hcj 1 _ (by omega) rfl
      have p2 := hcj 2 _ (by omega) rfl
      have p3 := hcj 3 _ (by omega) rfl
      have p4 := hcj 4 _ (by omega) rfl
      have p5 := hcj 5 _ (by omega) rfl
      have p6 := hcj 6 _ (by omega) rfl
      have p7 := hcj 7 _ (by omega) rfl
      have p8 := hcj 8 _ (by omega) rfl
      have p9 := hcj 9 _ (by omega) rfl
      clear hc0 hcj
      unfold iz at *
      have hblk' : (ad.add (k * 10)).block < wr.heap.size := by omega
      have hs0 : w.heap.size < wr.heap.size := by omega
      have hs1 : w.heap.size + 1 < wr.heap.size := by omega
      obtain ⟨o0, o1, o2, o3, o4, o5, o6, o7⟩ := hbo.vec
      obtain ⟨t0, t1, t2, t3, t4, t5, t6, t7⟩ := hb6.vec
      clear hs hv
      have hP := fun W => rc4 { v.vec with at_ := (k : Int) } ow W
      have hV := fun W => rc8 { v.vec with at_ := (k : Int) } top W
      unfold Vc.cells Pr.cells iz at hP hV
      simp only [List.cons_append, List.nil_append] at hP hV
      have HC := Lib.hid (And.intro hP hV)
      clear hP hV
      by_cases hu : v.up = true
      · by_cases ho : v.ok = true
        · rw [hu] at p0
          rw [ho] at p1
          go_wp2_with fail
          refine (HC.out.1 _).mono ?_
          rintro e w1 ⟨rfl, hb1⟩
          have D0 : Blk w1 w.heap.size _ _ := ((hbo.alloc _).alloc _).below hb1 (by simp; omega)
          have D4 : Blk w1 (w.heap.size + 1) _ _ := ((hb4.alloc _).alloc _).below hb1 (by simp; omega)
          have D6 : Blk w1 (w.heap.size + 1 + 1) _ _ := ((hb6.alloc _).alloc _).below hb1 (by simp; omega)
          have Dv : Blk w1 (wr.heap.size + 1) 46 #[.int .i64 ({ v.vec with at_ := (k : Int) } : Vc).root.one, .int .i64 ({ v.vec with at_ := (k : Int) } : Vc).root.cls, .int .i64 ({ v.vec with at_ := (k : Int) } : Vc).root.two, .int .i64 ({ v.vec with at_ := (k : Int) } : Vc).root.id, .int .i64 ({ v.vec with at_ := (k : Int) } : Vc).steps, .int .i64 ({ v.vec with at_ := (k : Int) } : Vc).src, .int .i64 ({ v.vec with at_ := (k : Int) } : Vc).port, .int .i64 ({ v.vec with at_ := (k : Int) } : Vc).at_] := (Blk.at_new _ _ _ (by simp)).below hb1 (by simp)
          have hz1 := hb1.size
          simp only [World.size_alloc] at hz1
          have hW1 : Below w.heap.size w w1 := ((hb.alloc hbs _).alloc (by simp; omega) _).trans (hb1.mono (by simp; omega))
          obtain ⟨s0, s1, s2, s3, s4, s5, s6, s7⟩ := D6.vec
          obtain ⟨q0, q1, q2, q3, q4, q5, q6, q7⟩ := Blk.vec (v := { v.vec with at_ := (k : Int) }) Dv
          have fz := D6.frozen
          clear hb1
          by_cases h1 : cmpP v.vec.root ow.root < 0
          · have d1 : decide (0 ≤ cmpP v.vec.root ow.root) = false := by simp; omega
            by_cases h2 : top.at_ < 0
            · have e1 : topStep (ownVec ow.root) top k v = { v.vec with at_ := (k : Int) } := if_pos ⟨hu, ho, h1, .inl h2⟩
              have HS2 := Lib.hid (HS.out.trans (by rw [e1]))
              clear e1 HS
              go_wp2_with fail
              go_roundw
              case rel =>
                have hzz : w.heap.size + 1 + 1 < w1.heap.size := by omega
                exact ⟨k + 1, { v.vec with at_ := (k : Int) }, by omega, by go_num, HS2.out, stores_far (by omega) [.int .i64 ({ v.vec with at_ := (k : Int) } : Vc).root.one, .int .i64 ({ v.vec with at_ := (k : Int) } : Vc).root.cls, .int .i64 ({ v.vec with at_ := (k : Int) } : Vc).root.two, .int .i64 ({ v.vec with at_ := (k : Int) } : Vc).root.id, .int .i64 ({ v.vec with at_ := (k : Int) } : Vc).steps, .int .i64 ({ v.vec with at_ := (k : Int) } : Vc).src, .int .i64 ({ v.vec with at_ := (k : Int) } : Vc).port, .int .i64 ({ v.vec with at_ := (k : Int) } : Vc).at_] 0 D0, stores_far (by omega) [.int .i64 ({ v.vec with at_ := (k : Int) } : Vc).root.one, .int .i64 ({ v.vec with at_ := (k : Int) } : Vc).root.cls, .int .i64 ({ v.vec with at_ := (k : Int) } : Vc).root.two, .int .i64 ({ v.vec with at_ := (k : Int) } : Vc).root.id, .int .i64 ({ v.vec with at_ := (k : Int) } : Vc).steps, .int .i64 ({ v.vec with at_ := (k : Int) } : Vc).src, .int .i64 ({ v.vec with at_ := (k : Int) } : Vc).port, .int .i64 ({ v.vec with at_ := (k : Int) } : Vc).at_] 0 D4, stores_all D6 [.int .i64 ({ v.vec with at_ := (k : Int) } : Vc).root.one, .int .i64 ({ v.vec with at_ := (k : Int) } : Vc).root.cls, .int .i64 ({ v.vec with at_ := (k : Int) } : Vc).root.two, .int .i64 ({ v.vec with at_ := (k : Int) } : Vc).root.id, .int .i64 ({ v.vec with at_ := (k : Int) } : Vc).steps, .int .i64 ({ v.vec with at_ := (k : Int) } : Vc).src, .int .i64 ({ v.vec with at_ := (k : Int) } : Vc).port, .int .i64 ({ v.vec with at_ := (k : Int) } : Vc).at_] rfl, Nat.lt_of_lt_of_eq hzz (stores_size [.int .i64 ({ v.vec with at_ := (k : Int) } : Vc).root.one, .int .i64 ({ v.vec with at_ := (k : Int) } : Vc).root.cls, .int .i64 ({ v.vec with at_ := (k : Int) } : Vc).root.two, .int .i64 ({ v.vec with at_ := (k : Int) } : Vc).root.id, .int .i64 ({ v.vec with at_ := (k : Int) } : Vc).steps, .int .i64 ({ v.vec with at_ := (k : Int) } : Vc).src, .int .i64 ({ v.vec with at_ := (k : Int) } : Vc).port, .int .i64 ({ v.vec with at_ := (k : Int) } : Vc).at_] 0 w1).symm, stores_below (by omega) [.int .i64 ({ v.vec with at_ := (k : Int) } : Vc).root.one, .int .i64 ({ v.vec with at_ := (k : Int) } : Vc).root.cls, .int .i64 ({ v.vec with at_ := (k : Int) } : Vc).root.two, .int .i64 ({ v.vec with at_ := (k : Int) } : Vc).root.id, .int .i64 ({ v.vec with at_ := (k : Int) } : Vc).steps, .int .i64 ({ v.vec with at_ := (k : Int) } : Vc).src, .int .i64 ({ v.vec with at_ := (k : Int) } : Vc).port, .int .i64 ({ v.vec with at_ := (k : Int) } : Vc).at_] 0 hW1⟩
              case measure => simp [intOf]; omega
            · have d2 : decide (top.at_ < 0) = false := by simpa using h2
              go_wp2_with fail
              refine (HC.out.2 _).mono ?_
              rintro e w2 ⟨rfl, hb2⟩
              have hz2 := hb2.size
              have E0 := D0.below hb2 (by omega)
              have E4 := D4.below hb2 (by omega)
              have E6 := D6.below hb2 (by omega)
              have Ev := Dv.below hb2 (by omega)
              have hW2 : Below w.heap.size w w2 := hW1.trans (hb2.mono (by omega))
              clear hb2 s0 s1 s2 s3 s4 s5 s6 s7 q0 q1 q2 q3 q4 q5 q6 q7 fz
              obtain ⟨s0, s1, s2, s3, s4, s5, s6, s7⟩ := E6.vec
              obtain ⟨q0, q1, q2, q3, q4, q5, q6, q7⟩ := Blk.vec (v := { v.vec with at_ := (k : Int) }) Ev
              have fz := E6.frozen
              by_cases h3 : cmpV { v.vec with at_ := (k : Int) } top < 0
              · have e1 : topStep (ownVec ow.root) top k v = { v.vec with at_ := (k : Int) } := if_pos ⟨hu, ho, h1, .inr h3⟩
                have HS2 := Lib.hid (HS.out.trans (by rw [e1]))
                clear e1 HS
                go_wp2_with fail
                go_roundw
                case rel =>
                  have hzz : w.heap.size + 1 + 1 < w2.heap.size := by omega
                  exact ⟨k + 1, { v.vec with at_ := (k : Int) }, by omega, by go_num, HS2.out, stores_far (by omega) [.int .i64 ({ v.vec with at_ := (k : Int) } : Vc).root.one, .int .i64 ({ v.vec with at_ := (k : Int) } : Vc).root.cls, .int .i64 ({ v.vec with at_ := (k : Int) } : Vc).root.two, .int .i64 ({ v.vec with at_ := (k : Int) } : Vc).root.id, .int .i64 ({ v.vec with at_ := (k : Int) } : Vc).steps, .int .i64 ({ v.vec with at_ := (k : Int) } : Vc).src, .int .i64 ({ v.vec with at_ := (k : Int) } : Vc).port, .int .i64 ({ v.vec with at_ := (k : Int) } : Vc).at_] 0 E0, stores_far (by omega) [.int .i64 ({ v.vec with at_ := (k : Int) } : Vc).root.one, .int .i64 ({ v.vec with at_ := (k : Int) } : Vc).root.cls, .int .i64 ({ v.vec with at_ := (k : Int) } : Vc).root.two, .int .i64 ({ v.vec with at_ := (k : Int) } : Vc).root.id, .int .i64 ({ v.vec with at_ := (k : Int) } : Vc).steps, .int .i64 ({ v.vec with at_ := (k : Int) } : Vc).src, .int .i64 ({ v.vec with at_ := (k : Int) } : Vc).port, .int .i64 ({ v.vec with at_ := (k : Int) } : Vc).at_] 0 E4, stores_all E6 [.int .i64 ({ v.vec with at_ := (k : Int) } : Vc).root.one, .int .i64 ({ v.vec with at_ := (k : Int) } : Vc).root.cls, .int .i64 ({ v.vec with at_ := (k : Int) } : Vc).root.two, .int .i64 ({ v.vec with at_ := (k : Int) } : Vc).root.id, .int .i64 ({ v.vec with at_ := (k : Int) } : Vc).steps, .int .i64 ({ v.vec with at_ := (k : Int) } : Vc).src, .int .i64 ({ v.vec with at_ := (k : Int) } : Vc).port, .int .i64 ({ v.vec with at_ := (k : Int) } : Vc).at_] rfl, Nat.lt_of_lt_of_eq hzz (stores_size [.int .i64 ({ v.vec with at_ := (k : Int) } : Vc).root.one, .int .i64 ({ v.vec with at_ := (k : Int) } : Vc).root.cls, .int .i64 ({ v.vec with at_ := (k : Int) } : Vc).root.two, .int .i64 ({ v.vec with at_ := (k : Int) } : Vc).root.id, .int .i64 ({ v.vec with at_ := (k : Int) } : Vc).steps, .int .i64 ({ v.vec with at_ := (k : Int) } : Vc).src, .int .i64 ({ v.vec with at_ := (k : Int) } : Vc).port, .int .i64 ({ v.vec with at_ := (k : Int) } : Vc).at_] 0 w2).symm, stores_below (by omega) [.int .i64 ({ v.vec with at_ := (k : Int) } : Vc).root.one, .int .i64 ({ v.vec with at_ := (k : Int) } : Vc).root.cls, .int .i64 ({ v.vec with at_ := (k : Int) } : Vc).root.two, .int .i64 ({ v.vec with at_ := (k : Int) } : Vc).root.id, .int .i64 ({ v.vec with at_ := (k : Int) } : Vc).steps, .int .i64 ({ v.vec with at_ := (k : Int) } : Vc).src, .int .i64 ({ v.vec with at_ := (k : Int) } : Vc).port, .int .i64 ({ v.vec with at_ := (k : Int) } : Vc).at_] 0 hW2⟩
                case measure => simp [intOf]; omega
              · have e1 : topStep (ownVec ow.root) top k v = top := if_neg (fun h => h.2.2.2.elim (fun h => by omega) h3)
                have HS2 := Lib.hid (HS.out.trans (by rw [e1]))
                have d3 : decide (cmpV { v.vec with at_ := (k : Int) } top < 0) = false := by simpa using h3
                clear e1 HS h3
                go_wp2_with fail
                go_roundw
                case rel => exact ⟨k + 1, top, by omega, by go_num, HS2.out, E0, E4, E6, by omega, hW2⟩
                case measure => simp [intOf]; omega
          · have d1 : decide (0 ≤ cmpP v.vec.root ow.root) = true := by simp; omega
            have e1 : topStep (ownVec ow.root) top k v = top := if_neg (fun h => h1 h.2.2.1)
            have HS2 := Lib.hid (HS.out.trans (by rw [e1]))
            clear e1 HS h1
            go_wp2_with fail
            go_roundw
            case rel => exact ⟨k + 1, top, by omega, by go_num, HS2.out, D0, D4, D6, by omega, hW1⟩
            case measure => simp [intOf]; omega
        · have ho' : v.ok = false := by simpa using ho
          rw [hu] at p0
          rw [ho'] at p1
          have e1 : topStep (ownVec ow.root) top k v = top := if_neg (fun h => ho h.2.1)
          have HS2 := Lib.hid (HS.out.trans (by rw [e1]))
          clear e1 HS ho
          go_wp2_with fail
          go_roundw
          case rel => exact ⟨k + 1, top, by omega, by go_num, HS2.out, (hbo.alloc _).alloc _, (hb4.alloc _).alloc _, (hb6.alloc _).alloc _, by simp; omega, (hb.alloc hbs _).alloc (by simp; omega) _⟩
          case measure => simp [intOf]; omega
      · have hu' : v.up = false := by simpa using hu
        rw [hu'] at p0
        have e1 : topStep (ownVec ow.root) top k v = top := if_neg (fun h => hu h.1)
        have HS2 := Lib.hid (HS.out.trans (by rw [e1]))
        clear e1 HS hu
        go_wp2_with fail
        go_roundw
        case rel => exact ⟨k + 1, top, by omega, by go_num, HS2.out, (hbo.alloc _).alloc _, (hb4.alloc _).alloc _, (hb6.alloc _).alloc _, by simp; omega, (hb.alloc hbs _).alloc (by simp; omega) _⟩
        case measure => simp [intOf]; omega
    · obtain rfl : n = k := by omega
      have htop := hs.out
      rw [List.drop_eq_nil_of_le (by omega)] at htop
      have htop' : topOf ow.root hs_ = top := htop
      have HT := Lib.hid htop'
      clear hs htop htop' hlt hr
      go_wp2_with fail
      have g0 := hbo.alloc (.cells #[] 3)
      have g4 := hb4.alloc (.cells #[] 3)
      have g6 := hb6.alloc (.cells #[] 3)
      have g7 := ownsRow_new wr (base := wr.heap.size) (n := 0) (size := 1) (cs := #[]) (e := 3) (Nat.le_refl _) rfl (Nat.zero_le _)
      have gb := hb.alloc hbs (.cells #[] 3)
      clear hbo hb4 hb6 hb
      have hsg := hsz
      clear hsz
      obtain ⟨wo, rfl⟩ : ∃ wo : World, wo = wr := ⟨_, rfl⟩
      go_loopw [10, 66] (fun ou i wr => ∃ (k : Nat), k ≤ n ∧ i = .int .i64 k ∧ Blk wr w.heap.size 46 #[.int .i64 ow.root.one, .int .i64 ow.root.cls, .int .i64 ow.root.two, .int .i64 ow.root.id, .int .i64 ow.steps, .int .i64 ow.src, .int .i64 ow.port, .int .i64 ow.at_] ∧ Blk wr (w.heap.size + 1) 46 #[.int .i64 0, .int .i64 0, .int .i64 0, .int .i64 0, .int .i64 0, .int .i64 0, .int .i64 0, .int .i64 0] ∧ Blk wr (w.heap.size + 1 + 1) 46 #[.int .i64 top.root.one, .int .i64 top.root.cls, .int .i64 top.root.two, .int .i64 top.root.id, .int .i64 top.steps, .int .i64 top.src, .int .i64 top.port, .int .i64 top.at_] ∧ wr.ownsRow wo.heap.size 3 1 ou k ((refRoles ow.root top 0 (hs_.take k)).map fun x => .int .i64 x) ∧ wo.heap.size < wr.heap.size ∧ Below w.heap.size w wr) (fun _ i _ => n - (intOf i).toNat)
      case atStart => exact ⟨0, Nat.zero_le _, rfl, g0, g4, g6, g7, by simp, gb⟩
      case round =>
        clear g0 g4 g6 g7 gb
        obtain ⟨k, hk, rfl, hbo, hb4, hb6, hown, hsz, hb⟩ := hrel
        have hbs2 := hb.size
        by_cases hlt : k < n
        · obtain ⟨v, hv⟩ := getElem?_some_of_lt hl hlt
          have hra : (refRoles ow.root top 0 (hs_.take (k + 1))).map (fun x => Value.int .i64 x) = (refRoles ow.root top 0 (hs_.take k)).map (fun x => Value.int .i64 x) ++ [.int .i64 (refRole ow.root top k v)] := by
            rw [take_get hv, refRoles_snoc, List.map_append, List.length_take, Nat.zero_add, Nat.min_eq_left (by omega)]
            rfl
          have HR := Lib.hid hra
          clear hra
          obtain ⟨ad, rfl, hblk, hc0, hcj⟩ := ((hr0.below hb)).elem Hd.len hv hlt
          have p0 := hc0 _ rfl
          have p1 := hcj 1 _ (by omega) rfl
          have p2 := hcj 2 _ (by omega) rfl
          have p3 := hcj 3 _ (by omega) rfl
          have p4 := hcj 4 _ (by omega) rfl
          have p5 := hcj 5 _ (by omega) rfl
          have p6 := hcj 6 _ (by omega) rfl
          have p7 := hcj 7 _ (by omega) rfl
          have p8 := hcj 8 _ (by omega) rfl
          have p9 := hcj 9 _ (by omega) rfl
          clear hc0 hcj
          unfold iz at *
          have hblk' : (ad.add (k * 10)).block < wr.heap.size := by omega
          have hs0 : w.heap.size < wr.heap.size := by omega
          have hs1 : w.heap.size + 1 < wr.heap.size := by omega
          have hs2 : w.heap.size + 1 + 1 < wr.heap.size := by omega
          obtain ⟨o0, o1, o2, o3, o4, o5, o6, o7⟩ := hbo.vec
          obtain ⟨t0, t1, t2, t3, t4, t5, t6, t7⟩ := hb6.vec
          clear hv
          have nu : ∀ {b : Bool}, b = true → ¬ b = false := fun h => by rw [h]; simp
          by_cases h2 : 0 ≤ top.at_
          · have hV := fun W => rc8 ⟨v.vec.root, wrap64 (v.vec.steps - 1), v.vec.src, v.vec.port, 0⟩ ⟨top.root, top.steps, ow.root.id, k, 0⟩ W
            generalize hx : cmpV ⟨v.vec.root, wrap64 (v.vec.steps - 1), v.vec.src, v.vec.port, 0⟩ ⟨top.root, top.steps, ow.root.id, k, 0⟩ = x at hV
            have HX := Lib.hid hx
            unfold Vc.cells Pr.cells iz at hV
            simp only [List.cons_append, List.nil_append] at hV
            have HC := Lib.hid hV
            clear hV hx
            by_cases hu : v.up = true
            · rw [hu] at p0
              have HU := Lib.hid hu
              clear hu
              by_cases hi : (k : Int) = top.at_
              · have c1 : ((k : Int) == top.at_) = true := by simp [hi]
                have HI := Lib.hid hi
                clear hi
                by_cases ho : v.ok = true
                · rw [ho] at p1
                  go_wp2_with fail
                  refine (HC.out _).mono ?_
                  rintro e w2 ⟨rfl, hb2⟩
                  have F0 : Blk w2 w.heap.size _ _ := (((hbo.alloc _).alloc _).alloc _).below hb2 (by simp; omega)
                  have F4 : Blk w2 (w.heap.size + 1) _ _ := (((hb4.alloc _).alloc _).alloc _).below hb2 (by simp; omega)
                  have F6 : Blk w2 (w.heap.size + 1 + 1) _ _ := (((hb6.alloc _).alloc _).alloc _).below hb2 (by simp; omega)
                  have Fh : Blk w2 wr.heap.size 53 _ := (((Blk.new wr _ _).alloc _).alloc _).below hb2 (by simp only [World.size_alloc]; omega)
                  have F7 := ownsRow_keep (((hown.alloc _).alloc _).alloc _) hb2
                  have FW : Below w.heap.size w w2 := (((hb.alloc hbs2 _).alloc (by simp; omega) _).alloc (by simp; omega) _).trans (hb2.mono (by simp; omega))
                  have hz2 := hb2.size
                  simp only [World.size_alloc] at hz2
                  have y0 := Fh.cell 0
                  have y6 := Fh.cell 6
                  simp at y0 y6
                  clear hb2 o0 o1 o2 o3 o4 o5 o6 o7 t0 t1 t2 t3 t4 t5 t6 t7 p0 p1 p2 p3 p4 p5 p6 p7 p8 p9
                  obtain ⟨g0, g1, g2, g3, g4, g5, g6, g7⟩ := F6.vec
                  have HX2 := Lib.hid ho
                  clear ho
                  by_cases h3 : x < 0
                  · by_cases h4 : -9223372036854775808 < v.vec.steps
                    · have HH := Lib.hid (And.intro HX2.out (And.intro (by rw [HX.out]; exact h3 : cmpV ⟨v.vec.root, wrap64 (v.vec.steps - 1), v.vec.src, v.vec.port, 0⟩ ⟨top.root, top.steps, ow.root.id, k, 0⟩ < 0) h4))
                      go_wp2_with (at_builtin; refine wpList_push_at rfl (.tmp 116) (.tmp 118) 32 rfl styI (cs := #[.int .i64 2]) rfl (by intro u hu; simp at hu; subst hu; rfl) rfl (F7) rfl (by simp) (by omega) (by omega) ?_; intro v3 w3 hown3 hb3)
                      go_roundw
                      case rel => exact ⟨k + 1, by omega, by go_num, F0.below hb3 (by omega), F4.below hb3 (by omega), F6.below hb3 (by omega), by rw [HR.out, show refRole ow.root top k v = 2 from by rw [refRole, if_neg (nu HU.out), if_pos h2, if_pos HI.out]]; exact hown3, by have h5 := hb3.size; omega, FW.trans (hb3.mono (by omega))⟩
                      case measure => simp [intOf]; omega
                    · have d4 : decide (-9223372036854775808 < v.vec.steps) = false := by simpa using h4
                      have HH := Lib.hid h4
                      clear h4
                      go_wp2_with (at_builtin; refine wpList_push_at rfl (.tmp 116) (.tmp 118) 32 rfl styI (cs := #[.int .i64 2]) rfl (by intro u hu; simp at hu; subst hu; rfl) rfl (F7) rfl (by simp) (by omega) (by omega) ?_; intro v3 w3 hown3 hb3)
                      go_roundw
                      case rel => exact ⟨k + 1, by omega, by go_num, F0.below hb3 (by omega), F4.below hb3 (by omega), F6.below hb3 (by omega), by rw [HR.out, show refRole ow.root top k v = 2 from by rw [refRole, if_neg (nu HU.out), if_pos h2, if_pos HI.out]]; exact hown3, by have h5 := hb3.size; omega, FW.trans (hb3.mono (by omega))⟩
                      case measure => simp [intOf]; omega
                  · have d3 : decide (x < 0) = false := by simpa using h3
                    have HH := Lib.hid h3
                    clear h3
                    go_wp2_with (at_builtin; refine wpList_push_at rfl (.tmp 116) (.tmp 118) 32 rfl styI (cs := #[.int .i64 2]) rfl (by intro u hu; simp at hu; subst hu; rfl) rfl (F7) rfl (by simp) (by omega) (by omega) ?_; intro v3 w3 hown3 hb3)
                    go_roundw
                    case rel => exact ⟨k + 1, by omega, by go_num, F0.below hb3 (by omega), F4.below hb3 (by omega), F6.below hb3 (by omega), by rw [HR.out, show refRole ow.root top k v = 2 from by rw [refRole, if_neg (nu HU.out), if_pos h2, if_pos HI.out]]; exact hown3, by have h5 := hb3.size; omega, FW.trans (hb3.mono (by omega))⟩
                    case measure => simp [intOf]; omega
                · have ho' : v.ok = false := by simpa using ho
                  rw [ho'] at p1
                  have HO := Lib.hid ho
                  clear ho
                  go_wp2_with (at_builtin; refine wpList_push_at rfl (.tmp 116) (.tmp 118) 32 rfl styI (cs := #[.int .i64 2]) rfl (by intro u hu; simp at hu; subst hu; rfl) rfl (((hown.alloc _).alloc _).alloc _) rfl (by simp) (by omega) (by simp; omega) ?_; intro v3 w3 hown3 hb3)
                  go_roundw
                  case rel => exact ⟨k + 1, by omega, by go_num, (((hbo.alloc _).alloc _).alloc _).below hb3 (by omega), (((hb4.alloc _).alloc _).alloc _).below hb3 (by omega), (((hb6.alloc _).alloc _).alloc _).below hb3 (by omega), by rw [HR.out, show refRole ow.root top k v = 2 from by rw [refRole, if_neg (nu HU.out), if_pos h2, if_pos HI.out]]; exact hown3, by have h5 := hb3.size; simp at h5; omega, (((hb.alloc hbs2 _).alloc (by simp; omega) _).alloc (by simp; omega) _).trans (hb3.mono (by omega))⟩
                  case measure => simp [intOf]; omega
              · have c1 : ((k : Int) == top.at_) = false := by simp; omega
                have HI := Lib.hid hi
                clear hi
                by_cases ho : v.ok = true
                · rw [ho] at p1
                  go_wp2_with fail
                  refine (HC.out _).mono ?_
                  rintro e w2 ⟨rfl, hb2⟩
                  have F0 : Blk w2 w.heap.size _ _ := (((hbo.alloc _).alloc _).alloc _).below hb2 (by simp; omega)
                  have F4 : Blk w2 (w.heap.size + 1) _ _ := (((hb4.alloc _).alloc _).alloc _).below hb2 (by simp; omega)
                  have F6 : Blk w2 (w.heap.size + 1 + 1) _ _ := (((hb6.alloc _).alloc _).alloc _).below hb2 (by simp; omega)
                  have Fh : Blk w2 wr.heap.size 53 _ := (((Blk.new wr _ _).alloc _).alloc _).below hb2 (by simp only [World.size_alloc]; omega)
                  have F7 := ownsRow_keep (((hown.alloc _).alloc _).alloc _) hb2
                  have FW : Below w.heap.size w w2 := (((hb.alloc hbs2 _).alloc (by simp; omega) _).alloc (by simp; omega) _).trans (hb2.mono (by simp; omega))
                  have hz2 := hb2.size
                  simp only [World.size_alloc] at hz2
                  have y0 := Fh.cell 0
                  have y6 := Fh.cell 6
                  simp at y0 y6
                  clear hb2 o0 o1 o2 o3 o4 o5 o6 o7 t0 t1 t2 t3 t4 t5 t6 t7 p0 p1 p2 p3 p4 p5 p6 p7 p8 p9
                  obtain ⟨g0, g1, g2, g3, g4, g5, g6, g7⟩ := F6.vec
                  have HX2 := Lib.hid ho
                  clear ho
                  by_cases h3 : x < 0
                  · by_cases h4 : -9223372036854775808 < v.vec.steps
                    · have HH := Lib.hid (And.intro HX2.out (And.intro (by rw [HX.out]; exact h3 : cmpV ⟨v.vec.root, wrap64 (v.vec.steps - 1), v.vec.src, v.vec.port, 0⟩ ⟨top.root, top.steps, ow.root.id, k, 0⟩ < 0) h4))
                      go_wp2_with (at_builtin; refine wpList_push_at rfl (.tmp 116) (.tmp 118) 32 rfl styI (cs := #[.int .i64 3]) rfl (by intro u hu; simp at hu; subst hu; rfl) rfl (F7) rfl (by simp) (by omega) (by omega) ?_; intro v3 w3 hown3 hb3)
                      go_roundw
                      case rel => exact ⟨k + 1, by omega, by go_num, F0.below hb3 (by omega), F4.below hb3 (by omega), F6.below hb3 (by omega), by rw [HR.out, show refRole ow.root top k v = 3 from by rw [refRole, if_neg (nu HU.out), if_pos h2, if_neg HI.out, if_pos HH.out]]; exact hown3, by have h5 := hb3.size; omega, FW.trans (hb3.mono (by omega))⟩
                      case measure => simp [intOf]; omega
                    · have d4 : decide (-9223372036854775808 < v.vec.steps) = false := by simpa using h4
                      have HH := Lib.hid h4
                      clear h4
                      go_wp2_with (at_builtin; refine wpList_push_at rfl (.tmp 116) (.tmp 118) 32 rfl styI (cs := #[.int .i64 1]) rfl (by intro u hu; simp at hu; subst hu; rfl) rfl (F7) rfl (by simp) (by omega) (by omega) ?_; intro v3 w3 hown3 hb3)
                      go_roundw
                      case rel => exact ⟨k + 1, by omega, by go_num, F0.below hb3 (by omega), F4.below hb3 (by omega), F6.below hb3 (by omega), by rw [HR.out, show refRole ow.root top k v = 1 from by rw [refRole, if_neg (nu HU.out), if_pos h2, if_neg HI.out, if_neg (fun h => by have h5 := HH.out; have h6 := h.2.2; omega)]]; exact hown3, by have h5 := hb3.size; omega, FW.trans (hb3.mono (by omega))⟩
                      case measure => simp [intOf]; omega
                  · have d3 : decide (x < 0) = false := by simpa using h3
                    have HH := Lib.hid h3
                    clear h3
                    go_wp2_with (at_builtin; refine wpList_push_at rfl (.tmp 116) (.tmp 118) 32 rfl styI (cs := #[.int .i64 1]) rfl (by intro u hu; simp at hu; subst hu; rfl) rfl (F7) rfl (by simp) (by omega) (by omega) ?_; intro v3 w3 hown3 hb3)
                    go_roundw
                    case rel => exact ⟨k + 1, by omega, by go_num, F0.below hb3 (by omega), F4.below hb3 (by omega), F6.below hb3 (by omega), by rw [HR.out, show refRole ow.root top k v = 1 from by rw [refRole, if_neg (nu HU.out), if_pos h2, if_neg HI.out, if_neg (fun h => by have h5 := h.2.1; rw [HX.out] at h5; have h6 := HH.out; omega)]]; exact hown3, by have h5 := hb3.size; omega, FW.trans (hb3.mono (by omega))⟩
                    case measure => simp [intOf]; omega
                · have ho' : v.ok = false := by simpa using ho
                  rw [ho'] at p1
                  have HO := Lib.hid ho
                  clear ho
                  go_wp2_with (at_builtin; refine wpList_push_at rfl (.tmp 116) (.tmp 118) 32 rfl styI (cs := #[.int .i64 1]) rfl (by intro u hu; simp at hu; subst hu; rfl) rfl (((hown.alloc _).alloc _).alloc _) rfl (by simp) (by omega) (by simp; omega) ?_; intro v3 w3 hown3 hb3)
                  go_roundw
                  case rel => exact ⟨k + 1, by omega, by go_num, (((hbo.alloc _).alloc _).alloc _).below hb3 (by omega), (((hb4.alloc _).alloc _).alloc _).below hb3 (by omega), (((hb6.alloc _).alloc _).alloc _).below hb3 (by omega), by rw [HR.out, show refRole ow.root top k v = 1 from by rw [refRole, if_neg (nu HU.out), if_pos h2, if_neg HI.out, if_neg (fun h => HO.out h.1)]]; exact hown3, by have h5 := hb3.size; simp at h5; omega, (((hb.alloc hbs2 _).alloc (by simp; omega) _).alloc (by simp; omega) _).trans (hb3.mono (by omega))⟩
                  case measure => simp [intOf]; omega
            · have hu' : v.up = false := by simpa using hu
              rw [hu'] at p0
              have HU := Lib.hid hu'
              clear hu hu'
              by_cases hi : (k : Int) = top.at_
              · have c1 : ((k : Int) == top.at_) = true := by simp [hi]
                have HI := Lib.hid hi
                clear hi
                by_cases ho : v.ok = true
                · rw [ho] at p1
                  go_wp2_with fail
                  refine (HC.out _).mono ?_
                  rintro e w2 ⟨rfl, hb2⟩
                  have F0 : Blk w2 w.heap.size _ _ := (((hbo.alloc _).alloc _).alloc _).below hb2 (by simp; omega)
                  have F4 : Blk w2 (w.heap.size + 1) _ _ := (((hb4.alloc _).alloc _).alloc _).below hb2 (by simp; omega)
                  have F6 : Blk w2 (w.heap.size + 1 + 1) _ _ := (((hb6.alloc _).alloc _).alloc _).below hb2 (by simp; omega)
                  have Fh : Blk w2 wr.heap.size 53 _ := (((Blk.new wr _ _).alloc _).alloc _).below hb2 (by simp only [World.size_alloc]; omega)
                  have F7 := ownsRow_keep (((hown.alloc _).alloc _).alloc _) hb2
                  have FW : Below w.heap.size w w2 := (((hb.alloc hbs2 _).alloc (by simp; omega) _).alloc (by simp; omega) _).trans (hb2.mono (by simp; omega))
                  have hz2 := hb2.size
                  simp only [World.size_alloc] at hz2
                  have y0 := Fh.cell 0
                  have y6 := Fh.cell 6
                  simp at y0 y6
                  clear hb2 o0 o1 o2 o3 o4 o5 o6 o7 t0 t1 t2 t3 t4 t5 t6 t7 p0 p1 p2 p3 p4 p5 p6 p7 p8 p9
                  obtain ⟨g0, g1, g2, g3, g4, g5, g6, g7⟩ := F6.vec
                  have HX2 := Lib.hid ho
                  clear ho
                  by_cases h3 : x < 0
                  · by_cases h4 : -9223372036854775808 < v.vec.steps
                    · have HH := Lib.hid (And.intro HX2.out (And.intro (by rw [HX.out]; exact h3 : cmpV ⟨v.vec.root, wrap64 (v.vec.steps - 1), v.vec.src, v.vec.port, 0⟩ ⟨top.root, top.steps, ow.root.id, k, 0⟩ < 0) h4))
                      go_wp2_with (at_builtin; refine wpList_push_at rfl (.tmp 116) (.tmp 118) 32 rfl styI (cs := #[.int .i64 0]) rfl (by intro u hu; simp at hu; subst hu; rfl) rfl (F7) rfl (by simp) (by omega) (by omega) ?_; intro v3 w3 hown3 hb3)
                      go_roundw
                      case rel => exact ⟨k + 1, by omega, by go_num, F0.below hb3 (by omega), F4.below hb3 (by omega), F6.below hb3 (by omega), by rw [HR.out, show refRole ow.root top k v = 0 from by rw [refRole, if_pos HU.out]]; exact hown3, by have h5 := hb3.size; omega, FW.trans (hb3.mono (by omega))⟩
                      case measure => simp [intOf]; omega
                    · have d4 : decide (-9223372036854775808 < v.vec.steps) = false := by simpa using h4
                      have HH := Lib.hid h4
                      clear h4
                      go_wp2_with (at_builtin; refine wpList_push_at rfl (.tmp 116) (.tmp 118) 32 rfl styI (cs := #[.int .i64 0]) rfl (by intro u hu; simp at hu; subst hu; rfl) rfl (F7) rfl (by simp) (by omega) (by omega) ?_; intro v3 w3 hown3 hb3)
                      go_roundw
                      case rel => exact ⟨k + 1, by omega, by go_num, F0.below hb3 (by omega), F4.below hb3 (by omega), F6.below hb3 (by omega), by rw [HR.out, show refRole ow.root top k v = 0 from by rw [refRole, if_pos HU.out]]; exact hown3, by have h5 := hb3.size; omega, FW.trans (hb3.mono (by omega))⟩
                      case measure => simp [intOf]; omega
                  · have d3 : decide (x < 0) = false := by simpa using h3
                    have HH := Lib.hid h3
                    clear h3
                    go_wp2_with (at_builtin; refine wpList_push_at rfl (.tmp 116) (.tmp 118) 32 rfl styI (cs := #[.int .i64 0]) rfl (by intro u hu; simp at hu; subst hu; rfl) rfl (F7) rfl (by simp) (by omega) (by omega) ?_; intro v3 w3 hown3 hb3)
                    go_roundw
                    case rel => exact ⟨k + 1, by omega, by go_num, F0.below hb3 (by omega), F4.below hb3 (by omega), F6.below hb3 (by omega), by rw [HR.out, show refRole ow.root top k v = 0 from by rw [refRole, if_pos HU.out]]; exact hown3, by have h5 := hb3.size; omega, FW.trans (hb3.mono (by omega))⟩
                    case measure => simp [intOf]; omega
                · have ho' : v.ok = false := by simpa using ho
                  rw [ho'] at p1
                  have HO := Lib.hid ho
                  clear ho
                  go_wp2_with (at_builtin; refine wpList_push_at rfl (.tmp 116) (.tmp 118) 32 rfl styI (cs := #[.int .i64 0]) rfl (by intro u hu; simp at hu; subst hu; rfl) rfl (((hown.alloc _).alloc _).alloc _) rfl (by simp) (by omega) (by simp; omega) ?_; intro v3 w3 hown3 hb3)
                  go_roundw
                  case rel => exact ⟨k + 1, by omega, by go_num, (((hbo.alloc _).alloc _).alloc _).below hb3 (by omega), (((hb4.alloc _).alloc _).alloc _).below hb3 (by omega), (((hb6.alloc _).alloc _).alloc _).below hb3 (by omega), by rw [HR.out, show refRole ow.root top k v = 0 from by rw [refRole, if_pos HU.out]]; exact hown3, by have h5 := hb3.size; simp at h5; omega, (((hb.alloc hbs2 _).alloc (by simp; omega) _).alloc (by simp; omega) _).trans (hb3.mono (by omega))⟩
                  case measure => simp [intOf]; omega
              · have c1 : ((k : Int) == top.at_) = false := by simp; omega
                have HI := Lib.hid hi
                clear hi
                by_cases ho : v.ok = true
                · rw [ho] at p1
                  go_wp2_with fail
                  refine (HC.out _).mono ?_
                  rintro e w2 ⟨rfl, hb2⟩
                  have F0 : Blk w2 w.heap.size _ _ := (((hbo.alloc _).alloc _).alloc _).below hb2 (by simp; omega)
                  have F4 : Blk w2 (w.heap.size + 1) _ _ := (((hb4.alloc _).alloc _).alloc _).below hb2 (by simp; omega)
                  have F6 : Blk w2 (w.heap.size + 1 + 1) _ _ := (((hb6.alloc _).alloc _).alloc _).below hb2 (by simp; omega)
                  have Fh : Blk w2 wr.heap.size 53 _ := (((Blk.new wr _ _).alloc _).alloc _).below hb2 (by simp only [World.size_alloc]; omega)
                  have F7 := ownsRow_keep (((hown.alloc _).alloc _).alloc _) hb2
                  have FW : Below w.heap.size w w2 := (((hb.alloc hbs2 _).alloc (by simp; omega) _).alloc (by simp; omega) _).trans (hb2.mono (by simp; omega))
                  have hz2 := hb2.size
                  simp only [World.size_alloc] at hz2
                  have y0 := Fh.cell 0
                  have y6 := Fh.cell 6
                  simp at y0 y6
                  clear hb2 o0 o1 o2 o3 o4 o5 o6 o7 t0 t1 t2 t3 t4 t5 t6 t7 p0 p1 p2 p3 p4 p5 p6 p7 p8 p9
                  obtain ⟨g0, g1, g2, g3, g4, g5, g6, g7⟩ := F6.vec
                  have HX2 := Lib.hid ho
                  clear ho
                  by_cases h3 : x < 0
                  · by_cases h4 : -9223372036854775808 < v.vec.steps
                    · have HH := Lib.hid (And.intro HX2.out (And.intro (by rw [HX.out]; exact h3 : cmpV ⟨v.vec.root, wrap64 (v.vec.steps - 1), v.vec.src, v.vec.port, 0⟩ ⟨top.root, top.steps, ow.root.id, k, 0⟩ < 0) h4))
                      go_wp2_with (at_builtin; refine wpList_push_at rfl (.tmp 116) (.tmp 118) 32 rfl styI (cs := #[.int .i64 0]) rfl (by intro u hu; simp at hu; subst hu; rfl) rfl (F7) rfl (by simp) (by omega) (by omega) ?_; intro v3 w3 hown3 hb3)
                      go_roundw
                      case rel => exact ⟨k + 1, by omega, by go_num, F0.below hb3 (by omega), F4.below hb3 (by omega), F6.below hb3 (by omega), by rw [HR.out, show refRole ow.root top k v = 0 from by rw [refRole, if_pos HU.out]]; exact hown3, by have h5 := hb3.size; omega, FW.trans (hb3.mono (by omega))⟩
                      case measure => simp [intOf]; omega
                    · have d4 : decide (-9223372036854775808 < v.vec.steps) = false := by simpa using h4
                      have HH := Lib.hid h4
                      clear h4
                      go_wp2_with (at_builtin; refine wpList_push_at rfl (.tmp 116) (.tmp 118) 32 rfl styI (cs := #[.int .i64 0]) rfl (by intro u hu; simp at hu; subst hu; rfl) rfl (F7) rfl (by simp) (by omega) (by omega) ?_; intro v3 w3 hown3 hb3)
                      go_roundw
                      case rel => exact ⟨k + 1, by omega, by go_num, F0.below hb3 (by omega), F4.below hb3 (by omega), F6.below hb3 (by omega), by rw [HR.out, show refRole ow.root top k v = 0 from by rw [refRole, if_pos HU.out]]; exact hown3, by have h5 := hb3.size; omega, FW.trans (hb3.mono (by omega))⟩
                      case measure => simp [intOf]; omega
                  · have d3 : decide (x < 0) = false := by simpa using h3
                    have HH := Lib.hid h3
                    clear h3
                    go_wp2_with (at_builtin; refine wpList_push_at rfl (.tmp 116) (.tmp 118) 32 rfl styI (cs := #[.int .i64 0]) rfl (by intro u hu; simp at hu; subst hu; rfl) rfl (F7) rfl (by simp) (by omega) (by omega) ?_; intro v3 w3 hown3 hb3)
                    go_roundw
                    case rel => exact ⟨k + 1, by omega, by go_num, F0.below hb3 (by omega), F4.below hb3 (by omega), F6.below hb3 (by omega), by rw [HR.out, show refRole ow.root top k v = 0 from by rw [refRole, if_pos HU.out]]; exact hown3, by have h5 := hb3.size; omega, FW.trans (hb3.mono (by omega))⟩
                    case measure => simp [intOf]; omega
                · have ho' : v.ok = false := by simpa using ho
                  rw [ho'] at p1
                  have HO := Lib.hid ho
                  clear ho
                  go_wp2_with (at_builtin; refine wpList_push_at rfl (.tmp 116) (.tmp 118) 32 rfl styI (cs := #[.int .i64 0]) rfl (by intro u hu; simp at hu; subst hu; rfl) rfl (((hown.alloc _).alloc _).alloc _) rfl (by simp) (by omega) (by simp; omega) ?_; intro v3 w3 hown3 hb3)
                  go_roundw
                  case rel => exact ⟨k + 1, by omega, by go_num, (((hbo.alloc _).alloc _).alloc _).below hb3 (by omega), (((hb4.alloc _).alloc _).alloc _).below hb3 (by omega), (((hb6.alloc _).alloc _).alloc _).below hb3 (by omega), by rw [HR.out, show refRole ow.root top k v = 0 from by rw [refRole, if_pos HU.out]]; exact hown3, by have h5 := hb3.size; simp at h5; omega, (((hb.alloc hbs2 _).alloc (by simp; omega) _).alloc (by simp; omega) _).trans (hb3.mono (by omega))⟩
                  case measure => simp [intOf]; omega
          · have d2 : decide (0 ≤ top.at_) = false := by simpa using h2
            by_cases hu : v.up = true
            · rw [hu] at p0
              have HU := Lib.hid hu
              clear hu
              go_wp2_with (at_builtin; refine wpList_push_at rfl (.tmp 116) (.tmp 118) 32 rfl styI (cs := #[.int .i64 1]) rfl (by intro u hu; simp at hu; subst hu; rfl) rfl (((hown.alloc _).alloc _).alloc _) rfl (by simp) (by omega) (by simp; omega) ?_; intro v3 w3 hown3 hb3)
              go_roundw
              case rel => exact ⟨k + 1, by omega, by go_num, (((hbo.alloc _).alloc _).alloc _).below hb3 (by omega), (((hb4.alloc _).alloc _).alloc _).below hb3 (by omega), (((hb6.alloc _).alloc _).alloc _).below hb3 (by omega), by rw [HR.out, show refRole ow.root top k v = 1 from by rw [refRole, if_neg (nu HU.out), if_neg (by omega)]]; exact hown3, by have h5 := hb3.size; simp at h5; omega, (((hb.alloc hbs2 _).alloc (by simp; omega) _).alloc (by simp; omega) _).trans (hb3.mono (by omega))⟩
              case measure => simp [intOf]; omega
            · have hu' : v.up = false := by simpa using hu
              rw [hu'] at p0
              have HU := Lib.hid hu'
              clear hu hu'
              go_wp2_with (at_builtin; refine wpList_push_at rfl (.tmp 116) (.tmp 118) 32 rfl styI (cs := #[.int .i64 0]) rfl (by intro u hu; simp at hu; subst hu; rfl) rfl (((hown.alloc _).alloc _).alloc _) rfl (by simp) (by omega) (by simp; omega) ?_; intro v3 w3 hown3 hb3)
              go_roundw
              case rel => exact ⟨k + 1, by omega, by go_num, (((hbo.alloc _).alloc _).alloc _).below hb3 (by omega), (((hb4.alloc _).alloc _).alloc _).below hb3 (by omega), (((hb6.alloc _).alloc _).alloc _).below hb3 (by omega), by rw [HR.out, show refRole ow.root top k v = 0 from by rw [refRole, if_pos HU.out]]; exact hown3, by have h5 := hb3.size; simp at h5; omega, (((hb.alloc hbs2 _).alloc (by simp; omega) _).alloc (by simp; omega) _).trans (hb3.mono (by omega))⟩
              case measure => simp [intOf]; omega
        · obtain rfl : n = k := by omega
          obtain ⟨t0, t1, t2, t3, t4, t5, t6, t7⟩ := hb6.vec
          have z0 := hb4.cell 0
          have z1 := hb4.cell 1
          have z2 := hb4.cell 2
          have z3 := hb4.cell 3
          have z4 := hb4.cell 4
          have z5 := hb4.cell 5
          have z6 := hb4.cell 6
          have z7 := hb4.cell 7
          have fz := hb4.frozen
          simp at z0 z1 z2 z3 z4 z5 z6 z7
          go_wp2_with fail
          rw [List.take_of_length_le (by omega)] at hown
          obtain ⟨c0, c1, c2, c3, c4, c5, c6, c7⟩ := Blk.vec (v := top) (stores_all hb4 [.int .i64 top.root.one, .int .i64 top.root.cls, .int .i64 top.root.two, .int .i64 top.root.id, .int .i64 top.steps, .int .i64 top.src, .int .i64 top.port, .int .i64 top.at_] rfl)
          simp only [stores, Nat.zero_add, Nat.reduceAdd] at c0 c1 c2 c3 c4 c5 c6 c7
          refine bodyPost_ret (v := .tuple #[top.val, _]) (by simp [results, Try.results14, go_sem, Vc.val, Vc.cells, Pr.cells, iz, c0, c1, c2, c3, c4, c5, c6, c7]; rfl) rfl ?_
          unfold RefRet
          rw [HT.out]
          have hnb := ownsRow_lt hown
          have hown2 : wr.ownsRow w.heap.size 3 1 _ n _ := ⟨hown.1, hown.2.imp id (fun ⟨g, cap, cur, h1, h2, h3⟩ => ⟨g, cap, cur, h1, by omega, h3⟩)⟩
          exact ⟨_, rfl, stores_own (by intro h; have := (hnb _ h).1; omega) [.int .i64 top.root.one, .int .i64 top.root.cls, .int .i64 top.root.two, .int .i64 top.root.id, .int .i64 top.steps, .int .i64 top.src, .int .i64 top.port, .int .i64 top.at_] 0 hown2, stores_below (by omega) [.int .i64 top.root.one, .int .i64 top.root.cls, .int .i64 top.root.two, .int .i64 top.root.id, .int .i64 top.steps, .int .i64 top.src, .int .i64 top.port, .int .i64 top.at_] 0 hb⟩
end Go.Proofs.Ytcdgofndfajekaa
