/- Layer 4: is, Cut, On, Covers; layer 15: below. -/
import Derived.Test.YtedcdjlpogpgbaaC2
import Derived.Test.YtedcdjlpogpgbaaC1
set_option linter.unusedVariables false
set_option linter.unusedSimpArgs false
namespace Go.Proofs.Ytedcdjlpogpgbaa
open Go.RowKit

attribute [local go_sem high] neq_pos eql_pos
def isB (t : List Ep) (p : Pos) : Bool := posEq p.e p.i 0 0 || (decide (1 ≤ p.e) && decide (p.e ≤ t.length) && decide ((ep t (p.e.toNat - 1)).c < p.i) && decide (p.i ≤ 512))
def BoolRes (b : Bool) (w : World) (e : Ending) (w' : World) : Prop := e = .returned (.bool b) ∧ Below w.heap.size w w'

set_option maxRecDepth 100000 in
set_option maxHeartbeats 4000000 in
theorem is_any (v : Value) (t : List Ep) (p : Pos) (w : World) (ht : SlAt w v t.length (epsCells t)) (hl : t.length ≤ 64) :
    Calls Try.prog 91 #[v, .agg (posCells p)] w (BoolRes (isB t p) w) := by
  obtain ⟨A, ca, rfl, hca, hcm, _⟩ := id ht
  have HT := Lib.hid ht
  clear ht
  obtain ⟨pe, pi⟩ := p
  unfold posCells
  dsimp only
  by_cases hz : posEq pe pi 0 0 = true
  · have HZ := Lib.hid hz
    go_enter Try.func91, Try.ntmps91
    go_wp2_with fail
    go_ret
    exact ⟨by simp only [isB, HZ.out, Bool.true_or]; rfl, by (repeat' (first | with_reducible exact Below.refl _ _ | with_reducible refine below_drewN ?_ _ | with_reducible refine Below.drew ?_ | with_reducible refine Below.setCell ?_ (by first | exact Nat.le_refl _ | (simp; done) | (simp; omega) | omega) _ | with_reducible refine Below.alloc ?_ (by first | exact Nat.le_refl _ | (simp; done) | (simp; omega) | omega) _ | exact Below.refl _ _))⟩
  have hz' : posEq pe pi 0 0 = false := by simpa using hz
  have HZ := Lib.hid hz'
  clear hz
  by_cases c1 : 1 ≤ pe
  · have d1 : decide (1 ≤ pe) = true := decide_eq_true c1
    by_cases c2 : pe ≤ (t.length : Int)
    · have d2 : decide (pe ≤ (t.length : Int)) = true := decide_eq_true c2
      obtain ⟨k, hk⟩ : ∃ k : Nat, pe = (k : Int) + 1 := ⟨(pe - 1).toNat, by omega⟩
      subst hk
      have hkl : k < t.length := by omega
      obtain ⟨b, o, c, hA, _, _, hb, hc⟩ := eps_at HT.out (by omega)
      injection hA with hA _ _
      subst hA
      obtain ⟨_, a1, _⟩ := hc k hkl
      obtain ⟨cu, hcu⟩ : ∃ cu, (ep t k).c = cu := ⟨_, rfl⟩
      rw [hcu] at a1
      have hbw : b < w.heap.size := hb
      have hbn : b ≠ w.heap.size := by omega
      have q0 : (0 : Int) ≤ (k : Int) := by omega
      have q1 : (k : Int) < (t.length : Int) := by omega
      have q2 : IntKind.i64.wrap (k : Int) = (k : Int) := wrap_small _ q0 (by omega)
      have hI : isB t ⟨(k : Int) + 1, pi⟩ = (decide (cu < pi) && decide (pi ≤ 512)) := by
        unfold isB; rw [hz', decide_eq_true c1, decide_eq_true c2, show ((k : Int) + 1).toNat - 1 = k from by omega, hcu]; simp
      have HI := Lib.hid hI
      clear hc hI hcu hz'
      by_cases c3 : cu < pi
      · have d3 : decide (cu < pi) = true := decide_eq_true c3
        by_cases c4 : pi ≤ 512
        · have d4 : decide (pi ≤ 512) = true := decide_eq_true c4
          have hz2 := HZ.out
          go_enter Try.func91, Try.ntmps91
          go_wp2_with fail
          go_quiet (fail)
          go_wp2_with fail
          go_ret
          exact ⟨by rw [HI.out, d3, d4]; rfl, by (repeat' (first | with_reducible exact Below.refl _ _ | with_reducible refine below_drewN ?_ _ | with_reducible refine Below.drew ?_ | with_reducible refine Below.setCell ?_ (by first | exact Nat.le_refl _ | (simp; done) | (simp; omega) | omega) _ | with_reducible refine Below.alloc ?_ (by first | exact Nat.le_refl _ | (simp; done) | (simp; omega) | omega) _ | exact Below.refl _ _))⟩
        · have d4 : decide (pi ≤ 512) = false := decide_eq_false c4
          have hz2 := HZ.out
          go_enter Try.func91, Try.ntmps91
          go_wp2_with fail
          go_quiet (fail)
          go_wp2_with fail
          go_ret
          exact ⟨by rw [HI.out, d3, d4]; rfl, by (repeat' (first | with_reducible exact Below.refl _ _ | with_reducible refine below_drewN ?_ _ | with_reducible refine Below.drew ?_ | with_reducible refine Below.setCell ?_ (by first | exact Nat.le_refl _ | (simp; done) | (simp; omega) | omega) _ | with_reducible refine Below.alloc ?_ (by first | exact Nat.le_refl _ | (simp; done) | (simp; omega) | omega) _ | exact Below.refl _ _))⟩
      · have d3 : decide (cu < pi) = false := decide_eq_false c3
        have hz2 := HZ.out
        go_enter Try.func91, Try.ntmps91
        go_wp2_with fail
        go_quiet (fail)
        go_wp2_with fail
        go_ret
        exact ⟨by rw [HI.out, d3]; rfl, by (repeat' (first | with_reducible exact Below.refl _ _ | with_reducible refine below_drewN ?_ _ | with_reducible refine Below.drew ?_ | with_reducible refine Below.setCell ?_ (by first | exact Nat.le_refl _ | (simp; done) | (simp; omega) | omega) _ | with_reducible refine Below.alloc ?_ (by first | exact Nat.le_refl _ | (simp; done) | (simp; omega) | omega) _ | exact Below.refl _ _))⟩
    · have d2 : decide (pe ≤ (t.length : Int)) = false := decide_eq_false c2
      go_enter Try.func91, Try.ntmps91
      go_wp2_with fail
      go_quiet (fail)
      go_wp2_with fail
      go_ret
      exact ⟨by unfold isB; rw [HZ.out, d2]; simp, by (repeat' (first | with_reducible exact Below.refl _ _ | with_reducible refine below_drewN ?_ _ | with_reducible refine Below.drew ?_ | with_reducible refine Below.setCell ?_ (by first | exact Nat.le_refl _ | (simp; done) | (simp; omega) | omega) _ | with_reducible refine Below.alloc ?_ (by first | exact Nat.le_refl _ | (simp; done) | (simp; omega) | omega) _ | exact Below.refl _ _))⟩
  · have d1 : decide (1 ≤ pe) = false := decide_eq_false c1
    go_enter Try.func91, Try.ntmps91
    go_wp2_with fail
    go_quiet (fail)
    go_wp2_with fail
    go_ret
    exact ⟨by unfold isB; rw [HZ.out, d1]; simp, by (repeat' (first | with_reducible exact Below.refl _ _ | with_reducible refine below_drewN ?_ _ | with_reducible refine Below.drew ?_ | with_reducible refine Below.setCell ?_ (by first | exact Nat.le_refl _ | (simp; done) | (simp; omega) | omega) _ | with_reducible refine Below.alloc ?_ (by first | exact Nat.le_refl _ | (simp; done) | (simp; omega) | omega) _ | exact Below.refl _ _))⟩

def cutGo (t : List Ep) (i : Int) : Nat → Nat → Nat
  | _, 0 => 0
  | j, m + 1 => if (ep t j).c < i then j + 1 else cutGo t i (j + 1) m
def cutN (t : List Ep) (p : Pos) : Nat := cutGo t p.i p.e.toNat (t.length - p.e.toNat)
def onB (t : List Ep) (p : Pos) : Bool := rightB t && isB t p && (cutN t p == 0)
theorem isB_range {t : List Ep} {p : Pos} (h : isB t p = true) : 0 ≤ p.e ∧ p.e ≤ t.length ∧ 0 ≤ p.e := by
  unfold isB posEq at h
  simp only [Bool.or_eq_true, Bool.and_eq_true, beq_iff_eq, decide_eq_true_eq] at h
  omega

set_option maxRecDepth 100000 in
set_option maxHeartbeats 8000000 in
theorem Cut_any (v : Value) (t : List Ep) (p : Pos) (w : World) (ht : SlAt w v t.length (epsCells t)) (hr : rightB t = true) (hi : isB t p = true) :
    Calls Try.prog 92 #[v, .agg (posCells p)] w fun e w' => ∃ f, e = .returned (.tuple #[.int .i64 (cutN t p), .bool f]) ∧ Below w.heap.size w w' := by
  obtain ⟨A, ca, rfl, hca, hcm, _⟩ := id ht
  have hl : t.length ≤ 64 := ((rightB_iff _).1 hr).2.1
  obtain ⟨hp1, hp2, _⟩ := isB_range hi
  have HT := Lib.hid ht
  obtain ⟨b, o, c, hA, _, _, hb, hc⟩ := eps_at ht (((rightB_iff _).1 hr).1)
  injection hA with hA _ hA2
  subst hA
  subst hA2
  have HCE := Lib.hid hc
  have HIS : Hid (∀ W : World, Below w.heap.size w W → Calls Try.prog 91 #[.slice (some ⟨b, o, none⟩) t.length ca, .agg (posCells p)] W (BoolRes true W)) := Lib.hid fun W hW => by
    have := is_any _ t p W (ht.below hW) hl
    rwa [hi] at this
  have HRT : Hid (∀ W : World, Below w.heap.size w W → Calls Try.prog 44 #[.slice (some ⟨b, o, none⟩) t.length ca] W fun e w' => e = .returned (.bool true) ∧ Below W.heap.size W w') := Lib.hid fun W hW => by
    have := Right_any _ t W (ht.below hW)
    rwa [hr] at this
  obtain ⟨pe, pi⟩ := p
  obtain ⟨k, hk⟩ : ∃ k : Nat, pe = (k : Int) := ⟨pe.toNat, by simp only at hp1; omega⟩
  subst hk
  dsimp only at hp1 hp2
  obtain ⟨N, hN⟩ : ∃ N, cutN t ⟨(k : Int), pi⟩ = N := ⟨_, rfl⟩
  rw [hN]
  have hN' : cutGo t pi k (t.length - k) = N := by rw [← hN]; unfold cutN; rw [show ((k : Int)).toNat = k from Int.toNat_natCast k]
  have HN := Lib.hid hN'
  unfold posCells at HIS ⊢
  dsimp only at HIS ⊢
  clear ht hr hi hc hN hN'
  go_enter Try.func92, Try.ntmps92
  go_wp2_with fail
  go_step3
  go_wp2_with fail
  refine (HRT.out _ (by (repeat' (first | with_reducible exact Below.refl _ _ | with_reducible refine below_drewN ?_ _ | with_reducible refine Below.drew ?_ | with_reducible refine Below.setCell ?_ (by first | exact Nat.le_refl _ | (simp; done) | (simp; omega) | omega) _ | with_reducible refine Below.alloc ?_ (by first | exact Nat.le_refl _ | (simp; done) | (simp; omega) | omega) _ | exact Below.refl _ _)))).mono ?_
  rintro e w1 ⟨rfl, hb1⟩
  have K1 := (Blk.new w (posCells ⟨(k : Int), pi⟩) 33).below hb1
  have HB1 := Lib.hid (((Below.refl _ w).alloc (Nat.le_refl _) (.cells (posCells ⟨(k : Int), pi⟩) 33)).trans (hb1.mono (by simp)))
  have HK1 := Lib.hid K1
  have hk1 := K1.lt
  have hs1 := HB1.out.size
  have a0 : World.cell? w1 ⟨w.heap.size, 0, none⟩ = some (.int .i64 (k : Int)) := by rw [Blk.cell K1]; rfl
  have a1 : World.cell? w1 ⟨w.heap.size, 1, none⟩ = some (.int .i64 pi) := by rw [Blk.cell K1]; rfl
  clear hb1 K1 HRT
  go_wp2_with fail
  refine (HIS.out _ HB1.out).mono ?_
  rintro e w2 ⟨rfl, hb2⟩
  have K2 := HK1.out.below hb2
  have HB2 := Lib.hid (HB1.out.trans (hb2.mono hs1))
  have HK2 := Lib.hid K2
  have hk2 := K2.lt
  have hs2 := HB2.out.size
  clear a0 a1
  have a0 : World.cell? w2 ⟨w.heap.size, 0, none⟩ = some (.int .i64 (k : Int)) := by rw [Blk.cell K2]; rfl
  have a1 : World.cell? w2 ⟨w.heap.size, 1, none⟩ = some (.int .i64 pi) := by rw [Blk.cell K2]; rfl
  clear hb2 K2 HIS HK1 HB1
  go_wp2_with fail
  go_step3
  go_wp2_with fail
  go_loopg [6, 7] (t.length - k) (fun g u v wr => ∃ j : Nat, k ≤ j ∧ j ≤ t.length ∧ u = .int .i64 0 ∧ v = .int .i64 (j : Int) ∧ g = t.length - j ∧ cutGo t pi j (t.length - j) = N ∧ Below w2.heap.size w2 wr)
  case atStart => exact ⟨k, Nat.le_refl _, by omega, rfl, rfl, rfl, HN.out, by (repeat' (first | with_reducible exact Below.refl _ _ | with_reducible refine below_drewN ?_ _ | with_reducible refine Below.drew ?_ | with_reducible refine Below.setCell ?_ (by first | exact Nat.le_refl _ | (simp; done) | (simp; omega) | omega) _ | with_reducible refine Below.alloc ?_ (by first | exact Nat.le_refl _ | (simp; done) | (simp; omega) | omega) _ | exact Below.refl _ _))⟩
  case round =>
    obtain ⟨j, hj1, hj2, rfl, rfl, rfl, hcut, hbr⟩ := hrel
    have HBR := Lib.hid hbr
    have HCUT := Lib.hid hcut
    have hsr := hbr.size
    have kr := HK2.out.below hbr
    have hkr := kr.lt
    have b1 : wr.cell? ⟨w.heap.size, 1, none⟩ = some (.int .i64 pi) := by rw [kr.cell]; rfl
    clear hbr hcut kr a0 a1
    by_cases hlt : j < t.length
    · have d1 : decide ((j : Int) < (t.length : Int)) = true := by rw [decide_eq_true_eq]; omega
      obtain ⟨_, e1, e2⟩ := HCE.out j hlt
      rw [← (HB2.out.trans (HBR.out.mono hs2)).cell (p := ⟨b, o + j * 3 + 1, none⟩) hb] at e1
      rw [← (HB2.out.trans (HBR.out.mono hs2)).cell (p := ⟨b, o + j * 3 + 2, none⟩) hb] at e2
      obtain ⟨cu, hcu⟩ : ∃ cu, (ep t j).c = cu := ⟨_, rfl⟩
      rw [hcu] at e1
      have HCU := Lib.hid hcu
      have q0 : (0 : Int) ≤ (j : Int) := by omega
      have q1 : (j : Int) < (t.length : Int) := by omega
      have q2 : IntKind.i64.wrap (j : Int) = (j : Int) := wrap_small _ q0 (by omega)
      have q3 : IntKind.i64.wrap ((j : Int) + 1) = (j : Int) + 1 := wrap_small _ (by omega) (by omega)
      have hbr2 : b < wr.heap.size := by omega
      clear hcu
      by_cases hc : cu < pi
      · have d2 : decide (cu < pi) = true := decide_eq_true hc
        have d3 : decide ((0 : Int) < (j : Int) + 1) = true := by rw [decide_eq_true_eq]; omega
        have hNj : N = j + 1 := by
          rw [← HCUT.out, show t.length - j = (t.length - j - 1) + 1 by omega]
          simp only [cutGo]; rw [if_pos (by rw [HCU.out]; exact hc)]
        go_wp2_with fail
        go_quiet (fail)
        go_wp2_with fail
        go_quiet (fail)
        go_wp2_with fail
        rw [Exit.noGoto_ret]
        go_ret2
        exact ⟨_, by rw [hNj]; rfl, by (repeat' (first | with_reducible exact HB2.out | with_reducible exact (HB2.out.trans (HBR.out.mono hs2)) | with_reducible exact Below.refl _ _ | with_reducible refine below_drewN ?_ _ | with_reducible refine Below.drew ?_ | with_reducible refine Below.setCell ?_ (by first | exact Nat.le_refl _ | (simp; done) | (simp; omega) | omega) _ | with_reducible refine Below.alloc ?_ (by first | exact Nat.le_refl _ | (simp; done) | (simp; omega) | omega) _ | exact Below.refl _ _ | exact HB2.out | exact (HB2.out.trans (HBR.out.mono hs2))))⟩
      · have d2 : decide (cu < pi) = false := decide_eq_false hc
        go_wp2_with fail
        go_quiet (fail)
        go_wp2_with fail
        go_roundg (t.length - (j + 1))
        case measure => omega
        case rel =>
          refine ⟨j + 1, by omega, by omega, rfl, by go_num, rfl, ?_, by (repeat' (first | with_reducible exact HBR.out | with_reducible exact Below.refl _ _ | with_reducible refine below_drewN ?_ _ | with_reducible refine Below.drew ?_ | with_reducible refine Below.setCell ?_ (by first | exact Nat.le_refl _ | (simp; done) | (simp; omega) | omega) _ | with_reducible refine Below.alloc ?_ (by first | exact Nat.le_refl _ | (simp; done) | (simp; omega) | omega) _ | exact Below.refl _ _ | exact HBR.out))⟩
          rw [← HCUT.out, show t.length - j = (t.length - (j + 1)) + 1 by omega]
          simp only [cutGo]; rw [if_neg (by rw [HCU.out]; omega)]
    · have d1 : decide ((j : Int) < (t.length : Int)) = false := by rw [decide_eq_false_iff_not]; omega
      have hN0 : N = 0 := by rw [← HCUT.out, show t.length - j = 0 by omega]; rfl
      go_wp2_with fail
      go_quiet (fail)
      go_wp2_with fail
      rw [Exit.noGoto_ret]
      go_ret2
      exact ⟨_, by rw [hN0]; rfl, by (repeat' (first | with_reducible exact (HB2.out.trans (HBR.out.mono hs2)) | with_reducible exact Below.refl _ _ | with_reducible refine below_drewN ?_ _ | with_reducible refine Below.drew ?_ | with_reducible refine Below.setCell ?_ (by first | exact Nat.le_refl _ | (simp; done) | (simp; omega) | omega) _ | with_reducible refine Below.alloc ?_ (by first | exact Nat.le_refl _ | (simp; done) | (simp; omega) | omega) _ | exact Below.refl _ _ | exact (HB2.out.trans (HBR.out.mono hs2))))⟩

set_option maxRecDepth 100000 in
set_option maxHeartbeats 4000000 in
theorem On_any (v : Value) (t : List Ep) (p : Pos) (w : World) (ht : SlAt w v t.length (epsCells t)) :
    Calls Try.prog 78 #[v, .agg (posCells p)] w (BoolRes (onB t p) w) := by
  have HT := Lib.hid ht
  obtain ⟨A, ca, rfl, hca, hcm, _⟩ := id ht
  have HRT : Hid (∀ W : World, Below w.heap.size w W → Calls Try.prog 44 #[.slice A t.length ca] W fun e w' => e = .returned (.bool (rightB t)) ∧ Below W.heap.size W w') := Lib.hid fun W hW => Right_any _ t W (ht.below hW)
  have hpc : posCells p = #[.int .i64 p.e, .int .i64 p.i] := rfl
  clear ht
  by_cases hr : rightB t = true
  · have hl : t.length ≤ 64 := ((rightB_iff _).1 hr).2.1
    have HIS : Hid (∀ W : World, Below w.heap.size w W → Calls Try.prog 91 #[.slice A t.length ca, .agg #[.int .i64 p.e, .int .i64 p.i]] W (BoolRes (isB t p) W)) := Lib.hid fun W hW => is_any _ t p W (HT.out.below hW) hl
    by_cases hi : isB t p = true
    · have HCU : Hid (∀ W : World, Below w.heap.size w W → Calls Try.prog 92 #[.slice A t.length ca, .agg #[.int .i64 p.e, .int .i64 p.i]] W fun e w' => ∃ f, e = .returned (.tuple #[.int .i64 (cutN t p), .bool f]) ∧ Below W.heap.size W w') := Lib.hid fun W hW => Cut_any _ t p W (HT.out.below hW) hr hi
      have hO : onB t p = ((cutN t p : Int) == 0) := by
        unfold onB; rw [hr, hi, Bool.true_and, Bool.true_and, Bool.eq_iff_iff, beq_iff_eq, beq_iff_eq]; omega
      rw [hpc]
      rw [hr] at HRT
      rw [hi] at HIS
      have HO := Lib.hid hO
      clear hr hi hO hpc
      go_enter Try.func78, Try.ntmps78
      go_wp2_with fail
      refine (HRT.out _ (by (repeat' (first | with_reducible exact Below.refl _ _ | with_reducible refine below_drewN ?_ _ | with_reducible refine Below.drew ?_ | with_reducible refine Below.setCell ?_ (by first | exact Nat.le_refl _ | (simp; done) | (simp; omega) | omega) _ | with_reducible refine Below.alloc ?_ (by first | exact Nat.le_refl _ | (simp; done) | (simp; omega) | omega) _ | exact Below.refl _ _)))).mono ?_
      rintro e w1 ⟨rfl, hb1⟩
      have K1 := (Blk.new w #[.int .i64 p.e, .int .i64 p.i] 33).below hb1
      have HB1 := Lib.hid (((Below.refl _ w).alloc (Nat.le_refl _) (.cells #[.int .i64 p.e, .int .i64 p.i] 33)).trans (hb1.mono (by simp)))
      have HK1 := Lib.hid K1
      have hk1 := K1.lt
      have hs1 := HB1.out.size
      have a0 : World.cell? w1 ⟨w.heap.size, 0, none⟩ = some (.int .i64 p.e) := by rw [Blk.cell K1]; rfl
      have a1 : World.cell? w1 ⟨w.heap.size, 1, none⟩ = some (.int .i64 p.i) := by rw [Blk.cell K1]; rfl
      clear hb1 K1 HRT
      go_wp2_with fail
      refine (HIS.out _ HB1.out).mono ?_
      rintro e w2 ⟨rfl, hb2⟩
      have K2 := HK1.out.below hb2
      have HB2 := Lib.hid (HB1.out.trans (hb2.mono hs1))
      have hk2 := K2.lt
      have hs2 := HB2.out.size
      clear a0 a1
      have a0 : World.cell? w2 ⟨w.heap.size, 0, none⟩ = some (.int .i64 p.e) := by rw [Blk.cell K2]; rfl
      have a1 : World.cell? w2 ⟨w.heap.size, 1, none⟩ = some (.int .i64 p.i) := by rw [Blk.cell K2]; rfl
      clear hb2 K2 HIS HK1 HB1
      go_wp2_with fail
      refine (HCU.out _ HB2.out).mono ?_
      rintro e w3 ⟨f, rfl, hb3⟩
      have HB3 := Lib.hid (HB2.out.trans (hb3.mono hs2))
      clear hb3
      go_wp2_with fail
      go_ret
      exact ⟨by rw [HO.out]; rfl, HB3.out⟩
    · have hi' : isB t p = false := by simpa using hi
      have hO : onB t p = false := by unfold onB; rw [hi', Bool.and_false, Bool.false_and]
      rw [hpc]
      rw [hr] at HRT
      rw [hi'] at HIS
      have HO := Lib.hid hO
      clear hr hi hi' hO hpc
      go_enter Try.func78, Try.ntmps78
      go_wp2_with fail
      refine (HRT.out _ (by (repeat' (first | with_reducible exact Below.refl _ _ | with_reducible refine below_drewN ?_ _ | with_reducible refine Below.drew ?_ | with_reducible refine Below.setCell ?_ (by first | exact Nat.le_refl _ | (simp; done) | (simp; omega) | omega) _ | with_reducible refine Below.alloc ?_ (by first | exact Nat.le_refl _ | (simp; done) | (simp; omega) | omega) _ | exact Below.refl _ _)))).mono ?_
      rintro e w1 ⟨rfl, hb1⟩
      have K1 := (Blk.new w #[.int .i64 p.e, .int .i64 p.i] 33).below hb1
      have HB1 := Lib.hid (((Below.refl _ w).alloc (Nat.le_refl _) (.cells #[.int .i64 p.e, .int .i64 p.i] 33)).trans (hb1.mono (by simp)))
      have hk1 := K1.lt
      have hs1 := HB1.out.size
      have a0 : World.cell? w1 ⟨w.heap.size, 0, none⟩ = some (.int .i64 p.e) := by rw [Blk.cell K1]; rfl
      have a1 : World.cell? w1 ⟨w.heap.size, 1, none⟩ = some (.int .i64 p.i) := by rw [Blk.cell K1]; rfl
      clear hb1 K1 HRT
      go_wp2_with fail
      refine (HIS.out _ HB1.out).mono ?_
      rintro e w2 ⟨rfl, hb2⟩
      have HB2 := Lib.hid (HB1.out.trans (hb2.mono hs1))
      clear hb2
      go_wp2_with fail
      go_ret
      exact ⟨by rw [HO.out]; rfl, HB2.out⟩
  · have hr' : rightB t = false := by simpa using hr
    have hO : onB t p = false := by unfold onB; rw [hr', Bool.false_and, Bool.false_and]
    rw [hpc]
    rw [hr'] at HRT
    have HO := Lib.hid hO
    clear hr hr' hO hpc
    go_enter Try.func78, Try.ntmps78
    go_wp2_with fail
    refine (HRT.out _ (by (repeat' (first | with_reducible exact Below.refl _ _ | with_reducible refine below_drewN ?_ _ | with_reducible refine Below.drew ?_ | with_reducible refine Below.setCell ?_ (by first | exact Nat.le_refl _ | (simp; done) | (simp; omega) | omega) _ | with_reducible refine Below.alloc ?_ (by first | exact Nat.le_refl _ | (simp; done) | (simp; omega) | omega) _ | exact Below.refl _ _)))).mono ?_
    rintro e w1 ⟨rfl, hb1⟩
    have HB1 := Lib.hid (((Below.refl _ w).alloc (Nat.le_refl _) (.cells #[.int .i64 p.e, .int .i64 p.i] 33)).trans (hb1.mono (by simp)))
    clear hb1
    go_wp2_with fail
    go_ret
    exact ⟨by rw [HO.out]; rfl, HB1.out⟩

end Go.Proofs.Ytedcdjlpogpgbaa

/- Layer 4: Covers; layer 15: below. -/
set_option linter.unusedVariables false
set_option linter.unusedSimpArgs false
namespace Go.Proofs.Ytedcdjlpogpgbaa
open Go.RowKit

attribute [local go_sem high] neq_pos eql_pos
def coversB (t : List Ep) (p f : Pos) : Bool := onB t p && onB t f && decide (f.i ≤ p.i)
set_option maxRecDepth 100000 in
set_option maxHeartbeats 4000000 in
theorem Covers_any (v : Value) (t : List Ep) (p f : Pos) (w : World) (ht : SlAt w v t.length (epsCells t)) :
    Calls Try.prog 93 #[v, .agg (posCells p), .agg (posCells f)] w (BoolRes (coversB t p f) w) := by
  have HT := Lib.hid ht
  obtain ⟨A, ca, rfl, hca, hcm, _⟩ := id ht
  have hp : ∀ W : World, Below w.heap.size w W → Calls Try.prog 78 #[.slice A t.length ca, .agg #[.int .i64 p.e, .int .i64 p.i]] W (BoolRes (onB t p) W) := fun W hW => On_any _ t p W (ht.below hW)
  have hf : ∀ W : World, Below w.heap.size w W → Calls Try.prog 78 #[.slice A t.length ca, .agg #[.int .i64 f.e, .int .i64 f.i]] W (BoolRes (onB t f) W) := fun W hW => On_any _ t f W (ht.below hW)
  obtain ⟨bp, hbp⟩ : ∃ b, onB t p = b := ⟨_, rfl⟩
  obtain ⟨bf, hbf⟩ : ∃ b, onB t f = b := ⟨_, rfl⟩
  rw [hbp] at hp
  rw [hbf] at hf
  have HBP := Lib.hid hbp
  have HBF := Lib.hid hbf
  have HP := Lib.hid hp
  have HF := Lib.hid hf
  clear ht hp hf hbp hbf
  unfold posCells
  go_enter Try.func93, Try.ntmps93
  go_wp2_with fail
  refine (HP.out _ (by (repeat' (first | with_reducible exact Below.refl _ _ | with_reducible refine below_drewN ?_ _ | with_reducible refine Below.drew ?_ | with_reducible refine Below.setCell ?_ (by first | exact Nat.le_refl _ | (simp; done) | (simp; omega) | omega) _ | with_reducible refine Below.alloc ?_ (by first | exact Nat.le_refl _ | (simp; done) | (simp; omega) | omega) _ | exact Below.refl _ _)))).mono ?_
  rintro e w1 ⟨rfl, hb1⟩
  have B1 : Below w.heap.size w w1 := (by (repeat' (first | with_reducible exact Below.refl _ _ | with_reducible refine below_drewN ?_ _ | with_reducible refine Below.drew ?_ | with_reducible refine Below.setCell ?_ (by first | exact Nat.le_refl _ | (simp; done) | (simp; omega) | omega) _ | with_reducible refine Below.alloc ?_ (by first | exact Nat.le_refl _ | (simp; done) | (simp; omega) | omega) _ | exact Below.refl _ _)) : Below w.heap.size w _).trans (hb1.mono (by simp; try omega))
  have KP := (Blk.below (by ((repeat' (first | with_reducible exact Blk.new _ _ _ | with_reducible apply Blk.drewN | with_reducible apply Blk.drew | with_reducible apply Blk.set' | (with_reducible apply Blk.set_other (hp := by first | assumption | (simp; done) | (simp; omega) | omega)) | (with_reducible apply Blk.new'; focus (first | (simp; done) | (simp; omega))) | with_reducible apply Blk.alloc)) <;> rfl) : Blk _ w.heap.size (posCells p) 33) hb1)
  have KF := (Blk.below (by ((repeat' (first | with_reducible exact Blk.new _ _ _ | with_reducible apply Blk.drewN | with_reducible apply Blk.drew | with_reducible apply Blk.set' | (with_reducible apply Blk.set_other (hp := by first | assumption | (simp; done) | (simp; omega) | omega)) | (with_reducible apply Blk.new'; focus (first | (simp; done) | (simp; omega))) | with_reducible apply Blk.alloc)) <;> rfl) : Blk _ (w.heap.size + 1) (posCells f) 33) hb1)
  have a0 : World.cell? w1 ⟨w.heap.size, 0, none⟩ = some (.int .i64 p.e) := by rw [Blk.cell KP]; rfl
  have a1 : World.cell? w1 ⟨w.heap.size, 1, none⟩ = some (.int .i64 p.i) := by rw [Blk.cell KP]; rfl
  have b0 : World.cell? w1 ⟨w.heap.size + 1, 0, none⟩ = some (.int .i64 f.e) := by rw [Blk.cell KF]; rfl
  have b1 : World.cell? w1 ⟨w.heap.size + 1, 1, none⟩ = some (.int .i64 f.i) := by rw [Blk.cell KF]; rfl
  have hk1 := KF.lt
  have HKP := Lib.hid KP
  have HKF := Lib.hid KF
  have HB1 := Lib.hid B1
  have hs1 := B1.size
  clear hb1 KP KF B1
  cases bp with
  | false =>
    go_wp2_with fail
    go_ret
    exact ⟨by unfold coversB; rw [HBP.out]; rfl, HB1.out⟩
  | true =>
    go_wp2_with fail
    refine (HF.out _ HB1.out).mono ?_
    rintro e w2 ⟨rfl, hb2⟩
    have HB2 := Lib.hid (HB1.out.trans (hb2.mono hs1))
    have KP := HKP.out.below hb2
    have KF := HKF.out.below hb2
    clear a0 a1 b0 b1
    have a0 : World.cell? w2 ⟨w.heap.size, 0, none⟩ = some (.int .i64 p.e) := by rw [Blk.cell KP]; rfl
    have a1 : World.cell? w2 ⟨w.heap.size, 1, none⟩ = some (.int .i64 p.i) := by rw [Blk.cell KP]; rfl
    have b0 : World.cell? w2 ⟨w.heap.size + 1, 0, none⟩ = some (.int .i64 f.e) := by rw [Blk.cell KF]; rfl
    have b1 : World.cell? w2 ⟨w.heap.size + 1, 1, none⟩ = some (.int .i64 f.i) := by rw [Blk.cell KF]; rfl
    have hk2 := KF.lt
    clear hb2 KP KF
    cases bf with
    | false =>
      go_wp2_with fail
      go_ret
      exact ⟨by unfold coversB; rw [HBP.out, HBF.out]; rfl, HB2.out⟩
    | true =>
      go_wp2_with fail
      go_ret
      exact ⟨by unfold coversB; rw [HBP.out, HBF.out]; rfl, HB2.out⟩

def belowB (t : List Ep) (p a : Pos) : Bool := !posEq p.e p.i 0 0 && coversB t a p
set_option maxRecDepth 100000 in
set_option maxHeartbeats 4000000 in
theorem below_any (L : Lay) (s : St) (p a : Pos) (w : World) (h : StAt w L s) :
    Calls Try.prog 79 #[.pointer (some ⟨L.b, 0, none⟩), .agg (posCells p), .agg (posCells a)] w (BoolRes (belowB s.table p a) w) := by
  have hbl := h.blk.lt
  have c4 : World.cell? w ⟨L.b, 4, none⟩ = some (L.tv) := by rw [Blk.cell h.blk]; rfl
  obtain ⟨tA, tc, htv, _⟩ := own_sl h.tab
  have hcov : ∀ W : World, Below w.heap.size w W → Calls Try.prog 93 #[.slice tA s.table.length tc, .agg #[.int .i64 a.e, .int .i64 a.i], .agg #[.int .i64 p.e, .int .i64 p.i]] W (BoolRes (coversB s.table a p) W) := fun W hW => Covers_any _ s.table a p W (htv ▸ own_sl (h.below hW).tab)
  rw [htv] at c4
  have HCV := Lib.hid hcov
  have ne1 : L.b ≠ w.heap.size := by omega
  have ne2 : L.b ≠ w.heap.size + 1 := by omega
  have ne3 : w.heap.size ≠ L.b := by omega
  have ne4 : w.heap.size + 1 ≠ L.b := by omega
  have HBL : Hid (∀ W : World, Below w.heap.size w W → W.cell? ⟨L.b, 4, none⟩ = some (.slice tA s.table.length tc)) := Lib.hid fun W hW => by rw [hW.cell (p := ⟨L.b, 4, none⟩) hbl]; exact c4
  clear h htv hcov
  unfold posCells
  by_cases hz : posEq p.e p.i 0 0 = true
  · have HZ := Lib.hid hz
    go_enter Try.func79, Try.ntmps79
    go_wp2_with fail
    go_quiet (fail)
    go_wp2_with fail
    go_ret
    exact ⟨by unfold belowB; rw [HZ.out]; rfl, by (repeat' (first | with_reducible exact Below.refl _ _ | with_reducible refine below_drewN ?_ _ | with_reducible refine Below.drew ?_ | with_reducible refine Below.setCell ?_ (by first | exact Nat.le_refl _ | (simp; done) | (simp; omega) | omega) _ | with_reducible refine Below.alloc ?_ (by first | exact Nat.le_refl _ | (simp; done) | (simp; omega) | omega) _ | exact Below.refl _ _))⟩
  · have hz' : posEq p.e p.i 0 0 = false := by simpa using hz
    have HZ := Lib.hid hz'
    clear hz
    go_enter Try.func79, Try.ntmps79
    go_upto_region 1 with (fail)
    go_region_held3 (fun W => W.cell? ⟨L.b, 4, none⟩ = some (.slice tA s.table.length tc) ∧ W.cell? ⟨w.heap.size, 0, none⟩ = some (.int .i64 p.e) ∧ W.cell? ⟨w.heap.size, 1, none⟩ = some (.int .i64 p.i) ∧ W.cell? ⟨w.heap.size + 1, 0, none⟩ = some (.int .i64 a.e) ∧ W.cell? ⟨w.heap.size + 1, 1, none⟩ = some (.int .i64 a.i)) (first | go_keep)
      (first
      | (go_at_call 93; refine (HCV.out _ (by (repeat' (first | with_reducible exact Below.refl _ _ | with_reducible refine below_drewN ?_ _ | with_reducible refine Below.drew ?_ | with_reducible refine Below.setCell ?_ (by first | exact Nat.le_refl _ | (simp; done) | (simp; omega) | omega) _ | with_reducible refine Below.alloc ?_ (by first | exact Nat.le_refl _ | (simp; done) | (simp; omega) | omega) _ | exact Below.refl _ _)))).mono ?_; rintro e w2 ⟨rfl, hb2⟩; (have KP := (Blk.below (by ((repeat' (first | with_reducible exact Blk.new _ _ _ | with_reducible apply Blk.drewN | with_reducible apply Blk.drew | with_reducible apply Blk.set' | (with_reducible apply Blk.set_other (hp := by first | assumption | (simp; done) | (simp; omega) | omega)) | (with_reducible apply Blk.new'; focus (first | (simp; done) | (simp; omega))) | with_reducible apply Blk.alloc)) <;> rfl) : Blk _ w.heap.size (posCells p) 33) hb2)); (have KA := (Blk.below (by ((repeat' (first | with_reducible exact Blk.new _ _ _ | with_reducible apply Blk.drewN | with_reducible apply Blk.drew | with_reducible apply Blk.set' | (with_reducible apply Blk.set_other (hp := by first | assumption | (simp; done) | (simp; omega) | omega)) | (with_reducible apply Blk.new'; focus (first | (simp; done) | (simp; omega))) | with_reducible apply Blk.alloc)) <;> rfl) : Blk _ (w.heap.size + 1) (posCells a) 33) hb2)); (have B2 : Below w.heap.size w w2 := (by (repeat' (first | with_reducible exact Below.refl _ _ | with_reducible refine below_drewN ?_ _ | with_reducible refine Below.drew ?_ | with_reducible refine Below.setCell ?_ (by first | exact Nat.le_refl _ | (simp; done) | (simp; omega) | omega) _ | with_reducible refine Below.alloc ?_ (by first | exact Nat.le_refl _ | (simp; done) | (simp; omega) | omega) _ | exact Below.refl _ _)) : Below w.heap.size w _).trans (hb2.mono (by simp; try omega))); (have HB2 := Lib.hid B2); clear c4; (have c4 := HBL.out w2 B2); (have d0 : World.cell? w2 ⟨w.heap.size, 0, none⟩ = some (.int .i64 p.e) := by rw [Blk.cell KP]; rfl); (have d1 : World.cell? w2 ⟨w.heap.size, 1, none⟩ = some (.int .i64 p.i) := by rw [Blk.cell KP]; rfl); (have b0 : World.cell? w2 ⟨w.heap.size + 1, 0, none⟩ = some (.int .i64 a.e) := by rw [Blk.cell KA]; rfl); (have b1 : World.cell? w2 ⟨w.heap.size + 1, 1, none⟩ = some (.int .i64 a.i) := by rw [Blk.cell KA]; rfl); clear KP KA hb2 B2))
    all_goals
      go_wp2_with fail
      go_ret
      exact ⟨by unfold belowB; rw [HZ.out]; rfl, HB2.out⟩

end Go.Proofs.Ytedcdjlpogpgbaa

/- A map from positions to true: what is looked up, what is laid down. -/
set_option linter.unusedVariables false
set_option linter.unusedSimpArgs false
namespace Go.Proofs.Ytedcdjlpogpgbaa
open Go.RowKit
open Go.ChangeMaps (setBlock)

def isIn (p : Pos) (l : List Pos) : Bool := l.any fun q => posEq p.e p.i q.e q.i
def posKV (p : Pos) : Value × Value := (.agg #[.int .i64 p.e, .int .i64 p.i], .bool true)
/-- Block b is a map in which just these positions are true. -/
def PM (w : World) (b : Nat) (l : List Pos) : Prop := MpAt w b (l.map posKV)
theorem checkKey_pos (b : Bool) (e i : Int) (w : World) : (Instr.checkKey b 10000 33 (.agg #[.int .i64 e, .int .i64 i])).run Try.prog w = .ok () w := by
  rw [show (10000 : Nat) = 9998 + 1 + 1 from rfl]
  kernel_rfl
theorem findAsking_pos (p : Pos) (w : World) : ∀ (es : List MapEntry) (l : List Pos) (i : Nat), es.map (fun e => (e.key, e.val)) = l.map posKV →
    ∃ r, (Instr.findAsking 33 (.agg #[.int .i64 p.e, .int .i64 p.i]) es i).run Try.prog w = .ok r w ∧ r.map (·.2) = if isIn p l = true then some (.bool true) else none
  | [], [], i, _ => ⟨none, rfl, rfl⟩
  | [], q :: l, i, h => by simp at h
  | e :: es, [], i, h => by simp at h
  | e :: es, q :: l, i, h => by
    simp only [List.map_cons, List.cons.injEq, posKV, Prod.mk.injEq] at h
    obtain ⟨⟨h1, h2⟩, h3⟩ := h
    have heq : (Op.equal 33 (.agg #[.int .i64 p.e, .int .i64 p.i]) (.agg #[.int .i64 q.e, .int .i64 q.i])).run Try.prog w = .ok (posEq p.e p.i q.e q.i) w := by
      unfold Op.equal Op.maxDepth
      rw [show (10000 : Nat) = 9998 + 2 from rfl]; exact eqIn_pos _ _ _ _ _ _
    obtain ⟨r, hr1, hr2⟩ := findAsking_pos p w es l (i + 1) h3
    unfold Instr.findAsking
    by_cases hq : posEq p.e p.i q.e q.i = true
    · refine ⟨some (i, e.val), ?_, ?_⟩
      · simp [Sem.run_bind, h1, heq, hq]
      · simp [isIn, hq, h2]
    · refine ⟨r, ?_, ?_⟩
      · simp [Sem.run_bind, h1, heq, hq, hr1]
      · rw [hr2]; simp [isIn, hq]
theorem findKey_pos (p : Pos) (w : World) (es : List MapEntry) (l : List Pos) (h : es.map (fun e => (e.key, e.val)) = l.map posKV) :
    ∃ r, (Instr.findKey 33 (.agg #[.int .i64 p.e, .int .i64 p.i]) es).run Try.prog w = .ok r w ∧ r.map (·.2) = if isIn p l = true then some (.bool true) else none := by
  cases es with
  | nil =>
    cases l with
    | nil => exact ⟨none, by simp [Instr.findKey, Sem.run_bind, run_underlying Try.underlying33, Instr.findNow], rfl⟩
    | cons q l => simp at h
  | cons e es =>
    obtain ⟨r, h1, h2⟩ := findAsking_pos p w (e :: es) l 0 h
    refine ⟨r, ?_, h2⟩
    simp [Instr.findKey, Sem.run_bind, run_underlying Try.underlying33, Instr.findNow, Instr.sameNow, h1]
theorem run_lookup_pos {w : World} {b : Nat} {l : List Pos} (h : PM w b l) (p : Pos) : (Instr.lookup 142 (.map (some b)) (.agg #[.int .i64 p.e, .int .i64 p.i]) false).run Try.prog w = .ok (.bool (isIn p l)) w := by
  obtain ⟨es, clock, hb, hl, hbn, ho⟩ := h
  obtain ⟨r, h1, h2⟩ := findKey_pos p w es.toList l hl
  have hg : (getObj b).run Try.prog w = .ok (.map es clock) w := run_getObj_map _ b es clock hb
  have hc := checkKey_pos es.isEmpty p.e p.i w
  have hz : (zeroValue 4).run Try.prog w = .ok (.bool false) w := by kernel_rfl
  cases r with
  | none =>
    have : isIn p l = false := by
      cases hi : isIn p l with
      | false => rfl
      | true => rw [hi] at h2; simp at h2
    simp [Instr.lookup, Sem.run_bind, run_underlying Try.underlying142, hg, hc, h1, hz, this]
  | some q =>
    have : isIn p l = true ∧ q.2 = .bool true := by
      cases hi : isIn p l with
      | false => rw [hi] at h2; simp at h2
      | true => rw [hi] at h2; simpa using h2
    simp [Instr.lookup, Sem.run_bind, run_underlying Try.underlying142, hg, hc, h1, this.1, this.2]
theorem run_update_pos {w : World} {b : Nat} {l : List Pos} (h : PM w b l) (p : Pos) (hn : isIn p l = false) :
    ∃ o, (Instr.mapUpdate 142 (.map (some b)) (.agg #[.int .i64 p.e, .int .i64 p.i]) (.bool true)).run Try.prog w = .ok () (setBlock w b o) ∧ PM (setBlock w b o) b (l ++ [p]) := by
  have hlt := h.lt
  obtain ⟨es, clock, hb, hm⟩ := h
  obtain ⟨r, h1, h2⟩ := findKey_pos p w es.toList l hm.list
  have hg : (getObj b).run Try.prog w = .ok (.map es clock) w := run_getObj_map _ b es clock hb
  have hc := checkKey_pos false p.e p.i w
  have hset : ∀ o, (setObj b o).run Try.prog w = .ok () (setBlock w b o) := by intro o; simp [setObj, Sem.run, hb, setBlock]
  rw [hn] at h2
  have hr : r = none := by cases r with | none => rfl | some q => simp at h2
  subst hr
  refine ⟨.map (es.push { key := .agg #[.int .i64 p.e, .int .i64 p.i], val := .bool true, born := clock }) (clock + 1), ?_, ?_⟩
  · simp [Instr.mapUpdate, Sem.run_bind, run_underlying Try.underlying142, hg, hc, h1, hset]
  · refine ⟨_, _, get_setBlock _ hlt, ?_⟩
    rw [List.map_append]
    exact mpOf_push hm _ _

end Go.Proofs.Ytedcdjlpogpgbaa
