/- Layer 19: a ship in memory; other, New, Known, Told. -/
import Derived.Test.YtedcdjlpogpgbaaTellsA
import Derived.Test.YtedcdjlpogpgbaaAwake
set_option linter.unusedVariables false
set_option linter.unusedSimpArgs false
namespace Go.Proofs.Ytedcdjlpogpgbaa
open Go.RowKit

structure Far where
  is : Bool
  p : Pos
structure Shp where
  me : Int
  cfg : Int
  f0 : Far
  f1 : Far
  f2 : Far
  f3 : Far
  f4 : Far
def noFar : Far := ⟨false, ⟨0, 0⟩⟩
def newShip (me : Int) : Shp := ⟨me, 0, noFar, noFar, noFar, noFar, noFar⟩
def shipVal (S : Shp) : Array Value := #[.int .i64 S.me, .int .i64 S.cfg, .bool S.f0.is, .int .i64 S.f0.p.e, .int .i64 S.f0.p.i, .bool S.f1.is, .int .i64 S.f1.p.e, .int .i64 S.f1.p.i, .bool S.f2.is, .int .i64 S.f2.p.e, .int .i64 S.f2.p.i, .bool S.f3.is, .int .i64 S.f3.p.e, .int .i64 S.f3.p.i, .bool S.f4.is, .int .i64 S.f4.p.e, .int .i64 S.f4.p.i]
def Shp.far (S : Shp) (n : Int) : Far := if n = 1 then S.f1 else if n = 2 then S.f2 else if n = 3 then S.f3 else S.f4
def Shp.put (S : Shp) (n : Int) (x : Far) : Shp := if n = 1 then { S with f1 := x } else if n = 2 then { S with f2 := x } else if n = 3 then { S with f3 := x } else { S with f4 := x }
def otherB (me n : Int) : Bool := decide (1 ≤ n ∧ n ≤ 4 ∧ n ≠ me)
def ShipAt (w : World) (b : Nat) (S : Shp) : Prop := Blk w b (shipVal S) 107

set_option maxRecDepth 100000 in
set_option maxHeartbeats 4000000 in
theorem other_any (b : Nat) (S : Shp) (n : Int) (w : World) (h : ShipAt w b S) :
    Calls Try.prog 58 #[.pointer (some ⟨b, 0, none⟩), .int .i64 n] w fun e w' => e = .returned (.bool (otherB S.me n)) ∧ Below w.heap.size w w' := by
  have hbl := Blk.lt h
  have c0 : World.cell? w ⟨b, 0, none⟩ = some (.int .i64 S.me) := by rw [Blk.cell h]; rfl
  clear h
  obtain ⟨r, hr⟩ : ∃ r, otherB S.me n = r := ⟨_, rfl⟩
  rw [hr]
  unfold otherB at hr
  have HR := Lib.hid hr
  clear hr
  go_enter Try.func58, Try.ntmps58
  by_cases h1 : 1 ≤ n
  · have e1 : decide (1 ≤ n) = true := by simp [h1]
    by_cases h2 : n ≤ 4
    · have e2 : decide (n ≤ 4) = true := by simp [h2]
      by_cases h3 : n = S.me
      · have hr : r = false := by rw [← HR.out]; simp [h3]
        subst hr
        subst h3
        go_wp2_with fail
        go_ret
        refine ⟨by first | rfl | simp, by (repeat' (first | with_reducible exact Below.refl _ _ | with_reducible refine below_drewN ?_ _ | with_reducible refine Below.drew ?_ | with_reducible refine Below.setCell ?_ (by first | exact Nat.le_refl _ | (simp; done) | (simp; omega) | omega) _ | with_reducible refine Below.alloc ?_ (by first | exact Nat.le_refl _ | (simp; done) | (simp; omega) | omega) _ | exact Below.refl _ _))⟩
      · have hr : r = true := by rw [← HR.out]; simp [h1, h2, h3]
        subst hr
        have e3 : (n != S.me) = true := by simp [h3]
        go_wp2_with fail
        go_ret
        refine ⟨by first | rfl | simp, by (repeat' (first | with_reducible exact Below.refl _ _ | with_reducible refine below_drewN ?_ _ | with_reducible refine Below.drew ?_ | with_reducible refine Below.setCell ?_ (by first | exact Nat.le_refl _ | (simp; done) | (simp; omega) | omega) _ | with_reducible refine Below.alloc ?_ (by first | exact Nat.le_refl _ | (simp; done) | (simp; omega) | omega) _ | exact Below.refl _ _))⟩
    · have e2 : decide (n ≤ 4) = false := by simp; omega
      have hr : r = false := by rw [← HR.out]; simp [h2]
      subst hr
      go_wp2_with fail
      go_ret
      refine ⟨by first | rfl | simp, by (repeat' (first | with_reducible exact Below.refl _ _ | with_reducible refine below_drewN ?_ _ | with_reducible refine Below.drew ?_ | with_reducible refine Below.setCell ?_ (by first | exact Nat.le_refl _ | (simp; done) | (simp; omega) | omega) _ | with_reducible refine Below.alloc ?_ (by first | exact Nat.le_refl _ | (simp; done) | (simp; omega) | omega) _ | exact Below.refl _ _))⟩
  · have e1 : decide (1 ≤ n) = false := by simp; omega
    have hr : r = false := by rw [← HR.out]; simp [h1]
    subst hr
    go_wp2_with fail
    go_ret
    refine ⟨by first | rfl | simp, by (repeat' (first | with_reducible exact Below.refl _ _ | with_reducible refine below_drewN ?_ _ | with_reducible refine Below.drew ?_ | with_reducible refine Below.setCell ?_ (by first | exact Nat.le_refl _ | (simp; done) | (simp; omega) | omega) _ | with_reducible refine Below.alloc ?_ (by first | exact Nat.le_refl _ | (simp; done) | (simp; omega) | omega) _ | exact Below.refl _ _))⟩

set_option maxRecDepth 100000 in
set_option maxHeartbeats 4000000 in
theorem New_ship (me : Int) (w : World) :
    Calls Try.prog 38 #[.int .i64 me] w fun e w' => e = .returned (.pointer (some ⟨w.heap.size, 0, none⟩)) ∧ ShipAt w' w.heap.size (newShip me) ∧ Below w.heap.size w w' := by
  go_enter Try.func38, Try.ntmps38
  go_wp2_with fail
  go_ret
  refine ⟨rfl, ?_, by (repeat' (first | with_reducible exact Below.refl _ _ | with_reducible refine below_drewN ?_ _ | with_reducible refine Below.drew ?_ | with_reducible refine Below.setCell ?_ (by first | exact Nat.le_refl _ | (simp; done) | (simp; omega) | omega) _ | with_reducible refine Below.alloc ?_ (by first | exact Nat.le_refl _ | (simp; done) | (simp; omega) | omega) _ | exact Below.refl _ _))⟩
  unfold ShipAt shipVal newShip noFar
  ((repeat' (first | with_reducible exact Blk.new _ _ _ | with_reducible apply Blk.drewN | with_reducible apply Blk.drew | with_reducible apply Blk.set' | (with_reducible apply Blk.set_other (hp := by first | assumption | (simp; done) | (simp; omega) | omega)) | (with_reducible apply Blk.new'; focus (first | (simp; done) | (simp; omega))) | with_reducible apply Blk.alloc)) <;> rfl)

def knownF (S : Shp) (n c : Int) : Far := if otherB S.me n = true ∧ c = S.cfg ∧ 1 ≤ c then S.far n else noFar
set_option maxRecDepth 100000 in
set_option maxHeartbeats 4000000 in
theorem Known_any (b : Nat) (S : Shp) (n c : Int) (w : World) (h : ShipAt w b S) :
    Calls Try.prog 59 #[.pointer (some ⟨b, 0, none⟩), .int .i64 n, .int .i64 c] w fun e w' => e = .returned (.tuple #[.agg (posCells (knownF S n c).p), .bool (knownF S n c).is]) ∧ Below w.heap.size w w' := by
  have hbl := Blk.lt h
  have HS := Lib.hid h
  have ho := other_any b S n
  obtain ⟨r, hr⟩ : ∃ r, otherB S.me n = r := ⟨_, rfl⟩
  rw [hr] at ho
  have HO := Lib.hid ho
  have HR := Lib.hid hr
  obtain ⟨x, hx⟩ : ∃ x, knownF S n c = x := ⟨_, rfl⟩
  rw [hx]
  unfold knownF at hx
  have HX := Lib.hid hx
  clear hr ho h hx
  go_enter Try.func59, Try.ntmps59
  go_wp2_with fail
  refine (HO.out _ (by unfold ShipAt; ((repeat' (first | with_reducible exact HS.out | with_reducible exact Blk.new _ _ _ | with_reducible apply Blk.drewN | with_reducible apply Blk.drew | with_reducible apply Blk.set' | (with_reducible apply Blk.set_other (hp := by first | assumption | (simp; done) | (simp; omega) | omega)) | (with_reducible apply Blk.new'; focus (first | (simp; done) | (simp; omega))) | with_reducible apply Blk.alloc | exact HS.out)) <;> rfl))).mono ?_
  rintro e w1 ⟨rfl, hb1⟩
  have hz := (Blk.new w (posCells zeroPos) 33).below hb1
  have hB := Lib.hid (((Below.refl _ w).alloc (Nat.le_refl _) (.cells (posCells zeroPos) 33)).trans (hb1.mono (by simp)))
  have HS1 := Lib.hid (Blk.below HS.out hB.out)
  have hz1 := hz.lt
  have hb2 := HS1.out.lt
  have hnb : b ≠ w.heap.size := by omega
  have hnb' : w.heap.size ≠ b := by omega
  have z0 : World.cell? w1 ⟨w.heap.size, 0, none⟩ = some (.int .i64 0) := by rw [Blk.cell hz]; rfl
  have z1 : World.cell? w1 ⟨w.heap.size, 1, none⟩ = some (.int .i64 0) := by rw [Blk.cell hz]; rfl
  have y0 := Blk.free hz 0
  have y1 := Blk.free hz 1
  have HZ := Lib.hid hz
  clear hb1 hz
  cases r with
  | false =>
    have hx : x = noFar := by rw [← HX.out, HR.out]; rfl
    subst hx
    go_wp2_with fail
    refine ret_cell_tmp rfl rfl (loads_blk (T := 33) (cs := posCells zeroPos) pos_agg pos_size ?_ rfl) rfl ⟨by rfl, ?_⟩
    · ((repeat' (first | with_reducible exact HZ.out | with_reducible exact Blk.new _ _ _ | with_reducible apply Blk.drewN | with_reducible apply Blk.drew | with_reducible apply Blk.set' | (with_reducible apply Blk.set_other (hp := by first | assumption | (simp; done) | (simp; omega) | omega)) | (with_reducible apply Blk.new'; focus (first | (simp; done) | (simp; omega))) | with_reducible apply Blk.alloc | exact HZ.out)) <;> rfl)
    · (repeat' (first | with_reducible exact hB.out | with_reducible exact Below.refl _ _ | with_reducible refine below_drewN ?_ _ | with_reducible refine Below.drew ?_ | with_reducible refine Below.setCell ?_ (by first | exact Nat.le_refl _ | (simp; done) | (simp; omega) | omega) _ | with_reducible refine Below.alloc ?_ (by first | exact Nat.le_refl _ | (simp; done) | (simp; omega) | omega) _ | exact Below.refl _ _ | exact hB.out))
  | true =>
    have c1 : World.cell? w1 ⟨b, 1, none⟩ = some (.int .i64 S.cfg) := by rw [HS1.out.cell]; rfl
    by_cases h1 : c = S.cfg
    · subst h1
      by_cases h2 : 1 ≤ S.cfg
      · have e2 : decide (S.cfg < 1) = false := by rw [decide_eq_false_iff_not]; omega
        have hx : x = S.far n := by rw [← HX.out, HR.out, if_pos ⟨rfl, rfl, h2⟩]
        have hn : n = 1 ∨ n = 2 ∨ n = 3 ∨ n = 4 := by have := HR.out; unfold otherB at this; simp at this; omega
        rcases hn with rfl | rfl | rfl | rfl
        · obtain rfl : x = S.f1 := hx
          have c5 : World.cell? w1 ⟨b, 5, none⟩ = some (.bool S.f1.is) := by rw [Blk.cell HS1.out]; rfl
          have c6 : World.cell? w1 ⟨b, 6, none⟩ = some (.int .i64 S.f1.p.e) := by rw [Blk.cell HS1.out]; rfl
          have c7 : World.cell? w1 ⟨b, 7, none⟩ = some (.int .i64 S.f1.p.i) := by rw [Blk.cell HS1.out]; rfl
          go_upto_region 3 with (fail)
          go_region
          go_wp2_with fail
          refine ret_cell_tmp rfl rfl (loads_blk (T := 33) (cs := posCells S.f1.p) pos_agg pos_size ?_ rfl) rfl ⟨by rfl, ?_⟩
          · ((repeat' (first | with_reducible exact HZ.out | with_reducible exact Blk.new _ _ _ | with_reducible apply Blk.drewN | with_reducible apply Blk.drew | with_reducible apply Blk.set' | (with_reducible apply Blk.set_other (hp := by first | assumption | (simp; done) | (simp; omega) | omega)) | (with_reducible apply Blk.new'; focus (first | (simp; done) | (simp; omega))) | with_reducible apply Blk.alloc | exact HZ.out)) <;> rfl)
          · (repeat' (first | with_reducible exact hB.out | with_reducible exact Below.refl _ _ | with_reducible refine below_drewN ?_ _ | with_reducible refine Below.drew ?_ | with_reducible refine Below.setCell ?_ (by first | exact Nat.le_refl _ | (simp; done) | (simp; omega) | omega) _ | with_reducible refine Below.alloc ?_ (by first | exact Nat.le_refl _ | (simp; done) | (simp; omega) | omega) _ | exact Below.refl _ _ | exact hB.out))
        · obtain rfl : x = S.f2 := hx
          have c8 : World.cell? w1 ⟨b, 8, none⟩ = some (.bool S.f2.is) := by rw [Blk.cell HS1.out]; rfl
          have c9 : World.cell? w1 ⟨b, 9, none⟩ = some (.int .i64 S.f2.p.e) := by rw [Blk.cell HS1.out]; rfl
          have c10 : World.cell? w1 ⟨b, 10, none⟩ = some (.int .i64 S.f2.p.i) := by rw [Blk.cell HS1.out]; rfl
          go_upto_region 3 with (fail)
          go_region
          go_wp2_with fail
          refine ret_cell_tmp rfl rfl (loads_blk (T := 33) (cs := posCells S.f2.p) pos_agg pos_size ?_ rfl) rfl ⟨by rfl, ?_⟩
          · ((repeat' (first | with_reducible exact HZ.out | with_reducible exact Blk.new _ _ _ | with_reducible apply Blk.drewN | with_reducible apply Blk.drew | with_reducible apply Blk.set' | (with_reducible apply Blk.set_other (hp := by first | assumption | (simp; done) | (simp; omega) | omega)) | (with_reducible apply Blk.new'; focus (first | (simp; done) | (simp; omega))) | with_reducible apply Blk.alloc | exact HZ.out)) <;> rfl)
          · (repeat' (first | with_reducible exact hB.out | with_reducible exact Below.refl _ _ | with_reducible refine below_drewN ?_ _ | with_reducible refine Below.drew ?_ | with_reducible refine Below.setCell ?_ (by first | exact Nat.le_refl _ | (simp; done) | (simp; omega) | omega) _ | with_reducible refine Below.alloc ?_ (by first | exact Nat.le_refl _ | (simp; done) | (simp; omega) | omega) _ | exact Below.refl _ _ | exact hB.out))
        · obtain rfl : x = S.f3 := hx
          have c11 : World.cell? w1 ⟨b, 11, none⟩ = some (.bool S.f3.is) := by rw [Blk.cell HS1.out]; rfl
          have c12 : World.cell? w1 ⟨b, 12, none⟩ = some (.int .i64 S.f3.p.e) := by rw [Blk.cell HS1.out]; rfl
          have c13 : World.cell? w1 ⟨b, 13, none⟩ = some (.int .i64 S.f3.p.i) := by rw [Blk.cell HS1.out]; rfl
          go_upto_region 3 with (fail)
          go_region
          go_wp2_with fail
          refine ret_cell_tmp rfl rfl (loads_blk (T := 33) (cs := posCells S.f3.p) pos_agg pos_size ?_ rfl) rfl ⟨by rfl, ?_⟩
          · ((repeat' (first | with_reducible exact HZ.out | with_reducible exact Blk.new _ _ _ | with_reducible apply Blk.drewN | with_reducible apply Blk.drew | with_reducible apply Blk.set' | (with_reducible apply Blk.set_other (hp := by first | assumption | (simp; done) | (simp; omega) | omega)) | (with_reducible apply Blk.new'; focus (first | (simp; done) | (simp; omega))) | with_reducible apply Blk.alloc | exact HZ.out)) <;> rfl)
          · (repeat' (first | with_reducible exact hB.out | with_reducible exact Below.refl _ _ | with_reducible refine below_drewN ?_ _ | with_reducible refine Below.drew ?_ | with_reducible refine Below.setCell ?_ (by first | exact Nat.le_refl _ | (simp; done) | (simp; omega) | omega) _ | with_reducible refine Below.alloc ?_ (by first | exact Nat.le_refl _ | (simp; done) | (simp; omega) | omega) _ | exact Below.refl _ _ | exact hB.out))
        · obtain rfl : x = S.f4 := hx
          have c14 : World.cell? w1 ⟨b, 14, none⟩ = some (.bool S.f4.is) := by rw [Blk.cell HS1.out]; rfl
          have c15 : World.cell? w1 ⟨b, 15, none⟩ = some (.int .i64 S.f4.p.e) := by rw [Blk.cell HS1.out]; rfl
          have c16 : World.cell? w1 ⟨b, 16, none⟩ = some (.int .i64 S.f4.p.i) := by rw [Blk.cell HS1.out]; rfl
          go_upto_region 3 with (fail)
          go_region
          go_wp2_with fail
          refine ret_cell_tmp rfl rfl (loads_blk (T := 33) (cs := posCells S.f4.p) pos_agg pos_size ?_ rfl) rfl ⟨by rfl, ?_⟩
          · ((repeat' (first | with_reducible exact HZ.out | with_reducible exact Blk.new _ _ _ | with_reducible apply Blk.drewN | with_reducible apply Blk.drew | with_reducible apply Blk.set' | (with_reducible apply Blk.set_other (hp := by first | assumption | (simp; done) | (simp; omega) | omega)) | (with_reducible apply Blk.new'; focus (first | (simp; done) | (simp; omega))) | with_reducible apply Blk.alloc | exact HZ.out)) <;> rfl)
          · (repeat' (first | with_reducible exact hB.out | with_reducible exact Below.refl _ _ | with_reducible refine below_drewN ?_ _ | with_reducible refine Below.drew ?_ | with_reducible refine Below.setCell ?_ (by first | exact Nat.le_refl _ | (simp; done) | (simp; omega) | omega) _ | with_reducible refine Below.alloc ?_ (by first | exact Nat.le_refl _ | (simp; done) | (simp; omega) | omega) _ | exact Below.refl _ _ | exact hB.out))
      · have e2 : decide (S.cfg < 1) = true := by rw [decide_eq_true_eq]; omega
        have hx : x = noFar := by rw [← HX.out, if_neg (fun h => h2 h.2.2)]
        subst hx
        go_wp2_with fail
        refine ret_cell_tmp rfl rfl (loads_blk (T := 33) (cs := posCells zeroPos) pos_agg pos_size ?_ rfl) rfl ⟨by rfl, ?_⟩
        · ((repeat' (first | with_reducible exact HZ.out | with_reducible exact Blk.new _ _ _ | with_reducible apply Blk.drewN | with_reducible apply Blk.drew | with_reducible apply Blk.set' | (with_reducible apply Blk.set_other (hp := by first | assumption | (simp; done) | (simp; omega) | omega)) | (with_reducible apply Blk.new'; focus (first | (simp; done) | (simp; omega))) | with_reducible apply Blk.alloc | exact HZ.out)) <;> rfl)
        · (repeat' (first | with_reducible exact hB.out | with_reducible exact Below.refl _ _ | with_reducible refine below_drewN ?_ _ | with_reducible refine Below.drew ?_ | with_reducible refine Below.setCell ?_ (by first | exact Nat.le_refl _ | (simp; done) | (simp; omega) | omega) _ | with_reducible refine Below.alloc ?_ (by first | exact Nat.le_refl _ | (simp; done) | (simp; omega) | omega) _ | exact Below.refl _ _ | exact hB.out))
    · have e1 : (c != S.cfg) = true := by simp [h1]
      have hx : x = noFar := by rw [← HX.out, if_neg (fun h => h1 h.2.1)]
      subst hx
      go_wp2_with fail
      refine ret_cell_tmp rfl rfl (loads_blk (T := 33) (cs := posCells zeroPos) pos_agg pos_size ?_ rfl) rfl ⟨by rfl, ?_⟩
      · ((repeat' (first | with_reducible exact HZ.out | with_reducible exact Blk.new _ _ _ | with_reducible apply Blk.drewN | with_reducible apply Blk.drew | with_reducible apply Blk.set' | (with_reducible apply Blk.set_other (hp := by first | assumption | (simp; done) | (simp; omega) | omega)) | (with_reducible apply Blk.new'; focus (first | (simp; done) | (simp; omega))) | with_reducible apply Blk.alloc | exact HZ.out)) <;> rfl)
      · (repeat' (first | with_reducible exact hB.out | with_reducible exact Below.refl _ _ | with_reducible refine below_drewN ?_ _ | with_reducible refine Below.drew ?_ | with_reducible refine Below.setCell ?_ (by first | exact Nat.le_refl _ | (simp; done) | (simp; omega) | omega) _ | with_reducible refine Below.alloc ?_ (by first | exact Nat.le_refl _ | (simp; done) | (simp; omega) | omega) _ | exact Below.refl _ _ | exact hB.out))

end Go.Proofs.Ytedcdjlpogpgbaa
