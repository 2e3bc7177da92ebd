/- Layer 19: Told (printed by toldgen.py). -/
import Derived.Test.YtedcdjlpogpgbaaShip
set_option linter.unusedVariables false
set_option linter.unusedSimpArgs false
namespace Go.Proofs.Ytedcdjlpogpgbaa
open Go.RowKit

def toldOk (S : Shp) (n c : Int) : Bool := otherB S.me n && decide (1 ≤ c) && decide (S.cfg ≤ c)
def toldF (S : Shp) (n c : Int) (p : Pos) : Shp :=
  if toldOk S n c = true then
    (if S.cfg < c then Shp.put { newShip S.me with cfg := c } n ⟨true, p⟩ else if (S.far n).is = true ∧ p.i ≤ (S.far n).p.i then S else S.put n ⟨true, p⟩)
  else S
def ToldShip (b : Nat) (S : Shp) (n c : Int) (p : Pos) (w : World) (e : Ending) (w' : World) : Prop :=
  e = .returned (.bool (toldOk S n c)) ∧ ShipAt w' b (toldF S n c p) ∧ Frm (fun k => k = b) w w'
set_option maxRecDepth 100000 in
set_option maxHeartbeats 4000000 in
theorem Told_ship (b : Nat) (S : Shp) (n c : Int) (p : Pos) (w : World) (h : ShipAt w b S) :
    Calls Try.prog 40 #[.pointer (some ⟨b, 0, none⟩), .int .i64 n, .int .i64 c, .agg (posCells p)] w (ToldShip b S n c p w) := by
  have hbl := Blk.lt h
  have HS := Lib.hid h
  have ho := other_any b S n
  obtain ⟨r, hr⟩ : ∃ r, otherB S.me n = r := ⟨_, rfl⟩
  rw [hr] at ho
  have HO := Lib.hid ho
  have HR := Lib.hid hr
  obtain ⟨x, hx⟩ : ∃ x, toldOk S n c = x := ⟨_, rfl⟩
  obtain ⟨S', hS'⟩ : ∃ S', toldF S n c p = S' := ⟨_, rfl⟩
  unfold ToldShip
  rw [hx, hS']
  unfold toldF at hS'
  rw [hx] at hS'
  unfold toldOk at hx
  rw [hr] at hx
  have HX := Lib.hid hx
  have HS' := Lib.hid hS'
  clear hr ho h hx hS'
  unfold posCells
  go_enter Try.func40, Try.ntmps40
  go_wp2_with fail
  refine (HO.out _ (by unfold ShipAt; ((repeat' (first | with_reducible exact HS.out | with_reducible exact Blk.new _ _ _ | with_reducible apply Blk.drewN | with_reducible apply Blk.drew | with_reducible apply Blk.set' | (with_reducible apply Blk.set_other (hp := by first | assumption | (simp; done) | (simp; omega) | omega)) | (with_reducible apply Blk.new'; focus (first | (simp; done) | (simp; omega))) | with_reducible apply Blk.alloc | exact HS.out)) <;> rfl))).mono ?_
  rintro e w1 ⟨rfl, hb1⟩
  have hz := (Blk.new w (posCells p) 33).below hb1
  have hB := Lib.hid (((Below.refl _ w).alloc (Nat.le_refl _) (.cells (posCells p) 33)).trans (hb1.mono (by simp)))
  have HF := Lib.hid (Frm.ofBelow (F := fun k => k = b) hB.out)
  have HS1 := Lib.hid (Blk.below HS.out hB.out)
  have hz1 := hz.lt
  have hb2 := HS1.out.lt
  have hnb : b ≠ w.heap.size := by omega
  have hnb' : w.heap.size ≠ b := by omega
  have hs1 := hB.out.size
  have hnb1 : b ≠ w1.heap.size := by omega
  have hnb1' : w1.heap.size ≠ b := by omega
  have hnz1 : w.heap.size ≠ w1.heap.size := by omega
  have hnz1' : w1.heap.size ≠ w.heap.size := by omega
  have z0 : World.cell? w1 ⟨w.heap.size, 0, none⟩ = some (.int .i64 p.e) := by rw [Blk.cell hz]; rfl
  have z1 : World.cell? w1 ⟨w.heap.size, 1, none⟩ = some (.int .i64 p.i) := by rw [Blk.cell hz]; rfl
  have y0 := Blk.free hz 0
  have y1 := Blk.free hz 1
  have HZ := Lib.hid hz
  clear hb1 hz
  cases r with
  | false =>
    have hx : x = false := by rw [← HX.out]; rfl
    subst hx
    have hS : S = S' := by rw [← HS'.out, if_neg (by simp)]
    subst hS
    go_wp2_with fail
    go_ret
    refine ⟨rfl, ?_, ?_⟩
    · unfold ShipAt; ((repeat' (first | with_reducible exact HS1.out | with_reducible exact Blk.new _ _ _ | with_reducible apply Blk.drewN | with_reducible apply Blk.drew | with_reducible apply Blk.set' | (with_reducible apply Blk.set_other (hp := by first | assumption | (simp; done) | (simp; omega) | omega)) | (with_reducible apply Blk.new'; focus (first | (simp; done) | (simp; omega))) | with_reducible apply Blk.alloc | exact HS1.out)) <;> rfl)
    · (repeat' (first | with_reducible exact HF.out | with_reducible exact Frm.refl _ _ | with_reducible refine Frm.drewN ?_ _ | with_reducible refine Frm.drew ?_ | with_reducible refine Frm.setCell ?_ (by first | exact Or.inl rfl | exact Or.inr (Nat.le_refl _) | (simp; done) | (simp; omega)) _ | with_reducible refine Frm.alloc ?_ _ | exact Frm.refl _ _ | exact HF.out))
  | true =>
    have hn : n = 1 ∨ n = 2 ∨ n = 3 ∨ n = 4 := by have := HR.out; unfold otherB at this; simp at this; omega
    have c1 : World.cell? w1 ⟨b, 1, none⟩ = some (.int .i64 S.cfg) := by rw [HS1.out.cell]; rfl
    by_cases h1 : c < 1
    · have e1 : decide (c < 1) = true := by rw [decide_eq_true_eq]; omega
      have hx : x = false := by rw [← HX.out]; simp; omega
      subst hx
      have hS : S = S' := by rw [← HS'.out, if_neg (by simp)]
      subst hS
      go_wp2_with fail
      go_ret
      refine ⟨rfl, ?_, ?_⟩
      · unfold ShipAt; ((repeat' (first | with_reducible exact HS1.out | with_reducible exact Blk.new _ _ _ | with_reducible apply Blk.drewN | with_reducible apply Blk.drew | with_reducible apply Blk.set' | (with_reducible apply Blk.set_other (hp := by first | assumption | (simp; done) | (simp; omega) | omega)) | (with_reducible apply Blk.new'; focus (first | (simp; done) | (simp; omega))) | with_reducible apply Blk.alloc | exact HS1.out)) <;> rfl)
      · (repeat' (first | with_reducible exact HF.out | with_reducible exact Frm.refl _ _ | with_reducible refine Frm.drewN ?_ _ | with_reducible refine Frm.drew ?_ | with_reducible refine Frm.setCell ?_ (by first | exact Or.inl rfl | exact Or.inr (Nat.le_refl _) | (simp; done) | (simp; omega)) _ | with_reducible refine Frm.alloc ?_ _ | exact Frm.refl _ _ | exact HF.out))
    have e1 : decide (c < 1) = false := by rw [decide_eq_false_iff_not]; omega
    by_cases h2 : c < S.cfg
    · have e2 : decide (c < S.cfg) = true := by rw [decide_eq_true_eq]; omega
      have hx : x = false := by rw [← HX.out]; simp; omega
      subst hx
      have hS : S = S' := by rw [← HS'.out, if_neg (by simp)]
      subst hS
      go_wp2_with fail
      go_ret
      refine ⟨rfl, ?_, ?_⟩
      · unfold ShipAt; ((repeat' (first | with_reducible exact HS1.out | with_reducible exact Blk.new _ _ _ | with_reducible apply Blk.drewN | with_reducible apply Blk.drew | with_reducible apply Blk.set' | (with_reducible apply Blk.set_other (hp := by first | assumption | (simp; done) | (simp; omega) | omega)) | (with_reducible apply Blk.new'; focus (first | (simp; done) | (simp; omega))) | with_reducible apply Blk.alloc | exact HS1.out)) <;> rfl)
      · (repeat' (first | with_reducible exact HF.out | with_reducible exact Frm.refl _ _ | with_reducible refine Frm.drewN ?_ _ | with_reducible refine Frm.drew ?_ | with_reducible refine Frm.setCell ?_ (by first | exact Or.inl rfl | exact Or.inr (Nat.le_refl _) | (simp; done) | (simp; omega)) _ | with_reducible refine Frm.alloc ?_ _ | exact Frm.refl _ _ | exact HF.out))
    have e2 : decide (c < S.cfg) = false := by rw [decide_eq_false_iff_not]; omega
    have hx : x = true := by rw [← HX.out]; simp; omega
    subst hx
    have hS0 := HS'.out
    rw [if_pos rfl] at hS0
    have HT := Lib.hid hS0
    clear hS0
    by_cases h3 : S.cfg < c
    · have e3 : decide (S.cfg < c) = true := by rw [decide_eq_true_eq]; omega
      have hT := HT.out
      rw [if_pos h3] at hT
      have HT1 := Lib.hid hT
      clear hT
      have cc2 : World.cell? w1 ⟨b, 2, none⟩ = some (.bool S.f0.is) := by rw [Blk.cell HS1.out]; rfl
      have cc3 : World.cell? w1 ⟨b, 3, none⟩ = some (.int .i64 S.f0.p.e) := by rw [Blk.cell HS1.out]; rfl
      have cc4 : World.cell? w1 ⟨b, 4, none⟩ = some (.int .i64 S.f0.p.i) := by rw [Blk.cell HS1.out]; rfl
      have cc5 : World.cell? w1 ⟨b, 5, none⟩ = some (.bool S.f1.is) := by rw [Blk.cell HS1.out]; rfl
      have cc6 : World.cell? w1 ⟨b, 6, none⟩ = some (.int .i64 S.f1.p.e) := by rw [Blk.cell HS1.out]; rfl
      have cc7 : World.cell? w1 ⟨b, 7, none⟩ = some (.int .i64 S.f1.p.i) := by rw [Blk.cell HS1.out]; rfl
      have cc8 : World.cell? w1 ⟨b, 8, none⟩ = some (.bool S.f2.is) := by rw [Blk.cell HS1.out]; rfl
      have cc9 : World.cell? w1 ⟨b, 9, none⟩ = some (.int .i64 S.f2.p.e) := by rw [Blk.cell HS1.out]; rfl
      have cc10 : World.cell? w1 ⟨b, 10, none⟩ = some (.int .i64 S.f2.p.i) := by rw [Blk.cell HS1.out]; rfl
      have cc11 : World.cell? w1 ⟨b, 11, none⟩ = some (.bool S.f3.is) := by rw [Blk.cell HS1.out]; rfl
      have cc12 : World.cell? w1 ⟨b, 12, none⟩ = some (.int .i64 S.f3.p.e) := by rw [Blk.cell HS1.out]; rfl
      have cc13 : World.cell? w1 ⟨b, 13, none⟩ = some (.int .i64 S.f3.p.i) := by rw [Blk.cell HS1.out]; rfl
      have cc14 : World.cell? w1 ⟨b, 14, none⟩ = some (.bool S.f4.is) := by rw [Blk.cell HS1.out]; rfl
      have cc15 : World.cell? w1 ⟨b, 15, none⟩ = some (.int .i64 S.f4.p.e) := by rw [Blk.cell HS1.out]; rfl
      have cc16 : World.cell? w1 ⟨b, 16, none⟩ = some (.int .i64 S.f4.p.i) := by rw [Blk.cell HS1.out]; rfl
      have fr0 := Blk.free HS1.out 0
      have fr1 := Blk.free HS1.out 1
      have fr2 := Blk.free HS1.out 2
      have fr3 := Blk.free HS1.out 3
      have fr4 := Blk.free HS1.out 4
      have fr5 := Blk.free HS1.out 5
      have fr6 := Blk.free HS1.out 6
      have fr7 := Blk.free HS1.out 7
      have fr8 := Blk.free HS1.out 8
      have fr9 := Blk.free HS1.out 9
      have fr10 := Blk.free HS1.out 10
      have fr11 := Blk.free HS1.out 11
      have fr12 := Blk.free HS1.out 12
      have fr13 := Blk.free HS1.out 13
      have fr14 := Blk.free HS1.out 14
      have fr15 := Blk.free HS1.out 15
      have fr16 := Blk.free HS1.out 16
      have hch := (Blk.set' (i := 16) (u := .int .i64 0) (cs' := #[(.int .i64 S.me : Value), .int .i64 c, .bool false, .int .i64 0, .int .i64 0, .bool false, .int .i64 0, .int .i64 0, .bool false, .int .i64 0, .int .i64 0, .bool false, .int .i64 0, .int .i64 0, .bool false, .int .i64 0, .int .i64 0]) (Blk.set' (i := 15) (u := .int .i64 0) (cs' := #[(.int .i64 S.me : Value), .int .i64 c, .bool false, .int .i64 0, .int .i64 0, .bool false, .int .i64 0, .int .i64 0, .bool false, .int .i64 0, .int .i64 0, .bool false, .int .i64 0, .int .i64 0, .bool false, .int .i64 0, .int .i64 S.f4.p.i]) (Blk.set' (i := 14) (u := .bool false) (cs' := #[(.int .i64 S.me : Value), .int .i64 c, .bool false, .int .i64 0, .int .i64 0, .bool false, .int .i64 0, .int .i64 0, .bool false, .int .i64 0, .int .i64 0, .bool false, .int .i64 0, .int .i64 0, .bool false, .int .i64 S.f4.p.e, .int .i64 S.f4.p.i]) (Blk.set' (i := 13) (u := .int .i64 0) (cs' := #[(.int .i64 S.me : Value), .int .i64 c, .bool false, .int .i64 0, .int .i64 0, .bool false, .int .i64 0, .int .i64 0, .bool false, .int .i64 0, .int .i64 0, .bool false, .int .i64 0, .int .i64 0, .bool S.f4.is, .int .i64 S.f4.p.e, .int .i64 S.f4.p.i]) (Blk.set' (i := 12) (u := .int .i64 0) (cs' := #[(.int .i64 S.me : Value), .int .i64 c, .bool false, .int .i64 0, .int .i64 0, .bool false, .int .i64 0, .int .i64 0, .bool false, .int .i64 0, .int .i64 0, .bool false, .int .i64 0, .int .i64 S.f3.p.i, .bool S.f4.is, .int .i64 S.f4.p.e, .int .i64 S.f4.p.i]) (Blk.set' (i := 11) (u := .bool false) (cs' := #[(.int .i64 S.me : Value), .int .i64 c, .bool false, .int .i64 0, .int .i64 0, .bool false, .int .i64 0, .int .i64 0, .bool false, .int .i64 0, .int .i64 0, .bool false, .int .i64 S.f3.p.e, .int .i64 S.f3.p.i, .bool S.f4.is, .int .i64 S.f4.p.e, .int .i64 S.f4.p.i]) (Blk.set' (i := 10) (u := .int .i64 0) (cs' := #[(.int .i64 S.me : Value), .int .i64 c, .bool false, .int .i64 0, .int .i64 0, .bool false, .int .i64 0, .int .i64 0, .bool false, .int .i64 0, .int .i64 0, .bool S.f3.is, .int .i64 S.f3.p.e, .int .i64 S.f3.p.i, .bool S.f4.is, .int .i64 S.f4.p.e, .int .i64 S.f4.p.i]) (Blk.set' (i := 9) (u := .int .i64 0) (cs' := #[(.int .i64 S.me : Value), .int .i64 c, .bool false, .int .i64 0, .int .i64 0, .bool false, .int .i64 0, .int .i64 0, .bool false, .int .i64 0, .int .i64 S.f2.p.i, .bool S.f3.is, .int .i64 S.f3.p.e, .int .i64 S.f3.p.i, .bool S.f4.is, .int .i64 S.f4.p.e, .int .i64 S.f4.p.i]) (Blk.set' (i := 8) (u := .bool false) (cs' := #[(.int .i64 S.me : Value), .int .i64 c, .bool false, .int .i64 0, .int .i64 0, .bool false, .int .i64 0, .int .i64 0, .bool false, .int .i64 S.f2.p.e, .int .i64 S.f2.p.i, .bool S.f3.is, .int .i64 S.f3.p.e, .int .i64 S.f3.p.i, .bool S.f4.is, .int .i64 S.f4.p.e, .int .i64 S.f4.p.i]) (Blk.set' (i := 7) (u := .int .i64 0) (cs' := #[(.int .i64 S.me : Value), .int .i64 c, .bool false, .int .i64 0, .int .i64 0, .bool false, .int .i64 0, .int .i64 0, .bool S.f2.is, .int .i64 S.f2.p.e, .int .i64 S.f2.p.i, .bool S.f3.is, .int .i64 S.f3.p.e, .int .i64 S.f3.p.i, .bool S.f4.is, .int .i64 S.f4.p.e, .int .i64 S.f4.p.i]) (Blk.set' (i := 6) (u := .int .i64 0) (cs' := #[(.int .i64 S.me : Value), .int .i64 c, .bool false, .int .i64 0, .int .i64 0, .bool false, .int .i64 0, .int .i64 S.f1.p.i, .bool S.f2.is, .int .i64 S.f2.p.e, .int .i64 S.f2.p.i, .bool S.f3.is, .int .i64 S.f3.p.e, .int .i64 S.f3.p.i, .bool S.f4.is, .int .i64 S.f4.p.e, .int .i64 S.f4.p.i]) (Blk.set' (i := 5) (u := .bool false) (cs' := #[(.int .i64 S.me : Value), .int .i64 c, .bool false, .int .i64 0, .int .i64 0, .bool false, .int .i64 S.f1.p.e, .int .i64 S.f1.p.i, .bool S.f2.is, .int .i64 S.f2.p.e, .int .i64 S.f2.p.i, .bool S.f3.is, .int .i64 S.f3.p.e, .int .i64 S.f3.p.i, .bool S.f4.is, .int .i64 S.f4.p.e, .int .i64 S.f4.p.i]) (Blk.set' (i := 4) (u := .int .i64 0) (cs' := #[(.int .i64 S.me : Value), .int .i64 c, .bool false, .int .i64 0, .int .i64 0, .bool S.f1.is, .int .i64 S.f1.p.e, .int .i64 S.f1.p.i, .bool S.f2.is, .int .i64 S.f2.p.e, .int .i64 S.f2.p.i, .bool S.f3.is, .int .i64 S.f3.p.e, .int .i64 S.f3.p.i, .bool S.f4.is, .int .i64 S.f4.p.e, .int .i64 S.f4.p.i]) (Blk.set' (i := 3) (u := .int .i64 0) (cs' := #[(.int .i64 S.me : Value), .int .i64 c, .bool false, .int .i64 0, .int .i64 S.f0.p.i, .bool S.f1.is, .int .i64 S.f1.p.e, .int .i64 S.f1.p.i, .bool S.f2.is, .int .i64 S.f2.p.e, .int .i64 S.f2.p.i, .bool S.f3.is, .int .i64 S.f3.p.e, .int .i64 S.f3.p.i, .bool S.f4.is, .int .i64 S.f4.p.e, .int .i64 S.f4.p.i]) (Blk.set' (i := 2) (u := .bool false) (cs' := #[(.int .i64 S.me : Value), .int .i64 c, .bool false, .int .i64 S.f0.p.e, .int .i64 S.f0.p.i, .bool S.f1.is, .int .i64 S.f1.p.e, .int .i64 S.f1.p.i, .bool S.f2.is, .int .i64 S.f2.p.e, .int .i64 S.f2.p.i, .bool S.f3.is, .int .i64 S.f3.p.e, .int .i64 S.f3.p.i, .bool S.f4.is, .int .i64 S.f4.p.e, .int .i64 S.f4.p.i]) (Blk.set' (i := 1) (u := .int .i64 c) (cs' := #[(.int .i64 S.me : Value), .int .i64 c, .bool S.f0.is, .int .i64 S.f0.p.e, .int .i64 S.f0.p.i, .bool S.f1.is, .int .i64 S.f1.p.e, .int .i64 S.f1.p.i, .bool S.f2.is, .int .i64 S.f2.p.e, .int .i64 S.f2.p.i, .bool S.f3.is, .int .i64 S.f3.p.e, .int .i64 S.f3.p.i, .bool S.f4.is, .int .i64 S.f4.p.e, .int .i64 S.f4.p.i]) HS1.out rfl) rfl) rfl) rfl) rfl) rfl) rfl) rfl) rfl) rfl) rfl) rfl) rfl) rfl) rfl) rfl)
      have HCH := Lib.hid hch
      clear hch
      rcases hn with rfl | rfl | rfl | rfl
      · have hS : ({ newShip S.me with cfg := c, f1 := ⟨true, p⟩ } : Shp) = S' := HT1.out
        subst hS
        go_wp2_with fail
        refine wp_abs ?_
        intro w2 hw2
        have hk : Blk w2 b (shipVal { newShip S.me with cfg := c }) 107 := by rw [hw2]; unfold shipVal newShip noFar; ((repeat' (first | with_reducible exact HCH.out | with_reducible exact Blk.new _ _ _ | with_reducible apply Blk.drewN | with_reducible apply Blk.drew | with_reducible apply Blk.set' | (with_reducible apply Blk.set_other (hp := by first | assumption | (simp; done) | (simp; omega) | omega)) | (with_reducible apply Blk.new'; focus (first | (simp; done) | (simp; omega))) | with_reducible apply Blk.alloc | exact HCH.out)) <;> rfl)
        have hf : Blk w2 w1.heap.size #[.bool false, .int .i64 0, .int .i64 0] 104 := by rw [hw2]; ((repeat' (first | with_reducible exact Blk.new _ _ _ | with_reducible apply Blk.drewN | with_reducible apply Blk.drew | with_reducible apply Blk.set' | (with_reducible apply Blk.set_other (hp := by first | assumption | (simp; done) | (simp; omega) | omega)) | (with_reducible apply Blk.new'; focus (first | (simp; done) | (simp; omega))) | with_reducible apply Blk.alloc)) <;> rfl)
        have hp : Blk w2 w.heap.size #[.int .i64 p.e, .int .i64 p.i] 33 := by rw [hw2]; ((repeat' (first | with_reducible exact HZ.out | with_reducible exact Blk.new _ _ _ | with_reducible apply Blk.drewN | with_reducible apply Blk.drew | with_reducible apply Blk.set' | (with_reducible apply Blk.set_other (hp := by first | assumption | (simp; done) | (simp; omega) | omega)) | (with_reducible apply Blk.new'; focus (first | (simp; done) | (simp; omega))) | with_reducible apply Blk.alloc | exact HZ.out)) <;> rfl)
        have hfr : Frm (fun k => k = b) w w2 := by rw [hw2]; (repeat' (first | with_reducible exact HF.out | with_reducible exact Frm.refl _ _ | with_reducible refine Frm.drewN ?_ _ | with_reducible refine Frm.drew ?_ | with_reducible refine Frm.setCell ?_ (by first | exact Or.inl rfl | exact Or.inr (Nat.le_refl _) | (simp; done) | (simp; omega)) _ | with_reducible refine Frm.alloc ?_ _ | exact Frm.refl _ _ | exact HF.out))
        have k1 := hk.lt
        have k2 := hf.lt
        have k3 := hp.lt
        have q0 : World.cell? w2 ⟨w1.heap.size, 0, none⟩ = some (.bool false) := by rw [Blk.cell hf]; rfl
        have q1 : World.cell? w2 ⟨w1.heap.size, 1, none⟩ = some (.int .i64 0) := by rw [Blk.cell hf]; rfl
        have q2 : World.cell? w2 ⟨w1.heap.size, 2, none⟩ = some (.int .i64 0) := by rw [Blk.cell hf]; rfl
        have v0 : World.cell? w2 ⟨w.heap.size, 0, none⟩ = some (.int .i64 p.e) := by rw [Blk.cell hp]; rfl
        have v1 : World.cell? w2 ⟨w.heap.size, 1, none⟩ = some (.int .i64 p.i) := by rw [Blk.cell hp]; rfl
        have gg5 : World.cell? w2 ⟨b, 5, none⟩ = some (.bool false) := by rw [Blk.cell hk]; rfl
        have gg6 : World.cell? w2 ⟨b, 6, none⟩ = some (.int .i64 0) := by rw [Blk.cell hk]; rfl
        have gg7 : World.cell? w2 ⟨b, 7, none⟩ = some (.int .i64 0) := by rw [Blk.cell hk]; rfl
        have g5 := Blk.free hk 5
        have g6 := Blk.free hk 6
        have g7 := Blk.free hk 7
        have HK := Lib.hid hk
        have HFR := Lib.hid hfr
        clear hw2 hk hf hp hfr
        go_wp2_with fail
        go_region
        go_wp2_with fail
        go_ret
        refine ⟨rfl, ?_, ?_⟩
        · unfold ShipAt; ((repeat' (first | with_reducible exact HK.out | with_reducible exact Blk.new _ _ _ | with_reducible apply Blk.drewN | with_reducible apply Blk.drew | with_reducible apply Blk.set' | (with_reducible apply Blk.set_other (hp := by first | assumption | (simp; done) | (simp; omega) | omega)) | (with_reducible apply Blk.new'; focus (first | (simp; done) | (simp; omega))) | with_reducible apply Blk.alloc | exact HK.out)) <;> rfl)
        · (repeat' (first | with_reducible exact HFR.out | with_reducible exact Frm.refl _ _ | with_reducible refine Frm.drewN ?_ _ | with_reducible refine Frm.drew ?_ | with_reducible refine Frm.setCell ?_ (by first | exact Or.inl rfl | exact Or.inr (Nat.le_refl _) | (simp; done) | (simp; omega)) _ | with_reducible refine Frm.alloc ?_ _ | exact Frm.refl _ _ | exact HFR.out))
      · have hS : ({ newShip S.me with cfg := c, f2 := ⟨true, p⟩ } : Shp) = S' := HT1.out
        subst hS
        go_wp2_with fail
        refine wp_abs ?_
        intro w2 hw2
        have hk : Blk w2 b (shipVal { newShip S.me with cfg := c }) 107 := by rw [hw2]; unfold shipVal newShip noFar; ((repeat' (first | with_reducible exact HCH.out | with_reducible exact Blk.new _ _ _ | with_reducible apply Blk.drewN | with_reducible apply Blk.drew | with_reducible apply Blk.set' | (with_reducible apply Blk.set_other (hp := by first | assumption | (simp; done) | (simp; omega) | omega)) | (with_reducible apply Blk.new'; focus (first | (simp; done) | (simp; omega))) | with_reducible apply Blk.alloc | exact HCH.out)) <;> rfl)
        have hf : Blk w2 w1.heap.size #[.bool false, .int .i64 0, .int .i64 0] 104 := by rw [hw2]; ((repeat' (first | with_reducible exact Blk.new _ _ _ | with_reducible apply Blk.drewN | with_reducible apply Blk.drew | with_reducible apply Blk.set' | (with_reducible apply Blk.set_other (hp := by first | assumption | (simp; done) | (simp; omega) | omega)) | (with_reducible apply Blk.new'; focus (first | (simp; done) | (simp; omega))) | with_reducible apply Blk.alloc)) <;> rfl)
        have hp : Blk w2 w.heap.size #[.int .i64 p.e, .int .i64 p.i] 33 := by rw [hw2]; ((repeat' (first | with_reducible exact HZ.out | with_reducible exact Blk.new _ _ _ | with_reducible apply Blk.drewN | with_reducible apply Blk.drew | with_reducible apply Blk.set' | (with_reducible apply Blk.set_other (hp := by first | assumption | (simp; done) | (simp; omega) | omega)) | (with_reducible apply Blk.new'; focus (first | (simp; done) | (simp; omega))) | with_reducible apply Blk.alloc | exact HZ.out)) <;> rfl)
        have hfr : Frm (fun k => k = b) w w2 := by rw [hw2]; (repeat' (first | with_reducible exact HF.out | with_reducible exact Frm.refl _ _ | with_reducible refine Frm.drewN ?_ _ | with_reducible refine Frm.drew ?_ | with_reducible refine Frm.setCell ?_ (by first | exact Or.inl rfl | exact Or.inr (Nat.le_refl _) | (simp; done) | (simp; omega)) _ | with_reducible refine Frm.alloc ?_ _ | exact Frm.refl _ _ | exact HF.out))
        have k1 := hk.lt
        have k2 := hf.lt
        have k3 := hp.lt
        have q0 : World.cell? w2 ⟨w1.heap.size, 0, none⟩ = some (.bool false) := by rw [Blk.cell hf]; rfl
        have q1 : World.cell? w2 ⟨w1.heap.size, 1, none⟩ = some (.int .i64 0) := by rw [Blk.cell hf]; rfl
        have q2 : World.cell? w2 ⟨w1.heap.size, 2, none⟩ = some (.int .i64 0) := by rw [Blk.cell hf]; rfl
        have v0 : World.cell? w2 ⟨w.heap.size, 0, none⟩ = some (.int .i64 p.e) := by rw [Blk.cell hp]; rfl
        have v1 : World.cell? w2 ⟨w.heap.size, 1, none⟩ = some (.int .i64 p.i) := by rw [Blk.cell hp]; rfl
        have gg8 : World.cell? w2 ⟨b, 8, none⟩ = some (.bool false) := by rw [Blk.cell hk]; rfl
        have gg9 : World.cell? w2 ⟨b, 9, none⟩ = some (.int .i64 0) := by rw [Blk.cell hk]; rfl
        have gg10 : World.cell? w2 ⟨b, 10, none⟩ = some (.int .i64 0) := by rw [Blk.cell hk]; rfl
        have g8 := Blk.free hk 8
        have g9 := Blk.free hk 9
        have g10 := Blk.free hk 10
        have HK := Lib.hid hk
        have HFR := Lib.hid hfr
        clear hw2 hk hf hp hfr
        go_wp2_with fail
        go_region
        go_wp2_with fail
        go_ret
        refine ⟨rfl, ?_, ?_⟩
        · unfold ShipAt; ((repeat' (first | with_reducible exact HK.out | with_reducible exact Blk.new _ _ _ | with_reducible apply Blk.drewN | with_reducible apply Blk.drew | with_reducible apply Blk.set' | (with_reducible apply Blk.set_other (hp := by first | assumption | (simp; done) | (simp; omega) | omega)) | (with_reducible apply Blk.new'; focus (first | (simp; done) | (simp; omega))) | with_reducible apply Blk.alloc | exact HK.out)) <;> rfl)
        · (repeat' (first | with_reducible exact HFR.out | with_reducible exact Frm.refl _ _ | with_reducible refine Frm.drewN ?_ _ | with_reducible refine Frm.drew ?_ | with_reducible refine Frm.setCell ?_ (by first | exact Or.inl rfl | exact Or.inr (Nat.le_refl _) | (simp; done) | (simp; omega)) _ | with_reducible refine Frm.alloc ?_ _ | exact Frm.refl _ _ | exact HFR.out))
      · have hS : ({ newShip S.me with cfg := c, f3 := ⟨true, p⟩ } : Shp) = S' := HT1.out
        subst hS
        go_wp2_with fail
        refine wp_abs ?_
        intro w2 hw2
        have hk : Blk w2 b (shipVal { newShip S.me with cfg := c }) 107 := by rw [hw2]; unfold shipVal newShip noFar; ((repeat' (first | with_reducible exact HCH.out | with_reducible exact Blk.new _ _ _ | with_reducible apply Blk.drewN | with_reducible apply Blk.drew | with_reducible apply Blk.set' | (with_reducible apply Blk.set_other (hp := by first | assumption | (simp; done) | (simp; omega) | omega)) | (with_reducible apply Blk.new'; focus (first | (simp; done) | (simp; omega))) | with_reducible apply Blk.alloc | exact HCH.out)) <;> rfl)
        have hf : Blk w2 w1.heap.size #[.bool false, .int .i64 0, .int .i64 0] 104 := by rw [hw2]; ((repeat' (first | with_reducible exact Blk.new _ _ _ | with_reducible apply Blk.drewN | with_reducible apply Blk.drew | with_reducible apply Blk.set' | (with_reducible apply Blk.set_other (hp := by first | assumption | (simp; done) | (simp; omega) | omega)) | (with_reducible apply Blk.new'; focus (first | (simp; done) | (simp; omega))) | with_reducible apply Blk.alloc)) <;> rfl)
        have hp : Blk w2 w.heap.size #[.int .i64 p.e, .int .i64 p.i] 33 := by rw [hw2]; ((repeat' (first | with_reducible exact HZ.out | with_reducible exact Blk.new _ _ _ | with_reducible apply Blk.drewN | with_reducible apply Blk.drew | with_reducible apply Blk.set' | (with_reducible apply Blk.set_other (hp := by first | assumption | (simp; done) | (simp; omega) | omega)) | (with_reducible apply Blk.new'; focus (first | (simp; done) | (simp; omega))) | with_reducible apply Blk.alloc | exact HZ.out)) <;> rfl)
        have hfr : Frm (fun k => k = b) w w2 := by rw [hw2]; (repeat' (first | with_reducible exact HF.out | with_reducible exact Frm.refl _ _ | with_reducible refine Frm.drewN ?_ _ | with_reducible refine Frm.drew ?_ | with_reducible refine Frm.setCell ?_ (by first | exact Or.inl rfl | exact Or.inr (Nat.le_refl _) | (simp; done) | (simp; omega)) _ | with_reducible refine Frm.alloc ?_ _ | exact Frm.refl _ _ | exact HF.out))
        have k1 := hk.lt
        have k2 := hf.lt
        have k3 := hp.lt
        have q0 : World.cell? w2 ⟨w1.heap.size, 0, none⟩ = some (.bool false) := by rw [Blk.cell hf]; rfl
        have q1 : World.cell? w2 ⟨w1.heap.size, 1, none⟩ = some (.int .i64 0) := by rw [Blk.cell hf]; rfl
        have q2 : World.cell? w2 ⟨w1.heap.size, 2, none⟩ = some (.int .i64 0) := by rw [Blk.cell hf]; rfl
        have v0 : World.cell? w2 ⟨w.heap.size, 0, none⟩ = some (.int .i64 p.e) := by rw [Blk.cell hp]; rfl
        have v1 : World.cell? w2 ⟨w.heap.size, 1, none⟩ = some (.int .i64 p.i) := by rw [Blk.cell hp]; rfl
        have gg11 : World.cell? w2 ⟨b, 11, none⟩ = some (.bool false) := by rw [Blk.cell hk]; rfl
        have gg12 : World.cell? w2 ⟨b, 12, none⟩ = some (.int .i64 0) := by rw [Blk.cell hk]; rfl
        have gg13 : World.cell? w2 ⟨b, 13, none⟩ = some (.int .i64 0) := by rw [Blk.cell hk]; rfl
        have g11 := Blk.free hk 11
        have g12 := Blk.free hk 12
        have g13 := Blk.free hk 13
        have HK := Lib.hid hk
        have HFR := Lib.hid hfr
        clear hw2 hk hf hp hfr
        go_wp2_with fail
        go_region
        go_wp2_with fail
        go_ret
        refine ⟨rfl, ?_, ?_⟩
        · unfold ShipAt; ((repeat' (first | with_reducible exact HK.out | with_reducible exact Blk.new _ _ _ | with_reducible apply Blk.drewN | with_reducible apply Blk.drew | with_reducible apply Blk.set' | (with_reducible apply Blk.set_other (hp := by first | assumption | (simp; done) | (simp; omega) | omega)) | (with_reducible apply Blk.new'; focus (first | (simp; done) | (simp; omega))) | with_reducible apply Blk.alloc | exact HK.out)) <;> rfl)
        · (repeat' (first | with_reducible exact HFR.out | with_reducible exact Frm.refl _ _ | with_reducible refine Frm.drewN ?_ _ | with_reducible refine Frm.drew ?_ | with_reducible refine Frm.setCell ?_ (by first | exact Or.inl rfl | exact Or.inr (Nat.le_refl _) | (simp; done) | (simp; omega)) _ | with_reducible refine Frm.alloc ?_ _ | exact Frm.refl _ _ | exact HFR.out))
      · have hS : ({ newShip S.me with cfg := c, f4 := ⟨true, p⟩ } : Shp) = S' := HT1.out
        subst hS
        go_wp2_with fail
        refine wp_abs ?_
        intro w2 hw2
        have hk : Blk w2 b (shipVal { newShip S.me with cfg := c }) 107 := by rw [hw2]; unfold shipVal newShip noFar; ((repeat' (first | with_reducible exact HCH.out | with_reducible exact Blk.new _ _ _ | with_reducible apply Blk.drewN | with_reducible apply Blk.drew | with_reducible apply Blk.set' | (with_reducible apply Blk.set_other (hp := by first | assumption | (simp; done) | (simp; omega) | omega)) | (with_reducible apply Blk.new'; focus (first | (simp; done) | (simp; omega))) | with_reducible apply Blk.alloc | exact HCH.out)) <;> rfl)
        have hf : Blk w2 w1.heap.size #[.bool false, .int .i64 0, .int .i64 0] 104 := by rw [hw2]; ((repeat' (first | with_reducible exact Blk.new _ _ _ | with_reducible apply Blk.drewN | with_reducible apply Blk.drew | with_reducible apply Blk.set' | (with_reducible apply Blk.set_other (hp := by first | assumption | (simp; done) | (simp; omega) | omega)) | (with_reducible apply Blk.new'; focus (first | (simp; done) | (simp; omega))) | with_reducible apply Blk.alloc)) <;> rfl)
        have hp : Blk w2 w.heap.size #[.int .i64 p.e, .int .i64 p.i] 33 := by rw [hw2]; ((repeat' (first | with_reducible exact HZ.out | with_reducible exact Blk.new _ _ _ | with_reducible apply Blk.drewN | with_reducible apply Blk.drew | with_reducible apply Blk.set' | (with_reducible apply Blk.set_other (hp := by first | assumption | (simp; done) | (simp; omega) | omega)) | (with_reducible apply Blk.new'; focus (first | (simp; done) | (simp; omega))) | with_reducible apply Blk.alloc | exact HZ.out)) <;> rfl)
        have hfr : Frm (fun k => k = b) w w2 := by rw [hw2]; (repeat' (first | with_reducible exact HF.out | with_reducible exact Frm.refl _ _ | with_reducible refine Frm.drewN ?_ _ | with_reducible refine Frm.drew ?_ | with_reducible refine Frm.setCell ?_ (by first | exact Or.inl rfl | exact Or.inr (Nat.le_refl _) | (simp; done) | (simp; omega)) _ | with_reducible refine Frm.alloc ?_ _ | exact Frm.refl _ _ | exact HF.out))
        have k1 := hk.lt
        have k2 := hf.lt
        have k3 := hp.lt
        have q0 : World.cell? w2 ⟨w1.heap.size, 0, none⟩ = some (.bool false) := by rw [Blk.cell hf]; rfl
        have q1 : World.cell? w2 ⟨w1.heap.size, 1, none⟩ = some (.int .i64 0) := by rw [Blk.cell hf]; rfl
        have q2 : World.cell? w2 ⟨w1.heap.size, 2, none⟩ = some (.int .i64 0) := by rw [Blk.cell hf]; rfl
        have v0 : World.cell? w2 ⟨w.heap.size, 0, none⟩ = some (.int .i64 p.e) := by rw [Blk.cell hp]; rfl
        have v1 : World.cell? w2 ⟨w.heap.size, 1, none⟩ = some (.int .i64 p.i) := by rw [Blk.cell hp]; rfl
        have gg14 : World.cell? w2 ⟨b, 14, none⟩ = some (.bool false) := by rw [Blk.cell hk]; rfl
        have gg15 : World.cell? w2 ⟨b, 15, none⟩ = some (.int .i64 0) := by rw [Blk.cell hk]; rfl
        have gg16 : World.cell? w2 ⟨b, 16, none⟩ = some (.int .i64 0) := by rw [Blk.cell hk]; rfl
        have g14 := Blk.free hk 14
        have g15 := Blk.free hk 15
        have g16 := Blk.free hk 16
        have HK := Lib.hid hk
        have HFR := Lib.hid hfr
        clear hw2 hk hf hp hfr
        go_wp2_with fail
        go_region
        go_wp2_with fail
        go_ret
        refine ⟨rfl, ?_, ?_⟩
        · unfold ShipAt; ((repeat' (first | with_reducible exact HK.out | with_reducible exact Blk.new _ _ _ | with_reducible apply Blk.drewN | with_reducible apply Blk.drew | with_reducible apply Blk.set' | (with_reducible apply Blk.set_other (hp := by first | assumption | (simp; done) | (simp; omega) | omega)) | (with_reducible apply Blk.new'; focus (first | (simp; done) | (simp; omega))) | with_reducible apply Blk.alloc | exact HK.out)) <;> rfl)
        · (repeat' (first | with_reducible exact HFR.out | with_reducible exact Frm.refl _ _ | with_reducible refine Frm.drewN ?_ _ | with_reducible refine Frm.drew ?_ | with_reducible refine Frm.setCell ?_ (by first | exact Or.inl rfl | exact Or.inr (Nat.le_refl _) | (simp; done) | (simp; omega)) _ | with_reducible refine Frm.alloc ?_ _ | exact Frm.refl _ _ | exact HFR.out))
    · have e3 : decide (S.cfg < c) = false := by rw [decide_eq_false_iff_not]; omega
      have hT := HT.out
      rw [if_neg h3] at hT
      have HT1 := Lib.hid hT
      clear hT
      rcases hn with rfl | rfl | rfl | rfl
      · have hT : (if S.f1.is = true ∧ p.i ≤ S.f1.p.i then S else S.put 1 ⟨true, p⟩) = S' := HT1.out
        have HT2 := Lib.hid hT
        clear hT HT1
        have q0 : World.cell? w1 ⟨b, 5, none⟩ = some (.bool S.f1.is) := by rw [HS1.out.cell]; rfl
        have q1 : World.cell? w1 ⟨b, 6, none⟩ = some (.int .i64 S.f1.p.e) := by rw [HS1.out.cell]; rfl
        have q2 : World.cell? w1 ⟨b, 7, none⟩ = some (.int .i64 S.f1.p.i) := by rw [HS1.out.cell]; rfl
        have g5 := Blk.free HS1.out 5
        have g6 := Blk.free HS1.out 6
        have g7 := Blk.free HS1.out 7
        by_cases his : S.f1.is = true
        · have q0' := q0
          rw [his] at q0'
          clear q0
          by_cases h4 : S.f1.p.i < p.i
          · have e4 : decide (S.f1.p.i < p.i) = true := by rw [decide_eq_true_eq]; exact h4
            have hS := HT2.out
            rw [if_neg (by omega)] at hS
            subst hS
            go_wp2_with fail
            go_region
            go_wp2_with fail
            go_ret
            refine ⟨rfl, ?_, ?_⟩
            · unfold ShipAt; ((repeat' (first | with_reducible exact HS1.out | with_reducible exact Blk.new _ _ _ | with_reducible apply Blk.drewN | with_reducible apply Blk.drew | with_reducible apply Blk.set' | (with_reducible apply Blk.set_other (hp := by first | assumption | (simp; done) | (simp; omega) | omega)) | (with_reducible apply Blk.new'; focus (first | (simp; done) | (simp; omega))) | with_reducible apply Blk.alloc | exact HS1.out)) <;> rfl)
            · (repeat' (first | with_reducible exact HF.out | with_reducible exact Frm.refl _ _ | with_reducible refine Frm.drewN ?_ _ | with_reducible refine Frm.drew ?_ | with_reducible refine Frm.setCell ?_ (by first | exact Or.inl rfl | exact Or.inr (Nat.le_refl _) | (simp; done) | (simp; omega)) _ | with_reducible refine Frm.alloc ?_ _ | exact Frm.refl _ _ | exact HF.out))
          · have e4 : decide (S.f1.p.i < p.i) = false := by rw [decide_eq_false_iff_not]; exact h4
            have hS := HT2.out
            rw [if_pos ⟨his, by omega⟩] at hS
            subst hS
            go_wp2_with fail
            go_ret
            refine ⟨rfl, ?_, ?_⟩
            · unfold ShipAt; ((repeat' (first | with_reducible exact HS1.out | with_reducible exact Blk.new _ _ _ | with_reducible apply Blk.drewN | with_reducible apply Blk.drew | with_reducible apply Blk.set' | (with_reducible apply Blk.set_other (hp := by first | assumption | (simp; done) | (simp; omega) | omega)) | (with_reducible apply Blk.new'; focus (first | (simp; done) | (simp; omega))) | with_reducible apply Blk.alloc | exact HS1.out)) <;> rfl)
            · (repeat' (first | with_reducible exact HF.out | with_reducible exact Frm.refl _ _ | with_reducible refine Frm.drewN ?_ _ | with_reducible refine Frm.drew ?_ | with_reducible refine Frm.setCell ?_ (by first | exact Or.inl rfl | exact Or.inr (Nat.le_refl _) | (simp; done) | (simp; omega)) _ | with_reducible refine Frm.alloc ?_ _ | exact Frm.refl _ _ | exact HF.out))
        · have his' : S.f1.is = false := by simpa using his
          have q0' := q0
          rw [his'] at q0'
          clear q0
          have hS := HT2.out
          rw [if_neg (fun h => his h.1)] at hS
          subst hS
          go_wp2_with fail
          go_region
          go_wp2_with fail
          go_ret
          refine ⟨rfl, ?_, ?_⟩
          · unfold ShipAt; ((repeat' (first | with_reducible exact HS1.out | with_reducible exact Blk.new _ _ _ | with_reducible apply Blk.drewN | with_reducible apply Blk.drew | with_reducible apply Blk.set' | (with_reducible apply Blk.set_other (hp := by first | assumption | (simp; done) | (simp; omega) | omega)) | (with_reducible apply Blk.new'; focus (first | (simp; done) | (simp; omega))) | with_reducible apply Blk.alloc | exact HS1.out)) <;> rfl)
          · (repeat' (first | with_reducible exact HF.out | with_reducible exact Frm.refl _ _ | with_reducible refine Frm.drewN ?_ _ | with_reducible refine Frm.drew ?_ | with_reducible refine Frm.setCell ?_ (by first | exact Or.inl rfl | exact Or.inr (Nat.le_refl _) | (simp; done) | (simp; omega)) _ | with_reducible refine Frm.alloc ?_ _ | exact Frm.refl _ _ | exact HF.out))
      · have hT : (if S.f2.is = true ∧ p.i ≤ S.f2.p.i then S else S.put 2 ⟨true, p⟩) = S' := HT1.out
        have HT2 := Lib.hid hT
        clear hT HT1
        have q0 : World.cell? w1 ⟨b, 8, none⟩ = some (.bool S.f2.is) := by rw [HS1.out.cell]; rfl
        have q1 : World.cell? w1 ⟨b, 9, none⟩ = some (.int .i64 S.f2.p.e) := by rw [HS1.out.cell]; rfl
        have q2 : World.cell? w1 ⟨b, 10, none⟩ = some (.int .i64 S.f2.p.i) := by rw [HS1.out.cell]; rfl
        have g8 := Blk.free HS1.out 8
        have g9 := Blk.free HS1.out 9
        have g10 := Blk.free HS1.out 10
        by_cases his : S.f2.is = true
        · have q0' := q0
          rw [his] at q0'
          clear q0
          by_cases h4 : S.f2.p.i < p.i
          · have e4 : decide (S.f2.p.i < p.i) = true := by rw [decide_eq_true_eq]; exact h4
            have hS := HT2.out
            rw [if_neg (by omega)] at hS
            subst hS
            go_wp2_with fail
            go_region
            go_wp2_with fail
            go_ret
            refine ⟨rfl, ?_, ?_⟩
            · unfold ShipAt; ((repeat' (first | with_reducible exact HS1.out | with_reducible exact Blk.new _ _ _ | with_reducible apply Blk.drewN | with_reducible apply Blk.drew | with_reducible apply Blk.set' | (with_reducible apply Blk.set_other (hp := by first | assumption | (simp; done) | (simp; omega) | omega)) | (with_reducible apply Blk.new'; focus (first | (simp; done) | (simp; omega))) | with_reducible apply Blk.alloc | exact HS1.out)) <;> rfl)
            · (repeat' (first | with_reducible exact HF.out | with_reducible exact Frm.refl _ _ | with_reducible refine Frm.drewN ?_ _ | with_reducible refine Frm.drew ?_ | with_reducible refine Frm.setCell ?_ (by first | exact Or.inl rfl | exact Or.inr (Nat.le_refl _) | (simp; done) | (simp; omega)) _ | with_reducible refine Frm.alloc ?_ _ | exact Frm.refl _ _ | exact HF.out))
          · have e4 : decide (S.f2.p.i < p.i) = false := by rw [decide_eq_false_iff_not]; exact h4
            have hS := HT2.out
            rw [if_pos ⟨his, by omega⟩] at hS
            subst hS
            go_wp2_with fail
            go_ret
            refine ⟨rfl, ?_, ?_⟩
            · unfold ShipAt; ((repeat' (first | with_reducible exact HS1.out | with_reducible exact Blk.new _ _ _ | with_reducible apply Blk.drewN | with_reducible apply Blk.drew | with_reducible apply Blk.set' | (with_reducible apply Blk.set_other (hp := by first | assumption | (simp; done) | (simp; omega) | omega)) | (with_reducible apply Blk.new'; focus (first | (simp; done) | (simp; omega))) | with_reducible apply Blk.alloc | exact HS1.out)) <;> rfl)
            · (repeat' (first | with_reducible exact HF.out | with_reducible exact Frm.refl _ _ | with_reducible refine Frm.drewN ?_ _ | with_reducible refine Frm.drew ?_ | with_reducible refine Frm.setCell ?_ (by first | exact Or.inl rfl | exact Or.inr (Nat.le_refl _) | (simp; done) | (simp; omega)) _ | with_reducible refine Frm.alloc ?_ _ | exact Frm.refl _ _ | exact HF.out))
        · have his' : S.f2.is = false := by simpa using his
          have q0' := q0
          rw [his'] at q0'
          clear q0
          have hS := HT2.out
          rw [if_neg (fun h => his h.1)] at hS
          subst hS
          go_wp2_with fail
          go_region
          go_wp2_with fail
          go_ret
          refine ⟨rfl, ?_, ?_⟩
          · unfold ShipAt; ((repeat' (first | with_reducible exact HS1.out | with_reducible exact Blk.new _ _ _ | with_reducible apply Blk.drewN | with_reducible apply Blk.drew | with_reducible apply Blk.set' | (with_reducible apply Blk.set_other (hp := by first | assumption | (simp; done) | (simp; omega) | omega)) | (with_reducible apply Blk.new'; focus (first | (simp; done) | (simp; omega))) | with_reducible apply Blk.alloc | exact HS1.out)) <;> rfl)
          · (repeat' (first | with_reducible exact HF.out | with_reducible exact Frm.refl _ _ | with_reducible refine Frm.drewN ?_ _ | with_reducible refine Frm.drew ?_ | with_reducible refine Frm.setCell ?_ (by first | exact Or.inl rfl | exact Or.inr (Nat.le_refl _) | (simp; done) | (simp; omega)) _ | with_reducible refine Frm.alloc ?_ _ | exact Frm.refl _ _ | exact HF.out))
      · have hT : (if S.f3.is = true ∧ p.i ≤ S.f3.p.i then S else S.put 3 ⟨true, p⟩) = S' := HT1.out
        have HT2 := Lib.hid hT
        clear hT HT1
        have q0 : World.cell? w1 ⟨b, 11, none⟩ = some (.bool S.f3.is) := by rw [HS1.out.cell]; rfl
        have q1 : World.cell? w1 ⟨b, 12, none⟩ = some (.int .i64 S.f3.p.e) := by rw [HS1.out.cell]; rfl
        have q2 : World.cell? w1 ⟨b, 13, none⟩ = some (.int .i64 S.f3.p.i) := by rw [HS1.out.cell]; rfl
        have g11 := Blk.free HS1.out 11
        have g12 := Blk.free HS1.out 12
        have g13 := Blk.free HS1.out 13
        by_cases his : S.f3.is = true
        · have q0' := q0
          rw [his] at q0'
          clear q0
          by_cases h4 : S.f3.p.i < p.i
          · have e4 : decide (S.f3.p.i < p.i) = true := by rw [decide_eq_true_eq]; exact h4
            have hS := HT2.out
            rw [if_neg (by omega)] at hS
            subst hS
            go_wp2_with fail
            go_region
            go_wp2_with fail
            go_ret
            refine ⟨rfl, ?_, ?_⟩
            · unfold ShipAt; ((repeat' (first | with_reducible exact HS1.out | with_reducible exact Blk.new _ _ _ | with_reducible apply Blk.drewN | with_reducible apply Blk.drew | with_reducible apply Blk.set' | (with_reducible apply Blk.set_other (hp := by first | assumption | (simp; done) | (simp; omega) | omega)) | (with_reducible apply Blk.new'; focus (first | (simp; done) | (simp; omega))) | with_reducible apply Blk.alloc | exact HS1.out)) <;> rfl)
            · (repeat' (first | with_reducible exact HF.out | with_reducible exact Frm.refl _ _ | with_reducible refine Frm.drewN ?_ _ | with_reducible refine Frm.drew ?_ | with_reducible refine Frm.setCell ?_ (by first | exact Or.inl rfl | exact Or.inr (Nat.le_refl _) | (simp; done) | (simp; omega)) _ | with_reducible refine Frm.alloc ?_ _ | exact Frm.refl _ _ | exact HF.out))
          · have e4 : decide (S.f3.p.i < p.i) = false := by rw [decide_eq_false_iff_not]; exact h4
            have hS := HT2.out
            rw [if_pos ⟨his, by omega⟩] at hS
            subst hS
            go_wp2_with fail
            go_ret
            refine ⟨rfl, ?_, ?_⟩
            · unfold ShipAt; ((repeat' (first | with_reducible exact HS1.out | with_reducible exact Blk.new _ _ _ | with_reducible apply Blk.drewN | with_reducible apply Blk.drew | with_reducible apply Blk.set' | (with_reducible apply Blk.set_other (hp := by first | assumption | (simp; done) | (simp; omega) | omega)) | (with_reducible apply Blk.new'; focus (first | (simp; done) | (simp; omega))) | with_reducible apply Blk.alloc | exact HS1.out)) <;> rfl)
            · (repeat' (first | with_reducible exact HF.out | with_reducible exact Frm.refl _ _ | with_reducible refine Frm.drewN ?_ _ | with_reducible refine Frm.drew ?_ | with_reducible refine Frm.setCell ?_ (by first | exact Or.inl rfl | exact Or.inr (Nat.le_refl _) | (simp; done) | (simp; omega)) _ | with_reducible refine Frm.alloc ?_ _ | exact Frm.refl _ _ | exact HF.out))
        · have his' : S.f3.is = false := by simpa using his
          have q0' := q0
          rw [his'] at q0'
          clear q0
          have hS := HT2.out
          rw [if_neg (fun h => his h.1)] at hS
          subst hS
          go_wp2_with fail
          go_region
          go_wp2_with fail
          go_ret
          refine ⟨rfl, ?_, ?_⟩
          · unfold ShipAt; ((repeat' (first | with_reducible exact HS1.out | with_reducible exact Blk.new _ _ _ | with_reducible apply Blk.drewN | with_reducible apply Blk.drew | with_reducible apply Blk.set' | (with_reducible apply Blk.set_other (hp := by first | assumption | (simp; done) | (simp; omega) | omega)) | (with_reducible apply Blk.new'; focus (first | (simp; done) | (simp; omega))) | with_reducible apply Blk.alloc | exact HS1.out)) <;> rfl)
          · (repeat' (first | with_reducible exact HF.out | with_reducible exact Frm.refl _ _ | with_reducible refine Frm.drewN ?_ _ | with_reducible refine Frm.drew ?_ | with_reducible refine Frm.setCell ?_ (by first | exact Or.inl rfl | exact Or.inr (Nat.le_refl _) | (simp; done) | (simp; omega)) _ | with_reducible refine Frm.alloc ?_ _ | exact Frm.refl _ _ | exact HF.out))
      · have hT : (if S.f4.is = true ∧ p.i ≤ S.f4.p.i then S else S.put 4 ⟨true, p⟩) = S' := HT1.out
        have HT2 := Lib.hid hT
        clear hT HT1
        have q0 : World.cell? w1 ⟨b, 14, none⟩ = some (.bool S.f4.is) := by rw [HS1.out.cell]; rfl
        have q1 : World.cell? w1 ⟨b, 15, none⟩ = some (.int .i64 S.f4.p.e) := by rw [HS1.out.cell]; rfl
        have q2 : World.cell? w1 ⟨b, 16, none⟩ = some (.int .i64 S.f4.p.i) := by rw [HS1.out.cell]; rfl
        have g14 := Blk.free HS1.out 14
        have g15 := Blk.free HS1.out 15
        have g16 := Blk.free HS1.out 16
        by_cases his : S.f4.is = true
        · have q0' := q0
          rw [his] at q0'
          clear q0
          by_cases h4 : S.f4.p.i < p.i
          · have e4 : decide (S.f4.p.i < p.i) = true := by rw [decide_eq_true_eq]; exact h4
            have hS := HT2.out
            rw [if_neg (by omega)] at hS
            subst hS
            go_wp2_with fail
            go_region
            go_wp2_with fail
            go_ret
            refine ⟨rfl, ?_, ?_⟩
            · unfold ShipAt; ((repeat' (first | with_reducible exact HS1.out | with_reducible exact Blk.new _ _ _ | with_reducible apply Blk.drewN | with_reducible apply Blk.drew | with_reducible apply Blk.set' | (with_reducible apply Blk.set_other (hp := by first | assumption | (simp; done) | (simp; omega) | omega)) | (with_reducible apply Blk.new'; focus (first | (simp; done) | (simp; omega))) | with_reducible apply Blk.alloc | exact HS1.out)) <;> rfl)
            · (repeat' (first | with_reducible exact HF.out | with_reducible exact Frm.refl _ _ | with_reducible refine Frm.drewN ?_ _ | with_reducible refine Frm.drew ?_ | with_reducible refine Frm.setCell ?_ (by first | exact Or.inl rfl | exact Or.inr (Nat.le_refl _) | (simp; done) | (simp; omega)) _ | with_reducible refine Frm.alloc ?_ _ | exact Frm.refl _ _ | exact HF.out))
          · have e4 : decide (S.f4.p.i < p.i) = false := by rw [decide_eq_false_iff_not]; exact h4
            have hS := HT2.out
            rw [if_pos ⟨his, by omega⟩] at hS
            subst hS
            go_wp2_with fail
            go_ret
            refine ⟨rfl, ?_, ?_⟩
            · unfold ShipAt; ((repeat' (first | with_reducible exact HS1.out | with_reducible exact Blk.new _ _ _ | with_reducible apply Blk.drewN | with_reducible apply Blk.drew | with_reducible apply Blk.set' | (with_reducible apply Blk.set_other (hp := by first | assumption | (simp; done) | (simp; omega) | omega)) | (with_reducible apply Blk.new'; focus (first | (simp; done) | (simp; omega))) | with_reducible apply Blk.alloc | exact HS1.out)) <;> rfl)
            · (repeat' (first | with_reducible exact HF.out | with_reducible exact Frm.refl _ _ | with_reducible refine Frm.drewN ?_ _ | with_reducible refine Frm.drew ?_ | with_reducible refine Frm.setCell ?_ (by first | exact Or.inl rfl | exact Or.inr (Nat.le_refl _) | (simp; done) | (simp; omega)) _ | with_reducible refine Frm.alloc ?_ _ | exact Frm.refl _ _ | exact HF.out))
        · have his' : S.f4.is = false := by simpa using his
          have q0' := q0
          rw [his'] at q0'
          clear q0
          have hS := HT2.out
          rw [if_neg (fun h => his h.1)] at hS
          subst hS
          go_wp2_with fail
          go_region
          go_wp2_with fail
          go_ret
          refine ⟨rfl, ?_, ?_⟩
          · unfold ShipAt; ((repeat' (first | with_reducible exact HS1.out | with_reducible exact Blk.new _ _ _ | with_reducible apply Blk.drewN | with_reducible apply Blk.drew | with_reducible apply Blk.set' | (with_reducible apply Blk.set_other (hp := by first | assumption | (simp; done) | (simp; omega) | omega)) | (with_reducible apply Blk.new'; focus (first | (simp; done) | (simp; omega))) | with_reducible apply Blk.alloc | exact HS1.out)) <;> rfl)
          · (repeat' (first | with_reducible exact HF.out | with_reducible exact Frm.refl _ _ | with_reducible refine Frm.drewN ?_ _ | with_reducible refine Frm.drew ?_ | with_reducible refine Frm.setCell ?_ (by first | exact Or.inl rfl | exact Or.inr (Nat.le_refl _) | (simp; done) | (simp; omega)) _ | with_reducible refine Frm.alloc ?_ _ | exact Frm.refl _ _ | exact HF.out))

end Go.Proofs.Ytedcdjlpogpgbaa
