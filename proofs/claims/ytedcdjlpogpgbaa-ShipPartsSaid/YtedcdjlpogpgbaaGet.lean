/- Layer 15: New and what a state tells. -/
import Derived.Test.YtedcdjlpogpgbaaAdopt
set_option linter.unusedVariables false
set_option linter.unusedSimpArgs false
namespace Go.Proofs.Ytedcdjlpogpgbaa
open Go.RowKit

set_option maxRecDepth 100000 in
set_option maxHeartbeats 4000000 in
theorem Last_any (L : Lay) (s : St) (w : World) (h : StAt w L s) :
    Calls Try.prog 15 #[.pointer (some ⟨L.b, 0, none⟩)] w fun e w' => e = .returned (.agg (posCells s.pos)) ∧ Below w.heap.size w w' := by
  have hbl := h.blk.lt
  have c0 : World.cell? w ⟨L.b, 0, none⟩ = some (.int .i64 s.pos.e) := by rw [Blk.cell h.blk]; rfl
  have c1 : World.cell? w ⟨L.b, 1, none⟩ = some (.int .i64 s.pos.i) := by rw [Blk.cell h.blk]; rfl
  clear h
  go_enter Try.func15, Try.ntmps15
  go_wp2_with fail
  refine ret_cell rfl rfl (loads_blk (T := 33) (cs := posCells s.pos) pos_agg pos_size ?_ rfl) rfl ⟨rfl, ?_⟩
  · ((repeat' (first | with_reducible exact Blk.new _ _ _ | with_reducible apply Blk.drewN | with_reducible apply Blk.drew | with_reducible apply Blk.set' | (with_reducible apply Blk.set_other (hp := by first | assumption | (simp; done) | (simp; omega) | omega)) | (with_reducible apply Blk.new'; focus (first | (simp; done) | (simp; omega))) | with_reducible apply Blk.alloc)) <;> rfl)
  · (repeat' (first | with_reducible exact Below.refl _ _ | with_reducible refine below_drewN ?_ _ | with_reducible refine Below.drew ?_ | with_reducible refine Below.setCell ?_ (by first | exact Nat.le_refl _ | (simp; done) | (simp; omega) | omega) _ | with_reducible refine Below.alloc ?_ (by first | exact Nat.le_refl _ | (simp; done) | (simp; omega) | omega) _ | exact Below.refl _ _))

set_option maxRecDepth 100000 in
set_option maxHeartbeats 4000000 in
theorem Config_any (L : Lay) (s : St) (w : World) (h : StAt w L s) :
    Calls Try.prog 17 #[.pointer (some ⟨L.b, 0, none⟩)] w fun e w' => e = .returned (.int .i64 s.table.length) ∧ Below w.heap.size w w' := by
  have hbl := h.blk.lt
  obtain ⟨A, ca, htv, _⟩ := own_sl h.tab
  have c4 : w.cell? ⟨L.b, 4, none⟩ = some (.slice A s.table.length ca) := by rw [h.blk.cell, ← htv]; rfl
  clear h htv
  go_enter Try.func17, Try.ntmps17
  go_wp2_with fail
  go_ret
  exact ⟨rfl, by (repeat' (first | with_reducible exact Below.refl _ _ | with_reducible refine below_drewN ?_ _ | with_reducible refine Below.drew ?_ | with_reducible refine Below.setCell ?_ (by first | exact Nat.le_refl _ | (simp; done) | (simp; omega) | omega) _ | with_reducible refine Below.alloc ?_ (by first | exact Nat.le_refl _ | (simp; done) | (simp; omega) | omega) _ | exact Below.refl _ _))⟩

set_option maxRecDepth 100000 in
set_option maxHeartbeats 4000000 in
theorem Get_state (L : Lay) (s : St) (key : ByteArray) (w : World) (h : StAt w L s) :
    Calls Try.prog 18 #[.pointer (some ⟨L.b, 0, none⟩), .string key] w fun e w' => e = .returned (.agg (valCells ((getL key s.keys).getD zeroVal))) ∧ Below w.heap.size w w' := by
  have hbl := h.blk.lt
  have c2 : World.cell? w ⟨L.b, 2, none⟩ = some (.pointer (some ⟨L.kb, 0, none⟩)) := by rw [Blk.cell h.blk]; rfl
  obtain ⟨v, hv⟩ : ∃ v, (getL key s.keys).getD zeroVal = v := ⟨_, rfl⟩
  have hg : ∀ W : World, Below w.heap.size w W → Calls Try.prog 51 #[.pointer (some ⟨L.kb, 0, none⟩), .string key] W fun e w' => e = .returned (.tuple #[.agg #[.int .i64 v.pos.e, .int .i64 v.pos.i, .bool v.th, .string v.t], .bool (getL key s.keys).isSome]) ∧ Below W.heap.size W w' := by
    intro W hW
    have := Get_any L.kb L.t key W (h.below hW).fold.keys
    rw [h.keys, hv] at this
    exact this
  rw [hv]
  have HG := Lib.hid hg
  clear h hg hv
  go_enter Try.func18, Try.ntmps18
  go_wp2_with fail
  refine (HG.out _ (by (repeat' (first | with_reducible exact Below.refl _ _ | with_reducible refine below_drewN ?_ _ | with_reducible refine Below.drew ?_ | with_reducible refine Below.setCell ?_ (by first | exact Nat.le_refl _ | (simp; done) | (simp; omega) | omega) _ | with_reducible refine Below.alloc ?_ (by first | exact Nat.le_refl _ | (simp; done) | (simp; omega) | omega) _ | exact Below.refl _ _)))).mono ?_
  rintro e w1 ⟨rfl, hb⟩
  have hz := (Blk.new w (valCells zeroVal) 46).below hb
  have HB := Lib.hid (((Below.refl _ w).alloc (Nat.le_refl _) (.cells (valCells zeroVal) 46)).trans (hb.mono (by simp)))
  have HZ := Lib.hid hz
  have z0 : World.cell? w1 ⟨w.heap.size, 0, none⟩ = some (.int .i64 0) := by rw [Blk.cell hz]; rfl
  have z1 : World.cell? w1 ⟨w.heap.size, 1, none⟩ = some (.int .i64 0) := by rw [Blk.cell hz]; rfl
  have z2 : World.cell? w1 ⟨w.heap.size, 2, none⟩ = some (.bool false) := by rw [Blk.cell hz]; rfl
  have z3 : World.cell? w1 ⟨w.heap.size, 3, none⟩ = some (.string ⟨#[]⟩) := by rw [Blk.cell hz]; rfl
  have y0 := Blk.free hz 0
  have y1 := Blk.free hz 1
  have y2 := Blk.free hz 2
  have y3 := Blk.free hz 3
  have hz1 := hz.lt
  clear hb hz
  go_wp2_with fail
  refine ret_cell rfl rfl (loads_blk (T := 46) (cs := valCells v) val_agg val_size ?_ rfl) rfl ⟨rfl, ?_⟩
  · ((repeat' (first | with_reducible exact HZ.out | with_reducible exact Blk.new _ _ _ | with_reducible apply Blk.drewN | with_reducible apply Blk.drew | with_reducible apply Blk.set' | (with_reducible apply Blk.set_other (hp := by first | assumption | (simp; done) | (simp; omega) | omega)) | (with_reducible apply Blk.new'; focus (first | (simp; done) | (simp; omega))) | with_reducible apply Blk.alloc | exact HZ.out)) <;> rfl)
  · (repeat' (first | with_reducible exact HB.out | with_reducible exact Below.refl _ _ | with_reducible refine below_drewN ?_ _ | with_reducible refine Below.drew ?_ | with_reducible refine Below.setCell ?_ (by first | exact Nat.le_refl _ | (simp; done) | (simp; omega) | omega) _ | with_reducible refine Below.alloc ?_ (by first | exact Nat.le_refl _ | (simp; done) | (simp; omega) | omega) _ | exact Below.refl _ _ | exact HB.out))

end Go.Proofs.Ytedcdjlpogpgbaa
