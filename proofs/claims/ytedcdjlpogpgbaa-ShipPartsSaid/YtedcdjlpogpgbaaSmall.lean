/- The laws' small helpers: one, simple; Master. -/
import Derived.Test.YtedcdjlpogpgbaaGet
import Derived.Test.YtedcdjlpogpgbaaNew
import Derived.Test.YtedcdjlpogpgbaaLog
set_option linter.unusedVariables false
set_option linter.unusedSimpArgs false
namespace Go.Proofs.Ytedcdjlpogpgbaa
open Go.RowKit

theorem fld_text (a b : Int) (c : Bool) (t : ByteArray) (w : World) : (Instr.field 46 (.agg #[.int .i64 a, .int .i64 b, .bool c, .string t]) 2).run Try.prog w = .ok (.string t) w := by kernel_rfl
theorem fld_there (a b : Int) (c : Bool) (t : ByteArray) (w : World) : (Instr.field 46 (.agg #[.int .i64 a, .int .i64 b, .bool c, .string t]) 1).run Try.prog w = .ok (.bool c) w := by kernel_rfl
theorem fld_index (a b : Int) (w : World) : (Instr.field 33 (.agg #[.int .i64 a, .int .i64 b]) 1).run Try.prog w = .ok (.int .i64 b) w := by kernel_rfl

theorem ent_agg (w : World) : (isAgg 35).run Try.prog w = .ok true w := by kernel_rfl
theorem ent_size (w : World) : (sizeOf 35).run Try.prog w = .ok 7 w := by kernel_rfl
set_option maxRecDepth 100000 in
set_option maxHeartbeats 4000000 in
theorem one_any (w : World) : Calls Try.prog 19 #[] w fun e w' => ∃ v, e = .returned v ∧ SlAt w' v oneT.length (epsCells oneT) ∧ Below w.heap.size w w' := by
  go_enter Try.func19, Try.ntmps19
  go_wp2_with fail
  go_ret
  exact ⟨_, rfl, sl_one (cs := epVal ⟨1, 0, false⟩) (T := 29) (by ((repeat' (first | with_reducible exact Blk.new _ _ _ | with_reducible apply Blk.drewN | with_reducible apply Blk.drew | with_reducible apply Blk.set' | (with_reducible apply Blk.set_other (hp := by first | assumption | (simp; done) | (simp; omega) | omega)) | (with_reducible apply Blk.new'; focus (first | (simp; done) | (simp; omega))) | with_reducible apply Blk.alloc)) <;> rfl)), by (repeat' (first | with_reducible exact Below.refl _ _ | with_reducible refine below_drewN ?_ _ | with_reducible refine Below.drew ?_ | with_reducible refine Below.setCell ?_ (by first | exact Nat.le_refl _ | (simp; done) | (simp; omega) | omega) _ | with_reducible refine Below.alloc ?_ (by first | exact Nat.le_refl _ | (simp; done) | (simp; omega) | omega) _ | exact Below.refl _ _))⟩

set_option maxRecDepth 100000 in
set_option maxHeartbeats 4000000 in
theorem simple_any (i : Int) (k t : ByteArray) (w : World) (h1 : 0 ≤ i) (h2 : i ≤ 1000000) :
    Calls Try.prog 14 #[.int .i64 i, .string k, .string t] w fun e w' => e = .returned (.agg (entVal (simpleE i k t))) ∧ Below w.heap.size w w' := by
  have e0 : i.tmod 3 = i % 3 := Int.tmod_eq_emod_of_nonneg h1
  go_enter Try.func14, Try.ntmps14
  go_wp2_with fail
  refine ret_cell rfl rfl (loads_blk (T := 35) (cs := entVal (simpleE i k t)) ent_agg ent_size ?_ rfl) rfl ⟨rfl, ?_⟩
  · have hE : entVal (simpleE i k t) = #[.int .i64 1, .int .i64 i, .int .i64 (1 + i % 3), .int .i64 i, .string k, .bool false, .string t] := by simp [entVal, simpleE, e0]
    rw [hE]; ((repeat' (first | with_reducible exact Blk.new _ _ _ | with_reducible apply Blk.drewN | with_reducible apply Blk.drew | with_reducible apply Blk.set' | (with_reducible apply Blk.set_other (hp := by first | assumption | (simp; done) | (simp; omega) | omega)) | (with_reducible apply Blk.new'; focus (first | (simp; done) | (simp; omega))) | with_reducible apply Blk.alloc)) <;> rfl)
  · (repeat' (first | with_reducible exact Below.refl _ _ | with_reducible refine below_drewN ?_ _ | with_reducible refine Below.drew ?_ | with_reducible refine Below.setCell ?_ (by first | exact Nat.le_refl _ | (simp; done) | (simp; omega) | omega) _ | with_reducible refine Below.alloc ?_ (by first | exact Nat.le_refl _ | (simp; done) | (simp; omega) | omega) _ | exact Below.refl _ _))

set_option maxRecDepth 100000 in
set_option maxHeartbeats 4000000 in
theorem Master_any (L : Lay) (s : St) (w : World) (h : StAt w L s) (hn : 0 < s.table.length) (hm : s.table.length ≤ 1000) :
    Calls Try.prog 16 #[.pointer (some ⟨L.b, 0, none⟩)] w fun e w' => e = .returned (.int .i64 (ep s.table (s.table.length - 1)).m) ∧ Below w.heap.size w w' := by
  have hbl := h.blk.lt
  obtain ⟨b, o, c, htv, hc1, hc2, hb, hcell⟩ := eps_at (own_sl h.tab) hn
  have c4 : w.cell? ⟨L.b, 4, none⟩ = some (.slice (some ⟨b, o, none⟩) s.table.length c) := by rw [h.blk.cell, ← htv]; rfl
  obtain ⟨a0, _, _⟩ := hcell (s.table.length - 1) (by omega)
  obtain ⟨n, hN⟩ : ∃ n, s.table.length = n + 1 := ⟨s.table.length - 1, by omega⟩
  obtain ⟨m, hM⟩ : ∃ m, (ep s.table (s.table.length - 1)).m = m := ⟨_, rfl⟩
  rw [hM] at a0 ⊢
  rw [hN] at c4 a0
  simp only [Nat.add_sub_cancel] at a0
  have hn1 : n ≤ 1000 := by omega
  clear h htv hcell hM hN hn hm
  go_enter Try.func16, Try.ntmps16
  go_wp2_with fail
  go_quiet (fail)
  go_wp2_with fail
  go_ret
  exact ⟨rfl, by (repeat' (first | with_reducible exact Below.refl _ _ | with_reducible refine below_drewN ?_ _ | with_reducible refine Below.drew ?_ | with_reducible refine Below.setCell ?_ (by first | exact Nat.le_refl _ | (simp; done) | (simp; omega) | omega) _ | with_reducible refine Below.alloc ?_ (by first | exact Nat.le_refl _ | (simp; done) | (simp; omega) | omega) _ | exact Below.refl _ _))⟩

end Go.Proofs.Ytedcdjlpogpgbaa
