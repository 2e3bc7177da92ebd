/- Layer 15: Table, Base, Closed. -/
import Derived.Test.YtedcdjlpogpgbaaNew
set_option linter.unusedVariables false
set_option linter.unusedSimpArgs false
namespace Go.Proofs.Ytedcdjlpogpgbaa
open Go.RowKit

set_option maxRecDepth 100000 in
set_option maxHeartbeats 4000000 in
theorem Closed_any (L : Lay) (s : St) (w : World) (h : StAt w L s) :
    Calls Try.prog 24 #[.pointer (some ⟨L.b, 0, none⟩)] w fun e w' => e = .returned (.bool s.closed) ∧ Below w.heap.size w w' := by
  have hbl := h.blk.lt
  have c10 : World.cell? w ⟨L.b, 10, none⟩ = some (.bool s.closed) := by rw [Blk.cell h.blk]; rfl
  clear h
  go_enter Try.func24, Try.ntmps24
  go_wp2_with fail
  go_ret
  exact ⟨rfl, by (repeat' (first | with_reducible exact Below.refl _ _ | with_reducible refine below_drewN ?_ _ | with_reducible refine Below.drew ?_ | with_reducible refine Below.setCell ?_ (by first | exact Nat.le_refl _ | (simp; done) | (simp; omega) | omega) _ | with_reducible refine Below.alloc ?_ (by first | exact Nat.le_refl _ | (simp; done) | (simp; omega) | omega) _ | exact Below.refl _ _))⟩

set_option maxRecDepth 100000 in
set_option maxHeartbeats 4000000 in
theorem Base_any (L : Lay) (s : St) (w : World) (h : StAt w L s) :
    Calls Try.prog 29 #[.pointer (some ⟨L.b, 0, none⟩)] w fun e w' => e = .returned (.agg (posCells s.base.pos)) ∧ Below w.heap.size w w' := by
  have hbl := h.blk.lt
  have c5 : World.cell? w ⟨L.b, 5, none⟩ = some (.int .i64 s.base.pos.e) := by rw [Blk.cell h.blk]; rfl
  have c6 : World.cell? w ⟨L.b, 6, none⟩ = some (.int .i64 s.base.pos.i) := by rw [Blk.cell h.blk]; rfl
  clear h
  go_enter Try.func29, Try.ntmps29
  go_wp2_with fail
  refine ret_cell rfl rfl (loads_blk (T := 33) (cs := posCells s.base.pos) pos_agg pos_size ?_ rfl) rfl ⟨rfl, ?_⟩
  · ((repeat' (first | with_reducible exact Blk.new _ _ _ | with_reducible apply Blk.drewN | with_reducible apply Blk.drew | with_reducible apply Blk.set' | (with_reducible apply Blk.set_other (hp := by first | assumption | (simp; done) | (simp; omega) | omega)) | (with_reducible apply Blk.new'; focus (first | (simp; done) | (simp; omega))) | with_reducible apply Blk.alloc)) <;> rfl)
  · (repeat' (first | with_reducible exact Below.refl _ _ | with_reducible refine below_drewN ?_ _ | with_reducible refine Below.drew ?_ | with_reducible refine Below.setCell ?_ (by first | exact Nat.le_refl _ | (simp; done) | (simp; omega) | omega) _ | with_reducible refine Below.alloc ?_ (by first | exact Nat.le_refl _ | (simp; done) | (simp; omega) | omega) _ | exact Below.refl _ _))

def TableRes (t : List Ep) (w : World) (e : Ending) (w' : World) : Prop :=
  ∃ v, e = .returned v ∧ w'.ownsRow 0 29 3 v t.length (epsCells t) ∧ (∀ c, v.ownBlock = some c → w.heap.size ≤ c) ∧ Below w.heap.size w w'
set_option maxRecDepth 100000 in
set_option maxHeartbeats 4000000 in
theorem Table_any (L : Lay) (s : St) (w : World) (h : StAt w L s) (hl : s.table.length ≤ 1000) :
    Calls Try.prog 26 #[.pointer (some ⟨L.b, 0, none⟩)] w (TableRes s.table w) := by
  have hbl := h.blk.lt
  have c4 : World.cell? w ⟨L.b, 4, none⟩ = some (L.tv) := by rw [Blk.cell h.blk]; rfl
  have HTV := Lib.hid (own_sl h.tab)
  clear h
  go_enter Try.func26, Try.ntmps26
  go_upto_region 3 with (fail)
  obtain ⟨v', w3, happ, hown, hgr, hob⟩ := run_append_sl (P := Try.prog) (w := (w.alloc (.cells #[] 29))) 30 30 29 3 24 _ Try.underlying30 ep_info rfl (by omega) (.slice (some ⟨w.heap.size, 0, none⟩) 0 0) 0 [] (own_blk0 3 (Blk.new' rfl rfl)) L.tv s.table.length (epsCells s.table) (HTV.out.below (by (repeat' (first | with_reducible exact Below.refl _ _ | with_reducible refine below_drewN ?_ _ | with_reducible refine Below.drew ?_ | with_reducible refine Below.setCell ?_ (by first | exact Nat.le_refl _ | (simp; done) | (simp; omega) | omega) _ | with_reducible refine Below.alloc ?_ (by first | exact Nat.le_refl _ | (simp; done) | (simp; omega) | omega) _ | exact Below.refl _ _)))) (epsCells_length _) (epsCells_one _) (by omega) (by unfold maxLen; omega)
  rw [Nat.zero_add] at hown
  obtain ⟨A', ca', hv', _⟩ := own_sl hown
  subst hv'
  have HFR := Lib.hid (Frm.ofGrown hgr)
  have HO := Lib.hid hown
  have HOB := Lib.hid hob
  clear hown hgr hob
  go_wp2_with (refine list_append_run rfl _ _ _ _ rfl rfl (by rfl) (by rfl) happ ?_)
  go_ret
  have hg : ∀ c, (Value.slice A' s.table.length ca').ownBlock = some c → w.heap.size ≤ c := by
    intro c hc
    rcases HOB.out with h | h
    · rw [h] at hc; injection hc with hc; rw [← hc]; exact Nat.le_refl _
    · rw [h] at hc; injection hc with hc; rw [← hc]; simp
  exact ⟨.slice A' s.table.length ca', rfl, by simpa using HO.out, hg, Frm.ge (W := w.alloc (.cells #[] 29)) (by (repeat' (first | with_reducible exact Below.refl _ _ | with_reducible refine below_drewN ?_ _ | with_reducible refine Below.drew ?_ | with_reducible refine Below.setCell ?_ (by first | exact Nat.le_refl _ | (simp; done) | (simp; omega) | omega) _ | with_reducible refine Below.alloc ?_ (by first | exact Nat.le_refl _ | (simp; done) | (simp; omega) | omega) _ | exact Below.refl _ _))) HFR.out (by intro c hc; injection hc with hc; rw [← hc]; exact Nat.le_refl _)⟩

end Go.Proofs.Ytedcdjlpogpgbaa
