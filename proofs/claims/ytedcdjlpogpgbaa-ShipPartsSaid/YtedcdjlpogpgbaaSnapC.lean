/- The reference's Snap: a snapshot in new memory. -/
import Derived.Test.YtedcdjlpogpgbaaWords
set_option linter.unusedVariables false
set_option linter.unusedSimpArgs false
namespace Go.Proofs.Ytedcdjlpogpgbaa
open Go.RowKit

theorem snp_agg (w : World) : (isAgg 40).run Try.prog w = .ok true w := by kernel_rfl
theorem snp_size (w : World) : (sizeOf 40).run Try.prog w = .ok 4 w := by kernel_rfl
/-- A snapshot in new memory. -/
def SnapRes (p : Pos) (ps : List (ByteArray × Val)) (ss : List Sn) (w : World) (e : Ending) (w' : World) : Prop :=
  ∃ pv sv, e = .returned (.agg (snapVal p pv sv)) ∧ w'.ownsRow 0 67 5 pv ps.length (pairsCells ps) ∧ w'.ownsRow 0 69 4 sv ss.length (snsCells ss) ∧ (∀ c, pv.ownBlock = some c → w.heap.size ≤ c) ∧ (∀ c, sv.ownBlock = some c → w.heap.size ≤ c) ∧ Below w.heap.size w w'
set_option maxRecDepth 100000 in
set_option maxHeartbeats 4000000 in
theorem Snap_any (p : Pos) (pv sv : Value) (ps : List (ByteArray × Val)) (ss : List Sn) (w : World) (hp : SlAt w pv ps.length (pairsCells ps)) (hs : SlAt w sv ss.length (snsCells ss)) (hlp : ps.length ≤ 1000000000) (hls : ss.length ≤ 1000000000) :
    Calls Try.prog 35 #[.agg (snapVal p pv sv)] w (SnapRes p ps ss w) := by
  obtain ⟨pA, pc, hpv, _⟩ := id hp
  obtain ⟨sA, sc, hsv, _⟩ := id hs
  have HP := Lib.hid hp
  have HS := Lib.hid hs
  subst hpv
  subst hsv
  clear hp hs
  unfold snapVal
  go_enter Try.func35, Try.ntmps35
  go_upto_region 1 with (fail)
  refine wp_name ?_
  intro w2 hw2
  have X2 : Blk w2 w.heap.size (snapVal p (.slice pA ps.length pc) (.slice sA ss.length sc)) 40 := by rw [hw2]; ((repeat' (first | with_reducible exact Blk.new _ _ _ | with_reducible apply Blk.drewN | with_reducible apply Blk.drew | with_reducible apply Blk.set' | (with_reducible apply Blk.set_other (hp := by first | assumption | (simp; done) | (simp; omega) | omega)) | (with_reducible apply Blk.new'; focus (first | (simp; done) | (simp; omega))) | with_reducible apply Blk.alloc)) <;> rfl)
  have R2 : Blk w2 (w.heap.size + 1) (snapVal zeroPos (.slice none 0 0) (.slice none 0 0)) 40 := by rw [hw2]; ((repeat' (first | with_reducible exact Blk.new _ _ _ | with_reducible apply Blk.drewN | with_reducible apply Blk.drew | with_reducible apply Blk.set' | (with_reducible apply Blk.set_other (hp := by first | assumption | (simp; done) | (simp; omega) | omega)) | (with_reducible apply Blk.new'; focus (first | (simp; done) | (simp; omega))) | with_reducible apply Blk.alloc)) <;> rfl)
  have B2 : Below w.heap.size w w2 := by rw [hw2]; (repeat' (first | with_reducible exact Below.refl _ _ | with_reducible refine below_drewN ?_ _ | with_reducible refine Below.drew ?_ | with_reducible refine Below.setCell ?_ (by first | exact Nat.le_refl _ | (simp; done) | (simp; omega) | omega) _ | with_reducible refine Below.alloc ?_ (by first | exact Nat.le_refl _ | (simp; done) | (simp; omega) | omega) _ | exact Below.refl _ _))
  have hs2 : w.heap.size + 2 ≤ w2.heap.size := by rw [hw2]; simp
  clear hw2
  have hx2 := X2.lt
  have x2 : w2.cell? ⟨w.heap.size, 2, none⟩ = some (.slice pA ps.length pc) := by rw [X2.cell]; rfl
  obtain ⟨v', w3, happ, hown, hgr, hob⟩ := run_append_sl (P := Try.prog) (w := (w2.alloc (.cells #[] 67))) 37 37 67 5 56 _ Try.underlying37 pr_info rfl (by omega) (.slice (some ⟨w2.heap.size, 0, none⟩) 0 0) 0 [] (own_blk0 5 (Blk.new' rfl rfl)) (.slice pA ps.length pc) ps.length (pairsCells ps) (HP.out.below (by (repeat' (first | with_reducible exact B2 | with_reducible exact Below.refl _ _ | with_reducible refine below_drewN ?_ _ | with_reducible refine Below.drew ?_ | with_reducible refine Below.setCell ?_ (by first | exact Nat.le_refl _ | (simp; done) | (simp; omega) | omega) _ | with_reducible refine Below.alloc ?_ (by first | exact Nat.le_refl _ | (simp; done) | (simp; omega) | omega) _ | exact Below.refl _ _ | exact B2)))) (pairsCells_length _) (pairsCells_one _) (by omega) (by unfold maxLen; omega)
  rw [Nat.zero_add] at hown
  obtain ⟨A', ca', hv', _⟩ := own_sl hown
  subst hv'
  have hF3 : Frm (fun c => c = w2.heap.size) (w2.alloc (.cells #[] 67)) w3 := (Frm.ofGrown hgr).mono (fun i _ h => by injection h with h; exact h.symm)
  have hB23 : Below w2.heap.size w2 w3 := Frm.ge (W := w2.alloc (.cells #[] 67)) (by (repeat' (first | with_reducible exact Below.refl _ _ | with_reducible refine below_drewN ?_ _ | with_reducible refine Below.drew ?_ | with_reducible refine Below.setCell ?_ (by first | exact Nat.le_refl _ | (simp; done) | (simp; omega) | omega) _ | with_reducible refine Below.alloc ?_ (by first | exact Nat.le_refl _ | (simp; done) | (simp; omega) | omega) _ | exact Below.refl _ _))) hF3 (fun c hc => by omega)
  have hn1 : ∀ c, (Value.slice A' ps.length ca').ownBlock = some c → w2.heap.size ≤ c := by
    intro c hc
    rcases hob with h | h
    · rw [h] at hc; injection hc with hc; rw [← hc]; exact Nat.le_refl _
    · rw [h] at hc; injection hc with hc; rw [← hc]; simp
  have X3 := X2.below hB23
  have R3 := R2.below hB23
  have B3 := B2.trans (hB23.mono B2.size)
  have x3 : w3.cell? ⟨w.heap.size, 2, none⟩ = some (.slice pA ps.length pc) := by rw [X3.cell]; rfl
  have f3 := X3.free 2
  have hx3 := X3.lt
  have hs3 := hB23.size
  have HX3 := Lib.hid X3
  have HR3 := Lib.hid R3
  have HB3 := Lib.hid B3
  have HN1 := Lib.hid hn1
  have HO1 := Lib.hid (show w3.ownsRow 0 67 5 (.slice A' ps.length ca') ps.length (pairsCells ps) by simpa using hown)
  clear X2 R2 B2 hown hgr hob hF3 hB23 hn1 X3 R3 B3
  go_upto_region 2 with (refine list_append_run rfl _ _ _ _ rfl rfl (by rfl) (by rfl) happ ?_)
  refine wp_name ?_
  intro w4 hw4
  have X4 : Blk w4 w.heap.size (snapVal p (.slice A' ps.length ca') (.slice sA ss.length sc)) 40 := by rw [hw4]; ((repeat' (first | with_reducible exact HX3.out | with_reducible exact Blk.new _ _ _ | with_reducible apply Blk.drewN | with_reducible apply Blk.drew | with_reducible apply Blk.set' | (with_reducible apply Blk.set_other (hp := by first | assumption | (simp; done) | (simp; omega) | omega)) | (with_reducible apply Blk.new'; focus (first | (simp; done) | (simp; omega))) | with_reducible apply Blk.alloc | exact HX3.out)) <;> rfl)
  have R4 : Blk w4 (w.heap.size + 1) (snapVal zeroPos (.slice none 0 0) (.slice none 0 0)) 40 := by rw [hw4]; ((repeat' (first | with_reducible exact HR3.out | with_reducible exact Blk.new _ _ _ | with_reducible apply Blk.drewN | with_reducible apply Blk.drew | with_reducible apply Blk.set' | (with_reducible apply Blk.set_other (hp := by first | assumption | (simp; done) | (simp; omega) | omega)) | (with_reducible apply Blk.new'; focus (first | (simp; done) | (simp; omega))) | with_reducible apply Blk.alloc | exact HR3.out)) <;> rfl)
  have F34 : Frm (fun c => c = w.heap.size) w3 w4 := by rw [hw4]; (repeat' (first | with_reducible exact Frm.refl _ _ | with_reducible refine Frm.drewN ?_ _ | with_reducible refine Frm.drew ?_ | with_reducible refine Frm.setCell ?_ (by first | exact Or.inl rfl | exact Or.inr (Nat.le_refl _) | (simp; done) | (simp; omega)) _ | with_reducible refine Frm.alloc ?_ _ | exact Frm.refl _ _))
  clear hw4 x2 x3 f3 happ
  have B4 : Below w.heap.size w w4 := HB3.out.trans ⟨F34.os, F34.tape, F34.output, F34.size, fun i hi => F34.block i (by omega) (by omega)⟩
  have hs4 := F34.size
  have O4 := own_frm HO1.out F34 (fun c hc e => by have := HN1.out c hc; omega)
  have hx4 := X4.lt
  have x4 : w4.cell? ⟨w.heap.size, 3, none⟩ = some (.slice sA ss.length sc) := by rw [X4.cell]; rfl
  obtain ⟨v'', w5, happ2, hown2, hgr2, hob2⟩ := run_append_sl (P := Try.prog) (w := (w4.alloc (.cells #[] 69))) 38 38 69 4 32 _ Try.underlying38 se_info rfl (by omega) (.slice (some ⟨w4.heap.size, 0, none⟩) 0 0) 0 [] (own_blk0 4 (Blk.new' rfl rfl)) (.slice sA ss.length sc) ss.length (snsCells ss) (HS.out.below (by (repeat' (first | with_reducible exact B4 | with_reducible exact Below.refl _ _ | with_reducible refine below_drewN ?_ _ | with_reducible refine Below.drew ?_ | with_reducible refine Below.setCell ?_ (by first | exact Nat.le_refl _ | (simp; done) | (simp; omega) | omega) _ | with_reducible refine Below.alloc ?_ (by first | exact Nat.le_refl _ | (simp; done) | (simp; omega) | omega) _ | exact Below.refl _ _ | exact B4)))) (snsCells_length _) (snsCells_one _) (by omega) (by unfold maxLen; omega)
  rw [Nat.zero_add] at hown2
  obtain ⟨A'', ca'', hv'', _⟩ := own_sl hown2
  subst hv''
  have hF5 : Frm (fun c => c = w4.heap.size) (w4.alloc (.cells #[] 69)) w5 := (Frm.ofGrown hgr2).mono (fun i _ h => by injection h with h; exact h.symm)
  have hB45 : Below w4.heap.size w4 w5 := Frm.ge (W := w4.alloc (.cells #[] 69)) (by (repeat' (first | with_reducible exact Below.refl _ _ | with_reducible refine below_drewN ?_ _ | with_reducible refine Below.drew ?_ | with_reducible refine Below.setCell ?_ (by first | exact Nat.le_refl _ | (simp; done) | (simp; omega) | omega) _ | with_reducible refine Below.alloc ?_ (by first | exact Nat.le_refl _ | (simp; done) | (simp; omega) | omega) _ | exact Below.refl _ _))) hF5 (fun c hc => by omega)
  have hn2 : ∀ c, (Value.slice A'' ss.length ca'').ownBlock = some c → w4.heap.size ≤ c := by
    intro c hc
    rcases hob2 with h | h
    · rw [h] at hc; injection hc with hc; rw [← hc]; exact Nat.le_refl _
    · rw [h] at hc; injection hc with hc; rw [← hc]; simp
  have X5 := X4.below hB45
  have R5 := R4.below hB45
  have B5 := B4.trans (hB45.mono B4.size)
  have O5 := own_frm O4 (Frm.ofBelow (F := fun _ => False) hB45) (fun _ _ h => h)
  have x5 : w5.cell? ⟨w.heap.size, 3, none⟩ = some (.slice sA ss.length sc) := by rw [X5.cell]; rfl
  have f5 := X5.free 3
  have hx5 := X5.lt
  have hs5 := hB45.size
  have HX5 := Lib.hid X5
  have HR5 := Lib.hid R5
  have HB5 := Lib.hid B5
  have HN2 := Lib.hid hn2
  have HO5 := Lib.hid O5
  have HO2 := Lib.hid (show w5.ownsRow 0 69 4 (.slice A'' ss.length ca'') ss.length (snsCells ss) by simpa using hown2)
  clear X4 R4 B4 O4 F34 hown2 hgr2 hob2 hF5 hB45 hn2 X5 R5 B5 O5
  go_upto_region 3 with (refine list_append_run rfl _ _ _ _ rfl rfl (by rfl) (by rfl) happ2 ?_)
  refine wp_name ?_
  intro w6 hw6
  have X6 : Blk w6 w.heap.size (snapVal p (.slice A' ps.length ca') (.slice A'' ss.length ca'')) 40 := by rw [hw6]; ((repeat' (first | with_reducible exact HX5.out | with_reducible exact Blk.new _ _ _ | with_reducible apply Blk.drewN | with_reducible apply Blk.drew | with_reducible apply Blk.set' | (with_reducible apply Blk.set_other (hp := by first | assumption | (simp; done) | (simp; omega) | omega)) | (with_reducible apply Blk.new'; focus (first | (simp; done) | (simp; omega))) | with_reducible apply Blk.alloc | exact HX5.out)) <;> rfl)
  have R6 : Blk w6 (w.heap.size + 1) (snapVal zeroPos (.slice none 0 0) (.slice none 0 0)) 40 := by rw [hw6]; ((repeat' (first | with_reducible exact HR5.out | with_reducible exact Blk.new _ _ _ | with_reducible apply Blk.drewN | with_reducible apply Blk.drew | with_reducible apply Blk.set' | (with_reducible apply Blk.set_other (hp := by first | assumption | (simp; done) | (simp; omega) | omega)) | (with_reducible apply Blk.new'; focus (first | (simp; done) | (simp; omega))) | with_reducible apply Blk.alloc | exact HR5.out)) <;> rfl)
  have F56 : Frm (fun c => c = w.heap.size) w5 w6 := by rw [hw6]; (repeat' (first | with_reducible exact Frm.refl _ _ | with_reducible refine Frm.drewN ?_ _ | with_reducible refine Frm.drew ?_ | with_reducible refine Frm.setCell ?_ (by first | exact Or.inl rfl | exact Or.inr (Nat.le_refl _) | (simp; done) | (simp; omega)) _ | with_reducible refine Frm.alloc ?_ _ | exact Frm.refl _ _))
  clear hw6 x4 x5 f5 happ2
  have O6 := own_frm HO5.out F56 (fun c hc e => by have := HN1.out c hc; omega)
  have P6 := own_frm HO2.out F56 (fun c hc e => by have := HN2.out c hc; omega)
  have B6 : Below w.heap.size w w6 := HB5.out.trans ⟨F56.os, F56.tape, F56.output, F56.size, fun i hi => F56.block i (by omega) (by omega)⟩
  have a0 : World.cell? w6 ⟨w.heap.size, 0, none⟩ = some (.int .i64 p.e) := by rw [Blk.cell X6]; rfl
  have a1 : World.cell? w6 ⟨w.heap.size, 1, none⟩ = some (.int .i64 p.i) := by rw [Blk.cell X6]; rfl
  have a2 : World.cell? w6 ⟨w.heap.size, 2, none⟩ = some (.slice A' ps.length ca') := by rw [Blk.cell X6]; rfl
  have a3 : World.cell? w6 ⟨w.heap.size, 3, none⟩ = some (.slice A'' ss.length ca'') := by rw [Blk.cell X6]; rfl
  have r0 : World.cell? w6 ⟨w.heap.size + 1, 0, none⟩ = some (.int .i64 0) := by rw [Blk.cell R6]; rfl
  have r1 : World.cell? w6 ⟨w.heap.size + 1, 1, none⟩ = some (.int .i64 0) := by rw [Blk.cell R6]; rfl
  have r2 : World.cell? w6 ⟨w.heap.size + 1, 2, none⟩ = some (.slice none 0 0) := by rw [Blk.cell R6]; rfl
  have r3 : World.cell? w6 ⟨w.heap.size + 1, 3, none⟩ = some (.slice none 0 0) := by rw [Blk.cell R6]; rfl
  have y0 := Blk.free R6 0
  have y1 := Blk.free R6 1
  have y2 := Blk.free R6 2
  have y3 := Blk.free R6 3
  have hx6 := X6.lt
  have hr6 := R6.lt
  have HR6 := Lib.hid R6
  have HO6 := Lib.hid O6
  have HP6 := Lib.hid P6
  have HB6 := Lib.hid B6
  clear X6 R6 O6 P6 B6 F56
  go_wp2_with fail
  refine ret_cell rfl rfl (loads_blk (T := 40) (cs := snapVal p (.slice A' ps.length ca') (.slice A'' ss.length ca'')) snp_agg snp_size ?_ rfl) rfl ⟨_, _, rfl, ?_, ?_, ?_, ?_, ?_⟩
  · ((repeat' (first | with_reducible exact HR6.out | with_reducible exact Blk.new _ _ _ | with_reducible apply Blk.drewN | with_reducible apply Blk.drew | with_reducible apply Blk.set' | (with_reducible apply Blk.set_other (hp := by first | assumption | (simp; done) | (simp; omega) | omega)) | (with_reducible apply Blk.new'; focus (first | (simp; done) | (simp; omega))) | with_reducible apply Blk.alloc | exact HR6.out)) <;> rfl)
  · exact own_frm HO6.out (F := fun c => c = w.heap.size + 1) (by (repeat' (first | with_reducible exact Frm.refl _ _ | with_reducible refine Frm.drewN ?_ _ | with_reducible refine Frm.drew ?_ | with_reducible refine Frm.setCell ?_ (by first | exact Or.inl rfl | exact Or.inr (Nat.le_refl _) | (simp; done) | (simp; omega)) _ | with_reducible refine Frm.alloc ?_ _ | exact Frm.refl _ _))) (fun c hc e => by have := HN1.out c hc; omega)
  · exact own_frm HP6.out (F := fun c => c = w.heap.size + 1) (by (repeat' (first | with_reducible exact Frm.refl _ _ | with_reducible refine Frm.drewN ?_ _ | with_reducible refine Frm.drew ?_ | with_reducible refine Frm.setCell ?_ (by first | exact Or.inl rfl | exact Or.inr (Nat.le_refl _) | (simp; done) | (simp; omega)) _ | with_reducible refine Frm.alloc ?_ _ | exact Frm.refl _ _))) (fun c hc e => by have := HN2.out c hc; omega)
  · intro c hc; have := HN1.out c hc; omega
  · intro c hc; have := HN2.out c hc; omega
  · (repeat' (first | with_reducible exact HB6.out | with_reducible exact Below.refl _ _ | with_reducible refine below_drewN ?_ _ | with_reducible refine Below.drew ?_ | with_reducible refine Below.setCell ?_ (by first | exact Nat.le_refl _ | (simp; done) | (simp; omega) | omega) _ | with_reducible refine Below.alloc ?_ (by first | exact Nat.le_refl _ | (simp; done) | (simp; omega) | omega) _ | exact Below.refl _ _ | exact HB6.out))

end Go.Proofs.Ytedcdjlpogpgbaa
