/- Layer 15: Check of an Adopt. -/
import Derived.Test.YtedcdjlpogpgbaaAdopt
set_option linter.unusedVariables false
set_option linter.unusedSimpArgs false
namespace Go.Proofs.Ytedcdjlpogpgbaa
open Go.RowKit

theorem Below.frm1 {B b n k : Nat} {W0 X w2 : World} (hX : Below B W0 X) (hs : B ≤ X.heap.size) (hf : Frm (fun c => (Value.slice (some ⟨b, 0, none⟩) n k).ownBlock = some c) X w2) (hb : B ≤ b) : Below B W0 w2 :=
  hX.trans ⟨hf.os, hf.tape, hf.output, hf.size, fun i hi => hf.block i (by omega) (fun h => by injection h with h; have h' : b = i := h; omega)⟩
theorem Below.frmG {B : Nat} {W0 X w2 : World} {v : Value} (hX : Below B W0 X) (hs : B ≤ X.heap.size) (hf : Frm (fun c => v.ownBlock = some c) X w2) (hb : ∀ c, v.ownBlock = some c → B ≤ c) : Below B W0 w2 :=
  hX.trans ⟨hf.os, hf.tape, hf.output, hf.size, fun i hi => hf.block i (by omega) (fun h => by have := hb i h; omega)⟩
theorem own_ge {B b n k : Nat} {v : Value} {X : World} (hob : v.ownBlock = (Value.slice (some ⟨b, 0, none⟩) n k).ownBlock ∨ v.ownBlock = some X.heap.size) (h1 : B ≤ b) (h2 : B ≤ X.heap.size) : ∀ c, v.ownBlock = some c → B ≤ c := by
  intro c hc
  rcases hob with h | h
  · rw [h] at hc; injection hc with hc; have h' : b = c := hc; omega
  · rw [h] at hc; injection hc with hc; omega
def adoptE (s : St) (e : Ep) : Int := if rightB (s.table ++ [e]) = true then 0 else 1
set_option maxRecDepth 100000 in
set_option maxHeartbeats 8000000 in
theorem Check_adopt (L : Lay) (s : St) (x : Ent) (e : Ep) (cfg : Int) (sp : Pos) (A B : Option Addr) (na ca nb cb : Nat) (w : World) (h : StAt w L s) (hok : Ok s) :
    Calls Try.prog 41 #[.pointer (some ⟨L.b, 0, none⟩), .agg (recVal 2 x e cfg sp (.slice A na ca) (.slice B nb cb))] w (IntRes (adoptE s e) w) := by
  have H := Lib.hid h
  have hlen : s.table.length ≤ 64 := ((rightB_iff _).1 hok.right).2.1
  have hbl := h.blk.lt
  have c4 : World.cell? w ⟨L.b, 4, none⟩ = some (L.tv) := by rw [Blk.cell h.blk]; rfl
  clear h hok
  unfold recVal
  have htab : ∀ W : World, Below w.heap.size w W → SlAt W L.tv s.table.length (epsCells s.table) := fun W hW => own_sl (H.out.below hW).tab
  have HTAB := Lib.hid htab
  have hri : ∀ (v : Value) (W : World), SlAt W v (s.table ++ [e]).length (epsCells (s.table ++ [e])) → Calls Try.prog 44 #[v] W fun e' w' => e' = .returned (.bool (rightB (s.table ++ [e]))) ∧ Below W.heap.size W w' := fun v W hv => Right_any v _ W hv
  have HRI := Lib.hid hri
  clear htab hri
  have hE : epsCells (s.table ++ [e]) = epsCells s.table ++ epCells e := by simp [epsCells]
  have HE := Lib.hid hE
  clear hE
  go_enter Try.func41, Try.ntmps41
  go_upto_region 8 with (fail)
  go_cut [28] (fun v wx => v = .bool (!rightB (s.table ++ [e])) ∧ Below w.heap.size w wx)
  case first =>
    have ne1 : w.heap.size ≠ L.b := by omega
    have ne2 : w.heap.size + 1 ≠ L.b := by omega
    have ne3 : w.heap.size + 2 ≠ L.b := by omega
    have ne4 : L.b < w.heap.size + 1 := by omega
    have ne5 : L.b < w.heap.size + 2 := by omega
    obtain ⟨W0, hW0⟩ : ∃ W0 : World, W0 = w.alloc (.cells (recVal 2 x e cfg sp (.slice A na ca) (.slice B nb cb)) 42) := ⟨_, rfl⟩
    have hs0 : W0.heap.size = w.heap.size + 1 := by rw [hW0]; simp
    have hW0b : Below w.heap.size w W0 := by rw [hW0]; (repeat' (first | with_reducible exact Below.refl _ _ | with_reducible refine below_drewN ?_ _ | with_reducible refine Below.drew ?_ | with_reducible refine Below.setCell ?_ (by first | exact Nat.le_refl _ | (simp; done) | (simp; omega) | omega) _ | with_reducible refine Below.alloc ?_ (by first | exact Nat.le_refl _ | (simp; done) | (simp; omega) | omega) _ | exact Below.refl _ _))
    have hS : ∀ X : World, Below (w.heap.size + 1) W0 X → (X.cell? ⟨L.b, 4, none⟩ = some L.tv ∧ X.cell? ⟨w.heap.size, 8, none⟩ = some (.int .i64 e.m) ∧ X.cell? ⟨w.heap.size, 9, none⟩ = some (.int .i64 e.c) ∧ X.cell? ⟨w.heap.size, 10, none⟩ = some (.bool e.f)) := by
      intro X hX
      have rb : Blk W0 w.heap.size (recVal 2 x e cfg sp (.slice A na ca) (.slice B nb cb)) 42 := by rw [hW0]; exact Blk.new' rfl rfl
      have rb2 := rb.below (hs0 ▸ hX)
      refine ⟨?_, ?_, ?_, ?_⟩
      · rw [hX.cell (p := ⟨L.b, 4, none⟩) (by show L.b < _; omega), hW0b.cell (p := ⟨L.b, 4, none⟩) hbl]; exact c4
      · rw [rb2.cell]; rfl
      · rw [rb2.cell]; rfl
      · rw [rb2.cell]; rfl
    have c41 : (w.alloc (.cells (recVal 2 x e cfg sp (.slice A na ca) (.slice B nb cb)) 42)).cell? ⟨L.b, 4, none⟩ = some L.tv := by rw [← hW0, hW0b.cell (p := ⟨L.b, 4, none⟩) hbl]; exact c4
    unfold recVal at c41
    have HS := Lib.hid hS
    have HW0 := Lib.hid hW0
    have HW0b := Lib.hid hW0b
    have HS0 := Lib.hid hs0
    clear hS hW0 hW0b hs0
    go_region_held3 (fun W => W.cell? ⟨L.b, 4, none⟩ = some (L.tv) ∧ W.cell? ⟨w.heap.size, 8, none⟩ = some (.int .i64 e.m) ∧ W.cell? ⟨w.heap.size, 9, none⟩ = some (.int .i64 e.c) ∧ W.cell? ⟨w.heap.size, 10, none⟩ = some (.bool e.f)) (first | go_keep | (refine HS.out _ ?_; rw [HW0.out]; (repeat' (first | with_reducible exact Below.refl _ _ | with_reducible refine below_drewN ?_ _ | with_reducible refine Below.drew ?_ | with_reducible refine Below.setCell ?_ (by first | exact Nat.le_refl _ | (simp; done) | (simp; omega) | omega) _ | with_reducible refine Below.alloc ?_ (by first | exact Nat.le_refl _ | (simp; done) | (simp; omega) | omega) _ | exact Below.refl _ _))) | (refine ⟨?_, ?_, ?_, ?_⟩ <;> simp [*, World.cell?_alloc_lt, World.cell?_alloc_some]))
      (first
      | (go_at_call 44; refine (HRI.out _ _ (by rw [HE.out, List.length_append]; exact own_sl HO2.out)).mono ?_; rintro e' w4 ⟨rfl, hb4⟩; have hX3 := hX2.trans (hb4.mono hsz3); obtain ⟨g4, g8, g9, g10⟩ := HS.out w4 hX3; clear hb4)
      | (refine step_append_sl (v := .slice (some ⟨_, 0, none⟩) 0 0) rfl _ _ _ _ 29 3 24 _ rfl rfl Try.underlying30 ep_info rfl (by omega) 0 [] s.table.length (epsCells s.table) (by rfl) rfl (own_blk0 3 ?_) (HTAB.out _ ?_) (epsCells_length _) (epsCells_one _) (by omega) (by unfold maxLen; omega) s.table.length (by omega) (epsCells s.table) rfl ?_; ((repeat' (first | with_reducible exact Blk.new _ _ _ | with_reducible apply Blk.drewN | with_reducible apply Blk.drew | with_reducible apply Blk.set' | (with_reducible apply Blk.set_other (hp := by first | assumption | (simp; done) | (simp; omega) | omega)) | (with_reducible apply Blk.new'; focus (first | (simp; done) | (simp; omega))) | with_reducible apply Blk.alloc)) <;> rfl); (repeat' (first | with_reducible exact Below.refl _ _ | with_reducible refine below_drewN ?_ _ | with_reducible refine Below.drew ?_ | with_reducible refine Below.setCell ?_ (by first | exact Nat.le_refl _ | (simp; done) | (simp; omega) | omega) _ | with_reducible refine Below.alloc ?_ (by first | exact Nat.le_refl _ | (simp; done) | (simp; omega) | omega) _ | exact Below.refl _ _)); intro A1 c1 w2 hown1 hfr1 hob1; have hX1 : Below (w.heap.size + 1) W0 w2 := (by (refine Below.frm1 ?_ ?_ hfr1 ?_ <;> first | omega | (simp; done) | (simp; omega) | (rw [HW0.out]; (repeat' (first | with_reducible exact Below.refl _ _ | with_reducible refine below_drewN ?_ _ | with_reducible refine Below.drew ?_ | with_reducible refine Below.setCell ?_ (by first | exact Nat.le_refl _ | (simp; done) | (simp; omega) | omega) _ | with_reducible refine Below.alloc ?_ (by first | exact Nat.le_refl _ | (simp; done) | (simp; omega) | omega) _ | exact Below.refl _ _))))); have hg1 := own_ge (B := w.heap.size + 1) hob1 (by first | omega | (simp; done) | (simp; omega)) (by first | omega | (simp; done) | (simp; omega)); obtain ⟨g4, g8, g9, g10⟩ := HS.out w2 hX1; have HO1 := Lib.hid hown1; have HG1 := Lib.hid hg1; have HFR1 := Lib.hid hfr1; have hsz2 := hX1.size; rw [HS0.out] at hsz2; clear hown1 hfr1 hob1 hg1)
      | (refine step_append_sl (v := .slice A1 s.table.length c1) rfl _ _ _ _ 29 3 24 _ rfl rfl Try.underlying30 ep_info rfl (by omega) s.table.length (epsCells s.table) 1 (epCells e) (by rfl) rfl (own_frm (F := fun _ => False) HO1.out ?_ (fun _ _ h => h)) (sl_one (cs := epVal e) (T := 29) ?_) rfl (epsCells_one [e]) (by omega) (by unfold maxLen; omega) (s.table.length + 1) rfl (epsCells s.table ++ epCells e) rfl ?_; (repeat' (first | with_reducible exact Frm.refl _ _ | with_reducible refine Frm.drewN ?_ _ | with_reducible refine Frm.drew ?_ | with_reducible refine Frm.setCell ?_ (by first | exact Or.inl rfl | exact Or.inr (Nat.le_refl _) | (simp; done) | (simp; omega)) _ | with_reducible refine Frm.alloc ?_ _ | exact Frm.refl _ _)); ((repeat' (first | (with_reducible refine Blk.frm ?_ HFR1.out (by simp [Value.ownBlock])) | with_reducible exact Blk.new _ _ _ | with_reducible apply Blk.drewN | with_reducible apply Blk.drew | with_reducible apply Blk.set' | (with_reducible apply Blk.set_other (hp := by first | assumption | (simp; done) | (simp; omega) | omega)) | (with_reducible apply Blk.new'; focus (first | (simp; done) | (simp; omega))) | with_reducible apply Blk.alloc)) <;> rfl); intro A2 c2 w3 hown2 hfr2 hob2; have hX2 : Below (w.heap.size + 1) W0 w3 := Below.frmG (by (repeat' (first | with_reducible exact hX1 | with_reducible exact Below.refl _ _ | with_reducible refine below_drewN ?_ _ | with_reducible refine Below.drew ?_ | with_reducible refine Below.setCell ?_ (by first | exact Nat.le_refl _ | (simp; done) | (simp; omega) | omega) _ | with_reducible refine Below.alloc ?_ (by first | exact Nat.le_refl _ | (simp; done) | (simp; omega) | omega) _ | exact Below.refl _ _ | exact hX1))) (by first | omega | (simp; done) | (simp; omega)) hfr2 HG1.out; clear g4 g8 g9 g10; obtain ⟨g4, g8, g9, g10⟩ := HS.out w3 hX2; have HO2 := Lib.hid hown2; have hsz3 := hX2.size; rw [HS0.out] at hsz3; clear hown2 hfr2 hob2))
    all_goals
      go_wp2_with fail
      go_meet
      exact ⟨rfl, HW0b.out.trans (hX3.mono (by omega))⟩
  case rest =>
    obtain ⟨rfl, hbel⟩ := hcut
    have HB := Lib.hid hbel
    clear hbel c4
    by_cases hr : rightB (s.table ++ [e]) = true
    · have HR := Lib.hid hr
      rw [hr]
      clear hr
      go_wp2_with fail
      go_ret
      exact ⟨by unfold adoptE; rw [if_pos HR.out]; rfl, HB.out⟩
    · have hr' : rightB (s.table ++ [e]) = false := by simpa using hr
      have HR := Lib.hid hr
      rw [hr']
      clear hr hr'
      go_wp2_with fail
      go_ret
      exact ⟨by unfold adoptE; rw [if_neg HR.out]; rfl, HB.out⟩

end Go.Proofs.Ytedcdjlpogpgbaa
