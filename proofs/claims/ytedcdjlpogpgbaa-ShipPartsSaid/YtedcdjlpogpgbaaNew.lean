/- Layer 15: New, Master. -/
import Derived.Test.YtedcdjlpogpgbaaGet
set_option linter.unusedVariables false
set_option linter.unusedSimpArgs false
namespace Go.Proofs.Ytedcdjlpogpgbaa
open Go.RowKit

def newF (t : List Ep) : St := ⟨zeroPos, [], [], t, emptySnap, [], false⟩
def NewRes (t : List Ep) (w : World) (e : Ending) (w' : World) : Prop :=
  ∃ L, e = .returned (.tuple #[.pointer (some ⟨L.b, 0, none⟩), .int .i64 0]) ∧ StAt w' L (newF t) ∧ (∀ c, L.foot c → w.heap.size ≤ c) ∧ Below w.heap.size w w'

set_option maxRecDepth 100000 in
set_option maxHeartbeats 4000000 in
theorem New_no (v : Value) (t : List Ep) (w : World) (ht : SlAt w v t.length (epsCells t)) (hr : rightB t = false) :
    Calls Try.prog 12 #[v] w fun e w' => e = .returned (.tuple #[.pointer none, .int .i64 1]) ∧ Below w.heap.size w w' := by
  have HT := Lib.hid ht
  clear ht
  go_enter Try.func12, Try.ntmps12
  go_wp2_with fail
  refine (Right_any v t _ HT.out).mono ?_
  rintro e w1 ⟨rfl, hb⟩
  have HB := Lib.hid hb
  rw [hr]
  clear hb hr
  go_wp2_with fail
  go_ret2
  exact ⟨rfl, HB.out⟩

set_option maxRecDepth 100000 in
set_option maxHeartbeats 4000000 in
theorem New_yes (v : Value) (t : List Ep) (w : World) (ht : SlAt w v t.length (epsCells t)) (hr : rightB t = true) :
    Calls Try.prog 12 #[v] w (NewRes t w) := by
  have HT := Lib.hid ht
  have hlen : t.length ≤ 64 := ((rightB_iff _).1 hr).2.1
  clear ht
  go_enter Try.func12, Try.ntmps12
  go_wp2_with fail
  refine (Right_any v t _ HT.out).mono ?_
  rintro e w1 ⟨rfl, hb⟩
  have HB := Lib.hid hb
  rw [hr]
  clear hb hr
  go_wp2_with fail
  refine (blank_any _).mono ?_
  rintro e w2 ⟨kb, sb, mb, rfl, hf, h1, h2, h3, hb⟩
  have HB2 := Lib.hid (HB.out.trans (hb.mono HB.out.size))
  have HF := Lib.hid hf
  have hs1 := HB.out.size
  have hs2 := hb.size
  have HT2 := Lib.hid (HT.out.below HB2.out)
  unfold foldVal
  clear hf hb
  obtain ⟨v', w3, happ, hown, hgr, hob⟩ := run_append_sl (P := Try.prog) (w := (w2.alloc (.cells #[] 29))) 30 30 29 3 24 _ Try.underlying30 ep_info rfl (by omega) (.slice (some ⟨w2.heap.size, 0, none⟩) 0 0) 0 [] (own_blk0 3 (Blk.new' rfl rfl)) v t.length (epsCells t) (HT2.out.below (by (repeat' (first | with_reducible exact Below.refl _ _ | with_reducible refine below_drewN ?_ _ | with_reducible refine Below.drew ?_ | with_reducible refine Below.setCell ?_ (by first | exact Nat.le_refl _ | (simp; done) | (simp; omega) | omega) _ | with_reducible refine Below.alloc ?_ (by first | exact Nat.le_refl _ | (simp; done) | (simp; omega) | omega) _ | exact Below.refl _ _)))) (epsCells_length t) (epsCells_one t) (by omega) (by unfold maxLen; omega)
  obtain ⟨A', ca', hv', _⟩ := own_sl hown
  subst hv'
  have hfr := Frm.ofGrown hgr
  have HO := Lib.hid hown
  have HFR := Lib.hid hfr
  have HOB := Lib.hid hob
  clear hown hgr hfr hob
  go_wp2_with (refine list_append_run rfl _ _ _ _ rfl rfl (by rfl) (by rfl) happ ?_)
  go_ret2
  have hg : ∀ c, (Value.slice A' (0 + t.length) ca').ownBlock = some c → w2.heap.size ≤ c := by
    intro c hc
    rcases HOB.out with h | h
    · rw [h] at hc; injection hc with hc; rw [← hc]; exact Nat.le_refl _
    · rw [h] at hc; injection hc with hc; rw [← hc]; simp
  have hw3 : Below w2.heap.size w2 w3 := Frm.ge (W := w2.alloc (.cells #[] 29)) (by (repeat' (first | with_reducible exact Below.refl _ _ | with_reducible refine below_drewN ?_ _ | with_reducible refine Below.drew ?_ | with_reducible refine Below.setCell ?_ (by first | exact Nat.le_refl _ | (simp; done) | (simp; omega) | omega) _ | with_reducible refine Below.alloc ?_ (by first | exact Nat.le_refl _ | (simp; done) | (simp; omega) | omega) _ | exact Below.refl _ _))) HFR.out (by intro c hc; injection hc with hc; rw [← hc]; exact Nat.le_refl _)
  have hs3 := hw3.size
  refine ⟨⟨w3.heap.size, kb, sb, mb, .nil, .slice A' (0 + t.length) ca', .slice none 0 0, .slice none 0 0, .slice none 0 0⟩, ?_, ⟨?_, ?_, rfl, ?_, own_empty _ _ _, own_empty _ _ _, own_empty _ _ _⟩, ?_, ?_⟩
  · rfl
  · exact Blk.new' rfl (by simp [stCells, newF, emptySnap, zeroPos])
  · have k1 := HF.out.keys.lt.1
    have k2 := HF.out.seen.blk.lt
    have k3 := HF.out.seen.map.lt
    have f1 : FoldAt w3 kb sb mb .nil [] := by
      refine FoldAt.frm (w := w2.alloc (.cells #[] 29)) (HF.out.frm (F := fun _ => False) (by (repeat' (first | with_reducible exact Frm.refl _ _ | with_reducible refine Frm.drewN ?_ _ | with_reducible refine Frm.drew ?_ | with_reducible refine Frm.setCell ?_ (by first | exact Or.inl rfl | exact Or.inr (Nat.le_refl _) | (simp; done) | (simp; omega)) _ | with_reducible refine Frm.alloc ?_ _ | exact Frm.refl _ _))) (fun h => h) (fun _ _ h => h) (fun h => h) (fun h => h)) HFR.out ?_ ?_ ?_ ?_
      · intro h; injection h with h; have h' : w2.heap.size = kb := h; omega
      · intro c hc; simp [T.blocks] at hc
      · intro h; injection h with h; have h' : w2.heap.size = sb := h; omega
      · intro h; injection h with h; have h' : w2.heap.size = mb := h; omega
    exact f1.frm (F := fun _ => False) (by (repeat' (first | with_reducible exact Frm.refl _ _ | with_reducible refine Frm.drewN ?_ _ | with_reducible refine Frm.drew ?_ | with_reducible refine Frm.setCell ?_ (by first | exact Or.inl rfl | exact Or.inr (Nat.le_refl _) | (simp; done) | (simp; omega)) _ | with_reducible refine Frm.alloc ?_ _ | exact Frm.refl _ _))) (fun h => h) (fun _ _ h => h) (fun h => h) (fun h => h)
  · refine own_frm (F := fun _ => False) (w := w3) ?_ (by (repeat' (first | with_reducible exact Frm.refl _ _ | with_reducible refine Frm.drewN ?_ _ | with_reducible refine Frm.drew ?_ | with_reducible refine Frm.setCell ?_ (by first | exact Or.inl rfl | exact Or.inr (Nat.le_refl _) | (simp; done) | (simp; omega)) _ | with_reducible refine Frm.alloc ?_ _ | exact Frm.refl _ _))) (fun _ _ h => h)
    simpa [newF] using HO.out
  · intro c hc
    rcases hc with hc | hc | hc | hc | hc | hc | hc | hc | hc
    · show w.heap.size ≤ c; rw [show c = w3.heap.size from hc]; omega
    · rw [show c = kb from hc]; omega
    · simp [T.blocks] at hc
    · rw [show c = sb from hc]; omega
    · rw [show c = mb from hc]; omega
    · have := hg c hc; omega
    · cases hc
    · cases hc
    · cases hc
  · exact (HB2.out.trans (hw3.mono (by omega))).alloc (by omega) _

end Go.Proofs.Ytedcdjlpogpgbaa
