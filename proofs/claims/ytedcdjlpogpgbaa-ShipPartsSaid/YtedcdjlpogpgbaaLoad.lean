/- Layer 14: Load of a list that may be loaded. -/
import Derived.Test.YtedcdjlpogpgbaaPut
set_option linter.unusedVariables false
set_option linter.unusedSimpArgs false
namespace Go.Proofs.Ytedcdjlpogpgbaa
open Go.RowKit
open Go.ChangeMaps (setBlock)

def sn (l : List Sn) (j : Nat) : Sn := l.getD j ⟨0, 0, ⟨0, 0⟩⟩
theorem sn_get {l : List Sn} {j : Nat} (h : j < l.length) : l[j]? = some (sn l j) := by simp [sn, h]
theorem sns_at {w : World} {v : Value} {l : List Sn} (h : SlAt w v l.length (snsCells l)) (hn : 0 < l.length) :
    ∃ b o c, v = .slice (some ⟨b, o, none⟩) l.length c ∧ l.length ≤ c ∧ c ≤ maxLen ∧ b < w.heap.size ∧ ∀ j, j < l.length → w.cell? ⟨b, o + j * 4, none⟩ = some (.int .i64 (sn l j).s) ∧ w.cell? ⟨b, o + j * 4 + 1, none⟩ = some (.int .i64 (sn l j).r) ∧ w.cell? ⟨b, o + j * 4 + 2, none⟩ = some (.int .i64 (sn l j).pos.e) ∧ w.cell? ⟨b, o + j * 4 + 3, none⟩ = some (.int .i64 (sn l j).pos.i) := by
  obtain ⟨A, c, e, h1, h2, h3⟩ := h
  obtain ⟨b, o, rfl, hb, hc⟩ := h3 hn
  refine ⟨b, o, c, e, h1, h2, hb, fun j hj => ⟨?_, ?_, ?_, ?_⟩⟩
  · have := hc (j * 4 + 0) _ (flat_get snCells 4 (fun _ => rfl) l j 0 _ (sn_get hj) (by omega)); simpa using this
  · have := hc (j * 4 + 1) _ (flat_get snCells 4 (fun _ => rfl) l j 1 _ (sn_get hj) (by omega)); rw [← Nat.add_assoc] at this; exact this
  · have := hc (j * 4 + 2) _ (flat_get snCells 4 (fun _ => rfl) l j 2 _ (sn_get hj) (by omega)); rw [← Nat.add_assoc] at this; exact this
  · have := hc (j * 4 + 3) _ (flat_get snCells 4 (fun _ => rfl) l j 3 _ (sn_get hj) (by omega)); rw [← Nat.add_assoc] at this; exact this
/-- Sessions that rise. -/
def Rise (l : List Sn) : Prop := l.Pairwise (fun x y => x.s < y.s)
theorem Rise.keys {l : List Sn} (h : Rise l) : l.Pairwise (fun x y => x.s ≠ y.s) := h.imp (fun h => by omega)
theorem Rise.at_ {l : List Sn} (h : Rise l) {j : Nat} (hj : j + 1 < l.length) : (sn l j).s < (sn l (j + 1)).s := by
  have := (List.pairwise_iff_getElem.1 h) j (j + 1) (by omega) hj (by omega)
  simpa [sn, hj, show j < l.length by omega] using this
theorem note_fresh {l : List Sn} {j : Nat} (h : Rise l) (hj : j < l.length) : note (sn l j) (l.take j) = l.take (j + 1) := by
  have hf : (l.take j).find? (fun y => y.s == (sn l j).s) = none := by
    rw [List.find?_eq_none]
    intro x hx
    obtain ⟨i, hi, rfl⟩ := List.mem_iff_getElem.1 hx
    have hi2 : i < j := by simp at hi; omega
    have := (List.pairwise_iff_getElem.1 h) i j (by omega) hj hi2
    simp only [List.getElem_take]
    have e : sn l j = l[j] := by simp [sn, hj]
    rw [e]; simp; omega
  unfold note
  rw [hf]
  simp only [Option.isSome_none, Bool.false_eq_true, if_false]
  rw [List.take_add_one, sn_get hj]; rfl
def LoadRes (b mb : Nat) (lim : Int) (l : List Sn) (w : World) (e : Ending) (w' : World) : Prop := e = .returned (.bool true) ∧ TabAt w' b mb lim l ∧ Frm (fun c => c = mb) w w'

set_option maxRecDepth 100000 in
set_option maxHeartbeats 8000000 in
theorem Load_some (b mb : Nat) (lim : Int) (l0 l : List Sn) (pb po pc : Nat) (w : World) (h : TabAt w b mb lim l0) (hlim : (l.length : Int) ≤ lim) (hlim2 : 0 ≤ lim ∧ lim ≤ 1000) (hr : Rise l) (hlc : l.length ≤ pc) (hpc : pc ≤ maxLen) (hpb : pb < w.heap.size) (hpm : pb ≠ mb)
    (hc : ∀ j, j < l.length → w.cell? ⟨pb, po + j * 4, none⟩ = some (.int .i64 (sn l j).s) ∧ w.cell? ⟨pb, po + j * 4 + 1, none⟩ = some (.int .i64 (sn l j).r) ∧ w.cell? ⟨pb, po + j * 4 + 2, none⟩ = some (.int .i64 (sn l j).pos.e) ∧ w.cell? ⟨pb, po + j * 4 + 3, none⟩ = some (.int .i64 (sn l j).pos.i)) :
    Calls Try.prog 90 #[.pointer (some ⟨b, 0, none⟩), .slice (some ⟨pb, po, none⟩) l.length pc] w (LoadRes b mb lim l w) := by
  have H := Lib.hid h
  have HC := Lib.hid hc
  have HR := Lib.hid hr
  have hb := h.blk.lt
  obtain ⟨hl0, hl1⟩ := hlim2
  have hmx : max lim 0 = lim := by omega
  have hbm : b ≠ mb := h.blk.neMap h.map
  have c0 : World.cell? w ⟨b, 0, none⟩ = some (.int .i64 lim) := by rw [Blk.cell h.blk]; rfl
  have c1 : World.cell? w ⟨b, 1, none⟩ = some (.map (some mb)) := by rw [Blk.cell h.blk]; rfl
  clear h hc hr
  have d1 : decide (lim < (l.length : Int)) = false := decide_eq_false (by omega)
  go_enter Try.func90, Try.ntmps90
  go_wp2_with fail
  go_loopg [22] l.length (fun g v wr => ∃ k : Nat, k ≤ l.length ∧ v = .int .i64 k ∧ g = l.length - k ∧ Below w.heap.size w wr)
  case atStart => exact ⟨0, Nat.zero_le _, rfl, rfl, Below.refl _ _⟩
  case round =>
    obtain ⟨k, hk, rfl, rfl, hbel⟩ := hrel
    have HB := Lib.hid hbel
    have hsz := hbel.size
    have hbr : b < wr.heap.size := by omega
    by_cases hlt : k < l.length
    · cases k with
      | zero =>
        clear hbel c0 c1
        have d2 : decide ((0 : Int) < ((0 : Nat) : Int)) = false := by simp
        have d3 : decide ((0 : Nat) < 0) = false := by simp
        go_wp2_with fail
        go_quiet (fail)
        go_wp2_with fail
        go_roundg (l.length - 1)
        case measure => omega
        case rel => exact ⟨1, by omega, rfl, rfl, by (repeat' (first | with_reducible exact HB.out | with_reducible exact Below.refl _ _ | with_reducible refine below_drewN ?_ _ | with_reducible refine Below.drew ?_ | with_reducible refine Below.setCell ?_ (by first | exact Nat.le_refl _ | (simp; done) | (simp; omega) | omega) _ | with_reducible refine Below.alloc ?_ (by first | exact Nat.le_refl _ | (simp; done) | (simp; omega) | omega) _ | exact Below.refl _ _ | exact HB.out))⟩
      | succ k =>
        obtain ⟨a0, _, _, _⟩ := HC.out k (by omega)
        obtain ⟨e0, _, _, _⟩ := HC.out (k + 1) hlt
        rw [← hbel.cell (p := ⟨pb, po + k * 4, none⟩) hpb] at a0
        rw [← hbel.cell (p := ⟨pb, po + (k + 1) * 4, none⟩) hpb] at e0
        have hlt2 := Rise.at_ HR.out hlt
        obtain ⟨s1, hs1⟩ : ∃ x, (sn l k).s = x := ⟨_, rfl⟩
        obtain ⟨s2, hs2⟩ : ∃ x, (sn l (k + 1)).s = x := ⟨_, rfl⟩
        rw [hs1] at a0 hlt2
        rw [hs2] at e0 hlt2
        clear hs1 hs2 hbel c0 c1
        have d2 : decide (s2 ≤ s1) = false := decide_eq_false (by omega)
        have d3 : decide ((0 : Int) < ((k : Int) + 1)) = true := decide_eq_true (by omega)
        have d4 : ((k : Int) + 1 - 1) = k := by omega
        go_wp2_with fail
        go_quiet (fail)
        go_wp2_with fail
        go_roundg (l.length - (k + 2))
        case measure => omega
        case rel => exact ⟨k + 2, by omega, by go_num, rfl, by (repeat' (first | with_reducible exact HB.out | with_reducible exact Below.refl _ _ | with_reducible refine below_drewN ?_ _ | with_reducible refine Below.drew ?_ | with_reducible refine Below.setCell ?_ (by first | exact Nat.le_refl _ | (simp; done) | (simp; omega) | omega) _ | with_reducible refine Below.alloc ?_ (by first | exact Nat.le_refl _ | (simp; done) | (simp; omega) | omega) _ | exact Below.refl _ _ | exact HB.out))⟩
    · have : k = l.length := by omega
      subst this
      have CB := hbel.cell (p := ⟨b, 1, none⟩) hb
      rw [c1] at CB
      obtain ⟨o, hcl, hmp⟩ := run_clear_map (P := Try.prog) (t := 139) Try.underlying139 (H.out.map.frm (F := fun _ => False) (Frm.ofBelow hbel) (fun h => h))
      have HM := Lib.hid hmp
      clear hmp c0 c1 hbel
      go_wp2_with fail
      go_loopg [48] l.length (fun g v wx => ∃ k : Nat, k ≤ l.length ∧ v = .int .i64 k ∧ g = l.length - k ∧ TabAt wx b mb lim (l.take k) ∧ Frm (fun c => c = mb) w wx)
      case atStart =>
        refine ⟨0, Nat.zero_le _, rfl, rfl, ⟨?_, HM.out, List.Pairwise.nil⟩, (Frm.ofBelow HB.out).trans (frm_setBlock _ mb o) (fun i _ h => h)⟩
        exact ((H.out.blk.below HB.out).frm (frm_setBlock _ mb o) hbm)
      case round =>
        obtain ⟨k, hk, rfl, rfl, htab, hfr⟩ := hrel
        have HT := Lib.hid htab
        have HFR := Lib.hid hfr
        have hbr2 := htab.blk.lt
        have c1 : World.cell? wr ⟨b, 1, none⟩ = some (.map (some mb)) := by rw [Blk.cell htab.blk]; rfl
        have hszr := hfr.size
        by_cases hlt : k < l.length
        · obtain ⟨a0, a1, a2, a3⟩ := HC.out k hlt
          rw [← hfr.cell (p := ⟨pb, po + k * 4, none⟩) hpb hpm] at a0
          rw [← hfr.cell (p := ⟨pb, po + k * 4 + 1, none⟩) hpb hpm] at a1
          rw [← hfr.cell (p := ⟨pb, po + k * 4 + 2, none⟩) hpb hpm] at a2
          rw [← hfr.cell (p := ⟨pb, po + k * 4 + 3, none⟩) hpb hpm] at a3
          have hpb' : pb < wr.heap.size := by omega
          clear htab hfr
          obtain ⟨x, hx⟩ : ∃ x, sn l k = x := ⟨_, rfl⟩
          rw [hx] at a0 a1 a2 a3
          have HX := Lib.hid hx
          clear hx
          obtain ⟨o2, hup, hmp2⟩ := run_mapUpdate_int (P := Try.prog) (t := 139) Try.underlying139 Try.underlying3 (w := (wr.alloc (.cells #[.int .i64 x.s, .int .i64 x.r, .int .i64 x.pos.e, .int .i64 x.pos.i] 69)).drew) (b := mb) (l := sess (l.take k))
            (HT.out.map.frm (F := fun _ => False) ((Frm.refl _ _).alloc _).drew (fun h => h)) (sess_ints _) (by unfold sess; rw [List.map_map, List.pairwise_map]; exact HT.out.keys.imp (fun hab h => by injection h with _ h; exact hab h)) x.s (.agg (lastCells x))
          rw [sess_note] at hmp2
          unfold lastCells at hup
          have HM2 := Lib.hid hmp2
          clear hmp2
          go_wp2_with fail
          go_region
          all_goals
            go_wp2_with fail
            go_roundg (l.length - (k + 1))
            case measure => omega
            case rel =>
              refine ⟨k + 1, by omega, by go_num, rfl, ?_, ?_⟩
              · rw [← note_fresh HR.out hlt, HX.out]
                refine ⟨(((HT.out.blk.alloc _).drew).frm (frm_setBlock _ mb o2) hbm), HM2.out, keys_note HT.out.keys⟩
              · exact ((HFR.out.alloc _).drew).trans (frm_setBlock _ mb o2) (fun i _ h => h)
        · have : k = l.length := by omega
          subst this
          clear htab hfr
          go_wp2_with fail
          go_ret
          refine ⟨rfl, ?_, HFR.out⟩
          have := HT.out
          rwa [List.take_length] at this

set_option maxRecDepth 100000 in
set_option maxHeartbeats 8000000 in
theorem Load_none (b mb : Nat) (lim : Int) (l0 : List Sn) (A : Option Addr) (c : Nat) (w : World) (h : TabAt w b mb lim l0) (hlim2 : 0 ≤ lim ∧ lim ≤ 1000) :
    Calls Try.prog 90 #[.pointer (some ⟨b, 0, none⟩), .slice A 0 c] w (LoadRes b mb lim [] w) := by
  have H := Lib.hid h
  have hb := h.blk.lt
  obtain ⟨hl0, hl1⟩ := hlim2
  have hmx : max lim 0 = lim := by omega
  have hbm : b ≠ mb := h.blk.neMap h.map
  have c0 : World.cell? w ⟨b, 0, none⟩ = some (.int .i64 lim) := by rw [Blk.cell h.blk]; rfl
  have c1 : World.cell? w ⟨b, 1, none⟩ = some (.map (some mb)) := by rw [Blk.cell h.blk]; rfl
  obtain ⟨o, hcl, hmp⟩ := run_clear_map (P := Try.prog) (t := 139) Try.underlying139 h.map
  have HM := Lib.hid hmp
  clear h hmp
  have d1 : decide (lim < (0 : Int)) = false := decide_eq_false (by omega)
  go_enter Try.func90, Try.ntmps90
  go_wp2_with fail
  go_loopg [22] 0 (fun g v wr => v = .int .i64 0 ∧ wr = w ∧ g = 0)
  case atStart => exact ⟨rfl, rfl, rfl⟩
  case round =>
    obtain ⟨rfl, hwr, rfl⟩ := hrel
    subst hwr
    go_wp2_with fail
    go_loopg [48] 0 (fun g v wx => v = .int .i64 0 ∧ wx = setBlock wr mb o ∧ g = 0)
    case atStart => exact ⟨rfl, rfl, rfl⟩
    case round =>
      obtain ⟨rfl, hwr, rfl⟩ := hrel
      rename_i wr1 _ _ _ _ 
      go_wp2_with fail
      go_ret
      refine ⟨rfl, ?_, ?_⟩
      · exact ⟨H.out.blk.frm (frm_setBlock _ mb o) hbm, HM.out, List.Pairwise.nil⟩
      · exact frm_setBlock _ mb o

theorem Load_any (b mb : Nat) (lim : Int) (l0 l : List Sn) (v : Value) (w : World) (h : TabAt w b mb lim l0) (hlim : (l.length : Int) ≤ lim) (hlim2 : 0 ≤ lim ∧ lim ≤ 1000) (hr : Rise l) (hv : SlAt w v l.length (snsCells l)) (hm : ∀ A n c, v = .slice (some A) n c → 0 < n → A.block ≠ mb) :
    Calls Try.prog 90 #[.pointer (some ⟨b, 0, none⟩), v] w (LoadRes b mb lim l w) := by
  by_cases h0 : l.length = 0
  · have hl : l = [] := List.eq_nil_of_length_eq_zero h0
    subst hl
    obtain ⟨A, c, rfl, _⟩ := hv
    exact Load_none b mb lim l0 A c w h hlim2
  · obtain ⟨pb, po, c, rfl, h1, h2, h3, h4⟩ := sns_at hv (by omega)
    exact Load_some b mb lim l0 l pb po c w h hlim hlim2 hr h1 h2 h3 (hm _ _ _ rfl (by omega)) h4

end Go.Proofs.Ytedcdjlpogpgbaa
