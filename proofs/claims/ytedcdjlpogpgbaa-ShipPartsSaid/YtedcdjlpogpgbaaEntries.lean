/- Layer 15: Entries and Look. -/
import Derived.Test.YtedcdjlpogpgbaaLive
import Derived.Lib.MinMax
set_option linter.unusedVariables false
set_option linter.unusedSimpArgs false
namespace Go.Proofs.Ytedcdjlpogpgbaa
open Go.RowKit

theorem flat_drop {α : Type} (enc : α → List Value) (k : Nat) (hk : ∀ x, (enc x).length = k) : ∀ (l : List α) (j : Nat), (l.drop j).flatMap enc = (l.flatMap enc).drop (j * k)
  | [], j => by simp
  | x :: l, 0 => by simp
  | x :: l, j + 1 => by
    rw [List.drop_succ_cons, List.flatMap_cons, flat_drop enc k hk l j, List.drop_append, show List.drop ((j + 1) * k) (enc x) = [] from List.drop_eq_nil_of_le (by rw [hk, Nat.add_mul]; omega), hk, show (j + 1) * k - k = j * k from by rw [Nat.add_mul]; omega]
    rfl
/-- A piece of a slice. -/
theorem sl_sub {α : Type} (enc : α → List Value) (q : Nat) (hq : ∀ x, (enc x).length = q) {w : World} {b o n c k m : Nat} {l : List α} (h : SlAt w (.slice (some ⟨b, o, none⟩) n c) n (l.flatMap enc)) (hm : k + m ≤ n) (hn : l.length = n) (h0 : 0 < n) :
    SlAt w (.slice (some ⟨b, o + k * q, none⟩) m (c - k)) m (((l.drop k).take m).flatMap enc) := by
  obtain ⟨A, c', e, h1, h2, h3⟩ := h
  injection e with e1 _ e2
  subst e1; subst e2
  refine ⟨_, _, rfl, by omega, by omega, fun _ => ?_⟩
  obtain ⟨b', o', e3, hb, hc⟩ := h3 h0
  injection e3 with e3
  injection e3 with e4 e5
  subst e4; subst e5
  refine ⟨b, o + k * q, rfl, hb, fun j u hu => ?_⟩
  rw [flat_take enc q hq, flat_drop enc q hq, List.getElem?_take] at hu
  split at hu
  · rw [List.getElem?_drop] at hu
    have := hc _ u hu
    rw [Nat.add_assoc]; exact this
  · cases hu
def someE (s : St) (from_ most : Int) : List Ent := if from_ ≤ s.base.pos.i ∨ s.pos.i < from_ ∨ most < 1 then [] else (s.ents.drop (from_ - s.base.pos.i - 1).toNat).take most.toNat
def EntriesRes (s : St) (from_ most : Int) (w : World) (e : Ending) (w' : World) : Prop :=
  ∃ v, e = .returned v ∧ w'.ownsRow 0 35 7 v (someE s from_ most).length (entsCells (someE s from_ most)) ∧ (∀ c, v.ownBlock = some c → w.heap.size ≤ c) ∧ Below w.heap.size w w'

set_option maxRecDepth 100000 in
set_option maxHeartbeats 4000000 in
theorem Entries_no (L : Lay) (s : St) (from_ most : Int) (w : World) (h : StAt w L s) (hno : from_ ≤ s.base.pos.i ∨ s.pos.i < from_ ∨ most < 1) :
    Calls Try.prog 27 #[.pointer (some ⟨L.b, 0, none⟩), .int .i64 from_, .int .i64 most] w (EntriesRes s from_ most w) := by
  have hbl := h.blk.lt
  have c1 : World.cell? w ⟨L.b, 1, none⟩ = some (.int .i64 s.pos.i) := by rw [Blk.cell h.blk]; rfl
  have c6 : World.cell? w ⟨L.b, 6, none⟩ = some (.int .i64 s.base.pos.i) := by rw [Blk.cell h.blk]; rfl
  have hs : someE s from_ most = [] := if_pos hno
  have HS := Lib.hid hs
  clear h hs
  by_cases d1 : from_ ≤ s.base.pos.i
  · have e1 : decide (from_ ≤ s.base.pos.i) = true := decide_eq_true d1
    go_enter Try.func27, Try.ntmps27
    go_wp2_with fail
    go_ret
    exact ⟨.slice none 0 0, rfl, by rw [HS.out]; exact own_empty _ _ _, (fun c hc => by cases hc), by (repeat' (first | with_reducible exact Below.refl _ _ | with_reducible refine below_drewN ?_ _ | with_reducible refine Below.drew ?_ | with_reducible refine Below.setCell ?_ (by first | exact Nat.le_refl _ | (simp; done) | (simp; omega) | omega) _ | with_reducible refine Below.alloc ?_ (by first | exact Nat.le_refl _ | (simp; done) | (simp; omega) | omega) _ | exact Below.refl _ _))⟩
  have e1 : decide (from_ ≤ s.base.pos.i) = false := decide_eq_false d1
  by_cases d2 : s.pos.i < from_
  · have e2 : decide (s.pos.i < from_) = true := decide_eq_true d2
    go_enter Try.func27, Try.ntmps27
    go_wp2_with fail
    go_ret
    exact ⟨.slice none 0 0, rfl, by rw [HS.out]; exact own_empty _ _ _, (fun c hc => by cases hc), by (repeat' (first | with_reducible exact Below.refl _ _ | with_reducible refine below_drewN ?_ _ | with_reducible refine Below.drew ?_ | with_reducible refine Below.setCell ?_ (by first | exact Nat.le_refl _ | (simp; done) | (simp; omega) | omega) _ | with_reducible refine Below.alloc ?_ (by first | exact Nat.le_refl _ | (simp; done) | (simp; omega) | omega) _ | exact Below.refl _ _))⟩
  have e2 : decide (s.pos.i < from_) = false := decide_eq_false d2
  have e3 : decide (most < 1) = true := decide_eq_true (by omega)
  clear hno
  go_enter Try.func27, Try.ntmps27
  go_wp2_with fail
  go_ret
  exact ⟨.slice none 0 0, rfl, by rw [HS.out]; exact own_empty _ _ _, (fun c hc => by cases hc), by (repeat' (first | with_reducible exact Below.refl _ _ | with_reducible refine below_drewN ?_ _ | with_reducible refine Below.drew ?_ | with_reducible refine Below.setCell ?_ (by first | exact Nat.le_refl _ | (simp; done) | (simp; omega) | omega) _ | with_reducible refine Below.alloc ?_ (by first | exact Nat.le_refl _ | (simp; done) | (simp; omega) | omega) _ | exact Below.refl _ _))⟩

set_option maxRecDepth 100000 in
set_option maxHeartbeats 4000000 in
theorem Entries_yes (L : Lay) (s : St) (from_ most : Int) (w : World) (h : StAt w L s) (hok : Ok s) (h1 : s.base.pos.i < from_) (h2 : from_ ≤ s.pos.i) (h3 : 1 ≤ most) :
    Calls Try.prog 27 #[.pointer (some ⟨L.b, 0, none⟩), .int .i64 from_, .int .i64 most] w (EntriesRes s from_ most w) := by
  have hbl := h.blk.lt
  have ha := hok.at_
  have hl := hok.low
  have hh := hok.high
  obtain ⟨k, hk⟩ : ∃ k : Nat, from_ - s.base.pos.i - 1 = (k : Int) := ⟨(from_ - s.base.pos.i - 1).toNat, by omega⟩
  obtain ⟨n, hn⟩ : ∃ n : Nat, s.ents.length = n := ⟨_, rfl⟩
  have hkn : k < n := by omega
  have hn512 : n ≤ 512 := by omega
  obtain ⟨m, hm⟩ : ∃ m : Nat, m = min most.toNat (n - k) := ⟨_, rfl⟩
  have hmn : k + m ≤ n := by omega
  have hmin : min most (((n - k : Nat) : Nat) : Int) = (m : Int) := by omega
  have hS : someE s from_ most = (s.ents.drop k).take m := by
    unfold someE
    rw [if_neg (by omega), hk, Int.toNat_natCast]
    rw [hm, ← hn, ← List.length_drop, List.take_eq_take_iff]
    simp
  have hlen : ((s.ents.drop k).take m).length = m := by rw [List.length_take, List.length_drop]; omega
  obtain ⟨eb, eo, ec, hev, hle, hmax, hlt, _⟩ := ens_at (own_sl h.ens) (by omega)
  rw [hn] at hev hle
  have hsl : SlAt w (.slice (some ⟨eb, eo, none⟩) n ec) n (entsCells s.ents) := by have := own_sl h.ens; rw [hev, hn] at this; exact this
  have hsub := sl_sub entCells 7 (fun _ => rfl) (k := k) (m := m) hsl hmn hn (by omega)
  have c1 : World.cell? w ⟨L.b, 1, none⟩ = some (.int .i64 s.pos.i) := by rw [Blk.cell h.blk]; rfl
  have c6 : World.cell? w ⟨L.b, 6, none⟩ = some (.int .i64 s.base.pos.i) := by rw [Blk.cell h.blk]; rfl
  have c9 : w.cell? ⟨L.b, 9, none⟩ = some (.slice (some ⟨eb, eo, none⟩) n ec) := by rw [h.blk.cell, ← hev]; rfl
  have e1 : decide (from_ ≤ s.base.pos.i) = false := decide_eq_false (by omega)
  have e2 : decide (s.pos.i < from_) = false := decide_eq_false (by omega)
  have e3 : decide (most < 1) = false := decide_eq_false (by omega)
  have q1 : (0 : Int) ≤ k := by omega
  have q2 : (k : Int) ≤ n := by omega
  have HS := Lib.hid hS
  have HSUB := Lib.hid hsub
  have HLEN := Lib.hid hlen
  have HN := Lib.hid hn
  have HM := Lib.hid hm
  clear h hok hS hsub hlen hsl hev hn hm ha
  go_enter Try.func27, Try.ntmps27
  go_wp2_with fail
  go_quiet (fail)
  go_upto_region 4 with (fail)
  refine wp_abs ?_
  intro w1 hw1
  have hb1 : Below w.heap.size w w1 := by rw [hw1]; (repeat' (first | with_reducible exact Below.refl _ _ | with_reducible refine below_drewN ?_ _ | with_reducible refine Below.drew ?_ | with_reducible refine Below.setCell ?_ (by first | exact Nat.le_refl _ | (simp; done) | (simp; omega) | omega) _ | with_reducible refine Below.alloc ?_ (by first | exact Nat.le_refl _ | (simp; done) | (simp; omega) | omega) _ | exact Below.refl _ _))
  clear hw1
  have hs1 := hb1.size
  obtain ⟨v', w3, happ, hown, hgr, hob⟩ := run_append_sl (P := Try.prog) (w := (w1.alloc (.cells #[] 35))) 58 58 35 7 72 _ Try.underlying58 ent_info rfl (by omega) (.slice (some ⟨w1.heap.size, 0, none⟩) 0 0) 0 [] (own_blk0 7 (Blk.new' rfl rfl)) (.slice (some ⟨eb, eo + k * 7, none⟩) m (ec - k)) m (entsCells ((s.ents.drop k).take m)) (HSUB.out.below (by (repeat' (first | with_reducible exact hb1 | with_reducible exact Below.refl _ _ | with_reducible refine below_drewN ?_ _ | with_reducible refine Below.drew ?_ | with_reducible refine Below.setCell ?_ (by first | exact Nat.le_refl _ | (simp; done) | (simp; omega) | omega) _ | with_reducible refine Below.alloc ?_ (by first | exact Nat.le_refl _ | (simp; done) | (simp; omega) | omega) _ | exact Below.refl _ _ | exact hb1)))) (by rw [entsCells_length, HLEN.out]) (entsCells_one _) (by omega) (by unfold maxLen; omega)
  rw [Nat.zero_add] at hown
  obtain ⟨A', ca', hv', _⟩ := own_sl hown
  subst hv'
  have HFR := Lib.hid (Frm.ofGrown hgr)
  have HO := Lib.hid hown
  have HOB := Lib.hid hob
  have HB1 := Lib.hid hb1
  clear hown hgr hob hb1 h1 h2 c1 c6 c9
  go_wp2_with (refine list_append_run rfl _ _ _ _ rfl rfl (by rfl) (by rfl) happ ?_)
  go_ret
  have hg : ∀ c, (Value.slice A' m ca').ownBlock = some c → w1.heap.size ≤ c := by
    intro c hc
    rcases HOB.out with h | h
    · rw [h] at hc; injection hc with hc; rw [← hc]; exact Nat.le_refl _
    · rw [h] at hc; injection hc with hc; rw [← hc]; simp
  have hw3 : Below w1.heap.size w1 w3 := Frm.ge (W := w1.alloc (.cells #[] 35)) (by (repeat' (first | with_reducible exact Below.refl _ _ | with_reducible refine below_drewN ?_ _ | with_reducible refine Below.drew ?_ | with_reducible refine Below.setCell ?_ (by first | exact Nat.le_refl _ | (simp; done) | (simp; omega) | omega) _ | with_reducible refine Below.alloc ?_ (by first | exact Nat.le_refl _ | (simp; done) | (simp; omega) | omega) _ | exact Below.refl _ _))) HFR.out (by intro c hc; injection hc with hc; rw [← hc]; exact Nat.le_refl _)
  refine ⟨.slice A' m ca', rfl, ?_, fun c hc => Nat.le_trans hs1 (hg c hc), HB1.out.trans (hw3.mono hs1)⟩
  rw [HS.out, HLEN.out]
  simpa using HO.out


theorem Entries_any (L : Lay) (s : St) (from_ most : Int) (w : World) (h : StAt w L s) (hok : Ok s) :
    Calls Try.prog 27 #[.pointer (some ⟨L.b, 0, none⟩), .int .i64 from_, .int .i64 most] w (EntriesRes s from_ most w) := by
  by_cases hc : from_ ≤ s.base.pos.i ∨ s.pos.i < from_ ∨ most < 1
  · exact Entries_no L s from_ most w h hc
  · exact Entries_yes L s from_ most w h hok (by omega) (by omega) (by omega)
theorem entries_live {F : Nat → Prop} {b : Nat} {s : St} {w : World} (from_ most : Int) (h : Live F w b s) (hok : Ok s) :
    Calls Try.prog 27 #[.pointer (some ⟨b, 0, none⟩), .int .i64 from_, .int .i64 most] w (EntriesRes s from_ most w) := by
  obtain ⟨L, rfl, h2, h3⟩ := h; exact Entries_any L s from_ most w h2 hok

def PosRes (n : Int) (p : Pos) (w : World) (e : Ending) (w' : World) : Prop := e = .returned (.tuple #[.int .i64 n, .agg (posCells p)]) ∧ Below w.heap.size w w'
set_option maxRecDepth 100000 in
set_option maxHeartbeats 4000000 in
theorem Look_state (L : Lay) (s : St) (x r : Int) (w : World) (h : StAt w L s) :
    Calls Try.prog 28 #[.pointer (some ⟨L.b, 0, none⟩), .int .i64 x, .int .i64 r] w (PosRes (look 16 s.seen x r).1 (look 16 s.seen x r).2 w) := by
  have hbl := h.blk.lt
  have c3 : World.cell? w ⟨L.b, 3, none⟩ = some (.pointer (some ⟨L.sb, 0, none⟩)) := by rw [Blk.cell h.blk]; rfl
  have hl : ∀ W : World, Below w.heap.size w W → Calls Try.prog 52 #[.pointer (some ⟨L.sb, 0, none⟩), .int .i64 x, .int .i64 r] W (LookRes 16 s.seen x r W) :=
    fun W hW => Look_any L.sb L.mb 16 s.seen x r W (h.below hW).fold.seen
  have HL := Lib.hid hl
  clear h hl
  go_enter Try.func28, Try.ntmps28
  go_wp2_with fail
  refine (HL.out _ (by (repeat' (first | with_reducible exact Below.refl _ _ | with_reducible refine below_drewN ?_ _ | with_reducible refine Below.drew ?_ | with_reducible refine Below.setCell ?_ (by first | exact Nat.le_refl _ | (simp; done) | (simp; omega) | omega) _ | with_reducible refine Below.alloc ?_ (by first | exact Nat.le_refl _ | (simp; done) | (simp; omega) | omega) _ | exact Below.refl _ _)))).mono ?_
  rintro e w1 ⟨rfl, hb⟩
  obtain ⟨⟨n, ⟨pe, pi⟩⟩, hp⟩ : ∃ p, look 16 s.seen x r = p := ⟨_, rfl⟩
  rw [hp]
  have hz := (Blk.new w (posCells zeroPos) 33).below hb
  have HB := Lib.hid (((Below.refl _ w).alloc (Nat.le_refl _) (.cells (posCells zeroPos) 33)).trans (hb.mono (by simp)))
  have HZ := Lib.hid hz
  have hz1 := hz.lt
  have z0 : World.cell? w1 ⟨w.heap.size, 0, none⟩ = some (.int .i64 0) := by rw [Blk.cell hz]; rfl
  have z1 : World.cell? w1 ⟨w.heap.size, 1, none⟩ = some (.int .i64 0) := by rw [Blk.cell hz]; rfl
  have y0 := Blk.free hz 0
  have y1 := Blk.free hz 1
  have HP := Lib.hid hp
  unfold posCells
  clear hb hz hp
  go_wp2_with fail
  refine ret_tmp_cell rfl rfl (loads_blk (T := 33) (cs := posCells ⟨pe, pi⟩) pos_agg pos_size ?_ rfl) rfl ⟨by rw [HP.out]; rfl, ?_⟩
  · ((repeat' (first | with_reducible exact HZ.out | with_reducible exact Blk.new _ _ _ | with_reducible apply Blk.drewN | with_reducible apply Blk.drew | with_reducible apply Blk.set' | (with_reducible apply Blk.set_other (hp := by first | assumption | (simp; done) | (simp; omega) | omega)) | (with_reducible apply Blk.new'; focus (first | (simp; done) | (simp; omega))) | with_reducible apply Blk.alloc | exact HZ.out)) <;> rfl)
  · (repeat' (first | with_reducible exact HB.out | with_reducible exact Below.refl _ _ | with_reducible refine below_drewN ?_ _ | with_reducible refine Below.drew ?_ | with_reducible refine Below.setCell ?_ (by first | exact Nat.le_refl _ | (simp; done) | (simp; omega) | omega) _ | with_reducible refine Below.alloc ?_ (by first | exact Nat.le_refl _ | (simp; done) | (simp; omega) | omega) _ | exact Below.refl _ _ | exact HB.out))
theorem look_live {F : Nat → Prop} {b : Nat} {s : St} {w : World} (x r : Int) (h : Live F w b s) :
    Calls Try.prog 28 #[.pointer (some ⟨b, 0, none⟩), .int .i64 x, .int .i64 r] w (PosRes (look 16 s.seen x r).1 (look 16 s.seen x r).2 w) := by
  obtain ⟨L, rfl, h2, h3⟩ := h; exact Look_state L s x r w h2

end Go.Proofs.Ytedcdjlpogpgbaa
