/- Layer 15: Entries and Look. -/
import Derived.Test.YtedcdjlpogpgbaaC3
import Derived.Lib.MinMax
import Derived.Test.YtedcdjlpogpgbaaRows
import Derived.Test.YtedcdjlpogpgbaaC1
import Derived.ProofKit
import Derived.SliceStrings
import Derived.Test.YtedcdjlpogpgbaaC2
import Derived.Deep.Slices
set_option linter.unusedVariables false
set_option linter.unusedSimpArgs false
namespace Go.Proofs.Ytedcdjlpogpgbaa
open Go.RowKit

theorem flat_drop {α : Type} (enc : α → List Value) (k : Nat) (hk : ∀ x, (enc x).length = k) : ∀ (l : List α) (j : Nat), (l.drop j).flatMap enc = (l.flatMap enc).drop (j * k)
  | [], j => by simp
  | x :: l, 0 => by simp
  | x :: l, j + 1 => by
    rw [List.drop_succ_cons, List.flatMap_cons, flat_drop enc k hk l j, List.drop_append, show List.drop ((j + 1) * k) (enc x) = [] from List.drop_eq_nil_of_le (by rw [hk, Nat.add_mul]; omega), hk, show (j + 1) * k - k = j * k from by rw [Nat.add_mul]; omega]
    rfl
/-- A piece of a slice. -/
theorem sl_sub {α : Type} (enc : α → List Value) (q : Nat) (hq : ∀ x, (enc x).length = q) {w : World} {b o n c k m : Nat} {l : List α} (h : SlAt w (.slice (some ⟨b, o, none⟩) n c) n (l.flatMap enc)) (hm : k + m ≤ n) (hn : l.length = n) (h0 : 0 < n) :
    SlAt w (.slice (some ⟨b, o + k * q, none⟩) m (c - k)) m (((l.drop k).take m).flatMap enc) := by
  obtain ⟨A, c', e, h1, h2, h3⟩ := h
  injection e with e1 _ e2
  subst e1; subst e2
  refine ⟨_, _, rfl, by omega, by omega, fun _ => ?_⟩
  obtain ⟨b', o', e3, hb, hc⟩ := h3 h0
  injection e3 with e3
  injection e3 with e4 e5
  subst e4; subst e5
  refine ⟨b, o + k * q, rfl, hb, fun j u hu => ?_⟩
  rw [flat_take enc q hq, flat_drop enc q hq, List.getElem?_take] at hu
  split at hu
  · rw [List.getElem?_drop] at hu
    have := hc _ u hu
    rw [Nat.add_assoc]; exact this
  · cases hu
def someE (s : St) (from_ most : Int) : List Ent := if from_ ≤ s.base.pos.i ∨ s.pos.i < from_ ∨ most < 1 then [] else (s.ents.drop (from_ - s.base.pos.i - 1).toNat).take most.toNat
def EntriesRes (s : St) (from_ most : Int) (w : World) (e : Ending) (w' : World) : Prop :=
  ∃ v, e = .returned v ∧ w'.ownsRow 0 35 7 v (someE s from_ most).length (entsCells (someE s from_ most)) ∧ (∀ c, v.ownBlock = some c → w.heap.size ≤ c) ∧ Below w.heap.size w w'

set_option maxRecDepth 100000 in
set_option maxHeartbeats 4000000 in
theorem Entries_no (L : Lay) (s : St) (from_ most : Int) (w : World) (h : StAt w L s) (hno : from_ ≤ s.base.pos.i ∨ s.pos.i < from_ ∨ most < 1) :
    Calls Try.prog 27 #[.pointer (some ⟨L.b, 0, none⟩), .int .i64 from_, .int .i64 most] w (EntriesRes s from_ most w) := by
  have hbl := h.blk.lt
  have c1 : World.cell? w ⟨L.b, 1, none⟩ = some (.int .i64 s.pos.i) := by rw [Blk.cell h.blk]; rfl
  have c6 : World.cell? w ⟨L.b, 6, none⟩ = some (.int .i64 s.base.pos.i) := by rw [Blk.cell h.blk]; rfl
  have hs : someE s from_ most = [] := if_pos hno
  have HS := Lib.hid hs
  clear h hs
  by_cases d1 : from_ ≤ s.base.pos.i
  · have e1 : decide (from_ ≤ s.base.pos.i) = true := decide_eq_true d1
    go_enter Try.func27, Try.ntmps27
    go_wp2_with fail
    go_ret
    exact ⟨.slice none 0 0, rfl, by rw [HS.out]; exact own_empty _ _ _, (fun c hc => by cases hc), by (repeat' (first | with_reducible exact Below.refl _ _ | with_reducible refine below_drewN ?_ _ | with_reducible refine Below.drew ?_ | with_reducible refine Below.setCell ?_ (by first | exact Nat.le_refl _ | (simp; done) | (simp; omega) | omega) _ | with_reducible refine Below.alloc ?_ (by first | exact Nat.le_refl _ | (simp; done) | (simp; omega) | omega) _ | exact Below.refl _ _))⟩
  have e1 : decide (from_ ≤ s.base.pos.i) = false := decide_eq_false d1
  by_cases d2 : s.pos.i < from_
  · have e2 : decide (s.pos.i < from_) = true := decide_eq_true d2
    go_enter Try.func27, Try.ntmps27
    go_wp2_with fail
    go_ret
    exact ⟨.slice none 0 0, rfl, by rw [HS.out]; exact own_empty _ _ _, (fun c hc => by cases hc), by (repeat' (first | with_reducible exact Below.refl _ _ | with_reducible refine below_drewN ?_ _ | with_reducible refine Below.drew ?_ | with_reducible refine Below.setCell ?_ (by first | exact Nat.le_refl _ | (simp; done) | (simp; omega) | omega) _ | with_reducible refine Below.alloc ?_ (by first | exact Nat.le_refl _ | (simp; done) | (simp; omega) | omega) _ | exact Below.refl _ _))⟩
  have e2 : decide (s.pos.i < from_) = false := decide_eq_false d2
  have e3 : decide (most < 1) = true := decide_eq_true (by omega)
  clear hno
  go_enter Try.func27, Try.ntmps27
  go_wp2_with fail
  go_ret
  exact ⟨.slice none 0 0, rfl, by rw [HS.out]; exact own_empty _ _ _, (fun c hc => by cases hc), by (repeat' (first | with_reducible exact Below.refl _ _ | with_reducible refine below_drewN ?_ _ | with_reducible refine Below.drew ?_ | with_reducible refine Below.setCell ?_ (by first | exact Nat.le_refl _ | (simp; done) | (simp; omega) | omega) _ | with_reducible refine Below.alloc ?_ (by first | exact Nat.le_refl _ | (simp; done) | (simp; omega) | omega) _ | exact Below.refl _ _))⟩

set_option maxRecDepth 100000 in
set_option maxHeartbeats 4000000 in
theorem Entries_yes (L : Lay) (s : St) (from_ most : Int) (w : World) (h : StAt w L s) (hok : Ok s) (h1 : s.base.pos.i < from_) (h2 : from_ ≤ s.pos.i) (h3 : 1 ≤ most) :
    Calls Try.prog 27 #[.pointer (some ⟨L.b, 0, none⟩), .int .i64 from_, .int .i64 most] w (EntriesRes s from_ most w) := by
  have hbl := h.blk.lt
  have ha := hok.at_
  have hl := hok.low
  have hh := hok.high
  obtain ⟨k, hk⟩ : ∃ k : Nat, from_ - s.base.pos.i - 1 = (k : Int) := ⟨(from_ - s.base.pos.i - 1).toNat, by omega⟩
  obtain ⟨n, hn⟩ : ∃ n : Nat, s.ents.length = n := ⟨_, rfl⟩
  have hkn : k < n := by omega
  have hn512 : n ≤ 512 := by omega
  obtain ⟨m, hm⟩ : ∃ m : Nat, m = min most.toNat (n - k) := ⟨_, rfl⟩
  have hmn : k + m ≤ n := by omega
  have hmin : min most (((n - k : Nat) : Nat) : Int) = (m : Int) := by omega
  have hS : someE s from_ most = (s.ents.drop k).take m := by
    unfold someE
    rw [if_neg (by omega), hk, Int.toNat_natCast]
    rw [hm, ← hn, ← List.length_drop, List.take_eq_take_iff]
    simp
  have hlen : ((s.ents.drop k).take m).length = m := by rw [List.length_take, List.length_drop]; omega
  obtain ⟨eb, eo, ec, hev, hle, hmax, hlt, _⟩ := ens_at (own_sl h.ens) (by omega)
  rw [hn] at hev hle
  have hsl : SlAt w (.slice (some ⟨eb, eo, none⟩) n ec) n (entsCells s.ents) := by have := own_sl h.ens; rw [hev, hn] at this; exact this
  have hsub := sl_sub entCells 7 (fun _ => rfl) (k := k) (m := m) hsl hmn hn (by omega)
  have c1 : World.cell? w ⟨L.b, 1, none⟩ = some (.int .i64 s.pos.i) := by rw [Blk.cell h.blk]; rfl
  have c6 : World.cell? w ⟨L.b, 6, none⟩ = some (.int .i64 s.base.pos.i) := by rw [Blk.cell h.blk]; rfl
  have c9 : w.cell? ⟨L.b, 9, none⟩ = some (.slice (some ⟨eb, eo, none⟩) n ec) := by rw [h.blk.cell, ← hev]; rfl
  have e1 : decide (from_ ≤ s.base.pos.i) = false := decide_eq_false (by omega)
  have e2 : decide (s.pos.i < from_) = false := decide_eq_false (by omega)
  have e3 : decide (most < 1) = false := decide_eq_false (by omega)
  have q1 : (0 : Int) ≤ k := by omega
  have q2 : (k : Int) ≤ n := by omega
  have HS := Lib.hid hS
  have HSUB := Lib.hid hsub
  have HLEN := Lib.hid hlen
  have HN := Lib.hid hn
  have HM := Lib.hid hm
  clear h hok hS hsub hlen hsl hev hn hm ha
  go_enter Try.func27, Try.ntmps27
  go_wp2_with fail
  go_quiet (fail)
  go_upto_region 4 with (fail)
  refine wp_abs ?_
  intro w1 hw1
  have hb1 : Below w.heap.size w w1 := by rw [hw1]; (repeat' (first | with_reducible exact Below.refl _ _ | with_reducible refine below_drewN ?_ _ | with_reducible refine Below.drew ?_ | with_reducible refine Below.setCell ?_ (by first | exact Nat.le_refl _ | (simp; done) | (simp; omega) | omega) _ | with_reducible refine Below.alloc ?_ (by first | exact Nat.le_refl _ | (simp; done) | (simp; omega) | omega) _ | exact Below.refl _ _))
  clear hw1
  have hs1 := hb1.size
  obtain ⟨v', w3, happ, hown, hgr, hob⟩ := run_append_sl (P := Try.prog) (w := (w1.alloc (.cells #[] 35))) 58 58 35 7 72 _ Try.underlying58 ent_info rfl (by omega) (.slice (some ⟨w1.heap.size, 0, none⟩) 0 0) 0 [] (own_blk0 7 (Blk.new' rfl rfl)) (.slice (some ⟨eb, eo + k * 7, none⟩) m (ec - k)) m (entsCells ((s.ents.drop k).take m)) (HSUB.out.below (by (repeat' (first | with_reducible exact hb1 | with_reducible exact Below.refl _ _ | with_reducible refine below_drewN ?_ _ | with_reducible refine Below.drew ?_ | with_reducible refine Below.setCell ?_ (by first | exact Nat.le_refl _ | (simp; done) | (simp; omega) | omega) _ | with_reducible refine Below.alloc ?_ (by first | exact Nat.le_refl _ | (simp; done) | (simp; omega) | omega) _ | exact Below.refl _ _ | exact hb1)))) (by rw [entsCells_length, HLEN.out]) (entsCells_one _) (by omega) (by unfold maxLen; omega)
  rw [Nat.zero_add] at hown
  obtain ⟨A', ca', hv', _⟩ := own_sl hown
  subst hv'
  have HFR := Lib.hid (Frm.ofGrown hgr)
  have HO := Lib.hid hown
  have HOB := Lib.hid hob
  have HB1 := Lib.hid hb1
  clear hown hgr hob hb1 h1 h2 c1 c6 c9
  go_wp2_with (refine list_append_run rfl _ _ _ _ rfl rfl (by rfl) (by rfl) happ ?_)
  go_ret
  have hg : ∀ c, (Value.slice A' m ca').ownBlock = some c → w1.heap.size ≤ c := by
    intro c hc
    rcases HOB.out with h | h
    · rw [h] at hc; injection hc with hc; rw [← hc]; exact Nat.le_refl _
    · rw [h] at hc; injection hc with hc; rw [← hc]; simp
  have hw3 : Below w1.heap.size w1 w3 := Frm.ge (W := w1.alloc (.cells #[] 35)) (by (repeat' (first | with_reducible exact Below.refl _ _ | with_reducible refine below_drewN ?_ _ | with_reducible refine Below.drew ?_ | with_reducible refine Below.setCell ?_ (by first | exact Nat.le_refl _ | (simp; done) | (simp; omega) | omega) _ | with_reducible refine Below.alloc ?_ (by first | exact Nat.le_refl _ | (simp; done) | (simp; omega) | omega) _ | exact Below.refl _ _))) HFR.out (by intro c hc; injection hc with hc; rw [← hc]; exact Nat.le_refl _)
  refine ⟨.slice A' m ca', rfl, ?_, fun c hc => Nat.le_trans hs1 (hg c hc), HB1.out.trans (hw3.mono hs1)⟩
  rw [HS.out, HLEN.out]
  simpa using HO.out


theorem Entries_any (L : Lay) (s : St) (from_ most : Int) (w : World) (h : StAt w L s) (hok : Ok s) :
    Calls Try.prog 27 #[.pointer (some ⟨L.b, 0, none⟩), .int .i64 from_, .int .i64 most] w (EntriesRes s from_ most w) := by
  by_cases hc : from_ ≤ s.base.pos.i ∨ s.pos.i < from_ ∨ most < 1
  · exact Entries_no L s from_ most w h hc
  · exact Entries_yes L s from_ most w h hok (by omega) (by omega) (by omega)
theorem entries_live {F : Nat → Prop} {b : Nat} {s : St} {w : World} (from_ most : Int) (h : Live F w b s) (hok : Ok s) :
    Calls Try.prog 27 #[.pointer (some ⟨b, 0, none⟩), .int .i64 from_, .int .i64 most] w (EntriesRes s from_ most w) := by
  obtain ⟨L, rfl, h2, h3⟩ := h; exact Entries_any L s from_ most w h2 hok

def PosRes (n : Int) (p : Pos) (w : World) (e : Ending) (w' : World) : Prop := e = .returned (.tuple #[.int .i64 n, .agg (posCells p)]) ∧ Below w.heap.size w w'
set_option maxRecDepth 100000 in
set_option maxHeartbeats 4000000 in
theorem Look_state (L : Lay) (s : St) (x r : Int) (w : World) (h : StAt w L s) :
    Calls Try.prog 28 #[.pointer (some ⟨L.b, 0, none⟩), .int .i64 x, .int .i64 r] w (PosRes (look 16 s.seen x r).1 (look 16 s.seen x r).2 w) := by
  have hbl := h.blk.lt
  have c3 : World.cell? w ⟨L.b, 3, none⟩ = some (.pointer (some ⟨L.sb, 0, none⟩)) := by rw [Blk.cell h.blk]; rfl
  have hl : ∀ W : World, Below w.heap.size w W → Calls Try.prog 52 #[.pointer (some ⟨L.sb, 0, none⟩), .int .i64 x, .int .i64 r] W (LookRes 16 s.seen x r W) :=
    fun W hW => Look_any L.sb L.mb 16 s.seen x r W (h.below hW).fold.seen
  have HL := Lib.hid hl
  clear h hl
  go_enter Try.func28, Try.ntmps28
  go_wp2_with fail
  refine (HL.out _ (by (repeat' (first | with_reducible exact Below.refl _ _ | with_reducible refine below_drewN ?_ _ | with_reducible refine Below.drew ?_ | with_reducible refine Below.setCell ?_ (by first | exact Nat.le_refl _ | (simp; done) | (simp; omega) | omega) _ | with_reducible refine Below.alloc ?_ (by first | exact Nat.le_refl _ | (simp; done) | (simp; omega) | omega) _ | exact Below.refl _ _)))).mono ?_
  rintro e w1 ⟨rfl, hb⟩
  obtain ⟨⟨n, ⟨pe, pi⟩⟩, hp⟩ : ∃ p, look 16 s.seen x r = p := ⟨_, rfl⟩
  rw [hp]
  have hz := (Blk.new w (posCells zeroPos) 33).below hb
  have HB := Lib.hid (((Below.refl _ w).alloc (Nat.le_refl _) (.cells (posCells zeroPos) 33)).trans (hb.mono (by simp)))
  have HZ := Lib.hid hz
  have hz1 := hz.lt
  have z0 : World.cell? w1 ⟨w.heap.size, 0, none⟩ = some (.int .i64 0) := by rw [Blk.cell hz]; rfl
  have z1 : World.cell? w1 ⟨w.heap.size, 1, none⟩ = some (.int .i64 0) := by rw [Blk.cell hz]; rfl
  have y0 := Blk.free hz 0
  have y1 := Blk.free hz 1
  have HP := Lib.hid hp
  unfold posCells
  clear hb hz hp
  go_wp2_with fail
  refine ret_tmp_cell rfl rfl (loads_blk (T := 33) (cs := posCells ⟨pe, pi⟩) pos_agg pos_size ?_ rfl) rfl ⟨by rw [HP.out]; rfl, ?_⟩
  · ((repeat' (first | with_reducible exact HZ.out | with_reducible exact Blk.new _ _ _ | with_reducible apply Blk.drewN | with_reducible apply Blk.drew | with_reducible apply Blk.set' | (with_reducible apply Blk.set_other (hp := by first | assumption | (simp; done) | (simp; omega) | omega)) | (with_reducible apply Blk.new'; focus (first | (simp; done) | (simp; omega))) | with_reducible apply Blk.alloc | exact HZ.out)) <;> rfl)
  · (repeat' (first | with_reducible exact HB.out | with_reducible exact Below.refl _ _ | with_reducible refine below_drewN ?_ _ | with_reducible refine Below.drew ?_ | with_reducible refine Below.setCell ?_ (by first | exact Nat.le_refl _ | (simp; done) | (simp; omega) | omega) _ | with_reducible refine Below.alloc ?_ (by first | exact Nat.le_refl _ | (simp; done) | (simp; omega) | omega) _ | exact Below.refl _ _ | exact HB.out))
theorem look_live {F : Nat → Prop} {b : Nat} {s : St} {w : World} (x r : Int) (h : Live F w b s) :
    Calls Try.prog 28 #[.pointer (some ⟨b, 0, none⟩), .int .i64 x, .int .i64 r] w (PosRes (look 16 s.seen x r).1 (look 16 s.seen x r).2 w) := by
  obtain ⟨L, rfl, h2, h3⟩ := h; exact Look_state L s x r w h2

end Go.Proofs.Ytedcdjlpogpgbaa

/- Small words: a world by a name of its own; an empty slice. -/
set_option linter.unusedVariables false
set_option linter.unusedSimpArgs false
namespace Go.Proofs.Ytedcdjlpogpgbaa
open Go.RowKit

theorem wp_name {P : Program} {c : Code} {Q : Exit → Act → World → Prop} {a : Act} {W : World} (h : ∀ w1, w1 = W → c.wp P Q a w1) : c.wp P Q a W := h W rfl
theorem pr_info : (Try.prog.info? 67).map (fun i => (i.zero, i.size, i.bytes)) = some (some (.agg #[.string ⟨#[]⟩, .int .i64 0, .int .i64 0, .bool false, .string ⟨#[]⟩]), 5, 56) := by kernel_rfl
theorem se_info : (Try.prog.info? 69).map (fun i => (i.zero, i.size, i.bytes)) = some (some (.agg #[.int .i64 0, .int .i64 0, .int .i64 0, .int .i64 0]), 4, 32) := by kernel_rfl
theorem addr_add (b o j : Nat) : (⟨b, o, none⟩ : Addr).add j = ⟨b, o + j, none⟩ := by unfold Addr.add; split <;> simp_all
theorem sl_nil (w : World) : SlAt w (.slice none 0 0) 0 [] := ⟨none, 0, rfl, Nat.le_refl _, by unfold maxLen; omega, fun h => absurd h (by omega)⟩
theorem sl_no {w : World} {A : Option Addr} {c : Nat} (h : c ≤ maxLen) : SlAt w (.slice A 0 c) 0 [] := ⟨A, c, rfl, Nat.zero_le _, h, fun h => absurd h (by omega)⟩
/-- A part of a slice. -/
theorem sl_part {α : Type} (enc : α → List Value) (q : Nat) (hq : ∀ x, (enc x).length = q) {w : World} {b o n c k m c' : Nat} {l : List α} (h : SlAt w (.slice (some ⟨b, o, none⟩) n c) n (l.flatMap enc)) (hmn : k + m ≤ n) (hc : m ≤ c') (hc' : c' ≤ maxLen) :
    SlAt w (.slice (some ⟨b, o + k * q, none⟩) m c') m (((l.drop k).take m).flatMap enc) := by
  obtain ⟨A, c2, hv, h1, h2, h3⟩ := h
  injection hv with e1 e2 e3
  subst e1; subst e3
  refine ⟨_, c', rfl, hc, hc', fun hm => ?_⟩
  obtain ⟨b', o', e, hb, hcell⟩ := h3 (by omega)
  injection e with e
  injection e with e4 e5
  subst e4; subst e5
  refine ⟨b, o + k * q, rfl, hb, fun j u hu => ?_⟩
  rw [flat_take enc q hq, flat_drop enc q hq, List.getElem?_take] at hu
  split at hu
  · rw [List.getElem?_drop] at hu
    have := hcell _ u hu
    rw [Nat.add_assoc]; exact this
  · cases hu

end Go.Proofs.Ytedcdjlpogpgbaa

/- The references' comparisons, at equal lists (printed by samegen.py). -/
set_option linter.unusedVariables false
set_option linter.unusedSimpArgs false
namespace Go.Proofs.Ytedcdjlpogpgbaa
open Go.RowKit

/-- An element of a slice, cell by cell. -/
theorem sl_elem {α : Type} (enc : α → List Value) (q : Nat) (hq : ∀ x, (enc x).length = q) {w : World} {A : Option Addr} {n c : Nat} {l : List α} (h : SlAt w (.slice A n c) n (l.flatMap enc)) (hn : 0 < n) :
    ∃ b o, A = some ⟨b, o, none⟩ ∧ b < w.heap.size ∧ ∀ i x, l[i]? = some x → ∀ j u, (enc x)[j]? = some u → w.cell? ⟨b, o + i * q + j, none⟩ = some u := by
  obtain ⟨A', c', hv, h1, h2, h3⟩ := h
  injection hv with e1 e2 e3
  subst e1; subst e3
  obtain ⟨b, o, e, hb, hc⟩ := h3 hn
  subst e
  refine ⟨b, o, rfl, hb, fun i x hi j u hj => ?_⟩
  have hjq : j < q := by rw [← hq x]; exact (List.getElem?_eq_some_iff.1 hj).1
  have := hc (i * q + j) u (by rw [flat_get enc q hq l i j x hi hjq]; exact hj)
  rw [Nat.add_assoc]; exact this
def TrueRes (w : World) (e : Ending) (w' : World) : Prop := e = .returned (.bool true) ∧ ∃ n, w' = w.drewN n
theorem eqIn_pair (k : ByteArray) (a b : Int) (th : Bool) (t : ByteArray) (n : Nat) (w : World) : (Op.equalIn (n + 4) 67 (.agg #[.string k, .int .i64 a, .int .i64 b, .bool th, .string t]) (.agg #[.string k, .int .i64 a, .int .i64 b, .bool th, .string t])).run Try.prog w = .ok true w := by
  rw [run_equalIn_struct w (n + 3) 67 _ _ (by kernel_rfl) (by kernel_rfl)]
  have hv : (Op.equalIn (n + 3) 46 (.agg #[.int .i64 a, .int .i64 b, .bool th, .string t]) (.agg #[.int .i64 a, .int .i64 b, .bool th, .string t])).run Try.prog w = .ok true w := by
    rw [run_equalIn_struct w (n + 2) 46 _ _ (by kernel_rfl) (by kernel_rfl)]
    simp [go_sem, eqIn_pos, posEq]
  simp [go_sem, hv]
theorem neq_pair (k : ByteArray) (a b : Int) (th : Bool) (t : ByteArray) (w : World) : (binOp .neq 67 (.agg #[.string k, .int .i64 a, .int .i64 b, .bool th, .string t]) (.agg #[.string k, .int .i64 a, .int .i64 b, .bool th, .string t])).run Try.prog w = .ok (.bool false) w := by
  rw [run_neq_struct, show (10000 : Nat) = 9996 + 4 from rfl, eqIn_pair]; rfl
theorem eqIn_seen (s r a b : Int) (n : Nat) (w : World) : (Op.equalIn (n + 3) 69 (.agg #[.int .i64 s, .int .i64 r, .int .i64 a, .int .i64 b]) (.agg #[.int .i64 s, .int .i64 r, .int .i64 a, .int .i64 b])).run Try.prog w = .ok true w := by
  rw [run_equalIn_struct w (n + 2) 69 _ _ (by kernel_rfl) (by kernel_rfl)]
  simp [go_sem, eqIn_pos, posEq]
theorem neq_seen (s r a b : Int) (w : World) : (binOp .neq 69 (.agg #[.int .i64 s, .int .i64 r, .int .i64 a, .int .i64 b]) (.agg #[.int .i64 s, .int .i64 r, .int .i64 a, .int .i64 b])).run Try.prog w = .ok (.bool false) w := by
  rw [run_neq_struct, show (10000 : Nat) = 9997 + 3 from rfl, eqIn_seen]; rfl
theorem eqIn_ep (m c : Int) (f : Bool) (n : Nat) (w : World) : (Op.equalIn (n + 2) 29 (.agg #[.int .i64 m, .int .i64 c, .bool f]) (.agg #[.int .i64 m, .int .i64 c, .bool f])).run Try.prog w = .ok true w := by
  rw [run_equalIn_struct w (n + 1) 29 _ _ (by kernel_rfl) (by kernel_rfl)]
  simp [go_sem]
theorem neq_ep (m c : Int) (f : Bool) (w : World) : (binOp .neq 29 (.agg #[.int .i64 m, .int .i64 c, .bool f]) (.agg #[.int .i64 m, .int .i64 c, .bool f])).run Try.prog w = .ok (.bool false) w := by
  rw [run_neq_struct, show (10000 : Nat) = 9998 + 2 from rfl, eqIn_ep]; rfl

attribute [local go_sem high] neq_pair
set_option maxRecDepth 100000 in
set_option maxHeartbeats 4000000 in
theorem SamePairs_eq (v u : Value) (l : List (ByteArray × Val)) (w : World) (hv : SlAt w v l.length (pairsCells l)) (hu : SlAt w u l.length (pairsCells l)) :
    Calls Try.prog 36 #[v, u] w (TrueRes w) := by
  obtain ⟨A, ca, rfl, ha1, ha2, _⟩ := id hv
  obtain ⟨B, cb, rfl, hb1, hb2, _⟩ := id hu
  obtain ⟨n, hn⟩ : ∃ n, l.length = n := ⟨_, rfl⟩
  rw [hn] at hv hu ha1 hb1 ⊢
  have HV := Lib.hid hv
  have HU := Lib.hid hu
  have HN := Lib.hid hn
  have hmax : n ≤ 9223372036854775807 := by unfold maxLen at ha2; omega
  clear hv hu hn
  go_enter Try.func36, Try.ntmps36
  go_wp2_with fail
  go_loopg [5] n (fun g i wr => ∃ k : Nat, k ≤ n ∧ i = .int .i64 (k : Int) ∧ g = n - k ∧ ∃ nq, wr = w.drewN nq)
  case atStart => exact ⟨0, Nat.zero_le _, rfl, rfl, 0, rfl⟩
  case round =>
    obtain ⟨i, hi, rfl, rfl, nq, rfl⟩ := hrel
    by_cases hlt : i < n
    · have d1 : decide ((i : Int) < (n : Int)) = true := by rw [decide_eq_true_eq]; omega
      obtain ⟨ab, ao, rfl, hab, hac⟩ := sl_elem pairCells 5 (fun _ => rfl) HV.out (by omega)
      obtain ⟨bb, bo, rfl, hbb, hbc⟩ := sl_elem pairCells 5 (fun _ => rfl) HU.out (by omega)
      obtain ⟨x, hx⟩ : ∃ x, l[i]? = some x := ⟨_, List.getElem?_eq_getElem (by have := HN.out; omega)⟩
      obtain ⟨k, ⟨⟨pe, pi⟩, th, t⟩⟩ := x
      have a0 : World.cell? w ⟨ab, ao + i * 5, none⟩ = _ := hac i _ hx 0 _ rfl
      have a1 : World.cell? w ⟨ab, ao + i * 5 + 1, none⟩ = _ := hac i _ hx 1 _ rfl
      have a2 : World.cell? w ⟨ab, ao + i * 5 + 2, none⟩ = _ := hac i _ hx 2 _ rfl
      have a3 : World.cell? w ⟨ab, ao + i * 5 + 3, none⟩ = _ := hac i _ hx 3 _ rfl
      have a4 : World.cell? w ⟨ab, ao + i * 5 + 4, none⟩ = _ := hac i _ hx 4 _ rfl
      have b0 : World.cell? w ⟨bb, bo + i * 5, none⟩ = _ := hbc i _ hx 0 _ rfl
      have b1 : World.cell? w ⟨bb, bo + i * 5 + 1, none⟩ = _ := hbc i _ hx 1 _ rfl
      have b2 : World.cell? w ⟨bb, bo + i * 5 + 2, none⟩ = _ := hbc i _ hx 2 _ rfl
      have b3 : World.cell? w ⟨bb, bo + i * 5 + 3, none⟩ = _ := hbc i _ hx 3 _ rfl
      have b4 : World.cell? w ⟨bb, bo + i * 5 + 4, none⟩ = _ := hbc i _ hx 4 _ rfl
      have q0 : (0 : Int) ≤ (i : Int) := by omega
      have q1 : (i : Int) < (n : Int) := by omega
      clear hac hbc hx
      go_upto_region 6 with (fail)
      go_quiet (fail)
      go_wp2_with fail
      go_roundg (n - (i + 1))
      case measure => omega
      case rel => exact ⟨i + 1, by omega, by go_num, rfl, _, rfl⟩
    · have d1 : decide ((i : Int) < (n : Int)) = false := by rw [decide_eq_false_iff_not]; omega
      go_wp2_with fail
      go_ret
      exact ⟨rfl, _, rfl⟩

attribute [local go_sem high] neq_seen
set_option maxRecDepth 100000 in
set_option maxHeartbeats 4000000 in
theorem SameSeen_eq (v u : Value) (l : List (Sn)) (w : World) (hv : SlAt w v l.length (snsCells l)) (hu : SlAt w u l.length (snsCells l)) :
    Calls Try.prog 37 #[v, u] w (TrueRes w) := by
  obtain ⟨A, ca, rfl, ha1, ha2, _⟩ := id hv
  obtain ⟨B, cb, rfl, hb1, hb2, _⟩ := id hu
  obtain ⟨n, hn⟩ : ∃ n, l.length = n := ⟨_, rfl⟩
  rw [hn] at hv hu ha1 hb1 ⊢
  have HV := Lib.hid hv
  have HU := Lib.hid hu
  have HN := Lib.hid hn
  have hmax : n ≤ 9223372036854775807 := by unfold maxLen at ha2; omega
  clear hv hu hn
  go_enter Try.func37, Try.ntmps37
  go_wp2_with fail
  go_loopg [5] n (fun g i wr => ∃ k : Nat, k ≤ n ∧ i = .int .i64 (k : Int) ∧ g = n - k ∧ ∃ nq, wr = w.drewN nq)
  case atStart => exact ⟨0, Nat.zero_le _, rfl, rfl, 0, rfl⟩
  case round =>
    obtain ⟨i, hi, rfl, rfl, nq, rfl⟩ := hrel
    by_cases hlt : i < n
    · have d1 : decide ((i : Int) < (n : Int)) = true := by rw [decide_eq_true_eq]; omega
      obtain ⟨ab, ao, rfl, hab, hac⟩ := sl_elem snCells 4 (fun _ => rfl) HV.out (by omega)
      obtain ⟨bb, bo, rfl, hbb, hbc⟩ := sl_elem snCells 4 (fun _ => rfl) HU.out (by omega)
      obtain ⟨x, hx⟩ : ∃ x, l[i]? = some x := ⟨_, List.getElem?_eq_getElem (by have := HN.out; omega)⟩
      obtain ⟨s, r, ⟨pe, pi⟩⟩ := x
      have a0 : World.cell? w ⟨ab, ao + i * 4, none⟩ = _ := hac i _ hx 0 _ rfl
      have a1 : World.cell? w ⟨ab, ao + i * 4 + 1, none⟩ = _ := hac i _ hx 1 _ rfl
      have a2 : World.cell? w ⟨ab, ao + i * 4 + 2, none⟩ = _ := hac i _ hx 2 _ rfl
      have a3 : World.cell? w ⟨ab, ao + i * 4 + 3, none⟩ = _ := hac i _ hx 3 _ rfl
      have b0 : World.cell? w ⟨bb, bo + i * 4, none⟩ = _ := hbc i _ hx 0 _ rfl
      have b1 : World.cell? w ⟨bb, bo + i * 4 + 1, none⟩ = _ := hbc i _ hx 1 _ rfl
      have b2 : World.cell? w ⟨bb, bo + i * 4 + 2, none⟩ = _ := hbc i _ hx 2 _ rfl
      have b3 : World.cell? w ⟨bb, bo + i * 4 + 3, none⟩ = _ := hbc i _ hx 3 _ rfl
      have q0 : (0 : Int) ≤ (i : Int) := by omega
      have q1 : (i : Int) < (n : Int) := by omega
      clear hac hbc hx
      go_upto_region 6 with (fail)
      go_quiet (fail)
      go_wp2_with fail
      go_roundg (n - (i + 1))
      case measure => omega
      case rel => exact ⟨i + 1, by omega, by go_num, rfl, _, rfl⟩
    · have d1 : decide ((i : Int) < (n : Int)) = false := by rw [decide_eq_false_iff_not]; omega
      go_wp2_with fail
      go_ret
      exact ⟨rfl, _, rfl⟩

attribute [local go_sem high] neq_ep
set_option maxRecDepth 100000 in
set_option maxHeartbeats 4000000 in
theorem SameTable_eq (v u : Value) (l : List (Ep)) (w : World) (hv : SlAt w v l.length (epsCells l)) (hu : SlAt w u l.length (epsCells l)) :
    Calls Try.prog 25 #[v, u] w (TrueRes w) := by
  obtain ⟨A, ca, rfl, ha1, ha2, _⟩ := id hv
  obtain ⟨B, cb, rfl, hb1, hb2, _⟩ := id hu
  obtain ⟨n, hn⟩ : ∃ n, l.length = n := ⟨_, rfl⟩
  rw [hn] at hv hu ha1 hb1 ⊢
  have HV := Lib.hid hv
  have HU := Lib.hid hu
  have HN := Lib.hid hn
  have hmax : n ≤ 9223372036854775807 := by unfold maxLen at ha2; omega
  clear hv hu hn
  go_enter Try.func25, Try.ntmps25
  go_wp2_with fail
  go_loopg [5] n (fun g i wr => ∃ k : Nat, k ≤ n ∧ i = .int .i64 (k : Int) ∧ g = n - k ∧ ∃ nq, wr = w.drewN nq)
  case atStart => exact ⟨0, Nat.zero_le _, rfl, rfl, 0, rfl⟩
  case round =>
    obtain ⟨i, hi, rfl, rfl, nq, rfl⟩ := hrel
    by_cases hlt : i < n
    · have d1 : decide ((i : Int) < (n : Int)) = true := by rw [decide_eq_true_eq]; omega
      obtain ⟨ab, ao, rfl, hab, hac⟩ := sl_elem epCells 3 (fun _ => rfl) HV.out (by omega)
      obtain ⟨bb, bo, rfl, hbb, hbc⟩ := sl_elem epCells 3 (fun _ => rfl) HU.out (by omega)
      obtain ⟨x, hx⟩ : ∃ x, l[i]? = some x := ⟨_, List.getElem?_eq_getElem (by have := HN.out; omega)⟩
      obtain ⟨m, c, f⟩ := x
      have a0 : World.cell? w ⟨ab, ao + i * 3, none⟩ = _ := hac i _ hx 0 _ rfl
      have a1 : World.cell? w ⟨ab, ao + i * 3 + 1, none⟩ = _ := hac i _ hx 1 _ rfl
      have a2 : World.cell? w ⟨ab, ao + i * 3 + 2, none⟩ = _ := hac i _ hx 2 _ rfl
      have b0 : World.cell? w ⟨bb, bo + i * 3, none⟩ = _ := hbc i _ hx 0 _ rfl
      have b1 : World.cell? w ⟨bb, bo + i * 3 + 1, none⟩ = _ := hbc i _ hx 1 _ rfl
      have b2 : World.cell? w ⟨bb, bo + i * 3 + 2, none⟩ = _ := hbc i _ hx 2 _ rfl
      have q0 : (0 : Int) ≤ (i : Int) := by omega
      have q1 : (i : Int) < (n : Int) := by omega
      clear hac hbc hx
      go_upto_region 6 with (fail)
      go_quiet (fail)
      go_wp2_with fail
      go_roundg (n - (i + 1))
      case measure => omega
      case rel => exact ⟨i + 1, by omega, by go_num, rfl, _, rfl⟩
    · have d1 : decide ((i : Int) < (n : Int)) = false := by rw [decide_eq_false_iff_not]; omega
      go_wp2_with fail
      go_ret
      exact ⟨rfl, _, rfl⟩

end Go.Proofs.Ytedcdjlpogpgbaa

/- The frame of the rows: what all laws share. -/
set_option linter.unusedVariables false
namespace Go.Proofs.Ytedcdjlpogpgbaa
open Go.ChangeShapes Go.WideShapes Go.ChangeAt Go.RowKit

theorem row_own : ownKnob Try.prog.godebug = none := by kernel_rfl
theorem row_laid : laidOutB Try.prog = true := by kernel_rfl
theorem row_cells9 : Try.prog.cellsOf 9 = 1 := by kernel_rfl
/-- A slice of strings that was there ahead of block B. -/
def Strs (A : Option Addr) (n : Nat) (f : Nat → ByteArray) (B : Nat) (w : World) : Prop := ∀ j, j < n → ∃ b o, A = some ⟨b, o, none⟩ ∧ b < B ∧ w.cell? ⟨b, o + j, none⟩ = some (.string (f j))

end Go.Proofs.Ytedcdjlpogpgbaa

/- Arguments opened: positions, entries, epochs, pairs, sessions, snapshots, records, and slices of them. -/
set_option linter.unusedVariables false
set_option linter.unusedSimpArgs false
namespace Go.Proofs.Ytedcdjlpogpgbaa
open Go.ChangeShapes Go.WideShapes Go.ChangeAt Go.RowKit Go.Deep

theorem len1 {α : Type} {l : List α} (h : l.length = 1) : ∃ a, l = [a] := by match l, h with | [a], _ => exact ⟨a, rfl⟩
theorem len2 {α : Type} {l : List α} (h : l.length = 2) : ∃ a b, l = [a, b] := by match l, h with | [a, b], _ => exact ⟨a, b, rfl⟩
theorem len3 {α : Type} {l : List α} (h : l.length = 3) : ∃ a b c, l = [a, b, c] := by match l, h with | [a, b, c], _ => exact ⟨a, b, c, rfl⟩
theorem len4 {α : Type} {l : List α} (h : l.length = 4) : ∃ a b c d, l = [a, b, c, d] := by match l, h with | [a, b, c, d], _ => exact ⟨a, b, c, d, rfl⟩
theorem len5 {α : Type} {l : List α} (h : l.length = 5) : ∃ a b c d e, l = [a, b, c, d, e] := by match l, h with | [a, b, c, d, e], _ => exact ⟨a, b, c, d, e, rfl⟩
theorem len7 {α : Type} {l : List α} (h : l.length = 7) : ∃ a b c d e f g, l = [a, b, c, d, e, f, g] := by match l, h with | [a, b, c, d, e, f, g], _ => exact ⟨a, b, c, d, e, f, g, rfl⟩
def I64 (n : Int) : Prop := -9223372036854775808 ≤ n ∧ n ≤ 9223372036854775807
section
variable {H : Type} {enc : TypeId × Value → H} {w : World} {base : Nat} {spare : Nat → Bool} {held : Bool} {fuel : Nat} {cs : List Value} {x : DataW H × List MemPlace}
theorem row_int : Try.prog.cellsOf 3 = 1 := by kernel_rfl
theorem row_bool : Try.prog.cellsOf 4 = 1 := by kernel_rfl
theorem row_pos : Try.prog.cellsOf 33 = 2 := by kernel_rfl
theorem row_val : Try.prog.cellsOf 46 = 4 := by kernel_rfl
theorem row_pair : Try.prog.cellsOf 67 = 5 := by kernel_rfl
theorem row_seen : Try.prog.cellsOf 69 = 4 := by kernel_rfl
theorem row_ent : Try.prog.cellsOf 35 = 7 := by kernel_rfl
theorem row_ep : Try.prog.cellsOf 29 = 3 := by kernel_rfl
theorem row_pairs : Try.prog.cellsOf 37 = 1 := by kernel_rfl
theorem row_seens : Try.prog.cellsOf 38 = 1 := by kernel_rfl
theorem row_snap : Try.prog.cellsOf 40 = 4 := by kernel_rfl
theorem field_at {P : Program} {t : TypeId} {fs : Array Field} (ht : P.underlying t = some (.struct fs)) (h : DataW.trod enc P w base spare held fuel t cs = some x) :
    cs.length = P.cellsOf t ∧ ∃ n, ∀ (j : Nat) (f : Field), fs[j]? = some f → ∃ y, DataW.trod enc P w base spare held n f.type ((cs.drop f.offset).take (P.cellsOf f.type)) = some y := by
  obtain ⟨xs, n, _, _, hl, hlen, hg⟩ := DataW.trod_struct ht h
  refine ⟨hl, n, fun j f hj => ?_⟩
  have hjl : j < xs.length := by rw [hlen]; exact (Array.getElem?_eq_some_iff.1 hj).1
  exact ⟨xs[j], (hg j f hj).trans (List.getElem?_eq_getElem hjl)⟩
theorem fld {P : Program} {fs : Array Field} {n : Nat} (hf : ∀ (j : Nat) (f : Field), fs[j]? = some f → ∃ y, DataW.trod enc P w base spare held n f.type ((cs.drop f.offset).take (P.cellsOf f.type)) = some y) (j : Nat) (f : Field) (hj : fs[j]? = some f) {t : TypeId} {k o : Nat} (h1 : f.type = t) (h2 : P.cellsOf t = k) (h3 : f.offset = o) :
    ∃ y, DataW.trod enc P w base spare held n t ((cs.drop o).take k) = some y := by
  subst h1; subst h2; subst h3; exact hf j f hj
theorem at_int (h : DataW.trod enc Try.prog w base spare held fuel 3 cs = some x) : ∃ n, cs = [.int .i64 n] ∧ I64 n := by
  obtain ⟨n, h1, _, h2⟩ := DataW.trod_int Try.underlying3 h
  refine ⟨n, h1, ?_⟩
  simp only [Lit.wf, Bool.and_eq_true, decide_eq_true_eq] at h2
  rw [show IntKind.i64.min = -9223372036854775808 from by decide, IntKind.max_i64] at h2
  exact h2
theorem at_bool (h : DataW.trod enc Try.prog w base spare held fuel 4 cs = some x) : ∃ b, cs = [.bool b] := by
  obtain ⟨n, h1, _⟩ := DataW.trod_bool Try.underlying4 h
  exact ⟨n, h1⟩
theorem at_str (h : DataW.trod enc Try.prog w base spare held fuel 9 cs = some x) : ∃ s, cs = [.string s] ∧ s.size ≤ maxLen := by
  obtain ⟨n, h1, _, h2⟩ := DataW.trod_string Try.underlying9 h
  exact ⟨n, h1, h2⟩
theorem at_pos (h : DataW.trod enc Try.prog w base spare held fuel 33 cs = some x) : ∃ p : Pos, cs = [.int .i64 p.e, .int .i64 p.i] ∧ I64 p.e ∧ I64 p.i := by
  obtain ⟨hl, n, hf⟩ := field_at Try.underlying33 h
  rw [row_pos] at hl
  obtain ⟨c0, c1, rfl⟩ := len2 hl
  obtain ⟨y0, h0⟩ := fld hf 0 _ rfl (t := 3) (k := 1) (o := 0) rfl row_int rfl
  obtain ⟨a, e0, ia⟩ := at_int h0
  simp only [List.drop_succ_cons, List.drop_zero, List.take_succ_cons, List.take_zero, List.cons.injEq, and_true] at e0
  obtain ⟨y1, h1⟩ := fld hf 1 _ rfl (t := 3) (k := 1) (o := 1) rfl row_int rfl
  obtain ⟨b, e1, ib⟩ := at_int h1
  simp only [List.drop_succ_cons, List.drop_zero, List.take_succ_cons, List.take_zero, List.cons.injEq, and_true] at e1
  subst e0
  subst e1
  exact ⟨⟨a, b⟩, rfl, ia, ib⟩
def GVal (v : Val) : Prop := I64 v.pos.e ∧ I64 v.pos.i ∧ v.t.size ≤ maxLen
def GSn (y : Sn) : Prop := I64 y.s ∧ I64 y.r ∧ I64 y.pos.e ∧ I64 y.pos.i
def GEp (y : Ep) : Prop := I64 y.m ∧ I64 y.c
def GEnt (y : Ent) : Prop := I64 y.pos.e ∧ I64 y.pos.i ∧ I64 y.s ∧ I64 y.r ∧ y.k.size ≤ maxLen ∧ y.t.size ≤ maxLen
def GKV (y : ByteArray × Val) : Prop := y.1.size ≤ maxLen ∧ GVal y.2
theorem at_val (h : DataW.trod enc Try.prog w base spare held fuel 46 cs = some x) : ∃ v : Val, cs = [.int .i64 v.pos.e, .int .i64 v.pos.i, .bool v.th, .string v.t] ∧ GVal v := by
  obtain ⟨hl, n, hf⟩ := field_at Try.underlying46 h
  rw [row_val] at hl
  obtain ⟨c0, c1, c2, c3, rfl⟩ := len4 hl
  obtain ⟨y0, h0⟩ := fld hf 0 _ rfl (t := 33) (k := 2) (o := 0) rfl row_pos rfl
  obtain ⟨p, e0, ia, ib⟩ := at_pos h0
  simp only [List.drop_succ_cons, List.drop_zero, List.take_succ_cons, List.take_zero, List.cons.injEq, and_true] at e0
  obtain ⟨y1, h1⟩ := fld hf 1 _ rfl (t := 4) (k := 1) (o := 2) rfl row_bool rfl
  obtain ⟨b, e1⟩ := at_bool h1
  simp only [List.drop_succ_cons, List.drop_zero, List.take_succ_cons, List.take_zero, List.cons.injEq, and_true] at e1
  obtain ⟨y2, h2⟩ := fld hf 2 _ rfl (t := 9) (k := 1) (o := 3) rfl row_cells9 rfl
  obtain ⟨t, e2, it⟩ := at_str h2
  simp only [List.drop_succ_cons, List.drop_zero, List.take_succ_cons, List.take_zero, List.cons.injEq, and_true] at e2
  obtain ⟨rfl, rfl⟩ := e0
  subst e1
  subst e2
  exact ⟨⟨p, b, t⟩, rfl, ia, ib, it⟩
theorem at_pair (h : DataW.trod enc Try.prog w base spare held fuel 67 cs = some x) : ∃ v : ByteArray × Val, cs = pairCells v ∧ GKV v := by
  obtain ⟨hl, n, hf⟩ := field_at Try.underlying67 h
  rw [row_pair] at hl
  obtain ⟨c0, c1, c2, c3, c4, rfl⟩ := len5 hl
  obtain ⟨y0, h0⟩ := fld hf 0 _ rfl (t := 9) (k := 1) (o := 0) rfl row_cells9 rfl
  obtain ⟨k, e0, ik⟩ := at_str h0
  simp only [List.drop_succ_cons, List.drop_zero, List.take_succ_cons, List.take_zero, List.cons.injEq, and_true] at e0
  obtain ⟨y1, h1⟩ := fld hf 1 _ rfl (t := 46) (k := 4) (o := 1) rfl row_val rfl
  obtain ⟨v, e1, iv⟩ := at_val h1
  simp only [List.drop_succ_cons, List.drop_zero, List.take_succ_cons, List.take_zero, List.cons.injEq, and_true] at e1
  subst e0
  obtain ⟨rfl, rfl, rfl, rfl⟩ := e1
  exact ⟨(k, v), rfl, ik, iv⟩
theorem at_seen (h : DataW.trod enc Try.prog w base spare held fuel 69 cs = some x) : ∃ v : Sn, cs = snCells v ∧ GSn v := by
  obtain ⟨hl, n, hf⟩ := field_at Try.underlying69 h
  rw [row_seen] at hl
  obtain ⟨c0, c1, c2, c3, rfl⟩ := len4 hl
  obtain ⟨y0, h0⟩ := fld hf 0 _ rfl (t := 3) (k := 1) (o := 0) rfl row_int rfl
  obtain ⟨a, e0, ia⟩ := at_int h0
  simp only [List.drop_succ_cons, List.drop_zero, List.take_succ_cons, List.take_zero, List.cons.injEq, and_true] at e0
  obtain ⟨y1, h1⟩ := fld hf 1 _ rfl (t := 3) (k := 1) (o := 1) rfl row_int rfl
  obtain ⟨b, e1, ib⟩ := at_int h1
  simp only [List.drop_succ_cons, List.drop_zero, List.take_succ_cons, List.take_zero, List.cons.injEq, and_true] at e1
  obtain ⟨y2, h2⟩ := fld hf 2 _ rfl (t := 33) (k := 2) (o := 2) rfl row_pos rfl
  obtain ⟨p, e2, ic, id⟩ := at_pos h2
  simp only [List.drop_succ_cons, List.drop_zero, List.take_succ_cons, List.take_zero, List.cons.injEq, and_true] at e2
  subst e0
  subst e1
  obtain ⟨rfl, rfl⟩ := e2
  exact ⟨⟨a, b, p⟩, rfl, ia, ib, ic, id⟩
theorem at_ep (h : DataW.trod enc Try.prog w base spare held fuel 29 cs = some x) : ∃ v : Ep, cs = (epVal v).toList ∧ GEp v := by
  obtain ⟨hl, n, hf⟩ := field_at Try.underlying29 h
  rw [row_ep] at hl
  obtain ⟨c0, c1, c2, rfl⟩ := len3 hl
  obtain ⟨y0, h0⟩ := fld hf 0 _ rfl (t := 3) (k := 1) (o := 0) rfl row_int rfl
  obtain ⟨a, e0, ia⟩ := at_int h0
  simp only [List.drop_succ_cons, List.drop_zero, List.take_succ_cons, List.take_zero, List.cons.injEq, and_true] at e0
  obtain ⟨y1, h1⟩ := fld hf 1 _ rfl (t := 3) (k := 1) (o := 1) rfl row_int rfl
  obtain ⟨b, e1, ib⟩ := at_int h1
  simp only [List.drop_succ_cons, List.drop_zero, List.take_succ_cons, List.take_zero, List.cons.injEq, and_true] at e1
  obtain ⟨y2, h2⟩ := fld hf 2 _ rfl (t := 4) (k := 1) (o := 2) rfl row_bool rfl
  obtain ⟨f, e2⟩ := at_bool h2
  simp only [List.drop_succ_cons, List.drop_zero, List.take_succ_cons, List.take_zero, List.cons.injEq, and_true] at e2
  subst e0
  subst e1
  subst e2
  exact ⟨⟨a, b, f⟩, rfl, ia, ib⟩
theorem at_ent (h : DataW.trod enc Try.prog w base spare held fuel 35 cs = some x) : ∃ v : Ent, cs = entCells v ∧ GEnt v := by
  obtain ⟨hl, n, hf⟩ := field_at Try.underlying35 h
  rw [row_ent] at hl
  obtain ⟨c0, c1, c2, c3, c4, c5, c6, rfl⟩ := len7 hl
  obtain ⟨y0, h0⟩ := fld hf 0 _ rfl (t := 33) (k := 2) (o := 0) rfl row_pos rfl
  obtain ⟨p, e0, ia, ib⟩ := at_pos h0
  simp only [List.drop_succ_cons, List.drop_zero, List.take_succ_cons, List.take_zero, List.cons.injEq, and_true] at e0
  obtain ⟨y1, h1⟩ := fld hf 1 _ rfl (t := 3) (k := 1) (o := 2) rfl row_int rfl
  obtain ⟨a, e1, ic⟩ := at_int h1
  simp only [List.drop_succ_cons, List.drop_zero, List.take_succ_cons, List.take_zero, List.cons.injEq, and_true] at e1
  obtain ⟨y2, h2⟩ := fld hf 2 _ rfl (t := 3) (k := 1) (o := 3) rfl row_int rfl
  obtain ⟨b, e2, id⟩ := at_int h2
  simp only [List.drop_succ_cons, List.drop_zero, List.take_succ_cons, List.take_zero, List.cons.injEq, and_true] at e2
  obtain ⟨y3, h3⟩ := fld hf 3 _ rfl (t := 9) (k := 1) (o := 4) rfl row_cells9 rfl
  obtain ⟨k, e3, ik⟩ := at_str h3
  simp only [List.drop_succ_cons, List.drop_zero, List.take_succ_cons, List.take_zero, List.cons.injEq, and_true] at e3
  obtain ⟨y4, h4⟩ := fld hf 4 _ rfl (t := 4) (k := 1) (o := 5) rfl row_bool rfl
  obtain ⟨f, e4⟩ := at_bool h4
  simp only [List.drop_succ_cons, List.drop_zero, List.take_succ_cons, List.take_zero, List.cons.injEq, and_true] at e4
  obtain ⟨y5, h5⟩ := fld hf 5 _ rfl (t := 9) (k := 1) (o := 6) rfl row_cells9 rfl
  obtain ⟨t, e5, it⟩ := at_str h5
  simp only [List.drop_succ_cons, List.drop_zero, List.take_succ_cons, List.take_zero, List.cons.injEq, and_true] at e5
  obtain ⟨rfl, rfl⟩ := e0
  subst e1
  subst e2
  subst e3
  subst e4
  subst e5
  exact ⟨⟨p, a, b, k, f, t⟩, rfl, ia, ib, ic, id, ik, it⟩
/-- A slice of such elements. -/
theorem at_slice {α : Type} (z : α) {P : Program} {t e : TypeId} (cells : α → List Value) (q : Nat) (hq : 0 < q) (G : α → Prop) (ht : P.underlying t = some (.slice e)) (hC : P.cellsOf e = q) (hl : ∀ a, (cells a).length = q)
    (hopen : ∀ (n : Nat) (cs : List Value) (x : DataW H × List MemPlace), DataW.trod enc P w base spare held n e cs = some x → ∃ a, cs = cells a ∧ G a) (h : DataW.trod enc P w base spare held fuel t cs = some x) :
    ∃ (v : Value) (l : List α), cs = [v] ∧ SlAt w v l.length (l.flatMap cells) ∧ ∀ a ∈ l, G a := by
  rcases open_slice ht h with ⟨h0, _⟩ | ⟨a, len, cap, m, n, D, Pl, hcs, hb, hle, hm, hmm, _, hi⟩
  · exact ⟨_, [], h0, ⟨none, 0, rfl, Nat.le_refl _, by unfold maxLen; omega, fun h => absurd h (by simp)⟩, fun a ha => absurd ha (by simp)⟩
  · have hml : len ≤ m := by rw [hmm]; split <;> omega
    have hex : ∀ i, i < len → ∃ d : α, G d ∧ ∀ j u, (cells d)[j]? = some u → w.cell? (a.add (i * q + j)) = some u := by
      intro i hil
      obtain ⟨cs', hc, ht'⟩ := hi i (by omega)
      obtain ⟨d, hd, hG⟩ := hopen n cs' _ ht'
      obtain ⟨_, hcl, hat⟩ := World.cells?_some hc
      refine ⟨d, hG, fun j u hu => ?_⟩
      have hj : j < q := by rw [← hl d]; exact (List.getElem?_eq_some_iff.1 hu).1
      have := hat j (by rw [hC]; exact hj)
      rw [hd, hu, hC, Go.Deep.add_add] at this
      exact this
    have : Inhabited α := ⟨z⟩
    obtain ⟨f, hf⟩ := choose_lt hex
    refine ⟨_, (List.range len).map f, hcs, ⟨some a, cap, by simp, by simpa using hle, hm, fun hp => ?_⟩, fun y hy => ?_⟩
    · simp only [List.length_map, List.length_range] at hp
      obtain ⟨b, off, spot⟩ := a
      have h0 := hf 0 hp
      obtain ⟨u0, hu0⟩ : ∃ u, (cells (f 0))[0]? = some u := ⟨_, List.getElem?_eq_getElem (by rw [hl]; exact hq)⟩
      have hc0 := h0.2 0 u0 hu0
      have hspot : spot = none := by simpa [Addr.add] using World.cell?_spot hc0
      subst hspot
      refine ⟨b, off, rfl, by simpa [add_plain] using World.block_lt_of_cell? w _ hc0, fun j u hu => ?_⟩
      have hjl : j < len * q := by
        have := (List.getElem?_eq_some_iff.1 hu).1
        rw [flat_length cells q hl] at this
        simpa using this
      have hd : j / q < len := Nat.div_lt_of_lt_mul (by rw [Nat.mul_comm]; exact hjl)
      have hr : j % q < q := Nat.mod_lt _ hq
      have hj : j = j / q * q + j % q := by rw [Nat.mul_comm]; exact (Nat.div_add_mod j q).symm
      have hg := flat_get cells q hl ((List.range len).map f) (j / q) (j % q) (f (j / q)) (by rw [List.getElem?_map, List.getElem?_range hd]; rfl) hr
      rw [← hj, hu] at hg
      have := (hf _ hd).2 _ _ hg.symm
      rw [← hj, add_plain] at this
      exact this
    · simp only [List.mem_map, List.mem_range] at hy
      obtain ⟨i, hil, rfl⟩ := hy
      exact (hf i hil).1
theorem at_pairs (h : DataW.trod enc Try.prog w base spare held fuel 37 cs = some x) : ∃ (v : Value) (l : List (ByteArray × Val)), cs = [v] ∧ SlAt w v l.length (pairsCells l) ∧ ∀ a ∈ l, GKV a :=
  at_slice (⟨#[]⟩, zeroVal) pairCells 5 (by decide) GKV Try.underlying37 row_pair (fun _ => rfl) (fun _ _ _ => at_pair) h
theorem at_seens (h : DataW.trod enc Try.prog w base spare held fuel 38 cs = some x) : ∃ (v : Value) (l : List Sn), cs = [v] ∧ SlAt w v l.length (snsCells l) ∧ ∀ a ∈ l, GSn a :=
  at_slice ⟨0, 0, ⟨0, 0⟩⟩ snCells 4 (by decide) GSn Try.underlying38 row_seen (fun _ => rfl) (fun _ _ _ => at_seen) h
/-- A snapshot: its position, and two slices in memory. -/
structure SnapD where
  pos : Pos
  pv : Value
  sv : Value
  ps : List (ByteArray × Val)
  ss : List Sn
def SnapD.cells (d : SnapD) : List Value := [.int .i64 d.pos.e, .int .i64 d.pos.i, d.pv, d.sv]
structure GSnap (w : World) (d : SnapD) : Prop where
  pe : I64 d.pos.e
  pi : I64 d.pos.i
  prs : SlAt w d.pv d.ps.length (pairsCells d.ps)
  sns : SlAt w d.sv d.ss.length (snsCells d.ss)
  gp : ∀ a ∈ d.ps, GKV a
  gs : ∀ a ∈ d.ss, GSn a
theorem at_snap (h : DataW.trod enc Try.prog w base spare held fuel 40 cs = some x) : ∃ d : SnapD, cs = d.cells ∧ GSnap w d := by
  obtain ⟨hl, n, hf⟩ := field_at Try.underlying40 h
  rw [row_snap] at hl
  obtain ⟨c0, c1, c2, c3, rfl⟩ := len4 hl
  obtain ⟨y0, h0⟩ := fld hf 0 _ rfl (t := 33) (k := 2) (o := 0) rfl row_pos rfl
  obtain ⟨p, e0, ia, ib⟩ := at_pos h0
  simp only [List.drop_succ_cons, List.drop_zero, List.take_succ_cons, List.take_zero, List.cons.injEq, and_true] at e0
  obtain ⟨y1, h1⟩ := fld hf 1 _ rfl (t := 37) (k := 1) (o := 2) rfl row_pairs rfl
  obtain ⟨pv, ps, e1, hp, gp⟩ := at_pairs h1
  simp only [List.drop_succ_cons, List.drop_zero, List.take_succ_cons, List.take_zero, List.cons.injEq, and_true] at e1
  obtain ⟨y2, h2⟩ := fld hf 2 _ rfl (t := 38) (k := 1) (o := 3) rfl row_seens rfl
  obtain ⟨sv, ss, e2, hs, gs⟩ := at_seens h2
  simp only [List.drop_succ_cons, List.drop_zero, List.take_succ_cons, List.take_zero, List.cons.injEq, and_true] at e2
  obtain ⟨rfl, rfl⟩ := e0
  subst e1
  subst e2
  exact ⟨⟨p, c2, c3, ps, ss⟩, rfl, ia, ib, hp, hs, gp, gs⟩
/-- A record of the reference's. -/
structure RecD where
  kind : Int
  x : Ent
  e : Ep
  cfg : Int
  d : SnapD
def RecD.cells (r : RecD) : List Value := .int .i64 r.kind :: (entCells r.x ++ ((epVal r.e).toList ++ (.int .i64 r.cfg :: r.d.cells)))
structure GRec (w : World) (r : RecD) : Prop where
  kind : I64 r.kind
  cfg : I64 r.cfg
  x : GEnt r.x
  e : GEp r.e
  d : GSnap w r.d
theorem len16 {α : Type} {l : List α} (h : l.length = 16) : ∃ a b c d e f g i j k m n o p q r, l = [a, b, c, d, e, f, g, i, j, k, m, n, o, p, q, r] := by
  match l, h with | [a, b, c, d, e, f, g, i, j, k, m, n, o, p, q, r], _ => exact ⟨a, b, c, d, e, f, g, i, j, k, m, n, o, p, q, r, rfl⟩
theorem row_rec : Try.prog.cellsOf 52 = 16 := by kernel_rfl
theorem at_rec (h : DataW.trod enc Try.prog w base spare held fuel 52 cs = some x) : ∃ r : RecD, cs = r.cells ∧ GRec w r := by
  obtain ⟨hl, n, hf⟩ := field_at Try.underlying52 h
  rw [row_rec] at hl
  obtain ⟨c0, c1, c2, c3, c4, c5, c6, c7, c8, c9, c10, c11, c12, c13, c14, c15, rfl⟩ := len16 hl
  obtain ⟨y0, h0⟩ := fld hf 0 _ rfl (t := 3) (k := 1) (o := 0) rfl row_int rfl
  obtain ⟨a, e0, ia⟩ := at_int h0
  obtain ⟨y1, h1⟩ := fld hf 1 _ rfl (t := 35) (k := 7) (o := 1) rfl row_ent rfl
  obtain ⟨b, e1, ib⟩ := at_ent h1
  obtain ⟨y2, h2⟩ := fld hf 2 _ rfl (t := 29) (k := 3) (o := 8) rfl row_ep rfl
  obtain ⟨c, e2, ic⟩ := at_ep h2
  obtain ⟨y3, h3⟩ := fld hf 3 _ rfl (t := 3) (k := 1) (o := 11) rfl row_int rfl
  obtain ⟨g, e3, ig⟩ := at_int h3
  obtain ⟨y4, h4⟩ := fld hf 4 _ rfl (t := 40) (k := 4) (o := 12) rfl row_snap rfl
  obtain ⟨d, e4, id⟩ := at_snap h4
  refine ⟨⟨a, b, c, g, d⟩, ?_, ia, ig, ib, ic, id⟩
  show [c0, c1, c2, c3, c4, c5, c6, c7, c8, c9, c10, c11, c12, c13, c14, c15] = _
  unfold RecD.cells
  rw [← e1, ← e2, ← e4]
  injection e0 with e0
  injection e3 with e3
  rw [← e0, ← e3]
  rfl
theorem at_recs (h : DataW.trod enc Try.prog w base spare held fuel 49 cs = some x) : ∃ (v : Value) (l : List RecD), cs = [v] ∧ SlAt w v l.length (l.flatMap RecD.cells) ∧ ∀ a ∈ l, GRec w a :=
  at_slice ⟨0, ⟨⟨0, 0⟩, 0, 0, ⟨#[]⟩, false, ⟨#[]⟩⟩, ⟨0, 0, false⟩, 0, ⟨⟨0, 0⟩, .slice none 0 0, .slice none 0 0, [], []⟩⟩ RecD.cells 16 (by decide) (GRec w) Try.underlying49 row_rec (fun _ => rfl) (fun _ _ _ => at_rec) h
end

end Go.Proofs.Ytedcdjlpogpgbaa

/- The reference's Snap: a snapshot in new memory. -/
set_option linter.unusedVariables false
set_option linter.unusedSimpArgs false
namespace Go.Proofs.Ytedcdjlpogpgbaa
open Go.RowKit

theorem snp_agg (w : World) : (isAgg 40).run Try.prog w = .ok true w := by kernel_rfl
theorem snp_size (w : World) : (sizeOf 40).run Try.prog w = .ok 4 w := by kernel_rfl
/-- A snapshot in new memory. -/
def SnapRes (p : Pos) (ps : List (ByteArray × Val)) (ss : List Sn) (w : World) (e : Ending) (w' : World) : Prop :=
  ∃ pv sv, e = .returned (.agg (snapVal p pv sv)) ∧ w'.ownsRow 0 67 5 pv ps.length (pairsCells ps) ∧ w'.ownsRow 0 69 4 sv ss.length (snsCells ss) ∧ (∀ c, pv.ownBlock = some c → w.heap.size ≤ c) ∧ (∀ c, sv.ownBlock = some c → w.heap.size ≤ c) ∧ Below w.heap.size w w'
set_option maxRecDepth 100000 in
set_option maxHeartbeats 4000000 in
theorem Snap_any (p : Pos) (pv sv : Value) (ps : List (ByteArray × Val)) (ss : List Sn) (w : World) (hp : SlAt w pv ps.length (pairsCells ps)) (hs : SlAt w sv ss.length (snsCells ss)) (hlp : ps.length ≤ 1000000000) (hls : ss.length ≤ 1000000000) :
    Calls Try.prog 35 #[.agg (snapVal p pv sv)] w (SnapRes p ps ss w) := by
  obtain ⟨pA, pc, hpv, _⟩ := id hp
  obtain ⟨sA, sc, hsv, _⟩ := id hs
  have HP := Lib.hid hp
  have HS := Lib.hid hs
  subst hpv
  subst hsv
  clear hp hs
  unfold snapVal
  go_enter Try.func35, Try.ntmps35
  go_upto_region 1 with (fail)
  refine wp_name ?_
  intro w2 hw2
  have X2 : Blk w2 w.heap.size (snapVal p (.slice pA ps.length pc) (.slice sA ss.length sc)) 40 := by rw [hw2]; ((repeat' (first | with_reducible exact Blk.new _ _ _ | with_reducible apply Blk.drewN | with_reducible apply Blk.drew | with_reducible apply Blk.set' | (with_reducible apply Blk.set_other (hp := by first | assumption | (simp; done) | (simp; omega) | omega)) | (with_reducible apply Blk.new'; focus (first | (simp; done) | (simp; omega))) | with_reducible apply Blk.alloc)) <;> rfl)
  have R2 : Blk w2 (w.heap.size + 1) (snapVal zeroPos (.slice none 0 0) (.slice none 0 0)) 40 := by rw [hw2]; ((repeat' (first | with_reducible exact Blk.new _ _ _ | with_reducible apply Blk.drewN | with_reducible apply Blk.drew | with_reducible apply Blk.set' | (with_reducible apply Blk.set_other (hp := by first | assumption | (simp; done) | (simp; omega) | omega)) | (with_reducible apply Blk.new'; focus (first | (simp; done) | (simp; omega))) | with_reducible apply Blk.alloc)) <;> rfl)
  have B2 : Below w.heap.size w w2 := by rw [hw2]; (repeat' (first | with_reducible exact Below.refl _ _ | with_reducible refine below_drewN ?_ _ | with_reducible refine Below.drew ?_ | with_reducible refine Below.setCell ?_ (by first | exact Nat.le_refl _ | (simp; done) | (simp; omega) | omega) _ | with_reducible refine Below.alloc ?_ (by first | exact Nat.le_refl _ | (simp; done) | (simp; omega) | omega) _ | exact Below.refl _ _))
  have hs2 : w.heap.size + 2 ≤ w2.heap.size := by rw [hw2]; simp
  clear hw2
  have hx2 := X2.lt
  have x2 : w2.cell? ⟨w.heap.size, 2, none⟩ = some (.slice pA ps.length pc) := by rw [X2.cell]; rfl
  obtain ⟨v', w3, happ, hown, hgr, hob⟩ := run_append_sl (P := Try.prog) (w := (w2.alloc (.cells #[] 67))) 37 37 67 5 56 _ Try.underlying37 pr_info rfl (by omega) (.slice (some ⟨w2.heap.size, 0, none⟩) 0 0) 0 [] (own_blk0 5 (Blk.new' rfl rfl)) (.slice pA ps.length pc) ps.length (pairsCells ps) (HP.out.below (by (repeat' (first | with_reducible exact B2 | with_reducible exact Below.refl _ _ | with_reducible refine below_drewN ?_ _ | with_reducible refine Below.drew ?_ | with_reducible refine Below.setCell ?_ (by first | exact Nat.le_refl _ | (simp; done) | (simp; omega) | omega) _ | with_reducible refine Below.alloc ?_ (by first | exact Nat.le_refl _ | (simp; done) | (simp; omega) | omega) _ | exact Below.refl _ _ | exact B2)))) (pairsCells_length _) (pairsCells_one _) (by omega) (by unfold maxLen; omega)
  rw [Nat.zero_add] at hown
  obtain ⟨A', ca', hv', _⟩ := own_sl hown
  subst hv'
  have hF3 : Frm (fun c => c = w2.heap.size) (w2.alloc (.cells #[] 67)) w3 := (Frm.ofGrown hgr).mono (fun i _ h => by injection h with h; exact h.symm)
  have hB23 : Below w2.heap.size w2 w3 := Frm.ge (W := w2.alloc (.cells #[] 67)) (by (repeat' (first | with_reducible exact Below.refl _ _ | with_reducible refine below_drewN ?_ _ | with_reducible refine Below.drew ?_ | with_reducible refine Below.setCell ?_ (by first | exact Nat.le_refl _ | (simp; done) | (simp; omega) | omega) _ | with_reducible refine Below.alloc ?_ (by first | exact Nat.le_refl _ | (simp; done) | (simp; omega) | omega) _ | exact Below.refl _ _))) hF3 (fun c hc => by omega)
  have hn1 : ∀ c, (Value.slice A' ps.length ca').ownBlock = some c → w2.heap.size ≤ c := by
    intro c hc
    rcases hob with h | h
    · rw [h] at hc; injection hc with hc; rw [← hc]; exact Nat.le_refl _
    · rw [h] at hc; injection hc with hc; rw [← hc]; simp
  have X3 := X2.below hB23
  have R3 := R2.below hB23
  have B3 := B2.trans (hB23.mono B2.size)
  have x3 : w3.cell? ⟨w.heap.size, 2, none⟩ = some (.slice pA ps.length pc) := by rw [X3.cell]; rfl
  have f3 := X3.free 2
  have hx3 := X3.lt
  have hs3 := hB23.size
  have HX3 := Lib.hid X3
  have HR3 := Lib.hid R3
  have HB3 := Lib.hid B3
  have HN1 := Lib.hid hn1
  have HO1 := Lib.hid (show w3.ownsRow 0 67 5 (.slice A' ps.length ca') ps.length (pairsCells ps) by simpa using hown)
  clear X2 R2 B2 hown hgr hob hF3 hB23 hn1 X3 R3 B3
  go_upto_region 2 with (refine list_append_run rfl _ _ _ _ rfl rfl (by rfl) (by rfl) happ ?_)
  refine wp_name ?_
  intro w4 hw4
  have X4 : Blk w4 w.heap.size (snapVal p (.slice A' ps.length ca') (.slice sA ss.length sc)) 40 := by rw [hw4]; ((repeat' (first | with_reducible exact HX3.out | with_reducible exact Blk.new _ _ _ | with_reducible apply Blk.drewN | with_reducible apply Blk.drew | with_reducible apply Blk.set' | (with_reducible apply Blk.set_other (hp := by first | assumption | (simp; done) | (simp; omega) | omega)) | (with_reducible apply Blk.new'; focus (first | (simp; done) | (simp; omega))) | with_reducible apply Blk.alloc | exact HX3.out)) <;> rfl)
  have R4 : Blk w4 (w.heap.size + 1) (snapVal zeroPos (.slice none 0 0) (.slice none 0 0)) 40 := by rw [hw4]; ((repeat' (first | with_reducible exact HR3.out | with_reducible exact Blk.new _ _ _ | with_reducible apply Blk.drewN | with_reducible apply Blk.drew | with_reducible apply Blk.set' | (with_reducible apply Blk.set_other (hp := by first | assumption | (simp; done) | (simp; omega) | omega)) | (with_reducible apply Blk.new'; focus (first | (simp; done) | (simp; omega))) | with_reducible apply Blk.alloc | exact HR3.out)) <;> rfl)
  have F34 : Frm (fun c => c = w.heap.size) w3 w4 := by rw [hw4]; (repeat' (first | with_reducible exact Frm.refl _ _ | with_reducible refine Frm.drewN ?_ _ | with_reducible refine Frm.drew ?_ | with_reducible refine Frm.setCell ?_ (by first | exact Or.inl rfl | exact Or.inr (Nat.le_refl _) | (simp; done) | (simp; omega)) _ | with_reducible refine Frm.alloc ?_ _ | exact Frm.refl _ _))
  clear hw4 x2 x3 f3 happ
  have B4 : Below w.heap.size w w4 := HB3.out.trans ⟨F34.os, F34.tape, F34.output, F34.size, fun i hi => F34.block i (by omega) (by omega)⟩
  have hs4 := F34.size
  have O4 := own_frm HO1.out F34 (fun c hc e => by have := HN1.out c hc; omega)
  have hx4 := X4.lt
  have x4 : w4.cell? ⟨w.heap.size, 3, none⟩ = some (.slice sA ss.length sc) := by rw [X4.cell]; rfl
  obtain ⟨v'', w5, happ2, hown2, hgr2, hob2⟩ := run_append_sl (P := Try.prog) (w := (w4.alloc (.cells #[] 69))) 38 38 69 4 32 _ Try.underlying38 se_info rfl (by omega) (.slice (some ⟨w4.heap.size, 0, none⟩) 0 0) 0 [] (own_blk0 4 (Blk.new' rfl rfl)) (.slice sA ss.length sc) ss.length (snsCells ss) (HS.out.below (by (repeat' (first | with_reducible exact B4 | with_reducible exact Below.refl _ _ | with_reducible refine below_drewN ?_ _ | with_reducible refine Below.drew ?_ | with_reducible refine Below.setCell ?_ (by first | exact Nat.le_refl _ | (simp; done) | (simp; omega) | omega) _ | with_reducible refine Below.alloc ?_ (by first | exact Nat.le_refl _ | (simp; done) | (simp; omega) | omega) _ | exact Below.refl _ _ | exact B4)))) (snsCells_length _) (snsCells_one _) (by omega) (by unfold maxLen; omega)
  rw [Nat.zero_add] at hown2
  obtain ⟨A'', ca'', hv'', _⟩ := own_sl hown2
  subst hv''
  have hF5 : Frm (fun c => c = w4.heap.size) (w4.alloc (.cells #[] 69)) w5 := (Frm.ofGrown hgr2).mono (fun i _ h => by injection h with h; exact h.symm)
  have hB45 : Below w4.heap.size w4 w5 := Frm.ge (W := w4.alloc (.cells #[] 69)) (by (repeat' (first | with_reducible exact Below.refl _ _ | with_reducible refine below_drewN ?_ _ | with_reducible refine Below.drew ?_ | with_reducible refine Below.setCell ?_ (by first | exact Nat.le_refl _ | (simp; done) | (simp; omega) | omega) _ | with_reducible refine Below.alloc ?_ (by first | exact Nat.le_refl _ | (simp; done) | (simp; omega) | omega) _ | exact Below.refl _ _))) hF5 (fun c hc => by omega)
  have hn2 : ∀ c, (Value.slice A'' ss.length ca'').ownBlock = some c → w4.heap.size ≤ c := by
    intro c hc
    rcases hob2 with h | h
    · rw [h] at hc; injection hc with hc; rw [← hc]; exact Nat.le_refl _
    · rw [h] at hc; injection hc with hc; rw [← hc]; simp
  have X5 := X4.below hB45
  have R5 := R4.below hB45
  have B5 := B4.trans (hB45.mono B4.size)
  have O5 := own_frm O4 (Frm.ofBelow (F := fun _ => False) hB45) (fun _ _ h => h)
  have x5 : w5.cell? ⟨w.heap.size, 3, none⟩ = some (.slice sA ss.length sc) := by rw [X5.cell]; rfl
  have f5 := X5.free 3
  have hx5 := X5.lt
  have hs5 := hB45.size
  have HX5 := Lib.hid X5
  have HR5 := Lib.hid R5
  have HB5 := Lib.hid B5
  have HN2 := Lib.hid hn2
  have HO5 := Lib.hid O5
  have HO2 := Lib.hid (show w5.ownsRow 0 69 4 (.slice A'' ss.length ca'') ss.length (snsCells ss) by simpa using hown2)
  clear X4 R4 B4 O4 F34 hown2 hgr2 hob2 hF5 hB45 hn2 X5 R5 B5 O5
  go_upto_region 3 with (refine list_append_run rfl _ _ _ _ rfl rfl (by rfl) (by rfl) happ2 ?_)
  refine wp_name ?_
  intro w6 hw6
  have X6 : Blk w6 w.heap.size (snapVal p (.slice A' ps.length ca') (.slice A'' ss.length ca'')) 40 := by rw [hw6]; ((repeat' (first | with_reducible exact HX5.out | with_reducible exact Blk.new _ _ _ | with_reducible apply Blk.drewN | with_reducible apply Blk.drew | with_reducible apply Blk.set' | (with_reducible apply Blk.set_other (hp := by first | assumption | (simp; done) | (simp; omega) | omega)) | (with_reducible apply Blk.new'; focus (first | (simp; done) | (simp; omega))) | with_reducible apply Blk.alloc | exact HX5.out)) <;> rfl)
  have R6 : Blk w6 (w.heap.size + 1) (snapVal zeroPos (.slice none 0 0) (.slice none 0 0)) 40 := by rw [hw6]; ((repeat' (first | with_reducible exact HR5.out | with_reducible exact Blk.new _ _ _ | with_reducible apply Blk.drewN | with_reducible apply Blk.drew | with_reducible apply Blk.set' | (with_reducible apply Blk.set_other (hp := by first | assumption | (simp; done) | (simp; omega) | omega)) | (with_reducible apply Blk.new'; focus (first | (simp; done) | (simp; omega))) | with_reducible apply Blk.alloc | exact HR5.out)) <;> rfl)
  have F56 : Frm (fun c => c = w.heap.size) w5 w6 := by rw [hw6]; (repeat' (first | with_reducible exact Frm.refl _ _ | with_reducible refine Frm.drewN ?_ _ | with_reducible refine Frm.drew ?_ | with_reducible refine Frm.setCell ?_ (by first | exact Or.inl rfl | exact Or.inr (Nat.le_refl _) | (simp; done) | (simp; omega)) _ | with_reducible refine Frm.alloc ?_ _ | exact Frm.refl _ _))
  clear hw6 x4 x5 f5 happ2
  have O6 := own_frm HO5.out F56 (fun c hc e => by have := HN1.out c hc; omega)
  have P6 := own_frm HO2.out F56 (fun c hc e => by have := HN2.out c hc; omega)
  have B6 : Below w.heap.size w w6 := HB5.out.trans ⟨F56.os, F56.tape, F56.output, F56.size, fun i hi => F56.block i (by omega) (by omega)⟩
  have a0 : World.cell? w6 ⟨w.heap.size, 0, none⟩ = some (.int .i64 p.e) := by rw [Blk.cell X6]; rfl
  have a1 : World.cell? w6 ⟨w.heap.size, 1, none⟩ = some (.int .i64 p.i) := by rw [Blk.cell X6]; rfl
  have a2 : World.cell? w6 ⟨w.heap.size, 2, none⟩ = some (.slice A' ps.length ca') := by rw [Blk.cell X6]; rfl
  have a3 : World.cell? w6 ⟨w.heap.size, 3, none⟩ = some (.slice A'' ss.length ca'') := by rw [Blk.cell X6]; rfl
  have r0 : World.cell? w6 ⟨w.heap.size + 1, 0, none⟩ = some (.int .i64 0) := by rw [Blk.cell R6]; rfl
  have r1 : World.cell? w6 ⟨w.heap.size + 1, 1, none⟩ = some (.int .i64 0) := by rw [Blk.cell R6]; rfl
  have r2 : World.cell? w6 ⟨w.heap.size + 1, 2, none⟩ = some (.slice none 0 0) := by rw [Blk.cell R6]; rfl
  have r3 : World.cell? w6 ⟨w.heap.size + 1, 3, none⟩ = some (.slice none 0 0) := by rw [Blk.cell R6]; rfl
  have y0 := Blk.free R6 0
  have y1 := Blk.free R6 1
  have y2 := Blk.free R6 2
  have y3 := Blk.free R6 3
  have hx6 := X6.lt
  have hr6 := R6.lt
  have HR6 := Lib.hid R6
  have HO6 := Lib.hid O6
  have HP6 := Lib.hid P6
  have HB6 := Lib.hid B6
  clear X6 R6 O6 P6 B6 F56
  go_wp2_with fail
  refine ret_cell rfl rfl (loads_blk (T := 40) (cs := snapVal p (.slice A' ps.length ca') (.slice A'' ss.length ca'')) snp_agg snp_size ?_ rfl) rfl ⟨_, _, rfl, ?_, ?_, ?_, ?_, ?_⟩
  · ((repeat' (first | with_reducible exact HR6.out | with_reducible exact Blk.new _ _ _ | with_reducible apply Blk.drewN | with_reducible apply Blk.drew | with_reducible apply Blk.set' | (with_reducible apply Blk.set_other (hp := by first | assumption | (simp; done) | (simp; omega) | omega)) | (with_reducible apply Blk.new'; focus (first | (simp; done) | (simp; omega))) | with_reducible apply Blk.alloc | exact HR6.out)) <;> rfl)
  · exact own_frm HO6.out (F := fun c => c = w.heap.size + 1) (by (repeat' (first | with_reducible exact Frm.refl _ _ | with_reducible refine Frm.drewN ?_ _ | with_reducible refine Frm.drew ?_ | with_reducible refine Frm.setCell ?_ (by first | exact Or.inl rfl | exact Or.inr (Nat.le_refl _) | (simp; done) | (simp; omega)) _ | with_reducible refine Frm.alloc ?_ _ | exact Frm.refl _ _))) (fun c hc e => by have := HN1.out c hc; omega)
  · exact own_frm HP6.out (F := fun c => c = w.heap.size + 1) (by (repeat' (first | with_reducible exact Frm.refl _ _ | with_reducible refine Frm.drewN ?_ _ | with_reducible refine Frm.drew ?_ | with_reducible refine Frm.setCell ?_ (by first | exact Or.inl rfl | exact Or.inr (Nat.le_refl _) | (simp; done) | (simp; omega)) _ | with_reducible refine Frm.alloc ?_ _ | exact Frm.refl _ _))) (fun c hc e => by have := HN2.out c hc; omega)
  · intro c hc; have := HN1.out c hc; omega
  · intro c hc; have := HN2.out c hc; omega
  · (repeat' (first | with_reducible exact HB6.out | with_reducible exact Below.refl _ _ | with_reducible refine below_drewN ?_ _ | with_reducible refine Below.drew ?_ | with_reducible refine Below.setCell ?_ (by first | exact Nat.le_refl _ | (simp; done) | (simp; omega) | omega) _ | with_reducible refine Below.alloc ?_ (by first | exact Nat.le_refl _ | (simp; done) | (simp; omega) | omega) _ | exact Below.refl _ _ | exact HB6.out))

end Go.Proofs.Ytedcdjlpogpgbaa
