/- Layer 15: Check and Apply of a Close; Check of a Compact. -/
import Derived.Test.YtedcdjlpogpgbaaC3
import Derived.Test.YtedcdjlpogpgbaaC7
import Derived.Test.YtedcdjlpogpgbaaC5
import Derived.Test.YtedcdjlpogpgbaaC4
set_option linter.unusedVariables false
set_option linter.unusedSimpArgs false
namespace Go.Proofs.Ytedcdjlpogpgbaa
open Go.RowKit

def closeE (s : St) (cfg : Int) : Int := if cfg = s.table.length then 0 else 1
set_option maxRecDepth 100000 in
set_option maxHeartbeats 4000000 in
theorem Check_close (L : Lay) (s : St) (x : Ent) (e : Ep) (cfg : Int) (sp : Pos) (A B : Option Addr) (na ca nb cb : Nat) (w : World) (h : StAt w L s) :
    Calls Try.prog 41 #[.pointer (some ⟨L.b, 0, none⟩), .agg (recVal 3 x e cfg sp (.slice A na ca) (.slice B nb cb))] w (IntRes (closeE s cfg) w) := by
  have hbl := h.blk.lt
  obtain ⟨tA, tc, htv, _⟩ := own_sl h.tab
  have c4 : w.cell? ⟨L.b, 4, none⟩ = some (.slice tA s.table.length tc) := by rw [h.blk.cell, ← htv]; rfl
  have ne1 : w.heap.size ≠ L.b := by omega
  have ne2 : L.b ≠ w.heap.size := by omega
  clear h htv
  unfold recVal
  by_cases hc : cfg = (s.table.length : Int)
  · have d1 : (cfg != (s.table.length : Int)) = false := by simp [hc]
    have hE : closeE s cfg = 0 := if_pos hc
    have HE := Lib.hid hE
    clear hc hE
    go_enter Try.func41, Try.ntmps41
    go_wp2_with fail
    go_quiet (fail)
    go_wp2_with fail
    go_ret
    exact ⟨by rw [HE.out]; rfl, by (repeat' (first | with_reducible exact Below.refl _ _ | with_reducible refine below_drewN ?_ _ | with_reducible refine Below.drew ?_ | with_reducible refine Below.setCell ?_ (by first | exact Nat.le_refl _ | (simp; done) | (simp; omega) | omega) _ | with_reducible refine Below.alloc ?_ (by first | exact Nat.le_refl _ | (simp; done) | (simp; omega) | omega) _ | exact Below.refl _ _))⟩
  · have d1 : (cfg != (s.table.length : Int)) = true := by simp [hc]
    have hE : closeE s cfg = 1 := if_neg hc
    have HE := Lib.hid hE
    clear hc hE
    go_enter Try.func41, Try.ntmps41
    go_wp2_with fail
    go_quiet (fail)
    go_wp2_with fail
    go_ret
    exact ⟨by rw [HE.out]; rfl, by (repeat' (first | with_reducible exact Below.refl _ _ | with_reducible refine below_drewN ?_ _ | with_reducible refine Below.drew ?_ | with_reducible refine Below.setCell ?_ (by first | exact Nat.le_refl _ | (simp; done) | (simp; omega) | omega) _ | with_reducible refine Below.alloc ?_ (by first | exact Nat.le_refl _ | (simp; done) | (simp; omega) | omega) _ | exact Below.refl _ _))⟩

def compactE (s : St) : Int := if s.closed = true then 10 else 0
set_option maxRecDepth 100000 in
set_option maxHeartbeats 4000000 in
theorem Check_compact (L : Lay) (s : St) (x : Ent) (e : Ep) (cfg : Int) (sp : Pos) (A B : Option Addr) (na ca nb cb : Nat) (w : World) (h : StAt w L s) :
    Calls Try.prog 41 #[.pointer (some ⟨L.b, 0, none⟩), .agg (recVal 5 x e cfg sp (.slice A na ca) (.slice B nb cb))] w (IntRes (compactE s) w) := by
  have hbl := h.blk.lt
  have c10 : World.cell? w ⟨L.b, 10, none⟩ = some (.bool s.closed) := by rw [Blk.cell h.blk]; rfl
  clear h
  unfold recVal
  obtain ⟨cl, hcl⟩ : ∃ cl, s.closed = cl := ⟨_, rfl⟩
  rw [hcl] at c10
  have HC := Lib.hid hcl
  clear hcl
  cases cl with
  | true =>
    go_enter Try.func41, Try.ntmps41
    go_wp2_with fail
    go_ret
    exact ⟨by unfold compactE; rw [if_pos HC.out]; rfl, by (repeat' (first | with_reducible exact Below.refl _ _ | with_reducible refine below_drewN ?_ _ | with_reducible refine Below.drew ?_ | with_reducible refine Below.setCell ?_ (by first | exact Nat.le_refl _ | (simp; done) | (simp; omega) | omega) _ | with_reducible refine Below.alloc ?_ (by first | exact Nat.le_refl _ | (simp; done) | (simp; omega) | omega) _ | exact Below.refl _ _))⟩
  | false =>
    go_enter Try.func41, Try.ntmps41
    go_wp2_with fail
    go_ret
    exact ⟨by unfold compactE; rw [if_neg (by rw [HC.out]; simp)]; rfl, by (repeat' (first | with_reducible exact Below.refl _ _ | with_reducible refine below_drewN ?_ _ | with_reducible refine Below.drew ?_ | with_reducible refine Below.setCell ?_ (by first | exact Nat.le_refl _ | (simp; done) | (simp; omega) | omega) _ | with_reducible refine Below.alloc ?_ (by first | exact Nat.le_refl _ | (simp; done) | (simp; omega) | omega) _ | exact Below.refl _ _))⟩

end Go.Proofs.Ytedcdjlpogpgbaa

/- Layer 15: Check of whatever record; Apply where it is refused. -/
set_option linter.unusedVariables false
set_option linter.unusedSimpArgs false
namespace Go.Proofs.Ytedcdjlpogpgbaa
open Go.RowKit

attribute [local go_sem high] neq_pos eql_pos
set_option maxRecDepth 100000 in
set_option maxHeartbeats 8000000 in
theorem checkWrite_gap (L : Lay) (s : St) (x : Ent) (w : World) (h : StAt w L s) (hne : x.pos.i ≠ s.pos.i + 1) (hp : 0 ≤ s.pos.i ∧ s.pos.i ≤ 512) :
    Calls Try.prog 60 #[.pointer (some ⟨L.b, 0, none⟩), .agg (entVal x)] w (IntRes (checkW s x) w) := by
  have hb := h.blk.lt
  have c1 : w.cell? ⟨L.b, 1, none⟩ = some (.int .i64 s.pos.i) := by rw [h.blk.cell]; rfl
  have c10 : w.cell? ⟨L.b, 10, none⟩ = some (.bool s.closed) := by rw [h.blk.cell]; rfl
  clear h
  obtain ⟨hp1, hp2⟩ := hp
  unfold entVal
  by_cases hc : s.closed = true
  · have HC := Lib.hid hc
    go_enter Try.func60, Try.ntmps60
    go_wp2_with fail
    go_ret
    exact ⟨by unfold checkW; rw [if_pos HC.out]; rfl, by (repeat' (first | with_reducible exact Below.refl _ _ | with_reducible refine below_drewN ?_ _ | with_reducible refine Below.drew ?_ | with_reducible refine Below.setCell ?_ (by first | exact Nat.le_refl _ | (simp; done) | (simp; omega) | omega) _ | with_reducible refine Below.alloc ?_ (by first | exact Nat.le_refl _ | (simp; done) | (simp; omega) | omega) _ | exact Below.refl _ _))⟩
  · have hc' : s.closed = false := by simpa using hc
    have HC := Lib.hid hc
    clear hc
    rw [hc'] at c10
    have d1 : (x.pos.i != s.pos.i + 1) = true := by simp [hne]
    have HI := Lib.hid hne
    clear hne hc'
    go_enter Try.func60, Try.ntmps60
    go_wp2_with fail
    go_quiet (fail)
    go_wp2_with fail
    go_ret
    exact ⟨by unfold checkW; rw [if_neg HC.out, if_pos HI.out]; rfl, by (repeat' (first | with_reducible exact Below.refl _ _ | with_reducible refine below_drewN ?_ _ | with_reducible refine Below.drew ?_ | with_reducible refine Below.setCell ?_ (by first | exact Nat.le_refl _ | (simp; done) | (simp; omega) | omega) _ | with_reducible refine Below.alloc ?_ (by first | exact Nat.le_refl _ | (simp; done) | (simp; omega) | omega) _ | exact Below.refl _ _))⟩
theorem checkWrite_all (L : Lay) (s : St) (x : Ent) (w : World) (h : StAt w L s) (hp : 0 ≤ s.pos.i ∧ s.pos.i ≤ 512) :
    Calls Try.prog 60 #[.pointer (some ⟨L.b, 0, none⟩), .agg (entVal x)] w (IntRes (checkW s x) w) := by
  by_cases hi : x.pos.i = s.pos.i + 1
  · exact checkWrite_any L s x w h hp (by omega)
  · exact checkWrite_gap L s x w h hi hp
theorem Ok.pos0 {s : St} (h : Ok s) : 0 ≤ s.pos.i ∧ s.pos.i ≤ 512 := by have := h.at_; have := h.low; have := h.high; omega

set_option maxRecDepth 100000 in
set_option maxHeartbeats 8000000 in
theorem Check_write_all (L : Lay) (s : St) (x : Ent) (e : Ep) (cfg : Int) (sp : Pos) (A B : Option Addr) (na ca nb cb : Nat) (w : World) (h : StAt w L s) (hok : Ok s) :
    Calls Try.prog 41 #[.pointer (some ⟨L.b, 0, none⟩), .agg (recVal 1 x e cfg sp (.slice A na ca) (.slice B nb cb))] w (IntRes (checkW s x) w) := by
  have hcw : ∀ W : World, Below w.heap.size w W → Calls Try.prog 60 #[.pointer (some ⟨L.b, 0, none⟩), .agg #[.int .i64 x.pos.e, .int .i64 x.pos.i, .int .i64 x.s, .int .i64 x.r, .string x.k, .bool x.d, .string x.t]] W (IntRes (checkW s x) W) :=
    fun W hW => checkWrite_all L s x W (h.below hW) hok.pos0
  have HCW := Lib.hid hcw
  clear hcw h hok
  unfold recVal
  go_enter Try.func41, Try.ntmps41
  go_wp2_with fail
  refine (HCW.out _ (by (repeat' (first | with_reducible exact Below.refl _ _ | with_reducible refine below_drewN ?_ _ | with_reducible refine Below.drew ?_ | with_reducible refine Below.setCell ?_ (by first | exact Nat.le_refl _ | (simp; done) | (simp; omega) | omega) _ | with_reducible refine Below.alloc ?_ (by first | exact Nat.le_refl _ | (simp; done) | (simp; omega) | omega) _ | exact Below.refl _ _)))).mono ?_
  rintro e1 w1 ⟨rfl, hb⟩
  have HB := Lib.hid ((by (repeat' (first | with_reducible exact Below.refl _ _ | with_reducible refine below_drewN ?_ _ | with_reducible refine Below.drew ?_ | with_reducible refine Below.setCell ?_ (by first | exact Nat.le_refl _ | (simp; done) | (simp; omega) | omega) _ | with_reducible refine Below.alloc ?_ (by first | exact Nat.le_refl _ | (simp; done) | (simp; omega) | omega) _ | exact Below.refl _ _)) : Below w.heap.size w _).trans (hb.mono (by simp)))
  clear hb
  go_wp2_with fail
  go_ret
  exact ⟨rfl, HB.out⟩

def installE (s : St) (sp : Pos) (ps : List (ByteArray × Val)) (ss : List Sn) : Int := if s.closed = true then 10 else if rightSnapB s.table sp ps ss = false then 2 else if sp.i ≤ s.pos.i then 11 else 0
set_option maxRecDepth 100000 in
set_option maxHeartbeats 8000000 in
theorem Check_install (L : Lay) (s : St) (x : Ent) (e : Ep) (cfg : Int) (sp : Pos) (pv sv : Value) (ps : List (ByteArray × Val)) (ss : List Sn) (w : World) (h : StAt w L s) (hp : SlAt w pv ps.length (pairsCells ps)) (hs : SlAt w sv ss.length (snsCells ss)) :
    Calls Try.prog 41 #[.pointer (some ⟨L.b, 0, none⟩), .agg (recVal 4 x e cfg sp pv sv)] w (IntRes (installE s sp ps ss) w) := by
  obtain ⟨A, ca, rfl, _⟩ := id hp
  obtain ⟨B, cb, rfl, _⟩ := id hs
  have hbl := h.blk.lt
  have c10 : World.cell? w ⟨L.b, 10, none⟩ = some (.bool s.closed) := by rw [Blk.cell h.blk]; rfl
  have hrt : ∀ W : World, Below w.heap.size w W → Calls Try.prog 61 #[.pointer (some ⟨L.b, 0, none⟩), .agg #[.int .i64 sp.e, .int .i64 sp.i, .slice A ps.length ca, .slice B ss.length cb]] W (BoolRes (rightSnapB s.table sp ps ss) W) := fun W hW =>
    right_any L s sp _ _ ps ss W (h.below hW) (hp.below hW) (hs.below hW)
  have hc1 : ∀ W : World, Below w.heap.size w W → W.cell? ⟨L.b, 1, none⟩ = some (.int .i64 s.pos.i) := fun W hW => by rw [(h.below hW).blk.cell]; rfl
  have HC1 := Lib.hid hc1
  obtain ⟨cl, hcl⟩ : ∃ cl, s.closed = cl := ⟨_, rfl⟩
  rw [hcl] at c10
  have HCL := Lib.hid hcl
  obtain ⟨rb, hrb⟩ : ∃ rb, rightSnapB s.table sp ps ss = rb := ⟨_, rfl⟩
  rw [hrb] at hrt
  have HRB := Lib.hid hrb
  have HRT := Lib.hid hrt
  clear h hp hs hrt hc1 hcl hrb
  unfold recVal
  cases cl with
  | true =>
    go_enter Try.func41, Try.ntmps41
    go_wp2_with fail
    go_ret
    exact ⟨by unfold installE; rw [if_pos HCL.out]; rfl, by (repeat' (first | with_reducible exact Below.refl _ _ | with_reducible refine below_drewN ?_ _ | with_reducible refine Below.drew ?_ | with_reducible refine Below.setCell ?_ (by first | exact Nat.le_refl _ | (simp; done) | (simp; omega) | omega) _ | with_reducible refine Below.alloc ?_ (by first | exact Nat.le_refl _ | (simp; done) | (simp; omega) | omega) _ | exact Below.refl _ _))⟩
  | false =>
    go_enter Try.func41, Try.ntmps41
    go_wp2_with fail
    refine (HRT.out _ (by (repeat' (first | with_reducible exact Below.refl _ _ | with_reducible refine below_drewN ?_ _ | with_reducible refine Below.drew ?_ | with_reducible refine Below.setCell ?_ (by first | exact Nat.le_refl _ | (simp; done) | (simp; omega) | omega) _ | with_reducible refine Below.alloc ?_ (by first | exact Nat.le_refl _ | (simp; done) | (simp; omega) | omega) _ | exact Below.refl _ _)))).mono ?_
    rintro e1 w1 ⟨rfl, hb⟩
    have hbx : Blk w1 w.heap.size (recVal 4 x e cfg sp (.slice A ps.length ca) (.slice B ss.length cb)) 42 := Blk.below (by unfold recVal; ((repeat' (first | with_reducible exact Blk.new _ _ _ | with_reducible apply Blk.drewN | with_reducible apply Blk.drew | with_reducible apply Blk.set' | (with_reducible apply Blk.set_other (hp := by first | assumption | (simp; done) | (simp; omega) | omega)) | (with_reducible apply Blk.new'; focus (first | (simp; done) | (simp; omega))) | with_reducible apply Blk.alloc)) <;> rfl)) hb
    have hB := (by (repeat' (first | with_reducible exact Below.refl _ _ | with_reducible refine below_drewN ?_ _ | with_reducible refine Below.drew ?_ | with_reducible refine Below.setCell ?_ (by first | exact Nat.le_refl _ | (simp; done) | (simp; omega) | omega) _ | with_reducible refine Below.alloc ?_ (by first | exact Nat.le_refl _ | (simp; done) | (simp; omega) | omega) _ | exact Below.refl _ _)) : Below w.heap.size w _).trans (hb.mono (by simp))
    have hxl := hbx.lt
    have k13 : World.cell? w1 ⟨w.heap.size, 13, none⟩ = some (.int .i64 sp.i) := by rw [Blk.cell hbx]; rfl
    have c1 := HC1.out w1 hB
    have hs1 := hB.size
    have HB := Lib.hid hB
    clear hb hbx hB
    cases rb with
    | false =>
      go_wp2_with fail
      go_ret
      exact ⟨by unfold installE; rw [if_neg (by rw [HCL.out]; simp), if_pos HRB.out]; rfl, HB.out⟩
    | true =>
      by_cases hle : sp.i ≤ s.pos.i
      · have d1 : decide (sp.i ≤ s.pos.i) = true := decide_eq_true hle
        have HLE := Lib.hid hle
        clear hle
        go_upto_region 20 with (fail)
        go_quiet (fail)
        go_wp2_with fail
        go_ret
        exact ⟨by unfold installE; rw [if_neg (by rw [HCL.out]; simp), if_neg (by rw [HRB.out]; simp), if_pos (by have := HLE.out; omega)]; rfl, by (repeat' (first | with_reducible exact HB.out | with_reducible exact Below.refl _ _ | with_reducible refine below_drewN ?_ _ | with_reducible refine Below.drew ?_ | with_reducible refine Below.setCell ?_ (by first | exact Nat.le_refl _ | (simp; done) | (simp; omega) | omega) _ | with_reducible refine Below.alloc ?_ (by first | exact Nat.le_refl _ | (simp; done) | (simp; omega) | omega) _ | exact Below.refl _ _ | exact HB.out))⟩
      · have d1 : decide (sp.i ≤ s.pos.i) = false := decide_eq_false hle
        have HLE := Lib.hid hle
        clear hle
        go_upto_region 20 with (fail)
        go_quiet (fail)
        go_wp2_with fail
        go_ret
        exact ⟨by unfold installE; rw [if_neg (by rw [HCL.out]; simp), if_neg (by rw [HRB.out]; simp), if_neg (by have := HLE.out; omega)]; rfl, by (repeat' (first | with_reducible exact HB.out | with_reducible exact Below.refl _ _ | with_reducible refine below_drewN ?_ _ | with_reducible refine Below.drew ?_ | with_reducible refine Below.setCell ?_ (by first | exact Nat.le_refl _ | (simp; done) | (simp; omega) | omega) _ | with_reducible refine Below.alloc ?_ (by first | exact Nat.le_refl _ | (simp; done) | (simp; omega) | omega) _ | exact Below.refl _ _ | exact HB.out))⟩

set_option maxRecDepth 100000 in
set_option maxHeartbeats 8000000 in
theorem Check_none (L : Lay) (s : St) (k : Int) (x : Ent) (e : Ep) (cfg : Int) (sp : Pos) (pv sv : Value) (w : World) (h : StAt w L s) (hk : k ≠ 1 ∧ k ≠ 2 ∧ k ≠ 3 ∧ k ≠ 4 ∧ k ≠ 5) :
    Calls Try.prog 41 #[.pointer (some ⟨L.b, 0, none⟩), .agg (recVal k x e cfg sp pv sv)] w (IntRes 1 w) := by
  obtain ⟨h1, h2, h3, h4, h5⟩ := hk
  have d1 : (k == 1) = false := by simp [h1]
  have d2 : (k == 2) = false := by simp [h2]
  have d3 : (k == 3) = false := by simp [h3]
  have d4 : (k == 4) = false := by simp [h4]
  have d5 : (k == 5) = false := by simp [h5]
  clear h h1 h2 h3 h4 h5
  unfold recVal
  go_enter Try.func41, Try.ntmps41
  go_wp2_with fail
  go_ret
  exact ⟨rfl, by (repeat' (first | with_reducible exact Below.refl _ _ | with_reducible refine below_drewN ?_ _ | with_reducible refine Below.drew ?_ | with_reducible refine Below.setCell ?_ (by first | exact Nat.le_refl _ | (simp; done) | (simp; omega) | omega) _ | with_reducible refine Below.alloc ?_ (by first | exact Nat.le_refl _ | (simp; done) | (simp; omega) | omega) _ | exact Below.refl _ _))⟩

set_option maxRecDepth 100000 in
set_option maxHeartbeats 8000000 in
theorem Apply_refused (L : Lay) (s : St) (k : Int) (x : Ent) (e : Ep) (cfg : Int) (sp : Pos) (pv sv : Value) (n : Int) (w : World) (h : StAt w L s) (hn : n ≠ 0)
    (hcc : ∀ W : World, Below w.heap.size w W → Calls Try.prog 41 #[.pointer (some ⟨L.b, 0, none⟩), .agg (recVal k x e cfg sp pv sv)] W (IntRes n W)) :
    Calls Try.prog 13 #[.pointer (some ⟨L.b, 0, none⟩), .agg (recVal k x e cfg sp pv sv)] w (ApplyRes L n s w) := by
  have H := Lib.hid h
  have d1 : (n != 0) = true := by simp [hn]
  unfold recVal at *
  have HC := Lib.hid hcc
  clear h hn hcc
  go_enter Try.func13, Try.ntmps13
  go_wp2_with fail
  refine (HC.out _ (by (repeat' (first | with_reducible exact Below.refl _ _ | with_reducible refine below_drewN ?_ _ | with_reducible refine Below.drew ?_ | with_reducible refine Below.setCell ?_ (by first | exact Nat.le_refl _ | (simp; done) | (simp; omega) | omega) _ | with_reducible refine Below.alloc ?_ (by first | exact Nat.le_refl _ | (simp; done) | (simp; omega) | omega) _ | exact Below.refl _ _)))).mono ?_
  rintro e1 w1 ⟨rfl, hb⟩
  have HB := Lib.hid ((by (repeat' (first | with_reducible exact Below.refl _ _ | with_reducible refine below_drewN ?_ _ | with_reducible refine Below.drew ?_ | with_reducible refine Below.setCell ?_ (by first | exact Nat.le_refl _ | (simp; done) | (simp; omega) | omega) _ | with_reducible refine Below.alloc ?_ (by first | exact Nat.le_refl _ | (simp; done) | (simp; omega) | omega) _ | exact Below.refl _ _)) : Below w.heap.size w _).trans (hb.mono (by simp)))
  clear hb
  go_wp2_with fail
  go_ret
  exact ⟨rfl, L, Moved.same H.out HB.out⟩

end Go.Proofs.Ytedcdjlpogpgbaa

/- Layer 15: Apply of a Compact. -/
set_option linter.unusedVariables false
set_option linter.unusedSimpArgs false
namespace Go.Proofs.Ytedcdjlpogpgbaa
open Go.RowKit

def basedF (s : St) (p : Pos) (ps : List KV) (ss : List Sn) : St := { s with base := ⟨p, ps, ss⟩, ents := [] }
def compactF (s : St) : St := St.refold (basedF s s.pos s.keys (sortS s.seen))
theorem rise_sortS {l : List Sn} (hk : l.Pairwise (fun x y => x.s ≠ y.s)) : Rise (sortS l) := by
  have h1 := sortS_sorted l
  have h2 : (sortS l).Pairwise (fun x y => x.s ≠ y.s) := ((sortS_perm l).pairwise_iff (fun h => Ne.symm h)).2 hk
  exact (h1.and h2).imp (fun ⟨a, b⟩ => by omega)
/-- Behind a store of a snapshot into the base, and of no entries. -/
theorem based {w W : World} {L : Lay} {s : St} {p : Pos} {ps : List KV} {ss : List Sn} {pv sv : Value} (h : StAt w L s) (hF : Frm (fun c => c = L.b) w W)
    (hW : Blk W L.b (stCells { L with pv := pv, sv := sv, ev := .slice none 0 0 } (basedF s p ps ss)) 94)
    (hp : w.ownsRow 0 67 5 pv ps.length (pairsCells ps)) (hs : w.ownsRow 0 69 4 sv ss.length (snsCells ss)) :
    W.ownsRow 0 29 3 L.tv s.table.length (epsCells s.table) ∧ W.ownsRow 0 67 5 pv ps.length (pairsCells ps) ∧ W.ownsRow 0 69 4 sv ss.length (snsCells ss) ∧ W.ownsRow 0 35 7 (.slice none 0 0) ([] : List Ent).length (entsCells []) := by
  have hne : ∀ {k n : Nat} {e : TypeId} {v : Value} {xs : List Value}, w.ownsRow 0 e k v n xs → e ≠ 94 → ∀ c, v.ownBlock = some c → ¬ (c = L.b) := fun ho hn c hc e => by subst e; exact hn (own_type ho hc h.blk)
  exact ⟨own_frm h.tab hF (hne h.tab (by decide)), own_frm hp hF (hne hp (by decide)), own_frm hs hF (hne hs (by decide)), own_empty _ _ _⟩

set_option maxRecDepth 100000 in
set_option maxHeartbeats 8000000 in
theorem Apply_compact_yes (L : Lay) (s : St) (x : Ent) (e : Ep) (cfg : Int) (sp : Pos) (A B : Option Addr) (na ca nb cb : Nat) (w : World) (h : StAt w L s) (hcl : s.closed = false) (hkl : s.keys.length ≤ 1000000000) (hsl : s.seen.length ≤ 16) :
    Calls Try.prog 13 #[.pointer (some ⟨L.b, 0, none⟩), .agg (recVal 5 x e cfg sp (.slice A na ca) (.slice B nb cb))] w (ApplyRes L 0 (compactF s) w) := by
  have H := Lib.hid h
  have hbl := h.blk.lt
  have hcc : ∀ W : World, Below w.heap.size w W → Calls Try.prog 41 #[.pointer (some ⟨L.b, 0, none⟩), .agg (recVal 5 x e cfg sp (.slice A na ca) (.slice B nb cb))] W (IntRes 0 W) := fun W hW => by
    have := Check_compact L s x e cfg sp A B na ca nb cb W (H.out.below hW)
    unfold compactE at this
    rwa [if_neg (by rw [hcl]; simp)] at this
  have htold : ∀ W : World, Below w.heap.size w W → Calls Try.prog 48 #[.pointer (some ⟨L.b, 0, none⟩)] W (ToldRes s.pos s.keys (sortS s.seen) W) := fun W hW => by
    have hW' := H.out.below hW
    have := told_all L.b L.kb L.sb L.mb L.t s.seen s.pos _ _ W hW'.blk rfl rfl rfl rfl hW'.fold (by rw [hW'.keys]; exact hkl) (by omega)
    rwa [hW'.keys] at this
  have hsn : SnapOk ⟨s.pos, s.keys, sortS s.seen⟩ := ⟨by rw [← h.keys]; exact h.fold.keys.up, rise_sortS h.fold.seen.keys, by show (sortS s.seen).length ≤ 16; rw [(sortS_perm _).length_eq]; exact hsl, by show s.keys.length ≤ _; omega⟩
  have hbox : ∀ W : World, Below (w.alloc (.cells (recVal 5 x e cfg sp (.slice A na ca) (.slice B nb cb)) 42)).heap.size (w.alloc (.cells (recVal 5 x e cfg sp (.slice A na ca) (.slice B nb cb)) 42)) W → Blk W w.heap.size (recVal 5 x e cfg sp (.slice A na ca) (.slice B nb cb)) 42 := fun W hW => Blk.below (Blk.new' rfl rfl) hW
  have hss16 : (sortS s.seen).length ≤ 1000000000 := by rw [(sortS_perm _).length_eq]; omega
  unfold recVal at *
  have HC := Lib.hid hcc
  have HT := Lib.hid htold
  have HSN := Lib.hid hsn
  have HBOX := Lib.hid hbox
  clear h hcc hbox htold hsn hcl
  go_enter Try.func13, Try.ntmps13
  go_wp2_with fail
  refine (HC.out _ (by (repeat' (first | with_reducible exact Below.refl _ _ | with_reducible refine below_drewN ?_ _ | with_reducible refine Below.drew ?_ | with_reducible refine Below.setCell ?_ (by first | exact Nat.le_refl _ | (simp; done) | (simp; omega) | omega) _ | with_reducible refine Below.alloc ?_ (by first | exact Nat.le_refl _ | (simp; done) | (simp; omega) | omega) _ | exact Below.refl _ _)))).mono ?_
  rintro e1 w1 ⟨rfl, hb⟩
  have hbx := HBOX.out w1 hb
  have HB := Lib.hid ((by (repeat' (first | with_reducible exact Below.refl _ _ | with_reducible refine below_drewN ?_ _ | with_reducible refine Below.drew ?_ | with_reducible refine Below.setCell ?_ (by first | exact Nat.le_refl _ | (simp; done) | (simp; omega) | omega) _ | with_reducible refine Below.alloc ?_ (by first | exact Nat.le_refl _ | (simp; done) | (simp; omega) | omega) _ | exact Below.refl _ _)) : Below w.heap.size w _).trans (hb.mono (by simp)))
  have hxl := hbx.lt
  have hs1 := HB.out.size
  have k0 : World.cell? w1 ⟨w.heap.size, 0, none⟩ = some (.int .i64 5) := by rw [Blk.cell hbx]; rfl
  have HBX := Lib.hid hbx
  clear hb hbx
  go_wp2_with fail
  refine (HT.out _ HB.out).mono ?_
  rintro e2 w2 ⟨pv, sv, rfl, hp, hs, hn1, hn2, hb2⟩
  obtain ⟨pA, pc, hpv, _⟩ := own_sl hp
  obtain ⟨sA, sc, hsv, _⟩ := own_sl hs
  subst hpv
  subst hsv
  have hbx2 := HBX.out.below hb2
  have HB2 := Lib.hid (HB.out.trans (hb2.mono hs1))
  have hxl2 := hbx2.lt
  have hs2 := HB2.out.size
  have r12 : World.cell? w2 ⟨w.heap.size, 12, none⟩ = some (.int .i64 sp.e) := by rw [Blk.cell hbx2]; rfl
  have r13 : World.cell? w2 ⟨w.heap.size, 13, none⟩ = some (.int .i64 sp.i) := by rw [Blk.cell hbx2]; rfl
  have r14 : World.cell? w2 ⟨w.heap.size, 14, none⟩ = some (.slice A na ca) := by rw [Blk.cell hbx2]; rfl
  have r15 : World.cell? w2 ⟨w.heap.size, 15, none⟩ = some (.slice B nb cb) := by rw [Blk.cell hbx2]; rfl
  have y12 := Blk.free hbx2 12
  have y13 := Blk.free hbx2 13
  have y14 := Blk.free hbx2 14
  have y15 := Blk.free hbx2 15
  have HBX2 := Lib.hid hbx2
  have HP := Lib.hid hp
  have HS := Lib.hid hs
  have HN1 := Lib.hid hn1
  have HN2 := Lib.hid hn2
  unfold snapVal
  clear hb2 hbx2 hp hs hn1 hn2 k0
  go_upto_region 15 with (fail)
  refine wp_abs' ?_
  intro w3 hw3
  have X3 : Blk w3 w.heap.size (recVal 5 x e cfg s.pos (.slice pA s.keys.length pc) (.slice sA (sortS s.seen).length sc)) 42 := by rw [hw3]; ((repeat' (first | with_reducible exact HBX2.out | with_reducible exact Blk.new _ _ _ | with_reducible apply Blk.drewN | with_reducible apply Blk.drew | with_reducible apply Blk.set' | (with_reducible apply Blk.set_other (hp := by first | assumption | (simp; done) | (simp; omega) | omega)) | (with_reducible apply Blk.new'; focus (first | (simp; done) | (simp; omega))) | with_reducible apply Blk.alloc | exact HBX2.out)) <;> rfl)
  have F23 : Frm (fun c => c = w.heap.size) w2 w3 := by rw [hw3]; (repeat' (first | with_reducible exact Frm.refl _ _ | with_reducible refine Frm.drewN ?_ _ | with_reducible refine Frm.drew ?_ | with_reducible refine Frm.setCell ?_ (by first | exact Or.inl rfl | exact Or.inr (Nat.le_refl _) | (simp; done) | (simp; omega)) _ | with_reducible refine Frm.alloc ?_ _ | exact Frm.refl _ _))
  clear hw3 r12 r13 r14 r15 y12 y13 y14 y15
  have P3 := own_frm HP.out F23 (fun c hc e => by have := HN1.out c hc; omega)
  have S3 := own_frm HS.out F23 (fun c hc e => by have := HN2.out c hc; omega)
  have B3 : Below w.heap.size w w3 := HB2.out.trans ⟨F23.os, F23.tape, F23.output, F23.size, fun i hi => F23.block i (by omega) (by omega)⟩
  have hs3 := B3.size
  have hx3 := X3.lt
  have q12 : World.cell? w3 ⟨w.heap.size, 12, none⟩ = some (.int .i64 s.pos.e) := by rw [Blk.cell X3]; rfl
  have q13 : World.cell? w3 ⟨w.heap.size, 13, none⟩ = some (.int .i64 s.pos.i) := by rw [Blk.cell X3]; rfl
  have q14 : World.cell? w3 ⟨w.heap.size, 14, none⟩ = some (.slice pA s.keys.length pc) := by rw [Blk.cell X3]; rfl
  have q15 : World.cell? w3 ⟨w.heap.size, 15, none⟩ = some (.slice sA (sortS s.seen).length sc) := by rw [Blk.cell X3]; rfl
  have HP3 := Lib.hid (own_sl P3)
  have HS3 := Lib.hid (own_sl S3)
  have HB3 := Lib.hid B3
  clear X3 F23 P3 S3 B3
  go_wp2_with fail
  refine (copied_snap s.pos _ _ s.keys (sortS s.seen) w3 HP3.out HS3.out hkl hss16).mono ?_
  rintro e4 w4 ⟨pv', sv', rfl, hp', hs', hn1', hn2', hb4⟩
  obtain ⟨pA', pc', hpv', _⟩ := own_sl hp'
  obtain ⟨sA', sc', hsv', _⟩ := own_sl hs'
  subst hpv'
  subst hsv'
  have HB4 := Lib.hid (HB3.out.trans (hb4.mono hs3))
  have hst := H.out.below HB4.out
  have HST := Lib.hid hst
  have hbl4 := hst.blk.lt
  have c5 : World.cell? w4 ⟨L.b, 5, none⟩ = some (.int .i64 s.base.pos.e) := by rw [Blk.cell hst.blk]; rfl
  have c6 : World.cell? w4 ⟨L.b, 6, none⟩ = some (.int .i64 s.base.pos.i) := by rw [Blk.cell hst.blk]; rfl
  have c7 : World.cell? w4 ⟨L.b, 7, none⟩ = some (L.pv) := by rw [Blk.cell hst.blk]; rfl
  have c8 : World.cell? w4 ⟨L.b, 8, none⟩ = some (L.sv) := by rw [Blk.cell hst.blk]; rfl
  have c9 : World.cell? w4 ⟨L.b, 9, none⟩ = some (L.ev) := by rw [Blk.cell hst.blk]; rfl
  have f5 := Blk.free hst.blk 5
  have f6 := Blk.free hst.blk 6
  have f7 := Blk.free hst.blk 7
  have f8 := Blk.free hst.blk 8
  have f9 := Blk.free hst.blk 9
  have HP4 := Lib.hid hp'
  have HS4 := Lib.hid hs'
  have HN3 := Lib.hid hn1'
  have HN4 := Lib.hid hn2'
  unfold snapVal
  clear hst hb4 hp' hs' hn1' hn2' q12 q13 q14 q15
  go_upto_region 16 with (fail)
  refine wp_abs' ?_
  intro W hW
  have hW1 : Blk W L.b (stCells { L with pv := .slice pA' s.keys.length pc', sv := .slice sA' (sortS s.seen).length sc', ev := .slice none 0 0 } (basedF s s.pos s.keys (sortS s.seen))) 94 := by rw [hW]; ((repeat' (first | with_reducible exact HST.out.blk | with_reducible exact Blk.new _ _ _ | with_reducible apply Blk.drewN | with_reducible apply Blk.drew | with_reducible apply Blk.set' | (with_reducible apply Blk.set_other (hp := by first | assumption | (simp; done) | (simp; omega) | omega)) | (with_reducible apply Blk.new'; focus (first | (simp; done) | (simp; omega))) | with_reducible apply Blk.alloc | exact HST.out.blk)) <;> rfl)
  have hW2 : Frm (fun c => c = L.b) w4 W := by rw [hW]; (repeat' (first | with_reducible exact Frm.refl _ _ | with_reducible refine Frm.drewN ?_ _ | with_reducible refine Frm.drew ?_ | with_reducible refine Frm.setCell ?_ (by first | exact Or.inl rfl | exact Or.inr (Nat.le_refl _) | (simp; done) | (simp; omega)) _ | with_reducible refine Frm.alloc ?_ _ | exact Frm.refl _ _))
  clear hW c5 c6 c7 c8 c9 f5 f6 f7 f8 f9
  obtain ⟨o1, o2, o3, o4⟩ := based HST.out hW2 hW1 HP4.out HS4.out
  have HW1 := Lib.hid hW1
  have HO := Lib.hid (And.intro o1 (And.intro o2 (And.intro o3 o4)))
  have HW2 := Lib.hid hW2
  have hcall := again_any { L with pv := .slice pA' s.keys.length pc', sv := .slice sA' (sortS s.seen).length sc', ev := .slice none 0 0 } (basedF s s.pos s.keys (sortS s.seen)) W hW1 o2 o3 o4 HSN.out (Nat.zero_le _)
  have HCALL := Lib.hid hcall
  clear hW1 hW2 o1 o2 o3 o4 hcall
  go_wp2_with fail
  refine HCALL.out.mono ?_
  rintro e5 w' ⟨rfl, L', han⟩
  have HAN := Lib.hid han
  clear han
  go_wp2_with fail
  go_ret
  refine ⟨rfl, L', moved_of_again (L := L) (L2 := { L with pv := .slice pA' s.keys.length pc', sv := .slice sA' (sortS s.seen).length sc', ev := .slice none 0 0 }) (W := W) rfl ((Frm.ofBelow HB4.out).trans HW2.out (fun i _ h => .inl h)) HW1.out HO.out.1 HO.out.2.1 HO.out.2.2.1 HO.out.2.2.2 ?_ HAN.out⟩
  intro c hc
  rcases hc with hc | hc | hc | hc
  · exact .inl (by unfold Lay.foot; simp [show L.tv.ownBlock = some c from hc])
  · have := HN3.out c hc; exact .inr (by omega)
  · have := HN4.out c hc; exact .inr (by omega)
  · cases hc

end Go.Proofs.Ytedcdjlpogpgbaa

/- Layer 15: Apply of an Install. -/
set_option linter.unusedVariables false
set_option linter.unusedSimpArgs false
namespace Go.Proofs.Ytedcdjlpogpgbaa
open Go.RowKit

def installF (s : St) (sp : Pos) (ps : List KV) (ss : List Sn) : St := St.refold (basedF s sp ps ss)
theorem pairwise_step {α : Type} {R : α → α → Prop} (tr : ∀ a b c, R a b → R b c → R a c) : ∀ l : List α, (∀ j a b, l[j]? = some a → l[j + 1]? = some b → R a b) → l.Pairwise R
  | [], _ => List.Pairwise.nil
  | [a], _ => by simp
  | a :: b :: l, h => by
    have ih := pairwise_step tr (b :: l) (fun j x y hx hy => h (j + 1) x y hx hy)
    have hab := h 0 a b rfl rfl
    rw [List.pairwise_cons]
    refine ⟨fun x hx => ?_, ih⟩
    rcases List.mem_cons.1 hx with rfl | hx
    · exact hab
    · exact tr a b x hab ((List.pairwise_cons.1 ih).1 x hx)
theorem right_up {t : List Ep} {a : Pos} {ps : List KV} {ss : List Sn} (h : rightSnapB t a ps ss = true) : Up ps ∧ Rise ss ∧ ss.length ≤ 16 := by
  unfold rightSnapB at h
  simp only [Bool.and_eq_true, decide_eq_true_eq] at h
  obtain ⟨⟨⟨_, h16⟩, hp⟩, hs⟩ := h
  unfold pairsB at hp
  unfold seensB at hs
  rw [List.all_eq_true] at hp hs
  refine ⟨pairwise_step (R := fun a b : KV => lt a.1 b.1 = true) (fun a b c h1 h2 => lt_trans h1 h2) ps (fun j x y hx hy => ?_), pairwise_step (R := fun a b : Sn => a.s < b.s) (fun a b c h1 h2 => by omega) ss (fun j x y hx hy => ?_), h16⟩
  · have hj : j + 1 < ps.length := (List.getElem?_eq_some_iff.1 hy).1
    have := hp (j + 1) (List.mem_range.2 hj)
    unfold pairAtB at this
    simp only [Bool.and_eq_true, Bool.or_eq_true, decide_eq_true_eq] at this
    have h1 := this.1.1.1.2
    rcases h1 with h1 | h1
    · omega
    · unfold kvAt at h1
      simp only [Nat.add_sub_cancel, List.getD_eq_getElem?_getD, hx, hy, Option.getD_some] at h1
      exact h1
  · have hj : j + 1 < ss.length := (List.getElem?_eq_some_iff.1 hy).1
    have := hs (j + 1) (List.mem_range.2 hj)
    unfold seenAtB at this
    simp only [Bool.and_eq_true, Bool.or_eq_true, decide_eq_true_eq] at this
    have h1 := this.1.2
    rcases h1 with h1 | h1
    · omega
    · unfold snAt at h1
      simp only [Nat.add_sub_cancel, List.getD_eq_getElem?_getD, hx, hy, Option.getD_some] at h1
      exact h1

set_option maxRecDepth 100000 in
set_option maxHeartbeats 8000000 in
theorem Apply_install_yes (L : Lay) (s : St) (x : Ent) (e : Ep) (cfg : Int) (sp : Pos) (pv sv : Value) (ps : List KV) (ss : List Sn) (w : World) (h : StAt w L s) (hp0 : SlAt w pv ps.length (pairsCells ps)) (hs0 : SlAt w sv ss.length (snsCells ss)) (hyes : installE s sp ps ss = 0) (hlp : ps.length ≤ 1000000) (hls : ss.length ≤ 1000000) :
    Calls Try.prog 13 #[.pointer (some ⟨L.b, 0, none⟩), .agg (recVal 4 x e cfg sp pv sv)] w (ApplyRes L 0 (installF s sp ps ss) w) := by
  obtain ⟨A, ca, rfl, _⟩ := id hp0
  obtain ⟨B, cb, rfl, _⟩ := id hs0
  have H := Lib.hid h
  have hbl := h.blk.lt
  have hcc : ∀ W : World, Below w.heap.size w W → Calls Try.prog 41 #[.pointer (some ⟨L.b, 0, none⟩), .agg (recVal 4 x e cfg sp (.slice A ps.length ca) (.slice B ss.length cb))] W (IntRes 0 W) := fun W hW => by
    have := Check_install L s x e cfg sp _ _ ps ss W (H.out.below hW) (hp0.below hW) (hs0.below hW)
    rwa [hyes] at this
  have hr : rightSnapB s.table sp ps ss = true := by
    unfold installE at hyes
    cases hb : rightSnapB s.table sp ps ss with
    | true => rfl
    | false => rw [hb] at hyes; split at hyes <;> simp at hyes
  obtain ⟨hu1, hu2, hu3⟩ := right_up hr
  have hsn : SnapOk ⟨sp, ps, ss⟩ := ⟨hu1, hu2, hu3, by show ps.length ≤ _; omega⟩
  have hbox : ∀ W : World, Below (w.alloc (.cells (recVal 4 x e cfg sp (.slice A ps.length ca) (.slice B ss.length cb)) 42)).heap.size (w.alloc (.cells (recVal 4 x e cfg sp (.slice A ps.length ca) (.slice B ss.length cb)) 42)) W → Blk W w.heap.size (recVal 4 x e cfg sp (.slice A ps.length ca) (.slice B ss.length cb)) 42 := fun W hW => Blk.below (Blk.new' rfl rfl) hW
  unfold recVal at *
  have HC := Lib.hid hcc
  have HP0 := Lib.hid hp0
  have HS0 := Lib.hid hs0
  have HSN := Lib.hid hsn
  have HBOX := Lib.hid hbox
  clear h hcc hbox hsn hyes hr hu1 hu2 hu3 hp0 hs0
  go_enter Try.func13, Try.ntmps13
  go_wp2_with fail
  refine (HC.out _ (by (repeat' (first | with_reducible exact Below.refl _ _ | with_reducible refine below_drewN ?_ _ | with_reducible refine Below.drew ?_ | with_reducible refine Below.setCell ?_ (by first | exact Nat.le_refl _ | (simp; done) | (simp; omega) | omega) _ | with_reducible refine Below.alloc ?_ (by first | exact Nat.le_refl _ | (simp; done) | (simp; omega) | omega) _ | exact Below.refl _ _)))).mono ?_
  rintro e1 w1 ⟨rfl, hb⟩
  have hbx := HBOX.out w1 hb
  have HB := Lib.hid ((by (repeat' (first | with_reducible exact Below.refl _ _ | with_reducible refine below_drewN ?_ _ | with_reducible refine Below.drew ?_ | with_reducible refine Below.setCell ?_ (by first | exact Nat.le_refl _ | (simp; done) | (simp; omega) | omega) _ | with_reducible refine Below.alloc ?_ (by first | exact Nat.le_refl _ | (simp; done) | (simp; omega) | omega) _ | exact Below.refl _ _)) : Below w.heap.size w _).trans (hb.mono (by simp)))
  have hxl := hbx.lt
  have hs1 := HB.out.size
  have k0 : World.cell? w1 ⟨w.heap.size, 0, none⟩ = some (.int .i64 4) := by rw [Blk.cell hbx]; rfl
  have k12 : World.cell? w1 ⟨w.heap.size, 12, none⟩ = some (.int .i64 sp.e) := by rw [Blk.cell hbx]; rfl
  have k13 : World.cell? w1 ⟨w.heap.size, 13, none⟩ = some (.int .i64 sp.i) := by rw [Blk.cell hbx]; rfl
  have k14 : World.cell? w1 ⟨w.heap.size, 14, none⟩ = some (.slice A ps.length ca) := by rw [Blk.cell hbx]; rfl
  have k15 : World.cell? w1 ⟨w.heap.size, 15, none⟩ = some (.slice B ss.length cb) := by rw [Blk.cell hbx]; rfl
  have HP3 := Lib.hid (HP0.out.below HB.out)
  have HS3 := Lib.hid (HS0.out.below HB.out)
  clear hb hbx
  go_wp2_with fail
  refine (copied_snap sp _ _ ps ss w1 HP3.out HS3.out (by omega) (by omega)).mono ?_
  rintro e4 w4 ⟨pv', sv', rfl, hp', hs', hn1', hn2', hb4⟩
  obtain ⟨pA', pc', hpv', _⟩ := own_sl hp'
  obtain ⟨sA', sc', hsv', _⟩ := own_sl hs'
  subst hpv'
  subst hsv'
  have HB4 := Lib.hid (HB.out.trans (hb4.mono hs1))
  have hst := H.out.below HB4.out
  have HST := Lib.hid hst
  have hbl4 := hst.blk.lt
  have c5 : World.cell? w4 ⟨L.b, 5, none⟩ = some (.int .i64 s.base.pos.e) := by rw [Blk.cell hst.blk]; rfl
  have c6 : World.cell? w4 ⟨L.b, 6, none⟩ = some (.int .i64 s.base.pos.i) := by rw [Blk.cell hst.blk]; rfl
  have c7 : World.cell? w4 ⟨L.b, 7, none⟩ = some (L.pv) := by rw [Blk.cell hst.blk]; rfl
  have c8 : World.cell? w4 ⟨L.b, 8, none⟩ = some (L.sv) := by rw [Blk.cell hst.blk]; rfl
  have c9 : World.cell? w4 ⟨L.b, 9, none⟩ = some (L.ev) := by rw [Blk.cell hst.blk]; rfl
  have f5 := Blk.free hst.blk 5
  have f6 := Blk.free hst.blk 6
  have f7 := Blk.free hst.blk 7
  have f8 := Blk.free hst.blk 8
  have f9 := Blk.free hst.blk 9
  have HP4 := Lib.hid hp'
  have HS4 := Lib.hid hs'
  have HN3 := Lib.hid hn1'
  have HN4 := Lib.hid hn2'
  unfold snapVal
  clear hst hb4 hp' hs' hn1' hn2' k0 k12 k13 k14 k15
  go_upto_region 16 with (fail)
  refine wp_abs' ?_
  intro W hW
  have hW1 : Blk W L.b (stCells { L with pv := .slice pA' ps.length pc', sv := .slice sA' ss.length sc', ev := .slice none 0 0 } (basedF s sp ps ss)) 94 := by rw [hW]; ((repeat' (first | with_reducible exact HST.out.blk | with_reducible exact Blk.new _ _ _ | with_reducible apply Blk.drewN | with_reducible apply Blk.drew | with_reducible apply Blk.set' | (with_reducible apply Blk.set_other (hp := by first | assumption | (simp; done) | (simp; omega) | omega)) | (with_reducible apply Blk.new'; focus (first | (simp; done) | (simp; omega))) | with_reducible apply Blk.alloc | exact HST.out.blk)) <;> rfl)
  have hW2 : Frm (fun c => c = L.b) w4 W := by rw [hW]; (repeat' (first | with_reducible exact Frm.refl _ _ | with_reducible refine Frm.drewN ?_ _ | with_reducible refine Frm.drew ?_ | with_reducible refine Frm.setCell ?_ (by first | exact Or.inl rfl | exact Or.inr (Nat.le_refl _) | (simp; done) | (simp; omega)) _ | with_reducible refine Frm.alloc ?_ _ | exact Frm.refl _ _))
  clear hW c5 c6 c7 c8 c9 f5 f6 f7 f8 f9
  obtain ⟨o1, o2, o3, o4⟩ := based HST.out hW2 hW1 HP4.out HS4.out
  have HW1 := Lib.hid hW1
  have HO := Lib.hid (And.intro o1 (And.intro o2 (And.intro o3 o4)))
  have HW2 := Lib.hid hW2
  have hcall := again_any { L with pv := .slice pA' ps.length pc', sv := .slice sA' ss.length sc', ev := .slice none 0 0 } (basedF s sp ps ss) W hW1 o2 o3 o4 HSN.out (Nat.zero_le _)
  have HCALL := Lib.hid hcall
  clear hW1 hW2 o1 o2 o3 o4 hcall
  go_wp2_with fail
  refine HCALL.out.mono ?_
  rintro e5 w' ⟨rfl, L', han⟩
  have HAN := Lib.hid han
  clear han
  go_wp2_with fail
  go_ret
  refine ⟨rfl, L', moved_of_again (L := L) (L2 := { L with pv := .slice pA' ps.length pc', sv := .slice sA' ss.length sc', ev := .slice none 0 0 }) (W := W) rfl ((Frm.ofBelow HB4.out).trans HW2.out (fun i _ h => .inl h)) HW1.out HO.out.1 HO.out.2.1 HO.out.2.2.1 HO.out.2.2.2 ?_ HAN.out⟩
  intro c hc
  rcases hc with hc | hc | hc | hc
  · exact .inl (by unfold Lay.foot; simp [show L.tv.ownBlock = some c from hc])
  · have := HN3.out c hc; exact .inr (by omega)
  · have := HN4.out c hc; exact .inr (by omega)
  · cases hc

end Go.Proofs.Ytedcdjlpogpgbaa

/- Layer 15: Apply of a Close. -/
set_option linter.unusedVariables false
set_option linter.unusedSimpArgs false
namespace Go.Proofs.Ytedcdjlpogpgbaa
open Go.RowKit

def closeF (s : St) : St := { s with closed := true }
theorem StAt.close {w : World} {L : Lay} {s : St} (h : StAt w L s) : StAt (w.setCell ⟨L.b, 10, none⟩ (.bool true)) L (closeF s) := by
  have hF : Frm (fun c => c = L.b) w (w.setCell ⟨L.b, 10, none⟩ (.bool true)) := by (repeat' (first | with_reducible exact Frm.refl _ _ | with_reducible refine Frm.drewN ?_ _ | with_reducible refine Frm.drew ?_ | with_reducible refine Frm.setCell ?_ (by first | exact Or.inl rfl | exact Or.inr (Nat.le_refl _) | (simp; done) | (simp; omega)) _ | with_reducible refine Frm.alloc ?_ _ | exact Frm.refl _ _))
  obtain ⟨nk, hkb⟩ := h.fold.keys.blk
  have hne : ∀ {k n : Nat} {e : TypeId} {v : Value} {xs : List Value}, w.ownsRow 0 e k v n xs → e ≠ 94 → ∀ c, v.ownBlock = some c → ¬ (c = L.b) := fun ho hn c hc e => by subst e; exact hn (own_type ho hc h.blk)
  refine ⟨h.blk.set' rfl, h.fold.frm hF (fun e => h.blk.ne hkb (by decide) e.symm) (fun b hb e => h.blk.notTree h.fold.keys.tree (by decide) (e ▸ hb)) (fun e => h.blk.ne h.fold.seen.blk (by decide) e.symm) (fun e => h.blk.neMap h.fold.seen.map e.symm), h.keys, ?_, ?_, ?_, ?_⟩
  · exact own_frm h.tab hF (hne h.tab (by decide))
  · exact own_frm h.prs hF (hne h.prs (by decide))
  · exact own_frm h.sns hF (hne h.sns (by decide))
  · exact own_frm h.ens hF (hne h.ens (by decide))

set_option maxRecDepth 100000 in
set_option maxHeartbeats 8000000 in
theorem Apply_close_no (L : Lay) (s : St) (x : Ent) (e : Ep) (cfg : Int) (sp : Pos) (A B : Option Addr) (na ca nb cb : Nat) (w : World) (h : StAt w L s) (hc : cfg ≠ s.table.length) :
    Calls Try.prog 13 #[.pointer (some ⟨L.b, 0, none⟩), .agg (recVal 3 x e cfg sp (.slice A na ca) (.slice B nb cb))] w (ApplyRes L 1 s w) := by
  have H := Lib.hid h
  have hcc : ∀ W : World, Below w.heap.size w W → Calls Try.prog 41 #[.pointer (some ⟨L.b, 0, none⟩), .agg (recVal 3 x e cfg sp (.slice A na ca) (.slice B nb cb))] W (IntRes 1 W) := fun W hW => by
    have := Check_close L s x e cfg sp A B na ca nb cb W (H.out.below hW)
    unfold closeE at this
    rwa [if_neg hc] at this
  unfold recVal at *
  have HC := Lib.hid hcc
  clear h hc hcc
  go_enter Try.func13, Try.ntmps13
  go_wp2_with fail
  refine (HC.out _ (by (repeat' (first | with_reducible exact Below.refl _ _ | with_reducible refine below_drewN ?_ _ | with_reducible refine Below.drew ?_ | with_reducible refine Below.setCell ?_ (by first | exact Nat.le_refl _ | (simp; done) | (simp; omega) | omega) _ | with_reducible refine Below.alloc ?_ (by first | exact Nat.le_refl _ | (simp; done) | (simp; omega) | omega) _ | exact Below.refl _ _)))).mono ?_
  rintro e1 w1 ⟨rfl, hb⟩
  have HB := Lib.hid ((by (repeat' (first | with_reducible exact Below.refl _ _ | with_reducible refine below_drewN ?_ _ | with_reducible refine Below.drew ?_ | with_reducible refine Below.setCell ?_ (by first | exact Nat.le_refl _ | (simp; done) | (simp; omega) | omega) _ | with_reducible refine Below.alloc ?_ (by first | exact Nat.le_refl _ | (simp; done) | (simp; omega) | omega) _ | exact Below.refl _ _)) : Below w.heap.size w _).trans (hb.mono (by simp)))
  clear hb
  go_wp2_with fail
  go_ret
  exact ⟨rfl, L, Moved.same H.out HB.out⟩

set_option maxRecDepth 100000 in
set_option maxHeartbeats 8000000 in
theorem Apply_close_yes (L : Lay) (s : St) (x : Ent) (e : Ep) (cfg : Int) (sp : Pos) (A B : Option Addr) (na ca nb cb : Nat) (w : World) (h : StAt w L s) (hc : cfg = s.table.length) :
    Calls Try.prog 13 #[.pointer (some ⟨L.b, 0, none⟩), .agg (recVal 3 x e cfg sp (.slice A na ca) (.slice B nb cb))] w (ApplyRes L 0 (closeF s) w) := by
  have H := Lib.hid h
  have hbl := h.blk.lt
  have hcc : ∀ W : World, Below w.heap.size w W → Calls Try.prog 41 #[.pointer (some ⟨L.b, 0, none⟩), .agg (recVal 3 x e cfg sp (.slice A na ca) (.slice B nb cb))] W (IntRes 0 W) := fun W hW => by
    have := Check_close L s x e cfg sp A B na ca nb cb W (H.out.below hW)
    unfold closeE at this
    rwa [if_pos hc] at this
  have hbox : ∀ W : World, Below (w.alloc (.cells (recVal 3 x e cfg sp (.slice A na ca) (.slice B nb cb)) 42)).heap.size (w.alloc (.cells (recVal 3 x e cfg sp (.slice A na ca) (.slice B nb cb)) 42)) W → Blk W w.heap.size (recVal 3 x e cfg sp (.slice A na ca) (.slice B nb cb)) 42 := fun W hW => Blk.below (Blk.new' rfl rfl) hW
  unfold recVal at *
  have HC := Lib.hid hcc
  have HBOX := Lib.hid hbox
  clear h hc hcc hbox
  go_enter Try.func13, Try.ntmps13
  go_wp2_with fail
  refine (HC.out _ (by (repeat' (first | with_reducible exact Below.refl _ _ | with_reducible refine below_drewN ?_ _ | with_reducible refine Below.drew ?_ | with_reducible refine Below.setCell ?_ (by first | exact Nat.le_refl _ | (simp; done) | (simp; omega) | omega) _ | with_reducible refine Below.alloc ?_ (by first | exact Nat.le_refl _ | (simp; done) | (simp; omega) | omega) _ | exact Below.refl _ _)))).mono ?_
  rintro e1 w1 ⟨rfl, hb⟩
  have hbx := HBOX.out w1 hb
  have HB := Lib.hid ((by (repeat' (first | with_reducible exact Below.refl _ _ | with_reducible refine below_drewN ?_ _ | with_reducible refine Below.drew ?_ | with_reducible refine Below.setCell ?_ (by first | exact Nat.le_refl _ | (simp; done) | (simp; omega) | omega) _ | with_reducible refine Below.alloc ?_ (by first | exact Nat.le_refl _ | (simp; done) | (simp; omega) | omega) _ | exact Below.refl _ _)) : Below w.heap.size w _).trans (hb.mono (by simp)))
  have hst := (H.out.below HB.out)
  have HST := Lib.hid hst
  have hxl := hbx.lt
  have hsl := hst.blk.lt
  have k0 : World.cell? w1 ⟨w.heap.size, 0, none⟩ = some (.int .i64 3) := by rw [Blk.cell hbx]; rfl
  have c10 : World.cell? w1 ⟨L.b, 10, none⟩ = some (.bool s.closed) := by rw [Blk.cell hst.blk]; rfl
  have y10 := Blk.free hst.blk 10
  clear hb hbx hst
  go_wp2_with fail
  go_ret
  refine ⟨rfl, L, HST.out.close, rfl, fun c hc => .inl hc, ?_⟩
  exact (Frm.ofBelow HB.out).trans (by (repeat' (first | with_reducible exact Frm.refl _ _ | with_reducible refine Frm.drewN ?_ _ | with_reducible refine Frm.drew ?_ | with_reducible refine Frm.setCell ?_ (by first | exact Or.inl rfl | exact Or.inr (Nat.le_refl _) | (simp; done) | (simp; omega)) _ | with_reducible refine Frm.alloc ?_ _ | exact Frm.refl _ _)) : Frm (fun c => c = L.b) w1 _) (fun i _ h => .inl h)

end Go.Proofs.Ytedcdjlpogpgbaa

/- Layer 15: Apply of whatever record: what it answers and what the state then is. -/
set_option linter.unusedVariables false
set_option linter.unusedSimpArgs false
namespace Go.Proofs.Ytedcdjlpogpgbaa
open Go.RowKit

/-- What Check answers. -/
def checkN (s : St) (r : RecD) : Int :=
  if r.kind = 1 then checkW s r.x else if r.kind = 2 then (if rightB (s.table ++ [r.e]) = true then 0 else 1) else if r.kind = 3 then closeE s r.cfg
  else if r.kind = 4 then installE s r.d.pos r.d.ps r.d.ss else if r.kind = 5 then compactE s else 1
/-- What the state then is. -/
def applyF (s : St) (r : RecD) : St :=
  if checkN s r ≠ 0 then s else if r.kind = 1 then wroteF s r.x else if r.kind = 2 then adoptF s r.e else if r.kind = 3 then closeF s else if r.kind = 4 then installF s r.d.pos r.d.ps r.d.ss else compactF s

theorem Check_any (L : Lay) (s : St) (r : RecD) (pv sv : Value) (w : World) (h : StAt w L s) (hok : Ok s) (hp : SlAt w pv r.d.ps.length (pairsCells r.d.ps)) (hs : SlAt w sv r.d.ss.length (snsCells r.d.ss)) :
    Calls Try.prog 41 #[.pointer (some ⟨L.b, 0, none⟩), .agg (recVal r.kind r.x r.e r.cfg r.d.pos pv sv)] w (IntRes (checkN s r) w) := by
  obtain ⟨A, ca, hpv, _⟩ := id hp
  obtain ⟨B, cb, hsv, _⟩ := id hs
  unfold checkN
  by_cases h1 : r.kind = 1
  · rw [if_pos h1, h1, hpv, hsv]; exact Check_write_all L s r.x r.e r.cfg r.d.pos _ _ _ _ _ _ w h hok
  rw [if_neg h1]
  by_cases h2 : r.kind = 2
  · rw [if_pos h2, h2, hpv, hsv]; exact Check_adopt L s r.x r.e r.cfg r.d.pos _ _ _ _ _ _ w h hok
  rw [if_neg h2]
  by_cases h3 : r.kind = 3
  · rw [if_pos h3, h3, hpv, hsv]; exact Check_close L s r.x r.e r.cfg r.d.pos _ _ _ _ _ _ w h
  rw [if_neg h3]
  by_cases h4 : r.kind = 4
  · rw [if_pos h4, h4]; exact Check_install L s r.x r.e r.cfg r.d.pos _ _ _ _ w h hp hs
  rw [if_neg h4]
  by_cases h5 : r.kind = 5
  · rw [if_pos h5, h5, hpv, hsv]; exact Check_compact L s r.x r.e r.cfg r.d.pos _ _ _ _ _ _ w h
  · rw [if_neg h5]; exact Check_none L s r.kind r.x r.e r.cfg r.d.pos pv sv w h ⟨h1, h2, h3, h4, h5⟩

theorem Apply_any (L : Lay) (s : St) (r : RecD) (pv sv : Value) (w : World) (h : StAt w L s) (hok : Ok s) (hp : SlAt w pv r.d.ps.length (pairsCells r.d.ps)) (hs : SlAt w sv r.d.ss.length (snsCells r.d.ss))
    (hlp : r.d.ps.length ≤ 1000000) (hls : r.d.ss.length ≤ 1000000) (hkl : s.keys.length ≤ 1000000000) (hsl : s.seen.length ≤ 16) :
    Calls Try.prog 13 #[.pointer (some ⟨L.b, 0, none⟩), .agg (recVal r.kind r.x r.e r.cfg r.d.pos pv sv)] w (ApplyRes L (checkN s r) (applyF s r) w) := by
  by_cases hn : checkN s r = 0
  · have hE : applyF s r = if r.kind = 1 then wroteF s r.x else if r.kind = 2 then adoptF s r.e else if r.kind = 3 then closeF s else if r.kind = 4 then installF s r.d.pos r.d.ps r.d.ss else compactF s := by
      unfold applyF; rw [if_neg (by simp [hn])]
    rw [hE, hn]
    have hn' := hn
    unfold checkN at hn'
    have hen : s.ents.length ≤ 1000 := by have := hok.at_; have := hok.low; have := hok.high; omega
    have hpos := hok.pos0
    by_cases h1 : r.kind = 1
    · obtain ⟨A, ca, hpv, _⟩ := id hp
      obtain ⟨B, cb, hsv, _⟩ := id hs
      rw [if_pos h1] at hn' ⊢
      rw [h1, hpv, hsv]
      refine Apply_write_yes L s r.x r.e r.cfg r.d.pos _ _ _ _ _ _ w h hok ?_ hn' hen
      unfold checkW at hn'
      have : r.x.pos.i = s.pos.i + 1 := by
        by_cases hg : r.x.pos.i = s.pos.i + 1
        · exact hg
        · rw [if_pos hg] at hn'; split at hn' <;> simp at hn'
      unfold Small; omega
    rw [if_neg h1] at hn' ⊢
    by_cases h2 : r.kind = 2
    · obtain ⟨A, ca, hpv, _⟩ := id hp
      obtain ⟨B, cb, hsv, _⟩ := id hs
      rw [if_pos h2] at hn' ⊢
      rw [h2, hpv, hsv]
      refine Apply_adopt_yes L s r.x r.e r.cfg r.d.pos _ _ _ _ _ _ w h hok ?_
      by_cases hr : rightB (s.table ++ [r.e]) = true
      · exact hr
      · rw [if_neg hr] at hn'; simp at hn'
    rw [if_neg h2] at hn' ⊢
    by_cases h3 : r.kind = 3
    · obtain ⟨A, ca, hpv, _⟩ := id hp
      obtain ⟨B, cb, hsv, _⟩ := id hs
      rw [if_pos h3] at hn' ⊢
      rw [h3, hpv, hsv]
      refine Apply_close_yes L s r.x r.e r.cfg r.d.pos _ _ _ _ _ _ w h ?_
      unfold closeE at hn'
      by_cases hc : r.cfg = s.table.length
      · exact hc
      · rw [if_neg hc] at hn'; simp at hn'
    rw [if_neg h3] at hn' ⊢
    by_cases h4 : r.kind = 4
    · rw [if_pos h4] at hn' ⊢
      rw [h4]
      exact Apply_install_yes L s r.x r.e r.cfg r.d.pos pv sv r.d.ps r.d.ss w h hp hs hn' hlp hls
    rw [if_neg h4] at hn' ⊢
    by_cases h5 : r.kind = 5
    · obtain ⟨A, ca, hpv, _⟩ := id hp
      obtain ⟨B, cb, hsv, _⟩ := id hs
      rw [if_pos h5] at hn'
      rw [h5, hpv, hsv]
      refine Apply_compact_yes L s r.x r.e r.cfg r.d.pos _ _ _ _ _ _ w h ?_ hkl hsl
      unfold compactE at hn'
      cases hc : s.closed with
      | false => rfl
      | true => rw [if_pos hc] at hn'; simp at hn'
    · rw [if_neg h5] at hn'; simp at hn'
  · have hE : applyF s r = s := by unfold applyF; rw [if_pos hn]
    rw [hE]
    exact Apply_refused L s r.kind r.x r.e r.cfg r.d.pos pv sv _ w h hn (fun W hW => Check_any L s r pv sv W (h.below hW) hok (hp.below hW) (hs.below hW))

theorem apply_live {F : Nat → Prop} {b : Nat} {s : St} (r : RecD) (pv sv : Value) (w : World) (h : Live F w b s) (hF : ∀ c, F c → c < w.heap.size) (hok : Ok s) (hp : SlAt w pv r.d.ps.length (pairsCells r.d.ps)) (hs : SlAt w sv r.d.ss.length (snsCells r.d.ss))
    (hlp : r.d.ps.length ≤ 1000000) (hls : r.d.ss.length ≤ 1000000) (hkl : s.keys.length ≤ 1000000000) (hsl : s.seen.length ≤ 16) :
    Calls Try.prog 13 #[.pointer (some ⟨b, 0, none⟩), .agg (recVal r.kind r.x r.e r.cfg r.d.pos pv sv)] w (LiveRes F b (checkN s r) (applyF s r) w) := by
  obtain ⟨L, rfl, h2, h3⟩ := h
  refine (Apply_any L s r pv sv w h2 hok hp hs hlp hls hkl hsl).mono fun e w' hr => ?_
  obtain ⟨hr, L', hm⟩ := hr
  exact ⟨hr, hm.live h3 hF⟩
theorem snapshot_live {F : Nat → Prop} {b : Nat} {s : St} {w : World} (h : Live F w b s) (hk : s.keys.length ≤ 1000000000) (hs : s.seen.length ≤ 1000) : Calls Try.prog 22 #[.pointer (some ⟨b, 0, none⟩)] w (ToldRes s.pos s.keys (sortS s.seen) w) := by
  obtain ⟨L, rfl, h2, h3⟩ := h; exact Snapshot_any L s w h2 hk hs
theorem table_live {F : Nat → Prop} {b : Nat} {s : St} {w : World} (h : Live F w b s) (hl : s.table.length ≤ 1000) : Calls Try.prog 26 #[.pointer (some ⟨b, 0, none⟩)] w (TableRes s.table w) := by
  obtain ⟨L, rfl, h2, h3⟩ := h; exact Table_any L s w h2 hl
theorem closed_live {F : Nat → Prop} {b : Nat} {s : St} {w : World} (h : Live F w b s) : Calls Try.prog 24 #[.pointer (some ⟨b, 0, none⟩)] w fun e w' => e = .returned (.bool s.closed) ∧ Below w.heap.size w w' := by
  obtain ⟨L, rfl, h2, h3⟩ := h; exact Closed_any L s w h2
theorem base_liveG {F : Nat → Prop} {b : Nat} {s : St} {w : World} (h : Live F w b s) : Calls Try.prog 29 #[.pointer (some ⟨b, 0, none⟩)] w fun e w' => e = .returned (.agg (posCells s.base.pos)) ∧ Below w.heap.size w w' := by
  obtain ⟨L, rfl, h2, h3⟩ := h; exact Base_any L s w h2

end Go.Proofs.Ytedcdjlpogpgbaa
