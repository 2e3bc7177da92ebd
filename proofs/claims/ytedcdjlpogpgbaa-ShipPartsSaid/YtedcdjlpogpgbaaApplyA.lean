/- Layer 15: Apply of an Adopt. -/
import Derived.Test.YtedcdjlpogpgbaaCheckA
import Derived.Test.YtedcdjlpogpgbaaApply
set_option linter.unusedVariables false
set_option linter.unusedSimpArgs false
namespace Go.Proofs.Ytedcdjlpogpgbaa
open Go.RowKit

set_option maxRecDepth 100000 in
set_option maxHeartbeats 8000000 in
theorem Apply_adopt_no (L : Lay) (s : St) (x : Ent) (e : Ep) (cfg : Int) (sp : Pos) (A B : Option Addr) (na ca nb cb : Nat) (w : World) (h : StAt w L s) (hok : Ok s) (hr : rightB (s.table ++ [e]) = false) :
    Calls Try.prog 13 #[.pointer (some ⟨L.b, 0, none⟩), .agg (recVal 2 x e cfg sp (.slice A na ca) (.slice B nb cb))] w (ApplyRes L 1 s w) := by
  have H := Lib.hid h
  have hc : ∀ W : World, Below w.heap.size w W → Calls Try.prog 41 #[.pointer (some ⟨L.b, 0, none⟩), .agg (recVal 2 x e cfg sp (.slice A na ca) (.slice B nb cb))] W (IntRes 1 W) := fun W hW => by
    have := Check_adopt L s x e cfg sp A B na ca nb cb W (H.out.below hW) hok
    unfold adoptE at this
    rwa [if_neg (by rw [hr]; simp)] at this
  unfold recVal at *
  have HC := Lib.hid hc
  clear h hok hr hc
  go_enter Try.func13, Try.ntmps13
  go_wp2_with fail
  refine (HC.out _ (by (repeat' (first | with_reducible exact Below.refl _ _ | with_reducible refine below_drewN ?_ _ | with_reducible refine Below.drew ?_ | with_reducible refine Below.setCell ?_ (by first | exact Nat.le_refl _ | (simp; done) | (simp; omega) | omega) _ | with_reducible refine Below.alloc ?_ (by first | exact Nat.le_refl _ | (simp; done) | (simp; omega) | omega) _ | exact Below.refl _ _)))).mono ?_
  rintro e1 w1 ⟨rfl, hb⟩
  have HB := Lib.hid ((by (repeat' (first | with_reducible exact Below.refl _ _ | with_reducible refine below_drewN ?_ _ | with_reducible refine Below.drew ?_ | with_reducible refine Below.setCell ?_ (by first | exact Nat.le_refl _ | (simp; done) | (simp; omega) | omega) _ | with_reducible refine Below.alloc ?_ (by first | exact Nat.le_refl _ | (simp; done) | (simp; omega) | omega) _ | exact Below.refl _ _)) : Below w.heap.size w _).trans (hb.mono (by simp)))
  clear hb
  go_wp2_with fail
  go_ret
  exact ⟨rfl, L, Moved.same H.out HB.out⟩

set_option maxRecDepth 100000 in
set_option maxHeartbeats 8000000 in
theorem Apply_adopt_yes (L : Lay) (s : St) (x : Ent) (e : Ep) (cfg : Int) (sp : Pos) (A B : Option Addr) (na ca nb cb : Nat) (w : World) (h : StAt w L s) (hok : Ok s) (hr : rightB (s.table ++ [e]) = true) :
    Calls Try.prog 13 #[.pointer (some ⟨L.b, 0, none⟩), .agg (recVal 2 x e cfg sp (.slice A na ca) (.slice B nb cb))] w (ApplyRes L 0 (adoptF s e) w) := by
  have H := Lib.hid h
  have hc : ∀ W : World, Below w.heap.size w W → Calls Try.prog 41 #[.pointer (some ⟨L.b, 0, none⟩), .agg (recVal 2 x e cfg sp (.slice A na ca) (.slice B nb cb))] W (IntRes 0 W) := fun W hW => by
    have := Check_adopt L s x e cfg sp A B na ca nb cb W (H.out.below hW) hok
    unfold adoptE at this
    rwa [if_pos hr] at this
  have hxc : 0 ≤ e.c ∧ e.c ≤ 512 := by
    have h2 := ((rightB_iff _).1 hr).2.2.2.2 s.table.length (by simp)
    rw [show ep (s.table ++ [e]) s.table.length = e by simp [ep]] at h2
    exact ⟨h2.2.2.1, h2.2.2.2⟩
  have had : ∀ W : World, Below w.heap.size w W → Calls Try.prog 47 #[.pointer (some ⟨L.b, 0, none⟩), .agg #[.int .i64 e.m, .int .i64 e.c, .bool e.f]] W (MovedRes L (adoptF s e) W) := fun W hW => adopt_any L s e W (H.out.below hW) hok hxc
  have hbox : ∀ W : World, Below (w.alloc (.cells (recVal 2 x e cfg sp (.slice A na ca) (.slice B nb cb)) 42)).heap.size (w.alloc (.cells (recVal 2 x e cfg sp (.slice A na ca) (.slice B nb cb)) 42)) W → Blk W w.heap.size (recVal 2 x e cfg sp (.slice A na ca) (.slice B nb cb)) 42 := fun W hW => Blk.below (Blk.new' rfl rfl) hW
  unfold recVal at *
  have HC := Lib.hid hc
  have HAD := Lib.hid had
  have HBOX := Lib.hid hbox
  clear h hok hr hc had hbox hxc
  go_enter Try.func13, Try.ntmps13
  go_wp2_with fail
  refine (HC.out _ (by (repeat' (first | with_reducible exact Below.refl _ _ | with_reducible refine below_drewN ?_ _ | with_reducible refine Below.drew ?_ | with_reducible refine Below.setCell ?_ (by first | exact Nat.le_refl _ | (simp; done) | (simp; omega) | omega) _ | with_reducible refine Below.alloc ?_ (by first | exact Nat.le_refl _ | (simp; done) | (simp; omega) | omega) _ | exact Below.refl _ _)))).mono ?_
  rintro e1 w1 ⟨rfl, hb⟩
  have hbx := HBOX.out w1 hb
  have HB := Lib.hid ((by (repeat' (first | with_reducible exact Below.refl _ _ | with_reducible refine below_drewN ?_ _ | with_reducible refine Below.drew ?_ | with_reducible refine Below.setCell ?_ (by first | exact Nat.le_refl _ | (simp; done) | (simp; omega) | omega) _ | with_reducible refine Below.alloc ?_ (by first | exact Nat.le_refl _ | (simp; done) | (simp; omega) | omega) _ | exact Below.refl _ _)) : Below w.heap.size w _).trans (hb.mono (by simp)))
  have hxl := hbx.lt
  have k0 : World.cell? w1 ⟨w.heap.size, 0, none⟩ = some (.int .i64 2) := by rw [Blk.cell hbx]; rfl
  have k8 : World.cell? w1 ⟨w.heap.size, 8, none⟩ = some (.int .i64 e.m) := by rw [Blk.cell hbx]; rfl
  have k9 : World.cell? w1 ⟨w.heap.size, 9, none⟩ = some (.int .i64 e.c) := by rw [Blk.cell hbx]; rfl
  have k10 : World.cell? w1 ⟨w.heap.size, 10, none⟩ = some (.bool e.f) := by rw [Blk.cell hbx]; rfl
  clear hb hbx
  go_wp2_with fail
  refine (HAD.out _ (by (repeat' (first | with_reducible exact HB.out | with_reducible exact Below.refl _ _ | with_reducible refine below_drewN ?_ _ | with_reducible refine Below.drew ?_ | with_reducible refine Below.setCell ?_ (by first | exact Nat.le_refl _ | (simp; done) | (simp; omega) | omega) _ | with_reducible refine Below.alloc ?_ (by first | exact Nat.le_refl _ | (simp; done) | (simp; omega) | omega) _ | exact Below.refl _ _ | exact HB.out)))).mono ?_
  rintro e2 w2 ⟨rfl, L', hmv⟩
  have HMV := Lib.hid hmv
  clear hmv
  go_wp2_with fail
  go_ret
  refine ⟨rfl, L', HMV.out.at_, HMV.out.b, fun c hc => ?_, ?_⟩
  · rcases HMV.out.foot c hc with h | h
    · exact .inl h
    · have := HB.out.size; exact .inr (by omega)
  · exact (Frm.ofBelow HB.out).trans HMV.out.frm (fun _ _ h => h)

end Go.Proofs.Ytedcdjlpogpgbaa
