/- Layer 19's awake: nothing is known, then all is. -/
import Derived.Test.YtedcdjlpogpgbaaGoes
set_option linter.unusedVariables false
set_option linter.unusedSimpArgs false
namespace Go.Proofs.Ytedcdjlpogpgbaa
open Go.RowKit

set_option maxRecDepth 100000 in
set_option maxHeartbeats 4000000 in
theorem one19_any (w : World) : Calls Try.prog 55 #[] w fun e w' => ∃ v, e = .returned v ∧ SlAt w' v oneT.length (epsCells oneT) ∧ Below w.heap.size w w' := by
  go_enter Try.func55, Try.ntmps55
  go_wp2_with fail
  go_ret
  exact ⟨_, rfl, sl_one (cs := epVal ⟨1, 0, false⟩) (T := 29) (by ((repeat' (first | with_reducible exact Blk.new _ _ _ | with_reducible apply Blk.drewN | with_reducible apply Blk.drew | with_reducible apply Blk.set' | (with_reducible apply Blk.set_other (hp := by first | assumption | (simp; done) | (simp; omega) | omega)) | (with_reducible apply Blk.new'; focus (first | (simp; done) | (simp; omega))) | with_reducible apply Blk.alloc)) <;> rfl)), by (repeat' (first | with_reducible exact Below.refl _ _ | with_reducible refine below_drewN ?_ _ | with_reducible refine Below.drew ?_ | with_reducible refine Below.setCell ?_ (by first | exact Nat.le_refl _ | (simp; done) | (simp; omega) | omega) _ | with_reducible refine Below.alloc ?_ (by first | exact Nat.le_refl _ | (simp; done) | (simp; omega) | omega) _ | exact Below.refl _ _))⟩

theorem plan_is {F : Nat → Prop} (b sb : Nat) (S : Shp) (E : List Ent) (n : Int) (r : Option (List Ent)) (w : World) (h : ShipAt w b S) (hl : Live F w sb (logSt E oneT)) (hok : Ok (logSt E oneT)) (hm : S.me = 1) (hr : planE S (logSt E oneT) n = r)
    (h1 : 0 ≤ (knownF S n 1).p.i) (h2 : (knownF S n 1).p.i ≤ 600) :
    Calls Try.prog 39 #[.pointer (some ⟨b, 0, none⟩), .pointer (some ⟨sb, 0, none⟩), .int .i64 n] w (PlanRes r 1 1 w) := by
  have ht : (logSt E oneT).table = oneT := by rw [logSt_eq]
  have hb : (logSt E oneT).base.pos.i = 0 := by rw [logSt_eq]; rfl
  have hc : (((logSt E oneT).table.length : Nat) : Int) = 1 := by rw [ht]; rfl
  have := Plan_any b sb S (logSt E oneT) n w h hl hok (by rw [ht]; decide) (by rw [ht, hm]; rfl) (by rw [ht]; decide) (fun _ => .inl (by rw [hb, hc]; exact h1)) (by rw [hc]; omega)
  rwa [hr, hc, hm] at this

def toldA : Shp := toldF (newShip 1) 2 1 zeroPos
def toldB : Shp := toldF toldA 2 1 ⟨1, 1⟩
theorem planA0 : planE (newShip 1) s1 2 = some [] := rfl
theorem planA1 : planE toldA s1 2 = some [aE] := rfl
theorem planA2 : planE toldB s1 2 = none := rfl

attribute [local go_sem] fld_index
set_option maxRecDepth 100000 in
set_option maxHeartbeats 8000000 in
theorem awake19_any (w : World) : Calls Try.prog 33 #[] w fun e w' => e = .returned (.bool true) ∧ Below w.heap.size w w' := by
  have hw1 : ∀ (F : Nat → Prop) (b : Nat) (W : World), Live F W b (s0) → (∀ c, F c → c < W.heap.size) → Calls Try.prog 13 #[.pointer (some ⟨b, 0, none⟩), .agg (recVal 1 aE ⟨0, 0, false⟩ 0 zeroPos (.slice none 0 0) (.slice none 0 0))] W (LiveRes F b 0 (s1) W) :=
    fun F b W h hF => write_live aE _ _ _ _ _ _ _ _ _ W h hF (ab_ok [] _ rfl (by decide) oneT_right) ⟨by decide, by decide⟩ a_check (by decide)
  unfold recVal at hw1
  simp only [aE, zeroPos] at hw1
  have HW1 := Lib.hid hw1
  clear hw1
  go_enter Try.func33, Try.ntmps33
  go_wp2_with fail
  refine (one19_any _).mono ?_
  rintro e w1 ⟨v, rfl, hv, hb1⟩
  go_wp2_with fail
  refine (new_live v oneT w1 hv oneT_right).mono ?_
  rintro e w2 ⟨b, rfl, hl, hb2⟩
  have hB2 := hb1.trans (hb2.mono hb1.size)
  have hs2 := hB2.size
  have HL : Hid (Live (fun c => c < w.heap.size) w2 b s0) := Lib.hid (hl.mono (G := fun c => c < w.heap.size) (fun c hc => Nat.lt_of_lt_of_le hc hb1.size))
  have HB := Lib.hid hB2
  clear hv hb1 hb2 hB2 hl
  go_wp2_with fail
  refine (New_ship 1 _).mono ?_
  rintro e w3 ⟨rfl, hp3, hb3⟩
  have hl3 := HL.out.box hb3
  have HP3 := Lib.hid hp3
  have HL3 := Lib.hid hl3
  have hs3 := hb3.size
  have hpl := Blk.lt hp3
  have HB3 := Lib.hid (HB.out.trans (hb3.mono hs2))
  clear hp3 hl3 hb3 HL HB
  go_wp2_with fail
  refine (HW1.out _ b _ HL3.out (fun c hc => by rcases hc with hc | hc <;> omega)).mono ?_
  rintro e w4 ⟨rfl, hl4, hf4⟩
  have HL4 := Lib.hid hl4
  have HP4 : Hid (ShipAt w4 w2.heap.size (newShip 1)) := Lib.hid (Blk.frm HP3.out hf4 (fun h => h (.inr rfl)))
  have HB4 := Lib.hid (HB3.out.trans (hf4.belowF (B := w.heap.size) (fun c hc => .inl hc) (by omega)))
  have hs4 := HB4.out.size
  clear hl4 hf4 HW1 HP3 HL3 HB3
  go_wp2_with fail
  refine (plan_is _ _ (newShip 1) [aE] 2 (some []) _ HP4.out HL4.out (ab_ok [aE] _ rfl (by decide) oneT_right) rfl planA0 (by decide) (by decide)).mono ?_
  rintro e w5 ⟨v5, rfl, hb5, pb5, ev5, rfl, hg5, hm5, hv5⟩
  obtain ⟨A5, c5, rfl, _⟩ := hv5
  have HM5 := Lib.hid hm5
  have HL5 := Lib.hid (HL4.out.below hb5)
  have HP5 : Hid (ShipAt w5 w2.heap.size (newShip 1)) := Lib.hid (Blk.below HP4.out hb5)
  have HB5 := Lib.hid (HB4.out.trans (hb5.mono hs4))
  have hs5 := HB5.out.size
  have hg5' : w2.heap.size < pb5 := by have := Blk.lt HP4.out; omega
  have hml5 := hm5.lt
  clear hm5 hb5 HL4 HP4 HB4
  go_wp2_with fail
  refine (Told_ship _ (newShip 1) 2 1 zeroPos _ HP5.out).mono ?_
  rintro e w6 ⟨rfl, hp6, hf6⟩
  rw [show toldOk (newShip 1) 2 1 = true from rfl]
  have HP6 : Hid (ShipAt w6 w2.heap.size toldA) := Lib.hid hp6
  have HL6 := Lib.hid (HL5.out.frm hf6 (fun c hc => .inr hc))
  have HM6 := Lib.hid (HM5.out.frm hf6 (by omega))
  have HB6 := Lib.hid (HB5.out.trans ⟨hf6.os, hf6.tape, hf6.output, hf6.size, fun k hk => hf6.block k (by omega) (by omega)⟩)
  have hs6 := HB6.out.size
  clear hp6 hf6 HL5 HP5 HB5 HM5
  go_wp2_with fail
  refine (plan_is _ _ toldA [aE] 2 (some [aE]) _ HP6.out HL6.out (ab_ok [aE] _ rfl (by decide) oneT_right) rfl planA1 (by decide) (by decide)).mono ?_
  rintro e w7 ⟨v7, rfl, hb7, pb7, ev7, rfl, hg7, hm7, hv7⟩
  obtain ⟨A7, c7, rfl, _⟩ := hv7
  have HM7 := Lib.hid hm7
  have HM6' := Lib.hid (HM6.out.below hb7)
  have HL7 := Lib.hid (HL6.out.below hb7)
  have HP7 : Hid (ShipAt w7 w2.heap.size toldA) := Lib.hid (Blk.below HP6.out hb7)
  have HB7 := Lib.hid (HB6.out.trans (hb7.mono hs6))
  have hs7 := HB7.out.size
  have hg7' : w2.heap.size < pb7 := by have := Blk.lt HP6.out; omega
  clear hm7 hb7 HL6 HP6 HB6 HM6
  go_wp2_with fail
  refine (Told_ship _ toldA 2 1 ⟨1, 1⟩ _ HP7.out).mono ?_
  rintro e w8 ⟨rfl, hp8, hf8⟩
  rw [show toldOk toldA 2 1 = true from rfl]
  have HP8 : Hid (ShipAt w8 w2.heap.size toldB) := Lib.hid hp8
  have HL8 := Lib.hid (HL7.out.frm hf8 (fun c hc => .inr hc))
  have hm8 := HM7.out.frm hf8 (by omega)
  have hm8' := HM6'.out.frm hf8 (by omega)
  have HB8 := Lib.hid (HB7.out.trans ⟨hf8.os, hf8.tape, hf8.output, hf8.size, fun k hk => hf8.block k (by omega) (by omega)⟩)
  have hs8 := HB8.out.size
  have a3 : w8.cell? ⟨pb5, 3, none⟩ = some (.slice A5 0 c5) := by rw [hm8'.cell]; rfl
  have b3 : w8.cell? ⟨pb7, 3, none⟩ = some (.slice A7 1 c7) := by rw [hm8.cell]; rfl
  clear hp8 hf8 HL7 HP7 HB7 HM6' HM7 hm8 hm8'
  go_wp2_with fail
  refine (plan_is _ _ toldB [aE] 2 none _ HP8.out HL8.out (ab_ok [aE] _ rfl (by decide) oneT_right) rfl planA2 (by decide) (by decide)).mono ?_
  rintro e w9 ⟨v9, rfl, hb9, rfl⟩
  have HB9 := Lib.hid (HB8.out.trans (hb9.mono hs8))
  clear hb9
  go_wp2_with fail
  go_ret
  exact ⟨rfl, HB9.out⟩

end Go.Proofs.Ytedcdjlpogpgbaa
