/- Layer 19: Plan where it asks, stops, or goes on (not: Parts). -/
import Derived.Test.YtedcdjlpogpgbaaWire
import Derived.Test.YtedcdjlpogpgbaaSame
import Derived.Test.YtedcdjlpogpgbaaLogPlain
set_option linter.unusedVariables false
set_option linter.unusedSimpArgs false
namespace Go.Proofs.Ytedcdjlpogpgbaa
open Go.RowKit

attribute [local go_sem high] fld_index run_storeMsg_lit run_storeMsg_litd run_boxMsg
attribute [local go_sem ↓] storeMsg_eq loadMsg_eq boxMsg_eq
def planE (S : Shp) (s : St) (n : Int) : Option (List Ent) :=
  if otherB S.me n = false then none else if (knownF S n s.table.length).is = false then some [] else if s.pos.i ≤ (knownF S n s.table.length).p.i then none else some (someE s ((knownF S n s.table.length).p.i + 1) 8)
def PlanRes (r : Option (List Ent)) (me cfg : Int) (w : World) (e : Ending) (w' : World) : Prop :=
  ∃ v, e = .returned v ∧ Below w.heap.size w w' ∧ match r with
    | none => v = .slice none 0 0
    | some l => ∃ pb ev, v = .slice (some ⟨pb, 0, none⟩) 1 1 ∧ w.heap.size ≤ pb ∧ Blk w' pb (msgVal 1 me cfg ev) 74 ∧ SlAt w' ev l.length (entsCells l)

set_option maxRecDepth 100000 in
set_option maxHeartbeats 4000000 in
theorem Plan_any {F : Nat → Prop} (b sb : Nat) (S : Shp) (s : St) (n : Int) (w : World) (h : ShipAt w b S) (hl : Live F w sb s) (hok : Ok s) (ht : 0 < s.table.length) (hm : (ep s.table (s.table.length - 1)).m = S.me) (ht1 : s.table.length ≤ 1000)
    (hnp : (knownF S n s.table.length).is = true → s.base.pos.i ≤ (knownF S n s.table.length).p.i ∨ s.pos.i ≤ (knownF S n s.table.length).p.i) (hb9 : (knownF S n s.table.length).p.i ≤ 9007199254740992 ∧ -1000000 ≤ (knownF S n s.table.length).p.i) :
    Calls Try.prog 39 #[.pointer (some ⟨b, 0, none⟩), .pointer (some ⟨sb, 0, none⟩), .int .i64 n] w (PlanRes (planE S s n) S.me s.table.length w) := by
  have hbl := Blk.lt h
  obtain ⟨r, hr⟩ : ∃ r, planE S s n = r := ⟨_, rfl⟩
  obtain ⟨x, hx⟩ : ∃ x, knownF S n s.table.length = x := ⟨_, rfl⟩
  obtain ⟨o, ho⟩ : ∃ o, otherB S.me n = o := ⟨_, rfl⟩
  obtain ⟨tl, htl⟩ : ∃ tl : Int, (s.table.length : Int) = tl := ⟨_, rfl⟩
  rw [hr]
  unfold planE at hr
  rw [ho] at hr
  rw [hx] at hr hnp hb9
  have HR := Lib.hid hr
  have HNP := Lib.hid hnp
  have hM : ∀ W, Below w.heap.size w W → Calls Try.prog 16 #[.pointer (some ⟨sb, 0, none⟩)] W fun e W' => e = .returned (.int .i64 S.me) ∧ ∃ n, W' = W.drewN n := fun W hW => by have := master_drew (hl.below hW) ht ht1; rwa [hm] at this
  have hC : ∀ W, Below w.heap.size w W → Calls Try.prog 17 #[.pointer (some ⟨sb, 0, none⟩)] W fun e W' => e = .returned (.int .i64 tl) ∧ W = W' := fun W hW => by have := config_same (hl.below hW); rwa [htl] at this
  have hO : ∀ W, Below w.heap.size w W → Calls Try.prog 58 #[.pointer (some ⟨b, 0, none⟩), .int .i64 n] W fun e W' => e = .returned (.bool o) ∧ W = W' := fun W hW => by have := other_same b S n W (Blk.below h hW); rwa [ho] at this
  have hK : ∀ W, Below w.heap.size w W → Calls Try.prog 59 #[.pointer (some ⟨b, 0, none⟩), .int .i64 n, .int .i64 tl] W fun e W' => e = .returned (.tuple #[.agg #[.int .i64 x.p.e, .int .i64 x.p.i], .bool x.is]) ∧ Below W.heap.size W W' := fun W hW => by have := Known_any b S n tl W (Blk.below h hW); rw [← htl, hx] at this; rw [← htl]; exact this
  have hL : ∀ W, Below w.heap.size w W → Calls Try.prog 15 #[.pointer (some ⟨sb, 0, none⟩)] W fun e W' => e = .returned (.agg #[.int .i64 s.pos.e, .int .i64 s.pos.i]) ∧ Below W.heap.size W W' := fun W hW => last_live (hl.below hW)
  have hB : ∀ W, Below w.heap.size w W → Calls Try.prog 29 #[.pointer (some ⟨sb, 0, none⟩)] W fun e W' => e = .returned (.agg #[.int .i64 s.base.pos.e, .int .i64 s.base.pos.i]) ∧ Below W.heap.size W W' := fun W hW => base_live (hl.below hW)
  have hE : ∀ W, Below w.heap.size w W → Calls Try.prog 27 #[.pointer (some ⟨sb, 0, none⟩), .int .i64 (x.p.i + 1), .int .i64 8] W (EntriesRes s (x.p.i + 1) 8 W) := fun W hW => entries_live (x.p.i + 1) 8 (hl.below hW) hok
  have HS := Lib.hid h
  have HM := Lib.hid hM
  have HC := Lib.hid hC
  have HO := Lib.hid hO
  have HK := Lib.hid hK
  have HL := Lib.hid hL
  have HB := Lib.hid hB
  have HE := Lib.hid hE
  have HX := Lib.hid hb9
  rw [htl]
  clear hr h hM hC hO hK hL hB hE hx ho hb9 hnp htl hl hok ht hm ht1
  have c0 : World.cell? w ⟨b, 0, none⟩ = some (.int .i64 S.me) := by rw [HS.out.cell]; rfl
  have e0 : (S.me != S.me) = false := by simp
  go_enter Try.func39, Try.ntmps39
  go_upto_region 1 with (fail)
  cases o with
  | false =>
    obtain rfl : none = r := by have := HR.out; rwa [if_pos rfl] at this
    go_quiet (first | (go_at_call 16; exact Calls.quiet_of (HM.out _ (by (repeat' (first | with_reducible exact Below.refl _ _ | with_reducible refine below_drewN ?_ _ | with_reducible refine Below.drew ?_ | with_reducible refine Below.setCell ?_ (by first | exact Nat.le_refl _ | (simp; done) | (simp; omega) | omega) _ | with_reducible refine Below.alloc ?_ (by first | exact Nat.le_refl _ | (simp; done) | (simp; omega) | omega) _ | exact Below.refl _ _))))) | (go_at_call 58; exact Calls.quiet_of_same ((HO.out _ (by (repeat' (first | with_reducible exact Below.refl _ _ | with_reducible refine below_drewN ?_ _ | with_reducible refine Below.drew ?_ | with_reducible refine Below.setCell ?_ (by first | exact Nat.le_refl _ | (simp; done) | (simp; omega) | omega) _ | with_reducible refine Below.alloc ?_ (by first | exact Nat.le_refl _ | (simp; done) | (simp; omega) | omega) _ | exact Below.refl _ _)))).mono fun _ _ h => ⟨h.1, h.2.symm⟩)))
    go_wp2_with fail
    go_ret
    exact ⟨_, rfl, by (repeat' (first | with_reducible exact Below.refl _ _ | with_reducible refine below_drewN ?_ _ | with_reducible refine Below.drew ?_ | with_reducible refine Below.setCell ?_ (by first | exact Nat.le_refl _ | (simp; done) | (simp; omega) | omega) _ | with_reducible refine Below.alloc ?_ (by first | exact Nat.le_refl _ | (simp; done) | (simp; omega) | omega) _ | exact Below.refl _ _)), rfl⟩
  | true =>
    go_quiet (first | (go_at_call 16; exact Calls.quiet_of (HM.out _ (by (repeat' (first | with_reducible exact Below.refl _ _ | with_reducible refine below_drewN ?_ _ | with_reducible refine Below.drew ?_ | with_reducible refine Below.setCell ?_ (by first | exact Nat.le_refl _ | (simp; done) | (simp; omega) | omega) _ | with_reducible refine Below.alloc ?_ (by first | exact Nat.le_refl _ | (simp; done) | (simp; omega) | omega) _ | exact Below.refl _ _))))) | (go_at_call 58; exact Calls.quiet_of_same ((HO.out _ (by (repeat' (first | with_reducible exact Below.refl _ _ | with_reducible refine below_drewN ?_ _ | with_reducible refine Below.drew ?_ | with_reducible refine Below.setCell ?_ (by first | exact Nat.le_refl _ | (simp; done) | (simp; omega) | omega) _ | with_reducible refine Below.alloc ?_ (by first | exact Nat.le_refl _ | (simp; done) | (simp; omega) | omega) _ | exact Below.refl _ _)))).mono fun _ _ h => ⟨h.1, h.2.symm⟩)))
    go_upto_region 3 with (fail)
    refine wp_name ?_
    intro w1 hw1
    have hb1 : Below w.heap.size w w1 := by rw [hw1]; (repeat' (first | with_reducible exact Below.refl _ _ | with_reducible refine below_drewN ?_ _ | with_reducible refine Below.drew ?_ | with_reducible refine Below.setCell ?_ (by first | exact Nat.le_refl _ | (simp; done) | (simp; omega) | omega) _ | with_reducible refine Below.alloc ?_ (by first | exact Nat.le_refl _ | (simp; done) | (simp; omega) | omega) _ | exact Below.refl _ _))
    have HB1 := Lib.hid hb1
    have c0 : World.cell? w1 ⟨b, 0, none⟩ = some (.int .i64 S.me) := by rw [hb1.cell (p := ⟨b, 0, none⟩) hbl, HS.out.cell]; rfl
    have hs1 := hb1.size
    have hbl1 : b < w1.heap.size := by omega
    have hnb : b ≠ w1.heap.size := by omega
    have hnb' : w1.heap.size ≠ b := by omega
    clear hw1 hb1
    go_region_held3 (fun W => W.cell? ⟨b, 0, none⟩ = some (.int .i64 S.me)) (first | go_keep) ((go_at_call 17; refine (HC.out _ (by (repeat' (first | with_reducible exact HB1.out | with_reducible exact Below.refl _ _ | with_reducible refine below_drewN ?_ _ | with_reducible refine Below.drew ?_ | with_reducible refine Below.setCell ?_ (by first | exact Nat.le_refl _ | (simp; done) | (simp; omega) | omega) _ | with_reducible refine Below.alloc ?_ (by first | exact Nat.le_refl _ | (simp; done) | (simp; omega) | omega) _ | exact Below.refl _ _ | exact HB1.out)))).mono ?_; rintro e W ⟨rfl, rfl⟩))
    all_goals
      go_upto_region 4 with (fail)
      refine wp_name ?_
      intro w2 hw2
      have hm2 : Blk w2 w1.heap.size (msgVal 1 S.me tl (.slice none 0 0)) 74 := by rw [hw2]; unfold msgVal; ((repeat' (first | with_reducible exact Blk.new _ _ _ | with_reducible apply Blk.drewN | with_reducible apply Blk.drew | with_reducible apply Blk.set' | (with_reducible apply Blk.set_other (hp := by first | assumption | (simp; done) | (simp; omega) | omega)) | (with_reducible apply Blk.new'; focus (first | (simp; done) | (simp; omega))) | with_reducible apply Blk.alloc)) <;> rfl)
      have hb2 : Below w.heap.size w w2 := by rw [hw2]; (repeat' (first | with_reducible exact HB1.out | with_reducible exact Below.refl _ _ | with_reducible refine below_drewN ?_ _ | with_reducible refine Below.drew ?_ | with_reducible refine Below.setCell ?_ (by first | exact Nat.le_refl _ | (simp; done) | (simp; omega) | omega) _ | with_reducible refine Below.alloc ?_ (by first | exact Nat.le_refl _ | (simp; done) | (simp; omega) | omega) _ | exact Below.refl _ _ | exact HB1.out))
      have hs2 := hb2.size
      have HM2 := Lib.hid hm2
      have HB2 := Lib.hid hb2
      clear hw2 hm2 hb2 c0
      have c0 : World.cell? w2 ⟨b, 0, none⟩ = some (.int .i64 S.me) := by rw [HB2.out.cell (p := ⟨b, 0, none⟩) hbl, HS.out.cell]; rfl
      go_wp2_with fail
      refine (HC.out _ HB2.out).mono ?_
      rintro e W ⟨rfl, rfl⟩
      go_wp2_with fail
      refine (HK.out _ HB2.out).mono ?_
      rintro e w3 ⟨rfl, hb3⟩
      have hm3 := HM2.out.below hb3
      have hml := hm3.lt
      have hb3' := HB2.out.trans (hb3.mono hs2)
      have hs3 := hb3'.size
      have HM3 := Lib.hid hm3
      have HB3 := Lib.hid hb3'
      clear hb3 hm3 hb3' c0
      obtain ⟨xi, hxi⟩ : ∃ xi, x.is = xi := ⟨_, rfl⟩
      rw [hxi]
      have HXI := Lib.hid hxi
      clear hxi
      cases xi with
      | false =>
        have hld := run_loadMsg (HM3.out.alloc (.cells #[.int .i64 x.p.e, .int .i64 x.p.i] 33)) rfl
        unfold msgVal at hld
        go_wp2_with fail
        go_ret
        obtain rfl : some [] = r := by have := HR.out; rwa [if_neg (by simp), if_pos HXI.out] at this
        refine ⟨_, rfl, by (repeat' (first | with_reducible exact HB3.out | with_reducible exact Below.refl _ _ | with_reducible refine below_drewN ?_ _ | with_reducible refine Below.drew ?_ | with_reducible refine Below.setCell ?_ (by first | exact Nat.le_refl _ | (simp; done) | (simp; omega) | omega) _ | with_reducible refine Below.alloc ?_ (by first | exact Nat.le_refl _ | (simp; done) | (simp; omega) | omega) _ | exact Below.refl _ _ | exact HB3.out)), _, _, rfl, ?_, ?_, sl_nil _⟩
        · omega
        · unfold msgVal; ((repeat' (first | with_reducible exact Blk.new _ _ _ | with_reducible apply Blk.drewN | with_reducible apply Blk.drew | with_reducible apply Blk.set' | (with_reducible apply Blk.set_other (hp := by first | assumption | (simp; done) | (simp; omega) | omega)) | (with_reducible apply Blk.new'; focus (first | (simp; done) | (simp; omega))) | with_reducible apply Blk.alloc)) <;> rfl)
      | true =>
        go_upto_region 7 with (fail)
        refine wp_name ?_
        intro w4 hw4
        have hp4 : Blk w4 w3.heap.size #[.int .i64 x.p.e, .int .i64 x.p.i] 33 := by rw [hw4]; ((repeat' (first | with_reducible exact Blk.new _ _ _ | with_reducible apply Blk.drewN | with_reducible apply Blk.drew | with_reducible apply Blk.set' | (with_reducible apply Blk.set_other (hp := by first | assumption | (simp; done) | (simp; omega) | omega)) | (with_reducible apply Blk.new'; focus (first | (simp; done) | (simp; omega))) | with_reducible apply Blk.alloc)) <;> rfl)
        have hm4 : Blk w4 w1.heap.size (msgVal 1 S.me tl (.slice none 0 0)) 74 := by rw [hw4]; ((repeat' (first | with_reducible exact HM3.out | with_reducible exact Blk.new _ _ _ | with_reducible apply Blk.drewN | with_reducible apply Blk.drew | with_reducible apply Blk.set' | (with_reducible apply Blk.set_other (hp := by first | assumption | (simp; done) | (simp; omega) | omega)) | (with_reducible apply Blk.new'; focus (first | (simp; done) | (simp; omega))) | with_reducible apply Blk.alloc | exact HM3.out)) <;> rfl)
        have hb4 : Below w.heap.size w w4 := by rw [hw4]; (repeat' (first | with_reducible exact HB3.out | with_reducible exact Below.refl _ _ | with_reducible refine below_drewN ?_ _ | with_reducible refine Below.drew ?_ | with_reducible refine Below.setCell ?_ (by first | exact Nat.le_refl _ | (simp; done) | (simp; omega) | omega) _ | with_reducible refine Below.alloc ?_ (by first | exact Nat.le_refl _ | (simp; done) | (simp; omega) | omega) _ | exact Below.refl _ _ | exact HB3.out))
        have hs4 := hb4.size
        have p41 : w4.cell? ⟨w3.heap.size, 1, none⟩ = some (.int .i64 x.p.i) := by rw [hp4.cell]; rfl
        have hpl4 := hp4.lt
        have HP4 := Lib.hid hp4
        have HM4 := Lib.hid hm4
        have HB4 := Lib.hid hb4
        have HL4 := Lib.hid (HL.out w4.drew HB4.out.drew)
        clear hw4 hp4 hm4 hb4
        by_cases hge : s.pos.i ≤ x.p.i
        · have e7 : decide (s.pos.i ≤ x.p.i) = true := decide_eq_true hge
          obtain rfl : none = r := by have := HR.out; rwa [if_neg (by simp), if_neg (by rw [HXI.out]; simp), if_pos hge] at this
          go_region_held3 (fun W => W.cell? ⟨w3.heap.size, 1, none⟩ = some (.int .i64 x.p.i)) (first | go_keep)
            (first
            | (go_at_call 15; refine HL4.out.mono ?_; rintro e w5 ⟨rfl, hb5⟩; (have hp5 := HP4.out.drew.below hb5); (have hm5 := HM4.out.drew.below hb5); (have hb5' := HB4.out.drew.trans (hb5.mono hs4)); (have p51 : w5.cell? ⟨w3.heap.size, 1, none⟩ = some (.int .i64 x.p.i) := by rw [hp5.cell]; rfl); (have hpl5 := hp5.lt); (have hs5 := hb5'.size); (have HP5 := Lib.hid hp5); (have HM5 := Lib.hid hm5); (have HB5 := Lib.hid hb5'); clear hb5 hp5 hm5 hb5'))
          go_wp2_with fail
          go_ret
          exact ⟨_, rfl, by (repeat' (first | with_reducible exact HB5.out | with_reducible exact Below.refl _ _ | with_reducible refine below_drewN ?_ _ | with_reducible refine Below.drew ?_ | with_reducible refine Below.setCell ?_ (by first | exact Nat.le_refl _ | (simp; done) | (simp; omega) | omega) _ | with_reducible refine Below.alloc ?_ (by first | exact Nat.le_refl _ | (simp; done) | (simp; omega) | omega) _ | exact Below.refl _ _ | exact HB5.out)), rfl⟩
        · have e7 : decide (s.pos.i ≤ x.p.i) = false := decide_eq_false hge
          obtain ⟨l, hl⟩ : ∃ l, someE s (x.p.i + 1) 8 = l := ⟨_, rfl⟩
          obtain rfl : some l = r := by have := HR.out; rwa [if_neg (by simp), if_neg (by rw [HXI.out]; simp), if_neg hge, hl] at this
          have HLE := Lib.hid hl
          have hbase : s.base.pos.i ≤ x.p.i := by
            rcases HNP.out HXI.out with h | h
            · exact h
            · exact absurd h hge
          have e9 : decide (x.p.i < s.base.pos.i) = false := decide_eq_false (by omega)
          have x1 := HX.out.1
          have x2 := HX.out.2
          clear hl hge hbase
          go_region_held3 (fun W => W.cell? ⟨w3.heap.size, 1, none⟩ = some (.int .i64 x.p.i)) (first | go_keep)
            (first
            | (go_at_call 15; refine HL4.out.mono ?_; rintro e w5 ⟨rfl, hb5⟩; (have hp5 := HP4.out.drew.below hb5); (have hm5 := HM4.out.drew.below hb5); (have hb5' := HB4.out.drew.trans (hb5.mono hs4)); (have p51 : w5.cell? ⟨w3.heap.size, 1, none⟩ = some (.int .i64 x.p.i) := by rw [hp5.cell]; rfl); (have hpl5 := hp5.lt); (have hs5 := hb5'.size); (have HP5 := Lib.hid hp5); (have HM5 := Lib.hid hm5); (have HB5 := Lib.hid hb5'); clear hb5 hp5 hm5 hb5'))
          have HBL5 := Lib.hid (HB.out w5.drew HB5.out.drew)
          go_upto_region 9 with (fail)
          go_region_held3 (fun W => W.cell? ⟨w3.heap.size, 1, none⟩ = some (.int .i64 x.p.i)) (first | go_keep)
            (first
            | (go_at_call 29; refine HBL5.out.mono ?_; rintro e w6 ⟨rfl, hb6⟩; (have hp6 := HP5.out.drew.below hb6); (have hm6 := HM5.out.drew.below hb6); (have hb6' := HB5.out.drew.trans (hb6.mono hs5)); (have p61 : w6.cell? ⟨w3.heap.size, 1, none⟩ = some (.int .i64 x.p.i) := by rw [hp6.cell]; rfl); (have hpl6 := hp6.lt); (have hs6 := hb6'.size); (have HP6 := Lib.hid hp6); (have HM6 := Lib.hid hm6); (have HB6 := Lib.hid hb6'); clear hb6 hp6 hm6 hb6'))
          go_wp2_with fail
          refine (HE.out _ HB6.out).mono ?_
          rintro e w7 ⟨v, rfl, hv1, hv2, hb7⟩
          have hlr := HLE.out
          rw [hlr] at hv1
          obtain ⟨A, c, hv, _⟩ := own_sl hv1
          subst hv
          have HV1 := Lib.hid hv1
          have HV2 := Lib.hid hv2
          have hm7 := HM6.out.below hb7
          have hb7' := HB6.out.trans (hb7.mono hs6)
          have c3 : w7.cell? ⟨w1.heap.size, 3, none⟩ = some (.slice none 0 0) := by rw [hm7.cell]; rfl
          have f3 := hm7.free 3
          have hml7 := hm7.lt
          have hs7 := hb7'.size
          have HM7 := Lib.hid hm7
          have HB7 := Lib.hid hb7'
          have hld := run_loadMsg (HM7.out.set' (i := 3) (u := .slice A l.length c) (cs' := msgVal 1 S.me tl (.slice A l.length c)) rfl) rfl
          unfold msgVal at hld
          clear hlr hv1 hv2 hm7 hb7 hb7'
          go_wp2_with fail
          go_ret
          refine ⟨_, rfl, by (repeat' (first | with_reducible exact HB7.out | with_reducible exact Below.refl _ _ | with_reducible refine below_drewN ?_ _ | with_reducible refine Below.drew ?_ | with_reducible refine Below.setCell ?_ (by first | exact Nat.le_refl _ | (simp; done) | (simp; omega) | omega) _ | with_reducible refine Below.alloc ?_ (by first | exact Nat.le_refl _ | (simp; done) | (simp; omega) | omega) _ | exact Below.refl _ _ | exact HB7.out)), _, Value.slice A l.length c, rfl, ?_, ?_, ?_⟩
          · omega
          · unfold msgVal; ((repeat' (first | with_reducible exact Blk.new _ _ _ | with_reducible apply Blk.drewN | with_reducible apply Blk.drew | with_reducible apply Blk.set' | (with_reducible apply Blk.set_other (hp := by first | assumption | (simp; done) | (simp; omega) | omega)) | (with_reducible apply Blk.new'; focus (first | (simp; done) | (simp; omega))) | with_reducible apply Blk.alloc)) <;> rfl)
          · refine own_sl (own_frm HV1.out (F := fun c => c = w1.heap.size) (by (repeat' (first | with_reducible exact Frm.refl _ _ | with_reducible refine Frm.drewN ?_ _ | with_reducible refine Frm.drew ?_ | with_reducible refine Frm.setCell ?_ (by first | exact Or.inl rfl | exact Or.inr (Nat.le_refl _) | (simp; done) | (simp; omega)) _ | with_reducible refine Frm.alloc ?_ _ | exact Frm.refl _ _))) (fun c hc e => ?_))
            have h1 := HV2.out c hc
            have h2 := HM6.out.lt
            omega

end Go.Proofs.Ytedcdjlpogpgbaa
