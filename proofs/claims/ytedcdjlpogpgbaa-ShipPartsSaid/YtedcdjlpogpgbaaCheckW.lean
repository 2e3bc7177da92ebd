/- Layer 15: checkWrite. -/
import Derived.Test.YtedcdjlpogpgbaaEq
set_option linter.unusedVariables false
set_option linter.unusedSimpArgs false
namespace Go.Proofs.Ytedcdjlpogpgbaa
open Go.RowKit

attribute [local go_sem high] neq_pos eql_pos


set_option maxRecDepth 100000 in
set_option maxHeartbeats 8000000 in
theorem checkWrite_any (L : Lay) (s : St) (x : Ent) (w : World) (h : StAt w L s) (hp : 0 ≤ s.pos.i ∧ s.pos.i ≤ 512) (hx : -1000000000000 ≤ x.pos.i ∧ x.pos.i ≤ 1000000000000) :
    Calls Try.prog 60 #[.pointer (some ⟨L.b, 0, none⟩), .agg (entVal x)] w (IntRes (checkW s x) w) := by
  have H := Lib.hid h
  have hb := h.blk.lt
  have c1 : w.cell? ⟨L.b, 1, none⟩ = some (.int .i64 s.pos.i) := by rw [h.blk.cell]; rfl
  have c3 : w.cell? ⟨L.b, 3, none⟩ = some (.pointer (some ⟨L.sb, 0, none⟩)) := by rw [h.blk.cell]; rfl
  have c4 : w.cell? ⟨L.b, 4, none⟩ = some L.tv := by rw [h.blk.cell]; rfl
  have c10 : w.cell? ⟨L.b, 10, none⟩ = some (.bool s.closed) := by rw [h.blk.cell]; rfl
  clear h
  obtain ⟨hp1, hp2⟩ := hp
  obtain ⟨hx1, hx2⟩ := hx
  unfold entVal
  by_cases hc : s.closed = true
  · have HC := Lib.hid hc
    go_enter Try.func60, Try.ntmps60
    go_wp2_with fail
    go_ret
    exact ⟨by unfold checkW; rw [if_pos HC.out]; rfl, by (repeat' (first | with_reducible exact Below.refl _ _ | with_reducible refine below_drewN ?_ _ | with_reducible refine Below.drew ?_ | with_reducible refine Below.setCell ?_ (by first | exact Nat.le_refl _ | (simp; done) | (simp; omega) | omega) _ | with_reducible refine Below.alloc ?_ (by first | exact Nat.le_refl _ | (simp; done) | (simp; omega) | omega) _ | exact Below.refl _ _))⟩
  · have hc' : s.closed = false := by simpa using hc
    have HC := Lib.hid hc
    clear hc
    rw [hc'] at c10
    clear hc'
    by_cases hi : x.pos.i = s.pos.i + 1
    · have d1 : (x.pos.i != s.pos.i + 1) = false := by simp [hi]
      have HI := Lib.hid hi
      clear hi
      by_cases hl : 512 < x.pos.i
      · have d2 : decide (512 < x.pos.i) = true := by simpa using hl
        go_enter Try.func60, Try.ntmps60
        go_wp2_with fail
        go_quiet (fail)
        go_wp2_with fail
        go_ret
        exact ⟨by unfold checkW; rw [if_neg HC.out, if_neg (by rw [HI.out]; simp), if_pos hl]; rfl, by (repeat' (first | with_reducible exact Below.refl _ _ | with_reducible refine below_drewN ?_ _ | with_reducible refine Below.drew ?_ | with_reducible refine Below.setCell ?_ (by first | exact Nat.le_refl _ | (simp; done) | (simp; omega) | omega) _ | with_reducible refine Below.alloc ?_ (by first | exact Nat.le_refl _ | (simp; done) | (simp; omega) | omega) _ | exact Below.refl _ _))⟩
      · have d2 : decide (512 < x.pos.i) = false := by simpa using hl
        go_enter Try.func60, Try.ntmps60
        go_wp2_with fail
        go_quiet (fail)
        go_wp2_with fail
        obtain ⟨⟨pe, pi⟩, hpos⟩ : ∃ p, atB s.table x.pos.i = p := ⟨_, rfl⟩
        have HP := Lib.hid hpos
        clear hpos
        have hat : ∀ W : World, Below w.heap.size w W → Calls Try.prog 76 #[L.tv, .int .i64 x.pos.i] W fun e w' => e = .returned (.agg #[.int .i64 pe, .int .i64 pi]) ∧ Below W.heap.size W w' := by
          intro W hW
          have := At_any L.tv s.table x.pos.i W (own_sl (H.out.below hW).tab)
          rw [HP.out] at this
          exact this
        have HAT := Lib.hid hat
        clear hat
        obtain ⟨w0, hw0⟩ : ∃ w0 : World, w0 = w.alloc (.cells (entVal x) 35) := ⟨_, rfl⟩
        clear hw0 w0
        go_upto_region 7 with (fail)
        go_region_held3 (fun W => W.cell? ⟨L.b, 4, none⟩ = some L.tv ∧ W.cell? ⟨w.heap.size, 0, none⟩ = some (.int .i64 x.pos.e) ∧ W.cell? ⟨w.heap.size, 1, none⟩ = some (.int .i64 x.pos.i)) (first | go_keep)
          (first | (go_at_call 76; refine (HAT.out _ (by (repeat' (first | with_reducible exact Below.refl _ _ | with_reducible refine below_drewN ?_ _ | with_reducible refine Below.drew ?_ | with_reducible refine Below.setCell ?_ (by first | exact Nat.le_refl _ | (simp; done) | (simp; omega) | omega) _ | with_reducible refine Below.alloc ?_ (by first | exact Nat.le_refl _ | (simp; done) | (simp; omega) | omega) _ | exact Below.refl _ _)))).mono ?_; rintro e wc ⟨rfl, hb1⟩; (have hblk : Blk wc w.heap.size (entVal x) 35 := Blk.below (by ((repeat' (first | with_reducible exact Blk.new _ _ _ | with_reducible apply Blk.drewN | with_reducible apply Blk.drew | with_reducible apply Blk.set' | (with_reducible apply Blk.set_other (hp := by first | assumption | (simp; done) | (simp; omega) | omega)) | (with_reducible apply Blk.new'; focus (first | (simp; done) | (simp; omega))) | with_reducible apply Blk.alloc)) <;> rfl)) hb1); (have k0 : wc.cell? ⟨w.heap.size, 0, none⟩ = some (.int .i64 x.pos.e) := by rw [hblk.cell]; rfl); (have k1 : wc.cell? ⟨w.heap.size, 1, none⟩ = some (.int .i64 x.pos.i) := by rw [hblk.cell]; rfl); (have hbel : Below w.heap.size w wc := ((by (repeat' (first | with_reducible exact Below.refl _ _ | with_reducible refine below_drewN ?_ _ | with_reducible refine Below.drew ?_ | with_reducible refine Below.setCell ?_ (by first | exact Nat.le_refl _ | (simp; done) | (simp; omega) | omega) _ | with_reducible refine Below.alloc ?_ (by first | exact Nat.le_refl _ | (simp; done) | (simp; omega) | omega) _ | exact Below.refl _ _)) : Below w.heap.size w _).trans (hb1.mono (by simp)))); (have k4 : wc.cell? ⟨L.b, 4, none⟩ = some L.tv := by rw [hbel.cell (p := ⟨L.b, 4, none⟩) hb]; exact c4); (have HBL := Lib.hid hbel); (have HBK := Lib.hid hblk); clear hb1 hbel hblk))
        · have hbel := HBL.out
          have hblk := HBK.out
          clear HBL HBK k0 k1 k4
          have hsz := hblk.lt
          have hsz2 := hbel.size
          have q3 : wc.cell? ⟨L.b, 3, none⟩ = some (.pointer (some ⟨L.sb, 0, none⟩)) := by rw [hbel.cell (p := ⟨L.b, 3, none⟩) hb]; exact c3
          have k2 : wc.cell? ⟨w.heap.size, 2, none⟩ = some (.int .i64 x.s) := by rw [hblk.cell]; rfl
          have k3 : wc.cell? ⟨w.heap.size, 3, none⟩ = some (.int .i64 x.r) := by rw [hblk.cell]; rfl
          have k4 : wc.cell? ⟨w.heap.size, 4, none⟩ = some (.string x.k) := by rw [hblk.cell]; rfl
          have k5 : wc.cell? ⟨w.heap.size, 5, none⟩ = some (.bool x.d) := by rw [hblk.cell]; rfl
          have k6 : wc.cell? ⟨w.heap.size, 6, none⟩ = some (.string x.t) := by rw [hblk.cell]; rfl
          have HB := Lib.hid hbel
          have HK := Lib.hid hblk
          clear hbel hblk c1 c3 c4 c10
          have hnum : ∀ (n : Int) (W : World), Calls Try.prog 77 #[.int .i64 n] W fun e w' => e = .returned (.bool (numB n)) ∧ Below W.heap.size W w' := number_any
          have HN := Lib.hid hnum
          clear hnum
          cases hq : posEq x.pos.e x.pos.i pe pi with
          | false =>
            have HQ := Lib.hid hq
            clear hq
            go_wp2_with fail
            go_ret
            refine ⟨?_, HB.out⟩
            unfold checkW
            rw [if_neg HC.out, if_neg (by rw [HI.out]; simp), if_neg (by omega), HP.out, if_pos (by have := HQ.out; unfold posEq at this; simp at this ⊢; exact this)]
            rfl
          | true =>
            have HQ := Lib.hid hq
            clear hq
            have hfin : checkW s x = if numB x.s = false ∨ numB x.r = false ∨ (x.d = true ∧ x.t.toList ≠ []) then 1
                else if x.k.size < 1 ∨ 64 < x.k.size ∨ 1024 < x.t.size then 3
                else if (look 16 s.seen x.s x.r).1 = 2 ∨ (look 16 s.seen x.s x.r).1 = 3 then 13
                else if (look 16 s.seen x.s x.r).1 = 4 then 4 else 0 := by
              unfold checkW
              rw [if_neg HC.out, if_neg (by rw [HI.out]; simp), if_neg (by omega), HP.out, if_neg (by have := HQ.out; unfold posEq at this; simp at this ⊢; exact this)]
            have HF := Lib.hid hfin
            clear hfin
            go_wp2_with fail
            clear k2 k3 k4 k5 k6 q3
            refine (HN.out x.s _).mono ?_
            rintro e w2 ⟨rfl, hb2⟩
            have hk := HK.out.below hb2
            have k2 : World.cell? w2 ⟨w.heap.size, 2, none⟩ = some (.int .i64 x.s) := by rw [Blk.cell hk]; rfl
            have k3 : World.cell? w2 ⟨w.heap.size, 3, none⟩ = some (.int .i64 x.r) := by rw [Blk.cell hk]; rfl
            have k4 : World.cell? w2 ⟨w.heap.size, 4, none⟩ = some (.string x.k) := by rw [Blk.cell hk]; rfl
            have k5 : World.cell? w2 ⟨w.heap.size, 5, none⟩ = some (.bool x.d) := by rw [Blk.cell hk]; rfl
            have k6 : World.cell? w2 ⟨w.heap.size, 6, none⟩ = some (.string x.t) := by rw [Blk.cell hk]; rfl
            have HK2 := Lib.hid hk
            have HB2 := Lib.hid (HB.out.trans (hb2.mono hsz2))
            have hz2 := hk.lt
            clear hk hb2 hsz hsz2
            cases hs1 : numB x.s with
            | false =>
              have HS1 := Lib.hid hs1
              clear hs1
              go_wp2_with fail
              go_ret
              exact ⟨by rw [HF.out, HS1.out]; rfl, HB2.out⟩
            | true =>
              have HS1 := Lib.hid hs1
              clear hs1
              go_wp2_with fail
              clear k2 k3 k4 k5 k6
              refine (HN.out x.r _).mono ?_
              rintro e w3 ⟨rfl, hb3⟩
              have hk := HK2.out.below hb3
              have k2 : World.cell? w3 ⟨w.heap.size, 2, none⟩ = some (.int .i64 x.s) := by rw [Blk.cell hk]; rfl
              have k3 : World.cell? w3 ⟨w.heap.size, 3, none⟩ = some (.int .i64 x.r) := by rw [Blk.cell hk]; rfl
              have k4 : World.cell? w3 ⟨w.heap.size, 4, none⟩ = some (.string x.k) := by rw [Blk.cell hk]; rfl
              have k5 : World.cell? w3 ⟨w.heap.size, 5, none⟩ = some (.bool x.d) := by rw [Blk.cell hk]; rfl
              have k6 : World.cell? w3 ⟨w.heap.size, 6, none⟩ = some (.string x.t) := by rw [Blk.cell hk]; rfl
              have HB3 := Lib.hid (HB2.out.trans (hb3.mono (by have := HB2.out.size; omega)))
              have HK3 := Lib.hid hk
              have hz3 := hk.lt
              clear hk hb3
              cases hs2 : numB x.r with
              | false =>
                have HS2 := Lib.hid hs2
                clear hs2
                go_wp2_with fail
                go_ret
                exact ⟨by rw [HF.out, if_pos (.inr (.inl HS2.out))]; rfl, HB3.out⟩
              | true =>
                have HS2 := Lib.hid hs2
                clear hs2
                by_cases hdel : x.d = true ∧ x.t.toList ≠ []
                · have HD := Lib.hid hdel
                  obtain ⟨hd1, hd2⟩ := hdel
                  rw [hd1] at k5
                  have hd3 : x.t.toList.isEmpty = false := by simpa using hd2
                  have hd4 : (!x.t.toList.isEmpty) = true := by simpa using hd2
                  clear hd1 hd2
                  go_wp2_with fail
                  go_ret
                  exact ⟨by rw [HF.out, if_pos (.inr (.inr HD.out))]; rfl, HB3.out⟩
                · have HD := Lib.hid hdel
                  have hfin2 : checkW s x = if x.k.size < 1 ∨ 64 < x.k.size ∨ 1024 < x.t.size then 3
                      else if (look 16 s.seen x.s x.r).1 = 2 ∨ (look 16 s.seen x.s x.r).1 = 3 then 13
                      else if (look 16 s.seen x.s x.r).1 = 4 then 4 else 0 := by
                    rw [HF.out, HS1.out, HS2.out]; simp only [Bool.true_eq_false, false_or]; rw [if_neg HD.out]
                  have HF2 := Lib.hid hfin2
                  clear hfin2
                  have hd : x.d = false ∨ (x.d = true ∧ x.t.toList.isEmpty = true) := by
                    cases hxd : x.d with
                    | false => exact .inl rfl
                    | true => refine .inr ⟨rfl, ?_⟩; cases he : x.t.toList with | nil => rfl | cons a l => exact absurd ⟨hxd, by rw [he]; simp⟩ hdel
                  clear hdel
                  have hq3 : w3.cell? ⟨L.b, 3, none⟩ = some (.pointer (some ⟨L.sb, 0, none⟩)) := by rw [HB3.out.cell (p := ⟨L.b, 3, none⟩) hb, H.out.blk.cell]; rfl
                  have hlk : ∀ W : World, Below w3.heap.size w3 W → Calls Try.prog 52 #[.pointer (some ⟨L.sb, 0, none⟩), .int .i64 x.s, .int .i64 x.r] W fun e w' => e = .returned (.tuple #[.int .i64 (look 16 s.seen x.s x.r).1, .agg #[.int .i64 (look 16 s.seen x.s x.r).2.e, .int .i64 (look 16 s.seen x.s x.r).2.i]]) ∧ Below W.heap.size W w' :=
                    fun W hW => Look_any L.sb L.mb 16 s.seen x.s x.r W (H.out.below (HB3.out.trans (hW.mono (by have := HB3.out.size; omega)))).fold.seen
                  have HLK := Lib.hid hlk
                  clear hlk
                  rcases hd with hd | ⟨hd1, hd2⟩
                  case' inl => rw [hd] at k5; clear hd
                  case' inr => rw [hd1] at k5; clear hd1
                  all_goals
                    by_cases hsz1 : x.k.size < 1
                    · have d5 : decide (x.k.size < 1) = true := decide_eq_true hsz1
                      go_wp2_with fail
                      go_ret
                      exact ⟨by rw [HF2.out, if_pos (.inl hsz1)]; rfl, HB3.out⟩
                    · have d5 : decide (x.k.size < 1) = false := decide_eq_false hsz1
                      by_cases hsz2 : 64 < x.k.size
                      · have d6 : decide (64 < x.k.size) = true := decide_eq_true hsz2
                        go_wp2_with fail
                        go_ret
                        exact ⟨by rw [HF2.out, if_pos (.inr (.inl hsz2))]; rfl, HB3.out⟩
                      · have d6 : decide (64 < x.k.size) = false := decide_eq_false hsz2
                        by_cases hsz3 : 1024 < x.t.size
                        · have d7 : decide (1024 < x.t.size) = true := decide_eq_true hsz3
                          go_wp2_with fail
                          go_ret
                          exact ⟨by rw [HF2.out, if_pos (.inr (.inr hsz3))]; rfl, HB3.out⟩
                        · have d7 : decide (1024 < x.t.size) = false := decide_eq_false hsz3
                          have hfin3 : checkW s x = if (look 16 s.seen x.s x.r).1 = 2 ∨ (look 16 s.seen x.s x.r).1 = 3 then 13 else if (look 16 s.seen x.s x.r).1 = 4 then 4 else 0 := by
                            rw [HF2.out, if_neg (by omega)]
                          have HF3 := Lib.hid hfin3
                          clear hfin3
                          go_upto_region 13 with (fail)
                          have hbw3 : L.b < w3.heap.size := by have := HB3.out.size; omega
                          have ne1 := World.new_ne w3 _ hq3
                          have ne2 := World.new_ne w3 _ k2
                          go_region_held3 (fun W => W.cell? ⟨L.b, 3, none⟩ = some (.pointer (some ⟨L.sb, 0, none⟩)) ∧ W.cell? ⟨w.heap.size, 2, none⟩ = some (.int .i64 x.s) ∧ W.cell? ⟨w.heap.size, 3, none⟩ = some (.int .i64 x.r)) (first | go_keep)
                            (first | (go_at_call 52; refine (HLK.out _ (by (repeat' (first | with_reducible exact Below.refl _ _ | with_reducible refine below_drewN ?_ _ | with_reducible refine Below.drew ?_ | with_reducible refine Below.setCell ?_ (by first | exact Nat.le_refl _ | (simp; done) | (simp; omega) | omega) _ | with_reducible refine Below.alloc ?_ (by first | exact Nat.le_refl _ | (simp; done) | (simp; omega) | omega) _ | exact Below.refl _ _)))).mono ?_; rintro e w4 ⟨rfl, hb4⟩; (have hbel : Below w3.heap.size w3 w4 := ((by (repeat' (first | with_reducible exact Below.refl _ _ | with_reducible refine below_drewN ?_ _ | with_reducible refine Below.drew ?_ | with_reducible refine Below.setCell ?_ (by first | exact Nat.le_refl _ | (simp; done) | (simp; omega) | omega) _ | with_reducible refine Below.alloc ?_ (by first | exact Nat.le_refl _ | (simp; done) | (simp; omega) | omega) _ | exact Below.refl _ _)) : Below w3.heap.size w3 _).trans (hb4.mono (by simp)))); (have j3 : w4.cell? ⟨L.b, 3, none⟩ = some (.pointer (some ⟨L.sb, 0, none⟩)) := by rw [hbel.cell (p := ⟨L.b, 3, none⟩) hbw3]; exact hq3); (have j2 : w4.cell? ⟨w.heap.size, 2, none⟩ = some (.int .i64 x.s) := by rw [hbel.cell (p := ⟨w.heap.size, 2, none⟩) hz3]; exact k2); (have j4 : w4.cell? ⟨w.heap.size, 3, none⟩ = some (.int .i64 x.r) := by rw [hbel.cell (p := ⟨w.heap.size, 3, none⟩) hz3]; exact k3); (try (have z0 : w4.cell? ⟨w3.heap.size, 0, none⟩ = some (.int .i64 0) := by rw [hb4.cell (p := ⟨w3.heap.size, 0, none⟩) (by simp)]; simp)); (try (have z1 : w4.cell? ⟨w3.heap.size, 1, none⟩ = some (.int .i64 0) := by rw [hb4.cell (p := ⟨w3.heap.size, 1, none⟩) (by simp)]; simp)); (try (have y0 : w4.frozen? ⟨w3.heap.size, 0, none⟩ = false := by rw [hb4.frozen (p := ⟨w3.heap.size, 0, none⟩) (by simp)]; simp)); (try (have y1 : w4.frozen? ⟨w3.heap.size, 1, none⟩ = false := by rw [hb4.frozen (p := ⟨w3.heap.size, 1, none⟩) (by simp)]; simp)); (have hz4 := hbel.size); (have HB4 := Lib.hid hbel); clear hb4 hbel))
                          all_goals
                            clear hq3 k2 k3
                            have hle3 : w.heap.size ≤ w3.heap.size := HB3.out.size
                            by_cases l2 : (look 16 s.seen x.s x.r).1 = 2
                            · have e2 : ((look 16 s.seen x.s x.r).1 == 2) = true := by simpa using l2
                              have L2 := Lib.hid l2
                              clear l2
                              go_wp2_with fail
                              go_ret
                              exact ⟨by rw [HF3.out, if_pos (.inl L2.out)]; rfl, HB3.out.trans (Below.mono (B := w3.heap.size) (by (repeat' (first | with_reducible exact HB4.out | with_reducible exact Below.refl _ _ | with_reducible refine below_drewN ?_ _ | with_reducible refine Below.drew ?_ | with_reducible refine Below.setCell ?_ (by first | exact Nat.le_refl _ | (simp; done) | (simp; omega) | omega) _ | with_reducible refine Below.alloc ?_ (by first | exact Nat.le_refl _ | (simp; done) | (simp; omega) | omega) _ | exact Below.refl _ _ | exact HB4.out))) hle3)⟩
                            · have e2 : ((look 16 s.seen x.s x.r).1 == 2) = false := by simpa using l2
                              by_cases l3 : (look 16 s.seen x.s x.r).1 = 3
                              · have e3 : ((look 16 s.seen x.s x.r).1 == 3) = true := by simpa using l3
                                have L3 := Lib.hid l3
                                clear l2 l3
                                go_wp2_with fail
                                go_ret
                                exact ⟨by rw [HF3.out, if_pos (.inr L3.out)]; rfl, HB3.out.trans (Below.mono (B := w3.heap.size) (by (repeat' (first | with_reducible exact HB4.out | with_reducible exact Below.refl _ _ | with_reducible refine below_drewN ?_ _ | with_reducible refine Below.drew ?_ | with_reducible refine Below.setCell ?_ (by first | exact Nat.le_refl _ | (simp; done) | (simp; omega) | omega) _ | with_reducible refine Below.alloc ?_ (by first | exact Nat.le_refl _ | (simp; done) | (simp; omega) | omega) _ | exact Below.refl _ _ | exact HB4.out))) hle3)⟩
                              · have e3 : ((look 16 s.seen x.s x.r).1 == 3) = false := by simpa using l3
                                have L23 : Hid (¬ ((look 16 s.seen x.s x.r).1 = 2 ∨ (look 16 s.seen x.s x.r).1 = 3)) := fun h => h.elim l2 l3
                                by_cases l4 : (look 16 s.seen x.s x.r).1 = 4
                                · have e4 : ((look 16 s.seen x.s x.r).1 == 4) = true := by simpa using l4
                                  have L4 := Lib.hid l4
                                  clear l2 l3 l4
                                  go_wp2_with fail
                                  go_ret
                                  exact ⟨by rw [HF3.out, if_neg L23.out, if_pos L4.out]; rfl, HB3.out.trans (Below.mono (B := w3.heap.size) (by (repeat' (first | with_reducible exact HB4.out | with_reducible exact Below.refl _ _ | with_reducible refine below_drewN ?_ _ | with_reducible refine Below.drew ?_ | with_reducible refine Below.setCell ?_ (by first | exact Nat.le_refl _ | (simp; done) | (simp; omega) | omega) _ | with_reducible refine Below.alloc ?_ (by first | exact Nat.le_refl _ | (simp; done) | (simp; omega) | omega) _ | exact Below.refl _ _ | exact HB4.out))) hle3)⟩
                                · have e4 : ((look 16 s.seen x.s x.r).1 == 4) = false := by simpa using l4
                                  have L4 := Lib.hid l4
                                  clear l2 l3 l4
                                  go_wp2_with fail
                                  go_ret
                                  exact ⟨by rw [HF3.out, if_neg L23.out, if_neg L4.out]; rfl, HB3.out.trans (Below.mono (B := w3.heap.size) (by (repeat' (first | with_reducible exact HB4.out | with_reducible exact Below.refl _ _ | with_reducible refine below_drewN ?_ _ | with_reducible refine Below.drew ?_ | with_reducible refine Below.setCell ?_ (by first | exact Nat.le_refl _ | (simp; done) | (simp; omega) | omega) _ | with_reducible refine Below.alloc ?_ (by first | exact Nat.le_refl _ | (simp; done) | (simp; omega) | omega) _ | exact Below.refl _ _ | exact HB4.out))) hle3)⟩
    · have d1 : (x.pos.i != s.pos.i + 1) = true := by simpa using hi
      have HI := Lib.hid hi
      clear hi
      go_enter Try.func60, Try.ntmps60
      go_wp2_with fail
      go_quiet (fail)
      go_wp2_with fail
      go_ret
      exact ⟨by unfold checkW; rw [if_neg HC.out, if_pos HI.out]; rfl, by (repeat' (first | with_reducible exact Below.refl _ _ | with_reducible refine below_drewN ?_ _ | with_reducible refine Below.drew ?_ | with_reducible refine Below.setCell ?_ (by first | exact Nat.le_refl _ | (simp; done) | (simp; omega) | omega) _ | with_reducible refine Below.alloc ?_ (by first | exact Nat.le_refl _ | (simp; done) | (simp; omega) | omega) _ | exact Below.refl _ _))⟩

end Go.Proofs.Ytedcdjlpogpgbaa
