/- StateLog: the walk. -/
import Derived.Test.YtedcdjlpogpgbaaAwake
import Derived.Test.YtedcdjlpogpgbaaLogPlain
import Derived.Deep.DeepCutAuto
import Derived.Test.YtedcdjlpogpgbaaOpen
set_option linter.unusedVariables false
set_option linter.unusedSimpArgs false
namespace Go.Proofs.Ytedcdjlpogpgbaa
open Go.RowKit

attribute [local go_sem high] neq_pos eql_pos fld_text fld_there fld_index neq_ent
def noEp : Ep := ⟨0, 0, false⟩

set_option maxRecDepth 100000 in
set_option maxHeartbeats 16000000 in
theorem Log_any (A : Option Addr) (n cp : Nat) (f : Nat → ByteArray) (from_ most : Int) (w : World) (hA : Strs A n f w.heap.size w) :
    Calls Try.prog 5 #[.slice A n cp, .int .i64 from_, .int .i64 most] w fun e w' => e = .returned (.bool true) ∧ Below w.heap.size w w' := by
  have HA := Lib.hid hA
  clear hA
  obtain ⟨N, hN⟩ : ∃ N : Nat, N = min n 60 := ⟨_, rfl⟩
  have hN1 : N ≤ n := by omega
  have hN2 : N ≤ 60 := by omega
  have hmin : min (n : Int) 60 = (N : Int) := by omega
  have HN := Lib.hid hN
  clear hN
  go_enter Try.func5, Try.ntmps5
  go_wp2_with fail
  refine (awake_any _).mono ?_
  rintro e w1 ⟨rfl, hb1⟩
  have HB1 := Lib.hid hb1
  have hs1 := hb1.size
  clear hb1
  go_wp2_with fail
  refine (new_live _ oneT _ (sl_one (cs := epVal ⟨1, 0, false⟩) (T := 29) (by ((repeat' (first | with_reducible exact Blk.new _ _ _ | with_reducible apply Blk.drewN | with_reducible apply Blk.drew | with_reducible apply Blk.set' | (with_reducible apply Blk.set_other (hp := by first | assumption | (simp; done) | (simp; omega) | omega)) | (with_reducible apply Blk.new'; focus (first | (simp; done) | (simp; omega))) | with_reducible apply Blk.alloc)) <;> rfl))) oneT_right).mono ?_
  rintro e w2 ⟨b, rfl, hl2, hb2⟩
  have HB2 := Lib.hid ((by (repeat' (first | with_reducible exact HB1.out | with_reducible exact Below.refl _ _ | with_reducible refine below_drewN ?_ _ | with_reducible refine Below.drew ?_ | with_reducible refine Below.setCell ?_ (by first | exact Nat.le_refl _ | (simp; done) | (simp; omega) | omega) _ | with_reducible refine Below.alloc ?_ (by first | exact Nat.le_refl _ | (simp; done) | (simp; omega) | omega) _ | exact Below.refl _ _ | exact HB1.out)) : Below w.heap.size w _).trans (hb2.mono (by first | omega | (simp; omega))))
  have HL2 : Hid (Live (fun c => c < w.heap.size) w2 b (logSt (logE f f 0) oneT)) := Lib.hid (hl2.mono (G := fun c => c < w.heap.size) (fun c hc => by first | omega | (simp; omega)))
  clear hb2 hl2 HB1
  go_wp2_with fail
  clear hmin
  go_loopg [10] N (fun g v wr => ∃ k : Nat, k ≤ N ∧ v = .int .i64 ((k : Int) + 1) ∧ g = N - k ∧ Live (fun c => c < w.heap.size) wr b (logSt (logE f f k) oneT) ∧ Below w.heap.size w wr)
  case atStart => exact ⟨0, Nat.zero_le _, rfl, rfl, HL2.out, HB2.out⟩
  case round =>
    obtain ⟨k, hk, rfl, rfl, hl, hbr⟩ := hrel
    have hsr := hbr.size
    have HL := Lib.hid hl
    have HBR := Lib.hid hbr
    clear hl hbr HB2 HL2
    by_cases hlt : k < N
    · have d1 : decide ((k : Int) + 1 ≤ (N : Int)) = true := by rw [decide_eq_true_eq]; omega
      obtain ⟨kb, ko, hAe, hkb, hkc⟩ := HA.out k (by omega)
      subst hAe
      rw [← HBR.out.cell (p := ⟨kb, ko + k, none⟩) hkb] at hkc
      obtain ⟨key, hkey⟩ : ∃ key, f k = key := ⟨_, rfl⟩
      rw [hkey] at hkc
      have HKEY := Lib.hid hkey
      have hkn : k < n := by omega
      clear hkey
      by_cases z1 : key.size < 1
      · have e1 : decide ((key.size : Int) < 1) = true := by rw [decide_eq_true_eq]; omega
        go_wp2_with fail
        go_ret
        exact ⟨rfl, HBR.out⟩
      · have e1 : decide ((key.size : Int) < 1) = false := by rw [decide_eq_false_iff_not]; omega
        by_cases z2 : 64 < key.size
        · have e2 : decide ((64 : Int) < key.size) = true := by rw [decide_eq_true_eq]; omega
          go_wp2_with fail
          go_ret
          exact ⟨rfl, HBR.out⟩
        · have e2 : decide ((64 : Int) < key.size) = false := by rw [decide_eq_false_iff_not]; omega
          have hap : ∀ W : World, Below w.heap.size w W → Live (fun c => c < w.heap.size) W b (logSt (logE f f k) oneT) → Calls Try.prog 13 #[.pointer (some ⟨b, 0, none⟩), .agg (recVal 1 (simpleE ((k : Int) + 1) key key) noEp 0 zeroPos (.slice none 0 0) (.slice none 0 0))] W (LiveRes (fun c => c < w.heap.size) b 0 (logSt (logE f f (k + 1)) oneT) W) := by
            intro W hW hLW
            have := write_live (simpleE ((k : Int) + 1) key key) noEp 0 zeroPos none none 0 0 0 0 W hLW (fun c hc => Nat.lt_of_lt_of_le hc hW.size) (log_ok f f k oneT (by omega) oneT_right) ⟨by show _ ≤ (k : Int) + 1; omega, by show (k : Int) + 1 ≤ _; omega⟩ (checkW_simple f f k key _ (by omega) (by omega) (by omega) (by omega)) (by rw [logSt_eq]; show (logE f f k).length ≤ 1000; rw [logE_length]; omega)
            rw [wrote_log] at this
            rw [logE_succ, HKEY.out]
            exact this
          have HAP := Lib.hid hap
          clear hap z1 z2
          have q0 : (0 : Int) ≤ (k : Int) := by omega
          have q1 : (k : Int) < (n : Int) := by omega
          have q2 : IntKind.i64.wrap (k : Int) = (k : Int) := wrap_small _ q0 (by omega)
          go_upto_region 12 with (fail)
          go_region_held3 (fun W => W.cell? ⟨kb, ko + k, none⟩ = some (.string key)) (first | go_keep)
            (first
            | (go_at_call 14; refine (simple_any ((k : Int) + 1) key key _ (by omega) (by omega)).mono ?_; rintro e w3 ⟨rfl, hb3⟩; (have hbw : Below wr.heap.size wr w3 := (Below.refl _ wr).drew.trans hb3); (have HL3 := Lib.hid (HL.out.below hbw)); (have HB3 := Lib.hid (HBR.out.trans (hbw.mono hsr))); (have hs3 := HB3.out.size); (rw [← hbw.cell (p := ⟨kb, ko + k, none⟩) (Nat.lt_of_lt_of_le hkb hsr)] at hkc); unfold entVal simpleE; clear hb3 hbw)
            | (go_at_call 13; refine (HAP.out _ HB3.out HL3.out).mono ?_; rintro e w4 ⟨rfl, hl4, hf4⟩; (have hb34 := hf4.belowB hs3); (have HB4 := Lib.hid (HB3.out.trans hb34)); (have HL4 := Lib.hid hl4); (rw [← hb34.cell (p := ⟨kb, ko + k, none⟩) hkb] at hkc); clear hl4 hf4 hb34))
          go_wp2_with fail
          go_roundg (N - (k + 1))
          case measure => omega
          case rel => exact ⟨k + 1, by omega, by go_num, rfl, HL4.out, HB4.out⟩
    · have d1 : decide ((k : Int) + 1 ≤ (N : Int)) = false := by rw [decide_eq_false_iff_not]; omega
      obtain rfl : k = N := by omega
      have HOK := Lib.hid (log_ok f f k oneT (by omega) oneT_right)
      go_wp2_with fail
      refine (entries_live 1 (k : Int) HL.out HOK.out).mono ?_
      rintro e w3 ⟨v1, rfl, ho1, _, hb3⟩
      rw [some_all] at ho1
      have hsl1 := own_sl ho1
      rw [logE_length] at hsl1
      obtain ⟨A1, c1, hv1, _⟩ := id hsl1
      subst hv1
      have HSL1 := Lib.hid hsl1
      have HB3 := Lib.hid hb3
      clear ho1 hsl1 hb3
      go_wp2_with fail
      refine (entries_live from_ most (HL.out.below HB3.out) HOK.out).mono ?_
      rintro e w4 ⟨v2, rfl, ho2, _, hb4⟩
      have hlenR := some_len f f k from_ most
      have hgetR := some_get f f k from_ most
      obtain ⟨R, hR⟩ : ∃ R, someE (logSt (logE f f k) oneT) from_ most = R := ⟨_, rfl⟩
      rw [hR] at ho2 hlenR
      simp only [hR] at hgetR
      clear hR
      have hsl2 := own_sl ho2
      obtain ⟨M, hM⟩ : ∃ M, R.length = M := ⟨_, rfl⟩
      rw [hM] at hsl2 hlenR hgetR
      obtain ⟨A2, c2, hv2, _⟩ := id hsl2
      subst hv2
      have HSL1' := Lib.hid (HSL1.out.below hb4)
      have HSL2 := Lib.hid hsl2
      have HL4 := Lib.hid ((HL.out.below HB3.out).below hb4)
      have HB4 := Lib.hid ((HBR.out.trans (HB3.out.mono hsr)).trans (hb4.mono (Nat.le_trans hsr HB3.out.size)))
      have HA4 : Hid (Strs A n f w4.heap.size w4) := Lib.hid (fun j hj => by
        obtain ⟨b', o', h1, h2, h3⟩ := HA.out j hj
        exact ⟨b', o', h1, Nat.lt_of_lt_of_le h2 HB4.out.size, by rw [HB4.out.cell (p := ⟨b', o' + j, none⟩) h2]; exact h3⟩)
      have HLEN := Lib.hid hlenR
      have HGET := Lib.hid hgetR
      have HM := Lib.hid hM
      have hM60 : M ≤ 60 := by have := hlenR; split at this <;> omega
      have dmax : decide (max 0 most < (M : Int)) = false := by rw [decide_eq_false_iff_not]; have := hlenR; split at this <;> omega
      have hs4 := HB4.out.size
      clear ho2 hsl2 hb4 hlenR hgetR hM HB3 HL HBR HSL1 hsr HA
      go_wp2_with fail
      refine (last_live HL4.out).mono ?_
      rintro e w5 ⟨rfl, hb5⟩
      obtain ⟨pe, hpe⟩ : ∃ pe, posCells (logSt (logE f f k) oneT).pos = #[.int .i64 pe, .int .i64 (k : Int)] := ⟨(logSt (logE f f k) oneT).pos.e, by rw [← logE_idx f f k, logSt_eq]; rfl⟩
      rw [hpe]
      have HB5 := Lib.hid hb5
      clear hb5 hpe
      go_wp2_with fail
      have hE0 : ∀ i : Nat, entVal (simpleE ((i : Int) + 1) (f i) (f i)) = #[.int .i64 1, .int .i64 ((i : Int) + 1), .int .i64 (1 + ((i : Int) + 1) % 3), .int .i64 ((i : Int) + 1), .string (f i), .bool false, .string (f i)] := fun i => by
        unfold entVal simpleE; rw [tmod3]
      have HE := Lib.hid hE0
      clear hE0
      go_loopg [100] k (fun g v wr => ∃ i : Nat, i ≤ k ∧ v = .int .i64 (i : Int) ∧ g = k - i ∧ Below w4.heap.size w4 wr)
      case atStart => exact ⟨0, Nat.zero_le _, rfl, rfl, HB5.out⟩
      case round =>
        obtain ⟨i, hi, rfl, rfl, hbr⟩ := hrel
        have hsr := hbr.size
        have HBR := Lib.hid hbr
        clear hbr HB5
        by_cases hlt2 : i < k
        · obtain ⟨eb, eo, hA1, heb, hcells⟩ := ents_cells HSL1'.out (logE_length f f k) (by omega)
          subst hA1
          have hce : ∀ W : World, Below w4.heap.size w4 W → EntAt W eb (eo + i * 7) (simpleE ((i : Int) + 1) (f i) (f i)) := fun W hW => by
            have := hcells W hW i hlt2
            rwa [en_log f f k i hlt2] at this
          unfold EntAt simpleE at hce
          simp only [tmod3] at hce
          have HCE := Lib.hid hce
          obtain ⟨kb, ko, hAe, hkb, hkc0⟩ := HA4.out i (by omega)
          subst hAe
          have hke : ∀ W : World, Below w4.heap.size w4 W → W.cell? ⟨kb, ko + i, none⟩ = some (.string (f i)) := fun W hW => by rw [hW.cell (p := ⟨kb, ko + i, none⟩) hkb]; exact hkc0
          have HKE := Lib.hid hke
          obtain ⟨a0, a1, a2, a3, a4, a5, a6⟩ := HCE.out wr HBR.out
          have hkc := HKE.out wr HBR.out
          have q0 : (0 : Int) ≤ (i : Int) := by omega
          have q1 : (i : Int) < (k : Int) := by omega
          have q1' : (i : Int) < (n : Int) := by omega
          have q2 : IntKind.i64.wrap ((i : Int) + 1) = (i : Int) + 1 := wrap_small _ (by omega) (by omega)
          have q3 : IntKind.i64.wrap ((k : Int) - 3) = (k : Int) - 3 := by rw [IntKind.wrap_i64]; omega
          have d2 : decide ((i : Int) < (k : Int)) = true := by rw [decide_eq_true_eq]; omega
          clear hce hke hkc0 hcells
          go_upto_region 20 with (fail)
          go_region_held3 (fun W => W.cell? ⟨eb, eo + i * 7, none⟩ = some (.int .i64 1) ∧ W.cell? ⟨eb, eo + i * 7 + 1, none⟩ = some (.int .i64 ((i : Int) + 1)) ∧ W.cell? ⟨eb, eo + i * 7 + 2, none⟩ = some (.int .i64 (1 + ((i : Int) + 1) % 3)) ∧ W.cell? ⟨eb, eo + i * 7 + 3, none⟩ = some (.int .i64 ((i : Int) + 1)) ∧ W.cell? ⟨eb, eo + i * 7 + 4, none⟩ = some (.string (f i)) ∧ W.cell? ⟨eb, eo + i * 7 + 5, none⟩ = some (.bool false) ∧ W.cell? ⟨eb, eo + i * 7 + 6, none⟩ = some (.string (f i)) ∧ W.cell? ⟨kb, ko + i, none⟩ = some (.string (f i))) (first | go_keep)
            (first
            | (go_at_call 14; refine (simple_any ((i : Int) + 1) (f i) (f i) _ (by omega) (by omega)).mono ?_; rintro e w6 ⟨rfl, hb6⟩; rw [HE.out]; (have hbw : Below w4.heap.size w4 w6 := HBR.out.trans ((Below.refl _ wr).drew.trans hb6 |>.mono hsr)); (have HB6 := Lib.hid hbw); (have hs6 := hbw.size); clear a0 a1 a2 a3 a4 a5 a6 hkc hb6; (obtain ⟨a0, a1, a2, a3, a4, a5, a6⟩ := HCE.out w6 hbw); (have hkc := HKE.out w6 hbw); clear hbw))
          go_upto_region 22 with (fail)
          have ne6 : eb ≠ w6.heap.size := by omega
          have ne6' : w6.heap.size ≠ eb := by omega
          by_cases hc : k ≤ i + 3
          · have d4 : decide ((0 : Int) < (i : Int) + 1) = true := by rw [decide_eq_true_eq]; omega
            have d5 : decide ((k : Int) - 3 ≤ (i : Int)) = true := by rw [decide_eq_true_eq]; omega
            have hlk : ∀ W : World, Below w4.heap.size w4 W → Calls Try.prog 28 #[.pointer (some ⟨b, 0, none⟩), .int .i64 (1 + ((i : Int) + 1) % 3), .int .i64 ((i : Int) + 1)] W fun e w' => e = .returned (.tuple #[.int .i64 2, .agg #[.int .i64 1, .int .i64 ((i : Int) + 1)]]) ∧ Below W.heap.size W w' := fun W hW => by
              have := look_live (1 + ((i : Int) + 1) % 3) ((i : Int) + 1) (HL4.out.below hW)
              unfold PosRes at this
              rw [look_log f f k i hlt2, if_pos hc] at this
              exact this
            have HLK := Lib.hid hlk
            clear hlk
            go_region_held3 (fun W => W.cell? ⟨eb, eo + i * 7 + 2, none⟩ = some (.int .i64 (1 + ((i : Int) + 1) % 3)) ∧ W.cell? ⟨eb, eo + i * 7 + 3, none⟩ = some (.int .i64 ((i : Int) + 1))) (first | go_keep)
              (first
              | (go_at_call 28; refine (HLK.out _ (by (repeat' (first | with_reducible exact HB6.out | with_reducible exact Below.refl _ _ | with_reducible refine below_drewN ?_ _ | with_reducible refine Below.drew ?_ | with_reducible refine Below.setCell ?_ (by first | exact Nat.le_refl _ | (simp; done) | (simp; omega) | omega) _ | with_reducible refine Below.alloc ?_ (by first | exact Nat.le_refl _ | (simp; done) | (simp; omega) | omega) _ | exact Below.refl _ _ | exact HB6.out)))).mono ?_; rintro e w7 ⟨rfl, hb7⟩; (have hz : Blk w7 w6.heap.size (posCells zeroPos) 33 := by (refine Blk.below ?_ hb7; ((repeat' (first | with_reducible exact Blk.new _ _ _ | with_reducible apply Blk.drewN | with_reducible apply Blk.drew | with_reducible apply Blk.set' | (with_reducible apply Blk.set_other (hp := by first | assumption | (simp; done) | (simp; omega) | omega)) | (with_reducible apply Blk.new'; focus (first | (simp; done) | (simp; omega))) | with_reducible apply Blk.alloc)) <;> rfl))); (have hz1 := hz.lt); (have z0 : World.cell? w7 ⟨w6.heap.size, 0, none⟩ = some (.int .i64 0) := by rw [Blk.cell hz]; rfl); (have z1 : World.cell? w7 ⟨w6.heap.size, 1, none⟩ = some (.int .i64 0) := by rw [Blk.cell hz]; rfl); (have y0 := hz.free 0); (have y1 := hz.free 1); clear hz; (have hbw : Below w4.heap.size w4 w7 := (by (repeat' (first | with_reducible exact HB6.out | with_reducible exact Below.refl _ _ | with_reducible refine below_drewN ?_ _ | with_reducible refine Below.drew ?_ | with_reducible refine Below.setCell ?_ (by first | exact Nat.le_refl _ | (simp; done) | (simp; omega) | omega) _ | with_reducible refine Below.alloc ?_ (by first | exact Nat.le_refl _ | (simp; done) | (simp; omega) | omega) _ | exact Below.refl _ _ | exact HB6.out)) : Below w4.heap.size w4 _).trans (hb7.mono (by first | exact hs6 | (simp; omega)))); (have HB7 := Lib.hid hbw); (have hs7 := hbw.size); (have ne7 : eb ≠ w7.heap.size := by omega); (have ne7' : w7.heap.size ≠ eb := by omega); clear a0 a1 a2 a3 a4 a5 a6 hb7; (obtain ⟨a0, a1, a2, a3, a4, a5, a6⟩ := HCE.out w7 hbw); clear hbw)
              | (go_at_call 28; refine (HLK.out _ (by (repeat' (first | with_reducible exact HB6.out | with_reducible exact Below.refl _ _ | with_reducible refine below_drewN ?_ _ | with_reducible refine Below.drew ?_ | with_reducible refine Below.setCell ?_ (by first | exact Nat.le_refl _ | (simp; done) | (simp; omega) | omega) _ | with_reducible refine Below.alloc ?_ (by first | exact Nat.le_refl _ | (simp; done) | (simp; omega) | omega) _ | exact Below.refl _ _ | exact HB6.out)))).mono ?_; rintro e w7 ⟨rfl, hb7⟩; (have hbw : Below w4.heap.size w4 w7 := (by (repeat' (first | with_reducible exact HB6.out | with_reducible exact Below.refl _ _ | with_reducible refine below_drewN ?_ _ | with_reducible refine Below.drew ?_ | with_reducible refine Below.setCell ?_ (by first | exact Nat.le_refl _ | (simp; done) | (simp; omega) | omega) _ | with_reducible refine Below.alloc ?_ (by first | exact Nat.le_refl _ | (simp; done) | (simp; omega) | omega) _ | exact Below.refl _ _ | exact HB6.out)) : Below w4.heap.size w4 _).trans (hb7.mono (by first | exact hs6 | (simp; omega)))); (have HB7 := Lib.hid hbw); (have hs7 := hbw.size); (have ne7 : eb ≠ w7.heap.size := by omega); (have ne7' : w7.heap.size ≠ eb := by omega); clear a0 a1 a2 a3 a4 a5 a6 hb7; (obtain ⟨a0, a1, a2, a3, a4, a5, a6⟩ := HCE.out w7 hbw); clear hbw))
            all_goals
              clear a0 a1 a2 a3 a4 a5 a6
              go_wp2_with fail
              go_roundg (k - (i + 1))
              case measure => omega
              case rel => exact ⟨i + 1, by omega, by go_num, rfl, by (repeat' (first | with_reducible exact HB7.out | with_reducible exact Below.refl _ _ | with_reducible refine below_drewN ?_ _ | with_reducible refine Below.drew ?_ | with_reducible refine Below.setCell ?_ (by first | exact Nat.le_refl _ | (simp; done) | (simp; omega) | omega) _ | with_reducible refine Below.alloc ?_ (by first | exact Nat.le_refl _ | (simp; done) | (simp; omega) | omega) _ | exact Below.refl _ _ | exact HB7.out))⟩
          · have d5 : decide ((k : Int) - 3 ≤ (i : Int)) = false := by rw [decide_eq_false_iff_not]; omega
            have hlk : ∀ W : World, Below w4.heap.size w4 W → Calls Try.prog 28 #[.pointer (some ⟨b, 0, none⟩), .int .i64 (1 + ((i : Int) + 1) % 3), .int .i64 ((i : Int) + 1)] W fun e w' => e = .returned (.tuple #[.int .i64 3, .agg #[.int .i64 0, .int .i64 0]]) ∧ Below W.heap.size W w' := fun W hW => by
              have := look_live (1 + ((i : Int) + 1) % 3) ((i : Int) + 1) (HL4.out.below hW)
              unfold PosRes at this
              rw [look_log f f k i hlt2, if_neg hc] at this
              exact this
            have HLK := Lib.hid hlk
            clear hlk
            go_region_held3 (fun W => W.cell? ⟨eb, eo + i * 7 + 2, none⟩ = some (.int .i64 (1 + ((i : Int) + 1) % 3)) ∧ W.cell? ⟨eb, eo + i * 7 + 3, none⟩ = some (.int .i64 ((i : Int) + 1))) (first | go_keep)
              (first
              | (go_at_call 28; refine (HLK.out _ (by (repeat' (first | with_reducible exact HB6.out | with_reducible exact Below.refl _ _ | with_reducible refine below_drewN ?_ _ | with_reducible refine Below.drew ?_ | with_reducible refine Below.setCell ?_ (by first | exact Nat.le_refl _ | (simp; done) | (simp; omega) | omega) _ | with_reducible refine Below.alloc ?_ (by first | exact Nat.le_refl _ | (simp; done) | (simp; omega) | omega) _ | exact Below.refl _ _ | exact HB6.out)))).mono ?_; rintro e w7 ⟨rfl, hb7⟩; (have hz : Blk w7 w6.heap.size (posCells zeroPos) 33 := by (refine Blk.below ?_ hb7; ((repeat' (first | with_reducible exact Blk.new _ _ _ | with_reducible apply Blk.drewN | with_reducible apply Blk.drew | with_reducible apply Blk.set' | (with_reducible apply Blk.set_other (hp := by first | assumption | (simp; done) | (simp; omega) | omega)) | (with_reducible apply Blk.new'; focus (first | (simp; done) | (simp; omega))) | with_reducible apply Blk.alloc)) <;> rfl))); (have hz1 := hz.lt); (have z0 : World.cell? w7 ⟨w6.heap.size, 0, none⟩ = some (.int .i64 0) := by rw [Blk.cell hz]; rfl); (have z1 : World.cell? w7 ⟨w6.heap.size, 1, none⟩ = some (.int .i64 0) := by rw [Blk.cell hz]; rfl); (have y0 := hz.free 0); (have y1 := hz.free 1); clear hz; (have hbw : Below w4.heap.size w4 w7 := (by (repeat' (first | with_reducible exact HB6.out | with_reducible exact Below.refl _ _ | with_reducible refine below_drewN ?_ _ | with_reducible refine Below.drew ?_ | with_reducible refine Below.setCell ?_ (by first | exact Nat.le_refl _ | (simp; done) | (simp; omega) | omega) _ | with_reducible refine Below.alloc ?_ (by first | exact Nat.le_refl _ | (simp; done) | (simp; omega) | omega) _ | exact Below.refl _ _ | exact HB6.out)) : Below w4.heap.size w4 _).trans (hb7.mono (by first | exact hs6 | (simp; omega)))); (have HB7 := Lib.hid hbw); (have hs7 := hbw.size); (have ne7 : eb ≠ w7.heap.size := by omega); (have ne7' : w7.heap.size ≠ eb := by omega); clear a0 a1 a2 a3 a4 a5 a6 hb7; (obtain ⟨a0, a1, a2, a3, a4, a5, a6⟩ := HCE.out w7 hbw); clear hbw)
              | (go_at_call 28; refine (HLK.out _ (by (repeat' (first | with_reducible exact HB6.out | with_reducible exact Below.refl _ _ | with_reducible refine below_drewN ?_ _ | with_reducible refine Below.drew ?_ | with_reducible refine Below.setCell ?_ (by first | exact Nat.le_refl _ | (simp; done) | (simp; omega) | omega) _ | with_reducible refine Below.alloc ?_ (by first | exact Nat.le_refl _ | (simp; done) | (simp; omega) | omega) _ | exact Below.refl _ _ | exact HB6.out)))).mono ?_; rintro e w7 ⟨rfl, hb7⟩; (have hbw : Below w4.heap.size w4 w7 := (by (repeat' (first | with_reducible exact HB6.out | with_reducible exact Below.refl _ _ | with_reducible refine below_drewN ?_ _ | with_reducible refine Below.drew ?_ | with_reducible refine Below.setCell ?_ (by first | exact Nat.le_refl _ | (simp; done) | (simp; omega) | omega) _ | with_reducible refine Below.alloc ?_ (by first | exact Nat.le_refl _ | (simp; done) | (simp; omega) | omega) _ | exact Below.refl _ _ | exact HB6.out)) : Below w4.heap.size w4 _).trans (hb7.mono (by first | exact hs6 | (simp; omega)))); (have HB7 := Lib.hid hbw); (have hs7 := hbw.size); (have ne7 : eb ≠ w7.heap.size := by omega); (have ne7' : w7.heap.size ≠ eb := by omega); clear a0 a1 a2 a3 a4 a5 a6 hb7; (obtain ⟨a0, a1, a2, a3, a4, a5, a6⟩ := HCE.out w7 hbw); clear hbw))
            all_goals
              clear a0 a1 a2 a3 a4 a5 a6
              go_wp2_with fail
              go_roundg (k - (i + 1))
              case measure => omega
              case rel => exact ⟨i + 1, by omega, by go_num, rfl, by (repeat' (first | with_reducible exact HB7.out | with_reducible exact Below.refl _ _ | with_reducible refine below_drewN ?_ _ | with_reducible refine Below.drew ?_ | with_reducible refine Below.setCell ?_ (by first | exact Nat.le_refl _ | (simp; done) | (simp; omega) | omega) _ | with_reducible refine Below.alloc ?_ (by first | exact Nat.le_refl _ | (simp; done) | (simp; omega) | omega) _ | exact Below.refl _ _ | exact HB7.out))⟩
        · have d2 : decide ((i : Int) < (k : Int)) = false := by rw [decide_eq_false_iff_not]; omega
          go_wp2_with fail
          go_loopg [157] M (fun g v wr => ∃ i : Nat, i ≤ M ∧ v = .int .i64 (i : Int) ∧ g = M - i ∧ Below w4.heap.size w4 wr)
          case atStart => exact ⟨0, Nat.zero_le _, rfl, rfl, HBR.out⟩
          case round =>
            obtain ⟨i, hi, rfl, rfl, hbr⟩ := hrel
            have hsr := hbr.size
            have HBR := Lib.hid hbr
            clear hbr
            by_cases hlt3 : i < M
            · obtain ⟨hf1, hqk, hen⟩ := HGET.out i hlt3
              obtain ⟨q, hq⟩ : ∃ q : Nat, from_ - 1 = (q : Int) := ⟨(from_ - 1).toNat, by omega⟩
              rw [hq, Int.toNat_natCast] at hqk hen
              obtain ⟨eb, eo, hA1, heb, hcells⟩ := ents_cells HSL1'.out (logE_length f f k) (by omega)
              subst hA1
              obtain ⟨eb2, eo2, hA2, heb2, hcells2⟩ := ents_cells HSL2.out HM.out (by omega)
              subst hA2
              have h1 := hcells wr HBR.out (q + i) hqk
              have h2 := hcells2 wr HBR.out i hlt3
              rw [hen] at h2
              obtain ⟨x, hx⟩ : ∃ x, en (logE f f k) (q + i) = x := ⟨_, rfl⟩
              rw [hx] at h1 h2
              clear hx hen hcells hcells2
              obtain ⟨⟨xe, xi⟩, xs', xr, xk, xd, xt⟩ := x
              obtain ⟨a0, a1, a2, a3, a4, a5, a6⟩ := h1
              obtain ⟨b0, b1, b2, b3, b4, b5, b6⟩ := h2
              dsimp only at a0 a1 a2 a3 a4 a5 a6 b0 b1 b2 b3 b4 b5 b6
              have q0 : (0 : Int) ≤ (i : Int) := by omega
              have q1 : (i : Int) < (M : Int) := by omega
              have q2 : (0 : Int) ≤ (q : Int) + (i : Int) := by omega
              have q3 : (q : Int) + (i : Int) < (k : Int) := by omega
              have q4 : IntKind.i64.wrap (q : Int) = (q : Int) := wrap_small _ (by omega) (by omega)
              have q5 : IntKind.i64.wrap ((q : Int) + (i : Int)) = (q : Int) + (i : Int) := wrap_small _ (by omega) (by omega)
              have q6 : ((q : Int) + (i : Int)).toNat = q + i := by omega
              have d3 : decide ((i : Int) < (M : Int)) = true := by rw [decide_eq_true_eq]; omega
              go_upto_region 29 with (fail)
              go_quiet (fail)
              go_wp2_with fail
              go_roundg (M - (i + 1))
              case measure => omega
              case rel => exact ⟨i + 1, by omega, by go_num, rfl, by (repeat' (first | with_reducible exact HBR.out | with_reducible exact Below.refl _ _ | with_reducible refine below_drewN ?_ _ | with_reducible refine Below.drew ?_ | with_reducible refine Below.setCell ?_ (by first | exact Nat.le_refl _ | (simp; done) | (simp; omega) | omega) _ | with_reducible refine Below.alloc ?_ (by first | exact Nat.le_refl _ | (simp; done) | (simp; omega) | omega) _ | exact Below.refl _ _ | exact HBR.out))⟩
            · have d3 : decide ((i : Int) < (M : Int)) = false := by rw [decide_eq_false_iff_not]; omega
              go_wp2_with fail
              go_loopg [17] k (fun g v wr => ∃ i : Nat, i ≤ k ∧ v = .int .i64 (i : Int) ∧ g = k - i ∧ Below w4.heap.size w4 wr)
              case atStart => exact ⟨0, Nat.zero_le _, rfl, rfl, HBR.out⟩
              case round =>
                obtain ⟨j, hj, rfl, rfl, hbr⟩ := hrel
                have hsr := hbr.size
                have HBR := Lib.hid hbr
                clear hbr
                by_cases hlt4 : j < k
                · obtain ⟨m, hm1, hm2, hm3, hm4⟩ := get_log f k j hlt4
                  have HGV : Hid (valCells ((getL (f j) (logSt (logE f f k) oneT).keys).getD zeroVal) = #[.int .i64 1, .int .i64 ((m : Int) + 1), .bool true, .string (f j)]) := Lib.hid (by rw [hm4]; rfl)
                  obtain ⟨kb, ko, hAe, hkb, hkc0⟩ := HA4.out j (by omega)
                  subst hAe
                  obtain ⟨kb2, ko2, hAe2, _, hkc2⟩ := HA4.out m (by omega)
                  injection hAe2 with hAe2
                  injection hAe2 with e1 e2
                  subst e1; subst e2
                  rw [hm3] at hkc2
                  have hke : ∀ W : World, Below w4.heap.size w4 W → W.cell? ⟨kb, ko + j, none⟩ = some (.string (f j)) ∧ W.cell? ⟨kb, ko + m, none⟩ = some (.string (f j)) := fun W hW => ⟨by rw [hW.cell (p := ⟨kb, ko + j, none⟩) hkb]; exact hkc0, by rw [hW.cell (p := ⟨kb, ko + m, none⟩) hkb]; exact hkc2⟩
                  have HKE := Lib.hid hke
                  obtain ⟨kc1, kc2⟩ := HKE.out wr HBR.out
                  have q0 : (0 : Int) ≤ (j : Int) := by omega
                  have q1 : (j : Int) < (n : Int) := by omega
                  have q2 : (0 : Int) ≤ (m : Int) := by omega
                  have q3 : (m : Int) < (n : Int) := by omega
                  have q4 : IntKind.i64.wrap ((j : Int) + 1) = (j : Int) + 1 := wrap_small _ (by omega) (by omega)
                  have q5 : IntKind.i64.wrap (m : Int) = (m : Int) := wrap_small _ (by omega) (by omega)
                  have d4 : decide ((j : Int) < (k : Int)) = true := by rw [decide_eq_true_eq]; omega
                  have d5 : decide ((m : Int) + 1 < (j : Int) + 1) = false := by rw [decide_eq_false_iff_not]; omega
                  clear hke hkc0 hkc2 hm3 hm4
                  go_wp2_with fail
                  refine (get_live _ (HL4.out.below HBR.out)).mono ?_
                  rintro e w8 ⟨rfl, hb8⟩
                  rw [HGV.out]
                  have HB8 := Lib.hid (HBR.out.trans (hb8.mono hsr))
                  clear hb8
                  go_upto_region 36 with (fail)
                  refine wp_abs ?_
                  intro w9 hw9
                  have K9 : Blk w9 w8.heap.size #[.int .i64 1, .int .i64 ((m : Int) + 1), .bool true, .string (f j)] 46 := by rw [hw9]; ((repeat' (first | with_reducible exact Blk.new _ _ _ | with_reducible apply Blk.drewN | with_reducible apply Blk.drew | with_reducible apply Blk.set' | (with_reducible apply Blk.set_other (hp := by first | assumption | (simp; done) | (simp; omega) | omega)) | (with_reducible apply Blk.new'; focus (first | (simp; done) | (simp; omega))) | with_reducible apply Blk.alloc)) <;> rfl)
                  have B9 : Below w4.heap.size w4 w9 := by have := HB8.out.size; rw [hw9]; (repeat' (first | with_reducible exact HB8.out | with_reducible exact Below.refl _ _ | with_reducible refine below_drewN ?_ _ | with_reducible refine Below.drew ?_ | with_reducible refine Below.setCell ?_ (by first | exact Nat.le_refl _ | (simp; done) | (simp; omega) | omega) _ | with_reducible refine Below.alloc ?_ (by first | exact Nat.le_refl _ | (simp; done) | (simp; omega) | omega) _ | exact Below.refl _ _ | exact HB8.out))
                  clear hw9 kc1 kc2
                  obtain ⟨kc1, kc2⟩ := HKE.out w9 B9
                  have HB9 := Lib.hid B9
                  have v0 : World.cell? w9 ⟨w8.heap.size, 0, none⟩ = some (.int .i64 1) := by rw [Blk.cell K9]; rfl
                  have v1 : World.cell? w9 ⟨w8.heap.size, 1, none⟩ = some (.int .i64 ((m : Int) + 1)) := by rw [Blk.cell K9]; rfl
                  have v2 : World.cell? w9 ⟨w8.heap.size, 2, none⟩ = some (.bool true) := by rw [Blk.cell K9]; rfl
                  have v3 : World.cell? w9 ⟨w8.heap.size, 3, none⟩ = some (.string (f j)) := by rw [Blk.cell K9]; rfl
                  clear B9 K9
                  go_quiet (fail)
                  go_wp2_with fail
                  go_roundg (k - (j + 1))
                  case measure => omega
                  case rel => exact ⟨j + 1, by omega, by go_num, rfl, by (repeat' (first | with_reducible exact HB9.out | with_reducible exact Below.refl _ _ | with_reducible refine below_drewN ?_ _ | with_reducible refine Below.drew ?_ | with_reducible refine Below.setCell ?_ (by first | exact Nat.le_refl _ | (simp; done) | (simp; omega) | omega) _ | with_reducible refine Below.alloc ?_ (by first | exact Nat.le_refl _ | (simp; done) | (simp; omega) | omega) _ | exact Below.refl _ _ | exact HB9.out))⟩
                · have d4 : decide ((j : Int) < (k : Int)) = false := by rw [decide_eq_false_iff_not]; omega
                  have hl := HLEN.out
                  by_cases c1 : from_ < 1
                  · have e1 : decide (from_ < 1) = true := by rw [decide_eq_true_eq]; omega
                    have e3 : M = 0 := by rw [if_pos (by omega)] at hl; omega
                    have e4 : ((M : Int) == 0) = true := by rw [beq_iff_eq]; omega
                    clear hl
                    go_wp2_with fail
                    go_ret
                    exact ⟨rfl, HB4.out.trans (HBR.out.mono hs4)⟩
                  have e1 : decide (from_ < 1) = false := by rw [decide_eq_false_iff_not]; omega
                  by_cases c2 : (k : Int) < from_
                  · have e2 : decide ((k : Int) < from_) = true := by rw [decide_eq_true_eq]; omega
                    have e3 : M = 0 := by rw [if_pos (by omega)] at hl; omega
                    have e4 : ((M : Int) == 0) = true := by rw [beq_iff_eq]; omega
                    clear hl
                    go_wp2_with fail
                    go_ret
                    exact ⟨rfl, HB4.out.trans (HBR.out.mono hs4)⟩
                  have e2 : decide ((k : Int) < from_) = false := by rw [decide_eq_false_iff_not]; omega
                  have e4 : ((M : Int) == max 0 (min most ((k : Int) - from_ + 1))) = true := by
                    rw [beq_iff_eq]
                    by_cases c3 : most < 1
                    · rw [if_pos (by omega)] at hl; omega
                    · rw [if_neg (by omega)] at hl; omega
                  clear hl
                  go_wp2_with fail
                  go_ret
                  exact ⟨rfl, HB4.out.trans (HBR.out.mono hs4)⟩

end Go.Proofs.Ytedcdjlpogpgbaa
