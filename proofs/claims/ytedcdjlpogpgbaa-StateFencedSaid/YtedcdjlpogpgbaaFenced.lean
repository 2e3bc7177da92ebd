/- StateFenced: the walk. -/
import Derived.Test.YtedcdjlpogpgbaaAwake
import Derived.Test.YtedcdjlpogpgbaaOpen
set_option linter.unusedVariables false
set_option linter.unusedSimpArgs false
namespace Go.Proofs.Ytedcdjlpogpgbaa
open Go.RowKit

attribute [local go_sem] neq_pos eql_pos fld_text fld_there fld_index
def xs : Nat → ByteArray := fun _ => ⟨#[120]⟩
def nilEp : Ep := ⟨0, 0, false⟩
def nilEnt : Ent := ⟨⟨0, 0⟩, 0, 0, ⟨#[]⟩, false, ⟨#[]⟩⟩
/-- Behind the forced epoch; behind the last write. -/
def finA (f : Nat → ByteArray) (c : Nat) : St := logSt (logE f xs c) (twoT c true)
def lateE (e : Int) (c : Nat) : Ent := ⟨⟨e, (c : Int) + 1⟩, 1 + ((c : Int) + 1) % 3, 1000, ⟨#[107]⟩, false, ⟨#[121]⟩⟩
def finB (f : Nat → ByteArray) (c : Nat) : St := logSt (logE f xs c ++ [lateE 2 c]) (twoT c true)
theorem fin_adopt (f : Nat → ByteArray) (k c : Nat) (h : c ≤ k) : adoptF (logSt (logE f xs k) oneT) ⟨2, c, true⟩ = finA f c := by
  rw [adopt_log _ _ _ (by show (0 : Int) ≤ c; omega)]
  show (if (posOf (logE f xs k)).i ≤ (c : Int) then _ else _) = _
  rw [logE_idx]
  by_cases hc : (k : Int) ≤ c
  · rw [if_pos hc, show c = k by omega]; rfl
  · rw [if_neg hc, show (({ m := 2, c := (c : Int), f := true } : Ep).c).toNat = c from Int.toNat_natCast c, logE_take f xs k c h]; rfl
theorem fin_table (f : Nat → ByteArray) (c : Nat) : (finA f c).table = twoT c true := by unfold finA; rw [logSt_eq]
theorem fin_pos (f : Nat → ByteArray) (c : Nat) : (finA f c).pos.i = c := by unfold finA; rw [logSt_eq]; exact logE_idx f xs c
theorem fin_low (f : Nat → ByteArray) (c : Nat) (k : ByteArray) : ((getL k (finA f c).keys).getD zeroVal).pos.i ≤ (c : Int) := by unfold finA; rw [logSt_eq]; exact logE_low f xs k c
theorem fin_ok (f : Nat → ByteArray) (c : Nat) (h : c ≤ 60) : Ok (finA f c) := log_ok f xs c _ (by omega) (twoT_right true (by omega) (by omega))
theorem fin_no (f : Nat → ByteArray) (c : Nat) (h : c ≤ 60) : checkW (finA f c) (lateE 1 c) = 8 := by
  have hp := fin_pos f c
  unfold checkW
  rw [if_neg (by unfold finA; rw [logSt_eq]; simp), if_neg (by rw [hp]; simp [lateE]), if_neg (by simp [lateE]; omega), if_pos]
  rw [show (finA f c).table = twoT c true by unfold finA; rw [logSt_eq], show (lateE 1 c).pos.i = (c : Int) + 1 from rfl, atB_two true (by omega) (by omega) (by omega)]
  simp [lateE]
theorem fin_yes (f : Nat → ByteArray) (c : Nat) (h : c ≤ 60) : checkW (finA f c) (lateE 2 c) = 0 := by
  have g := Int.emod_nonneg ((c : Int) + 1) (show (3 : Int) ≠ 0 by decide)
  have g2 := Int.emod_lt_of_pos ((c : Int) + 1) (show (0 : Int) < 3 by decide)
  refine checkW_ok ?_ ?_ ?_ ?_ ?_ ?_ rfl (show 1 ≤ (1 : Nat) by decide) (show (1 : Nat) ≤ 64 by decide) (show (1 : Nat) ≤ 1024 by decide) ?_
  · unfold finA; rw [logSt_eq]
  · rw [fin_pos]; rfl
  · show (c : Int) + 1 ≤ 512; omega
  · rw [show (finA f c).table = twoT c true by unfold finA; rw [logSt_eq], show (lateE 2 c).pos.i = (c : Int) + 1 from rfl, atB_two true (by omega) (by omega) (by omega)]; rfl
  · show numB (1 + ((c : Int) + 1) % 3) = true; unfold numB; simp only [Bool.and_eq_true, decide_eq_true_eq]; omega
  · show numB 1000 = true; decide
  · rw [show (finA f c).seen = seenN c by unfold finA; rw [logSt_eq]; exact logE_seen f xs c]; exact look_big c _ _ (by show (c : Int) < 1000; omega)
theorem fin_wrote (f : Nat → ByteArray) (c : Nat) : wroteF (finA f c) (lateE 2 c) = finB f c := wrote_log _ _ _
theorem fin_get (f : Nat → ByteArray) (c : Nat) : (getL ⟨#[107]⟩ (finB f c).keys).getD zeroVal = ⟨⟨2, (c : Int) + 1⟩, true, ⟨#[121]⟩⟩ := by
  unfold finB; rw [logSt_eq]
  show (getL ⟨#[107]⟩ (keysOf _)).getD zeroVal = _
  rw [keysOf_snoc]
  show (getL ⟨#[107]⟩ (ins ⟨#[107]⟩ _ _)).getD zeroVal = _
  rw [getL_ins_same]; rfl
theorem fin_last (f : Nat → ByteArray) (c : Nat) : (finB f c).pos = ⟨2, (c : Int) + 1⟩ := by unfold finB; rw [logSt_eq]; exact posOf_snoc _ _

set_option maxRecDepth 100000 in
set_option maxHeartbeats 8000000 in
theorem Fenced_any (A : Option Addr) (n cp : Nat) (f : Nat → ByteArray) (cut : Int) (w : World) (hA : Strs A n f w.heap.size w) :
    Calls Try.prog 3 #[.slice A n cp, .int .i64 cut] w fun e w' => e = .returned (.bool true) ∧ Below w.heap.size w w' := by
  have HA := Lib.hid hA
  clear hA
  obtain ⟨N, hN⟩ : ∃ N : Nat, N = min n 60 := ⟨_, rfl⟩
  have hN1 : N ≤ n := by omega
  have hN2 : N ≤ 60 := by omega
  have hmin : min (n : Int) 60 = (N : Int) := by omega
  have HN := Lib.hid hN
  have HMIN := Lib.hid hmin
  clear hN hmin
  go_enter Try.func3, Try.ntmps3
  go_wp2_with fail
  refine (awake_any _).mono ?_
  rintro e w1 ⟨rfl, hb1⟩
  have HB1 := Lib.hid hb1
  have hs1 := hb1.size
  clear hb1
  go_wp2_with fail
  refine (new_live _ oneT _ (sl_one (cs := epVal ⟨1, 0, false⟩) (T := 29) (by ((repeat' (first | with_reducible exact Blk.new _ _ _ | with_reducible apply Blk.drewN | with_reducible apply Blk.drew | with_reducible apply Blk.set' | (with_reducible apply Blk.set_other (hp := by first | assumption | (simp; done) | (simp; omega) | omega)) | (with_reducible apply Blk.new'; focus (first | (simp; done) | (simp; omega))) | with_reducible apply Blk.alloc)) <;> rfl))) oneT_right).mono ?_
  rintro e w2 ⟨b, rfl, hl2, hb2⟩
  have HB2 := Lib.hid ((by (repeat' (first | with_reducible exact HB1.out | with_reducible exact Below.refl _ _ | with_reducible refine below_drewN ?_ _ | with_reducible refine Below.drew ?_ | with_reducible refine Below.setCell ?_ (by first | exact Nat.le_refl _ | (simp; done) | (simp; omega) | omega) _ | with_reducible refine Below.alloc ?_ (by first | exact Nat.le_refl _ | (simp; done) | (simp; omega) | omega) _ | exact Below.refl _ _ | exact HB1.out)) : Below w.heap.size w _).trans (hb2.mono (by first | omega | (simp; omega))))
  have HL2 : Hid (Live (fun c => c < w.heap.size) w2 b (logSt (logE f xs 0) oneT)) := Lib.hid (hl2.mono (G := fun c => c < w.heap.size) (fun c hc => by first | omega | (simp; omega)))
  clear hb2 hl2 HB1
  go_upto_region 4 with (fail)
  go_cut [7] (fun v wx => v = .int .i64 N ∧ wx = w2)
  case first =>
    go_wp2_with fail
    · go_meet
      exact ⟨by have := HN.out; congr 1; omega, rfl⟩
    · go_meet
      exact ⟨by have := HN.out; congr 1; omega, rfl⟩
  case rest =>
    obtain ⟨rfl, rfl⟩ := hcut
    go_wp2_with fail
    go_loopg [8] N (fun g v wr => ∃ k : Nat, k ≤ N ∧ v = .int .i64 ((k : Int) + 1) ∧ g = N - k ∧ Live (fun c => c < w.heap.size) wr b (logSt (logE f xs k) oneT) ∧ Below w.heap.size w wr)
    case atStart => exact ⟨0, Nat.zero_le _, rfl, rfl, HL2.out, HB2.out⟩
    case round =>
      obtain ⟨k, hk, rfl, rfl, hl, hbr⟩ := hrel
      have hsr := hbr.size
      have HL := Lib.hid hl
      have HBR := Lib.hid hbr
      clear hl hbr HB2 HL2
      by_cases hlt : k < N
      · have d1 : decide ((k : Int) + 1 ≤ (N : Int)) = true := by rw [decide_eq_true_eq]; omega
        obtain ⟨kb, ko, hAe, hkb, hkc⟩ := HA.out k (by omega)
        subst hAe
        rw [← HBR.out.cell (p := ⟨kb, ko + k, none⟩) hkb] at hkc
        obtain ⟨key, hkey⟩ : ∃ key, f k = key := ⟨_, rfl⟩
        rw [hkey] at hkc
        have HKEY := Lib.hid hkey
        have hkn : k < n := by omega
        clear hkey
        by_cases z1 : key.size < 1
        · have e1 : decide ((key.size : Int) < 1) = true := by rw [decide_eq_true_eq]; omega
          go_wp2_with fail
          go_ret
          exact ⟨rfl, HBR.out⟩
        · have e1 : decide ((key.size : Int) < 1) = false := by rw [decide_eq_false_iff_not]; omega
          by_cases z2 : 64 < key.size
          · have e2 : decide ((64 : Int) < key.size) = true := by rw [decide_eq_true_eq]; omega
            go_wp2_with fail
            go_ret
            exact ⟨rfl, HBR.out⟩
          · have e2 : decide ((64 : Int) < key.size) = false := by rw [decide_eq_false_iff_not]; omega
            have hap : ∀ W : World, Below w.heap.size w W → Live (fun c => c < w.heap.size) W b (logSt (logE f xs k) oneT) → Calls Try.prog 13 #[.pointer (some ⟨b, 0, none⟩), .agg (recVal 1 (simpleE ((k : Int) + 1) key ⟨#[120]⟩) nilEp 0 zeroPos (.slice none 0 0) (.slice none 0 0))] W (LiveRes (fun c => c < w.heap.size) b 0 (logSt (logE f xs (k + 1)) oneT) W) := by
              intro W hW hLW
              have := write_live (simpleE ((k : Int) + 1) key ⟨#[120]⟩) nilEp 0 zeroPos none none 0 0 0 0 W hLW (fun c hc => Nat.lt_of_lt_of_le hc hW.size) (log_ok f xs k oneT (by omega) oneT_right) ⟨by show _ ≤ (k : Int) + 1; omega, by show (k : Int) + 1 ≤ _; omega⟩ (checkW_simple f xs k key _ (by omega) (by omega) (by omega) (by decide)) (by rw [logSt_eq]; show (logE f xs k).length ≤ 1000; rw [logE_length]; omega)
              rw [wrote_log] at this
              rw [logE_succ, HKEY.out]
              exact this
            have HAP := Lib.hid hap
            clear hap z1 z2
            go_wp2_with fail
            refine (simple_any ((k : Int) + 1) key ⟨#[120]⟩ _ (by omega) (by omega)).mono ?_
            rintro e w3 ⟨rfl, hb3⟩
            have HL3 := Lib.hid (HL.out.below hb3)
            have HB3 := Lib.hid (HBR.out.trans (hb3.mono hsr))
            have hs3 := HB3.out.size
            unfold entVal simpleE
            clear hb3 HL HBR
            go_wp2_with fail
            refine (HAP.out _ HB3.out HL3.out).mono ?_
            rintro e w4 ⟨rfl, hl4, hf4⟩
            have HB4 := Lib.hid (HB3.out.trans (hf4.belowB hs3))
            have HL4 := Lib.hid hl4
            clear HB3 HL3 HAP hl4 hf4
            go_wp2_with fail
            go_roundg (N - (k + 1))
            case measure => omega
            case rel => exact ⟨k + 1, by omega, by go_num, rfl, HL4.out, HB4.out⟩
      · have d1 : decide ((k : Int) + 1 ≤ (N : Int)) = false := by rw [decide_eq_false_iff_not]; omega
        obtain rfl : k = N := by omega
        by_cases c1 : cut < 0
        · have e1 : decide (cut < 0) = true := by rw [decide_eq_true_eq]; omega
          go_wp2_with fail
          go_ret
          exact ⟨rfl, HBR.out⟩
        by_cases c2 : (k : Int) < cut
        · have e1 : decide (cut < 0) = false := by rw [decide_eq_false_iff_not]; omega
          have e2 : decide ((k : Int) < cut) = true := by rw [decide_eq_true_eq]; omega
          go_wp2_with fail
          go_ret
          exact ⟨rfl, HBR.out⟩
        have e1 : decide (cut < 0) = false := by rw [decide_eq_false_iff_not]; omega
        have e2 : decide ((k : Int) < cut) = false := by rw [decide_eq_false_iff_not]; omega
        obtain ⟨c, rfl⟩ : ∃ c : Nat, cut = (c : Int) := ⟨cut.toNat, by omega⟩
        have hck : c ≤ k := by omega
        have had : ∀ W : World, Below w.heap.size w W → Live (fun c => c < w.heap.size) W b (logSt (logE f xs k) oneT) → Calls Try.prog 13 #[.pointer (some ⟨b, 0, none⟩), .agg (recVal 2 nilEnt ⟨2, c, true⟩ 0 zeroPos (.slice none 0 0) (.slice none 0 0))] W (LiveRes (fun c => c < w.heap.size) b 0 (finA f c) W) := by
          intro W hW hLW
          rw [← fin_adopt f k c hck]
          exact adopt_live nilEnt ⟨2, c, true⟩ 0 zeroPos none none 0 0 0 0 W hLW (fun c hc => Nat.lt_of_lt_of_le hc hW.size) (log_ok f xs k oneT (by omega) oneT_right) (by rw [logSt_eq]; exact twoT_right true (show (0 : Int) ≤ c by omega) (show (c : Int) ≤ 512 by omega))
        have HAD := Lib.hid had
        clear had c1 c2
        go_wp2_with fail
        refine (HAD.out _ HBR.out HL.out).mono ?_
        rintro e w3 ⟨rfl, hl3, hf3⟩
        have HB3 := Lib.hid (HBR.out.trans (hf3.belowB hsr))
        have hs3 := HB3.out.size
        have HL3 := Lib.hid hl3
        clear HL HBR HAD hl3 hf3
        go_wp2_with fail
        refine (last_live HL3.out).mono ?_
        rintro e w4 ⟨rfl, hb4⟩
        obtain ⟨pe, hpe⟩ : ∃ pe, posCells (finA f c).pos = #[.int .i64 pe, .int .i64 (c : Int)] := ⟨(finA f c).pos.e, by rw [← fin_pos f c]; rfl⟩
        rw [hpe]
        have HL4 := Lib.hid (HL3.out.below hb4)
        have HB4 := Lib.hid (HB3.out.trans (hb4.mono hs3))
        have hs4 := HB4.out.size
        clear hb4 HL3 HB3 hpe
        go_wp2_with fail
        refine (master_live HL4.out (by rw [fin_table]; exact (show 0 < 2 by decide)) (by rw [fin_table]; exact (show 2 ≤ 1000 by decide))).mono ?_
        rintro e w5 ⟨rfl, hb5⟩
        rw [show (ep (finA f c).table ((finA f c).table.length - 1)).m = 2 from by rw [fin_table]; rfl]
        have HL5 := Lib.hid (HL4.out.below hb5)
        have HB5 := Lib.hid (HB4.out.trans (hb5.mono hs4))
        have hs5 := HB5.out.size
        clear hb5 HL4 HB4
        go_wp2_with fail
        refine (config_live HL5.out).mono ?_
        rintro e w6 ⟨rfl, hb6⟩
        rw [show (((finA f c).table.length : Nat) : Int) = 2 from by rw [fin_table]; rfl]
        have HL6 := Lib.hid (HL5.out.below hb6)
        have HB6 := Lib.hid (HB5.out.trans (hb6.mono hs5))
        have hs6 := HB6.out.size
        clear hb6 HL5 HB5
        go_wp2_with fail
        go_loopg [9] (k - c) (fun g v wr => ∃ i : Nat, c ≤ i ∧ i ≤ k ∧ v = .int .i64 (i : Int) ∧ g = k - i ∧ Live (fun c => c < w.heap.size) wr b (finA f c) ∧ Below w.heap.size w wr)
        case atStart => exact ⟨c, Nat.le_refl _, hck, rfl, rfl, HL6.out, HB6.out⟩
        case round =>
          obtain ⟨i, hi1, hi2, rfl, rfl, hl, hbr⟩ := hrel
          have hsr := hbr.size
          have HL := Lib.hid hl
          have HBR := Lib.hid hbr
          clear hl hbr HB6 HL6
          by_cases hlt2 : i < k
          · have d2 : decide ((i : Int) < (k : Int)) = true := by rw [decide_eq_true_eq]; omega
            obtain ⟨kb, ko, hAe, hkb, hkc⟩ := HA.out i (by omega)
            subst hAe
            rw [← HBR.out.cell (p := ⟨kb, ko + i, none⟩) hkb] at hkc
            have hin : i < n := by omega
            go_wp2_with fail
            refine (get_live _ HL.out).mono ?_
            rintro e w7 ⟨rfl, hb7⟩
            obtain ⟨v, hv⟩ : ∃ v, (getL (f i) (finA f c).keys).getD zeroVal = v := ⟨_, rfl⟩
            have hle := fin_low f c (f i)
            rw [hv] at hle
            rw [hv]
            have HL7 := Lib.hid (HL.out.below hb7)
            have HB7 := Lib.hid (HBR.out.trans (hb7.mono hsr))
            have hs7 := HB7.out.size
            have d3 : decide ((c : Int) < v.pos.i) = false := by rw [decide_eq_false_iff_not]; omega
            unfold valCells
            clear hb7 HL HBR hv
            go_wp2_with fail
            go_roundg (k - (i + 1))
            case measure => omega
            case rel => exact ⟨i + 1, by omega, by omega, by go_num, rfl, HL7.out.below (by (repeat' (first | with_reducible exact Below.refl _ _ | with_reducible refine below_drewN ?_ _ | with_reducible refine Below.drew ?_ | with_reducible refine Below.setCell ?_ (by first | exact Nat.le_refl _ | (simp; done) | (simp; omega) | omega) _ | with_reducible refine Below.alloc ?_ (by first | exact Nat.le_refl _ | (simp; done) | (simp; omega) | omega) _ | exact Below.refl _ _))), by (repeat' (first | with_reducible exact HB7.out | with_reducible exact Below.refl _ _ | with_reducible refine below_drewN ?_ _ | with_reducible refine Below.drew ?_ | with_reducible refine Below.setCell ?_ (by first | exact Nat.le_refl _ | (simp; done) | (simp; omega) | omega) _ | with_reducible refine Below.alloc ?_ (by first | exact Nat.le_refl _ | (simp; done) | (simp; omega) | omega) _ | exact Below.refl _ _ | exact HB7.out))⟩
          · have d2 : decide ((i : Int) < (k : Int)) = false := by rw [decide_eq_false_iff_not]; omega
            have hc60 : c ≤ 60 := by omega
            go_wp2_with fail
            refine (simple_any ((c : Int) + 1) ⟨#[107]⟩ ⟨#[121]⟩ _ (by omega) (by omega)).mono ?_
            rintro e w7 ⟨rfl, hb7⟩
            have hE : entVal (simpleE ((c : Int) + 1) ⟨#[107]⟩ ⟨#[121]⟩) = #[.int .i64 1, .int .i64 ((c : Int) + 1), .int .i64 (1 + ((c : Int) + 1) % 3), .int .i64 ((c : Int) + 1), .string ⟨#[107]⟩, .bool false, .string ⟨#[121]⟩] := by
              unfold entVal simpleE; rw [tmod3]
            rw [hE]
            have HL7 := Lib.hid (HL.out.below hb7)
            have HB7 := Lib.hid (HBR.out.trans (hb7.mono hsr))
            have hs7 := HB7.out.size
            clear hb7 HL HBR hE
            go_upto_region 26 with (fail)
            refine wp_abs ?_
            intro w8 hw8
            have K8 : Blk w8 w7.heap.size #[.int .i64 1, .int .i64 ((c : Int) + 1), .int .i64 (1 + ((c : Int) + 1) % 3), .int .i64 1000, .string ⟨#[107]⟩, .bool false, .string ⟨#[121]⟩] 35 := by rw [hw8]; ((repeat' (first | with_reducible exact Blk.new _ _ _ | with_reducible apply Blk.drewN | with_reducible apply Blk.drew | with_reducible apply Blk.set' | (with_reducible apply Blk.set_other (hp := by first | assumption | (simp; done) | (simp; omega) | omega)) | (with_reducible apply Blk.new'; focus (first | (simp; done) | (simp; omega))) | with_reducible apply Blk.alloc)) <;> rfl)
            have B8 : Below w7.heap.size w7 w8 := by rw [hw8]; (repeat' (first | with_reducible exact Below.refl _ _ | with_reducible refine below_drewN ?_ _ | with_reducible refine Below.drew ?_ | with_reducible refine Below.setCell ?_ (by first | exact Nat.le_refl _ | (simp; done) | (simp; omega) | omega) _ | with_reducible refine Below.alloc ?_ (by first | exact Nat.le_refl _ | (simp; done) | (simp; omega) | omega) _ | exact Below.refl _ _))
            clear hw8
            have HL8 := Lib.hid (HL7.out.box B8)
            have HB8 := Lib.hid (HB7.out.trans (B8.mono hs7))
            have hs8 := B8.size
            have hk8 := K8.lt
            have HK8 := Lib.hid K8
            have k0 : World.cell? w8 ⟨w7.heap.size, 0, none⟩ = some (.int .i64 1) := by rw [Blk.cell K8]; rfl
            have k1 : World.cell? w8 ⟨w7.heap.size, 1, none⟩ = some (.int .i64 ((c : Int) + 1)) := by rw [Blk.cell K8]; rfl
            have k2 : World.cell? w8 ⟨w7.heap.size, 2, none⟩ = some (.int .i64 (1 + ((c : Int) + 1) % 3)) := by rw [Blk.cell K8]; rfl
            have k3 : World.cell? w8 ⟨w7.heap.size, 3, none⟩ = some (.int .i64 1000) := by rw [Blk.cell K8]; rfl
            have k4 : World.cell? w8 ⟨w7.heap.size, 4, none⟩ = some (.string ⟨#[107]⟩) := by rw [Blk.cell K8]; rfl
            have k5 : World.cell? w8 ⟨w7.heap.size, 5, none⟩ = some (.bool false) := by rw [Blk.cell K8]; rfl
            have k6 : World.cell? w8 ⟨w7.heap.size, 6, none⟩ = some (.string ⟨#[121]⟩) := by rw [Blk.cell K8]; rfl
            have hno : ∀ W : World, Below w8.heap.size w8 W → Calls Try.prog 13 #[.pointer (some ⟨b, 0, none⟩), .agg (recVal 1 (lateE 1 c) nilEp 0 zeroPos (.slice none 0 0) (.slice none 0 0))] W (LiveRes (fun x => x < w.heap.size ∨ x = w7.heap.size) b 8 (finA f c) W) := by
              intro W hW
              have hz := hW.size
              exact write_live_no (lateE 1 c) nilEp 0 zeroPos none none 0 0 0 0 W 8 (HL8.out.below hW) (fun x hx => by rcases hx with hx | hx <;> omega) (fin_ok f c hc60) ⟨by show _ ≤ (c : Int) + 1; omega, by show (c : Int) + 1 ≤ _; omega⟩ (fin_no f c hc60) (by decide)
            have HNO := Lib.hid hno
            clear K8 B8 HL7 HB7 hno
            go_wp2_with fail
            refine (HNO.out _ (by (repeat' (first | with_reducible exact Below.refl _ _ | with_reducible refine below_drewN ?_ _ | with_reducible refine Below.drew ?_ | with_reducible refine Below.setCell ?_ (by first | exact Nat.le_refl _ | (simp; done) | (simp; omega) | omega) _ | with_reducible refine Below.alloc ?_ (by first | exact Nat.le_refl _ | (simp; done) | (simp; omega) | omega) _ | exact Below.refl _ _)))).mono ?_
            rintro e w9 ⟨rfl, hl9, hf9⟩
            have K9 := HK8.out.frm hf9 (fun h => h (.inr rfl))
            have HB9 := Lib.hid (HB8.out.trans (hf9.belowF (B := w.heap.size) (fun c hc => .inl hc) (by omega)))
            have HL9 := Lib.hid hl9
            have hs9 := HB9.out.size
            clear k0 k1 k2 k3 k4 k5 k6 hl9 hf9 HNO HL8 HB8
            have k0 : World.cell? w9 ⟨w7.heap.size, 0, none⟩ = some (.int .i64 1) := by rw [Blk.cell K9]; rfl
            have k1 : World.cell? w9 ⟨w7.heap.size, 1, none⟩ = some (.int .i64 ((c : Int) + 1)) := by rw [Blk.cell K9]; rfl
            have k2 : World.cell? w9 ⟨w7.heap.size, 2, none⟩ = some (.int .i64 (1 + ((c : Int) + 1) % 3)) := by rw [Blk.cell K9]; rfl
            have k3 : World.cell? w9 ⟨w7.heap.size, 3, none⟩ = some (.int .i64 1000) := by rw [Blk.cell K9]; rfl
            have k4 : World.cell? w9 ⟨w7.heap.size, 4, none⟩ = some (.string ⟨#[107]⟩) := by rw [Blk.cell K9]; rfl
            have k5 : World.cell? w9 ⟨w7.heap.size, 5, none⟩ = some (.bool false) := by rw [Blk.cell K9]; rfl
            have k6 : World.cell? w9 ⟨w7.heap.size, 6, none⟩ = some (.string ⟨#[121]⟩) := by rw [Blk.cell K9]; rfl
            have y0 := Blk.free K9 0
            have hk9 := K9.lt
            have HK9 := Lib.hid K9
            clear K9
            go_upto_region 29 with (fail)
            refine wp_abs ?_
            intro w10 hw10
            have K10 : Blk w10 w7.heap.size #[.int .i64 2, .int .i64 ((c : Int) + 1), .int .i64 (1 + ((c : Int) + 1) % 3), .int .i64 1000, .string ⟨#[107]⟩, .bool false, .string ⟨#[121]⟩] 35 := by rw [hw10]; ((repeat' (first | with_reducible exact HK9.out | with_reducible exact Blk.new _ _ _ | with_reducible apply Blk.drewN | with_reducible apply Blk.drew | with_reducible apply Blk.set' | (with_reducible apply Blk.set_other (hp := by first | assumption | (simp; done) | (simp; omega) | omega)) | (with_reducible apply Blk.new'; focus (first | (simp; done) | (simp; omega))) | with_reducible apply Blk.alloc | exact HK9.out)) <;> rfl)
            have F10 : Frm (fun x => x = w7.heap.size) w9 w10 := by rw [hw10]; (repeat' (first | with_reducible exact Frm.refl _ _ | with_reducible refine Frm.drewN ?_ _ | with_reducible refine Frm.drew ?_ | with_reducible refine Frm.setCell ?_ (by first | exact Or.inl rfl | exact Or.inr (Nat.le_refl _) | (simp; done) | (simp; omega)) _ | with_reducible refine Frm.alloc ?_ _ | exact Frm.refl _ _))
            clear hw10 k0 k1 k2 k3 k4 k5 k6 y0
            have HL10 := Lib.hid (HL9.out.frm F10 (fun x hx => .inr hx))
            have HB10 := Lib.hid (HB9.out.trans (⟨F10.os, F10.tape, F10.output, F10.size, fun i hi => F10.block i (by omega) (by omega)⟩ : Below w.heap.size w9 w10))
            have hs10 := HB10.out.size
            have hk10 := K10.lt
            have HK10 := Lib.hid K10
            have k0 : World.cell? w10 ⟨w7.heap.size, 0, none⟩ = some (.int .i64 2) := by rw [Blk.cell K10]; rfl
            have k1 : World.cell? w10 ⟨w7.heap.size, 1, none⟩ = some (.int .i64 ((c : Int) + 1)) := by rw [Blk.cell K10]; rfl
            have k2 : World.cell? w10 ⟨w7.heap.size, 2, none⟩ = some (.int .i64 (1 + ((c : Int) + 1) % 3)) := by rw [Blk.cell K10]; rfl
            have k3 : World.cell? w10 ⟨w7.heap.size, 3, none⟩ = some (.int .i64 1000) := by rw [Blk.cell K10]; rfl
            have k4 : World.cell? w10 ⟨w7.heap.size, 4, none⟩ = some (.string ⟨#[107]⟩) := by rw [Blk.cell K10]; rfl
            have k5 : World.cell? w10 ⟨w7.heap.size, 5, none⟩ = some (.bool false) := by rw [Blk.cell K10]; rfl
            have k6 : World.cell? w10 ⟨w7.heap.size, 6, none⟩ = some (.string ⟨#[121]⟩) := by rw [Blk.cell K10]; rfl
            have hyes : ∀ W : World, Below w10.heap.size w10 W → Calls Try.prog 13 #[.pointer (some ⟨b, 0, none⟩), .agg (recVal 1 (lateE 2 c) nilEp 0 zeroPos (.slice none 0 0) (.slice none 0 0))] W (LiveRes (fun x => x < w.heap.size ∨ x = w7.heap.size) b 0 (finB f c) W) := by
              intro W hW
              have hz := hW.size
              rw [← fin_wrote]
              exact write_live (lateE 2 c) nilEp 0 zeroPos none none 0 0 0 0 W (HL10.out.below hW) (fun x hx => by rcases hx with hx | hx <;> omega) (fin_ok f c hc60) ⟨by show _ ≤ (c : Int) + 1; omega, by show (c : Int) + 1 ≤ _; omega⟩ (fin_yes f c hc60) (by unfold finA; rw [logSt_eq]; show (logE f xs c).length ≤ 1000; rw [logE_length]; omega)
            have HYES := Lib.hid hyes
            have HGV : Hid (valCells ((getL ⟨#[107]⟩ (finB f c).keys).getD zeroVal) = #[.int .i64 2, .int .i64 ((c : Int) + 1), .bool true, .string ⟨#[121]⟩]) := Lib.hid (by rw [fin_get]; rfl)
            have HLV : Hid (posCells (finB f c).pos = #[.int .i64 2, .int .i64 ((c : Int) + 1)]) := Lib.hid (by rw [fin_last]; rfl)
            have hpq : posEq 2 ((c : Int) + 1) 2 ((c : Int) + 1) = true := by simp [posEq]
            clear K10 F10 hyes HL9 HB9 HK9 HK8
            go_region_held3 (fun W => W.cell? ⟨w7.heap.size, 0, none⟩ = some (.int .i64 2) ∧ W.cell? ⟨w7.heap.size, 1, none⟩ = some (.int .i64 ((c : Int) + 1)) ∧ W.cell? ⟨w7.heap.size, 2, none⟩ = some (.int .i64 (1 + ((c : Int) + 1) % 3)) ∧ W.cell? ⟨w7.heap.size, 3, none⟩ = some (.int .i64 1000) ∧ W.cell? ⟨w7.heap.size, 4, none⟩ = some (.string ⟨#[107]⟩) ∧ W.cell? ⟨w7.heap.size, 5, none⟩ = some (.bool false) ∧ W.cell? ⟨w7.heap.size, 6, none⟩ = some (.string ⟨#[121]⟩)) (first | go_keep)
              (first
              | (go_at_call 13; refine (HYES.out _ (by (repeat' (first | with_reducible exact Below.refl _ _ | with_reducible refine below_drewN ?_ _ | with_reducible refine Below.drew ?_ | with_reducible refine Below.setCell ?_ (by first | exact Nat.le_refl _ | (simp; done) | (simp; omega) | omega) _ | with_reducible refine Below.alloc ?_ (by first | exact Nat.le_refl _ | (simp; done) | (simp; omega) | omega) _ | exact Below.refl _ _)))).mono ?_; rintro e w11 ⟨rfl, hl11, hf11⟩; (have K11 := HK10.out.drew.frm hf11 (fun h => h (.inr rfl))); (have HK11 := Lib.hid K11); (have HL11 := Lib.hid hl11); (have HB11 := Lib.hid (HB10.out.drew.trans (Frm.belowF (B := w.heap.size) hf11 (fun c hc => .inl hc) hs10))); (have hs11 := HB11.out.size); (have hk11 := K11.lt); clear k0 k1 k2 k3 k4 k5 k6 hl11 hf11; (have k0 : World.cell? w11 ⟨w7.heap.size, 0, none⟩ = some (.int .i64 2) := by rw [Blk.cell K11]; rfl); (have k1 : World.cell? w11 ⟨w7.heap.size, 1, none⟩ = some (.int .i64 ((c : Int) + 1)) := by rw [Blk.cell K11]; rfl); (have k2 : World.cell? w11 ⟨w7.heap.size, 2, none⟩ = some (.int .i64 (1 + ((c : Int) + 1) % 3)) := by rw [Blk.cell K11]; rfl); (have k3 : World.cell? w11 ⟨w7.heap.size, 3, none⟩ = some (.int .i64 1000) := by rw [Blk.cell K11]; rfl); (have k4 : World.cell? w11 ⟨w7.heap.size, 4, none⟩ = some (.string ⟨#[107]⟩) := by rw [Blk.cell K11]; rfl); (have k5 : World.cell? w11 ⟨w7.heap.size, 5, none⟩ = some (.bool false) := by rw [Blk.cell K11]; rfl); (have k6 : World.cell? w11 ⟨w7.heap.size, 6, none⟩ = some (.string ⟨#[121]⟩) := by rw [Blk.cell K11]; rfl); clear K11)
              | (go_at_call 18; refine (get_live _ HL11.out).mono ?_; rintro e w12 ⟨rfl, hb12⟩; rw [HGV.out]; (have K12 := HK11.out.below hb12); (have HK12 := Lib.hid K12); (have HL12 := Lib.hid (HL11.out.below hb12)); (have HB12 := Lib.hid (HB11.out.trans (hb12.mono hs11))); (have hs12 := HB12.out.size); (have hk12 := K12.lt); clear k0 k1 k2 k3 k4 k5 k6 hb12; (have k0 : World.cell? w12 ⟨w7.heap.size, 0, none⟩ = some (.int .i64 2) := by rw [Blk.cell K12]; rfl); (have k1 : World.cell? w12 ⟨w7.heap.size, 1, none⟩ = some (.int .i64 ((c : Int) + 1)) := by rw [Blk.cell K12]; rfl); (have k2 : World.cell? w12 ⟨w7.heap.size, 2, none⟩ = some (.int .i64 (1 + ((c : Int) + 1) % 3)) := by rw [Blk.cell K12]; rfl); (have k3 : World.cell? w12 ⟨w7.heap.size, 3, none⟩ = some (.int .i64 1000) := by rw [Blk.cell K12]; rfl); (have k4 : World.cell? w12 ⟨w7.heap.size, 4, none⟩ = some (.string ⟨#[107]⟩) := by rw [Blk.cell K12]; rfl); (have k5 : World.cell? w12 ⟨w7.heap.size, 5, none⟩ = some (.bool false) := by rw [Blk.cell K12]; rfl); (have k6 : World.cell? w12 ⟨w7.heap.size, 6, none⟩ = some (.string ⟨#[121]⟩) := by rw [Blk.cell K12]; rfl); clear K12)
              | (go_at_call 15; refine (last_live HL12.out).mono ?_; rintro e w13 ⟨rfl, hb13⟩; rw [HLV.out]; (have K13 := HK12.out.below hb13); (have HB13 := Lib.hid (HB12.out.trans (hb13.mono hs12))); (have hk13 := K13.lt); clear k0 k1 k2 k3 k4 k5 k6 hb13; (have k0 : World.cell? w13 ⟨w7.heap.size, 0, none⟩ = some (.int .i64 2) := by rw [Blk.cell K13]; rfl); (have k1 : World.cell? w13 ⟨w7.heap.size, 1, none⟩ = some (.int .i64 ((c : Int) + 1)) := by rw [Blk.cell K13]; rfl); (have k2 : World.cell? w13 ⟨w7.heap.size, 2, none⟩ = some (.int .i64 (1 + ((c : Int) + 1) % 3)) := by rw [Blk.cell K13]; rfl); (have k3 : World.cell? w13 ⟨w7.heap.size, 3, none⟩ = some (.int .i64 1000) := by rw [Blk.cell K13]; rfl); (have k4 : World.cell? w13 ⟨w7.heap.size, 4, none⟩ = some (.string ⟨#[107]⟩) := by rw [Blk.cell K13]; rfl); (have k5 : World.cell? w13 ⟨w7.heap.size, 5, none⟩ = some (.bool false) := by rw [Blk.cell K13]; rfl); (have k6 : World.cell? w13 ⟨w7.heap.size, 6, none⟩ = some (.string ⟨#[121]⟩) := by rw [Blk.cell K13]; rfl); clear K13))
            go_wp2_with fail
            go_ret
            exact ⟨rfl, HB13.out⟩

end Go.Proofs.Ytedcdjlpogpgbaa
