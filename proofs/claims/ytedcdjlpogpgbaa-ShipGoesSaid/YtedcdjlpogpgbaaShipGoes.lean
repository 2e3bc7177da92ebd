/- StateGoes: the walk. -/
import Derived.Test.YtedcdjlpogpgbaaShipAwake
import Derived.Test.YtedcdjlpogpgbaaOpen
set_option linter.unusedVariables false
set_option linter.unusedSimpArgs false
namespace Go.Proofs.Ytedcdjlpogpgbaa
open Go.RowKit

theorem other_in {n : Int} (h2 : 2 ≤ n) (h4 : n ≤ 4) : otherB 1 n = true := by unfold otherB; rw [decide_eq_true_eq]; omega
theorem other_out {n : Int} (h : n < 2 ∨ 4 < n) : otherB 1 n = false := by unfold otherB; rw [decide_eq_false_iff_not]; omega
theorem plan_ask (E : List Ent) (n : Int) (h2 : 2 ≤ n) (h4 : n ≤ 4) : planE (newShip 1) (logSt E oneT) n = some [] := by
  have ht : (((logSt E oneT).table.length : Nat) : Int) = 1 := by rw [logSt_eq]; rfl
  unfold planE
  rw [ht, if_neg (by rw [show (newShip 1).me = 1 from rfl, other_in h2 h4]; simp), if_pos (known_new n)]
theorem plan_no (E : List Ent) (n : Int) (h : n < 2 ∨ 4 < n) : planE (newShip 1) (logSt E oneT) n = none := by
  unfold planE
  rw [if_pos (by rw [show (newShip 1).me = 1 from rfl, other_out h])]
theorem plan_on (f : Nat → ByteArray) (N : Nat) (n : Int) (p : Pos) (m : Nat) (h2 : 2 ≤ n) (h4 : n ≤ 4) (hp : p.i = (m : Int)) (hm : m ≤ N) :
    planE (toldF (newShip 1) n 1 p) (logSt (goesE f N) oneT) n = if N = m then none else some (((goesE f N).drop m).take 8) := by
  obtain ⟨_, h6, h7⟩ := told_new n p h2 h4
  have ht : (((logSt (goesE f N) oneT).table.length : Nat) : Int) = 1 := by rw [logSt_eq]; rfl
  unfold planE
  rw [ht, h6, h7, if_neg (by rw [other_in h2 h4]; simp), if_neg (by simp), goes_pos]
  show (if (N : Int) ≤ p.i then none else some (someE (logSt (goesE f N) oneT) (p.i + 1) 8)) = _
  rw [hp]
  by_cases h : N = m
  · rw [if_pos h, if_pos (by omega)]
  · rw [if_neg h, if_neg (by omega), goes_some f N m (by omega)]

attribute [local go_sem high] neq_pos eql_pos fld_index
set_option maxRecDepth 100000 in
set_option maxHeartbeats 16000000 in
theorem Goes_any (A : Option Addr) (n cp : Nat) (f : Nat → ByteArray) (told to_ : Int) (w : World) (hA : Strs A n f w.heap.size w) :
    Calls Try.prog 9 #[.slice A n cp, .int .i64 told, .int .i64 to_] w fun e w' => e = .returned (.bool true) ∧ Below w.heap.size w w' := by
  have HA := Lib.hid hA
  clear hA
  obtain ⟨N, hN⟩ : ∃ N : Nat, N = min n 60 := ⟨_, rfl⟩
  have hN1 : N ≤ n := by omega
  have hN2 : N ≤ 60 := by omega
  have hmin : min (n : Int) 60 = (N : Int) := by omega
  clear hN
  go_enter Try.func9, Try.ntmps9
  go_wp2_with fail
  refine (awake19_any _).mono ?_
  rintro e w1 ⟨rfl, hb1⟩
  have HB1 := Lib.hid hb1
  have hs1 := hb1.size
  clear hb1
  go_wp2_with fail
  refine (new_live _ oneT _ (sl_one (cs := epVal ⟨1, 0, false⟩) (T := 29) (by ((repeat' (first | with_reducible exact Blk.new _ _ _ | with_reducible apply Blk.drewN | with_reducible apply Blk.drew | with_reducible apply Blk.set' | (with_reducible apply Blk.set_other (hp := by first | assumption | (simp; done) | (simp; omega) | omega)) | (with_reducible apply Blk.new'; focus (first | (simp; done) | (simp; omega))) | with_reducible apply Blk.alloc)) <;> rfl))) oneT_right).mono ?_
  rintro e w2 ⟨b, rfl, hl2, hb2⟩
  have HB2 := Lib.hid ((by (repeat' (first | with_reducible exact HB1.out | with_reducible exact Below.refl _ _ | with_reducible refine below_drewN ?_ _ | with_reducible refine Below.drew ?_ | with_reducible refine Below.setCell ?_ (by first | exact Nat.le_refl _ | (simp; done) | (simp; omega) | omega) _ | with_reducible refine Below.alloc ?_ (by first | exact Nat.le_refl _ | (simp; done) | (simp; omega) | omega) _ | exact Below.refl _ _ | exact HB1.out)) : Below w.heap.size w _).trans (hb2.mono (by first | omega | (simp; omega))))
  have HL2 : Hid (Live (fun c => c < w.heap.size) w2 b (logSt (goesE f 0) oneT)) := Lib.hid (hl2.mono (G := fun c => c < w.heap.size) (fun c hc => by first | omega | (simp; omega)))
  clear hb2 hl2 HB1
  go_wp2_with fail
  clear hmin
  go_loopg [10] N (fun g v wr => ∃ k : Nat, k ≤ N ∧ v = .int .i64 ((k : Int) + 1) ∧ g = N - k ∧ Live (fun c => c < w.heap.size) wr b (logSt (goesE f k) oneT) ∧ Below w.heap.size w wr)
  case atStart => exact ⟨0, Nat.zero_le _, rfl, rfl, HL2.out, HB2.out⟩
  case round =>
    obtain ⟨k, hk, rfl, rfl, hl, hbr⟩ := hrel
    have hsr := hbr.size
    have HL := Lib.hid hl
    have HBR := Lib.hid hbr
    clear hl hbr HB2 HL2
    by_cases hlt : k < N
    · have d1 : decide ((k : Int) + 1 ≤ (N : Int)) = true := by rw [decide_eq_true_eq]; omega
      obtain ⟨kb, ko, hAe, hkb, hkc⟩ := HA.out k (by omega)
      subst hAe
      rw [← HBR.out.cell (p := ⟨kb, ko + k, none⟩) hkb] at hkc
      obtain ⟨key, hkey⟩ : ∃ key, f k = key := ⟨_, rfl⟩
      rw [hkey] at hkc
      have HKEY := Lib.hid hkey
      have hkn : k < n := by omega
      clear hkey
      have q0 : (0 : Int) ≤ (k : Int) := by omega
      have q1 : (k : Int) < (n : Int) := by omega
      have q2 : IntKind.i64.wrap (k : Int) = (k : Int) := wrap_small _ q0 (by omega)
      by_cases z1 : key.size < 1
      · have e1 : decide ((key.size : Int) < 1) = true := by rw [decide_eq_true_eq]; omega
        go_wp2_with fail
        go_ret
        exact ⟨rfl, HBR.out⟩
      · have e1 : decide ((key.size : Int) < 1) = false := by rw [decide_eq_false_iff_not]; omega
        by_cases z2 : 64 < key.size
        · have e2 : decide ((64 : Int) < key.size) = true := by rw [decide_eq_true_eq]; omega
          go_wp2_with fail
          go_ret
          exact ⟨rfl, HBR.out⟩
        · have e2 : decide ((64 : Int) < key.size) = false := by rw [decide_eq_false_iff_not]; omega
          have hap : Calls Try.prog 13 #[.pointer (some ⟨b, 0, none⟩), .agg (recVal 1 (goE ((k : Int) + 1) key) ⟨0, 0, false⟩ 0 zeroPos (.slice none 0 0) (.slice none 0 0))] wr (LiveRes (fun c => c < w.heap.size) b 0 (logSt (goesE f (k + 1)) oneT) wr) := by
            have := write_live (goE ((k : Int) + 1) key) ⟨0, 0, false⟩ 0 zeroPos none none 0 0 0 0 wr HL.out (fun c hc => Nat.lt_of_lt_of_le hc hsr) (goes_ok f k oneT (by omega) oneT_right) ⟨by show _ ≤ (k : Int) + 1; omega, by show (k : Int) + 1 ≤ _; omega⟩ (goes_check f k key (by omega) (by omega) (by omega)) (by rw [logSt_eq]; show (goesE f k).length ≤ 1000; rw [goesE_length]; omega)
            rw [wrote_log] at this
            rw [goesE_succ, HKEY.out]
            exact this
          unfold recVal goE at hap
          simp only [zeroPos] at hap
          have HAP := Lib.hid hap
          clear hap z1 z2
          go_wp2_with fail
          refine HAP.out.mono ?_
          rintro e w4 ⟨rfl, hl4, hf4⟩
          have HB4 := Lib.hid (HBR.out.trans (hf4.belowB hsr))
          have HL4 := Lib.hid hl4
          clear hl4 hf4 HAP
          go_wp2_with fail
          go_roundg (N - (k + 1))
          case measure => omega
          case rel => exact ⟨k + 1, by omega, by go_num, rfl, HL4.out, HB4.out⟩
    · have d1 : decide ((k : Int) + 1 ≤ (N : Int)) = false := by rw [decide_eq_false_iff_not]; omega
      obtain rfl : k = N := by omega
      have HOK := Lib.hid (goes_ok f k oneT (by omega) oneT_right)
      go_wp2_with fail
      refine (New_ship 1 _).mono ?_
      rintro e w3 ⟨rfl, hp3, hb3⟩
      have HP3 := Lib.hid hp3
      have HL3 := Lib.hid (HL.out.box hb3)
      have hs3 := hb3.size
      have hpl := Blk.lt hp3
      have HB3 := Lib.hid (HBR.out.trans (hb3.mono hsr))
      clear hp3 hb3 HL HBR
      by_cases c1 : to_ < 2 ∨ 4 < to_
      · have HPN := Lib.hid (plan_no (goesE f k) to_ c1)
        have hkz : knownF (newShip 1) to_ 1 = noFar := by unfold knownF; rw [if_neg (by simp [newShip])]
        have HKZ := Lib.hid hkz
        have d2 : (decide (to_ < 2) || decide (4 < to_)) = true := by simp only [Bool.or_eq_true, decide_eq_true_eq]; exact c1
        clear hkz
        go_wp2_with fail
        refine (plan_is _ _ (newShip 1) (goesE f k) to_ none _ HP3.out HL3.out HOK.out rfl HPN.out (by rw [HKZ.out]; decide) (by rw [HKZ.out]; decide)).mono ?_
        rintro e w4 ⟨v4, rfl, hb4, rfl⟩
        have HB4 := Lib.hid (HB3.out.trans (hb4.mono (by omega)))
        clear hb4
        by_cases c2 : to_ < 2
        · have d3 : decide (to_ < 2) = true := decide_eq_true c2
          go_wp2_with fail
          go_ret
          exact ⟨rfl, HB4.out⟩
        · have d3 : decide (to_ < 2) = false := decide_eq_false c2
          have d4 : decide (4 < to_) = true := decide_eq_true (by omega)
          go_wp2_with fail
          go_ret
          exact ⟨rfl, HB4.out⟩
      have t2 : 2 ≤ to_ := by omega
      have t4 : to_ ≤ 4 := by omega
      have d2 : decide (to_ < 2) = false := decide_eq_false (by omega)
      have d3 : decide (4 < to_) = false := decide_eq_false (by omega)
      have HPN := Lib.hid (plan_ask (goesE f k) to_ t2 t4)
      have hkz : knownF (newShip 1) to_ 1 = noFar := by unfold knownF; rw [if_neg (by simp [newShip])]
      have HKZ := Lib.hid hkz
      clear c1 hkz
      go_wp2_with fail
      refine (plan_is _ _ (newShip 1) (goesE f k) to_ (some []) _ HP3.out HL3.out HOK.out rfl HPN.out (by rw [HKZ.out]; decide) (by rw [HKZ.out]; decide)).mono ?_
      rintro e w4 ⟨v4, rfl, hb4, pb4, ev4, rfl, hg4, hm4, hv4⟩
      obtain ⟨A4, c4, rfl, _⟩ := hv4
      have HP4 : Hid (ShipAt w4 wr.heap.size (newShip 1)) := Lib.hid (Blk.below HP3.out hb4)
      have HL4 := Lib.hid (HL3.out.below hb4)
      have HB4 := Lib.hid (HB3.out.trans (hb4.mono (by omega)))
      have m3 : w4.cell? ⟨pb4, 3, none⟩ = some (.slice A4 0 c4) := by rw [hm4.cell]; rfl
      have hs4 := HB4.out.size
      have hml4 := hm4.lt
      clear hb4 hm4 HP3 HL3 HB3 HPN HKZ
      by_cases c2 : told < 0
      · have d4 : decide (told < 0) = true := decide_eq_true c2
        go_wp2_with fail
        go_ret
        exact ⟨rfl, HB4.out⟩
      have d4 : decide (told < 0) = false := decide_eq_false c2
      by_cases c3 : (k : Int) < told
      · have d5 : decide ((k : Int) < told) = true := decide_eq_true c3
        go_wp2_with fail
        go_ret
        exact ⟨rfl, HB4.out⟩
      have d5 : decide ((k : Int) < told) = false := decide_eq_false c3
      obtain ⟨m, rfl⟩ : ∃ m : Nat, told = (m : Int) := ⟨told.toNat, by omega⟩
      have hmk : m ≤ k := by omega
      clear c2 c3 d4
      have d4 : decide ((m : Int) < 0) = false := decide_eq_false (by omega)
      obtain ⟨p, hp, hpe⟩ : ∃ p : Pos, p.i = (m : Int) ∧ ((p = ⟨1, (m : Int)⟩ ∧ decide (0 < m) = true) ∨ (p = ⟨0, 0⟩ ∧ decide (0 < m) = false)) := by
        by_cases c : 0 < m
        · exact ⟨⟨1, m⟩, rfl, .inl ⟨rfl, decide_eq_true c⟩⟩
        · exact ⟨⟨0, 0⟩, by show (0 : Int) = _; omega, .inr ⟨rfl, decide_eq_false c⟩⟩
      obtain ⟨hto, hme, hkn⟩ := told_new to_ p t2 t4
      obtain ⟨S, hS⟩ : ∃ S, toldF (newShip 1) to_ 1 p = S := ⟨_, rfl⟩
      have hpo := plan_on f k to_ p m t2 t4 hp hmk
      rw [hS] at hme hkn hpo
      have HPO := Lib.hid hpo
      have HME := Lib.hid hme
      have hkb : 0 ≤ (knownF S to_ 1).p.i ∧ (knownF S to_ 1).p.i ≤ 600 := by rw [hkn]; show 0 ≤ p.i ∧ p.i ≤ 600; omega
      have HKN := Lib.hid hkb
      have hts : ∀ W : World, ShipAt W wr.heap.size (newShip 1) → Calls Try.prog 40 #[.pointer (some ⟨wr.heap.size, 0, none⟩), .int .i64 to_, .int .i64 1, .agg #[.int .i64 p.e, .int .i64 p.i]] W (fun e w' => e = .returned (.bool true) ∧ ShipAt w' wr.heap.size S ∧ Frm (fun k => k = wr.heap.size) W w') := fun W hW => by
        have := Told_ship wr.heap.size (newShip 1) to_ 1 p W hW
        unfold ToldShip at this
        rw [hto, hS] at this
        exact this
      have HTS := Lib.hid hts
      clear hp hpo hme hkn hkb hts hto hS
      have ne1 : wr.heap.size ≠ w4.heap.size := by have := Blk.lt HP4.out; omega
      rcases hpe with ⟨rfl, d6⟩ | ⟨rfl, d6⟩
      all_goals
        go_wp2_with fail
        refine (HTS.out _ (Blk.below HP4.out (by (repeat' (first | with_reducible exact Below.refl _ _ | with_reducible refine below_drewN ?_ _ | with_reducible refine Below.drew ?_ | with_reducible refine Below.setCell ?_ (by first | exact Nat.le_refl _ | (simp; done) | (simp; omega) | omega) _ | with_reducible refine Below.alloc ?_ (by first | exact Nat.le_refl _ | (simp; done) | (simp; omega) | omega) _ | exact Below.refl _ _))))).mono ?_
        rintro e w5 ⟨rfl, hp5, hf5⟩
        have HP5 := Lib.hid hp5
        have HL5 := Lib.hid ((HL4.out.below (by (repeat' (first | with_reducible exact Below.refl _ _ | with_reducible refine below_drewN ?_ _ | with_reducible refine Below.drew ?_ | with_reducible refine Below.setCell ?_ (by first | exact Nat.le_refl _ | (simp; done) | (simp; omega) | omega) _ | with_reducible refine Below.alloc ?_ (by first | exact Nat.le_refl _ | (simp; done) | (simp; omega) | omega) _ | exact Below.refl _ _)))).frm hf5 (fun c hc => .inr hc))
        have HB5 : Hid (Below w.heap.size w w5) := Lib.hid ((by (repeat' (first | with_reducible exact HB4.out | with_reducible exact Below.refl _ _ | with_reducible refine below_drewN ?_ _ | with_reducible refine Below.drew ?_ | with_reducible refine Below.setCell ?_ (by first | exact Nat.le_refl _ | (simp; done) | (simp; omega) | omega) _ | with_reducible refine Below.alloc ?_ (by first | exact Nat.le_refl _ | (simp; done) | (simp; omega) | omega) _ | exact Below.refl _ _ | exact HB4.out)) : Below w.heap.size w _).trans ⟨hf5.os, hf5.tape, hf5.output, hf5.size, fun q hq => hf5.block q (by first | omega | (simp; omega)) (by omega)⟩)
        have hs5 := HB5.out.size
        clear hp5 hf5 HP4 HL4 HB4 HTS
        by_cases c6 : k = m
        · have d7 : ((m : Int) == (k : Int)) = true := by rw [beq_iff_eq]; omega
          have HPO' := Lib.hid (show planE S (logSt (goesE f k) oneT) to_ = none by rw [HPO.out, if_pos c6])
          go_wp2_with fail
          refine (plan_is _ _ S (goesE f k) to_ none _ HP5.out HL5.out HOK.out HME.out HPO'.out HKN.out.1 HKN.out.2).mono ?_
          rintro e w6 ⟨v6, rfl, hb6, rfl⟩
          have HB6 := Lib.hid (HB5.out.trans (hb6.mono hs5))
          clear hb6
          go_wp2_with fail
          go_ret
          exact ⟨rfl, HB6.out⟩
        · have d7 : ((m : Int) == (k : Int)) = false := by rw [beq_eq_false_iff_ne]; omega
          have hmk2 : m < k := by omega
          obtain ⟨l, hl⟩ : ∃ l, ((goesE f k).drop m).take 8 = l := ⟨_, rfl⟩
          have HPO' := Lib.hid (show planE S (logSt (goesE f k) oneT) to_ = some l by rw [HPO.out, if_neg c6, hl])
          have hll : l.length = min (k - m) 8 := by rw [← hl]; exact goes_some_len f k m hmk2
          have hle : ∀ i, i < min (k - m) 8 → en l i = goE (((m + i : Nat) : Int) + 1) (f (m + i)) := fun i hi => by rw [← hl]; exact goes_en f k m i hi
          obtain ⟨M, hM⟩ : ∃ M, min (k - m) 8 = M := ⟨_, rfl⟩
          rw [hM] at hll hle
          have hM1 : M ≤ 8 := by omega
          have hM2 : M ≤ k - m := by omega
          have hM3 : 0 < M := by omega
          have d8 : ((M : Int) != min ((k : Int) - (m : Int)) 8) = false := by rw [bne_eq_false_iff_eq]; omega
          have HLL := Lib.hid hll
          have HLE := Lib.hid hle
          have q3 : IntKind.i64.wrap ((k : Int) - (m : Int)) = (k : Int) - (m : Int) := wrap_small _ (by omega) (by omega)
          clear c6 hl hll hle hM
          go_wp2_with fail
          refine (plan_is _ _ S (goesE f k) to_ (some l) _ HP5.out HL5.out HOK.out HME.out HPO'.out HKN.out.1 HKN.out.2).mono ?_
          rintro e w6 ⟨v6, rfl, hb6, pb6, ev6, rfl, hg6, hm6, hv6⟩
          rw [HLL.out] at hv6
          obtain ⟨A6, c6, rfl, _⟩ := id hv6
          have HV6 := Lib.hid hv6
          have m6 : w6.cell? ⟨pb6, 3, none⟩ = some (.slice A6 M c6) := by rw [hm6.cell]; rfl
          have hml6 := hm6.lt
          have HB6 := Lib.hid (HB5.out.trans (hb6.mono hs5))
          have hs6 := HB6.out.size
          have HA6 : Hid (Strs A n f w6.heap.size w6) := Lib.hid (fun j hj => by
            obtain ⟨b', o', h1, h2, h3⟩ := HA.out j hj
            exact ⟨b', o', h1, Nat.lt_of_lt_of_le h2 HB6.out.size, by rw [HB6.out.cell (p := ⟨b', o' + j, none⟩) h2]; exact h3⟩)
          clear hv6 hm6 hb6 HP5 HL5 HB5 HA HPO HPO' HME HKN HOK d6 d7
          go_wp2_with fail
          obtain ⟨wo, rfl⟩ : ∃ wo : World, wo = wr := ⟨_, rfl⟩
          go_loopg [146] M (fun g v wr => ∃ i : Nat, i ≤ M ∧ v = .int .i64 (i : Int) ∧ g = M - i ∧ Below w6.heap.size w6 wr)
          case atStart => exact ⟨0, Nat.zero_le _, rfl, rfl, Below.refl _ _⟩
          case round =>
            obtain ⟨i, hi, rfl, rfl, hbr⟩ := hrel
            have hsr2 := hbr.size
            have HBR := Lib.hid hbr
            clear hbr m6
            by_cases hlt2 : i < M
            · have d9 : decide ((i : Int) < (M : Int)) = true := by rw [decide_eq_true_eq]; omega
              obtain ⟨eb, eo, hA1, heb, hcells⟩ := ents_cells HV6.out HLL.out hM3
              subst hA1
              have hce := hcells wr HBR.out i hlt2
              rw [HLE.out i hlt2] at hce
              unfold EntAt goE at hce
              obtain ⟨a0, a1, a2, a3, a4, a5, a6⟩ := hce
              dsimp only at a0 a1 a2 a3 a4 a5 a6
              obtain ⟨kb, ko, hAe, hkb, hkc0⟩ := HA6.out (m + i) (by omega)
              subst hAe
              have hke : ∀ W : World, Below w6.heap.size w6 W → W.cell? ⟨kb, ko + (m + i), none⟩ = some (.string (f (m + i))) := fun W hW => by rw [hW.cell (p := ⟨kb, ko + (m + i), none⟩) hkb]; exact hkc0
              have HKE := Lib.hid hke
              have q0 : (0 : Int) ≤ (i : Int) := by omega
              have q1 : (i : Int) < (M : Int) := by omega
              obtain ⟨key, hkey⟩ : ∃ key, f (m + i) = key := ⟨_, rfl⟩
              have hix : ((m + i : Nat) : Int) + 1 = (m : Int) + 1 + (i : Int) := by omega
              rw [hkey] at a4
              rw [hix] at a1 a3
              have HKEY := Lib.hid hkey
              clear hke hkc0 hcells hix hkey
              go_upto_region 31 with (fail)
              refine wp_name ?_
              intro w7 hw7
              have hx7 : Blk w7 wr.heap.size #[.int .i64 1, .int .i64 ((m : Int) + 1 + (i : Int)), .int .i64 1, .int .i64 ((m : Int) + 1 + (i : Int)), .string key, .bool false, .string ⟨#[]⟩] 35 := by rw [hw7]; ((repeat' (first | with_reducible exact Blk.new _ _ _ | with_reducible apply Blk.drewN | with_reducible apply Blk.drew | with_reducible apply Blk.set' | (with_reducible apply Blk.set_other (hp := by first | assumption | (simp; done) | (simp; omega) | omega)) | (with_reducible apply Blk.new'; focus (first | (simp; done) | (simp; omega))) | with_reducible apply Blk.alloc)) <;> rfl)
              have hb7 : Below w6.heap.size w6 w7 := by rw [hw7]; (repeat' (first | with_reducible exact HBR.out | with_reducible exact Below.refl _ _ | with_reducible refine below_drewN ?_ _ | with_reducible refine Below.drew ?_ | with_reducible refine Below.setCell ?_ (by first | exact Nat.le_refl _ | (simp; done) | (simp; omega) | omega) _ | with_reducible refine Below.alloc ?_ (by first | exact Nat.le_refl _ | (simp; done) | (simp; omega) | omega) _ | exact Below.refl _ _ | exact HBR.out))
              have kc := HKE.out w7 hb7
              rw [HKEY.out] at kc
              have x1 : World.cell? w7 ⟨wr.heap.size, 1, none⟩ = some (.int .i64 ((m : Int) + 1 + (i : Int))) := by rw [Blk.cell hx7]; rfl
              have x4 : World.cell? w7 ⟨wr.heap.size, 4, none⟩ = some (.string key) := by rw [Blk.cell hx7]; rfl
              have HB7 := Lib.hid hb7
              have q4 : IntKind.i64.wrap ((m : Int) + 1) = (m : Int) + 1 := wrap_small _ (by omega) (by omega)
              have q5 : IntKind.i64.wrap ((m : Int) + 1 + (i : Int)) = (m : Int) + 1 + (i : Int) := wrap_small _ (by omega) (by omega)
              have q6 : IntKind.i64.wrap ((m : Int) + (i : Int)) = (m : Int) + (i : Int) := wrap_small _ (by omega) (by omega)
              have q7 : (0 : Int) ≤ (m : Int) + (i : Int) := by omega
              have q8 : (m : Int) + (i : Int) < (n : Int) := by omega
              have q9 : ((m : Int) + (i : Int)).toNat = m + i := by omega
              clear hw7 hx7 hb7 a0 a1 a2 a3 a4 a5 a6
              go_quiet (fail)
              go_wp2_with fail
              go_roundg (M - (i + 1))
              case measure => omega
              case rel => exact ⟨i + 1, by omega, by go_num, rfl, by (repeat' (first | with_reducible exact HB7.out | with_reducible exact Below.refl _ _ | with_reducible refine below_drewN ?_ _ | with_reducible refine Below.drew ?_ | with_reducible refine Below.setCell ?_ (by first | exact Nat.le_refl _ | (simp; done) | (simp; omega) | omega) _ | with_reducible refine Below.alloc ?_ (by first | exact Nat.le_refl _ | (simp; done) | (simp; omega) | omega) _ | exact Below.refl _ _ | exact HB7.out))⟩
            · have d9 : decide ((i : Int) < (M : Int)) = false := by rw [decide_eq_false_iff_not]; omega
              go_wp2_with fail
              go_ret
              exact ⟨rfl, HB6.out.trans (HBR.out.mono hs6)⟩

end Go.Proofs.Ytedcdjlpogpgbaa
