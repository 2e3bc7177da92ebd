/- StateInstalls: the walk. -/
import Derived.Test.YtedcdjlpogpgbaaC9
set_option linter.unusedVariables false
set_option linter.unusedSimpArgs false
namespace Go.Proofs.Ytedcdjlpogpgbaa
open Go.RowKit

/-- What was made since lies apart from a state that stood before. -/
theorem Live.since {F : Nat → Prop} {w w' : World} {b : Nat} {s : St} (h : Live F w b s) (f : Below w.heap.size w w') : Live (fun c => F c ∨ (w.heap.size ≤ c ∧ c < w'.heap.size)) w' b s := by
  obtain ⟨L, h1, h2, h3⟩ := h
  refine ⟨L, h1, h2.below f, fun c hc hg => ?_⟩
  rcases hg with hg | hg
  · exact h3 c hc hg
  · have := h2.lt c hc; omega
/-- A state's own snapshot, as a record. -/
def snapRec (s : St) (pv sv : Value) : RecD := ⟨4, ⟨⟨0, 0⟩, 0, 0, ⟨#[]⟩, false, ⟨#[]⟩⟩, ⟨0, 0, false⟩, 0, ⟨s.pos, pv, sv, s.keys, sortS s.seen⟩⟩
theorem install_zero {s : St} (h : SInv s) (hz : s.pos = zeroPos) (pv sv : Value) : checkN (logSt [] s.table) (snapRec s pv sv) = 2 ∧ applyF (logSt [] s.table) (snapRec s pv sv) = logSt [] s.table ∧ s.keys = [] ∧ sortS s.seen = [] := by
  have ht := h.told.1
  rw [hz] at ht
  obtain ⟨h1, h2⟩ := ht.empty h.right
  have hc : checkN (logSt [] s.table) (snapRec s pv sv) = 2 := by
    show installE (logSt [] s.table) s.pos s.keys (sortS s.seen) = 2
    unfold installE
    rw [logSt_nil]
    show (if (false : Bool) = true then (10 : Int) else if rightSnapB s.table s.pos s.keys (sortS s.seen) = false then 2 else if s.pos.i ≤ 0 then 11 else 0) = 2
    rw [if_neg (by simp), if_pos]
    rw [hz]; rfl
  refine ⟨hc, by unfold applyF; rw [if_pos (by rw [hc]; decide)], h1, ?_⟩
  rw [h2]; unfold sortS; simp
theorem install_told {s : St} (h : SInv s) (hz : s.pos ≠ zeroPos) (pv sv : Value) :
    checkN (logSt [] s.table) (snapRec s pv sv) = 0 ∧ (applyF (logSt [] s.table) (snapRec s pv sv)).pos = s.pos ∧ (applyF (logSt [] s.table) (snapRec s pv sv)).base.pos = s.pos ∧ (applyF (logSt [] s.table) (snapRec s pv sv)).keys = s.keys ∧ sortS (applyF (logSt [] s.table) (snapRec s pv sv)).seen = sortS s.seen := by
  have ht := h.told.1
  have hon : OnP s.table s.pos := ht.on.resolve_left hz
  have hr : rightSnapB s.table s.pos s.keys (sortS s.seen) = true := rs_right h.right (ht.perm (sortS_perm _)) (rise_sortS ht.dif) hon
  have hp := hon.pos h.right
  have hc : checkN (logSt [] s.table) (snapRec s pv sv) = 0 := by
    show installE (logSt [] s.table) s.pos s.keys (sortS s.seen) = 0
    unfold installE
    rw [logSt_nil]
    show (if (false : Bool) = true then (10 : Int) else if rightSnapB s.table s.pos s.keys (sortS s.seen) = false then 2 else if s.pos.i ≤ 0 then 11 else 0) = 0
    rw [if_neg (by simp), if_neg (by rw [hr]; simp), if_neg (by omega)]
  have hE : applyF (logSt [] s.table) (snapRec s pv sv) = installF (logSt [] s.table) s.pos s.keys (sortS s.seen) := by
    unfold applyF
    rw [if_neg (by rw [hc]; simp)]
    rfl
  rw [hE]
  exact ⟨hc, rfl, rfl, rfl, sortS_sortS _⟩

attribute [local go_sem high] neq_pos eql_pos
attribute [local go_sem ↓] loadRd_eq
set_option maxRecDepth 100000 in
set_option maxHeartbeats 16000000 in
theorem Installs_any (A : Option Addr) (n cp : Nat) (l : List RecD) (w : World) (hS : Script w A n cp l) :
    Calls Try.prog 6 #[.slice A n cp] w fun e w' => e = .returned (.bool true) ∧ Below w.heap.size w w' := by
  have hmax : n ≤ 9223372036854775807 := by
    obtain ⟨_, ⟨A', c', hv, h1, h2, _⟩, _⟩ := hS
    injection hv with _ _ h3; subst h3; unfold maxLen at h2; omega
  have HS := Lib.hid hS
  clear hS
  go_enter Try.func6, Try.ntmps6
  go_wp2_with fail
  refine (awake_any _).mono ?_
  rintro e w1 ⟨rfl, hb1⟩
  have HB1 := Lib.hid hb1
  have hs1 := hb1.size
  clear hb1
  go_wp2_with fail
  refine (one_any _).mono ?_
  rintro e w2 ⟨v, rfl, hv, hb2⟩
  have HB2 := Lib.hid (HB1.out.trans (hb2.mono hs1))
  have hs2 := HB2.out.size
  clear hb2
  go_wp2_with fail
  refine (new_live v oneT w2 hv oneT_right).mono ?_
  rintro e w3 ⟨b, rfl, hl3, hb3⟩
  have HB3 := Lib.hid (HB2.out.trans (hb3.mono hs2))
  have HL3 : Hid (Live (fun c => c < w.heap.size) w3 b (logSt [] oneT)) := Lib.hid (hl3.mono (G := fun c => c < w.heap.size) (fun c hc => by omega))
  clear hv hl3 hb3
  go_wp2_with fail
  go_loopg [5] 60 (fun g i wr => ∃ (k : Nat) (s : St), k ≤ 60 ∧ k ≤ n ∧ g = 60 - k ∧ i = .int .i64 (k : Int) ∧ Live (fun c => c < w.heap.size) wr b s ∧ SInv s ∧ s.bulk ≤ 1000 + k ∧ Below w.heap.size w wr)
  case atStart => exact ⟨0, logSt [] oneT, by omega, Nat.zero_le _, rfl, rfl, HL3.out, inv_start oneT_right, by rw [logSt_nil]; simp [St.bulk, emptySnap], HB3.out⟩
  case round =>
    obtain ⟨k, s, hk, hkn, rfl, rfl, hl, hinv, hbk, hbr⟩ := hrel
    have hsr := hbr.size
    have HL := Lib.hid hl
    have HI := Lib.hid hinv
    have HBK := Lib.hid hbk
    have HBR := Lib.hid hbr
    clear hl hinv hbk hbr HB3 HL3
    by_cases hb : k < n ∧ k < 60
    · obtain ⟨hlt, hlt6⟩ := hb
      have d1 : decide ((k : Int) < (n : Int)) = true := by rw [decide_eq_true_eq]; omega
      have d2 : decide ((k : Int) < 60) = true := by rw [decide_eq_true_eq]; omega
      obtain ⟨sb, so, r, rfl, hsb, hrp, hrs, hrl⟩ := HS.out.elem hlt
      have HRP := Lib.hid hrp
      have HRS := Lib.hid hrs
      have HRL := Lib.hid hrl
      have hld := HRL.out wr HBR.out
      unfold RecD.val recVal at hld
      have q0 : (0 : Int) ≤ (k : Int) := by omega
      have q1 : (k : Int) < (n : Int) := by omega
      clear hrp hrs hrl
      go_wp2_with fail
      refine (Light_any r.kind r.x r.e r.cfg r.d.pos r.d.pv r.d.sv r.d.ps r.d.ss wr (HRP.out.below HBR.out) (HRS.out.below HBR.out)).mono ?_
      rintro e w5 ⟨lb, rfl, hlb, hb5⟩
      have HB5 := Lib.hid (HBR.out.trans (hb5.mono hsr))
      have HL5 := Lib.hid (HL.out.below hb5)
      have hs5 := HB5.out.size
      clear hb5 hld
      cases lb with
      | false =>
        go_wp2_with fail
        go_ret
        exact ⟨rfl, HB5.out⟩
      | true =>
        obtain ⟨hl1, hl2⟩ := hlb rfl
        have HLL := Lib.hid (And.intro hl1 hl2)
        have hld := HRL.out w5 HB5.out
        unfold RecD.val recVal at hld
        clear hlb hl1 hl2
        go_wp2_with fail
        refine (Plain_any r.kind r.x r.e r.cfg r.d.pos r.d.pv r.d.sv r.d.ps r.d.ss w5 (HRP.out.below HB5.out) (HRS.out.below HB5.out) (by have := HLL.out; omega) (by have := HLL.out; omega)).mono ?_
        rintro e w6 ⟨pv, sv, rfl, hp6, hs6, _, _, hb6⟩
        have HB6 := Lib.hid (HB5.out.trans (hb6.mono hs5))
        have HL6 := Lib.hid (HL5.out.below hb6)
        have hsz6 := HB6.out.size
        have hap := apply_inv r pv sv w6 (1000 + k) HL6.out (fun c hc => Nat.lt_of_lt_of_le hc hsz6) HI.out HBK.out (by omega) (own_sl hp6) (own_sl hs6) (by have := HLL.out; omega) (by have := HLL.out; omega)
        have HAP := Lib.hid hap
        clear hp6 hs6 hb6 hap hld
        unfold recVal
        go_wp2_with fail
        refine HAP.out.mono ?_
        rintro e w7 ⟨rfl, hl7, hf7⟩
        have HB7 := Lib.hid (HB6.out.trans (hf7.belowB hsz6))
        have HL7 := Lib.hid hl7
        clear hl7 hf7 HAP
        go_wp2_with fail
        go_roundg (60 - (k + 1))
        case measure => omega
        case rel => exact ⟨k + 1, applyF s r, by omega, by omega, rfl, by go_num, HL7.out, inv_apply HI.out r, bulk_apply HI.out r (1000 + k) HBK.out (by omega) HLL.out.1, HB7.out⟩
    · have hd : (decide ((k : Int) < (n : Int)) = false ∧ decide (k < n) = false) ∨ (k = 60 ∧ decide ((60 : Int) < (n : Int)) = true ∧ decide (60 < n) = true) := by
        simp only [decide_eq_false_iff_not, decide_eq_true_eq]; omega
      have hk2 : k ≤ 60 := by omega
      have hkeys := HI.out.keys_le HBK.out
      have hlen := HI.out.len
      have hzz : s.pos = zeroPos ∨ s.pos ≠ zeroPos := by by_cases h : s.pos = zeroPos <;> simp [h]
      have HZZ := Lib.hid hzz
      clear hb hzz
      rcases hd with ⟨d1, d2⟩ | ⟨rfl, d1, d2⟩
      all_goals
        go_wp2_with fail
        refine (table_live HL.out (by omega)).mono ?_
        rintro e w5 ⟨v5, rfl, ho5, _, hb5⟩
        have HB5 := Lib.hid (HBR.out.trans (hb5.mono hsr))
        have HL5 := Lib.hid (HL.out.below hb5)
        have hs5 := HB5.out.size
        have HO5 := Lib.hid (own_sl ho5)
        clear ho5 hb5 HL
        go_wp2_with fail
        refine (new_live v5 s.table w5 HO5.out HI.out.right).mono ?_
        rintro e w6 ⟨b2, rfl, hl6, hb6⟩
        have HC6 := Lib.hid hl6
        have HX6 := Lib.hid hb6
        have hs6 := hb6.size
        have HB67 : Hid (∀ W, Below w6.heap.size w6 W → Live (fun c => c < w5.heap.size ∨ (w6.heap.size ≤ c ∧ c < W.heap.size)) W b2 (logSt [] s.table)) := Lib.hid (fun W hW => hl6.since hW)
        clear hl6 hb6
        go_wp2_with fail
        refine (snapshot_live (HL5.out.below HX6.out) (by omega) (by have := HI.out.told.1.few; omega)).mono ?_
        rintro e w7 ⟨pv, sv, rfl, hp7, hs7, hn7, hm7, hb7⟩
        obtain ⟨pA, pc, rfl, _⟩ := own_sl hp7
        obtain ⟨sA, sc, rfl, _⟩ := own_sl hs7
        have HP7 := Lib.hid hp7
        have HS7 := Lib.hid hs7
        have HN7 := Lib.hid hn7
        have HM7 := Lib.hid hm7
        have HY7 := Lib.hid hb7
        have HX7 := Lib.hid (HX6.out.trans (hb7.mono hs6))
        have hs7' := HX7.out.size
        have hs67 := hb7.size
        clear hp7 hs7 hb7 hn7 hm7
        unfold snapVal
        go_upto_region 14 with (fail)
        refine wp_name ?_
        intro w8 hw8
        have h8 : Blk w8 w7.heap.size #[.int .i64 s.pos.e, .int .i64 s.pos.i, .slice pA s.keys.length pc, .slice sA (sortS s.seen).length sc] 40 := by rw [hw8]; ((repeat' (first | with_reducible exact Blk.new _ _ _ | with_reducible apply Blk.drewN | with_reducible apply Blk.drew | with_reducible apply Blk.set' | (with_reducible apply Blk.set_other (hp := by first | assumption | (simp; done) | (simp; omega) | omega)) | (with_reducible apply Blk.new'; focus (first | (simp; done) | (simp; omega))) | with_reducible apply Blk.alloc)) <;> rfl)
        have hb8 : Below w7.heap.size w7 w8 := by rw [hw8]; (repeat' (first | with_reducible exact Below.refl _ _ | with_reducible refine below_drewN ?_ _ | with_reducible refine Below.drew ?_ | with_reducible refine Below.setCell ?_ (by first | exact Nat.le_refl _ | (simp; done) | (simp; omega) | omega) _ | with_reducible refine Below.alloc ?_ (by first | exact Nat.le_refl _ | (simp; done) | (simp; omega) | omega) _ | exact Below.refl _ _))
        clear hw8
        have HX8 := Lib.hid (HX7.out.trans (hb8.mono hs7'))
        have HY8 := Lib.hid (HY7.out.trans (hb8.mono hs67))
        have HC8 := Lib.hid (HB67.out w8 HY8.out)
        have x0 : World.cell? w8 ⟨w7.heap.size, 0, none⟩ = some (.int .i64 s.pos.e) := by rw [Blk.cell h8]; rfl
        have x1 : World.cell? w8 ⟨w7.heap.size, 1, none⟩ = some (.int .i64 s.pos.i) := by rw [Blk.cell h8]; rfl
        have x2 : World.cell? w8 ⟨w7.heap.size, 2, none⟩ = some (.slice pA s.keys.length pc) := by rw [Blk.cell h8]; rfl
        have x3 : World.cell? w8 ⟨w7.heap.size, 3, none⟩ = some (.slice sA (sortS s.seen).length sc) := by rw [Blk.cell h8]; rfl
        have HP8 := Lib.hid (own_frm HP7.out (Frm.ofBelow (F := fun _ => False) hb8) (fun _ _ h => h))
        have HS8 := Lib.hid (own_frm HS7.out (Frm.ofBelow (F := fun _ => False) hb8) (fun _ _ h => h))
        have hs8 := HX8.out.size
        have hs68 := HY8.out.size
        have hfew : (sortS s.seen).length ≤ 16 := by rw [(sortS_perm _).length_eq]; exact HI.out.told.1.few
        have hap := apply_inv (snapRec s (.slice pA s.keys.length pc) (.slice sA (sortS s.seen).length sc)) (.slice pA s.keys.length pc) (.slice sA (sortS s.seen).length sc) w8 2000 HC8.out (fun c hc => by omega) (inv_start HI.out.right) (by rw [logSt_nil]; simp [St.bulk, emptySnap]) (by omega) (own_sl HP8.out) (own_sl HS8.out) (by show s.keys.length ≤ _; omega) (by show (sortS s.seen).length ≤ _; omega)
        obtain ⟨N, hN⟩ : ∃ N, checkN (logSt [] s.table) (snapRec s (.slice pA s.keys.length pc) (.slice sA (sortS s.seen).length sc)) = N := ⟨_, rfl⟩
        obtain ⟨C, hC⟩ : ∃ C, applyF (logSt [] s.table) (snapRec s (.slice pA s.keys.length pc) (.slice sA (sortS s.seen).length sc)) = C := ⟨_, rfl⟩
        have hzero := fun hz => install_zero HI.out hz (.slice pA s.keys.length pc) (.slice sA (sortS s.seen).length sc)
        have htold := fun hz => install_told HI.out hz (.slice pA s.keys.length pc) (.slice sA (sortS s.seen).length sc)
        rw [hN, hC] at hap hzero htold
        have hCI : SInv C := by rw [← hC]; exact inv_apply (inv_start HI.out.right) _
        have HCI := Lib.hid hCI
        have HZERO := Lib.hid hzero
        have HTOLD := Lib.hid htold
        unfold snapRec recVal at hap
        have HAP := Lib.hid hap
        have H8 := Lib.hid h8
        have e8 := h8.lt
        clear h8 hb8 hap hN hC hzero htold hCI
        go_wp2_with fail
        refine HAP.out.mono ?_
        rintro e w9 ⟨rfl, hl9, hf9⟩
        have hx9 : Blk w9 w7.heap.size #[.int .i64 s.pos.e, .int .i64 s.pos.i, .slice pA s.keys.length pc, .slice sA (sortS s.seen).length sc] 40 := H8.out.frm hf9 (fun h => h (.inr ⟨by omega, by omega⟩))
        have HP9 := Lib.hid (own_sl (own_frm HP8.out hf9 (fun c hc hn => hn (.inr ⟨HN7.out c hc, own_lt HP8.out hc⟩))))
        have HS9 := Lib.hid (own_sl (own_frm HS8.out hf9 (fun c hc hn => hn (.inr ⟨HM7.out c hc, own_lt HS8.out hc⟩))))
        have HX9 := Lib.hid (HX8.out.trans (hf9.belowF (B := w5.heap.size) (fun c hc => .inl hc) hs8))
        have HC9 := Lib.hid hl9
        have HL9 := Lib.hid (HL5.out.below HX9.out)
        have e9 := hx9.lt
        have hs9 := HX9.out.size
        clear x0 x1 x2 x3
        have x0 : World.cell? w9 ⟨w7.heap.size, 0, none⟩ = some (.int .i64 s.pos.e) := by rw [Blk.cell hx9]; rfl
        have x1 : World.cell? w9 ⟨w7.heap.size, 1, none⟩ = some (.int .i64 s.pos.i) := by rw [Blk.cell hx9]; rfl
        have x2 : World.cell? w9 ⟨w7.heap.size, 2, none⟩ = some (.slice pA s.keys.length pc) := by rw [Blk.cell hx9]; rfl
        have x3 : World.cell? w9 ⟨w7.heap.size, 3, none⟩ = some (.slice sA (sortS s.seen).length sc) := by rw [Blk.cell hx9]; rfl
        have H9 := Lib.hid hx9
        clear hl9 hf9 hx9 HAP
        rcases HZZ.out with hz | hz
        · obtain ⟨rfl, _, h2, h3⟩ := HZERO.out hz
          have hpz : posEq s.pos.e s.pos.i 0 0 = true := posEq_zero.2 hz
          rw [h2] at x2
          rw [h3] at x3
          simp only [List.length_nil] at x2 x3
          clear h2 h3 hz
          go_wp2_with fail
          go_ret
          exact ⟨rfl, HB5.out.trans (HX9.out.mono hs5)⟩
        · obtain ⟨rfl, h2, h3, h4, h5⟩ := HTOLD.out hz
          have hpz : posEq s.pos.e s.pos.i 0 0 = false := by
            cases hq : posEq s.pos.e s.pos.i 0 0 with
            | false => rfl
            | true => exact absurd (posEq_zero.1 hq) hz
          have hpq : posEq s.pos.e s.pos.i s.pos.e s.pos.i = true := by simp [posEq]
          have HA1 : Hid (∀ W, Below w9.heap.size w9 W → Calls Try.prog 15 #[.pointer (some ⟨b2, 0, none⟩)] W fun e w' => e = .returned (.agg #[.int .i64 s.pos.e, .int .i64 s.pos.i]) ∧ Below W.heap.size W w') := Lib.hid (fun W hW => by have := last_live (HC9.out.below hW); rw [h2] at this; exact this)
          have HA2 : Hid (∀ W, Below w9.heap.size w9 W → Calls Try.prog 15 #[.pointer (some ⟨b, 0, none⟩)] W fun e w' => e = .returned (.agg #[.int .i64 s.pos.e, .int .i64 s.pos.i]) ∧ Below W.heap.size W w') := Lib.hid (fun W hW => last_live (HL9.out.below hW))
          have HA3 : Hid (∀ W, Below w9.heap.size w9 W → Calls Try.prog 29 #[.pointer (some ⟨b2, 0, none⟩)] W fun e w' => e = .returned (.agg #[.int .i64 s.pos.e, .int .i64 s.pos.i]) ∧ Below W.heap.size W w') := Lib.hid (fun W hW => by have := base_liveG (HC9.out.below hW); rw [h3] at this; exact this)
          have HA4 : Hid (∀ W, Below w9.heap.size w9 W → Calls Try.prog 22 #[.pointer (some ⟨b2, 0, none⟩)] W (ToldRes s.pos s.keys (sortS s.seen) W)) := Lib.hid (fun W hW => by have := snapshot_live (HC9.out.below hW) (by rw [h4]; omega) (by have := HCI.out.told.1.few; omega); rw [h2, h4, h5] at this; exact this)
          have HCB : Hid (∀ W : World, Below w9.heap.size w9 W → W.cell? ⟨w7.heap.size, 0, none⟩ = some (.int .i64 s.pos.e) ∧ W.cell? ⟨w7.heap.size, 1, none⟩ = some (.int .i64 s.pos.i) ∧ W.cell? ⟨w7.heap.size, 2, none⟩ = some (.slice pA s.keys.length pc) ∧ W.cell? ⟨w7.heap.size, 3, none⟩ = some (.slice sA (sortS s.seen).length sc)) := Lib.hid (fun W hW => by
            have hB := H9.out.below hW
            exact ⟨by rw [hB.cell]; rfl, by rw [hB.cell]; rfl, by rw [hB.cell]; rfl, by rw [hB.cell]; rfl⟩)
          clear h2 h3 h4 h5 hz
          go_upto_region 17 with (fail)
          refine wp_region_noPanic ?_
          refine wp_region_held_drew (S := (fun W => W.cell? ⟨w7.heap.size, 0, none⟩ = some (.int .i64 s.pos.e) ∧ W.cell? ⟨w7.heap.size, 1, none⟩ = some (.int .i64 s.pos.i) ∧ W.cell? ⟨w7.heap.size, 2, none⟩ = some (.slice pA s.keys.length pc) ∧ W.cell? ⟨w7.heap.size, 3, none⟩ = some (.slice sA (sortS s.seen).length sc))) (by kernel_rfl) ?_ (fun hHeld => ?_)
          · ((try dsimp only); first | go_keep)
          refine wpAnyH_take (i := 0) (v := ?_) rfl (by kernel_rfl) (by kernel_rfl) (by kernel_rfl) (fun _ _ _ h => h) (Or.inl ⟨by rfl, ?_⟩) (by assumption) ?_
          rotate_left
          · (intro w hSw; (try dsimp only at hSw); (try simp only [Act.put, List.getElem_toArray, List.getElem_cons_succ, List.getElem_cons_zero, List.setIfInBounds_toArray, List.set_cons_zero, List.set_cons_succ]); go_simp; try with_reducible rfl)
          (try simp only [Act.put, List.getElem_toArray, List.getElem_cons_succ, List.getElem_cons_zero, List.setIfInBounds_toArray, List.set_cons_zero, List.set_cons_succ])
          refine wpAnyH_take (i := 1) (v := ?_) rfl (by kernel_rfl) (by kernel_rfl) (by kernel_rfl) (fun _ _ _ h => h) (Or.inl ⟨by rfl, ?_⟩) (by assumption) ?_
          rotate_left
          · (intro w hSw; (try dsimp only at hSw); (try simp only [Act.put, List.getElem_toArray, List.getElem_cons_succ, List.getElem_cons_zero, List.setIfInBounds_toArray, List.set_cons_zero, List.set_cons_succ]); go_simp; try with_reducible rfl)
          (try simp only [Act.put, List.getElem_toArray, List.getElem_cons_succ, List.getElem_cons_zero, List.setIfInBounds_toArray, List.set_cons_zero, List.set_cons_succ])
          refine wpAnyH_take (i := 2) (v := ?_) rfl (by kernel_rfl) (by kernel_rfl) (by kernel_rfl) (fun _ _ _ h => h) (Or.inl ⟨by rfl, ?_⟩) (by assumption) ?_
          rotate_left
          · (intro w hSw; (try dsimp only at hSw); (try simp only [Act.put, List.getElem_toArray, List.getElem_cons_succ, List.getElem_cons_zero, List.setIfInBounds_toArray, List.set_cons_zero, List.set_cons_succ]); go_simp; try with_reducible rfl)
          (try simp only [Act.put, List.getElem_toArray, List.getElem_cons_succ, List.getElem_cons_zero, List.setIfInBounds_toArray, List.set_cons_zero, List.set_cons_succ])
          refine wpAnyH_take (i := 3) (v := ?_) rfl (by kernel_rfl) (by kernel_rfl) (by kernel_rfl) (fun _ _ _ h => h) (Or.inl ⟨by rfl, ?_⟩) (by assumption) ?_
          rotate_left
          · (intro w hSw; (try dsimp only at hSw); (try simp only [Act.put, List.getElem_toArray, List.getElem_cons_succ, List.getElem_cons_zero, List.setIfInBounds_toArray, List.set_cons_zero, List.set_cons_succ]); go_simp; try with_reducible rfl)
          (try simp only [Act.put, List.getElem_toArray, List.getElem_cons_succ, List.getElem_cons_zero, List.setIfInBounds_toArray, List.set_cons_zero, List.set_cons_succ])
          refine wpAnyH_take (i := 5) (v := ?_) rfl (by kernel_rfl) (by kernel_rfl) (by kernel_rfl) (fun _ _ _ h => h) (Or.inl ⟨by rfl, ?_⟩) (by assumption) ?_
          rotate_left
          · (intro w hSw; (try dsimp only at hSw); (try simp only [Act.put, List.getElem_toArray, List.getElem_cons_succ, List.getElem_cons_zero, List.setIfInBounds_toArray, List.set_cons_zero, List.set_cons_succ]); go_simp; try with_reducible rfl)
          (try simp only [Act.put, List.getElem_toArray, List.getElem_cons_succ, List.getElem_cons_zero, List.setIfInBounds_toArray, List.set_cons_zero, List.set_cons_succ])
          refine wpAnyH_ready (rs := [4]) (by kernel_rfl) (by simp) (AllReadyH.cons rfl (fun K hK => ?_) AllReadyH.nil)
          (try simp only [Act.put, List.getElem_toArray, List.getElem_cons_succ, List.getElem_cons_zero, List.setIfInBounds_toArray, List.set_cons_zero, List.set_cons_succ])
          go_simp
          (go_at_call 15; refine (HA1.out _ (by (repeat' (first | with_reducible exact Below.refl _ _ | with_reducible refine below_drewN ?_ _ | with_reducible refine Below.drew ?_ | with_reducible refine Below.setCell ?_ (by first | exact Nat.le_refl _ | (simp; done) | (simp; omega) | omega) _ | with_reducible refine Below.alloc ?_ (by first | exact Nat.le_refl _ | (simp; done) | (simp; omega) | omega) _ | exact Below.refl _ _)))).mono ?_; rintro e v1 ⟨rfl, hbi⟩; (have hq1 : Below w9.heap.size w9 v1 := (Below.refl _ w9).drew.trans hbi); (have HQ1 := Lib.hid hq1); clear x0 x1 x2 x3; (obtain ⟨x0, x1, x2, x3⟩ := HCB.out v1 hq1);  clear hbi hq1)
          (try dsimp only)
          refine hK.out _ _ ?_ (fun hHeld => ?_)
          · ((try dsimp only); first | go_keep)
          clear hK K
          (try simp only [Act.put, List.getElem_toArray, List.getElem_cons_succ, List.getElem_cons_zero, List.setIfInBounds_toArray, List.set_cons_zero, List.set_cons_succ])
          refine wpAnyH_ready (rs := [6]) (by kernel_rfl) (by simp) (AllReadyH.cons rfl (fun K hK => ?_) AllReadyH.nil)
          (try simp only [Act.put, List.getElem_toArray, List.getElem_cons_succ, List.getElem_cons_zero, List.setIfInBounds_toArray, List.set_cons_zero, List.set_cons_succ])
          go_simp
          (go_at_call 15; refine (HA2.out _ (by (repeat' (first | with_reducible exact HQ1.out | with_reducible exact Below.refl _ _ | with_reducible refine below_drewN ?_ _ | with_reducible refine Below.drew ?_ | with_reducible refine Below.setCell ?_ (by first | exact Nat.le_refl _ | (simp; done) | (simp; omega) | omega) _ | with_reducible refine Below.alloc ?_ (by first | exact Nat.le_refl _ | (simp; done) | (simp; omega) | omega) _ | exact Below.refl _ _ | exact HQ1.out)))).mono ?_; rintro e v2 ⟨rfl, hbi⟩; (have hq2 : Below w9.heap.size w9 v2 := HQ1.out.trans (hbi.mono (by first | omega | (have := HQ1.out.size; omega) | (simp)))); (have HQ2 := Lib.hid hq2); clear x0 x1 x2 x3; (obtain ⟨x0, x1, x2, x3⟩ := HCB.out v2 hq2);  clear hbi hq2)
          (try dsimp only)
          refine hK.out _ _ ?_ (fun hHeld => ?_)
          · ((try dsimp only); first | go_keep)
          clear hK K
          (try simp only [Act.put, List.getElem_toArray, List.getElem_cons_succ, List.getElem_cons_zero, List.setIfInBounds_toArray, List.set_cons_zero, List.set_cons_succ])
          refine wpAnyH_take (i := 7) (v := ?_) rfl (by kernel_rfl) (by kernel_rfl) (by kernel_rfl) (fun _ _ _ h => h) (Or.inl ⟨by rfl, ?_⟩) (by assumption) ?_
          rotate_left
          · (intro w hSw; (try dsimp only at hSw); (try simp only [Act.put, List.getElem_toArray, List.getElem_cons_succ, List.getElem_cons_zero, List.setIfInBounds_toArray, List.set_cons_zero, List.set_cons_succ]); go_simp; try with_reducible rfl)
          (try simp only [Act.put, List.getElem_toArray, List.getElem_cons_succ, List.getElem_cons_zero, List.setIfInBounds_toArray, List.set_cons_zero, List.set_cons_succ])
          refine wpAnyH_take (i := 8) (v := ?_) rfl (by kernel_rfl) (by kernel_rfl) (by kernel_rfl) (fun _ _ _ h => h) (Or.inl ⟨by rfl, ?_⟩) (by assumption) ?_
          rotate_left
          · (intro w hSw; (try dsimp only at hSw); (try simp only [Act.put, List.getElem_toArray, List.getElem_cons_succ, List.getElem_cons_zero, List.setIfInBounds_toArray, List.set_cons_zero, List.set_cons_succ]); go_simp; try with_reducible rfl)
          (try simp only [Act.put, List.getElem_toArray, List.getElem_cons_succ, List.getElem_cons_zero, List.setIfInBounds_toArray, List.set_cons_zero, List.set_cons_succ])
          refine wpAnyH_take (i := 9) (v := ?_) rfl (by kernel_rfl) (by kernel_rfl) (by kernel_rfl) (fun _ _ _ h => h) (Or.inl ⟨by rfl, ?_⟩) (by assumption) ?_
          rotate_left
          · (intro w hSw; (try dsimp only at hSw); (try simp only [Act.put, List.getElem_toArray, List.getElem_cons_succ, List.getElem_cons_zero, List.setIfInBounds_toArray, List.set_cons_zero, List.set_cons_succ]); go_simp; try with_reducible rfl)
          (try simp only [Act.put, List.getElem_toArray, List.getElem_cons_succ, List.getElem_cons_zero, List.setIfInBounds_toArray, List.set_cons_zero, List.set_cons_succ])
          refine wpAnyH_take (i := 10) (v := ?_) rfl (by kernel_rfl) (by kernel_rfl) (by kernel_rfl) (fun _ _ _ h => h) (Or.inl ⟨by rfl, ?_⟩) (by assumption) ?_
          rotate_left
          · (intro w hSw; (try dsimp only at hSw); (try simp only [Act.put, List.getElem_toArray, List.getElem_cons_succ, List.getElem_cons_zero, List.setIfInBounds_toArray, List.set_cons_zero, List.set_cons_succ]); go_simp; try with_reducible rfl)
          (try simp only [Act.put, List.getElem_toArray, List.getElem_cons_succ, List.getElem_cons_zero, List.setIfInBounds_toArray, List.set_cons_zero, List.set_cons_succ])
          refine wpAnyH_take (i := 12) (v := ?_) rfl (by kernel_rfl) (by kernel_rfl) (by kernel_rfl) (fun _ _ _ h => h) (Or.inl ⟨by rfl, ?_⟩) (by assumption) ?_
          rotate_left
          · (intro w hSw; (try dsimp only at hSw); (try simp only [Act.put, List.getElem_toArray, List.getElem_cons_succ, List.getElem_cons_zero, List.setIfInBounds_toArray, List.set_cons_zero, List.set_cons_succ]); go_simp; try with_reducible rfl)
          (try simp only [Act.put, List.getElem_toArray, List.getElem_cons_succ, List.getElem_cons_zero, List.setIfInBounds_toArray, List.set_cons_zero, List.set_cons_succ])
          refine wpAnyH_ready (rs := [11]) (by kernel_rfl) (by simp) (AllReadyH.cons rfl (fun K hK => ?_) AllReadyH.nil)
          (try simp only [Act.put, List.getElem_toArray, List.getElem_cons_succ, List.getElem_cons_zero, List.setIfInBounds_toArray, List.set_cons_zero, List.set_cons_succ])
          go_simp
          (go_at_call 29; refine (HA3.out _ (by (repeat' (first | with_reducible exact HQ2.out | with_reducible exact Below.refl _ _ | with_reducible refine below_drewN ?_ _ | with_reducible refine Below.drew ?_ | with_reducible refine Below.setCell ?_ (by first | exact Nat.le_refl _ | (simp; done) | (simp; omega) | omega) _ | with_reducible refine Below.alloc ?_ (by first | exact Nat.le_refl _ | (simp; done) | (simp; omega) | omega) _ | exact Below.refl _ _ | exact HQ2.out)))).mono ?_; rintro e v3 ⟨rfl, hbi⟩; (have hq3 : Below w9.heap.size w9 v3 := HQ2.out.trans (hbi.mono (by first | omega | (have := HQ2.out.size; omega) | (simp)))); (have HQ3 := Lib.hid hq3); clear x0 x1 x2 x3; (obtain ⟨x0, x1, x2, x3⟩ := HCB.out v3 hq3);  clear hbi hq3)
          (try dsimp only)
          refine hK.out _ _ ?_ (fun hHeld => ?_)
          · ((try dsimp only); first | go_keep)
          clear hK K
          (try simp only [Act.put, List.getElem_toArray, List.getElem_cons_succ, List.getElem_cons_zero, List.setIfInBounds_toArray, List.set_cons_zero, List.set_cons_succ])
          refine wpAnyH_ready (rs := [13]) (by kernel_rfl) (by simp) (AllReadyH.cons rfl (fun K hK => ?_) AllReadyH.nil)
          (try simp only [Act.put, List.getElem_toArray, List.getElem_cons_succ, List.getElem_cons_zero, List.setIfInBounds_toArray, List.set_cons_zero, List.set_cons_succ])
          go_simp
          (go_at_call 15; refine (HA2.out _ (by (repeat' (first | with_reducible exact HQ3.out | with_reducible exact Below.refl _ _ | with_reducible refine below_drewN ?_ _ | with_reducible refine Below.drew ?_ | with_reducible refine Below.setCell ?_ (by first | exact Nat.le_refl _ | (simp; done) | (simp; omega) | omega) _ | with_reducible refine Below.alloc ?_ (by first | exact Nat.le_refl _ | (simp; done) | (simp; omega) | omega) _ | exact Below.refl _ _ | exact HQ3.out)))).mono ?_; rintro e v4 ⟨rfl, hbi⟩; (have hq4 : Below w9.heap.size w9 v4 := HQ3.out.trans (hbi.mono (by first | omega | (have := HQ3.out.size; omega) | (simp)))); (have HQ4 := Lib.hid hq4); clear x0 x1 x2 x3; (obtain ⟨x0, x1, x2, x3⟩ := HCB.out v4 hq4);  clear hbi hq4)
          (try dsimp only)
          refine hK.out _ _ ?_ (fun hHeld => ?_)
          · ((try dsimp only); first | go_keep)
          clear hK K
          (try simp only [Act.put, List.getElem_toArray, List.getElem_cons_succ, List.getElem_cons_zero, List.setIfInBounds_toArray, List.set_cons_zero, List.set_cons_succ])
          refine wpAnyH_take (i := 14) (v := ?_) rfl (by kernel_rfl) (by kernel_rfl) (by kernel_rfl) (fun _ _ _ h => h) (Or.inl ⟨by rfl, ?_⟩) (by assumption) ?_
          rotate_left
          · (intro w hSw; (try dsimp only at hSw); (try simp only [Act.put, List.getElem_toArray, List.getElem_cons_succ, List.getElem_cons_zero, List.setIfInBounds_toArray, List.set_cons_zero, List.set_cons_succ]); go_simp; try with_reducible rfl)
          (try simp only [Act.put, List.getElem_toArray, List.getElem_cons_succ, List.getElem_cons_zero, List.setIfInBounds_toArray, List.set_cons_zero, List.set_cons_succ])
          refine wpAnyH_take (i := 15) (v := ?_) rfl (by kernel_rfl) (by kernel_rfl) (by kernel_rfl) (fun _ _ _ h => h) (Or.inl ⟨by rfl, ?_⟩) (by assumption) ?_
          rotate_left
          · (intro w hSw; (try dsimp only at hSw); (try simp only [Act.put, List.getElem_toArray, List.getElem_cons_succ, List.getElem_cons_zero, List.setIfInBounds_toArray, List.set_cons_zero, List.set_cons_succ]); go_simp; try with_reducible rfl)
          (try simp only [Act.put, List.getElem_toArray, List.getElem_cons_succ, List.getElem_cons_zero, List.setIfInBounds_toArray, List.set_cons_zero, List.set_cons_succ])
          refine wpAnyH_take (i := 16) (v := ?_) rfl (by kernel_rfl) (by kernel_rfl) (by kernel_rfl) (fun _ _ _ h => h) (Or.inl ⟨by rfl, ?_⟩) (by assumption) ?_
          rotate_left
          · (intro w hSw; (try dsimp only at hSw); (try simp only [Act.put, List.getElem_toArray, List.getElem_cons_succ, List.getElem_cons_zero, List.setIfInBounds_toArray, List.set_cons_zero, List.set_cons_succ]); go_simp; try with_reducible rfl)
          (try simp only [Act.put, List.getElem_toArray, List.getElem_cons_succ, List.getElem_cons_zero, List.setIfInBounds_toArray, List.set_cons_zero, List.set_cons_succ])
          refine wpAnyH_take (i := 17) (v := ?_) rfl (by kernel_rfl) (by kernel_rfl) (by kernel_rfl) (fun _ _ _ h => h) (Or.inl ⟨by rfl, ?_⟩) (by assumption) ?_
          rotate_left
          · (intro w hSw; (try dsimp only at hSw); (try simp only [Act.put, List.getElem_toArray, List.getElem_cons_succ, List.getElem_cons_zero, List.setIfInBounds_toArray, List.set_cons_zero, List.set_cons_succ]); go_simp; try with_reducible rfl)
          (try simp only [Act.put, List.getElem_toArray, List.getElem_cons_succ, List.getElem_cons_zero, List.setIfInBounds_toArray, List.set_cons_zero, List.set_cons_succ])
          refine wpAnyH_take (i := 19) (v := ?_) rfl (by kernel_rfl) (by kernel_rfl) (by kernel_rfl) (fun _ _ _ h => h) (Or.inl ⟨by rfl, ?_⟩) (by assumption) ?_
          rotate_left
          · (intro w hSw; (try dsimp only at hSw); (try simp only [Act.put, List.getElem_toArray, List.getElem_cons_succ, List.getElem_cons_zero, List.setIfInBounds_toArray, List.set_cons_zero, List.set_cons_succ]); go_simp; try with_reducible rfl)
          (try simp only [Act.put, List.getElem_toArray, List.getElem_cons_succ, List.getElem_cons_zero, List.setIfInBounds_toArray, List.set_cons_zero, List.set_cons_succ])
          refine wpAnyH_ready (rs := [18]) (by kernel_rfl) (by simp) (AllReadyH.cons rfl (fun K hK => ?_) AllReadyH.nil)
          (try simp only [Act.put, List.getElem_toArray, List.getElem_cons_succ, List.getElem_cons_zero, List.setIfInBounds_toArray, List.set_cons_zero, List.set_cons_succ])
          go_simp
          (go_at_call 22; refine (HA4.out _ (by (repeat' (first | with_reducible exact HQ4.out | with_reducible exact Below.refl _ _ | with_reducible refine below_drewN ?_ _ | with_reducible refine Below.drew ?_ | with_reducible refine Below.setCell ?_ (by first | exact Nat.le_refl _ | (simp; done) | (simp; omega) | omega) _ | with_reducible refine Below.alloc ?_ (by first | exact Nat.le_refl _ | (simp; done) | (simp; omega) | omega) _ | exact Below.refl _ _ | exact HQ4.out)))).mono ?_; rintro e v5 ⟨qpv, qsv, rfl, hqp, hqs, _, _, hbi⟩; (have hq5 : Below w9.heap.size w9 v5 := HQ4.out.trans (hbi.mono (by first | omega | (have := HQ4.out.size; omega) | (simp)))); (have HQ5 := Lib.hid hq5); clear x0 x1 x2 x3; (obtain ⟨x0, x1, x2, x3⟩ := HCB.out v5 hq5); (obtain ⟨qA, qc, rfl, _⟩ := own_sl hqp); (obtain ⟨rA, rc, rfl, _⟩ := own_sl hqs); (have HQP := Lib.hid (own_sl hqp)); (have HQS := Lib.hid (own_sl hqs)); clear hqp hqs; unfold snapVal; clear hbi hq5)
          (try dsimp only)
          refine hK.out _ _ ?_ (fun hHeld => ?_)
          · ((try dsimp only); first | go_keep)
          clear hK K
          (try simp only [Act.put, List.getElem_toArray, List.getElem_cons_succ, List.getElem_cons_zero, List.setIfInBounds_toArray, List.set_cons_zero, List.set_cons_succ])
          refine wpAnyH_ready (rs := [20]) (by kernel_rfl) (by simp) (AllReadyH.cons rfl (fun K hK => ?_) AllReadyH.nil)
          (try simp only [Act.put, List.getElem_toArray, List.getElem_cons_succ, List.getElem_cons_zero, List.setIfInBounds_toArray, List.set_cons_zero, List.set_cons_succ])
          go_simp
          (go_at_call 23; refine (SameSnap_eq s.pos (.slice qA s.keys.length qc) (.slice rA (sortS s.seen).length rc) (.slice pA s.keys.length pc) (.slice sA (sortS s.seen).length sc) s.keys (sortS s.seen) _ HQP.out HQS.out (HP9.out.below HQ5.out) (HS9.out.below HQ5.out)).mono ?_; rintro e v6 ⟨rfl, hbi⟩; (have hq6 : Below w9.heap.size w9 v6 := HQ5.out.trans (hbi.mono HQ5.out.size)); (have HQ6 := Lib.hid hq6); clear x0 x1 x2 x3; (obtain ⟨x0, x1, x2, x3⟩ := HCB.out v6 hq6); clear hbi hq6)
          (try dsimp only)
          refine hK.out _ _ ?_ (fun hHeld => ?_)
          · ((try dsimp only); first | go_keep)
          clear hK K
          (try simp only [Act.put, List.getElem_toArray, List.getElem_cons_succ, List.getElem_cons_zero, List.setIfInBounds_toArray, List.set_cons_zero, List.set_cons_succ])
          refine wpAnyH_take (i := 21) (v := ?_) rfl (by kernel_rfl) (by kernel_rfl) (by kernel_rfl) (fun _ _ _ h => h) (Or.inl ⟨by rfl, ?_⟩) (by assumption) ?_
          rotate_left
          · (intro w hSw; (try dsimp only at hSw); (try simp only [Act.put, List.getElem_toArray, List.getElem_cons_succ, List.getElem_cons_zero, List.setIfInBounds_toArray, List.set_cons_zero, List.set_cons_succ]); go_simp; try with_reducible rfl)
          (try simp only [Act.put, List.getElem_toArray, List.getElem_cons_succ, List.getElem_cons_zero, List.setIfInBounds_toArray, List.set_cons_zero, List.set_cons_succ])
          refine wpAnyH_ready (rs := [22]) (by kernel_rfl) (by simp) (AllReadyH.cons rfl (fun K hK => ?_) AllReadyH.nil)
          (try simp only [Act.put, List.getElem_toArray, List.getElem_cons_succ, List.getElem_cons_zero, List.setIfInBounds_toArray, List.set_cons_zero, List.set_cons_succ])
          go_simp
          refine hK.out _ _ ?_ (fun hHeld => ?_)
          · ((try dsimp only); first | go_keep)
          clear hK K
          (try simp only [Act.put, List.getElem_toArray, List.getElem_cons_succ, List.getElem_cons_zero, List.setIfInBounds_toArray, List.set_cons_zero, List.set_cons_succ])
          refine wpAnyH_done (by kernel_rfl) ?_ _
          refine NoPanic.normal ?_
          go_wp2_with fail
          go_ret
          exact ⟨rfl, HB5.out.trans ((HX9.out.trans (HQ6.out.mono hs9)).mono hs5)⟩

end Go.Proofs.Ytedcdjlpogpgbaa

/- Whatever script of records, StateInstalls returns true, and the script reads behind the call as it read before; no condition. -/
set_option linter.unusedVariables false
set_option linter.unusedSimpArgs false
namespace Go.Proofs.Ytedcdjlpogpgbaa
open Go.ChangeShapes Go.WideShapes Go.ChangeAt Go.RowKit

set_option maxRecDepth 100000 in
theorem stateInstalls_lifted (os : Os) (started : os.Started) (H : Type) (enc : TypeId × Value → H) :
    ReturnsInHanded {} Try.checked os 6 .any (Rows.stateInstallsSpec.pre6 enc Try.prog Try.f6 Rows.stateInstallsRow.domain false) (Rows.stateInstallsSpec.post enc Try.prog Try.f6 false true false false) := by
  refine returnsInHanded_of_change (C := Try.checked) row_own started (by kernel_rfl) Try.func6
    (ChangeSpec.witness6 (enc := enc) (C := Try.checked) false ⟨#[], #[.slice none 0 0], []⟩ 8 (by kernel_rfl) (by kernel_rfl) (by kernel_rfl) (by kernel_rfl)) ?_
  intro W base args ds gs before hval0 hW hcnd _
  have hval : ∀ (j : Nat) t v, Try.f6.params[j]? = some t → args[j]? = some v → Value.okWide Try.prog W .any base t v := hval0
  have hW' := hW
  obtain ⟨p, q, hA0, hV, rfl, hfz, hnd⟩ := hW
  have hA : DataW.TrodAll enc Try.prog W 0 (fun _ => true) true Try.f6.params.toList args.toList ds p := hA0
  rw [Try.params6] at hA hval
  obtain ⟨v0, d0, rfl, rfl, h0⟩ := trodAll_one hA
  obtain ⟨rfl, rfl⟩ := trodVars_none hV
  obtain ⟨a0, len, cap, rfl⟩ := okWide_slice Try.underlying49 (hval 0 49 v0 rfl rfl)
  clear hA0 hval0
  simp only [List.append_nil, List.nil_append] at hW'
  have hlt : ∀ x ∈ p, x.block < W.heap.size := fun x hx => hW'.lt x (by simp [hx])
  have h0k := h0
  obtain ⟨fuel, hf⟩ := h0
  obtain ⟨v, l, hv, hsl, hG⟩ := at_recs hf
  have hv2 : v = .slice a0 len cap := by
    have : [Value.slice a0 len cap] = [v] := by simpa [Value.cells] using hv
    injection this with h _; exact h.symm
  subst hv2
  have hlen : l.length = len := by
    obtain ⟨A', c', e, _⟩ := hsl
    injection e with _ e2 _; exact e2.symm
  have hS : Script W a0 len cap l := ⟨hlen, by rw [hlen] at hsl; exact hsl, hG⟩
  have fin : ∀ (W' : World), Below W.heap.size W W' → Rows.stateInstallsSpec.post enc Try.checked.prog Try.f6 false true false false W #[.slice a0 len cap] (.bool true) W' := by
    intro W' hnx
    refine ⟨_, _, _, [], p, [], hW', ?_, ?_, rfl, hnx.frame _, fun h => by cases h⟩
    · exact trodAll_mk1 (shut_bool Try.underlying4 true)
    · exact trodAll_mk1 (Below.trod row_laid (by kernel_rfl) (of_decide_eq_true (by kernel_rfl)) h0k hnx hlt)
  exact (Installs_any a0 len cap l W hS).mono fun e W' ⟨he, hb⟩ => ⟨_, he, fin W' hb⟩

theorem stateInstalls_holds : Rows.StateInstallsSaid :=
  OpenClaim.holds_of_wide 6 Try.f6 rfl rfl rfl rfl rfl rfl rfl ⟨rfl, rfl, rfl, rfl, rfl⟩ rfl rfl rfl rfl rfl (by kernel_rfl) Try.func6 (by kernel_rfl)
    (of_decide_eq_true (by kernel_rfl)) (by unfold Func.isWrapper; rw [if_neg (of_decide_eq_false (by kernel_rfl))]; exact ⟨rfl, rfl⟩)
    (fun os started H enc _ => stateInstalls_lifted os started H enc)

#print axioms stateInstalls_holds

end Go.Proofs.Ytedcdjlpogpgbaa
