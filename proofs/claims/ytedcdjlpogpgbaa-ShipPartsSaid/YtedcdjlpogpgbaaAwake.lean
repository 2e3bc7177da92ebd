/- Layer 15's awake: the document's example. -/
import Derived.Test.YtedcdjlpogpgbaaLive
set_option linter.unusedVariables false
set_option linter.unusedSimpArgs false
namespace Go.Proofs.Ytedcdjlpogpgbaa
open Go.RowKit

attribute [local go_sem] neq_pos eql_pos fld_text fld_there fld_index
def aE : Ent := ⟨⟨1, 1⟩, 1, 1, ⟨#[97]⟩, false, ⟨#[120]⟩⟩
def bE : Ent := ⟨⟨1, 2⟩, 1, 2, ⟨#[98]⟩, false, ⟨#[121]⟩⟩
def s0 : St := logSt [] oneT
def s1 : St := logSt [aE] oneT
def s2 : St := logSt [aE, bE] oneT
def s3 : St := logSt [aE] (twoT 1 false)
theorem ab_ok (E : List Ent) (t : List Ep) (hp : (posOf E).i = E.length) (hl : E.length ≤ 2) (ht : rightB t = true) : Ok (logSt E t) := logOk hp (by omega) ht
theorem a_check : checkW (logSt [] oneT) aE = 0 := checkW_ok rfl rfl (by decide) (atB_one (by decide) (by decide)) rfl rfl rfl (by decide) (by decide) (by decide) rfl
theorem b_check : checkW (logSt [aE] oneT) bE = 0 := checkW_ok rfl rfl (by decide) (atB_one (by decide) (by decide)) rfl rfl rfl (by decide) (by decide) (by decide) (by decide)
theorem ab_adopt : adoptF (logSt [aE, bE] oneT) ⟨2, 1, false⟩ = logSt [aE] (twoT 1 false) := by
  rw [adopt_log _ _ _ (by decide), if_neg (by decide)]; rfl

set_option maxRecDepth 100000 in
set_option maxHeartbeats 8000000 in
theorem awake_any (w : World) : Calls Try.prog 11 #[] w fun e w' => e = .returned (.bool true) ∧ Below w.heap.size w w' := by
  have hw1 : ∀ (F : Nat → Prop) (b : Nat) (W : World), Live F W b (s0) → (∀ c, F c → c < W.heap.size) → Calls Try.prog 13 #[.pointer (some ⟨b, 0, none⟩), .agg (recVal 1 aE ⟨0, 0, false⟩ 0 zeroPos (.slice none 0 0) (.slice none 0 0))] W (LiveRes F b 0 (s1) W) :=
    fun F b W h hF => write_live aE _ _ _ _ _ _ _ _ _ W h hF (ab_ok [] _ rfl (by decide) oneT_right) ⟨by decide, by decide⟩ a_check (by decide)
  have hw2 : ∀ (F : Nat → Prop) (b : Nat) (W : World), Live F W b (s1) → (∀ c, F c → c < W.heap.size) → Calls Try.prog 13 #[.pointer (some ⟨b, 0, none⟩), .agg (recVal 1 bE ⟨0, 0, false⟩ 0 zeroPos (.slice none 0 0) (.slice none 0 0))] W (LiveRes F b 0 (s2) W) :=
    fun F b W h hF => write_live bE _ _ _ _ _ _ _ _ _ W h hF (ab_ok [aE] _ rfl (by decide) oneT_right) ⟨by decide, by decide⟩ b_check (by decide)
  have hw3 : ∀ (F : Nat → Prop) (b : Nat) (W : World), Live F W b (s2) → (∀ c, F c → c < W.heap.size) → Calls Try.prog 13 #[.pointer (some ⟨b, 0, none⟩), .agg (recVal 2 ⟨⟨0, 0⟩, 0, 0, ⟨#[]⟩, false, ⟨#[]⟩⟩ ⟨2, 1, false⟩ 0 zeroPos (.slice none 0 0) (.slice none 0 0))] W (LiveRes F b 0 (s3) W) :=
    fun F b W h hF => (show adoptF s2 ⟨2, 1, false⟩ = s3 from ab_adopt) ▸ adopt_live _ _ _ _ _ _ _ _ _ _ W h hF (ab_ok [aE, bE] _ rfl (by decide) oneT_right) (twoT_right false (by decide) (by decide))
  unfold recVal at hw1 hw2 hw3
  simp only [aE, bE, zeroPos] at hw1 hw2 hw3
  go_enter Try.func11, Try.ntmps11
  go_wp2_with fail
  refine (one_any _).mono ?_
  rintro e w1 ⟨v, rfl, hv, hb1⟩
  go_wp2_with fail
  refine (new_live v oneT w1 hv oneT_right).mono ?_
  rintro e w2 ⟨b, rfl, hl, hb2⟩
  have hB2 := hb1.trans (hb2.mono hb1.size)
  have hs2 := hB2.size
  have HL : Hid (Live (fun c => c < w.heap.size) w2 b s0) := Lib.hid (hl.mono (G := fun c => c < w.heap.size) (fun c hc => Nat.lt_of_lt_of_le hc hb1.size))
  have HB := Lib.hid hB2
  have HW1 := Lib.hid hw1
  have HW2 := Lib.hid hw2
  have HW3 := Lib.hid hw3
  clear hv hb1 hb2 hB2 hl hw1 hw2 hw3
  go_wp2_with fail
  refine (HW1.out _ b _ HL.out (fun c hc => Nat.lt_of_lt_of_le hc hs2)).mono ?_
  rintro e w3 ⟨rfl, hl3, hf3⟩
  have hb3 := HB.out.trans (hf3.belowB hs2)
  have hs3 := hb3.size
  have HL3 := Lib.hid hl3
  have HB3 := Lib.hid hb3
  clear HL HB HW1 hl3 hf3 hb3
  go_wp2_with fail
  refine (HW2.out _ b _ HL3.out (fun c hc => Nat.lt_of_lt_of_le hc hs3)).mono ?_
  rintro e w4 ⟨rfl, hl4, hf4⟩
  have hb4 := HB3.out.trans (hf4.belowB hs3)
  have hs4 := hb4.size
  have HL4 := Lib.hid hl4
  have HB4 := Lib.hid hb4
  clear HL3 HB3 HW2 hl4 hf4 hb4
  go_wp2_with fail
  refine (HW3.out _ b _ HL4.out (fun c hc => Nat.lt_of_lt_of_le hc hs4)).mono ?_
  rintro e w5 ⟨rfl, hl5, hf5⟩
  have hb5 := HB4.out.trans (hf5.belowB hs4)
  have hs5 := hb5.size
  have HL5 := Lib.hid hl5
  have HB5 := Lib.hid hb5
  clear HL4 HB4 HW3 hl5 hf5 hb5
  go_wp2_with fail
  refine (last_live HL5.out).mono ?_
  rintro e w6 ⟨rfl, hb6⟩
  rw [show posCells (s3).pos = #[.int .i64 1, .int .i64 1] from rfl]
  have HL6 := Lib.hid (HL5.out.below hb6)
  have HB6 := Lib.hid (HB5.out.trans (hb6.mono hs5))
  have hs6 := HB6.out.size
  have hp : posEq 1 1 1 1 = true := rfl
  clear hb6 HL5 HB5
  go_wp2_with fail
  refine (get_live _ HL6.out).mono ?_
  rintro e w7 ⟨rfl, hb7⟩
  rw [show valCells ((getL ⟨#[97]⟩ (s3).keys).getD zeroVal) = #[.int .i64 1, .int .i64 1, .bool true, .string ⟨#[120]⟩] from by rw [show (s3).keys = ins ⟨#[97]⟩ (entV aE) [] from rfl, getL_ins_same]; rfl]
  have HL7 := Lib.hid (HL6.out.below hb7)
  have HB7 := Lib.hid (HB6.out.trans (hb7.mono hs6))
  have hs7 := HB7.out.size
  clear hb7 HL6 HB6 hp
  go_wp2_with fail
  refine (get_live _ HL7.out).mono ?_
  rintro e w8 ⟨rfl, hb8⟩
  rw [show valCells ((getL ⟨#[98]⟩ (s3).keys).getD zeroVal) = #[.int .i64 0, .int .i64 0, .bool false, .string ⟨#[]⟩] from by rw [show (s3).keys = ins ⟨#[97]⟩ (entV aE) [] from rfl, getL_ins_other (by decide)]; rfl]
  have HL8 := Lib.hid (HL7.out.below hb8)
  have HB8 := Lib.hid (HB7.out.trans (hb8.mono hs7))
  have hs8 := HB8.out.size
  clear hb8 HL7 HB7
  go_wp2_with fail
  refine (config_live HL8.out).mono ?_
  rintro e w9 ⟨rfl, hb9⟩
  rw [show (((s3).table.length : Nat) : Int) = 2 from rfl]
  have HL9 := Lib.hid (HL8.out.below hb9)
  have HB9 := Lib.hid (HB8.out.trans (hb9.mono hs8))
  have hs9 := HB9.out.size
  clear hb9 HL8 HB8
  go_wp2_with fail
  refine (master_live HL9.out (by decide) (by decide)).mono ?_
  rintro e w10 ⟨rfl, hb10⟩
  rw [show (ep (s3).table ((s3).table.length - 1)).m = 2 from rfl]
  have HB10 := Lib.hid (HB9.out.trans (hb10.mono hs9))
  clear hb10 HL9 HB9
  go_wp2_with fail
  go_ret
  exact ⟨rfl, HB10.out⟩

end Go.Proofs.Ytedcdjlpogpgbaa
