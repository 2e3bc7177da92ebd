/- ShipParts: the walk. -/
import Derived.Test.YtedcdjlpogpgbaaParts
import Derived.Test.YtedcdjlpogpgbaaSnapC
import Derived.Test.YtedcdjlpogpgbaaSameL
import Derived.Test.YtedcdjlpogpgbaaShipAwake
set_option linter.unusedVariables false
set_option linter.unusedSimpArgs false
namespace Go.Proofs.Ytedcdjlpogpgbaa
open Go.RowKit

theorem take_piece {α : Type} (l : List α) (k : Nat) : l.take (8 * k) ++ pieceL l k = l.take (8 * (k + 1)) := by
  unfold pieceL; rw [show 8 * (k + 1) = 8 * k + 8 from rfl, List.take_add]
theorem pairsCells_app (a b : List (ByteArray × Val)) : pairsCells (a ++ b) = pairsCells a ++ pairsCells b := by unfold pairsCells; rw [List.flatMap_append]
theorem snsCells_app (a b : List Sn) : snsCells (a ++ b) = snsCells a ++ snsCells b := by unfold snsCells; rw [List.flatMap_append]
theorem piece_le {α : Type} (l : List α) (k : Nat) : (pieceL l k).length ≤ 8 := by unfold pieceL; rw [List.length_take]; omega
theorem piece_full {α : Type} (l : List α) (k : Nat) (h : 8 * (k + 1) ≤ l.length) : (pieceL l k).length = 8 := by unfold pieceL; rw [List.length_take, List.length_drop]; omega
theorem run_loadMsg_at {w : World} {b o : Nat} {cs : Array Value} (h : ∀ j u, cs.toList[j]? = some u → w.cell? ⟨b, o + j, none⟩ = some u) (hs : cs.size = 26) : (loadMsg (.pointer (some ⟨b, o, none⟩))).run Try.prog w = .ok (.agg cs) w := by
  unfold loadMsg Instr.loadAt
  simp only [Instr.sureAddr, Sem.run_bind, Sem.run_pure, Result.andThen_ok]
  have hl := run_loadCells_list (P := Try.prog) w ⟨b, o, none⟩ cs.toList (fun j v hj => by rw [addr_add]; exact h j v hj)
  have hl2 : (loadCells ⟨b, o, none⟩ 26).run Try.prog w = .ok cs w := by rw [← hs]; simpa using hl
  unfold loadVar
  simp only [Sem.run_bind, msg_agg, msg_size, Result.andThen_ok, if_true, hl2]
  rfl

attribute [local go_sem high] neq_pos run_storeMsg_lit run_storeMsg_litd
attribute [local go_sem ↓] storeMsg_eq loadMsg_eq
set_option maxRecDepth 100000 in
set_option maxHeartbeats 16000000 in
theorem ShipParts_any (me cfg : Int) (p : Pos) (pv sv : Value) (ps : List (ByteArray × Val)) (ss : List Sn) (w : World) (hp : SlAt w pv ps.length (pairsCells ps)) (hs : SlAt w sv ss.length (snsCells ss)) :
    Calls Try.prog 8 #[.int .i64 me, .int .i64 cfg, .agg (snapVal p pv sv)] w fun e w' => e = .returned (.bool true) ∧ Below w.heap.size w w' := by
  obtain ⟨pA, pc, rfl, _, hpm, _⟩ := id hp
  obtain ⟨sA, sc, rfl, _, hsm, _⟩ := id hs
  obtain ⟨a, ha⟩ : ∃ a, ps.length = a := ⟨_, rfl⟩
  obtain ⟨b, hb⟩ : ∃ b, ss.length = b := ⟨_, rfl⟩
  rw [ha] at hp ⊢
  rw [hb] at hs ⊢
  have HP := Lib.hid hp
  have HS := Lib.hid hs
  have HA := Lib.hid ha
  have HBL := Lib.hid hb
  clear hp hs ha hb
  unfold snapVal
  go_enter Try.func8, Try.ntmps8
  go_wp2_with fail
  refine (awake19_any _).mono ?_
  rintro e w1 ⟨rfl, hb1⟩
  have hbx1 : Blk w1 w.heap.size #[.int .i64 p.e, .int .i64 p.i, .slice pA a pc, .slice sA b sc] 40 := Blk.below (by ((repeat' (first | with_reducible exact Blk.new _ _ _ | with_reducible apply Blk.drewN | with_reducible apply Blk.drew | with_reducible apply Blk.set' | (with_reducible apply Blk.set_other (hp := by first | assumption | (simp; done) | (simp; omega) | omega)) | (with_reducible apply Blk.new'; focus (first | (simp; done) | (simp; omega))) | with_reducible apply Blk.alloc)) <;> rfl)) hb1
  have hB1 : Below w.heap.size w w1 := (by (repeat' (first | with_reducible exact Below.refl _ _ | with_reducible refine below_drewN ?_ _ | with_reducible refine Below.drew ?_ | with_reducible refine Below.setCell ?_ (by first | exact Nat.le_refl _ | (simp; done) | (simp; omega) | omega) _ | with_reducible refine Below.alloc ?_ (by first | exact Nat.le_refl _ | (simp; done) | (simp; omega) | omega) _ | exact Below.refl _ _)) : Below w.heap.size w _).trans (hb1.mono (by simp))
  have hs1 := hB1.size
  have hl1 := hbx1.lt
  have x0 : World.cell? w1 ⟨w.heap.size, 0, none⟩ = some (.int .i64 p.e) := by rw [Blk.cell hbx1]; rfl
  have x1 : World.cell? w1 ⟨w.heap.size, 1, none⟩ = some (.int .i64 p.i) := by rw [Blk.cell hbx1]; rfl
  have x2 : World.cell? w1 ⟨w.heap.size, 2, none⟩ = some (.slice pA a pc) := by rw [Blk.cell hbx1]; rfl
  have x3 : World.cell? w1 ⟨w.heap.size, 3, none⟩ = some (.slice sA b sc) := by rw [Blk.cell hbx1]; rfl
  have HBX1 := Lib.hid hbx1
  have HB1 := Lib.hid hB1
  clear hb1 hbx1 hB1
  by_cases ca : 600 < a
  · have d1 : decide (600 < (a : Int)) = true := by rw [decide_eq_true_eq]; omega
    go_wp2_with fail
    go_ret
    exact ⟨rfl, HB1.out⟩
  have d1 : decide (600 < (a : Int)) = false := by rw [decide_eq_false_iff_not]; omega
  by_cases cb : 600 < b
  · have d2 : decide (600 < (b : Int)) = true := by rw [decide_eq_true_eq]; omega
    go_wp2_with fail
    go_ret
    exact ⟨rfl, HB1.out⟩
  have d2 : decide (600 < (b : Int)) = false := by rw [decide_eq_false_iff_not]; omega
  go_wp2_with fail
  refine (Snap_any p (.slice pA a pc) (.slice sA b sc) ps ss w1 (by rw [HA.out]; exact HP.out.below HB1.out) (by rw [HBL.out]; exact HS.out.below HB1.out) (by rw [HA.out]; omega) (by rw [HBL.out]; omega)).mono ?_
  rintro e w2 ⟨pv2, sv2, rfl, hp2, hs2, _, _, hb2⟩
  have hP2 := own_sl hp2
  have hS2 := own_sl hs2
  rw [HA.out] at hP2
  rw [HBL.out] at hS2
  obtain ⟨pA2, pc2, rfl, _⟩ := id hP2
  obtain ⟨sA2, sc2, rfl, _⟩ := id hS2
  have HP2 := Lib.hid hP2
  have HS2 := Lib.hid hS2
  have HBX2 := Lib.hid (HBX1.out.below hb2)
  have HB2 := Lib.hid (HB1.out.trans (hb2.mono hs1))
  have hs2' := HB2.out.size
  clear hp2 hs2 hP2 hS2 hb2 x0 x1 x2 x3 d1 d2
  unfold snapVal
  go_wp2_with fail
  refine (Parts_any me cfg p (.slice pA2 a pc2) (.slice sA2 b sc2) ps ss w2 (by rw [HA.out]; exact HP2.out) (by rw [HBL.out]; exact HS2.out) (by rw [HA.out]; omega) (by rw [HBL.out]; omega)).mono ?_
  rintro e w3 ⟨v3, P, rfl, hpl, hown, _, hpo, hb3⟩
  rw [HA.out, HBL.out] at hpl hown
  obtain ⟨n, hn⟩ : ∃ n, partsN a b = n := ⟨_, rfl⟩
  rw [hn] at hpl hown
  have hsl := own_sl hown
  rw [hpl] at hsl
  obtain ⟨mA, mc, rfl, hmc, hmm, _⟩ := id hsl
  have hn1 : 1 ≤ n ∧ n ≤ 100 := by rw [← hn]; unfold partsN; omega
  have hna : a ≤ 8 * n ∧ b ≤ 8 * n := by rw [← hn]; unfold partsN; omega
  have hnb : ∀ k, k + 1 < n → 8 * (k + 1) ≤ a ∨ 8 * (k + 1) ≤ b := fun k hk => by rw [← hn] at hk; unfold partsN at hk; omega
  have HNB := Lib.hid hnb
  have HPL := Lib.hid hpl
  have HSL := Lib.hid hsl
  have HPO := Lib.hid hpo
  have HBX3 := Lib.hid (HBX2.out.below hb3)
  have HB3 := Lib.hid (HB2.out.trans (hb3.mono hs2'))
  have hs3 := HB3.out.size
  have hl3 := HBX3.out.lt
  clear hpl hown hsl hpo hb3 hnb hn HBX1 HBX2 HB1 HB2 HP2 HS2
  go_wp2_with fail
  have hg0 : Blk (w3.alloc (.cells #[.int .i64 0, .int .i64 0, .slice none 0 0, .slice none 0 0] 40)) w3.heap.size #[.int .i64 0, .int .i64 0, .slice none 0 0, .slice none 0 0] 40 := by ((repeat' (first | with_reducible exact Blk.new _ _ _ | with_reducible apply Blk.drewN | with_reducible apply Blk.drew | with_reducible apply Blk.set' | (with_reducible apply Blk.set_other (hp := by first | assumption | (simp; done) | (simp; omega) | omega)) | (with_reducible apply Blk.new'; focus (first | (simp; done) | (simp; omega))) | with_reducible apply Blk.alloc)) <;> rfl)
  have hg1 : Below w3.heap.size w3 (w3.alloc (.cells #[.int .i64 0, .int .i64 0, .slice none 0 0, .slice none 0 0] 40)) := by (repeat' (first | with_reducible exact Below.refl _ _ | with_reducible refine below_drewN ?_ _ | with_reducible refine Below.drew ?_ | with_reducible refine Below.setCell ?_ (by first | exact Nat.le_refl _ | (simp; done) | (simp; omega) | omega) _ | with_reducible refine Below.alloc ?_ (by first | exact Nat.le_refl _ | (simp; done) | (simp; omega) | omega) _ | exact Below.refl _ _))
  have HG0 := Lib.hid hg0
  have HG1 := Lib.hid hg1
  clear hg0 hg1
  go_loopg [30] n (fun g i wr => ∃ (k : Nat) (A1 A2 : Option Addr) (c1 c2 : Nat), k ≤ n ∧ g = n - k ∧ i = .int .i64 (k : Int) ∧ Blk wr w3.heap.size #[.int .i64 0, .int .i64 0, .slice A1 (ps.take (8 * k)).length c1, .slice A2 (ss.take (8 * k)).length c2] 40 ∧ wr.ownsRow 0 67 5 (.slice A1 (ps.take (8 * k)).length c1) (ps.take (8 * k)).length (pairsCells (ps.take (8 * k))) ∧ wr.ownsRow 0 69 4 (.slice A2 (ss.take (8 * k)).length c2) (ss.take (8 * k)).length (snsCells (ss.take (8 * k))) ∧ (∀ c, (Value.slice A1 (ps.take (8 * k)).length c1).ownBlock = some c → w3.heap.size ≤ c) ∧ (∀ c, (Value.slice A2 (ss.take (8 * k)).length c2).ownBlock = some c → w3.heap.size ≤ c) ∧ Below w3.heap.size w3 wr)
  case atStart => exact ⟨0, none, none, 0, 0, Nat.zero_le _, rfl, rfl, HG0.out, own_empty _ _ _, own_empty _ _ _, (fun c h => by cases h), (fun c h => by cases h), HG1.out⟩
  case round =>
    obtain ⟨k, A1, A2, c1, c2, hk, rfl, rfl, hg, ho1, ho2, hf1, hf2, hbr⟩ := hrel
    have hsr := hbr.size
    have hgl := hg.lt
    have HG := Lib.hid hg
    have HO1 := Lib.hid ho1
    have HO2 := Lib.hid ho2
    have HF1 := Lib.hid hf1
    have HF2 := Lib.hid hf2
    have HBR := Lib.hid hbr
    clear hg ho1 ho2 hf1 hf2 hbr HG0 HG1
    by_cases hlt : k < n
    · have d1 : decide ((k : Int) < (n : Int)) = true := by rw [decide_eq_true_eq]; omega
      obtain ⟨mb, mo, rfl, hmb, hmc⟩ := sl_elem (partCells me cfg p (n : Nat)) 26 (fun _ => rfl) HSL.out (by omega)
      obtain ⟨d, hd⟩ : ∃ d, P[k]? = some d := ⟨_, List.getElem?_eq_getElem (by rw [HPL.out]; exact hlt)⟩
      have hok := HPO.out k d hd
      obtain ⟨di, dpv, dsv⟩ := d
      obtain rfl : di = (k : Int) + 1 := hok.num
      have hl8 := piece_le ps k
      have hl9 := piece_le ss k
      have hfa := piece_full ps k
      have hfb := piece_full ss k
      rw [HA.out] at hfa
      rw [HBL.out] at hfb
      have hq1 := hok.prs
      have hq2 := hok.sns
      have ht1 : (ps.take (8 * k)).length ≤ 600 := by rw [List.length_take, HA.out]; omega
      have ht2 : (ss.take (8 * k)).length ≤ 600 := by rw [List.length_take, HBL.out]; omega
      have hv1 := congrArg List.length (take_piece ps k)
      have hv2 := congrArg List.length (take_piece ss k)
      rw [List.length_append] at hv1 hv2
      obtain ⟨l3, hl3⟩ : ∃ l, (pieceL ps k).length = l := ⟨_, rfl⟩
      obtain ⟨l4, hl4⟩ : ∃ l, (pieceL ss k).length = l := ⟨_, rfl⟩
      obtain ⟨t1, htt1⟩ : ∃ l, (ps.take (8 * k)).length = l := ⟨_, rfl⟩
      obtain ⟨t2, htt2⟩ : ∃ l, (ss.take (8 * k)).length = l := ⟨_, rfl⟩
      have hg := HG.out
      have ho1 := HO1.out
      have ho2 := HO2.out
      have hf1 := HF1.out
      have hf2 := HF2.out
      rw [hl3] at hl8 hfa hq1 hv1
      rw [hl4] at hl9 hfb hq2 hv2
      rw [htt1] at hg ho1 hf1 ht1 hv1
      rw [htt2] at hg ho2 hf2 ht2 hv2
      obtain ⟨A3, c3, rfl, _⟩ := own_sl hq1
      obtain ⟨A4, c4, rfl, _⟩ := own_sl hq2
      have hld : (loadMsg (.pointer (some ⟨mb, mo + k * 26, none⟩))).run Try.prog wr = .ok (.agg (partVal me cfg p (n : Nat) ⟨(k : Int) + 1, .slice A3 l3 c3, .slice A4 l4 c4⟩)) wr :=
        run_loadMsg_at (fun j u hj => by rw [HBR.out.cell (p := ⟨mb, _, none⟩) hmb]; exact hmc k _ hd j u hj) rfl
      unfold partVal at hld
      have hbx := HBX3.out.below HBR.out
      have g2 : World.cell? wr ⟨w3.heap.size, 2, none⟩ = some (.slice A1 t1 c1) := by rw [Blk.cell hg]; rfl
      have g3 : World.cell? wr ⟨w3.heap.size, 3, none⟩ = some (.slice A2 t2 c2) := by rw [Blk.cell hg]; rfl
      have x0 : World.cell? wr ⟨w.heap.size, 0, none⟩ = some (.int .i64 p.e) := by rw [Blk.cell hbx]; rfl
      have x1 : World.cell? wr ⟨w.heap.size, 1, none⟩ = some (.int .i64 p.i) := by rw [Blk.cell hbx]; rfl
      have hpq : posEq p.e p.i p.e p.i = true := by simp [posEq]
      have q0 : (0 : Int) ≤ (k : Int) := by omega
      have q1 : (k : Int) < (n : Int) := by omega
      have q2 : IntKind.i64.wrap ((k : Int) + 1) = (k : Int) + 1 := wrap_small _ (by omega) (by omega)
      have q3 : IntKind.i64.wrap ((n : Int) - 1) = (n : Int) - 1 := wrap_small _ (by omega) (by omega)
      have d3 : decide (8 < (l3 : Int)) = false := by rw [decide_eq_false_iff_not]; omega
      have d4 : decide (8 < (l4 : Int)) = false := by rw [decide_eq_false_iff_not]; omega
      have hxl := hbx.lt
      have hgl2 : w3.heap.size ≠ wr.heap.size := by omega
      have hgl3 : w.heap.size ≠ wr.heap.size := by omega
      have hgl4 : wr.heap.size ≠ w3.heap.size := by omega
      have hgl5 : wr.heap.size ≠ w.heap.size := by omega
      have hcase : decide ((k : Int) < (n : Int) - 1) = false ∨ (decide ((k : Int) < (n : Int) - 1) = true ∧ decide ((l3 : Int) < 8) = false) ∨ (decide ((k : Int) < (n : Int) - 1) = true ∧ decide ((l3 : Int) < 8) = true ∧ decide ((l4 : Int) < 8) = false) := by
        simp only [decide_eq_false_iff_not, decide_eq_true_eq]
        by_cases h : k + 1 < n
        · rcases HNB.out k h with h2 | h2
          · have := hfa h2; omega
          · have := hfb h2; omega
        · omega
      have HH := Lib.hid (And.intro hg (And.intro ho1 (And.intro ho2 (And.intro hf1 (And.intro hf2 (And.intro hq1 hq2))))))
      have HV := Lib.hid (And.intro hv1 (And.intro hv2 (And.intro htt1 (And.intro htt2 (And.intro hl3 hl4)))))
      clear hmc hd hok hg ho1 ho2 hf1 hf2 hq1 hq2 hv1 hv2 htt1 htt2 hl3 hl4 hfa hfb hbx
      go_upto_region 13 with (fail)
      rcases hcase with e1 | ⟨e1, e2⟩ | ⟨e1, e2, e3⟩
      all_goals
        go_upto_region 15 with (fail)
        refine wp_name ?_
        intro w4 hw4
        have hm4 : Blk w4 wr.heap.size (partVal me cfg p (n : Nat) ⟨(k : Int) + 1, .slice A3 l3 c3, .slice A4 l4 c4⟩) 74 := by rw [hw4]; unfold partVal; ((repeat' (first | with_reducible exact Blk.new _ _ _ | with_reducible apply Blk.drewN | with_reducible apply Blk.drew | with_reducible apply Blk.set' | (with_reducible apply Blk.set_other (hp := by first | assumption | (simp; done) | (simp; omega) | omega)) | (with_reducible apply Blk.new'; focus (first | (simp; done) | (simp; omega))) | with_reducible apply Blk.alloc)) <;> rfl)
        have hb4 : Below wr.heap.size wr w4 := by rw [hw4]; (repeat' (first | with_reducible exact Below.refl _ _ | with_reducible refine below_drewN ?_ _ | with_reducible refine Below.drew ?_ | with_reducible refine Below.setCell ?_ (by first | exact Nat.le_refl _ | (simp; done) | (simp; omega) | omega) _ | with_reducible refine Below.alloc ?_ (by first | exact Nat.le_refl _ | (simp; done) | (simp; omega) | omega) _ | exact Below.refl _ _))
        clear hw4 g2 g3 x0 x1 hld
        obtain ⟨hg, ho1, ho2, hf1, hf2, hq1, hq2⟩ := HH.out
        have hg4 := hg.below hb4
        have hb34 : Below w3.heap.size w3 w4 := HBR.out.trans (hb4.mono hsr)
        have p4 := own_frm ho1 (Frm.ofBelow (F := fun _ => False) hb4) (fun _ _ h => h)
        have s4 := own_frm ho2 (Frm.ofBelow (F := fun _ => False) hb4) (fun _ _ h => h)
        have hgl4' := hg4.lt
        have hml4 := hm4.lt
        obtain ⟨v', w5, happ, hown, hgr, hob⟩ := run_append_sl (P := Try.prog) (w := w4) 37 37 67 5 56 _ Try.underlying37 pr_info rfl (by omega) (.slice A1 t1 c1) t1 (pairsCells (ps.take (8 * k))) p4 (.slice A3 l3 c3) l3 (pairsCells (pieceL ps k)) ((own_sl hq1).below hb34) (by rw [pairsCells_length, HV.out.2.2.2.2.1]) (pairsCells_one _) (by omega) (by unfold maxLen; omega)
        obtain ⟨A5, c5, rfl, _⟩ := own_sl hown
        have hfr5 := Frm.ofGrown hgr
        have hg5 := row_box p4 hg4 (Below.refl _ _) hfr5 (by decide)
        have hm5 := row_box p4 hm4 (Below.refl _ _) hfr5 (by decide)
        have s5 := own_frm s4 hfr5 (fun c h1 h2 => absurd (own_two s4 h1 p4 h2) (by decide))
        have hb35 : Below w3.heap.size w3 w5 := Frm.ge hb34 hfr5 (fun c hc => hf1 c hc)
        have hf5 : ∀ c, (Value.slice A5 (t1 + l3) c5).ownBlock = some c → w3.heap.size ≤ c := fun c hc => by
          rcases hob with h | h
          · rw [h] at hc; exact hf1 c hc
          · rw [h] at hc; injection hc with hc; omega
        have g2 : World.cell? w4 ⟨w3.heap.size, 2, none⟩ = some (.slice A1 t1 c1) := by rw [Blk.cell hg4]; rfl
        have m8 : World.cell? w4 ⟨wr.heap.size, 8, none⟩ = some (.slice A3 l3 c3) := by rw [Blk.cell hm4]; rfl
        have h2 : World.cell? w5 ⟨w3.heap.size, 2, none⟩ = some (.slice A1 t1 c1) := by rw [Blk.cell hg5]; rfl
        have f2 := Blk.free hg5 2
        have hgl5' := hg5.lt
        have HG5 := Lib.hid hg5
        have HM5 := Lib.hid hm5
        have HO5 := Lib.hid hown
        have HS5 := Lib.hid s5
        have HB5 := Lib.hid hb35
        have HF5 := Lib.hid hf5
        have HF2' := Lib.hid hf2
        clear hm4 hb4 hg ho1 ho2 hf1 hf2 hq1 hq2 hg4 hb34 p4 s4 hown hgr hob hfr5 hg5 hm5 s5 hb35 hf5
        go_upto_region 16 with (refine list_append_run rfl _ _ _ _ rfl rfl (by rfl) (by rfl) happ ?_)
        refine wp_name ?_
        intro w6 hw6
        have hg6 : Blk w6 w3.heap.size #[.int .i64 0, .int .i64 0, .slice A5 (t1 + l3) c5, .slice A2 t2 c2] 40 := by rw [hw6]; ((repeat' (first | with_reducible exact HG5.out | with_reducible exact Blk.new _ _ _ | with_reducible apply Blk.drewN | with_reducible apply Blk.drew | with_reducible apply Blk.set' | (with_reducible apply Blk.set_other (hp := by first | assumption | (simp; done) | (simp; omega) | omega)) | (with_reducible apply Blk.new'; focus (first | (simp; done) | (simp; omega))) | with_reducible apply Blk.alloc | exact HG5.out)) <;> rfl)
        have hm6 : Blk w6 wr.heap.size (partVal me cfg p (n : Nat) ⟨(k : Int) + 1, .slice A3 l3 c3, .slice A4 l4 c4⟩) 74 := by rw [hw6]; ((repeat' (first | with_reducible exact HM5.out | with_reducible exact Blk.new _ _ _ | with_reducible apply Blk.drewN | with_reducible apply Blk.drew | with_reducible apply Blk.set' | (with_reducible apply Blk.set_other (hp := by first | assumption | (simp; done) | (simp; omega) | omega)) | (with_reducible apply Blk.new'; focus (first | (simp; done) | (simp; omega))) | with_reducible apply Blk.alloc | exact HM5.out)) <;> rfl)
        have hfr6 : Frm (fun c => c = w3.heap.size) w5 w6 := by rw [hw6]; (repeat' (first | with_reducible exact Frm.refl _ _ | with_reducible refine Frm.drewN ?_ _ | with_reducible refine Frm.drew ?_ | with_reducible refine Frm.setCell ?_ (by first | exact Or.inl rfl | exact Or.inr (Nat.le_refl _) | (simp; done) | (simp; omega)) _ | with_reducible refine Frm.alloc ?_ _ | exact Frm.refl _ _))
        have hb36 : Below w3.heap.size w3 w6 := Frm.ge HB5.out hfr6 (fun c hc => by omega)
        have p6 := own_frm HO5.out hfr6 (fun c h1 h2 => by subst h2; exact absurd (own_type HO5.out h1 HG5.out) (by decide))
        have s6 := own_frm HS5.out hfr6 (fun c h1 h2 => by subst h2; exact absurd (own_type HS5.out h1 HG5.out) (by decide))
        clear hw6 g2 m8 h2 f2 happ
        obtain ⟨v'', w7, happ, hown, hgr, hob⟩ := run_append_sl (P := Try.prog) (w := w6) 38 38 69 4 32 _ Try.underlying38 se_info rfl (by omega) (.slice A2 t2 c2) t2 (snsCells (ss.take (8 * k))) s6 (.slice A4 l4 c4) l4 (snsCells (pieceL ss k)) ((own_sl HH.out.2.2.2.2.2.2).below hb36) (by rw [snsCells_length, HV.out.2.2.2.2.2]) (snsCells_one _) (by omega) (by unfold maxLen; omega)
        obtain ⟨A7, c7, rfl, _⟩ := own_sl hown
        have hfr7 := Frm.ofGrown hgr
        have hg7 := row_box s6 hg6 (Below.refl _ _) hfr7 (by decide)
        have p7 := own_frm p6 hfr7 (fun c h1 h2 => absurd (own_two p6 h1 s6 h2) (by decide))
        have hb37 : Below w3.heap.size w3 w7 := Frm.ge hb36 hfr7 (fun c hc => HF2'.out c hc)
        have hgl6 := hg6.lt
        have hf7 : ∀ c, (Value.slice A7 (t2 + l4) c7).ownBlock = some c → w3.heap.size ≤ c := fun c hc => by
          rcases hob with h | h
          · rw [h] at hc; exact HF2'.out c hc
          · rw [h] at hc; injection hc with hc; omega
        have g3 : World.cell? w6 ⟨w3.heap.size, 3, none⟩ = some (.slice A2 t2 c2) := by rw [Blk.cell hg6]; rfl
        have m9 : World.cell? w6 ⟨wr.heap.size, 9, none⟩ = some (.slice A4 l4 c4) := by rw [Blk.cell hm6]; rfl
        have h3 : World.cell? w7 ⟨w3.heap.size, 3, none⟩ = some (.slice A2 t2 c2) := by rw [Blk.cell hg7]; rfl
        have f3 := Blk.free hg7 3
        have HG7 := Lib.hid hg7
        have HO7 := Lib.hid hown
        have HP7 := Lib.hid p7
        have HB7 := Lib.hid hb37
        have HF7 := Lib.hid hf7
        clear hg6 hm6 hfr6 hb36 p6 s6 hown hgr hob hfr7 hg7 p7 hb37 hf7
        go_wp2_with (refine list_append_run rfl _ _ _ _ rfl rfl (by rfl) (by rfl) happ ?_)
        go_roundg (n - (k + 1))
        case measure => omega
        case rel =>
          obtain ⟨hv1, hv2, htt1, htt2, hl3, hl4⟩ := HV.out
          have hfr8 : Frm (fun c => c = w3.heap.size) w7 (w7.setCell ⟨w3.heap.size, 3, none⟩ (.slice A7 (t2 + l4) c7)) := by (repeat' (first | with_reducible exact Frm.refl _ _ | with_reducible refine Frm.drewN ?_ _ | with_reducible refine Frm.drew ?_ | with_reducible refine Frm.setCell ?_ (by first | exact Or.inl rfl | exact Or.inr (Nat.le_refl _) | (simp; done) | (simp; omega)) _ | with_reducible refine Frm.alloc ?_ _ | exact Frm.refl _ _))
          have p8 := own_frm HP7.out hfr8 (fun c h1 h2 => by subst h2; exact absurd (own_type HP7.out h1 HG7.out) (by decide))
          have s8 := own_frm HO7.out hfr8 (fun c h1 h2 => by subst h2; exact absurd (own_type HO7.out h1 HG7.out) (by decide))
          have hg8 : Blk (w7.setCell ⟨w3.heap.size, 3, none⟩ (.slice A7 (t2 + l4) c7)) w3.heap.size #[.int .i64 0, .int .i64 0, .slice A5 (t1 + l3) c5, .slice A7 (t2 + l4) c7] 40 := by ((repeat' (first | with_reducible exact HG7.out | with_reducible exact Blk.new _ _ _ | with_reducible apply Blk.drewN | with_reducible apply Blk.drew | with_reducible apply Blk.set' | (with_reducible apply Blk.set_other (hp := by first | assumption | (simp; done) | (simp; omega) | omega)) | (with_reducible apply Blk.new'; focus (first | (simp; done) | (simp; omega))) | with_reducible apply Blk.alloc | exact HG7.out)) <;> rfl)
          have hb8 : Below w3.heap.size w3 (w7.setCell ⟨w3.heap.size, 3, none⟩ (.slice A7 (t2 + l4) c7)) := Frm.ge HB7.out hfr8 (fun c hc => by omega)
          obtain ⟨W8, hW8⟩ : ∃ W, w7.setCell ⟨w3.heap.size, 3, none⟩ (.slice A7 (t2 + l4) c7) = W := ⟨_, rfl⟩
          rw [hW8] at p8 s8 hg8 hb8
          rw [hW8]
          rw [← pairsCells_app, take_piece] at p8
          rw [← snsCells_app, take_piece] at s8
          have f1 := HF5.out
          have f2 := HF7.out
          rw [hv1] at p8 hg8 f1
          rw [hv2] at s8 hg8 f2
          exact ⟨k + 1, A5, A7, c5, c7, by omega, rfl, by go_num, hg8, p8, s8, f1, f2, hb8⟩
    · have d1 : decide ((k : Int) < (n : Int)) = false := by rw [decide_eq_false_iff_not]; omega
      obtain rfl : k = n := by omega
      have hta : ps.take (8 * k) = ps := List.take_of_length_le (by rw [HA.out]; omega)
      have htb : ss.take (8 * k) = ss := List.take_of_length_le (by rw [HBL.out]; omega)
      obtain ⟨U1, hU1⟩ : ∃ U, Value.slice A1 (ps.take (8 * k)).length c1 = U := ⟨_, rfl⟩
      have hp4 := own_sl HO1.out
      have hs4 := own_sl HO2.out
      rw [hta, HA.out] at hp4
      rw [htb, HBL.out] at hs4
      have hg := HG.out
      rw [hta, htb, HA.out, HBL.out] at hg
      have HP4 := Lib.hid hp4
      have HS4 := Lib.hid hs4
      have hbx := HBX3.out.below HBR.out
      have g2 : World.cell? wr ⟨w3.heap.size, 2, none⟩ = some (.slice A1 a c1) := by rw [Blk.cell hg]; rfl
      have g3 : World.cell? wr ⟨w3.heap.size, 3, none⟩ = some (.slice A2 b c2) := by rw [Blk.cell hg]; rfl
      have x2 : World.cell? wr ⟨w.heap.size, 2, none⟩ = some (.slice pA a pc) := by rw [Blk.cell hbx]; rfl
      have x3 : World.cell? wr ⟨w.heap.size, 3, none⟩ = some (.slice sA b sc) := by rw [Blk.cell hbx]; rfl
      have d2 : decide (1 ≤ (k : Int)) = true := by rw [decide_eq_true_eq]; omega
      clear hta htb hU1 hp4 hs4 hg hbx
      go_wp2_with fail
      refine (SamePairs_eq (.slice A1 a c1) (.slice pA a pc) ps wr (by rw [HA.out]; exact HP4.out) (by rw [HA.out]; exact HP.out.below (HB3.out.trans (HBR.out.mono hs3)))).mono ?_
      rintro e w5 ⟨rfl, nq, rfl⟩
      go_wp2_with fail
      refine (SameSeen_eq (.slice A2 b c2) (.slice sA b sc) ss (wr.drewN nq) (by rw [HBL.out]; exact HS4.out.below (by (repeat' (first | with_reducible exact Below.refl _ _ | with_reducible refine below_drewN ?_ _ | with_reducible refine Below.drew ?_ | with_reducible refine Below.setCell ?_ (by first | exact Nat.le_refl _ | (simp; done) | (simp; omega) | omega) _ | with_reducible refine Below.alloc ?_ (by first | exact Nat.le_refl _ | (simp; done) | (simp; omega) | omega) _ | exact Below.refl _ _)))) (by rw [HBL.out]; exact HS.out.below (by (repeat' (first | with_reducible exact HB3.out.trans (HBR.out.mono hs3) | with_reducible exact Below.refl _ _ | with_reducible refine below_drewN ?_ _ | with_reducible refine Below.drew ?_ | with_reducible refine Below.setCell ?_ (by first | exact Nat.le_refl _ | (simp; done) | (simp; omega) | omega) _ | with_reducible refine Below.alloc ?_ (by first | exact Nat.le_refl _ | (simp; done) | (simp; omega) | omega) _ | exact Below.refl _ _ | exact HB3.out.trans (HBR.out.mono hs3)))))).mono ?_
      rintro e w6 ⟨rfl, nq2, rfl⟩
      go_wp2_with fail
      go_ret
      exact ⟨rfl, by (repeat' (first | with_reducible exact HB3.out.trans (HBR.out.mono hs3) | with_reducible exact Below.refl _ _ | with_reducible refine below_drewN ?_ _ | with_reducible refine Below.drew ?_ | with_reducible refine Below.setCell ?_ (by first | exact Nat.le_refl _ | (simp; done) | (simp; omega) | omega) _ | with_reducible refine Below.alloc ?_ (by first | exact Nat.le_refl _ | (simp; done) | (simp; omega) | omega) _ | exact Below.refl _ _ | exact HB3.out.trans (HBR.out.mono hs3)))⟩

end Go.Proofs.Ytedcdjlpogpgbaa
