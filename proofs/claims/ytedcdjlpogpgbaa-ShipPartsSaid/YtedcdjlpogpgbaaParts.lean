/- Layer 19: Parts: a snapshot's messages. -/
import Derived.Test.YtedcdjlpogpgbaaPiece
import Derived.Test.YtedcdjlpogpgbaaWire
import Derived.Deep.RegionHeld3
set_option linter.unusedVariables false
set_option linter.unusedSimpArgs false
namespace Go.Proofs.Ytedcdjlpogpgbaa
open Go.RowKit

structure Prt where
  i : Int
  pv : Value
  sv : Value
def partVal (me cfg : Int) (p : Pos) (n : Int) (d : Prt) : Array Value := #[.int .i64 3, .int .i64 me, .int .i64 cfg, .slice none 0 0, .int .i64 p.e, .int .i64 p.i, .int .i64 d.i, .int .i64 n, d.pv, d.sv, .slice none 0 0, .int .i64 0, .int .i64 0, .bool false, .int .i64 0, .int .i64 0, .string ⟨#[]⟩, .bool false, .string ⟨#[]⟩, .int .i64 0, .int .i64 0, .int .i64 0, .int .i64 0, .int .i64 0, .bool false, .string ⟨#[]⟩]
def partCells (me cfg : Int) (p : Pos) (n : Int) (d : Prt) : List Value := (partVal me cfg p n d).toList
/-- The part k of a snapshot in memory: its number, its pairs, its sessions. -/
structure PartOk (w : World) (B : Nat) (ps : List (ByteArray × Val)) (ss : List Sn) (k : Nat) (d : Prt) : Prop where
  num : d.i = (k : Int) + 1
  prs : w.ownsRow 0 67 5 d.pv (pieceL ps k).length (pairsCells (pieceL ps k))
  sns : w.ownsRow 0 69 4 d.sv (pieceL ss k).length (snsCells (pieceL ss k))
  hp : ∀ c, d.pv.ownBlock = some c → B ≤ c
  hs : ∀ c, d.sv.ownBlock = some c → B ≤ c
def PartsOk (w : World) (B : Nat) (ps : List (ByteArray × Val)) (ss : List Sn) (P : List Prt) : Prop := ∀ k d, P[k]? = some d → PartOk w B ps ss k d
theorem PartsOk.below {w w' : World} {B : Nat} {ps : List (ByteArray × Val)} {ss : List Sn} {P : List Prt} (h : PartsOk w B ps ss P) (f : Below w.heap.size w w') : PartsOk w' B ps ss P := fun k d hd =>
  let o := h k d hd
  ⟨o.num, own_frm o.prs (Frm.ofBelow (F := fun _ => False) f) (fun _ _ h => h), own_frm o.sns (Frm.ofBelow (F := fun _ => False) f) (fun _ _ h => h), o.hp, o.hs⟩
/-- A row of messages is none of its parts' rows. -/
theorem PartsOk.append {w w' : World} {B n : Nat} {ps : List (ByteArray × Val)} {ss : List Sn} {P : List Prt} {v : Value} {xs : List Value} (h : PartsOk w B ps ss P) (ho : w.ownsRow 0 74 26 v n xs) (f : Frm (fun c => v.ownBlock = some c) w w') : PartsOk w' B ps ss P := fun k d hd =>
  let o := h k d hd
  ⟨o.num, own_frm o.prs f (fun c h1 h2 => absurd (own_two o.prs h1 ho h2) (by decide)), own_frm o.sns f (fun c h1 h2 => absurd (own_two o.sns h1 ho h2) (by decide)), o.hp, o.hs⟩
theorem PartsOk.snoc {w : World} {B : Nat} {ps : List (ByteArray × Val)} {ss : List Sn} {P : List Prt} {d : Prt} (h : PartsOk w B ps ss P) (hd : PartOk w B ps ss P.length d) : PartsOk w B ps ss (P ++ [d]) := fun k e he => by
  rcases Nat.lt_trichotomy k P.length with h1 | h1 | h1
  · rw [List.getElem?_append_left h1] at he; exact h k e he
  · subst h1
    rw [List.getElem?_append_right (Nat.le_refl _), Nat.sub_self] at he
    injection he with he; subst he; exact hd
  · rw [List.getElem?_eq_none (by simp; omega)] at he; cases he
theorem msg_info3 : (Try.prog.info? 74).map (fun i => (i.zero, i.size, i.bytes)) = some (some (.agg #[.int .i64 0, .int .i64 0, .int .i64 0, .slice none 0 0, .int .i64 0, .int .i64 0, .int .i64 0, .int .i64 0, .slice none 0 0, .slice none 0 0, .slice none 0 0, .int .i64 0, .int .i64 0, .bool false, .int .i64 0, .int .i64 0, .string ⟨#[]⟩, .bool false, .string ⟨#[]⟩, .int .i64 0, .int .i64 0, .int .i64 0, .int .i64 0, .int .i64 0, .bool false, .string ⟨#[]⟩]), 26, 296) := by kernel_rfl
def partsN (a b : Nat) : Nat := (max (max a b) 1 + 7) / 8
def PartsRes (me cfg : Int) (p : Pos) (ps : List (ByteArray × Val)) (ss : List Sn) (w : World) (e : Ending) (w' : World) : Prop :=
  ∃ v P, e = .returned v ∧ P.length = partsN ps.length ss.length ∧ w'.ownsRow 0 74 26 v P.length (P.flatMap (partCells me cfg p (partsN ps.length ss.length : Nat))) ∧ (∀ c, v.ownBlock = some c → w.heap.size ≤ c) ∧ PartsOk w' w.heap.size ps ss P ∧ Below w.heap.size w w'

theorem row_box {wr w4 w5 : World} {base k n b : Nat} {e T : TypeId} {v : Value} {xs : List Value} {cs : Array Value} (hown : wr.ownsRow base e k v n xs) (hbx : Blk wr b cs T) (h4 : Below wr.heap.size wr w4) (hf : Frm (fun c => v.ownBlock = some c) w4 w5) (hne : e ≠ T) : Blk w5 b cs T := by
  have o4 := own_frm hown (Frm.ofBelow (F := fun _ => False) h4) (fun _ _ h => h)
  have b4 := hbx.below h4
  exact b4.frm hf (fun h => hne (own_type o4 h b4))
theorem parts_next {w wr w3 w4 w5 : World} {ps : List (ByteArray × Val)} {ss : List Sn} {P : List Prt} {d : Prt} {v : Value} {k : Nat} {xs : List Value} (h4 : Below wr.heap.size wr w4) (h34 : Below w3.heap.size w3 w4) (hown : wr.ownsRow 0 74 26 v k xs) (hfr : ∀ c, v.ownBlock = some c → w.heap.size ≤ c)
    (hpo : PartsOk wr w.heap.size ps ss P) (hb : Below w.heap.size w wr) (hpl : P.length = k) (hd : PartOk w3 w.heap.size ps ss k d) (hf5 : Frm (fun c => v.ownBlock = some c) w4 w5) : PartsOk w5 w.heap.size ps ss (P ++ [d]) ∧ Below w.heap.size w w5 := by
  have o4 := own_frm hown (Frm.ofBelow (F := fun _ => False) h4) (fun _ _ h => h)
  have d4 : PartOk w4 w.heap.size ps ss P.length d := by
    rw [hpl]
    exact ⟨hd.num, own_frm hd.prs (Frm.ofBelow (F := fun _ => False) h34) (fun _ _ h => h), own_frm hd.sns (Frm.ofBelow (F := fun _ => False) h34) (fun _ _ h => h), hd.hp, hd.hs⟩
  exact ⟨((hpo.below h4).snoc d4).append o4 hf5, Frm.ge (hb.trans (h4.mono hb.size)) hf5 hfr⟩
attribute [local go_sem high] run_boxMsg
attribute [local go_sem ↓] boxMsg_eq
set_option maxRecDepth 100000 in
set_option maxHeartbeats 4000000 in
theorem Parts_any (me cfg : Int) (p : Pos) (pv sv : Value) (ps : List (ByteArray × Val)) (ss : List Sn) (w : World) (hp : SlAt w pv ps.length (pairsCells ps)) (hs : SlAt w sv ss.length (snsCells ss)) (hlp : ps.length ≤ 1000000) (hls : ss.length ≤ 1000000) :
    Calls Try.prog 34 #[.int .i64 me, .int .i64 cfg, .agg (snapVal p pv sv)] w (PartsRes me cfg p ps ss w) := by
  obtain ⟨pA, pc, rfl, _, hpm, _⟩ := id hp
  obtain ⟨sA, sc, rfl, _, hsm, _⟩ := id hs
  obtain ⟨a, ha⟩ : ∃ a, ps.length = a := ⟨_, rfl⟩
  obtain ⟨b, hb⟩ : ∃ b, ss.length = b := ⟨_, rfl⟩
  obtain ⟨n, hn⟩ : ∃ n, partsN a b = n := ⟨_, rfl⟩
  obtain ⟨M, hM⟩ : ∃ M, max (max a b) 1 = M := ⟨_, rfl⟩
  have hMn : (M + 7) / 8 = n := by rw [← hn, ← hM]; rfl
  unfold PartsRes
  rw [ha, hb, hn]
  rw [ha] at hlp hp
  rw [hb] at hls hs
  have hM1 : M ≤ 1000000 := by omega
  have hM0 : 1 ≤ M := by omega
  obtain ⟨X, hX⟩ : ∃ X : Int, (if a < b then (b : Int) else (a : Int)) = X := ⟨_, rfl⟩
  have m1 : (if X < 1 then 1 else X) = (M : Int) := by rw [← hX]; split <;> split <;> omega
  have m2 : IntKind.i64.wrap ((M : Int) + 8) = (M : Int) + 8 := wrap_small _ (by omega) (by omega)
  have m3 : IntKind.i64.wrap ((M : Int) + 8 - 1) = (M : Int) + 8 - 1 := wrap_small _ (by omega) (by omega)
  have m4 : ((M : Int) + 8 - 1).tdiv 8 = (n : Int) := by rw [Int.tdiv_eq_ediv_of_nonneg (by omega)]; omega
  unfold snapVal
  have HP := Lib.hid hp
  have HS := Lib.hid hs
  have HA := Lib.hid ha
  have HBB := Lib.hid hb
  have hn1 : n ≤ 125001 := by omega
  have HMN := Lib.hid hMn
  clear hp hs ha hb hn hM hMn
  go_enter Try.func34, Try.ntmps34
  go_upto_region 3 with (fail)
  have hbx : Blk (w.alloc (.cells #[.int .i64 p.e, .int .i64 p.i, .slice pA a pc, .slice sA b sc] 40)) w.heap.size #[.int .i64 p.e, .int .i64 p.i, .slice pA a pc, .slice sA b sc] 40 := by ((repeat' (first | with_reducible exact Blk.new _ _ _ | with_reducible apply Blk.drewN | with_reducible apply Blk.drew | with_reducible apply Blk.set' | (with_reducible apply Blk.set_other (hp := by first | assumption | (simp; done) | (simp; omega) | omega)) | (with_reducible apply Blk.new'; focus (first | (simp; done) | (simp; omega))) | with_reducible apply Blk.alloc)) <;> rfl)
  have hb0 : Below w.heap.size w (w.alloc (.cells #[.int .i64 p.e, .int .i64 p.i, .slice pA a pc, .slice sA b sc] 40)) := by (repeat' (first | with_reducible exact Below.refl _ _ | with_reducible refine below_drewN ?_ _ | with_reducible refine Below.drew ?_ | with_reducible refine Below.setCell ?_ (by first | exact Nat.le_refl _ | (simp; done) | (simp; omega) | omega) _ | with_reducible refine Below.alloc ?_ (by first | exact Nat.le_refl _ | (simp; done) | (simp; omega) | omega) _ | exact Below.refl _ _))
  have HBX0 := Lib.hid hbx
  have HB0 := Lib.hid hb0
  clear hbx hb0 m1 m2 m3 hX
  go_wp2_with fail
  clear m4
  go_loopg [8, 9] n (fun g v i wr => ∃ (k : Nat) (P : List Prt) (A : Option Addr) (c : Nat), k ≤ n ∧ g = n - k ∧ i = .int .i64 (k : Int) ∧ v = .slice A k c ∧ P.length = k ∧ wr.ownsRow 0 74 26 (.slice A k c) k (P.flatMap (partCells me cfg p (n : Nat))) ∧ (∀ c', (Value.slice A k c).ownBlock = some c' → w.heap.size ≤ c') ∧ PartsOk wr w.heap.size ps ss P ∧ Below w.heap.size w wr ∧ Blk wr w.heap.size #[.int .i64 p.e, .int .i64 p.i, .slice pA a pc, .slice sA b sc] 40)
  case atStart => exact ⟨0, [], none, 0, Nat.zero_le _, rfl, rfl, rfl, rfl, own_empty _ _ _, (fun c h => by cases h), (fun k d h => by simp at h), HB0.out, HBX0.out⟩
  case round =>
    obtain ⟨k, P, A, c, hk, rfl, rfl, rfl, hpl, hown, hfr, hpo, hb, hbx⟩ := hrel
    have hsr := hb.size
    have hbl := hbx.lt
    have HPL := Lib.hid hpl
    have HOWN := Lib.hid hown
    have HFR := Lib.hid hfr
    have HPO := Lib.hid hpo
    have HB := Lib.hid hb
    have HBX := Lib.hid hbx
    clear hpl hown hfr hpo hb hbx
    by_cases hlt : k < n
    · have d1 : decide ((k : Int) < (n : Int)) = true := by rw [decide_eq_true_eq]; omega
      have q1 : IntKind.i64.wrap ((k : Int) + 1) = (k : Int) + 1 := wrap_small _ (by omega) (by omega)
      have x0 : World.cell? wr ⟨w.heap.size, 0, none⟩ = some (.int .i64 p.e) := by rw [Blk.cell HBX.out]; rfl
      have x1 : World.cell? wr ⟨w.heap.size, 1, none⟩ = some (.int .i64 p.i) := by rw [Blk.cell HBX.out]; rfl
      have x2 : World.cell? wr ⟨w.heap.size, 2, none⟩ = some (.slice pA a pc) := by rw [Blk.cell HBX.out]; rfl
      have x3 : World.cell? wr ⟨w.heap.size, 3, none⟩ = some (.slice sA b sc) := by rw [Blk.cell HBX.out]; rfl
      have hcb : ∀ W : World, Below wr.heap.size wr W → W.cell? ⟨w.heap.size, 0, none⟩ = some (.int .i64 p.e) ∧ W.cell? ⟨w.heap.size, 1, none⟩ = some (.int .i64 p.i) ∧ W.cell? ⟨w.heap.size, 2, none⟩ = some (.slice pA a pc) ∧ W.cell? ⟨w.heap.size, 3, none⟩ = some (.slice sA b sc) := fun W hW => by
        have hB := HBX.out.below hW
        exact ⟨by rw [hB.cell]; rfl, by rw [hB.cell]; rfl, by rw [hB.cell]; rfl, by rw [hB.cell]; rfl⟩
      have HCB := Lib.hid hcb
      have hpc : ∀ W : World, Below wr.heap.size wr W → Calls Try.prog 56 #[.slice pA a pc, .int .i64 k] W (RowRes 67 5 (pieceL ps k).length (pairsCells (pieceL ps k)) W) := fun W hW =>
        piece_pair (.slice pA a pc) ps k W (by rw [HA.out]; exact HP.out.below (HB.out.trans (hW.mono hsr))) (by rw [HA.out]; omega) (by omega)
      have hsc : ∀ W : World, Below wr.heap.size wr W → Calls Try.prog 57 #[.slice sA b sc, .int .i64 k] W (RowRes 69 4 (pieceL ss k).length (snsCells (pieceL ss k)) W) := fun W hW =>
        piece_seen (.slice sA b sc) ss k W (by rw [HBB.out]; exact HS.out.below (HB.out.trans (hW.mono hsr))) (by rw [HBB.out]; omega) (by omega)
      have HPC := Lib.hid hpc
      have HSC := Lib.hid hsc
      clear hcb hpc hsc
      go_upto_region 6 with (fail)
      go_region_held3 (fun W => W.cell? ⟨w.heap.size, 0, none⟩ = some (.int .i64 p.e) ∧ W.cell? ⟨w.heap.size, 1, none⟩ = some (.int .i64 p.i) ∧ W.cell? ⟨w.heap.size, 2, none⟩ = some (.slice pA a pc) ∧ W.cell? ⟨w.heap.size, 3, none⟩ = some (.slice sA b sc)) (first | go_keep)
        (first
        | (refine step_append_sl (v := .slice A k c) rfl _ _ 70 70 74 26 296 _ rfl rfl Try.underlying70 msg_info3 rfl (by omega) k (P.flatMap (partCells me cfg p (n : Nat))) 1 (partCells me cfg p (n : Nat) ⟨(k : Int) + 1, .slice A2 l2 c2, .slice A3 l3 c3⟩) (by rfl) rfl (own_frm (F := fun _ => False) HOWN.out ?_ (fun _ _ h => h)) (sl_one (cs := partVal me cfg p (n : Nat) ⟨(k : Int) + 1, .slice A2 l2 c2, .slice A3 l3 c3⟩) (T := 74) ?_) rfl (by simp [partCells, partVal, Value.oneCell']) (by omega) (by unfold maxLen; omega) (k + 1) rfl (P.flatMap (partCells me cfg p (n : Nat)) ++ partCells me cfg p (n : Nat) ⟨(k : Int) + 1, .slice A2 l2 c2, .slice A3 l3 c3⟩) rfl ?_; (repeat' (first | with_reducible exact Frm.ofBelow HB3.out | with_reducible exact Frm.refl _ _ | with_reducible refine Frm.drewN ?_ _ | with_reducible refine Frm.drew ?_ | with_reducible refine Frm.setCell ?_ (by first | exact Or.inl rfl | exact Or.inr (Nat.le_refl _) | (simp; done) | (simp; omega)) _ | with_reducible refine Frm.alloc ?_ _ | exact Frm.refl _ _ | exact Frm.ofBelow HB3.out)); (unfold partVal; ((repeat' (first | with_reducible exact Blk.new _ _ _ | with_reducible apply Blk.drewN | with_reducible apply Blk.drew | with_reducible apply Blk.set' | (with_reducible apply Blk.set_other (hp := by first | assumption | (simp; done) | (simp; omega) | omega)) | (with_reducible apply Blk.new'; focus (first | (simp; done) | (simp; omega))) | with_reducible apply Blk.alloc)) <;> rfl)); intro A5 c5 w5 hown5 hfr5 hob5; have HO5 := Lib.hid hown5; have HF5 := Lib.hid hfr5; have HOB5 := Lib.hid hob5; (have hbx5 := row_box HOWN.out HBX.out (by (repeat' (first | with_reducible exact HB3.out | with_reducible exact Below.refl _ _ | with_reducible refine below_drewN ?_ _ | with_reducible refine Below.drew ?_ | with_reducible refine Below.setCell ?_ (by first | exact Nat.le_refl _ | (simp; done) | (simp; omega) | omega) _ | with_reducible refine Below.alloc ?_ (by first | exact Nat.le_refl _ | (simp; done) | (simp; omega) | omega) _ | exact Below.refl _ _ | exact HB3.out))) hfr5 (by decide)); clear x0 x1 x2 x3; (have x0 : World.cell? w5 ⟨w.heap.size, 0, none⟩ = some (.int .i64 p.e) := by rw [Blk.cell hbx5]; rfl); (have x1 : World.cell? w5 ⟨w.heap.size, 1, none⟩ = some (.int .i64 p.i) := by rw [Blk.cell hbx5]; rfl); (have x2 : World.cell? w5 ⟨w.heap.size, 2, none⟩ = some (.slice pA a pc) := by rw [Blk.cell hbx5]; rfl); (have x3 : World.cell? w5 ⟨w.heap.size, 3, none⟩ = some (.slice sA b sc) := by rw [Blk.cell hbx5]; rfl); (have HBX5 := Lib.hid hbx5); clear hown5 hfr5 hob5 hbx5)
        | (go_at_call 56; refine (HPC.out _ (by (repeat' (first | with_reducible exact Below.refl _ _ | with_reducible refine below_drewN ?_ _ | with_reducible refine Below.drew ?_ | with_reducible refine Below.setCell ?_ (by first | exact Nat.le_refl _ | (simp; done) | (simp; omega) | omega) _ | with_reducible refine Below.alloc ?_ (by first | exact Nat.le_refl _ | (simp; done) | (simp; omega) | omega) _ | exact Below.refl _ _)))).mono ?_; rintro e w2 ⟨pv2, rfl, hp2, hn2, hb2⟩; (have hb2' : Below wr.heap.size wr w2 := (Below.refl _ wr).drew.trans hb2); (obtain ⟨l2, hl2⟩ : ∃ l, (pieceL ps k).length = l := ⟨_, rfl⟩); (rw [hl2] at hp2); (obtain ⟨A2, c2, rfl, _⟩ := own_sl hp2); (have HP2 := Lib.hid hp2); (have HL2 := Lib.hid hl2); (have HN2 := Lib.hid hn2); (have HB2 := Lib.hid hb2'); (have hs2 := hb2'.size); clear x0 x1 x2 x3; (obtain ⟨x0, x1, x2, x3⟩ := HCB.out w2 hb2'); clear hp2 hn2 hl2 hb2 hb2')
        | (go_at_call 57; refine (HSC.out _ (by (repeat' (first | with_reducible exact HB2.out | with_reducible exact Below.refl _ _ | with_reducible refine below_drewN ?_ _ | with_reducible refine Below.drew ?_ | with_reducible refine Below.setCell ?_ (by first | exact Nat.le_refl _ | (simp; done) | (simp; omega) | omega) _ | with_reducible refine Below.alloc ?_ (by first | exact Nat.le_refl _ | (simp; done) | (simp; omega) | omega) _ | exact Below.refl _ _ | exact HB2.out)))).mono ?_; rintro e w3 ⟨sv3, rfl, hp3, hn3, hb3⟩; (have hb3' : Below wr.heap.size wr w3 := HB2.out.trans (hb3.mono hs2)); (obtain ⟨l3, hl3⟩ : ∃ l, (pieceL ss k).length = l := ⟨_, rfl⟩); (rw [hl3] at hp3); (obtain ⟨A3, c3, rfl, _⟩ := own_sl hp3); (have HP3 := Lib.hid hp3); (have HL3 := Lib.hid hl3); (have HN3 := Lib.hid hn3); (have HB3 := Lib.hid hb3'); (have HP2' := Lib.hid (own_frm HP2.out (Frm.ofBelow (F := fun _ => False) hb3) (fun _ _ h => h))); (have hs3 := hb3'.size); clear x0 x1 x2 x3; (obtain ⟨x0, x1, x2, x3⟩ := HCB.out w3 hb3'); clear hp3 hn3 hl3 hb3 hb3'))
      go_wp2_with fail
      go_roundg (n - (k + 1))
      case measure => omega
      case rel =>
        obtain ⟨hpo5, hb5⟩ := parts_next (w3 := w3) (d := ⟨(k : Int) + 1, .slice A2 l2 c2, .slice A3 l3 c3⟩) (by (repeat' (first | with_reducible exact HB3.out | with_reducible exact Below.refl _ _ | with_reducible refine below_drewN ?_ _ | with_reducible refine Below.drew ?_ | with_reducible refine Below.setCell ?_ (by first | exact Nat.le_refl _ | (simp; done) | (simp; omega) | omega) _ | with_reducible refine Below.alloc ?_ (by first | exact Nat.le_refl _ | (simp; done) | (simp; omega) | omega) _ | exact Below.refl _ _ | exact HB3.out))) (by (repeat' (first | with_reducible exact Below.refl _ _ | with_reducible refine below_drewN ?_ _ | with_reducible refine Below.drew ?_ | with_reducible refine Below.setCell ?_ (by first | exact Nat.le_refl _ | (simp; done) | (simp; omega) | omega) _ | with_reducible refine Below.alloc ?_ (by first | exact Nat.le_refl _ | (simp; done) | (simp; omega) | omega) _ | exact Below.refl _ _))) HOWN.out HFR.out HPO.out HB.out HPL.out ⟨rfl, by rw [HL2.out]; exact HP2'.out, by rw [HL3.out]; exact HP3.out, fun c hc => Nat.le_trans hsr (HN2.out c hc), fun c hc => Nat.le_trans hsr (Nat.le_trans hs2 (HN3.out c hc))⟩ HF5.out
        refine ⟨k + 1, P ++ [⟨(k : Int) + 1, .slice A2 l2 c2, .slice A3 l3 c3⟩], A5, c5, by omega, rfl, by go_num, rfl, by simp [HPL.out], ?_, ?_, hpo5, hb5, HBX5.out⟩
        · have := HO5.out
          rw [List.flatMap_append]
          simpa using this
        · intro c' hc'
          rcases HOB5.out with h | h
          · rw [h] at hc'; exact HFR.out c' hc'
          · rw [h] at hc'; injection hc' with hc'; rw [← hc']; simp; omega
    · have d1 : decide ((k : Int) < (n : Int)) = false := by rw [decide_eq_false_iff_not]; omega
      obtain rfl : k = n := by omega
      go_wp2_with fail
      go_ret
      exact ⟨_, P, rfl, HPL.out, by rw [HPL.out]; exact HOWN.out, HFR.out, HPO.out, HB.out⟩

end Go.Proofs.Ytedcdjlpogpgbaa
