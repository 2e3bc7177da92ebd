/- Layer 15: of, again: a fold out of a base and entries. -/
import Derived.Test.YtedcdjlpogpgbaaLoad
import Derived.Test.YtedcdjlpogpgbaaMap
set_option linter.unusedVariables false
set_option linter.unusedSimpArgs false
namespace Go.Proofs.Ytedcdjlpogpgbaa
open Go.RowKit

def pr (l : List (ByteArray × Val)) (j : Nat) : ByteArray × Val := l.getD j (⟨#[]⟩, zeroVal)
theorem pr_get {l : List (ByteArray × Val)} {j : Nat} (h : j < l.length) : l[j]? = some (pr l j) := by simp [pr, h]
theorem prs_at {w : World} {v : Value} {l : List (ByteArray × Val)} (h : SlAt w v l.length (pairsCells l)) (hn : 0 < l.length) :
    ∃ b o c, v = .slice (some ⟨b, o, none⟩) l.length c ∧ l.length ≤ c ∧ c ≤ maxLen ∧ b < w.heap.size ∧ ∀ j, j < l.length → w.cell? ⟨b, o + j * 5, none⟩ = some (.string (pr l j).1) ∧ w.cell? ⟨b, o + j * 5 + 1, none⟩ = some (.int .i64 (pr l j).2.pos.e) ∧ w.cell? ⟨b, o + j * 5 + 2, none⟩ = some (.int .i64 (pr l j).2.pos.i) ∧ w.cell? ⟨b, o + j * 5 + 3, none⟩ = some (.bool (pr l j).2.th) ∧ w.cell? ⟨b, o + j * 5 + 4, none⟩ = some (.string (pr l j).2.t) := by
  obtain ⟨A, c, e, h1, h2, h3⟩ := h
  obtain ⟨b, o, rfl, hb, hc⟩ := h3 hn
  refine ⟨b, o, c, e, h1, h2, hb, fun j hj => ⟨?_, ?_, ?_, ?_, ?_⟩⟩
  · have := hc (j * 5 + 0) _ (flat_get pairCells 5 (fun _ => rfl) l j 0 _ (pr_get hj) (by omega)); simpa using this
  · have := hc (j * 5 + 1) _ (flat_get pairCells 5 (fun _ => rfl) l j 1 _ (pr_get hj) (by omega)); rw [← Nat.add_assoc] at this; exact this
  · have := hc (j * 5 + 2) _ (flat_get pairCells 5 (fun _ => rfl) l j 2 _ (pr_get hj) (by omega)); rw [← Nat.add_assoc] at this; exact this
  · have := hc (j * 5 + 3) _ (flat_get pairCells 5 (fun _ => rfl) l j 3 _ (pr_get hj) (by omega)); rw [← Nat.add_assoc] at this; exact this
  · have := hc (j * 5 + 4) _ (flat_get pairCells 5 (fun _ => rfl) l j 4 _ (pr_get hj) (by omega)); rw [← Nat.add_assoc] at this; exact this
theorem ins_end {key : ByteArray} {x : Val} : ∀ {l : List (ByteArray × Val)}, (∀ a ∈ l, lt a.1 key = true) → ins key x l = l ++ [(key, x)]
  | [], _ => rfl
  | (k, y) :: l, h => by
    have h1 : lt k key = true := h _ (List.mem_cons_self ..)
    simp only [ins]
    rw [if_neg (by rw [lt_asymm h1]; simp), if_pos h1, ins_end (fun a ha => h a (List.mem_cons_of_mem _ ha))]
    rfl
theorem ins_take {l : List (ByteArray × Val)} (h : Up l) {j : Nat} (hj : j < l.length) : ins (pr l j).1 (pr l j).2 (l.take j) = l.take (j + 1) := by
  rw [ins_end, List.take_add_one, pr_get hj]
  · rfl
  · intro a ha
    obtain ⟨i, hi, rfl⟩ := List.mem_iff_getElem.1 ha
    have hi2 : i < j := by simp at hi; omega
    have := (List.pairwise_iff_getElem.1 h) i j (by omega) hj hi2
    simp only [List.getElem_take]
    rw [show pr l j = l[j] by simp [pr, hj]]
    exact this

def snapVal (p : Pos) (pv sv : Value) : Array Value := #[.int .i64 p.e, .int .i64 p.i, pv, sv]
structure SnapOk (s : Snap) : Prop where
  up : Up s.ps
  rise : Rise s.ss
  few : s.ss.length ≤ 16
  lim : s.ps.length ≤ 1000000000000
def OfRes (s : Snap) (w : World) (e : Ending) (w' : World) : Prop :=
  ∃ kb sb mb t, e = .returned (.agg (foldVal s.pos kb sb)) ∧ FoldAt w' kb sb mb t s.ss ∧ t.list = s.ps ∧ w.heap.size ≤ kb ∧ w.heap.size ≤ sb ∧ w.heap.size ≤ mb ∧ (∀ c ∈ t.blocks, w.heap.size ≤ c) ∧ Below w.heap.size w w'
structure OfRel (s : Snap) (pv sv : Value) (w : World) (kb sb mb fb : Nat) (t : T) (k : Nat) (wr : World) : Prop where
  fold : FoldAt wr kb sb mb t []
  list : t.list = s.ps.take k
  new : ∀ c ∈ t.blocks, w.heap.size ≤ c
  fb : Blk wr fb (foldVal s.pos kb sb) 91
  box : Blk wr w.heap.size (snapVal s.pos pv sv) 40
  res : Blk wr (w.heap.size + 1) (#[.int .i64 0, .int .i64 0, .pointer none, .pointer none]) 91
  below : Below w.heap.size w wr

set_option maxRecDepth 100000 in
set_option maxHeartbeats 8000000 in
theorem of_any (s : Snap) (A B : Option Addr) (ca cb : Nat) (w : World) (hp : SlAt w (.slice A s.ps.length ca) s.ps.length (pairsCells s.ps)) (hs : SlAt w (.slice B s.ss.length cb) s.ss.length (snsCells s.ss)) (hok : SnapOk s) :
    Calls Try.prog 74 #[.agg (snapVal s.pos (.slice A s.ps.length ca) (.slice B s.ss.length cb))] w (OfRes s w) := by
  have HP := Lib.hid hp
  have HS := Lib.hid hs
  have HOK := Lib.hid hok
  have hlim := hok.lim
  clear hp hs hok
  unfold snapVal
  go_enter Try.func74, Try.ntmps74
  go_wp2_with fail
  refine (blank_any _).mono ?_
  rintro e w1 ⟨kb, sb, mb, rfl, hf, h1, h2, h3, hb⟩
  unfold foldVal
  have kx := (Blk.new' rfl rfl : Blk (w.alloc (.cells (snapVal s.pos (.slice A s.ps.length ca) (.slice B s.ss.length cb)) 40)) w.heap.size (snapVal s.pos (.slice A s.ps.length ca) (.slice B s.ss.length cb)) 40)
  have K1 : Blk w1 w.heap.size (snapVal s.pos (.slice A s.ps.length ca) (.slice B s.ss.length cb)) 40 := (kx.alloc _).below hb
  have R1 : Blk w1 (w.heap.size + 1) (#[.int .i64 0, .int .i64 0, .pointer none, .pointer none]) 91 := Blk.below (Blk.new' (by simp) rfl) hb
  have B1 : Below w.heap.size w w1 := (by (repeat' (first | with_reducible exact Below.refl _ _ | with_reducible refine below_drewN ?_ _ | with_reducible refine Below.drew ?_ | with_reducible refine Below.setCell ?_ (by first | exact Nat.le_refl _ | (simp; done) | (simp; omega) | omega) _ | with_reducible refine Below.alloc ?_ (by first | exact Nat.le_refl _ | (simp; done) | (simp; omega) | omega) _ | exact Below.refl _ _)) : Below w.heap.size w _).trans (hb.mono (by simp; omega))
  have k0 : World.cell? w1 ⟨w.heap.size, 0, none⟩ = some (.int .i64 s.pos.e) := by rw [Blk.cell K1]; rfl
  have k1 : World.cell? w1 ⟨w.heap.size, 1, none⟩ = some (.int .i64 s.pos.i) := by rw [Blk.cell K1]; rfl
  have k2 : World.cell? w1 ⟨w.heap.size, 2, none⟩ = some (.slice A s.ps.length ca) := by rw [Blk.cell K1]; rfl
  have k3 : World.cell? w1 ⟨w.heap.size, 3, none⟩ = some (.slice B s.ss.length cb) := by rw [Blk.cell K1]; rfl
  have hkl := K1.lt
  simp at h1 h2 h3
  have HF := Lib.hid hf
  have HK1 := Lib.hid K1
  have HR1 := Lib.hid R1
  have HB1 := Lib.hid B1
  clear hf hb K1 R1 B1 kx
  go_wp2_with fail
  go_loopg [13] s.ps.length (fun g v wr => ∃ k : Nat, k ≤ s.ps.length ∧ v = .int .i64 k ∧ g = s.ps.length - k ∧ ∃ t, OfRel s (.slice A s.ps.length ca) (.slice B s.ss.length cb) w kb sb mb w1.heap.size t k wr)
  case atStart =>
    refine ⟨0, Nat.zero_le _, rfl, rfl, .nil, ⟨HF.out.frm (F := fun _ => False) ((Frm.refl _ _).alloc _) (fun h => h) (fun _ _ h => h) (fun h => h) (fun h => h), rfl, fun c hc => by simp [T.blocks] at hc, Blk.new' rfl rfl, HK1.out.alloc _, HR1.out.alloc _, by (repeat' (first | with_reducible exact HB1.out | with_reducible exact Below.refl _ _ | with_reducible refine below_drewN ?_ _ | with_reducible refine Below.drew ?_ | with_reducible refine Below.setCell ?_ (by first | exact Nat.le_refl _ | (simp; done) | (simp; omega) | omega) _ | with_reducible refine Below.alloc ?_ (by first | exact Nat.le_refl _ | (simp; done) | (simp; omega) | omega) _ | exact Below.refl _ _ | exact HB1.out))⟩⟩
  case round =>
    obtain ⟨k, hk, rfl, rfl, t, hrel⟩ := hrel
    have HREL := Lib.hid hrel
    have hfl := hrel.fb.lt
    have hwl := hrel.below.size
    have f0 : World.cell? wr ⟨w1.heap.size, 0, none⟩ = some (.int .i64 s.pos.e) := by rw [Blk.cell hrel.fb]; rfl
    have f1 : World.cell? wr ⟨w1.heap.size, 1, none⟩ = some (.int .i64 s.pos.i) := by rw [Blk.cell hrel.fb]; rfl
    have f2 : World.cell? wr ⟨w1.heap.size, 2, none⟩ = some (.pointer (some ⟨kb, 0, none⟩)) := by rw [Blk.cell hrel.fb]; rfl
    have f3 : World.cell? wr ⟨w1.heap.size, 3, none⟩ = some (.pointer (some ⟨sb, 0, none⟩)) := by rw [Blk.cell hrel.fb]; rfl
    have x3 : World.cell? wr ⟨w.heap.size, 3, none⟩ = some (.slice B s.ss.length cb) := by rw [Blk.cell hrel.box]; rfl
    clear k0 k1 k2 k3
    by_cases hlt : k < s.ps.length
    · obtain ⟨pb, po, pc, hpe, hp1, hp2, hp3, hp4⟩ := prs_at HP.out (by omega)
      injection hpe with hA _ hc
      subst hA
      subst hc
      obtain ⟨a0, a1, a2, a3, a4⟩ := hp4 k hlt
      rw [← hrel.below.cell (p := ⟨pb, po + k * 5, none⟩) hp3] at a0
      rw [← hrel.below.cell (p := ⟨pb, po + k * 5 + 1, none⟩) hp3] at a1
      rw [← hrel.below.cell (p := ⟨pb, po + k * 5 + 2, none⟩) hp3] at a2
      rw [← hrel.below.cell (p := ⟨pb, po + k * 5 + 3, none⟩) hp3] at a3
      rw [← hrel.below.cell (p := ⟨pb, po + k * 5 + 4, none⟩) hp3] at a4
      have hpb' : pb < wr.heap.size := by omega
      obtain ⟨q, hq⟩ : ∃ q, pr s.ps k = q := ⟨_, rfl⟩
      rw [hq] at a0 a1 a2 a3 a4
      have HQ := Lib.hid hq
      clear hq hp4 hrel
      go_wp2_with fail
      refine (Set_any kb t q.1 q.2 _ (HREL.out.fold.keys.frm (F := fun _ => False) ((Frm.refl _ _).alloc _) (fun h => h) (fun _ _ h => h))).mono ?_
      rintro e w2 ⟨bb, t', rfl, hm, hl, hbk, hfr⟩
      have hfr1 : Frm (fun c => c = kb ∨ c ∈ t.blocks) wr w2 := (Frm.alloc (Frm.refl (fun c => c = kb ∨ c ∈ t.blocks) wr) _).trans hfr (fun i _ h => h)
      have HM := Lib.hid hm
      have HL := Lib.hid hl
      have HBK := Lib.hid hbk
      have HFR := Lib.hid hfr1
      clear hm hl hbk hfr hfr1 f0 f1 f2 f3 x3
      go_wp2_with fail
      go_roundg (s.ps.length - (k + 1))
      case measure => omega
      case rel =>
        obtain ⟨nk, hkb⟩ := HREL.out.fold.keys.blk
        have htr := HREL.out.fold.keys.tree
        refine ⟨k + 1, by omega, by go_num, rfl, t', ⟨⟨HM.out, HREL.out.fold.seen.frm HFR.out ?_ ?_⟩, ?_, ?_, HREL.out.fb.frm HFR.out ?_, HREL.out.box.frm HFR.out ?_, HREL.out.res.frm HFR.out ?_, ?_⟩⟩
        · exact fun h => h.elim (HREL.out.fold.seen.blk.ne hkb (by decide)) (HREL.out.fold.seen.blk.notTree htr (by decide))
        · exact fun h => h.elim (fun e => hkb.neMap HREL.out.fold.seen.map e.symm) (HREL.out.fold.seen.map.notTree htr)
        · rw [HL.out, HREL.out.list, ← ins_take HOK.out.up hlt, HQ.out]
        · intro c hc
          rcases HBK.out c hc with h | h
          · exact HREL.out.new c h
          · simp at h; omega
        · exact fun h => h.elim (HREL.out.fb.ne hkb (by decide)) (HREL.out.fb.notTree htr (by decide))
        · exact fun h => h.elim (HREL.out.box.ne hkb (by decide)) (HREL.out.box.notTree htr (by decide))
        · exact fun h => h.elim (HREL.out.res.ne hkb (by decide)) (HREL.out.res.notTree htr (by decide))
        · refine HREL.out.below.trans ⟨HFR.out.os, HFR.out.tape, HFR.out.output, HFR.out.size, fun i hi => HFR.out.block i (by omega) (fun h => ?_)⟩
          rcases h with h | h
          · omega
          · have := HREL.out.new i h; omega
    · have hkn : k = s.ps.length := by omega
      subst hkn
      clear hrel
      go_wp2_with fail
      refine (Load_any sb mb 16 [] s.ss _ _ HREL.out.fold.seen (by have := HOK.out.few; omega) (by omega) HOK.out.rise (HS.out.below HREL.out.below) ?_).mono ?_
      · intro A' n c he h0
        obtain ⟨pb, po, pc, hpe, _, _, hp3, _⟩ := sns_at HS.out (by injection he with _ hn _; omega)
        rw [hpe] at he
        injection he with he _ _
        injection he with he
        subst he
        show pb ≠ mb
        omega
      · rintro e w3 ⟨rfl, htab, hfr⟩
        have hne : ∀ c, (∃ cs t, Blk wr c cs t) → c ≠ mb := fun c ⟨cs, t, hc⟩ => hc.neMap HREL.out.fold.seen.map
        have F3 := HREL.out.fb.frm hfr (hne _ ⟨_, _, HREL.out.fb⟩)
        have R3 := HREL.out.res.frm hfr (hne _ ⟨_, _, HREL.out.res⟩)
        have M3 : MapAt w3 kb t := by
          obtain ⟨nk, hkb⟩ := HREL.out.fold.keys.blk
          exact HREL.out.fold.keys.frm hfr (hne _ ⟨_, _, hkb⟩) (fun c hc e => HREL.out.fold.seen.map.notTree HREL.out.fold.keys.tree (e ▸ hc))
        have hfl3 := F3.lt
        have hrl3 := R3.lt
        have f0 : World.cell? w3 ⟨w1.heap.size, 0, none⟩ = some (.int .i64 s.pos.e) := by rw [Blk.cell F3]; rfl
        have f1 : World.cell? w3 ⟨w1.heap.size, 1, none⟩ = some (.int .i64 s.pos.i) := by rw [Blk.cell F3]; rfl
        have f2 : World.cell? w3 ⟨w1.heap.size, 2, none⟩ = some (.pointer (some ⟨kb, 0, none⟩)) := by rw [Blk.cell F3]; rfl
        have f3 : World.cell? w3 ⟨w1.heap.size, 3, none⟩ = some (.pointer (some ⟨sb, 0, none⟩)) := by rw [Blk.cell F3]; rfl
        have r0 : World.cell? w3 ⟨w.heap.size + 1, 0, none⟩ = some (.int .i64 0) := by rw [Blk.cell R3]; rfl
        have r1 : World.cell? w3 ⟨w.heap.size + 1, 1, none⟩ = some (.int .i64 0) := by rw [Blk.cell R3]; rfl
        have r2 : World.cell? w3 ⟨w.heap.size + 1, 2, none⟩ = some (.pointer none) := by rw [Blk.cell R3]; rfl
        have r3 : World.cell? w3 ⟨w.heap.size + 1, 3, none⟩ = some (.pointer none) := by rw [Blk.cell R3]; rfl
        have y0 := Blk.free R3 0
        have y1 := Blk.free R3 1
        have y2 := Blk.free R3 2
        have y3 := Blk.free R3 3
        have HT3 := Lib.hid htab
        have HFR := Lib.hid hfr
        have HR3 := Lib.hid R3
        have HM3 := Lib.hid M3
        clear htab hfr R3 M3 F3 hne
        go_wp2_with fail
        refine ret_cell rfl rfl (loads_blk (T := 91) (cs := foldVal s.pos kb sb) fold_agg fold_size ?_ rfl) rfl ⟨kb, sb, mb, t, rfl, ⟨?_, ?_⟩, ?_, by omega, by omega, by omega, HREL.out.new, ?_⟩
        · exact (((HR3.out.set 0 _).set 1 _).set 2 _).set 3 _
        · refine MapAt.frm (F := fun c => c = w.heap.size + 1) HM3.out (by (repeat' (first | with_reducible exact Frm.refl _ _ | with_reducible refine Frm.drewN ?_ _ | with_reducible refine Frm.drew ?_ | with_reducible refine Frm.setCell ?_ (by first | exact Or.inl rfl | exact Or.inr (Nat.le_refl _) | (simp; done) | (simp; omega)) _ | with_reducible refine Frm.alloc ?_ _ | exact Frm.refl _ _))) ?_ ?_
          · obtain ⟨nk, hkb⟩ := HM3.out.blk
            exact hkb.ne HR3.out (by decide)
          · exact fun c hc e => HR3.out.notTree HM3.out.tree (by decide) (e ▸ hc)
        · refine TabAt.frm (F := fun c => c = w.heap.size + 1) HT3.out (by (repeat' (first | with_reducible exact Frm.refl _ _ | with_reducible refine Frm.drewN ?_ _ | with_reducible refine Frm.drew ?_ | with_reducible refine Frm.setCell ?_ (by first | exact Or.inl rfl | exact Or.inr (Nat.le_refl _) | (simp; done) | (simp; omega)) _ | with_reducible refine Frm.alloc ?_ _ | exact Frm.refl _ _))) ?_ ?_
          · exact HT3.out.blk.ne HR3.out (by decide)
          · exact fun e => HR3.out.neMap HT3.out.map e.symm
        · rw [HREL.out.list, List.take_length]
        · have h3 : Below w.heap.size w w3 := HREL.out.below.trans ⟨HFR.out.os, HFR.out.tape, HFR.out.output, HFR.out.size, fun i hi => HFR.out.block i (by omega) (by omega)⟩
          (repeat' (first | with_reducible exact h3 | with_reducible exact Below.refl _ _ | with_reducible refine below_drewN ?_ _ | with_reducible refine Below.drew ?_ | with_reducible refine Below.setCell ?_ (by first | exact Nat.le_refl _ | (simp; done) | (simp; omega) | omega) _ | with_reducible refine Below.alloc ?_ (by first | exact Nat.le_refl _ | (simp; done) | (simp; omega) | omega) _ | exact Below.refl _ _ | exact h3))

end Go.Proofs.Ytedcdjlpogpgbaa
