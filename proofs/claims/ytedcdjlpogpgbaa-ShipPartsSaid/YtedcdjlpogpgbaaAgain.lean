/- Layer 15: again: the fold worked out of the base and the entries. -/
import Derived.Test.YtedcdjlpogpgbaaOf
set_option linter.unusedVariables false
set_option linter.unusedSimpArgs false
namespace Go.Proofs.Ytedcdjlpogpgbaa
open Go.RowKit

def zeroEnt : Ent := ⟨⟨0, 0⟩, 0, 0, ⟨#[]⟩, false, ⟨#[]⟩⟩
def en (l : List Ent) (j : Nat) : Ent := l.getD j zeroEnt
theorem en_get {l : List Ent} {j : Nat} (h : j < l.length) : l[j]? = some (en l j) := by simp [en, h]
theorem ens_at {w : World} {v : Value} {l : List Ent} (h : SlAt w v l.length (entsCells l)) (hn : 0 < l.length) :
    ∃ b o c, v = .slice (some ⟨b, o, none⟩) l.length c ∧ l.length ≤ c ∧ c ≤ maxLen ∧ b < w.heap.size ∧ ∀ j, j < l.length → w.cell? ⟨b, o + j * 7, none⟩ = some (.int .i64 (en l j).pos.e) ∧ w.cell? ⟨b, o + j * 7 + 1, none⟩ = some (.int .i64 (en l j).pos.i) ∧ w.cell? ⟨b, o + j * 7 + 2, none⟩ = some (.int .i64 (en l j).s) ∧ w.cell? ⟨b, o + j * 7 + 3, none⟩ = some (.int .i64 (en l j).r) ∧ w.cell? ⟨b, o + j * 7 + 4, none⟩ = some (.string (en l j).k) ∧ w.cell? ⟨b, o + j * 7 + 5, none⟩ = some (.bool (en l j).d) ∧ w.cell? ⟨b, o + j * 7 + 6, none⟩ = some (.string (en l j).t) := by
  obtain ⟨A, c, e, h1, h2, h3⟩ := h
  obtain ⟨b, o, rfl, hb, hc⟩ := h3 hn
  have g : ∀ j, j < l.length → ∀ i u, i < 7 → (entCells (en l j))[i]? = some u → w.cell? ⟨b, o + (j * 7 + i), none⟩ = some u := fun j hj i u hi hu => hc (j * 7 + i) u (by unfold entsCells; rw [flat_get entCells 7 (fun _ => rfl) l j i _ (en_get hj) hi]; exact hu)
  refine ⟨b, o, c, e, h1, h2, hb, fun j hj => ⟨?_, ?_, ?_, ?_, ?_, ?_, ?_⟩⟩
  · simpa using g j hj 0 _ (by omega) rfl
  · rw [Nat.add_assoc]; exact g j hj 1 _ (by omega) rfl
  · rw [Nat.add_assoc]; exact g j hj 2 _ (by omega) rfl
  · rw [Nat.add_assoc]; exact g j hj 3 _ (by omega) rfl
  · rw [Nat.add_assoc]; exact g j hj 4 _ (by omega) rfl
  · rw [Nat.add_assoc]; exact g j hj 5 _ (by omega) rfl
  · rw [Nat.add_assoc]; exact g j hj 6 _ (by omega) rfl

/-- One entry more. -/
def St.put (s : St) (x : Ent) : St := { s with pos := x.pos, keys := ins x.k (entV x) s.keys, seen := noteIf s.seen (entS x) }
def St.basis (s : St) : St := { s with pos := s.base.pos, keys := s.base.ps, seen := s.base.ss }
def St.refold (s : St) : St := s.ents.foldl St.put s.basis
theorem St.foldl_take {s : St} {k : Nat} (h : k < s.ents.length) : (s.ents.take (k + 1)).foldl St.put s.basis = ((s.ents.take k).foldl St.put s.basis).put (en s.ents k) := by
  rw [List.take_add_one, en_get h, List.foldl_append]; rfl
theorem St.foldl_rest (l : List Ent) : ∀ s : St, (l.foldl St.put s).table = s.table ∧ (l.foldl St.put s).base = s.base ∧ (l.foldl St.put s).ents = s.ents ∧ (l.foldl St.put s).closed = s.closed := by
  induction l with
  | nil => intro s; exact ⟨rfl, rfl, rfl, rfl⟩
  | cons x l ih => intro s; exact ih (s.put x)

/-- The folded part of a layout, made anew; all of it is new memory. -/
structure Anew (w w' : World) (L L' : Lay) (s' : St) : Prop where
  b : L'.b = L.b
  tv : L'.tv = L.tv
  pv : L'.pv = L.pv
  sv : L'.sv = L.sv
  ev : L'.ev = L.ev
  blk : Blk w' L.b (stCells L' s') 94
  fold : FoldAt w' L'.kb L'.sb L'.mb L'.t s'.seen
  keys : L'.t.list = s'.keys
  n1 : w.heap.size ≤ L'.kb
  n2 : w.heap.size ≤ L'.sb
  n3 : w.heap.size ≤ L'.mb
  n4 : ∀ c ∈ L'.t.blocks, w.heap.size ≤ c
  frm : Frm (fun c => c = L.b) w w'
def AgainRes (L : Lay) (s : St) (w : World) (e : Ending) (w' : World) : Prop := e = .returned (.tuple #[]) ∧ ∃ L', Anew w w' L L' s.refold

set_option maxRecDepth 100000 in
set_option maxHeartbeats 8000000 in
theorem again_any (L : Lay) (s : St) (w : World) (hb : Blk w L.b (stCells L s) 94) (hp : w.ownsRow 0 67 5 L.pv s.base.ps.length (pairsCells s.base.ps)) (hs : w.ownsRow 0 69 4 L.sv s.base.ss.length (snsCells s.base.ss)) (he : w.ownsRow 0 35 7 L.ev s.ents.length (entsCells s.ents)) (hok : SnapOk s.base) (hel : s.ents.length ≤ 1000000) :
    Calls Try.prog 50 #[.pointer (some ⟨L.b, 0, none⟩)] w (AgainRes L s w) := by
  have HB := Lib.hid hb
  have HE := Lib.hid (own_sl he)
  have HET : Hid (∀ c, L.ev.ownBlock = some c → c ≠ L.b) := fun c hc e => by subst e; have := own_type he hc hb; exact absurd this (by decide)
  obtain ⟨A, ca, hpv, _⟩ := own_sl hp
  obtain ⟨B, cb, hsv, _⟩ := own_sl hs
  obtain ⟨E, ce, hev, hce, hcm, _⟩ := own_sl he
  have HPS : Hid (SlAt w (.slice A s.base.ps.length ca) s.base.ps.length (pairsCells s.base.ps)) := hpv ▸ own_sl hp
  have HSS : Hid (SlAt w (.slice B s.base.ss.length cb) s.base.ss.length (snsCells s.base.ss)) := hsv ▸ own_sl hs
  have HPV := Lib.hid hpv
  have HSV := Lib.hid hsv
  have HEV := Lib.hid hev
  have HOK := Lib.hid hok
  have hbl := hb.lt
  have c0 : World.cell? w ⟨L.b, 0, none⟩ = some (.int .i64 s.pos.e) := by rw [Blk.cell hb]; rfl
  have c1 : World.cell? w ⟨L.b, 1, none⟩ = some (.int .i64 s.pos.i) := by rw [Blk.cell hb]; rfl
  have c2 : World.cell? w ⟨L.b, 2, none⟩ = some (.pointer (some ⟨L.kb, 0, none⟩)) := by rw [Blk.cell hb]; rfl
  have c3 : World.cell? w ⟨L.b, 3, none⟩ = some (.pointer (some ⟨L.sb, 0, none⟩)) := by rw [Blk.cell hb]; rfl
  have c5 : World.cell? w ⟨L.b, 5, none⟩ = some (.int .i64 s.base.pos.e) := by rw [Blk.cell hb]; rfl
  have c6 : World.cell? w ⟨L.b, 6, none⟩ = some (.int .i64 s.base.pos.i) := by rw [Blk.cell hb]; rfl
  have c7 : w.cell? ⟨L.b, 7, none⟩ = some (.slice A s.base.ps.length ca) := by rw [hb.cell, ← hpv]; rfl
  have c8 : w.cell? ⟨L.b, 8, none⟩ = some (.slice B s.base.ss.length cb) := by rw [hb.cell, ← hsv]; rfl
  have c9 : w.cell? ⟨L.b, 9, none⟩ = some (.slice E s.ents.length ce) := by rw [hb.cell, ← hev]; rfl
  have f0 := Blk.free hb 0
  have f1 := Blk.free hb 1
  have f2 := Blk.free hb 2
  have f3 := Blk.free hb 3
  clear hpv hsv hev hp hs he hok hb
  go_enter Try.func50, Try.ntmps50
  go_wp2_with fail
  refine (of_any s.base A B ca cb w HPS.out HSS.out HOK.out).mono ?_
  rintro e w1 ⟨kb, sb, mb, t, rfl, hf, hl, h1, h2, h3, h4, hbel⟩
  unfold foldVal
  have hb1 := HB.out.below hbel
  have hbl1 := hb1.lt
  clear c0 c1 c2 c3 c5 c6 c7 c8 c9 f0 f1 f2 f3
  have c0 : World.cell? w1 ⟨L.b, 0, none⟩ = some (.int .i64 s.pos.e) := by rw [Blk.cell hb1]; rfl
  have c1 : World.cell? w1 ⟨L.b, 1, none⟩ = some (.int .i64 s.pos.i) := by rw [Blk.cell hb1]; rfl
  have c2 : World.cell? w1 ⟨L.b, 2, none⟩ = some (.pointer (some ⟨L.kb, 0, none⟩)) := by rw [Blk.cell hb1]; rfl
  have c3 : World.cell? w1 ⟨L.b, 3, none⟩ = some (.pointer (some ⟨L.sb, 0, none⟩)) := by rw [Blk.cell hb1]; rfl
  have c9 : w1.cell? ⟨L.b, 9, none⟩ = some (.slice E s.ents.length ce) := by rw [hb1.cell, ← HEV.out]; rfl
  have f0 := Blk.free hb1 0
  have f1 := Blk.free hb1 1
  have f2 := Blk.free hb1 2
  have f3 := Blk.free hb1 3
  have HF := Lib.hid hf
  have HL := Lib.hid hl
  have HBL := Lib.hid hbel
  have HN4 := Lib.hid h4
  have HB1 := Lib.hid hb1
  clear hf hl hbel h4 hb1
  go_wp2_with fail
  go_loopg [17] s.ents.length (fun g v wr => ∃ k : Nat, k ≤ s.ents.length ∧ v = .int .i64 k ∧ g = s.ents.length - k ∧ ∃ L', Anew w wr L L' ((s.ents.take k).foldl St.put s.basis))
  case atStart =>
    have hW : Frm (fun c => c = L.b) w1 _ := ((((Frm.refl (fun c => c = L.b) w1).setCell (p := ⟨L.b, 0, none⟩) (.inl rfl) (.int .i64 s.base.pos.e)).setCell (p := ⟨L.b, 1, none⟩) (.inl rfl) (.int .i64 s.base.pos.i)).setCell (p := ⟨L.b, 2, none⟩) (.inl rfl) (.pointer (some ⟨kb, 0, none⟩))).setCell (p := ⟨L.b, 3, none⟩) (.inl rfl) (.pointer (some ⟨sb, 0, none⟩))
    refine ⟨0, Nat.zero_le _, rfl, rfl, { L with kb := kb, sb := sb, mb := mb, t := t }, ⟨rfl, rfl, rfl, rfl, rfl, ?_, ?_, HL.out, h1, h2, h3, HN4.out, ?_⟩⟩
    · exact (((HB1.out.set 0 _).set 1 _).set 2 _).set 3 _
    · exact HF.out.frm hW (by omega) (fun c hc e => by have := HN4.out c hc; omega) (by omega) (by omega)
    · exact (Frm.ofBelow HBL.out).trans hW (fun i _ h => h)
  case round =>
    obtain ⟨k, hk, rfl, rfl, L', hrel⟩ := hrel
    have HREL := Lib.hid hrel
    have hsz := hrel.frm.size
    by_cases hlt : k < s.ents.length
    · obtain ⟨eb, eo, ec, hee, _, _, he3, he4⟩ := ens_at HE.out (by omega)
      have hneb : eb ≠ L.b := HET.out eb (by rw [hee]; rfl)
      rw [HEV.out] at hee
      injection hee with hE _ hc
      subst hE
      subst hc
      obtain ⟨a0, a1, a2, a3, a4, a5, a6⟩ := he4 k hlt
      rw [← hrel.frm.cell (p := ⟨eb, eo + k * 7, none⟩) he3 hneb] at a0
      rw [← hrel.frm.cell (p := ⟨eb, eo + k * 7 + 1, none⟩) he3 hneb] at a1
      rw [← hrel.frm.cell (p := ⟨eb, eo + k * 7 + 2, none⟩) he3 hneb] at a2
      rw [← hrel.frm.cell (p := ⟨eb, eo + k * 7 + 3, none⟩) he3 hneb] at a3
      rw [← hrel.frm.cell (p := ⟨eb, eo + k * 7 + 4, none⟩) he3 hneb] at a4
      rw [← hrel.frm.cell (p := ⟨eb, eo + k * 7 + 5, none⟩) he3 hneb] at a5
      rw [← hrel.frm.cell (p := ⟨eb, eo + k * 7 + 6, none⟩) he3 hneb] at a6
      have hebr : eb < wr.heap.size := by omega
      obtain ⟨x, hx⟩ : ∃ x, en s.ents k = x := ⟨_, rfl⟩
      rw [hx] at a0 a1 a2 a3 a4 a5 a6
      have HX := Lib.hid hx
      clear hx he4 hrel c0 c1 c2 c3 c9 f0 f1 f2 f3
      go_wp2_with fail
      have hput : ∀ W : World, Below wr.heap.size wr W → Calls Try.prog 46 #[.pointer (some ⟨L.b, 0, none⟩), .agg #[.int .i64 x.pos.e, .int .i64 x.pos.i, .int .i64 x.s, .int .i64 x.r, .string x.k, .bool x.d, .string x.t]] W (PutRes L.b L'.kb L'.sb L'.mb L'.t ((s.ents.take k).foldl St.put s.basis).seen x (stCells L' ((s.ents.take k).foldl St.put s.basis)) 94 W) := by
        intro W hW
        have hf := HREL.out.fold.frm (F := fun _ => False) (Frm.ofBelow hW) (fun h => h) (fun _ _ h => h) (fun h => h) (fun h => h)
        obtain ⟨nk, hkb⟩ := hf.keys.blk
        have hbW := HREL.out.blk.below hW
        exact put_any L.b L'.kb L'.sb L'.mb L'.t _ x _ _ W hbW rfl rfl (by simp [stCells]) hf (hbW.ne hkb (by decide)) (hbW.notTree hf.keys.tree (by decide)) (hbW.ne hf.seen.blk (by decide)) (hbW.neMap hf.seen.map)
      have HPUT := Lib.hid hput
      clear hput
      go_region_with (go_at_call 46; refine (HPUT.out _ (by (repeat' (first | with_reducible exact Below.refl _ _ | with_reducible refine below_drewN ?_ _ | with_reducible refine Below.drew ?_ | with_reducible refine Below.setCell ?_ (by first | exact Nat.le_refl _ | (simp; done) | (simp; omega) | omega) _ | with_reducible refine Below.alloc ?_ (by first | exact Nat.le_refl _ | (simp; done) | (simp; omega) | omega) _ | exact Below.refl _ _)))).mono ?_; rintro e w2 ⟨rfl, t', hdone⟩; (have hd2 : PutDone L.b L'.kb L'.sb L'.mb L'.t ((s.ents.take k).foldl St.put s.basis).seen x (stCells L' ((s.ents.take k).foldl St.put s.basis)) 94 wr w2 t' := ⟨hdone.fold, hdone.list, hdone.blk, fun c hc => (hdone.blocks c hc).imp id (fun h => by simp at h; omega), (by (repeat' (first | with_reducible exact Frm.refl _ _ | with_reducible refine Frm.drewN ?_ _ | with_reducible refine Frm.drew ?_ | with_reducible refine Frm.setCell ?_ (by first | exact Or.inl rfl | exact Or.inr (Nat.le_refl _) | (simp; done) | (simp; omega)) _ | with_reducible refine Frm.alloc ?_ _ | exact Frm.refl _ _)) : Frm (fun c => c = L.b ∨ c = L'.kb ∨ c ∈ L'.t.blocks ∨ c = L'.mb) wr _).trans hdone.frm (fun i _ h => h)⟩); (have HD := Lib.hid hd2); clear hdone hd2)
      all_goals
        go_wp2_with fail
        go_roundg (s.ents.length - (k + 1))
        case measure => omega
        case rel =>
          refine ⟨k + 1, by omega, by go_num, rfl, { L' with t := t' }, ?_⟩
          rw [St.foldl_take hlt, HX.out]
          have hn := HREL.out
          have hd := HD.out
          refine ⟨hn.b, hn.tv, hn.pv, hn.sv, hn.ev, ?_, hd.fold, ?_, hn.n1, hn.n2, hn.n3, ?_, ?_⟩
          · exact hd.blk
          · rw [show (((s.ents.take k).foldl St.put s.basis).put x).keys = ins x.k (entV x) ((s.ents.take k).foldl St.put s.basis).keys from rfl, ← hn.keys]; exact hd.list
          · intro c hc
            rcases hd.blocks c hc with h | h
            · exact hn.n4 c h
            · omega
          · refine hn.frm.trans hd.frm (fun i hi h => ?_)
            rcases h with h | h | h | h
            · exact h
            · have := hn.n1; omega
            · have := hn.n4 i h; omega
            · have := hn.n3; omega
    · have hkn : k = s.ents.length := by omega
      subst hkn
      clear hrel
      go_wp2_with fail
      go_end0
      refine ⟨rfl, L', ?_⟩
      have := HREL.out
      rwa [List.take_length] at this

end Go.Proofs.Ytedcdjlpogpgbaa
