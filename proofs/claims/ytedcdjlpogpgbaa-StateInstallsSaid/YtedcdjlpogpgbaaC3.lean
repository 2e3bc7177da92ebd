/- Layer 15: again: the fold worked out of the base and the entries. -/
import Derived.Test.YtedcdjlpogpgbaaC2
import Derived.Deep.RegionLaw
set_option linter.unusedVariables false
set_option linter.unusedSimpArgs false
namespace Go.Proofs.Ytedcdjlpogpgbaa
open Go.RowKit

def zeroEnt : Ent := ⟨⟨0, 0⟩, 0, 0, ⟨#[]⟩, false, ⟨#[]⟩⟩
def en (l : List Ent) (j : Nat) : Ent := l.getD j zeroEnt
theorem en_get {l : List Ent} {j : Nat} (h : j < l.length) : l[j]? = some (en l j) := by simp [en, h]
theorem ens_at {w : World} {v : Value} {l : List Ent} (h : SlAt w v l.length (entsCells l)) (hn : 0 < l.length) :
    ∃ b o c, v = .slice (some ⟨b, o, none⟩) l.length c ∧ l.length ≤ c ∧ c ≤ maxLen ∧ b < w.heap.size ∧ ∀ j, j < l.length → w.cell? ⟨b, o + j * 7, none⟩ = some (.int .i64 (en l j).pos.e) ∧ w.cell? ⟨b, o + j * 7 + 1, none⟩ = some (.int .i64 (en l j).pos.i) ∧ w.cell? ⟨b, o + j * 7 + 2, none⟩ = some (.int .i64 (en l j).s) ∧ w.cell? ⟨b, o + j * 7 + 3, none⟩ = some (.int .i64 (en l j).r) ∧ w.cell? ⟨b, o + j * 7 + 4, none⟩ = some (.string (en l j).k) ∧ w.cell? ⟨b, o + j * 7 + 5, none⟩ = some (.bool (en l j).d) ∧ w.cell? ⟨b, o + j * 7 + 6, none⟩ = some (.string (en l j).t) := by
  obtain ⟨A, c, e, h1, h2, h3⟩ := h
  obtain ⟨b, o, rfl, hb, hc⟩ := h3 hn
  have g : ∀ j, j < l.length → ∀ i u, i < 7 → (entCells (en l j))[i]? = some u → w.cell? ⟨b, o + (j * 7 + i), none⟩ = some u := fun j hj i u hi hu => hc (j * 7 + i) u (by unfold entsCells; rw [flat_get entCells 7 (fun _ => rfl) l j i _ (en_get hj) hi]; exact hu)
  refine ⟨b, o, c, e, h1, h2, hb, fun j hj => ⟨?_, ?_, ?_, ?_, ?_, ?_, ?_⟩⟩
  · simpa using g j hj 0 _ (by omega) rfl
  · rw [Nat.add_assoc]; exact g j hj 1 _ (by omega) rfl
  · rw [Nat.add_assoc]; exact g j hj 2 _ (by omega) rfl
  · rw [Nat.add_assoc]; exact g j hj 3 _ (by omega) rfl
  · rw [Nat.add_assoc]; exact g j hj 4 _ (by omega) rfl
  · rw [Nat.add_assoc]; exact g j hj 5 _ (by omega) rfl
  · rw [Nat.add_assoc]; exact g j hj 6 _ (by omega) rfl

/-- One entry more. -/
def St.put (s : St) (x : Ent) : St := { s with pos := x.pos, keys := ins x.k (entV x) s.keys, seen := noteIf s.seen (entS x) }
def St.basis (s : St) : St := { s with pos := s.base.pos, keys := s.base.ps, seen := s.base.ss }
def St.refold (s : St) : St := s.ents.foldl St.put s.basis
theorem St.foldl_take {s : St} {k : Nat} (h : k < s.ents.length) : (s.ents.take (k + 1)).foldl St.put s.basis = ((s.ents.take k).foldl St.put s.basis).put (en s.ents k) := by
  rw [List.take_add_one, en_get h, List.foldl_append]; rfl
theorem St.foldl_rest (l : List Ent) : ∀ s : St, (l.foldl St.put s).table = s.table ∧ (l.foldl St.put s).base = s.base ∧ (l.foldl St.put s).ents = s.ents ∧ (l.foldl St.put s).closed = s.closed := by
  induction l with
  | nil => intro s; exact ⟨rfl, rfl, rfl, rfl⟩
  | cons x l ih => intro s; exact ih (s.put x)

/-- The folded part of a layout, made anew; all of it is new memory. -/
structure Anew (w w' : World) (L L' : Lay) (s' : St) : Prop where
  b : L'.b = L.b
  tv : L'.tv = L.tv
  pv : L'.pv = L.pv
  sv : L'.sv = L.sv
  ev : L'.ev = L.ev
  blk : Blk w' L.b (stCells L' s') 94
  fold : FoldAt w' L'.kb L'.sb L'.mb L'.t s'.seen
  keys : L'.t.list = s'.keys
  n1 : w.heap.size ≤ L'.kb
  n2 : w.heap.size ≤ L'.sb
  n3 : w.heap.size ≤ L'.mb
  n4 : ∀ c ∈ L'.t.blocks, w.heap.size ≤ c
  frm : Frm (fun c => c = L.b) w w'
def AgainRes (L : Lay) (s : St) (w : World) (e : Ending) (w' : World) : Prop := e = .returned (.tuple #[]) ∧ ∃ L', Anew w w' L L' s.refold

set_option maxRecDepth 100000 in
set_option maxHeartbeats 8000000 in
theorem again_any (L : Lay) (s : St) (w : World) (hb : Blk w L.b (stCells L s) 94) (hp : w.ownsRow 0 67 5 L.pv s.base.ps.length (pairsCells s.base.ps)) (hs : w.ownsRow 0 69 4 L.sv s.base.ss.length (snsCells s.base.ss)) (he : w.ownsRow 0 35 7 L.ev s.ents.length (entsCells s.ents)) (hok : SnapOk s.base) (hel : s.ents.length ≤ 1000000) :
    Calls Try.prog 50 #[.pointer (some ⟨L.b, 0, none⟩)] w (AgainRes L s w) := by
  have HB := Lib.hid hb
  have HE := Lib.hid (own_sl he)
  have HET : Hid (∀ c, L.ev.ownBlock = some c → c ≠ L.b) := fun c hc e => by subst e; have := own_type he hc hb; exact absurd this (by decide)
  obtain ⟨A, ca, hpv, _⟩ := own_sl hp
  obtain ⟨B, cb, hsv, _⟩ := own_sl hs
  obtain ⟨E, ce, hev, hce, hcm, _⟩ := own_sl he
  have HPS : Hid (SlAt w (.slice A s.base.ps.length ca) s.base.ps.length (pairsCells s.base.ps)) := hpv ▸ own_sl hp
  have HSS : Hid (SlAt w (.slice B s.base.ss.length cb) s.base.ss.length (snsCells s.base.ss)) := hsv ▸ own_sl hs
  have HPV := Lib.hid hpv
  have HSV := Lib.hid hsv
  have HEV := Lib.hid hev
  have HOK := Lib.hid hok
  have hbl := hb.lt
  have c0 : World.cell? w ⟨L.b, 0, none⟩ = some (.int .i64 s.pos.e) := by rw [Blk.cell hb]; rfl
  have c1 : World.cell? w ⟨L.b, 1, none⟩ = some (.int .i64 s.pos.i) := by rw [Blk.cell hb]; rfl
  have c2 : World.cell? w ⟨L.b, 2, none⟩ = some (.pointer (some ⟨L.kb, 0, none⟩)) := by rw [Blk.cell hb]; rfl
  have c3 : World.cell? w ⟨L.b, 3, none⟩ = some (.pointer (some ⟨L.sb, 0, none⟩)) := by rw [Blk.cell hb]; rfl
  have c5 : World.cell? w ⟨L.b, 5, none⟩ = some (.int .i64 s.base.pos.e) := by rw [Blk.cell hb]; rfl
  have c6 : World.cell? w ⟨L.b, 6, none⟩ = some (.int .i64 s.base.pos.i) := by rw [Blk.cell hb]; rfl
  have c7 : w.cell? ⟨L.b, 7, none⟩ = some (.slice A s.base.ps.length ca) := by rw [hb.cell, ← hpv]; rfl
  have c8 : w.cell? ⟨L.b, 8, none⟩ = some (.slice B s.base.ss.length cb) := by rw [hb.cell, ← hsv]; rfl
  have c9 : w.cell? ⟨L.b, 9, none⟩ = some (.slice E s.ents.length ce) := by rw [hb.cell, ← hev]; rfl
  have f0 := Blk.free hb 0
  have f1 := Blk.free hb 1
  have f2 := Blk.free hb 2
  have f3 := Blk.free hb 3
  clear hpv hsv hev hp hs he hok hb
  go_enter Try.func50, Try.ntmps50
  go_wp2_with fail
  refine (of_any s.base A B ca cb w HPS.out HSS.out HOK.out).mono ?_
  rintro e w1 ⟨kb, sb, mb, t, rfl, hf, hl, h1, h2, h3, h4, hbel⟩
  unfold foldVal
  have hb1 := HB.out.below hbel
  have hbl1 := hb1.lt
  clear c0 c1 c2 c3 c5 c6 c7 c8 c9 f0 f1 f2 f3
  have c0 : World.cell? w1 ⟨L.b, 0, none⟩ = some (.int .i64 s.pos.e) := by rw [Blk.cell hb1]; rfl
  have c1 : World.cell? w1 ⟨L.b, 1, none⟩ = some (.int .i64 s.pos.i) := by rw [Blk.cell hb1]; rfl
  have c2 : World.cell? w1 ⟨L.b, 2, none⟩ = some (.pointer (some ⟨L.kb, 0, none⟩)) := by rw [Blk.cell hb1]; rfl
  have c3 : World.cell? w1 ⟨L.b, 3, none⟩ = some (.pointer (some ⟨L.sb, 0, none⟩)) := by rw [Blk.cell hb1]; rfl
  have c9 : w1.cell? ⟨L.b, 9, none⟩ = some (.slice E s.ents.length ce) := by rw [hb1.cell, ← HEV.out]; rfl
  have f0 := Blk.free hb1 0
  have f1 := Blk.free hb1 1
  have f2 := Blk.free hb1 2
  have f3 := Blk.free hb1 3
  have HF := Lib.hid hf
  have HL := Lib.hid hl
  have HBL := Lib.hid hbel
  have HN4 := Lib.hid h4
  have HB1 := Lib.hid hb1
  clear hf hl hbel h4 hb1
  go_wp2_with fail
  go_loopg [17] s.ents.length (fun g v wr => ∃ k : Nat, k ≤ s.ents.length ∧ v = .int .i64 k ∧ g = s.ents.length - k ∧ ∃ L', Anew w wr L L' ((s.ents.take k).foldl St.put s.basis))
  case atStart =>
    have hW : Frm (fun c => c = L.b) w1 _ := ((((Frm.refl (fun c => c = L.b) w1).setCell (p := ⟨L.b, 0, none⟩) (.inl rfl) (.int .i64 s.base.pos.e)).setCell (p := ⟨L.b, 1, none⟩) (.inl rfl) (.int .i64 s.base.pos.i)).setCell (p := ⟨L.b, 2, none⟩) (.inl rfl) (.pointer (some ⟨kb, 0, none⟩))).setCell (p := ⟨L.b, 3, none⟩) (.inl rfl) (.pointer (some ⟨sb, 0, none⟩))
    refine ⟨0, Nat.zero_le _, rfl, rfl, { L with kb := kb, sb := sb, mb := mb, t := t }, ⟨rfl, rfl, rfl, rfl, rfl, ?_, ?_, HL.out, h1, h2, h3, HN4.out, ?_⟩⟩
    · exact (((HB1.out.set 0 _).set 1 _).set 2 _).set 3 _
    · exact HF.out.frm hW (by omega) (fun c hc e => by have := HN4.out c hc; omega) (by omega) (by omega)
    · exact (Frm.ofBelow HBL.out).trans hW (fun i _ h => h)
  case round =>
    obtain ⟨k, hk, rfl, rfl, L', hrel⟩ := hrel
    have HREL := Lib.hid hrel
    have hsz := hrel.frm.size
    by_cases hlt : k < s.ents.length
    · obtain ⟨eb, eo, ec, hee, _, _, he3, he4⟩ := ens_at HE.out (by omega)
      have hneb : eb ≠ L.b := HET.out eb (by rw [hee]; rfl)
      rw [HEV.out] at hee
      injection hee with hE _ hc
      subst hE
      subst hc
      obtain ⟨a0, a1, a2, a3, a4, a5, a6⟩ := he4 k hlt
      rw [← hrel.frm.cell (p := ⟨eb, eo + k * 7, none⟩) he3 hneb] at a0
      rw [← hrel.frm.cell (p := ⟨eb, eo + k * 7 + 1, none⟩) he3 hneb] at a1
      rw [← hrel.frm.cell (p := ⟨eb, eo + k * 7 + 2, none⟩) he3 hneb] at a2
      rw [← hrel.frm.cell (p := ⟨eb, eo + k * 7 + 3, none⟩) he3 hneb] at a3
      rw [← hrel.frm.cell (p := ⟨eb, eo + k * 7 + 4, none⟩) he3 hneb] at a4
      rw [← hrel.frm.cell (p := ⟨eb, eo + k * 7 + 5, none⟩) he3 hneb] at a5
      rw [← hrel.frm.cell (p := ⟨eb, eo + k * 7 + 6, none⟩) he3 hneb] at a6
      have hebr : eb < wr.heap.size := by omega
      obtain ⟨x, hx⟩ : ∃ x, en s.ents k = x := ⟨_, rfl⟩
      rw [hx] at a0 a1 a2 a3 a4 a5 a6
      have HX := Lib.hid hx
      clear hx he4 hrel c0 c1 c2 c3 c9 f0 f1 f2 f3
      go_wp2_with fail
      have hput : ∀ W : World, Below wr.heap.size wr W → Calls Try.prog 46 #[.pointer (some ⟨L.b, 0, none⟩), .agg #[.int .i64 x.pos.e, .int .i64 x.pos.i, .int .i64 x.s, .int .i64 x.r, .string x.k, .bool x.d, .string x.t]] W (PutRes L.b L'.kb L'.sb L'.mb L'.t ((s.ents.take k).foldl St.put s.basis).seen x (stCells L' ((s.ents.take k).foldl St.put s.basis)) 94 W) := by
        intro W hW
        have hf := HREL.out.fold.frm (F := fun _ => False) (Frm.ofBelow hW) (fun h => h) (fun _ _ h => h) (fun h => h) (fun h => h)
        obtain ⟨nk, hkb⟩ := hf.keys.blk
        have hbW := HREL.out.blk.below hW
        exact put_any L.b L'.kb L'.sb L'.mb L'.t _ x _ _ W hbW rfl rfl (by simp [stCells]) hf (hbW.ne hkb (by decide)) (hbW.notTree hf.keys.tree (by decide)) (hbW.ne hf.seen.blk (by decide)) (hbW.neMap hf.seen.map)
      have HPUT := Lib.hid hput
      clear hput
      go_region_with (go_at_call 46; refine (HPUT.out _ (by (repeat' (first | with_reducible exact Below.refl _ _ | with_reducible refine below_drewN ?_ _ | with_reducible refine Below.drew ?_ | with_reducible refine Below.setCell ?_ (by first | exact Nat.le_refl _ | (simp; done) | (simp; omega) | omega) _ | with_reducible refine Below.alloc ?_ (by first | exact Nat.le_refl _ | (simp; done) | (simp; omega) | omega) _ | exact Below.refl _ _)))).mono ?_; rintro e w2 ⟨rfl, t', hdone⟩; (have hd2 : PutDone L.b L'.kb L'.sb L'.mb L'.t ((s.ents.take k).foldl St.put s.basis).seen x (stCells L' ((s.ents.take k).foldl St.put s.basis)) 94 wr w2 t' := ⟨hdone.fold, hdone.list, hdone.blk, fun c hc => (hdone.blocks c hc).imp id (fun h => by simp at h; omega), (by (repeat' (first | with_reducible exact Frm.refl _ _ | with_reducible refine Frm.drewN ?_ _ | with_reducible refine Frm.drew ?_ | with_reducible refine Frm.setCell ?_ (by first | exact Or.inl rfl | exact Or.inr (Nat.le_refl _) | (simp; done) | (simp; omega)) _ | with_reducible refine Frm.alloc ?_ _ | exact Frm.refl _ _)) : Frm (fun c => c = L.b ∨ c = L'.kb ∨ c ∈ L'.t.blocks ∨ c = L'.mb) wr _).trans hdone.frm (fun i _ h => h)⟩); (have HD := Lib.hid hd2); clear hdone hd2)
      all_goals
        go_wp2_with fail
        go_roundg (s.ents.length - (k + 1))
        case measure => omega
        case rel =>
          refine ⟨k + 1, by omega, by go_num, rfl, { L' with t := t' }, ?_⟩
          rw [St.foldl_take hlt, HX.out]
          have hn := HREL.out
          have hd := HD.out
          refine ⟨hn.b, hn.tv, hn.pv, hn.sv, hn.ev, ?_, hd.fold, ?_, hn.n1, hn.n2, hn.n3, ?_, ?_⟩
          · exact hd.blk
          · rw [show (((s.ents.take k).foldl St.put s.basis).put x).keys = ins x.k (entV x) ((s.ents.take k).foldl St.put s.basis).keys from rfl, ← hn.keys]; exact hd.list
          · intro c hc
            rcases hd.blocks c hc with h | h
            · exact hn.n4 c h
            · omega
          · refine hn.frm.trans hd.frm (fun i hi h => ?_)
            rcases h with h | h | h | h
            · exact h
            · have := hn.n1; omega
            · have := hn.n4 i h; omega
            · have := hn.n3; omega
    · have hkn : k = s.ents.length := by omega
      subst hkn
      clear hrel
      go_wp2_with fail
      go_end0
      refine ⟨rfl, L', ?_⟩
      have := HREL.out
      rwa [List.take_length] at this

end Go.Proofs.Ytedcdjlpogpgbaa

/- Layer 15: adopt: an epoch is taken. -/
set_option linter.unusedVariables false
set_option linter.unusedSimpArgs false
namespace Go.Proofs.Ytedcdjlpogpgbaa
open Go.RowKit

/-- A record's cells. -/
def recVal (k : Int) (x : Ent) (e : Ep) (cfg : Int) (sp : Pos) (pv sv : Value) : Array Value :=
  #[.int .i64 k, .int .i64 x.pos.e, .int .i64 x.pos.i, .int .i64 x.s, .int .i64 x.r, .string x.k, .bool x.d, .string x.t, .int .i64 e.m, .int .i64 e.c, .bool e.f, .int .i64 cfg, .int .i64 sp.e, .int .i64 sp.i, pv, sv]
def emptySnap : Snap := ⟨zeroPos, [], []⟩
def adoptF (s : St) (e : Ep) : St :=
  if s.pos.i ≤ e.c then { s with table := s.table ++ [e], closed := false }
  else if s.base.pos.i ≤ e.c then St.refold { s with table := s.table ++ [e], closed := false, ents := s.ents.take (e.c - s.base.pos.i).toNat }
  else St.refold { s with table := s.table ++ [e], closed := false, base := emptySnap, ents := [] }
/-- What holds of every state that the program makes. -/
structure Ok (s : St) : Prop where
  base : SnapOk s.base
  at_ : s.pos.i = s.base.pos.i + s.ents.length
  low : 0 ≤ s.base.pos.i
  high : s.pos.i ≤ 512
  right : rightB s.table = true
/-- A state's blocks behind a call that works on it: its own or new ones; the state's first block stays. -/
structure Moved (w w' : World) (L L' : Lay) (s' : St) : Prop where
  at_ : StAt w' L' s'
  b : L'.b = L.b
  foot : ∀ c, L'.foot c → L.foot c ∨ w.heap.size ≤ c
  frm : Frm L.foot w w'
def MovedRes (L : Lay) (s' : St) (w : World) (e : Ending) (w' : World) : Prop := e = .returned (.tuple #[]) ∧ ∃ L', Moved w w' L L' s'

theorem sl_one {w : World} {b : Nat} {cs : Array Value} {T : TypeId} (h : Blk w b cs T) : SlAt w (.slice (some ⟨b, 0, none⟩) 1 1) 1 cs.toList :=
  ⟨_, 1, rfl, Nat.le_refl _, by unfold maxLen; omega, fun _ => ⟨b, 0, rfl, h.lt, fun j u hu => by rw [Nat.zero_add, h.cell]; simpa using hu⟩⟩

theorem own_take {w : World} {base k n j ce : Nat} {e : TypeId} {E : Option Addr} {xs : List Value} (h : w.ownsRow base e k (.slice E n ce) n xs) (hj : j ≤ n) : w.ownsRow base e k (.slice E j ce) j (xs.take (j * k)) := by
  obtain ⟨h1, h2⟩ := h
  refine ⟨by rw [List.length_take, h1]; have := Nat.mul_le_mul_right k hj; omega, ?_⟩
  rcases h2 with ⟨h2, h3⟩ | ⟨g, cap, cur, hv, h3, h4, h5, h6, h7, h8⟩
  · injection h2 with a b c
    subst a; subst b; subst c
    left
    have : j = 0 := by omega
    subst this
    exact ⟨rfl, rfl⟩
  · injection hv with a b c
    subst a; subst c
    refine .inr ⟨g, ce, cur, rfl, h3, h4, by omega, h6, h7, ?_⟩
    rw [← h8, List.take_take, Nat.min_eq_left (Nat.mul_le_mul_right k hj)]
theorem flat_take {α : Type} (enc : α → List Value) (k : Nat) (hk : ∀ x, (enc x).length = k) : ∀ (l : List α) (j : Nat), (l.take j).flatMap enc = (l.flatMap enc).take (j * k)
  | [], j => by simp
  | x :: l, 0 => by simp
  | x :: l, j + 1 => by
    rw [List.take_succ_cons, List.flatMap_cons, List.flatMap_cons, flat_take enc k hk l j, List.take_append, hk, List.take_of_length_le (l := enc x) (by rw [hk, Nat.add_mul]; omega), show (j + 1) * k - k = j * k from by rw [Nat.add_mul]; omega]

/-- Behind again: the state as a whole. -/
theorem moved_of_again {w W w' : World} {L L2 L' : Lay} {s2 : St} (hb2 : L2.b = L.b) (FW : Frm L.foot w W) (hst : Blk W L2.b (stCells L2 s2) 94)
    (tab : W.ownsRow 0 29 3 L2.tv s2.table.length (epsCells s2.table)) (prs : W.ownsRow 0 67 5 L2.pv s2.base.ps.length (pairsCells s2.base.ps)) (sns : W.ownsRow 0 69 4 L2.sv s2.base.ss.length (snsCells s2.base.ss)) (ens : W.ownsRow 0 35 7 L2.ev s2.ents.length (entsCells s2.ents))
    (hf : ∀ c, L2.tv.ownBlock = some c ∨ L2.pv.ownBlock = some c ∨ L2.sv.ownBlock = some c ∨ L2.ev.ownBlock = some c → L.foot c ∨ w.heap.size ≤ c)
    (h : Anew W w' L2 L' s2.refold) : Moved w w' L L' s2.refold := by
  have r1 : s2.refold.table = s2.table := (St.foldl_rest s2.ents s2.basis).1
  have r2 : s2.refold.base = s2.base := (St.foldl_rest s2.ents s2.basis).2.1
  have r3 : s2.refold.ents = s2.ents := (St.foldl_rest s2.ents s2.basis).2.2.1
  have hne : ∀ {k n : Nat} {e : TypeId} {v : Value} {xs : List Value}, W.ownsRow 0 e k v n xs → e ≠ 94 → ∀ c, v.ownBlock = some c → ¬ (c = L2.b) := fun ho hn c hc e => by subst e; exact hn (own_type ho hc hst)
  have hWs := FW.size
  refine ⟨⟨?_, h.fold, h.keys, ?_, ?_, ?_, ?_⟩, h.b.trans hb2, ?_, ?_⟩
  · rw [h.b]; exact h.blk
  · rw [h.tv, r1]; exact own_frm tab h.frm (hne tab (by decide))
  · rw [h.pv, r2]; exact own_frm prs h.frm (hne prs (by decide))
  · rw [h.sv, r2]; exact own_frm sns h.frm (hne sns (by decide))
  · rw [h.ev, r3]; exact own_frm ens h.frm (hne ens (by decide))
  · intro c hc
    rcases hc with hc | hc | hc | hc | hc | hc | hc | hc | hc
    · exact .inl (.inl (hc.trans (h.b.trans hb2)))
    · have := h.n1; exact .inr (by omega)
    · have := h.n4 c hc; exact .inr (by omega)
    · have := h.n2; exact .inr (by omega)
    · have := h.n3; exact .inr (by omega)
    · exact hf c (.inl (by rw [← h.tv]; exact hc))
    · exact hf c (.inr (.inl (by rw [← h.pv]; exact hc)))
    · exact hf c (.inr (.inr (.inl (by rw [← h.sv]; exact hc))))
    · exact hf c (.inr (.inr (.inr (by rw [← h.ev]; exact hc))))
  · exact FW.trans h.frm (fun i _ hi => .inl (hi.trans hb2))

set_option maxRecDepth 100000 in
set_option maxHeartbeats 8000000 in
theorem adopt_any (L : Lay) (s : St) (x : Ep) (w : World) (h : StAt w L s) (hok : Ok s) (hx : 0 ≤ x.c ∧ x.c ≤ 512) :
    Calls Try.prog 47 #[.pointer (some ⟨L.b, 0, none⟩), .agg (epVal x)] w (MovedRes L (adoptF s x) w) := by
  have H := Lib.hid h
  have HOK := Lib.hid hok
  have hbl := h.blk.lt
  obtain ⟨hx1, hx2⟩ := hx
  have hlen : s.table.length ≤ 64 := ((rightB_iff _).1 hok.right).2.1
  have hp1 : 0 ≤ s.pos.i := by have := hok.at_; have := hok.low; omega
  have hp2 := hok.high
  have hp3 := hok.low
  have hp4 : s.base.pos.i ≤ s.pos.i := by have := hok.at_; omega
  have c1 : World.cell? w ⟨L.b, 1, none⟩ = some (.int .i64 s.pos.i) := by rw [Blk.cell h.blk]; rfl
  have c4 : World.cell? w ⟨L.b, 4, none⟩ = some (L.tv) := by rw [Blk.cell h.blk]; rfl
  have c6 : World.cell? w ⟨L.b, 6, none⟩ = some (.int .i64 s.base.pos.i) := by rw [Blk.cell h.blk]; rfl
  have fr : ∀ i, w.frozen? ⟨L.b, i, none⟩ = false := h.blk.free
  obtain ⟨A, ca, htv, _⟩ := own_sl h.tab
  -- the append
  have hW : Frm (fun _ => False) w (((w.alloc (.cells (epVal x) 29)).alloc (.cells (epVal x) 29)).drew) := by (repeat' (first | with_reducible exact Frm.refl _ _ | with_reducible refine Frm.drewN ?_ _ | with_reducible refine Frm.drew ?_ | with_reducible refine Frm.setCell ?_ (by first | exact Or.inl rfl | exact Or.inr (Nat.le_refl _) | (simp; done) | (simp; omega)) _ | with_reducible refine Frm.alloc ?_ _ | exact Frm.refl _ _))
  obtain ⟨v', w1, happ, hown, hgr, hob⟩ := run_append_sl (P := Try.prog) (w := ((w.alloc (.cells (epVal x) 29)).alloc (.cells (epVal x) 29)).drew) 30 30 29 3 24 _ Try.underlying30 ep_info rfl (by omega) L.tv s.table.length (epsCells s.table) (own_frm h.tab hW (fun _ _ h => h))
    (.slice (some ⟨w.heap.size + 1, 0, none⟩) 1 1) 1 (epCells x) (sl_one (cs := epVal x) (T := 29) (by ((repeat' (first | with_reducible exact Blk.new _ _ _ | with_reducible apply Blk.drewN | with_reducible apply Blk.drew | with_reducible apply Blk.set' | (with_reducible apply Blk.set_other (hp := by first | assumption | (simp; done) | (simp; omega) | omega)) | (with_reducible apply Blk.new'; focus (first | (simp; done) | (simp; omega))) | with_reducible apply Blk.alloc)) <;> rfl))) rfl (epsCells_one [x]) (by omega) (by unfold maxLen; omega)
  obtain ⟨A', ca', hv', _⟩ := own_sl hown
  subst hv'
  unfold epVal at happ
  have hF1 := Frm.ofGrown hgr
  have hb1 : Blk w1 L.b (stCells L s) 94 := (h.blk.frm hW (fun h => h)).frm hF1 (fun hc => absurd (own_type h.tab hc h.blk) (by decide))
  have hbl1 := hb1.lt
  have d1 : World.cell? w1 ⟨L.b, 1, none⟩ = some (.int .i64 s.pos.i) := by rw [Blk.cell hb1]; rfl
  have d4 : World.cell? w1 ⟨L.b, 4, none⟩ = some (L.tv) := by rw [Blk.cell hb1]; rfl
  have d6 : World.cell? w1 ⟨L.b, 6, none⟩ = some (.int .i64 s.base.pos.i) := by rw [Blk.cell hb1]; rfl
  have d10 : World.cell? w1 ⟨L.b, 10, none⟩ = some (.bool s.closed) := by rw [Blk.cell hb1]; rfl
  have fr1 : ∀ i, w1.frozen? ⟨L.b, i, none⟩ = false := hb1.free
  have HO := Lib.hid hown
  have HG := Lib.hid hF1
  have HOB := Lib.hid hob
  have HB1 := Lib.hid hb1
  have HTV := Lib.hid htv
  clear h hok hown hgr hF1 hob hb1 htv hW
  unfold epVal
  go_enter Try.func47, Try.ntmps47
  go_wp2_with fail
  have ne1 : w.heap.size ≠ L.b := by omega
  have b1 : Blk w1 w.heap.size (epVal x) 29 := by
    have b0 : Blk (((w.alloc (.cells (epVal x) 29)).alloc (.cells (epVal x) 29)).drew) w.heap.size (epVal x) 29 := by ((repeat' (first | with_reducible exact Blk.new _ _ _ | with_reducible apply Blk.drewN | with_reducible apply Blk.drew | with_reducible apply Blk.set' | (with_reducible apply Blk.set_other (hp := by first | assumption | (simp; done) | (simp; omega) | omega)) | (with_reducible apply Blk.new'; focus (first | (simp; done) | (simp; omega))) | with_reducible apply Blk.alloc)) <;> rfl)
    exact b0.frm HG.out (fun hc => by have := own_lt H.out.tab hc; omega)
  have e0 : World.cell? w1 ⟨w.heap.size, 0, none⟩ = some (.int .i64 x.m) := by rw [Blk.cell b1]; rfl
  have e1 : World.cell? w1 ⟨w.heap.size, 1, none⟩ = some (.int .i64 x.c) := by rw [Blk.cell b1]; rfl
  have e2 : World.cell? w1 ⟨w.heap.size, 2, none⟩ = some (.bool x.f) := by rw [Blk.cell b1]; rfl
  go_upto_region 1 with (fail)
  go_cut [] (fun wx => wx.heap = (w1.setCell ⟨L.b, 4, none⟩ (.slice A' (s.table.length + 1) ca')).heap ∧ wx.os = w1.os ∧ wx.output = w1.output ∧ wx.tape = w1.tape)
  case first =>
    go_region_law (first | (refine step_append_run rfl _ _ _ _ rfl rfl (by rfl) (by rfl) happ ?_))
    all_goals
      go_wp2_with fail
      go_meet
      exact ⟨rfl, rfl, rfl, rfl⟩
  case rest =>
    obtain ⟨q1, q2, q3, q4⟩ := hcut
    -- the table's slot is written
    obtain ⟨L1, hL1⟩ : ∃ L1 : Lay, L1 = { L with tv := .slice A' (s.table.length + 1) ca' } := ⟨_, rfl⟩
    have bc : Blk wc L.b (stCells L1 { s with table := s.table ++ [x] }) 94 := by
      have := HB1.out.set 4 (.slice A' (s.table.length + 1) ca')
      unfold Blk at this ⊢
      rw [q1, this, hL1]; rfl
    have fc : Frm (fun c => c = L.b) w1 wc := by
      have f0 := (Frm.refl (fun c => c = L.b) w1).setCell (p := ⟨L.b, 4, none⟩) (.inl rfl) (.slice A' (s.table.length + 1) ca')
      exact f0.alike ⟨q1, q2, q3⟩ q4
    clear q1 q2 q3 q4
    have bx := b1.frm fc (by omega)
    have hblc := bc.lt
    have hxlc := bx.lt
    clear c1 c4 c6 d1 d4 d6 d10 e0 e1 e2
    have o10 : wc.cell? ⟨L.b, 10, none⟩ = some (.bool s.closed) := by rw [bc.cell]; rfl
    have frc : ∀ i, wc.frozen? ⟨L.b, i, none⟩ = false := bc.free
    have HBC := Lib.hid bc
    have HBX := Lib.hid bx
    have HFC := Lib.hid fc
    clear bc bx fc b1 happ
    go_wp2_with fail
    refine wp_abs ?_
    intro w2 hw2
    have bd : Blk w2 L.b (stCells L1 { s with table := s.table ++ [x], closed := false }) 94 := by rw [hw2]; exact HBC.out.set 10 _
    have bx : Blk w2 w.heap.size (epVal x) 29 := by rw [hw2]; exact HBX.out.set_other (p := ⟨L.b, 10, none⟩) (by show L.b ≠ w.heap.size; omega) _
    have fd : Frm (fun c => c = L.b) w1 w2 := by rw [hw2]; exact HFC.out.setCell (p := ⟨L.b, 10, none⟩) (.inl rfl) _
    clear hw2 o10 frc fr fr1
    have hbl2 := bd.lt
    have hxl2 := bx.lt
    have e0 : World.cell? w2 ⟨w.heap.size, 0, none⟩ = some (.int .i64 x.m) := by rw [Blk.cell bx]; rfl
    have e1 : World.cell? w2 ⟨w.heap.size, 1, none⟩ = some (.int .i64 x.c) := by rw [Blk.cell bx]; rfl
    have e2 : World.cell? w2 ⟨w.heap.size, 2, none⟩ = some (.bool x.f) := by rw [Blk.cell bx]; rfl
    have d1 : World.cell? w2 ⟨L.b, 1, none⟩ = some (.int .i64 s.pos.i) := by rw [Blk.cell bd]; rfl
    have d6 : World.cell? w2 ⟨L.b, 6, none⟩ = some (.int .i64 s.base.pos.i) := by rw [Blk.cell bd]; rfl
    have fr2 : ∀ i, w2.frozen? ⟨L.b, i, none⟩ = false := bd.free
    obtain ⟨E, ce, hev, hce, hcm, _⟩ := own_sl H.out.ens
    obtain ⟨A0, ca0, hpv, _⟩ := own_sl H.out.prs
    obtain ⟨B0, cb0, hsv, _⟩ := own_sl H.out.sns
    have d9 : w2.cell? ⟨L.b, 9, none⟩ = some (.slice E s.ents.length ce) := by rw [bd.cell, ← hev, hL1]; rfl
    have hcel : (s.ents.length : Int) ≤ ce := by omega
    have hceh : (ce : Int) ≤ 9223372036854775807 := by unfold maxLen at hcm; omega
    have hle := HOK.out.at_
    have HEV := Lib.hid hev
    have HPV := Lib.hid hpv
    have HSV := Lib.hid hsv
    have HLE := Lib.hid hle
    clear hev hpv hsv hle hce hcm
    have HBD := Lib.hid bd
    have HBXD := Lib.hid bx
    have HFD := Lib.hid fd
    have HL1 := Lib.hid hL1
    clear bd bx fd hL1
    have hF0 : Frm (fun c => c = L.b ∨ L.tv.ownBlock = some c) w w2 := by
      refine Frm.trans (b := w1) (Frm.trans (b := ((w.alloc (.cells (epVal x) 29)).alloc (.cells (epVal x) 29)).drew) (by (repeat' (first | with_reducible exact Frm.refl _ _ | with_reducible refine Frm.drewN ?_ _ | with_reducible refine Frm.drew ?_ | with_reducible refine Frm.setCell ?_ (by first | exact Or.inl rfl | exact Or.inr (Nat.le_refl _) | (simp; done) | (simp; omega)) _ | with_reducible refine Frm.alloc ?_ _ | exact Frm.refl _ _))) HG.out (fun i _ hi => .inr hi)) HFD.out (fun i _ hi => .inl hi)
    have htb : ∀ c, L.tv.ownBlock = some c → c ≠ L.b := fun c hc e => by subst e; exact absurd (own_type H.out.tab hc H.out.blk) (by decide)
    have hneF : ∀ {k n : Nat} {e : TypeId} {v : Value} {xs : List Value}, w.ownsRow 0 e k v n xs → e ≠ 94 → e ≠ 29 → ∀ c, v.ownBlock = some c → ¬ (c = L.b ∨ L.tv.ownBlock = some c) := fun ho h1 h2 c hc h => by
      rcases h with rfl | h
      · exact h1 (own_type ho hc H.out.blk)
      · exact h2 (own_two ho hc H.out.tab h)
    have hfold : FoldAt w2 L.kb L.sb L.mb L.t s.seen := by
      obtain ⟨nk, hkb⟩ := H.out.fold.keys.blk
      refine H.out.fold.frm hF0 ?_ ?_ ?_ ?_
      · exact fun h => h.elim (hkb.ne H.out.blk (by decide)) (fun h => absurd (own_type H.out.tab h hkb) (by decide))
      · intro c hc h
        obtain ⟨cs, hcb⟩ := T.At.blk H.out.fold.keys.tree hc
        exact h.elim (fun e => by subst e; exact absurd (hcb.type H.out.blk) (by decide)) (fun h => absurd (own_type H.out.tab h hcb) (by decide))
      · exact fun h => h.elim (H.out.fold.seen.blk.ne H.out.blk (by decide)) (fun h => absurd (own_type H.out.tab h H.out.fold.seen.blk) (by decide))
      · exact fun h => h.elim (fun e => H.out.blk.neMap H.out.fold.seen.map e.symm) (fun h => own_map H.out.tab h H.out.fold.seen.map)
    have hprs := own_frm H.out.prs hF0 (hneF H.out.prs (by decide) (by decide))
    have hsns := own_frm H.out.sns hF0 (hneF H.out.sns (by decide) (by decide))
    have hens := own_frm H.out.ens hF0 (hneF H.out.ens (by decide) (by decide))
    have htab : w2.ownsRow 0 29 3 (.slice A' (s.table.length + 1) ca') (s.table.length + 1) (epsCells s.table ++ epCells x) := own_frm HO.out HFD.out (fun c hc e => by subst e; exact absurd (own_type HO.out hc HB1.out) (by decide))
    have hnew : ∀ c, (Value.slice A' (s.table.length + 1) ca').ownBlock = some c → L.foot c ∨ w.heap.size ≤ c := by
      intro c hc
      rcases HOB.out with h | h
      · rw [h] at hc; exact .inl (by unfold Lay.foot; simp [hc])
      · rw [h] at hc; injection hc with hc; right; rw [← hc]; simp; omega
    have hepl : epsCells (s.table ++ [x]) = epsCells s.table ++ epCells x := by simp [epsCells]
    have HF0 := Lib.hid hF0
    have HFO := Lib.hid hfold
    have HPR := Lib.hid hprs
    have HSN := Lib.hid hsns
    have HEN := Lib.hid hens
    have HTA := Lib.hid htab
    have HNW := Lib.hid hnew
    have HEP := Lib.hid hepl
    clear hF0 htb hneF hfold hprs hsns hens htab hnew hepl
    by_cases hp : s.pos.i ≤ x.c
    · have dp : decide (s.pos.i ≤ x.c) = true := decide_eq_true hp
      have HPP := Lib.hid hp
      clear hp
      go_quiet (fail)
      go_wp2_with fail
      go_end0
      have e : adoptF s x = { s with table := s.table ++ [x], closed := false } := by unfold adoptF; rw [if_pos HPP.out]
      rw [e]
      refine ⟨rfl, L1, ?_, ?_, ?_, ?_⟩
      · refine StAt.frm (F := fun _ => False) (w := w2) ?_ (by (repeat' (first | with_reducible exact Frm.refl _ _ | with_reducible refine Frm.drewN ?_ _ | with_reducible refine Frm.drew ?_ | with_reducible refine Frm.setCell ?_ (by first | exact Or.inl rfl | exact Or.inr (Nat.le_refl _) | (simp; done) | (simp; omega)) _ | with_reducible refine Frm.alloc ?_ _ | exact Frm.refl _ _))) (fun _ _ h => h)
        have hb1 : L1.b = L.b := by rw [HL1.out]
        refine ⟨by rw [hb1]; exact HBD.out, by rw [HL1.out]; exact HFO.out, by rw [HL1.out]; exact H.out.keys, ?_, by rw [HL1.out]; exact HPR.out, by rw [HL1.out]; exact HSN.out, by rw [HL1.out]; exact HEN.out⟩
        rw [HL1.out]; show w2.ownsRow 0 29 3 _ (s.table ++ [x]).length (epsCells (s.table ++ [x]))
        rw [HEP.out, List.length_append]; exact HTA.out
      · rw [HL1.out]
      · intro c hc
        rw [HL1.out] at hc
        rcases hc with hc | hc | hc | hc | hc | hc | hc
        · exact .inl (.inl hc)
        · exact .inl (.inr (.inl hc))
        · exact .inl (.inr (.inr (.inl hc)))
        · exact .inl (.inr (.inr (.inr (.inl hc))))
        · exact .inl (.inr (.inr (.inr (.inr (.inl hc)))))
        · exact HNW.out c hc
        · exact .inl (.inr (.inr (.inr (.inr (.inr (.inr hc))))))
      · refine (HF0.out.mono (G := L.foot) (fun i _ h => ?_)).trans (by (repeat' (first | with_reducible exact Frm.refl _ _ | with_reducible refine Frm.drewN ?_ _ | with_reducible refine Frm.drew ?_ | with_reducible refine Frm.setCell ?_ (by first | exact Or.inl rfl | exact Or.inr (Nat.le_refl _) | (simp; done) | (simp; omega)) _ | with_reducible refine Frm.alloc ?_ _ | exact Frm.refl _ _)) : Frm (fun _ => False) w2 _) (fun _ _ h => h.elim)
        rcases h with h | h
        · exact .inl h
        · unfold Lay.foot; simp [h]
    · have dp : decide (s.pos.i ≤ x.c) = false := decide_eq_false hp
      have HPP := Lib.hid hp
      clear hp
      go_quiet (fail)
      go_wp2_with fail
      by_cases hq : s.base.pos.i ≤ x.c
      · have dq : decide (s.base.pos.i ≤ x.c) = true := decide_eq_true hq
        have hk0 : 0 ≤ x.c - s.base.pos.i := by omega
        have hk1 : x.c - s.base.pos.i ≤ ce := by have := HLE.out; have := HPP.out; omega
        go_quiet (fail)
        go_wp2_with fail
        refine wp_abs ?_
        intro w3 hw3
        have f3 : Frm (fun _ => False) w2 w3 := by rw [hw3]; (repeat' (first | with_reducible exact Frm.refl _ _ | with_reducible refine Frm.drewN ?_ _ | with_reducible refine Frm.drew ?_ | with_reducible refine Frm.setCell ?_ (by first | exact Or.inl rfl | exact Or.inr (Nat.le_refl _) | (simp; done) | (simp; omega)) _ | with_reducible refine Frm.alloc ?_ _ | exact Frm.refl _ _))
        have bd3 := HBD.out.frm f3 (fun h => h)
        have bx3 := HBXD.out.frm f3 (fun h => h)
        have g1 : World.cell? w3 ⟨w.heap.size, 1, none⟩ = some (.int .i64 x.c) := by rw [Blk.cell bx3]; rfl
        have h6 : World.cell? w3 ⟨L.b, 6, none⟩ = some (.int .i64 s.base.pos.i) := by rw [Blk.cell bd3]; rfl
        have h9 : w3.cell? ⟨L.b, 9, none⟩ = some (.slice E s.ents.length ce) := by rw [bd3.cell, ← HEV.out, HL1.out]; rfl
        have fr3 : ∀ i, w3.frozen? ⟨L.b, i, none⟩ = false := bd3.free
        have HF3 := Lib.hid f3
        clear hw3 f3 bd3 bx3 d1 d6 d9 e0 e1 e2 fr2
        go_region
        go_wp2_with fail
        have hkn : (x.c - s.base.pos.i).toNat ≤ s.ents.length := by have := HLE.out; have := HPP.out; omega
        have hlen2 : (s.ents.take (x.c - s.base.pos.i).toNat).length = (x.c - s.base.pos.i).toNat := by rw [List.length_take]; omega
        have hbd : Blk w3 L.b (stCells { L with tv := .slice A' (s.table.length + 1) ca' } { s with table := s.table ++ [x], closed := false }) 94 := by
          have h0 := HBD.out; rw [HL1.out] at h0; exact h0.frm HF3.out (fun h => h)
        have hFW : ∀ W, Frm (fun c => c = L.b) w3 W → Frm L.foot w W := fun W hW => by
          refine ((HF0.out.mono (G := L.foot) (fun i _ h => ?_)).trans HF3.out (fun _ _ h => h.elim)).trans hW (fun i _ h => .inl h)
          rcases h with h | h
          · exact .inl h
          · unfold Lay.foot; simp [h]
        have hkeep : ∀ {k n : Nat} {e : TypeId} {v : Value} {xs : List Value} (W : World), w2.ownsRow 0 e k v n xs → e ≠ 94 → Frm (fun c => c = L.b) w3 W → W.ownsRow 0 e k v n xs := fun W ho hn hW => by
          refine own_frm (own_frm ho HF3.out (fun _ _ h => h)) hW (fun c hc e => ?_)
          subst e
          exact hn (own_type ho hc HBD.out)
        have hens2 : w2.ownsRow 0 35 7 (.slice E (x.c - s.base.pos.i).toNat ce) (s.ents.take (x.c - s.base.pos.i).toNat).length (entsCells (s.ents.take (x.c - s.base.pos.i).toNat)) := by
          have h0 := HEN.out
          rw [HEV.out] at h0
          have h1 := own_take h0 hkn
          rw [hlen2, show entsCells (s.ents.take (x.c - s.base.pos.i).toNat) = (entsCells s.ents).take ((x.c - s.base.pos.i).toNat * 7) from flat_take entCells 7 (fun _ => rfl) _ _]
          exact h1
        have hWF : ∀ W, W = (w3.drew.setCell ⟨L.b, 9, none⟩ (.slice E (x.c - s.base.pos.i).toNat ce)) ∨ W = (w3.setCell ⟨L.b, 9, none⟩ (.slice E (x.c - s.base.pos.i).toNat ce)).drew → Blk W L.b (stCells { L with tv := .slice A' (s.table.length + 1) ca', ev := .slice E (x.c - s.base.pos.i).toNat ce } { s with table := s.table ++ [x], closed := false, ents := s.ents.take (x.c - s.base.pos.i).toNat }) 94 ∧ Frm (fun c => c = L.b) w3 W := by
          rintro W (rfl | rfl)
          · exact ⟨hbd.drew.set 9 _, by (repeat' (first | with_reducible exact Frm.refl _ _ | with_reducible refine Frm.drewN ?_ _ | with_reducible refine Frm.drew ?_ | with_reducible refine Frm.setCell ?_ (by first | exact Or.inl rfl | exact Or.inr (Nat.le_refl _) | (simp; done) | (simp; omega)) _ | with_reducible refine Frm.alloc ?_ _ | exact Frm.refl _ _))⟩
          · exact ⟨(hbd.set 9 _).drew, by (repeat' (first | with_reducible exact Frm.refl _ _ | with_reducible refine Frm.drewN ?_ _ | with_reducible refine Frm.drew ?_ | with_reducible refine Frm.setCell ?_ (by first | exact Or.inl rfl | exact Or.inr (Nat.le_refl _) | (simp; done) | (simp; omega)) _ | with_reducible refine Frm.alloc ?_ _ | exact Frm.refl _ _))⟩
        have e : adoptF s x = St.refold { s with table := s.table ++ [x], closed := false, ents := s.ents.take (x.c - s.base.pos.i).toNat } := by unfold adoptF; rw [if_neg (by have := HPP.out; omega), if_pos hq]
        have HE2 := Lib.hid e
        clear e
        obtain ⟨W, hW⟩ : ∃ W, W = (w3.setCell ⟨L.b, 9, none⟩ (.slice E (x.c - s.base.pos.i).toNat ce)).drew := ⟨_, rfl⟩
        obtain ⟨hW1, hW2⟩ := hWF W (.inr hW)
        have hcall := again_any { L with tv := .slice A' (s.table.length + 1) ca', ev := .slice E (x.c - s.base.pos.i).toNat ce } { s with table := s.table ++ [x], closed := false, ents := s.ents.take (x.c - s.base.pos.i).toNat } W hW1 (hkeep _ HPR.out (by decide) hW2) (hkeep _ HSN.out (by decide) hW2) (hkeep _ hens2 (by decide) hW2) HOK.out.base (by show (s.ents.take (x.c - s.base.pos.i).toNat).length ≤ _; omega)
        have hfin : ∀ w' L', Anew W w' { L with tv := .slice A' (s.table.length + 1) ca', ev := .slice E (x.c - s.base.pos.i).toNat ce } L' (St.refold { s with table := s.table ++ [x], closed := false, ents := s.ents.take (x.c - s.base.pos.i).toNat }) → Moved w w' L L' (adoptF s x) := by
          intro w' L' han
          rw [HE2.out]
          refine moved_of_again (L := L) (L2 := { L with tv := .slice A' (s.table.length + 1) ca', ev := .slice E (x.c - s.base.pos.i).toNat ce }) (W := W) rfl (hFW W hW2) hW1 ?_ (hkeep _ HPR.out (by decide) hW2) (hkeep _ HSN.out (by decide) hW2) (hkeep _ hens2 (by decide) hW2) ?_ han
          · show W.ownsRow 0 _ 3 _ (s.table ++ [x]).length (epsCells (s.table ++ [x]))
            rw [HEP.out, List.length_append]; exact hkeep _ HTA.out (by decide) hW2
          · intro c hc
            rcases hc with hc | hc | hc | hc
            · exact HNW.out c hc
            · exact .inl (by unfold Lay.foot; simp [show L.pv.ownBlock = some c from hc])
            · exact .inl (by unfold Lay.foot; simp [show L.sv.ownBlock = some c from hc])
            · refine .inl ?_
              have : L.ev.ownBlock = some c := by rw [HEV.out]; change (Value.slice E (x.c - s.base.pos.i).toNat ce).ownBlock = some c at hc; cases E with | none => exact absurd hc (by simp [Value.ownBlock]) | some a => exact hc
              unfold Lay.foot; simp [this]
        have HFIN := Lib.hid hfin
        clear hfin hWF hens2 hkeep hFW hbd hW1 hW2
        rw [hW] at hcall
        refine hcall.mono ?_
        rintro e w' ⟨rfl, L', han⟩
        rw [← hW] at han
        have HAN := Lib.hid han
        clear han hcall
        go_wp2_with fail
        go_end0
        exact ⟨rfl, L', HFIN.out _ _ HAN.out⟩
      · have dq : decide (s.base.pos.i ≤ x.c) = false := decide_eq_false hq
        have d5 : w2.cell? ⟨L.b, 5, none⟩ = some (.int .i64 s.base.pos.e) := by rw [HBD.out.cell]; rfl
        have d7 : w2.cell? ⟨L.b, 7, none⟩ = some (.slice A0 s.base.ps.length ca0) := by rw [HBD.out.cell, ← HPV.out, HL1.out]; rfl
        have d8 : w2.cell? ⟨L.b, 8, none⟩ = some (.slice B0 s.base.ss.length cb0) := by rw [HBD.out.cell, ← HSV.out, HL1.out]; rfl
        go_quiet (fail)
        go_wp2_with fail
        have hne1 : ∀ {k n : Nat} {e : TypeId} {v : Value} {xs : List Value} (W : World), w2.ownsRow 0 e k v n xs → e ≠ 94 → Frm (fun c => c = L.b) w2 W → W.ownsRow 0 e k v n xs := fun W ho hn hW => by
          refine own_frm ho hW (fun c hc e => ?_)
          subst e
          exact hn (own_type ho hc HBD.out)
        have hFW : ∀ W, Frm (fun c => c = L.b) w2 W → Frm L.foot w W := fun W hW => by
          refine (HF0.out.mono (G := L.foot) (fun i _ h => ?_)).trans hW (fun i _ h => .inl h)
          rcases h with h | h
          · exact .inl h
          · unfold Lay.foot; simp [h]
        have hbd : Blk w2 L.b (stCells { L with tv := .slice A' (s.table.length + 1) ca' } { s with table := s.table ++ [x], closed := false }) 94 := by
          have h0 := HBD.out; rw [HL1.out] at h0; exact h0
        have e : adoptF s x = St.refold { s with table := s.table ++ [x], closed := false, base := emptySnap, ents := [] } := by unfold adoptF; rw [if_neg (by have := HPP.out; omega), if_neg (by omega)]
        have HE2 := Lib.hid e
        clear e
        obtain ⟨nqq, hnqq⟩ : ∃ n : Nat, n = nq + nq := ⟨_, rfl⟩
        clear hnqq nqq
        have hWall : ∀ n : Nat, ∃ W, W = ((((((w2.drewN n).setCell ⟨L.b, 5, none⟩ (.int .i64 0)).setCell ⟨L.b, 6, none⟩ (.int .i64 0)).setCell ⟨L.b, 7, none⟩ (.slice none 0 0)).setCell ⟨L.b, 8, none⟩ (.slice none 0 0)).setCell ⟨L.b, 9, none⟩ (.slice none 0 0)) ∧
            Blk W L.b (stCells { L with tv := .slice A' (s.table.length + 1) ca', pv := .slice none 0 0, sv := .slice none 0 0, ev := .slice none 0 0 } { s with table := s.table ++ [x], closed := false, base := emptySnap, ents := [] }) 94 ∧ Frm (fun c => c = L.b) w2 W := fun n =>
          ⟨_, rfl, (((((hbd.drewN n).set 5 _).set 6 _).set 7 _).set 8 _).set 9 _, by (repeat' (first | with_reducible exact Frm.refl _ _ | with_reducible refine Frm.drewN ?_ _ | with_reducible refine Frm.drew ?_ | with_reducible refine Frm.setCell ?_ (by first | exact Or.inl rfl | exact Or.inr (Nat.le_refl _) | (simp; done) | (simp; omega)) _ | with_reducible refine Frm.alloc ?_ _ | exact Frm.refl _ _))⟩
        have hcall : ∀ n : Nat, Calls Try.prog 50 #[.pointer (some ⟨L.b, 0, none⟩)] ((((((w2.drewN n).setCell ⟨L.b, 5, none⟩ (.int .i64 0)).setCell ⟨L.b, 6, none⟩ (.int .i64 0)).setCell ⟨L.b, 7, none⟩ (.slice none 0 0)).setCell ⟨L.b, 8, none⟩ (.slice none 0 0)).setCell ⟨L.b, 9, none⟩ (.slice none 0 0)) (MovedRes L (adoptF s x) w) := by
          intro n
          obtain ⟨W, hW, hW1, hW2⟩ := hWall n
          rw [← hW]
          refine (again_any { L with tv := .slice A' (s.table.length + 1) ca', pv := .slice none 0 0, sv := .slice none 0 0, ev := .slice none 0 0 } { s with table := s.table ++ [x], closed := false, base := emptySnap, ents := [] } W hW1 (own_empty W _ _) (own_empty W _ _) (own_empty W _ _) ⟨List.Pairwise.nil, List.Pairwise.nil, by simp [emptySnap], by simp [emptySnap]⟩ (by simp)).mono ?_
          rintro e w' ⟨rfl, L', han⟩
          refine ⟨rfl, L', ?_⟩
          rw [HE2.out]
          refine moved_of_again (L := L) (L2 := { L with tv := .slice A' (s.table.length + 1) ca', pv := .slice none 0 0, sv := .slice none 0 0, ev := .slice none 0 0 }) (W := W) rfl (hFW W hW2) hW1 ?_ (own_empty W _ _) (own_empty W _ _) (own_empty W _ _) ?_ han
          · show W.ownsRow 0 _ 3 _ (s.table ++ [x]).length (epsCells (s.table ++ [x]))
            rw [HEP.out, List.length_append]; exact hne1 W HTA.out (by decide) hW2
          · intro c hc
            rcases hc with hc | hc | hc | hc
            · exact HNW.out c hc
            · cases hc
            · cases hc
            · cases hc
        have HCALL := Lib.hid hcall
        clear hcall hWall hne1 hFW hbd
        refine (HCALL.out _).mono ?_
        rintro e w' ⟨rfl, L', hmv⟩
        have HMV := Lib.hid hmv
        clear hmv
        go_wp2_with fail
        go_end0
        exact ⟨rfl, L', HMV.out⟩

end Go.Proofs.Ytedcdjlpogpgbaa

/- Layer 15: New and what a state tells. -/
set_option linter.unusedVariables false
set_option linter.unusedSimpArgs false
namespace Go.Proofs.Ytedcdjlpogpgbaa
open Go.RowKit

set_option maxRecDepth 100000 in
set_option maxHeartbeats 4000000 in
theorem Last_any (L : Lay) (s : St) (w : World) (h : StAt w L s) :
    Calls Try.prog 15 #[.pointer (some ⟨L.b, 0, none⟩)] w fun e w' => e = .returned (.agg (posCells s.pos)) ∧ Below w.heap.size w w' := by
  have hbl := h.blk.lt
  have c0 : World.cell? w ⟨L.b, 0, none⟩ = some (.int .i64 s.pos.e) := by rw [Blk.cell h.blk]; rfl
  have c1 : World.cell? w ⟨L.b, 1, none⟩ = some (.int .i64 s.pos.i) := by rw [Blk.cell h.blk]; rfl
  clear h
  go_enter Try.func15, Try.ntmps15
  go_wp2_with fail
  refine ret_cell rfl rfl (loads_blk (T := 33) (cs := posCells s.pos) pos_agg pos_size ?_ rfl) rfl ⟨rfl, ?_⟩
  · ((repeat' (first | with_reducible exact Blk.new _ _ _ | with_reducible apply Blk.drewN | with_reducible apply Blk.drew | with_reducible apply Blk.set' | (with_reducible apply Blk.set_other (hp := by first | assumption | (simp; done) | (simp; omega) | omega)) | (with_reducible apply Blk.new'; focus (first | (simp; done) | (simp; omega))) | with_reducible apply Blk.alloc)) <;> rfl)
  · (repeat' (first | with_reducible exact Below.refl _ _ | with_reducible refine below_drewN ?_ _ | with_reducible refine Below.drew ?_ | with_reducible refine Below.setCell ?_ (by first | exact Nat.le_refl _ | (simp; done) | (simp; omega) | omega) _ | with_reducible refine Below.alloc ?_ (by first | exact Nat.le_refl _ | (simp; done) | (simp; omega) | omega) _ | exact Below.refl _ _))

set_option maxRecDepth 100000 in
set_option maxHeartbeats 4000000 in
theorem Config_any (L : Lay) (s : St) (w : World) (h : StAt w L s) :
    Calls Try.prog 17 #[.pointer (some ⟨L.b, 0, none⟩)] w fun e w' => e = .returned (.int .i64 s.table.length) ∧ Below w.heap.size w w' := by
  have hbl := h.blk.lt
  obtain ⟨A, ca, htv, _⟩ := own_sl h.tab
  have c4 : w.cell? ⟨L.b, 4, none⟩ = some (.slice A s.table.length ca) := by rw [h.blk.cell, ← htv]; rfl
  clear h htv
  go_enter Try.func17, Try.ntmps17
  go_wp2_with fail
  go_ret
  exact ⟨rfl, by (repeat' (first | with_reducible exact Below.refl _ _ | with_reducible refine below_drewN ?_ _ | with_reducible refine Below.drew ?_ | with_reducible refine Below.setCell ?_ (by first | exact Nat.le_refl _ | (simp; done) | (simp; omega) | omega) _ | with_reducible refine Below.alloc ?_ (by first | exact Nat.le_refl _ | (simp; done) | (simp; omega) | omega) _ | exact Below.refl _ _))⟩

set_option maxRecDepth 100000 in
set_option maxHeartbeats 4000000 in
theorem Get_state (L : Lay) (s : St) (key : ByteArray) (w : World) (h : StAt w L s) :
    Calls Try.prog 18 #[.pointer (some ⟨L.b, 0, none⟩), .string key] w fun e w' => e = .returned (.agg (valCells ((getL key s.keys).getD zeroVal))) ∧ Below w.heap.size w w' := by
  have hbl := h.blk.lt
  have c2 : World.cell? w ⟨L.b, 2, none⟩ = some (.pointer (some ⟨L.kb, 0, none⟩)) := by rw [Blk.cell h.blk]; rfl
  obtain ⟨v, hv⟩ : ∃ v, (getL key s.keys).getD zeroVal = v := ⟨_, rfl⟩
  have hg : ∀ W : World, Below w.heap.size w W → Calls Try.prog 51 #[.pointer (some ⟨L.kb, 0, none⟩), .string key] W fun e w' => e = .returned (.tuple #[.agg #[.int .i64 v.pos.e, .int .i64 v.pos.i, .bool v.th, .string v.t], .bool (getL key s.keys).isSome]) ∧ Below W.heap.size W w' := by
    intro W hW
    have := Get_any L.kb L.t key W (h.below hW).fold.keys
    rw [h.keys, hv] at this
    exact this
  rw [hv]
  have HG := Lib.hid hg
  clear h hg hv
  go_enter Try.func18, Try.ntmps18
  go_wp2_with fail
  refine (HG.out _ (by (repeat' (first | with_reducible exact Below.refl _ _ | with_reducible refine below_drewN ?_ _ | with_reducible refine Below.drew ?_ | with_reducible refine Below.setCell ?_ (by first | exact Nat.le_refl _ | (simp; done) | (simp; omega) | omega) _ | with_reducible refine Below.alloc ?_ (by first | exact Nat.le_refl _ | (simp; done) | (simp; omega) | omega) _ | exact Below.refl _ _)))).mono ?_
  rintro e w1 ⟨rfl, hb⟩
  have hz := (Blk.new w (valCells zeroVal) 46).below hb
  have HB := Lib.hid (((Below.refl _ w).alloc (Nat.le_refl _) (.cells (valCells zeroVal) 46)).trans (hb.mono (by simp)))
  have HZ := Lib.hid hz
  have z0 : World.cell? w1 ⟨w.heap.size, 0, none⟩ = some (.int .i64 0) := by rw [Blk.cell hz]; rfl
  have z1 : World.cell? w1 ⟨w.heap.size, 1, none⟩ = some (.int .i64 0) := by rw [Blk.cell hz]; rfl
  have z2 : World.cell? w1 ⟨w.heap.size, 2, none⟩ = some (.bool false) := by rw [Blk.cell hz]; rfl
  have z3 : World.cell? w1 ⟨w.heap.size, 3, none⟩ = some (.string ⟨#[]⟩) := by rw [Blk.cell hz]; rfl
  have y0 := Blk.free hz 0
  have y1 := Blk.free hz 1
  have y2 := Blk.free hz 2
  have y3 := Blk.free hz 3
  have hz1 := hz.lt
  clear hb hz
  go_wp2_with fail
  refine ret_cell rfl rfl (loads_blk (T := 46) (cs := valCells v) val_agg val_size ?_ rfl) rfl ⟨rfl, ?_⟩
  · ((repeat' (first | with_reducible exact HZ.out | with_reducible exact Blk.new _ _ _ | with_reducible apply Blk.drewN | with_reducible apply Blk.drew | with_reducible apply Blk.set' | (with_reducible apply Blk.set_other (hp := by first | assumption | (simp; done) | (simp; omega) | omega)) | (with_reducible apply Blk.new'; focus (first | (simp; done) | (simp; omega))) | with_reducible apply Blk.alloc | exact HZ.out)) <;> rfl)
  · (repeat' (first | with_reducible exact HB.out | with_reducible exact Below.refl _ _ | with_reducible refine below_drewN ?_ _ | with_reducible refine Below.drew ?_ | with_reducible refine Below.setCell ?_ (by first | exact Nat.le_refl _ | (simp; done) | (simp; omega) | omega) _ | with_reducible refine Below.alloc ?_ (by first | exact Nat.le_refl _ | (simp; done) | (simp; omega) | omega) _ | exact Below.refl _ _ | exact HB.out))

end Go.Proofs.Ytedcdjlpogpgbaa

/- Layer 15: New, Master. -/
set_option linter.unusedVariables false
set_option linter.unusedSimpArgs false
namespace Go.Proofs.Ytedcdjlpogpgbaa
open Go.RowKit

def newF (t : List Ep) : St := ⟨zeroPos, [], [], t, emptySnap, [], false⟩
def NewRes (t : List Ep) (w : World) (e : Ending) (w' : World) : Prop :=
  ∃ L, e = .returned (.tuple #[.pointer (some ⟨L.b, 0, none⟩), .int .i64 0]) ∧ StAt w' L (newF t) ∧ (∀ c, L.foot c → w.heap.size ≤ c) ∧ Below w.heap.size w w'

set_option maxRecDepth 100000 in
set_option maxHeartbeats 4000000 in
theorem New_no (v : Value) (t : List Ep) (w : World) (ht : SlAt w v t.length (epsCells t)) (hr : rightB t = false) :
    Calls Try.prog 12 #[v] w fun e w' => e = .returned (.tuple #[.pointer none, .int .i64 1]) ∧ Below w.heap.size w w' := by
  have HT := Lib.hid ht
  clear ht
  go_enter Try.func12, Try.ntmps12
  go_wp2_with fail
  refine (Right_any v t _ HT.out).mono ?_
  rintro e w1 ⟨rfl, hb⟩
  have HB := Lib.hid hb
  rw [hr]
  clear hb hr
  go_wp2_with fail
  go_ret2
  exact ⟨rfl, HB.out⟩

set_option maxRecDepth 100000 in
set_option maxHeartbeats 4000000 in
theorem New_yes (v : Value) (t : List Ep) (w : World) (ht : SlAt w v t.length (epsCells t)) (hr : rightB t = true) :
    Calls Try.prog 12 #[v] w (NewRes t w) := by
  have HT := Lib.hid ht
  have hlen : t.length ≤ 64 := ((rightB_iff _).1 hr).2.1
  clear ht
  go_enter Try.func12, Try.ntmps12
  go_wp2_with fail
  refine (Right_any v t _ HT.out).mono ?_
  rintro e w1 ⟨rfl, hb⟩
  have HB := Lib.hid hb
  rw [hr]
  clear hb hr
  go_wp2_with fail
  refine (blank_any _).mono ?_
  rintro e w2 ⟨kb, sb, mb, rfl, hf, h1, h2, h3, hb⟩
  have HB2 := Lib.hid (HB.out.trans (hb.mono HB.out.size))
  have HF := Lib.hid hf
  have hs1 := HB.out.size
  have hs2 := hb.size
  have HT2 := Lib.hid (HT.out.below HB2.out)
  unfold foldVal
  clear hf hb
  obtain ⟨v', w3, happ, hown, hgr, hob⟩ := run_append_sl (P := Try.prog) (w := (w2.alloc (.cells #[] 29))) 30 30 29 3 24 _ Try.underlying30 ep_info rfl (by omega) (.slice (some ⟨w2.heap.size, 0, none⟩) 0 0) 0 [] (own_blk0 3 (Blk.new' rfl rfl)) v t.length (epsCells t) (HT2.out.below (by (repeat' (first | with_reducible exact Below.refl _ _ | with_reducible refine below_drewN ?_ _ | with_reducible refine Below.drew ?_ | with_reducible refine Below.setCell ?_ (by first | exact Nat.le_refl _ | (simp; done) | (simp; omega) | omega) _ | with_reducible refine Below.alloc ?_ (by first | exact Nat.le_refl _ | (simp; done) | (simp; omega) | omega) _ | exact Below.refl _ _)))) (epsCells_length t) (epsCells_one t) (by omega) (by unfold maxLen; omega)
  obtain ⟨A', ca', hv', _⟩ := own_sl hown
  subst hv'
  have hfr := Frm.ofGrown hgr
  have HO := Lib.hid hown
  have HFR := Lib.hid hfr
  have HOB := Lib.hid hob
  clear hown hgr hfr hob
  go_wp2_with (refine list_append_run rfl _ _ _ _ rfl rfl (by rfl) (by rfl) happ ?_)
  go_ret2
  have hg : ∀ c, (Value.slice A' (0 + t.length) ca').ownBlock = some c → w2.heap.size ≤ c := by
    intro c hc
    rcases HOB.out with h | h
    · rw [h] at hc; injection hc with hc; rw [← hc]; exact Nat.le_refl _
    · rw [h] at hc; injection hc with hc; rw [← hc]; simp
  have hw3 : Below w2.heap.size w2 w3 := Frm.ge (W := w2.alloc (.cells #[] 29)) (by (repeat' (first | with_reducible exact Below.refl _ _ | with_reducible refine below_drewN ?_ _ | with_reducible refine Below.drew ?_ | with_reducible refine Below.setCell ?_ (by first | exact Nat.le_refl _ | (simp; done) | (simp; omega) | omega) _ | with_reducible refine Below.alloc ?_ (by first | exact Nat.le_refl _ | (simp; done) | (simp; omega) | omega) _ | exact Below.refl _ _))) HFR.out (by intro c hc; injection hc with hc; rw [← hc]; exact Nat.le_refl _)
  have hs3 := hw3.size
  refine ⟨⟨w3.heap.size, kb, sb, mb, .nil, .slice A' (0 + t.length) ca', .slice none 0 0, .slice none 0 0, .slice none 0 0⟩, ?_, ⟨?_, ?_, rfl, ?_, own_empty _ _ _, own_empty _ _ _, own_empty _ _ _⟩, ?_, ?_⟩
  · rfl
  · exact Blk.new' rfl (by simp [stCells, newF, emptySnap, zeroPos])
  · have k1 := HF.out.keys.lt.1
    have k2 := HF.out.seen.blk.lt
    have k3 := HF.out.seen.map.lt
    have f1 : FoldAt w3 kb sb mb .nil [] := by
      refine FoldAt.frm (w := w2.alloc (.cells #[] 29)) (HF.out.frm (F := fun _ => False) (by (repeat' (first | with_reducible exact Frm.refl _ _ | with_reducible refine Frm.drewN ?_ _ | with_reducible refine Frm.drew ?_ | with_reducible refine Frm.setCell ?_ (by first | exact Or.inl rfl | exact Or.inr (Nat.le_refl _) | (simp; done) | (simp; omega)) _ | with_reducible refine Frm.alloc ?_ _ | exact Frm.refl _ _))) (fun h => h) (fun _ _ h => h) (fun h => h) (fun h => h)) HFR.out ?_ ?_ ?_ ?_
      · intro h; injection h with h; have h' : w2.heap.size = kb := h; omega
      · intro c hc; simp [T.blocks] at hc
      · intro h; injection h with h; have h' : w2.heap.size = sb := h; omega
      · intro h; injection h with h; have h' : w2.heap.size = mb := h; omega
    exact f1.frm (F := fun _ => False) (by (repeat' (first | with_reducible exact Frm.refl _ _ | with_reducible refine Frm.drewN ?_ _ | with_reducible refine Frm.drew ?_ | with_reducible refine Frm.setCell ?_ (by first | exact Or.inl rfl | exact Or.inr (Nat.le_refl _) | (simp; done) | (simp; omega)) _ | with_reducible refine Frm.alloc ?_ _ | exact Frm.refl _ _))) (fun h => h) (fun _ _ h => h) (fun h => h) (fun h => h)
  · refine own_frm (F := fun _ => False) (w := w3) ?_ (by (repeat' (first | with_reducible exact Frm.refl _ _ | with_reducible refine Frm.drewN ?_ _ | with_reducible refine Frm.drew ?_ | with_reducible refine Frm.setCell ?_ (by first | exact Or.inl rfl | exact Or.inr (Nat.le_refl _) | (simp; done) | (simp; omega)) _ | with_reducible refine Frm.alloc ?_ _ | exact Frm.refl _ _))) (fun _ _ h => h)
    simpa [newF] using HO.out
  · intro c hc
    rcases hc with hc | hc | hc | hc | hc | hc | hc | hc | hc
    · show w.heap.size ≤ c; rw [show c = w3.heap.size from hc]; omega
    · rw [show c = kb from hc]; omega
    · simp [T.blocks] at hc
    · rw [show c = sb from hc]; omega
    · rw [show c = mb from hc]; omega
    · have := hg c hc; omega
    · cases hc
    · cases hc
    · cases hc
  · exact (HB2.out.trans (hw3.mono (by omega))).alloc (by omega) _

end Go.Proofs.Ytedcdjlpogpgbaa

/- Layer 15: logs of one epoch, with no program in sight. -/
set_option linter.unusedVariables false
set_option linter.unusedSimpArgs false
namespace Go.Proofs.Ytedcdjlpogpgbaa
open Go.RowKit

def bare (E : List Ent) (t : List Ep) : St := ⟨zeroPos, [], [], t, emptySnap, E, false⟩
/-- The state that a log of entries comes to. -/
def logSt (E : List Ent) (t : List Ep) : St := (bare E t).refold
def keysOf (E : List Ent) : List (ByteArray × Val) := E.foldl (fun l x => ins x.k (entV x) l) []
def seenOf (E : List Ent) : List Sn := E.foldl (fun l x => noteIf l (entS x)) []
def posOf (E : List Ent) : Pos := E.foldl (fun _ x => x.pos) zeroPos
theorem foldl_put (E : List Ent) : ∀ s : St, E.foldl St.put s = ⟨E.foldl (fun _ x => x.pos) s.pos, E.foldl (fun l x => ins x.k (entV x) l) s.keys, E.foldl (fun l x => noteIf l (entS x)) s.seen, s.table, s.base, s.ents, s.closed⟩ := by
  induction E with
  | nil => intro s; rfl
  | cons x E ih => intro s; rw [List.foldl_cons, ih]; rfl
theorem logSt_eq (E : List Ent) (t : List Ep) : logSt E t = ⟨posOf E, keysOf E, seenOf E, t, emptySnap, E, false⟩ := by
  unfold logSt St.refold
  rw [foldl_put]; rfl
theorem logSt_nil (t : List Ep) : logSt [] t = ⟨zeroPos, [], [], t, emptySnap, [], false⟩ := rfl
theorem posOf_snoc (E : List Ent) (x : Ent) : posOf (E ++ [x]) = x.pos := by unfold posOf; rw [List.foldl_append]; rfl
theorem keysOf_snoc (E : List Ent) (x : Ent) : keysOf (E ++ [x]) = ins x.k (entV x) (keysOf E) := by unfold keysOf; rw [List.foldl_append]; rfl
theorem seenOf_snoc (E : List Ent) (x : Ent) : seenOf (E ++ [x]) = noteIf (seenOf E) (entS x) := by unfold seenOf; rw [List.foldl_append]; rfl
theorem logSt_snoc (E : List Ent) (t : List Ep) (x : Ent) : St.put { logSt E t with ents := (logSt E t).ents ++ [x] } x = logSt (E ++ [x]) t := by
  rw [logSt_eq, logSt_eq, posOf_snoc, keysOf_snoc, seenOf_snoc]; rfl
theorem adopt_log (E : List Ent) (t : List Ep) (e : Ep) (h : 0 ≤ e.c) : adoptF (logSt E t) e = if (posOf E).i ≤ e.c then logSt E (t ++ [e]) else logSt (E.take e.c.toNat) (t ++ [e]) := by
  unfold adoptF
  rw [logSt_eq]
  by_cases h1 : (posOf E).i ≤ e.c
  · rw [if_pos h1, if_pos h1, logSt_eq]
  · rw [if_neg h1, if_neg h1, if_pos (show emptySnap.pos.i ≤ e.c from h)]
    show St.refold _ = St.refold _
    rw [show e.c - (emptySnap).pos.i = e.c from Int.sub_zero _]
    rfl
theorem logOk {E : List Ent} {t : List Ep} (hp : (posOf E).i = E.length) (hl : E.length ≤ 512) (ht : rightB t = true) : Ok (logSt E t) := by
  rw [logSt_eq]
  refine ⟨⟨List.Pairwise.nil, List.Pairwise.nil, by simp [emptySnap], by simp [emptySnap]⟩, ?_, by simp [emptySnap, zeroPos], ?_, ht⟩
  · simp only [emptySnap, zeroPos, hp]; omega
  · simp only [hp]; omega

def oneT : List Ep := [⟨1, 0, false⟩]
theorem oneT_right : rightB oneT = true := by decide
theorem atB_one {i : Int} (h1 : 1 ≤ i) (h2 : i ≤ 512) : atB oneT i = ⟨1, i⟩ := by
  unfold atB
  rw [if_pos ⟨oneT_right, h1, h2⟩]
  simp [oneT, atGo, ep, show (0 : Int) < i by omega]
def twoT (c : Int) (f : Bool) : List Ep := oneT ++ [⟨2, c, f⟩]
theorem twoT_right {c : Int} (f : Bool) (h1 : 0 ≤ c) (h2 : c ≤ 512) : rightB (twoT c f) = true := by
  simp [rightB, twoT, oneT, ep, okEp, h1, h2]
theorem atB_two {c i : Int} (f : Bool) (h0 : 0 ≤ c) (h1 : c < i) (h2 : i ≤ 512) : atB (twoT c f) i = ⟨2, i⟩ := by
  unfold atB
  rw [if_pos ⟨twoT_right f h0 (by omega), by omega, h2⟩]
  simp [twoT, oneT, atGo, ep, h1]

/-- The i-th entry of a log of one epoch. -/
def simpleE (i : Int) (k t : ByteArray) : Ent := ⟨⟨1, i⟩, 1 + i.tmod 3, i, k, false, t⟩
def logE (f g : Nat → ByteArray) (n : Nat) : List Ent := (List.range n).map fun j : Nat => simpleE ((j : Int) + 1) (f j) (g j)
theorem logE_succ (f g : Nat → ByteArray) (n : Nat) : logE f g (n + 1) = logE f g n ++ [simpleE ((n : Int) + 1) (f n) (g n)] := by
  unfold logE; rw [List.range_succ, List.map_append]; rfl
theorem logE_length (f g : Nat → ByteArray) (n : Nat) : (logE f g n).length = n := by simp [logE]
theorem logE_take (f g : Nat → ByteArray) (n c : Nat) (h : c ≤ n) : (logE f g n).take c = logE f g c := by
  unfold logE; rw [← List.map_take, List.take_range, Nat.min_eq_left h]
theorem logE_pos (f g : Nat → ByteArray) : ∀ n, posOf (logE f g n) = if n = 0 then zeroPos else ⟨1, n⟩
  | 0 => rfl
  | n + 1 => by rw [logE_succ, posOf_snoc, if_neg (by omega)]; simp [simpleE]
theorem logE_idx (f g : Nat → ByteArray) (n : Nat) : (posOf (logE f g n)).i = (n : Int) := by
  rw [logE_pos]; split
  · rename_i h; subst h; rfl
  · rfl

def sx (s r : Int) : Sn := ⟨s, r, ⟨1, r⟩⟩
def seenN (n : Nat) : List Sn :=
  if n = 0 then [] else if n = 1 then [sx 2 1] else if n = 2 then [sx 2 1, sx 3 2]
  else [sx 2 ((n : Int) - ((n : Int) + 2) % 3), sx 3 ((n : Int) - ((n : Int) + 1) % 3), sx 1 ((n : Int) - (n : Int) % 3)]
theorem tmod3 (n : Nat) : ((n : Int) + 1).tmod 3 = ((n : Int) + 1) % 3 := Int.tmod_eq_emod_of_nonneg (by omega)
theorem look_lt {l : List Sn} {s r : Int} {y : Sn} (h : l.find? (fun x => x.s == s) = some y) (hr : y.r < r) : (look 16 l s r).1 = 1 := by
  unfold look; rw [h]; show (if y.r < r then _ else _ : Int × Pos).1 = 1; rw [if_pos hr]
theorem look_no {l : List Sn} {s r : Int} (h : l.find? (fun x => x.s == s) = none) (hr : l.length < 16) : (look 16 l s r).1 = 1 := by
  unfold look; rw [h]; show (if (16 : Int) ≤ l.length then _ else _ : Int × Pos).1 = 1; rw [if_neg (by omega)]
theorem look_big (n : Nat) (s : Int) (r : Int) (hr : (n : Int) < r) : (look 16 (seenN n) s r).1 = 1 := by
  unfold seenN
  by_cases h0 : n = 0
  · rw [if_pos h0]; exact look_no rfl (by simp)
  rw [if_neg h0]
  by_cases h1 : n = 1
  · rw [if_pos h1]
    by_cases e2 : (2 : Int) = s
    · exact look_lt (y := sx 2 1) (by subst e2; rfl) (by show (1 : Int) < r; omega)
    · exact look_no (by simp [sx, e2]) (by simp)
  rw [if_neg h1]
  by_cases h2 : n = 2
  · rw [if_pos h2]
    by_cases e2 : (2 : Int) = s
    · exact look_lt (y := sx 2 1) (by subst e2; rfl) (by show (1 : Int) < r; omega)
    by_cases e3 : (3 : Int) = s
    · exact look_lt (y := sx 3 2) (by subst e3; rfl) (by show (2 : Int) < r; omega)
    · exact look_no (by simp [sx, e2, e3]) (by simp)
  rw [if_neg h2]
  by_cases e2 : (2 : Int) = s
  · exact look_lt (y := sx 2 ((n : Int) - ((n : Int) + 2) % 3)) (by subst e2; rfl) (by show (n : Int) - ((n : Int) + 2) % 3 < r; omega)
  by_cases e3 : (3 : Int) = s
  · exact look_lt (y := sx 3 ((n : Int) - ((n : Int) + 1) % 3)) (by subst e3; rfl) (by show (n : Int) - ((n : Int) + 1) % 3 < r; omega)
  by_cases e1 : (1 : Int) = s
  · exact look_lt (y := sx 1 ((n : Int) - (n : Int) % 3)) (by subst e1; rfl) (by show (n : Int) - (n : Int) % 3 < r; omega)
  · exact look_no (by simp [sx, e2, e3, e1]) (by simp)
theorem look_next (n : Nat) : (look 16 (seenN n) (1 + ((n : Int) + 1).tmod 3) ((n : Int) + 1)).1 = 1 := look_big n _ _ (by omega)
theorem note_there {x y : Sn} {l : List Sn} (h : l.find? (fun y => y.s == x.s) = some y) : note x l = l.map (fun y => if (y.s == x.s) = true then x else y) := by
  unfold note; rw [h]; rfl
theorem note_next (n : Nat) : noteIf (seenN n) (sx (1 + ((n : Int) + 1).tmod 3) ((n : Int) + 1)) = seenN (n + 1) := by
  unfold noteIf
  rw [if_pos (show (look 16 (seenN n) (sx (1 + ((n : Int) + 1).tmod 3) ((n : Int) + 1)).s (sx (1 + ((n : Int) + 1).tmod 3) ((n : Int) + 1)).r).1 = 1 from look_next n), tmod3]
  by_cases h0 : n = 0
  · subst h0; rfl
  by_cases h1 : n = 1
  · subst h1; rfl
  by_cases h2 : n = 2
  · subst h2; rfl
  unfold seenN
  rw [if_neg h0, if_neg h1, if_neg h2, if_neg (by omega), if_neg (by omega), if_neg (by omega)]
  have e : ((n : Int) + 1) % 3 = 1 ∨ ((n : Int) + 1) % 3 = 2 ∨ ((n : Int) + 1) % 3 = 0 := by omega
  rcases e with e | e | e
  · rw [e, note_there (x := sx (1 + 1) ((n : Int) + 1)) (y := sx 2 ((n : Int) - ((n : Int) + 2) % 3)) rfl]
    show [sx 2 _, sx 3 _, sx 1 _] = _
    simp only [List.cons.injEq, and_true, sx, Sn.mk.injEq, Pos.mk.injEq, true_and]
    omega
  · rw [e, note_there (x := sx (1 + 2) ((n : Int) + 1)) (y := sx 3 ((n : Int) - 2)) rfl]
    show [sx 2 _, sx 3 _, sx 1 _] = _
    simp only [List.cons.injEq, and_true, sx, Sn.mk.injEq, Pos.mk.injEq, true_and]
    omega
  · rw [e, note_there (x := sx (1 + 0) ((n : Int) + 1)) (y := sx 1 ((n : Int) - (n : Int) % 3)) rfl]
    show [sx 2 _, sx 3 _, sx 1 _] = _
    simp only [List.cons.injEq, and_true, sx, Sn.mk.injEq, Pos.mk.injEq, true_and]
    omega
theorem logE_seen (f g : Nat → ByteArray) : ∀ n, seenOf (logE f g n) = seenN n
  | 0 => rfl
  | n + 1 => by rw [logE_succ, seenOf_snoc, logE_seen f g n]; exact note_next n

/-- What a log's keys have. -/
theorem logE_keys (f g : Nat → ByteArray) : ∀ n, (∀ j, j < n → ∃ m, j ≤ m ∧ m < n ∧ f m = f j ∧ getL (f j) (keysOf (logE f g n)) = some ⟨⟨1, (m : Int) + 1⟩, true, g m⟩)
  | 0 => fun j hj => absurd hj (by omega)
  | n + 1 => fun j hj => by
    rw [logE_succ, keysOf_snoc]
    by_cases hk : f n = f j
    · refine ⟨n, by omega, by omega, hk, ?_⟩
      show getL (f j) (ins (f n) _ _) = _
      rw [hk, getL_ins_same]; rfl
    · have hjn : j < n := by
        rcases Nat.lt_or_ge j n with h | h
        · exact h
        · exact absurd (by rw [show j = n by omega]) hk
      obtain ⟨m, h1, h2, h3, h4⟩ := logE_keys f g n j hjn
      refine ⟨m, h1, by omega, h3, ?_⟩
      show getL (f j) (ins (f n) _ _) = _
      rw [getL_ins_other (fun e => hk e.symm)]; exact h4
theorem logE_low (f g : Nat → ByteArray) (k : ByteArray) : ∀ n, ((getL k (keysOf (logE f g n))).getD zeroVal).pos.i ≤ (n : Int)
  | 0 => by simp [logE, keysOf, getL, zeroVal, zeroPos]
  | n + 1 => by
    rw [logE_succ, keysOf_snoc]
    by_cases hk : k = f n
    · subst hk
      show ((getL (f n) (ins (f n) _ _)).getD zeroVal).pos.i ≤ _
      rw [getL_ins_same]; simp [entV, simpleE]
    · show ((getL k (ins (f n) _ _)).getD zeroVal).pos.i ≤ _
      rw [getL_ins_other hk]
      have := logE_low f g k n
      omega

theorem checkW_ok {s : St} {x : Ent} (h1 : s.closed = false) (h2 : x.pos.i = s.pos.i + 1) (h3 : x.pos.i ≤ 512) (h4 : atB s.table x.pos.i = x.pos) (h5 : numB x.s = true) (h6 : numB x.r = true) (h7 : x.d = false) (h8 : 1 ≤ x.k.size) (h9 : x.k.size ≤ 64) (h10 : x.t.size ≤ 1024) (h11 : (look 16 s.seen x.s x.r).1 = 1) : checkW s x = 0 := by
  unfold checkW
  rw [if_neg (by simp [h1]), if_neg (by omega), if_neg (by omega), if_neg (by rw [h4]; simp), if_neg (by simp [h5, h6, h7]), if_neg (by omega), if_neg (by omega), if_neg (by omega)]
theorem checkW_simple (f g : Nat → ByteArray) (n : Nat) (k t : ByteArray) (hn : n < 512) (h8 : 1 ≤ k.size) (h9 : k.size ≤ 64) (h10 : t.size ≤ 1024) : checkW (logSt (logE f g n) oneT) (simpleE ((n : Int) + 1) k t) = 0 := by
  rw [logSt_eq]
  have hm := tmod3 n
  refine checkW_ok rfl ?_ ?_ ?_ ?_ ?_ rfl h8 h9 h10 ?_
  · show (n : Int) + 1 = (posOf _).i + 1; rw [logE_idx]
  · show (n : Int) + 1 ≤ 512; omega
  · exact atB_one (by show 1 ≤ (n : Int) + 1; omega) (by show (n : Int) + 1 ≤ 512; omega)
  · have e1 : (simpleE ((n : Int) + 1) k t).s = 1 + ((n : Int) + 1) % 3 := by rw [← hm]; rfl
    have g := Int.emod_nonneg ((n : Int) + 1) (show (3 : Int) ≠ 0 by decide)
    have g2 := Int.emod_lt_of_pos ((n : Int) + 1) (show (0 : Int) < 3 by decide)
    unfold numB; rw [e1]; simp only [Bool.and_eq_true, decide_eq_true_eq]; omega
  · show numB ((n : Int) + 1) = true; unfold numB; simp only [Bool.and_eq_true, decide_eq_true_eq]; omega
  · rw [logE_seen]; exact look_next n
theorem log_ok (f g : Nat → ByteArray) (n : Nat) (t : List Ep) (hn : n ≤ 512) (ht : rightB t = true) : Ok (logSt (logE f g n) t) := logOk (by rw [logE_idx, logE_length]) (by rw [logE_length]; exact hn) ht

end Go.Proofs.Ytedcdjlpogpgbaa

/- The laws' small helpers: one; Master. -/
set_option linter.unusedVariables false
set_option linter.unusedSimpArgs false
namespace Go.Proofs.Ytedcdjlpogpgbaa
open Go.RowKit

theorem fld_text (a b : Int) (c : Bool) (t : ByteArray) (w : World) : (Instr.field 46 (.agg #[.int .i64 a, .int .i64 b, .bool c, .string t]) 2).run Try.prog w = .ok (.string t) w := by kernel_rfl
theorem fld_there (a b : Int) (c : Bool) (t : ByteArray) (w : World) : (Instr.field 46 (.agg #[.int .i64 a, .int .i64 b, .bool c, .string t]) 1).run Try.prog w = .ok (.bool c) w := by kernel_rfl
theorem fld_index (a b : Int) (w : World) : (Instr.field 33 (.agg #[.int .i64 a, .int .i64 b]) 1).run Try.prog w = .ok (.int .i64 b) w := by kernel_rfl

set_option maxRecDepth 100000 in
set_option maxHeartbeats 4000000 in
theorem one_any (w : World) : Calls Try.prog 19 #[] w fun e w' => ∃ v, e = .returned v ∧ SlAt w' v oneT.length (epsCells oneT) ∧ Below w.heap.size w w' := by
  go_enter Try.func19, Try.ntmps19
  go_wp2_with fail
  go_ret
  exact ⟨_, rfl, sl_one (cs := epVal ⟨1, 0, false⟩) (T := 29) (by ((repeat' (first | with_reducible exact Blk.new _ _ _ | with_reducible apply Blk.drewN | with_reducible apply Blk.drew | with_reducible apply Blk.set' | (with_reducible apply Blk.set_other (hp := by first | assumption | (simp; done) | (simp; omega) | omega)) | (with_reducible apply Blk.new'; focus (first | (simp; done) | (simp; omega))) | with_reducible apply Blk.alloc)) <;> rfl)), by (repeat' (first | with_reducible exact Below.refl _ _ | with_reducible refine below_drewN ?_ _ | with_reducible refine Below.drew ?_ | with_reducible refine Below.setCell ?_ (by first | exact Nat.le_refl _ | (simp; done) | (simp; omega) | omega) _ | with_reducible refine Below.alloc ?_ (by first | exact Nat.le_refl _ | (simp; done) | (simp; omega) | omega) _ | exact Below.refl _ _))⟩

set_option maxRecDepth 100000 in
set_option maxHeartbeats 4000000 in
theorem Master_any (L : Lay) (s : St) (w : World) (h : StAt w L s) (hn : 0 < s.table.length) (hm : s.table.length ≤ 1000) :
    Calls Try.prog 16 #[.pointer (some ⟨L.b, 0, none⟩)] w fun e w' => e = .returned (.int .i64 (ep s.table (s.table.length - 1)).m) ∧ Below w.heap.size w w' := by
  have hbl := h.blk.lt
  obtain ⟨b, o, c, htv, hc1, hc2, hb, hcell⟩ := eps_at (own_sl h.tab) hn
  have c4 : w.cell? ⟨L.b, 4, none⟩ = some (.slice (some ⟨b, o, none⟩) s.table.length c) := by rw [h.blk.cell, ← htv]; rfl
  obtain ⟨a0, _, _⟩ := hcell (s.table.length - 1) (by omega)
  obtain ⟨n, hN⟩ : ∃ n, s.table.length = n + 1 := ⟨s.table.length - 1, by omega⟩
  obtain ⟨m, hM⟩ : ∃ m, (ep s.table (s.table.length - 1)).m = m := ⟨_, rfl⟩
  rw [hM] at a0 ⊢
  rw [hN] at c4 a0
  simp only [Nat.add_sub_cancel] at a0
  have hn1 : n ≤ 1000 := by omega
  clear h htv hcell hM hN hn hm
  go_enter Try.func16, Try.ntmps16
  go_wp2_with fail
  go_quiet (fail)
  go_wp2_with fail
  go_ret
  exact ⟨rfl, by (repeat' (first | with_reducible exact Below.refl _ _ | with_reducible refine below_drewN ?_ _ | with_reducible refine Below.drew ?_ | with_reducible refine Below.setCell ?_ (by first | exact Nat.le_refl _ | (simp; done) | (simp; omega) | omega) _ | with_reducible refine Below.alloc ?_ (by first | exact Nat.le_refl _ | (simp; done) | (simp; omega) | omega) _ | exact Below.refl _ _))⟩

end Go.Proofs.Ytedcdjlpogpgbaa

/- Layer 15: Check of an Adopt. -/
set_option linter.unusedVariables false
set_option linter.unusedSimpArgs false
namespace Go.Proofs.Ytedcdjlpogpgbaa
open Go.RowKit

theorem Below.frm1 {B b n k : Nat} {W0 X w2 : World} (hX : Below B W0 X) (hs : B ≤ X.heap.size) (hf : Frm (fun c => (Value.slice (some ⟨b, 0, none⟩) n k).ownBlock = some c) X w2) (hb : B ≤ b) : Below B W0 w2 :=
  hX.trans ⟨hf.os, hf.tape, hf.output, hf.size, fun i hi => hf.block i (by omega) (fun h => by injection h with h; have h' : b = i := h; omega)⟩
theorem Below.frmG {B : Nat} {W0 X w2 : World} {v : Value} (hX : Below B W0 X) (hs : B ≤ X.heap.size) (hf : Frm (fun c => v.ownBlock = some c) X w2) (hb : ∀ c, v.ownBlock = some c → B ≤ c) : Below B W0 w2 :=
  hX.trans ⟨hf.os, hf.tape, hf.output, hf.size, fun i hi => hf.block i (by omega) (fun h => by have := hb i h; omega)⟩
theorem own_ge {B b n k : Nat} {v : Value} {X : World} (hob : v.ownBlock = (Value.slice (some ⟨b, 0, none⟩) n k).ownBlock ∨ v.ownBlock = some X.heap.size) (h1 : B ≤ b) (h2 : B ≤ X.heap.size) : ∀ c, v.ownBlock = some c → B ≤ c := by
  intro c hc
  rcases hob with h | h
  · rw [h] at hc; injection hc with hc; have h' : b = c := hc; omega
  · rw [h] at hc; injection hc with hc; omega
def adoptE (s : St) (e : Ep) : Int := if rightB (s.table ++ [e]) = true then 0 else 1
set_option maxRecDepth 100000 in
set_option maxHeartbeats 8000000 in
theorem Check_adopt (L : Lay) (s : St) (x : Ent) (e : Ep) (cfg : Int) (sp : Pos) (A B : Option Addr) (na ca nb cb : Nat) (w : World) (h : StAt w L s) (hok : Ok s) :
    Calls Try.prog 41 #[.pointer (some ⟨L.b, 0, none⟩), .agg (recVal 2 x e cfg sp (.slice A na ca) (.slice B nb cb))] w (IntRes (adoptE s e) w) := by
  have H := Lib.hid h
  have hlen : s.table.length ≤ 64 := ((rightB_iff _).1 hok.right).2.1
  have hbl := h.blk.lt
  have c4 : World.cell? w ⟨L.b, 4, none⟩ = some (L.tv) := by rw [Blk.cell h.blk]; rfl
  clear h hok
  unfold recVal
  have htab : ∀ W : World, Below w.heap.size w W → SlAt W L.tv s.table.length (epsCells s.table) := fun W hW => own_sl (H.out.below hW).tab
  have HTAB := Lib.hid htab
  have hri : ∀ (v : Value) (W : World), SlAt W v (s.table ++ [e]).length (epsCells (s.table ++ [e])) → Calls Try.prog 44 #[v] W fun e' w' => e' = .returned (.bool (rightB (s.table ++ [e]))) ∧ Below W.heap.size W w' := fun v W hv => Right_any v _ W hv
  have HRI := Lib.hid hri
  clear htab hri
  have hE : epsCells (s.table ++ [e]) = epsCells s.table ++ epCells e := by simp [epsCells]
  have HE := Lib.hid hE
  clear hE
  go_enter Try.func41, Try.ntmps41
  go_upto_region 8 with (fail)
  go_cut [28] (fun v wx => v = .bool (!rightB (s.table ++ [e])) ∧ Below w.heap.size w wx)
  case first =>
    have ne1 : w.heap.size ≠ L.b := by omega
    have ne2 : w.heap.size + 1 ≠ L.b := by omega
    have ne3 : w.heap.size + 2 ≠ L.b := by omega
    have ne4 : L.b < w.heap.size + 1 := by omega
    have ne5 : L.b < w.heap.size + 2 := by omega
    obtain ⟨W0, hW0⟩ : ∃ W0 : World, W0 = w.alloc (.cells (recVal 2 x e cfg sp (.slice A na ca) (.slice B nb cb)) 42) := ⟨_, rfl⟩
    have hs0 : W0.heap.size = w.heap.size + 1 := by rw [hW0]; simp
    have hW0b : Below w.heap.size w W0 := by rw [hW0]; (repeat' (first | with_reducible exact Below.refl _ _ | with_reducible refine below_drewN ?_ _ | with_reducible refine Below.drew ?_ | with_reducible refine Below.setCell ?_ (by first | exact Nat.le_refl _ | (simp; done) | (simp; omega) | omega) _ | with_reducible refine Below.alloc ?_ (by first | exact Nat.le_refl _ | (simp; done) | (simp; omega) | omega) _ | exact Below.refl _ _))
    have hS : ∀ X : World, Below (w.heap.size + 1) W0 X → (X.cell? ⟨L.b, 4, none⟩ = some L.tv ∧ X.cell? ⟨w.heap.size, 8, none⟩ = some (.int .i64 e.m) ∧ X.cell? ⟨w.heap.size, 9, none⟩ = some (.int .i64 e.c) ∧ X.cell? ⟨w.heap.size, 10, none⟩ = some (.bool e.f)) := by
      intro X hX
      have rb : Blk W0 w.heap.size (recVal 2 x e cfg sp (.slice A na ca) (.slice B nb cb)) 42 := by rw [hW0]; exact Blk.new' rfl rfl
      have rb2 := rb.below (hs0 ▸ hX)
      refine ⟨?_, ?_, ?_, ?_⟩
      · rw [hX.cell (p := ⟨L.b, 4, none⟩) (by show L.b < _; omega), hW0b.cell (p := ⟨L.b, 4, none⟩) hbl]; exact c4
      · rw [rb2.cell]; rfl
      · rw [rb2.cell]; rfl
      · rw [rb2.cell]; rfl
    have c41 : (w.alloc (.cells (recVal 2 x e cfg sp (.slice A na ca) (.slice B nb cb)) 42)).cell? ⟨L.b, 4, none⟩ = some L.tv := by rw [← hW0, hW0b.cell (p := ⟨L.b, 4, none⟩) hbl]; exact c4
    unfold recVal at c41
    have HS := Lib.hid hS
    have HW0 := Lib.hid hW0
    have HW0b := Lib.hid hW0b
    have HS0 := Lib.hid hs0
    clear hS hW0 hW0b hs0
    go_region_held3 (fun W => W.cell? ⟨L.b, 4, none⟩ = some (L.tv) ∧ W.cell? ⟨w.heap.size, 8, none⟩ = some (.int .i64 e.m) ∧ W.cell? ⟨w.heap.size, 9, none⟩ = some (.int .i64 e.c) ∧ W.cell? ⟨w.heap.size, 10, none⟩ = some (.bool e.f)) (first | go_keep | (refine HS.out _ ?_; rw [HW0.out]; (repeat' (first | with_reducible exact Below.refl _ _ | with_reducible refine below_drewN ?_ _ | with_reducible refine Below.drew ?_ | with_reducible refine Below.setCell ?_ (by first | exact Nat.le_refl _ | (simp; done) | (simp; omega) | omega) _ | with_reducible refine Below.alloc ?_ (by first | exact Nat.le_refl _ | (simp; done) | (simp; omega) | omega) _ | exact Below.refl _ _))) | (refine ⟨?_, ?_, ?_, ?_⟩ <;> simp [*, World.cell?_alloc_lt, World.cell?_alloc_some]))
      (first
      | (go_at_call 44; refine (HRI.out _ _ (by rw [HE.out, List.length_append]; exact own_sl HO2.out)).mono ?_; rintro e' w4 ⟨rfl, hb4⟩; have hX3 := hX2.trans (hb4.mono hsz3); obtain ⟨g4, g8, g9, g10⟩ := HS.out w4 hX3; clear hb4)
      | (refine step_append_sl (v := .slice (some ⟨_, 0, none⟩) 0 0) rfl _ _ _ _ 29 3 24 _ rfl rfl Try.underlying30 ep_info rfl (by omega) 0 [] s.table.length (epsCells s.table) (by rfl) rfl (own_blk0 3 ?_) (HTAB.out _ ?_) (epsCells_length _) (epsCells_one _) (by omega) (by unfold maxLen; omega) s.table.length (by omega) (epsCells s.table) rfl ?_; ((repeat' (first | with_reducible exact Blk.new _ _ _ | with_reducible apply Blk.drewN | with_reducible apply Blk.drew | with_reducible apply Blk.set' | (with_reducible apply Blk.set_other (hp := by first | assumption | (simp; done) | (simp; omega) | omega)) | (with_reducible apply Blk.new'; focus (first | (simp; done) | (simp; omega))) | with_reducible apply Blk.alloc)) <;> rfl); (repeat' (first | with_reducible exact Below.refl _ _ | with_reducible refine below_drewN ?_ _ | with_reducible refine Below.drew ?_ | with_reducible refine Below.setCell ?_ (by first | exact Nat.le_refl _ | (simp; done) | (simp; omega) | omega) _ | with_reducible refine Below.alloc ?_ (by first | exact Nat.le_refl _ | (simp; done) | (simp; omega) | omega) _ | exact Below.refl _ _)); intro A1 c1 w2 hown1 hfr1 hob1; have hX1 : Below (w.heap.size + 1) W0 w2 := (by (refine Below.frm1 ?_ ?_ hfr1 ?_ <;> first | omega | (simp; done) | (simp; omega) | (rw [HW0.out]; (repeat' (first | with_reducible exact Below.refl _ _ | with_reducible refine below_drewN ?_ _ | with_reducible refine Below.drew ?_ | with_reducible refine Below.setCell ?_ (by first | exact Nat.le_refl _ | (simp; done) | (simp; omega) | omega) _ | with_reducible refine Below.alloc ?_ (by first | exact Nat.le_refl _ | (simp; done) | (simp; omega) | omega) _ | exact Below.refl _ _))))); have hg1 := own_ge (B := w.heap.size + 1) hob1 (by first | omega | (simp; done) | (simp; omega)) (by first | omega | (simp; done) | (simp; omega)); obtain ⟨g4, g8, g9, g10⟩ := HS.out w2 hX1; have HO1 := Lib.hid hown1; have HG1 := Lib.hid hg1; have HFR1 := Lib.hid hfr1; have hsz2 := hX1.size; rw [HS0.out] at hsz2; clear hown1 hfr1 hob1 hg1)
      | (refine step_append_sl (v := .slice A1 s.table.length c1) rfl _ _ _ _ 29 3 24 _ rfl rfl Try.underlying30 ep_info rfl (by omega) s.table.length (epsCells s.table) 1 (epCells e) (by rfl) rfl (own_frm (F := fun _ => False) HO1.out ?_ (fun _ _ h => h)) (sl_one (cs := epVal e) (T := 29) ?_) rfl (epsCells_one [e]) (by omega) (by unfold maxLen; omega) (s.table.length + 1) rfl (epsCells s.table ++ epCells e) rfl ?_; (repeat' (first | with_reducible exact Frm.refl _ _ | with_reducible refine Frm.drewN ?_ _ | with_reducible refine Frm.drew ?_ | with_reducible refine Frm.setCell ?_ (by first | exact Or.inl rfl | exact Or.inr (Nat.le_refl _) | (simp; done) | (simp; omega)) _ | with_reducible refine Frm.alloc ?_ _ | exact Frm.refl _ _)); ((repeat' (first | (with_reducible refine Blk.frm ?_ HFR1.out (by simp [Value.ownBlock])) | with_reducible exact Blk.new _ _ _ | with_reducible apply Blk.drewN | with_reducible apply Blk.drew | with_reducible apply Blk.set' | (with_reducible apply Blk.set_other (hp := by first | assumption | (simp; done) | (simp; omega) | omega)) | (with_reducible apply Blk.new'; focus (first | (simp; done) | (simp; omega))) | with_reducible apply Blk.alloc)) <;> rfl); intro A2 c2 w3 hown2 hfr2 hob2; have hX2 : Below (w.heap.size + 1) W0 w3 := Below.frmG (by (repeat' (first | with_reducible exact hX1 | with_reducible exact Below.refl _ _ | with_reducible refine below_drewN ?_ _ | with_reducible refine Below.drew ?_ | with_reducible refine Below.setCell ?_ (by first | exact Nat.le_refl _ | (simp; done) | (simp; omega) | omega) _ | with_reducible refine Below.alloc ?_ (by first | exact Nat.le_refl _ | (simp; done) | (simp; omega) | omega) _ | exact Below.refl _ _ | exact hX1))) (by first | omega | (simp; done) | (simp; omega)) hfr2 HG1.out; clear g4 g8 g9 g10; obtain ⟨g4, g8, g9, g10⟩ := HS.out w3 hX2; have HO2 := Lib.hid hown2; have hsz3 := hX2.size; rw [HS0.out] at hsz3; clear hown2 hfr2 hob2))
    all_goals
      go_wp2_with fail
      go_meet
      exact ⟨rfl, HW0b.out.trans (hX3.mono (by omega))⟩
  case rest =>
    obtain ⟨rfl, hbel⟩ := hcut
    have HB := Lib.hid hbel
    clear hbel c4
    by_cases hr : rightB (s.table ++ [e]) = true
    · have HR := Lib.hid hr
      rw [hr]
      clear hr
      go_wp2_with fail
      go_ret
      exact ⟨by unfold adoptE; rw [if_pos HR.out]; rfl, HB.out⟩
    · have hr' : rightB (s.table ++ [e]) = false := by simpa using hr
      have HR := Lib.hid hr
      rw [hr']
      clear hr hr'
      go_wp2_with fail
      go_ret
      exact ⟨by unfold adoptE; rw [if_neg HR.out]; rfl, HB.out⟩

end Go.Proofs.Ytedcdjlpogpgbaa

/- Layer 15: Check and Apply of a Write and of an Adopt. -/
set_option linter.unusedVariables false
set_option linter.unusedSimpArgs false
namespace Go.Proofs.Ytedcdjlpogpgbaa
open Go.RowKit

def Small (x : Ent) : Prop := -1000000000000 ≤ x.pos.i ∧ x.pos.i ≤ 1000000000000

set_option maxRecDepth 100000 in
set_option maxHeartbeats 8000000 in
theorem Check_write (L : Lay) (s : St) (x : Ent) (e : Ep) (cfg : Int) (sp : Pos) (A B : Option Addr) (na ca nb cb : Nat) (w : World) (h : StAt w L s) (hok : Ok s) (hx : Small x) :
    Calls Try.prog 41 #[.pointer (some ⟨L.b, 0, none⟩), .agg (recVal 1 x e cfg sp (.slice A na ca) (.slice B nb cb))] w (IntRes (checkW s x) w) := by
  have H := Lib.hid h
  have HOK := Lib.hid hok
  have HX := Lib.hid hx
  clear h hok hx
  have hcw : ∀ W : World, Below w.heap.size w W → Calls Try.prog 60 #[.pointer (some ⟨L.b, 0, none⟩), .agg #[.int .i64 x.pos.e, .int .i64 x.pos.i, .int .i64 x.s, .int .i64 x.r, .string x.k, .bool x.d, .string x.t]] W (IntRes (checkW s x) W) :=
    fun W hW => checkWrite_any L s x W (H.out.below hW) (by have := HOK.out.at_; have := HOK.out.low; have := HOK.out.high; omega) HX.out
  have HCW := Lib.hid hcw
  clear hcw
  unfold recVal
  go_enter Try.func41, Try.ntmps41
  go_wp2_with fail
  refine (HCW.out _ (by (repeat' (first | with_reducible exact Below.refl _ _ | with_reducible refine below_drewN ?_ _ | with_reducible refine Below.drew ?_ | with_reducible refine Below.setCell ?_ (by first | exact Nat.le_refl _ | (simp; done) | (simp; omega) | omega) _ | with_reducible refine Below.alloc ?_ (by first | exact Nat.le_refl _ | (simp; done) | (simp; omega) | omega) _ | exact Below.refl _ _)))).mono ?_
  rintro e1 w1 ⟨rfl, hb⟩
  have HB := Lib.hid ((by (repeat' (first | with_reducible exact Below.refl _ _ | with_reducible refine below_drewN ?_ _ | with_reducible refine Below.drew ?_ | with_reducible refine Below.setCell ?_ (by first | exact Nat.le_refl _ | (simp; done) | (simp; omega) | omega) _ | with_reducible refine Below.alloc ?_ (by first | exact Nat.le_refl _ | (simp; done) | (simp; omega) | omega) _ | exact Below.refl _ _)) : Below w.heap.size w _).trans (hb.mono (by simp)))
  clear hb
  go_wp2_with fail
  go_ret
  exact ⟨rfl, HB.out⟩

theorem own_apart {w : World} {k n kb sb mb c : Nat} {e : TypeId} {v : Value} {xs : List Value} {t : T} {l : List Sn} (h : w.ownsRow 0 e k v n xs) (f : FoldAt w kb sb mb t l) (h1 : e ≠ MapT) (h2 : e ≠ 157) (hc : v.ownBlock = some c) : c ≠ kb ∧ c ∉ t.blocks ∧ c ≠ mb := by
  obtain ⟨nk, hkb⟩ := f.keys.blk
  refine ⟨fun e => by subst e; exact h1 (own_type h hc hkb), fun hm => ?_, fun e => by subst e; exact own_map h hc f.seen.map⟩
  obtain ⟨cs, hcb⟩ := T.At.blk f.keys.tree hm
  exact h2 (own_type h hc hcb)
def wroteF (s : St) (x : Ent) : St := St.put { s with ents := s.ents ++ [x] } x
def ApplyRes (L : Lay) (n : Int) (s' : St) (w : World) (e : Ending) (w' : World) : Prop := e = .returned (.int .i64 n) ∧ ∃ L', Moved w w' L L' s'
theorem Moved.same {w w' : World} {L : Lay} {s : St} (h : StAt w L s) (f : Below w.heap.size w w') : Moved w w' L L s := ⟨h.below f, rfl, fun _ h => .inl h, Frm.ofBelow f⟩
theorem ent_info : (Try.prog.info? 35).map (fun i => (i.zero, i.size, i.bytes)) = some (some (.agg #[.int .i64 0, .int .i64 0, .int .i64 0, .int .i64 0, .string ⟨#[]⟩, .bool false, .string ⟨#[]⟩]), 7, 72) := by kernel_rfl

set_option maxRecDepth 100000 in
set_option maxHeartbeats 8000000 in
theorem Apply_write_no (L : Lay) (s : St) (x : Ent) (e : Ep) (cfg : Int) (sp : Pos) (A B : Option Addr) (na ca nb cb : Nat) (w : World) (h : StAt w L s) (hok : Ok s) (hx : Small x) (hno : checkW s x ≠ 0) :
    Calls Try.prog 13 #[.pointer (some ⟨L.b, 0, none⟩), .agg (recVal 1 x e cfg sp (.slice A na ca) (.slice B nb cb))] w (ApplyRes L (checkW s x) s w) := by
  have H := Lib.hid h
  have d1 : (checkW s x != 0) = true := by simpa using hno
  have hc : ∀ W : World, Below w.heap.size w W → Calls Try.prog 41 #[.pointer (some ⟨L.b, 0, none⟩), .agg (recVal 1 x e cfg sp (.slice A na ca) (.slice B nb cb))] W (IntRes (checkW s x) W) := fun W hW => Check_write L s x e cfg sp A B na ca nb cb W (H.out.below hW) hok hx
  unfold recVal at *
  have HC := Lib.hid hc
  clear h hok hx hno hc
  go_enter Try.func13, Try.ntmps13
  go_wp2_with fail
  refine (HC.out _ (by (repeat' (first | with_reducible exact Below.refl _ _ | with_reducible refine below_drewN ?_ _ | with_reducible refine Below.drew ?_ | with_reducible refine Below.setCell ?_ (by first | exact Nat.le_refl _ | (simp; done) | (simp; omega) | omega) _ | with_reducible refine Below.alloc ?_ (by first | exact Nat.le_refl _ | (simp; done) | (simp; omega) | omega) _ | exact Below.refl _ _)))).mono ?_
  rintro e1 w1 ⟨rfl, hb⟩
  have HB := Lib.hid ((by (repeat' (first | with_reducible exact Below.refl _ _ | with_reducible refine below_drewN ?_ _ | with_reducible refine Below.drew ?_ | with_reducible refine Below.setCell ?_ (by first | exact Nat.le_refl _ | (simp; done) | (simp; omega) | omega) _ | with_reducible refine Below.alloc ?_ (by first | exact Nat.le_refl _ | (simp; done) | (simp; omega) | omega) _ | exact Below.refl _ _)) : Below w.heap.size w _).trans (hb.mono (by simp)))
  clear hb
  go_wp2_with fail
  go_ret
  exact ⟨rfl, L, Moved.same H.out HB.out⟩

set_option maxRecDepth 100000 in
set_option maxHeartbeats 8000000 in
theorem Apply_write_yes (L : Lay) (s : St) (x : Ent) (e : Ep) (cfg : Int) (sp : Pos) (A B : Option Addr) (na ca nb cb : Nat) (w : World) (h : StAt w L s) (hok : Ok s) (hx : Small x) (hyes : checkW s x = 0) (hen : s.ents.length ≤ 1000) :
    Calls Try.prog 13 #[.pointer (some ⟨L.b, 0, none⟩), .agg (recVal 1 x e cfg sp (.slice A na ca) (.slice B nb cb))] w (ApplyRes L 0 (wroteF s x) w) := by
  have H := Lib.hid h
  have hc : ∀ W : World, Below w.heap.size w W → Calls Try.prog 41 #[.pointer (some ⟨L.b, 0, none⟩), .agg (recVal 1 x e cfg sp (.slice A na ca) (.slice B nb cb))] W (IntRes 0 W) := fun W hW => hyes ▸ Check_write L s x e cfg sp A B na ca nb cb W (H.out.below hW) hok hx
  have hbox : ∀ W : World, Below (w.alloc (.cells (recVal 1 x e cfg sp (.slice A na ca) (.slice B nb cb)) 42)).heap.size (w.alloc (.cells (recVal 1 x e cfg sp (.slice A na ca) (.slice B nb cb)) 42)) W → Blk W w.heap.size (recVal 1 x e cfg sp (.slice A na ca) (.slice B nb cb)) 42 := fun W hW => Blk.below (Blk.new' rfl rfl) hW
  unfold recVal at *
  have HC := Lib.hid hc
  have HBOX := Lib.hid hbox
  have hbl := h.blk.lt
  clear h hok hx hyes hc hbox
  go_enter Try.func13, Try.ntmps13
  go_wp2_with fail
  refine (HC.out _ (by (repeat' (first | with_reducible exact Below.refl _ _ | with_reducible refine below_drewN ?_ _ | with_reducible refine Below.drew ?_ | with_reducible refine Below.setCell ?_ (by first | exact Nat.le_refl _ | (simp; done) | (simp; omega) | omega) _ | with_reducible refine Below.alloc ?_ (by first | exact Nat.le_refl _ | (simp; done) | (simp; omega) | omega) _ | exact Below.refl _ _)))).mono ?_
  rintro e1 w1 ⟨rfl, hb⟩
  have hbx := HBOX.out w1 hb
  have hbel : Below w.heap.size w w1 := (by (repeat' (first | with_reducible exact Below.refl _ _ | with_reducible refine below_drewN ?_ _ | with_reducible refine Below.drew ?_ | with_reducible refine Below.setCell ?_ (by first | exact Nat.le_refl _ | (simp; done) | (simp; omega) | omega) _ | with_reducible refine Below.alloc ?_ (by first | exact Nat.le_refl _ | (simp; done) | (simp; omega) | omega) _ | exact Below.refl _ _)) : Below w.heap.size w _).trans (hb.mono (by simp))
  have hst := H.out.below hbel
  have hbl1 := hst.blk.lt
  have hxl1 := hbx.lt
  have k0 : World.cell? w1 ⟨w.heap.size, 0, none⟩ = some (.int .i64 1) := by rw [Blk.cell hbx]; rfl
  have k1 : World.cell? w1 ⟨w.heap.size, 1, none⟩ = some (.int .i64 x.pos.e) := by rw [Blk.cell hbx]; rfl
  have k2 : World.cell? w1 ⟨w.heap.size, 2, none⟩ = some (.int .i64 x.pos.i) := by rw [Blk.cell hbx]; rfl
  have k3 : World.cell? w1 ⟨w.heap.size, 3, none⟩ = some (.int .i64 x.s) := by rw [Blk.cell hbx]; rfl
  have k4 : World.cell? w1 ⟨w.heap.size, 4, none⟩ = some (.int .i64 x.r) := by rw [Blk.cell hbx]; rfl
  have k5 : World.cell? w1 ⟨w.heap.size, 5, none⟩ = some (.string x.k) := by rw [Blk.cell hbx]; rfl
  have k6 : World.cell? w1 ⟨w.heap.size, 6, none⟩ = some (.bool x.d) := by rw [Blk.cell hbx]; rfl
  have k7 : World.cell? w1 ⟨w.heap.size, 7, none⟩ = some (.string x.t) := by rw [Blk.cell hbx]; rfl
  have c9 : w1.cell? ⟨L.b, 9, none⟩ = some L.ev := by rw [hst.blk.cell]; rfl
  have fr : ∀ i, w1.frozen? ⟨L.b, i, none⟩ = false := hst.blk.free
  -- the append
  have hW : Frm (fun _ => False) w1 ((w1.alloc (.cells (entVal x) 35)).drew) := by (repeat' (first | with_reducible exact Frm.refl _ _ | with_reducible refine Frm.drewN ?_ _ | with_reducible refine Frm.drew ?_ | with_reducible refine Frm.setCell ?_ (by first | exact Or.inl rfl | exact Or.inr (Nat.le_refl _) | (simp; done) | (simp; omega)) _ | with_reducible refine Frm.alloc ?_ _ | exact Frm.refl _ _))
  obtain ⟨v', w2, happ, hown, hgr, hob⟩ := run_append_sl (P := Try.prog) (w := (w1.alloc (.cells (entVal x) 35)).drew) 58 58 35 7 72 _ Try.underlying58 ent_info rfl (by omega) L.ev s.ents.length (entsCells s.ents) (own_frm hst.ens hW (fun _ _ h => h))
    (.slice (some ⟨w1.heap.size, 0, none⟩) 1 1) 1 (entCells x) (sl_one (cs := entVal x) (T := 35) (by ((repeat' (first | with_reducible exact Blk.new _ _ _ | with_reducible apply Blk.drewN | with_reducible apply Blk.drew | with_reducible apply Blk.set' | (with_reducible apply Blk.set_other (hp := by first | assumption | (simp; done) | (simp; omega) | omega)) | (with_reducible apply Blk.new'; focus (first | (simp; done) | (simp; omega))) | with_reducible apply Blk.alloc)) <;> rfl))) rfl (by simpa [entsCells] using entsCells_one [x]) (by omega) (by unfold maxLen; omega)
  obtain ⟨A', ca', hv', _⟩ := own_sl hown
  subst hv'
  unfold entVal at happ
  have hF2 := Frm.ofGrown hgr
  have hevb : ∀ c, L.ev.ownBlock = some c → c ≠ L.b := fun c hc e => by subst e; exact absurd (own_type hst.ens hc hst.blk) (by decide)
  have hevx : ∀ c, L.ev.ownBlock = some c → c ≠ w.heap.size := fun c hc e => by subst e; exact absurd (own_type hst.ens hc hbx) (by decide)
  have F12 : Frm (fun c => L.ev.ownBlock = some c) w1 w2 := (hW.mono (fun _ _ h => h.elim)).trans hF2 (fun _ _ h => h)
  have hb2 : Blk w2 L.b (stCells L s) 94 := hst.blk.frm F12 (fun hc => hevb _ hc rfl)
  have hbx2 := hbx.frm F12 (fun hc => hevx _ hc rfl)
  have hbl2 := hb2.lt
  have d9 : World.cell? w2 ⟨L.b, 9, none⟩ = some (L.ev) := by rw [Blk.cell hb2]; rfl
  have fr2 : ∀ i, w2.frozen? ⟨L.b, i, none⟩ = false := hb2.free
  have HO := Lib.hid hown
  have HF12 := Lib.hid F12
  have HB2 := Lib.hid hb2
  have HBX2 := Lib.hid hbx2
  have HST := Lib.hid hst
  have HBEL := Lib.hid hbel
  have HOB := Lib.hid hob
  clear hW hown hgr hF2 hevb hevx F12 hb2 hbx2 hst hbel hob hbx hb
  go_upto_region 10 with (fail)
  go_cut [] (fun wx => wx.heap = (w2.setCell ⟨L.b, 9, none⟩ (.slice A' (s.ents.length + 1) ca')).heap ∧ wx.os = w2.os ∧ wx.output = w2.output ∧ wx.tape = w2.tape)
  case first =>
    go_region_law (first | (refine step_append_run rfl _ _ _ _ rfl rfl (by rfl) (by rfl) happ ?_))
    all_goals
      go_wp2_with fail
      go_meet
      exact ⟨rfl, rfl, rfl, rfl⟩
  case rest =>
    obtain ⟨q1, q2, q3, q4⟩ := hcut
    have bc : Blk wc L.b (stCells { L with ev := .slice A' (s.ents.length + 1) ca' } { s with ents := s.ents ++ [x] }) 94 := by
      have := HB2.out.set 9 (.slice A' (s.ents.length + 1) ca')
      unfold Blk at this ⊢
      rw [q1, this]; rfl
    have fc : Frm (fun c => c = L.b) w2 wc := by
      have f0 := (Frm.refl (fun c => c = L.b) w2).setCell (p := ⟨L.b, 9, none⟩) (.inl rfl) (.slice A' (s.ents.length + 1) ca')
      exact f0.alike ⟨q1, q2, q3⟩ q4
    clear q1 q2 q3 q4
    have bx := HBX2.out.frm fc (by omega)
    have fw : Frm (fun c => c = L.b ∨ L.ev.ownBlock = some c) w1 wc := (HF12.out.mono (fun _ _ h => .inr h)).trans fc (fun _ _ h => .inl h)
    have hfold : FoldAt wc L.kb L.sb L.mb L.t s.seen := by
      have HS := HST.out
      obtain ⟨nk, hkb⟩ := HS.fold.keys.blk
      refine HS.fold.frm fw ?_ ?_ ?_ ?_
      · exact fun h => h.elim (hkb.ne HS.blk (by decide)) (fun h => absurd (own_type HS.ens h hkb) (by decide))
      · intro c hc h
        obtain ⟨cs, hcb⟩ := T.At.blk HS.fold.keys.tree hc
        exact h.elim (fun e => by subst e; exact absurd (hcb.type HS.blk) (by decide)) (fun h => absurd (own_type HS.ens h hcb) (by decide))
      · exact fun h => h.elim (HS.fold.seen.blk.ne HS.blk (by decide)) (fun h => absurd (own_type HS.ens h HS.fold.seen.blk) (by decide))
      · exact fun h => h.elim (fun e => HS.blk.neMap HS.fold.seen.map e.symm) (fun h => own_map HS.ens h HS.fold.seen.map)
    clear k0 k1 k2 k3 k4 k5 k6 k7 c9 fr d9 fr2
    have k1 : World.cell? wc ⟨w.heap.size, 1, none⟩ = some (.int .i64 x.pos.e) := by rw [Blk.cell bx]; rfl
    have k2 : World.cell? wc ⟨w.heap.size, 2, none⟩ = some (.int .i64 x.pos.i) := by rw [Blk.cell bx]; rfl
    have k3 : World.cell? wc ⟨w.heap.size, 3, none⟩ = some (.int .i64 x.s) := by rw [Blk.cell bx]; rfl
    have k4 : World.cell? wc ⟨w.heap.size, 4, none⟩ = some (.int .i64 x.r) := by rw [Blk.cell bx]; rfl
    have k5 : World.cell? wc ⟨w.heap.size, 5, none⟩ = some (.string x.k) := by rw [Blk.cell bx]; rfl
    have k6 : World.cell? wc ⟨w.heap.size, 6, none⟩ = some (.bool x.d) := by rw [Blk.cell bx]; rfl
    have k7 : World.cell? wc ⟨w.heap.size, 7, none⟩ = some (.string x.t) := by rw [Blk.cell bx]; rfl
    have hblc := bc.lt
    have hxlc := bx.lt
    have hput : ∀ W : World, Below wc.heap.size wc W → Calls Try.prog 46 #[.pointer (some ⟨L.b, 0, none⟩), .agg #[.int .i64 x.pos.e, .int .i64 x.pos.i, .int .i64 x.s, .int .i64 x.r, .string x.k, .bool x.d, .string x.t]] W (PutRes L.b L.kb L.sb L.mb L.t s.seen x (stCells { L with ev := .slice A' (s.ents.length + 1) ca' } { s with ents := s.ents ++ [x] }) 94 W) := by
      intro W hW
      have hf := hfold.frm (F := fun _ => False) (Frm.ofBelow hW) (fun h => h) (fun _ _ h => h) (fun h => h) (fun h => h)
      obtain ⟨nk, hkb⟩ := hf.keys.blk
      have hbW := bc.below hW
      exact put_any L.b L.kb L.sb L.mb L.t _ x _ _ W hbW rfl rfl (by simp [stCells]) hf (hbW.ne hkb (by decide)) (hbW.notTree hf.keys.tree (by decide)) (hbW.ne hf.seen.blk (by decide)) (hbW.neMap hf.seen.map)
    have HPUT := Lib.hid hput
    have HBC := Lib.hid bc
    have HFC := Lib.hid fc
    have HFW := Lib.hid fw
    have HFO := Lib.hid hfold
    clear hput bc fc fw bx hfold
    go_wp2_with fail
    go_region_with (go_at_call 46; refine (HPUT.out _ (by (repeat' (first | with_reducible exact Below.refl _ _ | with_reducible refine below_drewN ?_ _ | with_reducible refine Below.drew ?_ | with_reducible refine Below.setCell ?_ (by first | exact Nat.le_refl _ | (simp; done) | (simp; omega) | omega) _ | with_reducible refine Below.alloc ?_ (by first | exact Nat.le_refl _ | (simp; done) | (simp; omega) | omega) _ | exact Below.refl _ _)))).mono ?_; rintro e w3 ⟨rfl, t', hdone⟩; (have hd2 : PutDone L.b L.kb L.sb L.mb L.t s.seen x (stCells { L with ev := .slice A' (s.ents.length + 1) ca' } { s with ents := s.ents ++ [x] }) 94 wc w3 t' := ⟨hdone.fold, hdone.list, hdone.blk, fun c hc => (hdone.blocks c hc).imp id (fun h => by simp at h; omega), (by (repeat' (first | with_reducible exact Frm.refl _ _ | with_reducible refine Frm.drewN ?_ _ | with_reducible refine Frm.drew ?_ | with_reducible refine Frm.setCell ?_ (by first | exact Or.inl rfl | exact Or.inr (Nat.le_refl _) | (simp; done) | (simp; omega)) _ | with_reducible refine Frm.alloc ?_ _ | exact Frm.refl _ _)) : Frm (fun c => c = L.b ∨ c = L.kb ∨ c ∈ L.t.blocks ∨ c = L.mb) wc _).trans hdone.frm (fun i _ h => h)⟩); (have HD := Lib.hid hd2); clear hdone hd2)
    all_goals
      go_wp2_with fail
      go_ret
      refine ⟨rfl, { L with ev := .slice A' (s.ents.length + 1) ca', t := t' }, ?_⟩
      have hG : Frm (fun c => c = L.b ∨ L.ev.ownBlock = some c ∨ c = L.kb ∨ c ∈ L.t.blocks ∨ c = L.mb) w w3 := by
        refine ((Frm.ofBelow HBEL.out).trans (HFW.out.mono (G := fun c => c = L.b ∨ L.ev.ownBlock = some c ∨ c = L.kb ∨ c ∈ L.t.blocks ∨ c = L.mb) (fun i _ h => ?_)) (fun _ _ h => h)).trans HD.out.frm (fun i _ h => ?_)
        · exact h.elim .inl (fun h => .inr (.inl h))
        · rcases h with h | h | h | h
          · exact .inl h
          · exact .inr (.inr (.inl h))
          · exact .inr (.inr (.inr (.inl h)))
          · exact .inr (.inr (.inr (.inr h)))
      have hkeep : ∀ {k n : Nat} {e : TypeId} {v : Value} {xs : List Value}, w.ownsRow 0 e k v n xs → e ≠ 94 → e ≠ 35 → e ≠ MapT → e ≠ 157 → w3.ownsRow 0 e k v n xs := fun ho n1 n2 n3 n4 => by
        refine own_frm ho hG (fun c hc h => ?_)
        have ha := own_apart ho H.out.fold n3 n4 hc
        rcases h with h | h | h | h | h
        · subst h; exact n1 (own_type ho hc H.out.blk)
        · exact n2 (own_two ho hc H.out.ens h)
        · exact ha.1 h
        · exact ha.2.1 h
        · exact ha.2.2 h
      have hec : wc.ownsRow 0 35 7 (.slice A' (s.ents.length + 1) ca') (s.ents.length + 1) (entsCells s.ents ++ entCells x) := own_frm HO.out HFC.out (fun c hc e => by subst e; exact absurd (own_type HO.out hc HB2.out) (by decide))
      have hee : w3.ownsRow 0 35 7 (.slice A' (s.ents.length + 1) ca') (s.ents.length + 1) (entsCells s.ents ++ entCells x) := by
        refine own_frm hec HD.out.frm (fun c hc h => ?_)
        have ha := own_apart hec HFO.out (by decide) (by decide) hc
        rcases h with h | h | h | h
        · subst h; exact absurd (own_type hec hc HBC.out) (by decide)
        · exact ha.1 h
        · exact ha.2.1 h
        · exact ha.2.2 h
      refine ⟨⟨HD.out.blk, HD.out.fold, ?_, hkeep H.out.tab (by decide) (by decide) (by decide) (by decide), hkeep H.out.prs (by decide) (by decide) (by decide) (by decide), hkeep H.out.sns (by decide) (by decide) (by decide) (by decide), ?_⟩, rfl, ?_, hG.mono ?_⟩
      · show t'.list = ins x.k (entV x) s.keys
        rw [← H.out.keys]; exact HD.out.list
      · show w3.ownsRow 0 _ 7 _ (s.ents ++ [x]).length (entsCells (s.ents ++ [x]))
        rw [List.length_append, show entsCells (s.ents ++ [x]) = entsCells s.ents ++ entCells x by simp [entsCells]]
        exact hee
      · intro c hc
        have hs1 := HBEL.out.size
        have hs2 := HFW.out.size
        rcases hc with hc | hc | hc | hc | hc | hc | hc | hc | hc
        · exact .inl (.inl hc)
        · exact .inl (.inr (.inl hc))
        · rcases HD.out.blocks c hc with h | h
          · exact .inl (.inr (.inr (.inl h)))
          · exact .inr (by omega)
        · exact .inl (.inr (.inr (.inr (.inl hc))))
        · exact .inl (.inr (.inr (.inr (.inr (.inl hc)))))
        · exact .inl (.inr (.inr (.inr (.inr (.inr (.inl hc))))))
        · exact .inl (.inr (.inr (.inr (.inr (.inr (.inr (.inl hc)))))))
        · exact .inl (.inr (.inr (.inr (.inr (.inr (.inr (.inr (.inl hc))))))))
        · rcases HOB.out with h | h
          · refine .inl ?_
            have : L.ev.ownBlock = some c := by rw [← h]; exact hc
            unfold Lay.foot; simp [this]
          · right
            have hc' : (Value.slice A' (s.ents.length + 1) ca').ownBlock = some c := hc
            rw [h] at hc'; injection hc' with hc'; rw [← hc']; simp; omega
      · intro i _ h
        unfold Lay.foot
        rcases h with h | h | h | h | h <;> simp [h]

end Go.Proofs.Ytedcdjlpogpgbaa

/- Layer 15: Apply of an Adopt. -/
set_option linter.unusedVariables false
set_option linter.unusedSimpArgs false
namespace Go.Proofs.Ytedcdjlpogpgbaa
open Go.RowKit

set_option maxRecDepth 100000 in
set_option maxHeartbeats 8000000 in
theorem Apply_adopt_no (L : Lay) (s : St) (x : Ent) (e : Ep) (cfg : Int) (sp : Pos) (A B : Option Addr) (na ca nb cb : Nat) (w : World) (h : StAt w L s) (hok : Ok s) (hr : rightB (s.table ++ [e]) = false) :
    Calls Try.prog 13 #[.pointer (some ⟨L.b, 0, none⟩), .agg (recVal 2 x e cfg sp (.slice A na ca) (.slice B nb cb))] w (ApplyRes L 1 s w) := by
  have H := Lib.hid h
  have hc : ∀ W : World, Below w.heap.size w W → Calls Try.prog 41 #[.pointer (some ⟨L.b, 0, none⟩), .agg (recVal 2 x e cfg sp (.slice A na ca) (.slice B nb cb))] W (IntRes 1 W) := fun W hW => by
    have := Check_adopt L s x e cfg sp A B na ca nb cb W (H.out.below hW) hok
    unfold adoptE at this
    rwa [if_neg (by rw [hr]; simp)] at this
  unfold recVal at *
  have HC := Lib.hid hc
  clear h hok hr hc
  go_enter Try.func13, Try.ntmps13
  go_wp2_with fail
  refine (HC.out _ (by (repeat' (first | with_reducible exact Below.refl _ _ | with_reducible refine below_drewN ?_ _ | with_reducible refine Below.drew ?_ | with_reducible refine Below.setCell ?_ (by first | exact Nat.le_refl _ | (simp; done) | (simp; omega) | omega) _ | with_reducible refine Below.alloc ?_ (by first | exact Nat.le_refl _ | (simp; done) | (simp; omega) | omega) _ | exact Below.refl _ _)))).mono ?_
  rintro e1 w1 ⟨rfl, hb⟩
  have HB := Lib.hid ((by (repeat' (first | with_reducible exact Below.refl _ _ | with_reducible refine below_drewN ?_ _ | with_reducible refine Below.drew ?_ | with_reducible refine Below.setCell ?_ (by first | exact Nat.le_refl _ | (simp; done) | (simp; omega) | omega) _ | with_reducible refine Below.alloc ?_ (by first | exact Nat.le_refl _ | (simp; done) | (simp; omega) | omega) _ | exact Below.refl _ _)) : Below w.heap.size w _).trans (hb.mono (by simp)))
  clear hb
  go_wp2_with fail
  go_ret
  exact ⟨rfl, L, Moved.same H.out HB.out⟩

set_option maxRecDepth 100000 in
set_option maxHeartbeats 8000000 in
theorem Apply_adopt_yes (L : Lay) (s : St) (x : Ent) (e : Ep) (cfg : Int) (sp : Pos) (A B : Option Addr) (na ca nb cb : Nat) (w : World) (h : StAt w L s) (hok : Ok s) (hr : rightB (s.table ++ [e]) = true) :
    Calls Try.prog 13 #[.pointer (some ⟨L.b, 0, none⟩), .agg (recVal 2 x e cfg sp (.slice A na ca) (.slice B nb cb))] w (ApplyRes L 0 (adoptF s e) w) := by
  have H := Lib.hid h
  have hc : ∀ W : World, Below w.heap.size w W → Calls Try.prog 41 #[.pointer (some ⟨L.b, 0, none⟩), .agg (recVal 2 x e cfg sp (.slice A na ca) (.slice B nb cb))] W (IntRes 0 W) := fun W hW => by
    have := Check_adopt L s x e cfg sp A B na ca nb cb W (H.out.below hW) hok
    unfold adoptE at this
    rwa [if_pos hr] at this
  have hxc : 0 ≤ e.c ∧ e.c ≤ 512 := by
    have h2 := ((rightB_iff _).1 hr).2.2.2.2 s.table.length (by simp)
    rw [show ep (s.table ++ [e]) s.table.length = e by simp [ep]] at h2
    exact ⟨h2.2.2.1, h2.2.2.2⟩
  have had : ∀ W : World, Below w.heap.size w W → Calls Try.prog 47 #[.pointer (some ⟨L.b, 0, none⟩), .agg #[.int .i64 e.m, .int .i64 e.c, .bool e.f]] W (MovedRes L (adoptF s e) W) := fun W hW => adopt_any L s e W (H.out.below hW) hok hxc
  have hbox : ∀ W : World, Below (w.alloc (.cells (recVal 2 x e cfg sp (.slice A na ca) (.slice B nb cb)) 42)).heap.size (w.alloc (.cells (recVal 2 x e cfg sp (.slice A na ca) (.slice B nb cb)) 42)) W → Blk W w.heap.size (recVal 2 x e cfg sp (.slice A na ca) (.slice B nb cb)) 42 := fun W hW => Blk.below (Blk.new' rfl rfl) hW
  unfold recVal at *
  have HC := Lib.hid hc
  have HAD := Lib.hid had
  have HBOX := Lib.hid hbox
  clear h hok hr hc had hbox hxc
  go_enter Try.func13, Try.ntmps13
  go_wp2_with fail
  refine (HC.out _ (by (repeat' (first | with_reducible exact Below.refl _ _ | with_reducible refine below_drewN ?_ _ | with_reducible refine Below.drew ?_ | with_reducible refine Below.setCell ?_ (by first | exact Nat.le_refl _ | (simp; done) | (simp; omega) | omega) _ | with_reducible refine Below.alloc ?_ (by first | exact Nat.le_refl _ | (simp; done) | (simp; omega) | omega) _ | exact Below.refl _ _)))).mono ?_
  rintro e1 w1 ⟨rfl, hb⟩
  have hbx := HBOX.out w1 hb
  have HB := Lib.hid ((by (repeat' (first | with_reducible exact Below.refl _ _ | with_reducible refine below_drewN ?_ _ | with_reducible refine Below.drew ?_ | with_reducible refine Below.setCell ?_ (by first | exact Nat.le_refl _ | (simp; done) | (simp; omega) | omega) _ | with_reducible refine Below.alloc ?_ (by first | exact Nat.le_refl _ | (simp; done) | (simp; omega) | omega) _ | exact Below.refl _ _)) : Below w.heap.size w _).trans (hb.mono (by simp)))
  have hxl := hbx.lt
  have k0 : World.cell? w1 ⟨w.heap.size, 0, none⟩ = some (.int .i64 2) := by rw [Blk.cell hbx]; rfl
  have k8 : World.cell? w1 ⟨w.heap.size, 8, none⟩ = some (.int .i64 e.m) := by rw [Blk.cell hbx]; rfl
  have k9 : World.cell? w1 ⟨w.heap.size, 9, none⟩ = some (.int .i64 e.c) := by rw [Blk.cell hbx]; rfl
  have k10 : World.cell? w1 ⟨w.heap.size, 10, none⟩ = some (.bool e.f) := by rw [Blk.cell hbx]; rfl
  clear hb hbx
  go_wp2_with fail
  refine (HAD.out _ (by (repeat' (first | with_reducible exact HB.out | with_reducible exact Below.refl _ _ | with_reducible refine below_drewN ?_ _ | with_reducible refine Below.drew ?_ | with_reducible refine Below.setCell ?_ (by first | exact Nat.le_refl _ | (simp; done) | (simp; omega) | omega) _ | with_reducible refine Below.alloc ?_ (by first | exact Nat.le_refl _ | (simp; done) | (simp; omega) | omega) _ | exact Below.refl _ _ | exact HB.out)))).mono ?_
  rintro e2 w2 ⟨rfl, L', hmv⟩
  have HMV := Lib.hid hmv
  clear hmv
  go_wp2_with fail
  go_ret
  refine ⟨rfl, L', HMV.out.at_, HMV.out.b, fun c hc => ?_, ?_⟩
  · rcases HMV.out.foot c hc with h | h
    · exact .inl h
    · have := HB.out.size; exact .inr (by omega)
  · exact (Frm.ofBelow HB.out).trans HMV.out.frm (fun _ _ h => h)

end Go.Proofs.Ytedcdjlpogpgbaa

/- A state that a law holds by its pointer alone, apart from the law's own blocks F. -/
set_option linter.unusedVariables false
set_option linter.unusedSimpArgs false
namespace Go.Proofs.Ytedcdjlpogpgbaa
open Go.RowKit

def Live (F : Nat → Prop) (w : World) (b : Nat) (s : St) : Prop := ∃ L : Lay, L.b = b ∧ StAt w L s ∧ ∀ c, L.foot c → ¬ F c
theorem Live.below {F : Nat → Prop} {w w' : World} {b : Nat} {s : St} (h : Live F w b s) (f : Below w.heap.size w w') : Live F w' b s := by
  obtain ⟨L, h1, h2, h3⟩ := h; exact ⟨L, h1, h2.below f, h3⟩
theorem Live.mono {F G : Nat → Prop} {w : World} {b : Nat} {s : St} (h : Live F w b s) (k : ∀ c, G c → F c) : Live G w b s := by
  obtain ⟨L, h1, h2, h3⟩ := h; exact ⟨L, h1, h2, fun c hc hg => h3 c hc (k c hg)⟩
/-- A new block of the law's own. -/
theorem Live.box {F : Nat → Prop} {w w' : World} {b : Nat} {s : St} (h : Live F w b s) (f : Below w.heap.size w w') : Live (fun c => F c ∨ c = w.heap.size) w' b s := by
  obtain ⟨L, h1, h2, h3⟩ := h
  refine ⟨L, h1, h2.below f, fun c hc hg => ?_⟩
  rcases hg with hg | hg
  · exact h3 c hc hg
  · have := h2.lt c hc; omega
theorem Live.lt {F : Nat → Prop} {w : World} {b : Nat} {s : St} (h : Live F w b s) : b < w.heap.size := by
  obtain ⟨L, h1, h2, h3⟩ := h; rw [← h1]; exact h2.lt _ (.inl rfl)
theorem Live.frm {F G : Nat → Prop} {w w' : World} {b : Nat} {s : St} (h : Live F w b s) (f : Frm G w w') (k : ∀ c, G c → F c) : Live F w' b s := by
  obtain ⟨L, h1, h2, h3⟩ := h
  exact ⟨L, h1, h2.frm f (fun c hc hg => h3 c hc (k c hg)), h3⟩
theorem Frm.belowB {B : Nat} {w w' : World} (h : Frm (fun c => ¬ c < B) w w') (hB : B ≤ w.heap.size) : Below B w w' := ⟨h.os, h.tape, h.output, h.size, fun k hk => h.block k (by omega) (fun hn => hn hk)⟩
theorem Frm.belowF {B : Nat} {F : Nat → Prop} {w w' : World} (h : Frm (fun c => ¬ F c) w w') (hF : ∀ c, c < B → F c) (hB : B ≤ w.heap.size) : Below B w w' := ⟨h.os, h.tape, h.output, h.size, fun k hk => h.block k (by omega) (fun hn => hn (hF k hk))⟩
def LiveRes (F : Nat → Prop) (b : Nat) (n : Int) (s' : St) (w : World) (e : Ending) (w' : World) : Prop := e = .returned (.int .i64 n) ∧ Live F w' b s' ∧ Frm (fun c => ¬ F c) w w'
theorem Moved.live {F : Nat → Prop} {w w' : World} {L L' : Lay} {s' : St} (h : Moved w w' L L' s') (hL : ∀ c, L.foot c → ¬ F c) (hF : ∀ c, F c → c < w.heap.size) : Live F w' L.b s' ∧ Frm (fun c => ¬ F c) w w' := by
  refine ⟨⟨L', h.b, h.at_, fun c hc hf => ?_⟩, h.frm.mono fun i _ hi => hL i hi⟩
  rcases h.foot c hc with k | k
  · exact hL c k hf
  · have := hF c hf; omega

theorem write_live {F : Nat → Prop} {b : Nat} {s : St} (x : Ent) (e : Ep) (cfg : Int) (sp : Pos) (A B : Option Addr) (na ca nb cb : Nat) (w : World) (h : Live F w b s) (hF : ∀ c, F c → c < w.heap.size) (hok : Ok s) (hx : Small x) (hyes : checkW s x = 0) (hen : s.ents.length ≤ 1000) :
    Calls Try.prog 13 #[.pointer (some ⟨b, 0, none⟩), .agg (recVal 1 x e cfg sp (.slice A na ca) (.slice B nb cb))] w (LiveRes F b 0 (wroteF s x) w) := by
  obtain ⟨L, rfl, h2, h3⟩ := h
  refine (Apply_write_yes L s x e cfg sp A B na ca nb cb w h2 hok hx hyes hen).mono fun e w' hr => ?_
  obtain ⟨hr, L', hm⟩ := hr
  exact ⟨hr, hm.live h3 hF⟩
theorem write_live_no {F : Nat → Prop} {b : Nat} {s : St} (x : Ent) (e : Ep) (cfg : Int) (sp : Pos) (A B : Option Addr) (na ca nb cb : Nat) (w : World) (n : Int) (h : Live F w b s) (hF : ∀ c, F c → c < w.heap.size) (hok : Ok s) (hx : Small x) (hn : checkW s x = n) (hno : n ≠ 0) :
    Calls Try.prog 13 #[.pointer (some ⟨b, 0, none⟩), .agg (recVal 1 x e cfg sp (.slice A na ca) (.slice B nb cb))] w (LiveRes F b n s w) := by
  obtain ⟨L, rfl, h2, h3⟩ := h
  subst hn
  refine (Apply_write_no L s x e cfg sp A B na ca nb cb w h2 hok hx hno).mono fun e w' hr => ?_
  obtain ⟨hr, L', hm⟩ := hr
  exact ⟨hr, hm.live h3 hF⟩
theorem adopt_live {F : Nat → Prop} {b : Nat} {s : St} (x : Ent) (e : Ep) (cfg : Int) (sp : Pos) (A B : Option Addr) (na ca nb cb : Nat) (w : World) (h : Live F w b s) (hF : ∀ c, F c → c < w.heap.size) (hok : Ok s) (hr : rightB (s.table ++ [e]) = true) :
    Calls Try.prog 13 #[.pointer (some ⟨b, 0, none⟩), .agg (recVal 2 x e cfg sp (.slice A na ca) (.slice B nb cb))] w (LiveRes F b 0 (adoptF s e) w) := by
  obtain ⟨L, rfl, h2, h3⟩ := h
  refine (Apply_adopt_yes L s x e cfg sp A B na ca nb cb w h2 hok hr).mono fun e w' hr => ?_
  obtain ⟨hr, L', hm⟩ := hr
  exact ⟨hr, hm.live h3 hF⟩
theorem last_live {F : Nat → Prop} {b : Nat} {s : St} {w : World} (h : Live F w b s) : Calls Try.prog 15 #[.pointer (some ⟨b, 0, none⟩)] w fun e w' => e = .returned (.agg (posCells s.pos)) ∧ Below w.heap.size w w' := by
  obtain ⟨L, rfl, h2, h3⟩ := h; exact Last_any L s w h2
theorem config_live {F : Nat → Prop} {b : Nat} {s : St} {w : World} (h : Live F w b s) : Calls Try.prog 17 #[.pointer (some ⟨b, 0, none⟩)] w fun e w' => e = .returned (.int .i64 s.table.length) ∧ Below w.heap.size w w' := by
  obtain ⟨L, rfl, h2, h3⟩ := h; exact Config_any L s w h2
theorem get_live {F : Nat → Prop} {b : Nat} {s : St} {w : World} (key : ByteArray) (h : Live F w b s) : Calls Try.prog 18 #[.pointer (some ⟨b, 0, none⟩), .string key] w fun e w' => e = .returned (.agg (valCells ((getL key s.keys).getD zeroVal))) ∧ Below w.heap.size w w' := by
  obtain ⟨L, rfl, h2, h3⟩ := h; exact Get_state L s key w h2
theorem master_live {F : Nat → Prop} {b : Nat} {s : St} {w : World} (h : Live F w b s) (hn : 0 < s.table.length) (hm : s.table.length ≤ 1000) : Calls Try.prog 16 #[.pointer (some ⟨b, 0, none⟩)] w fun e w' => e = .returned (.int .i64 (ep s.table (s.table.length - 1)).m) ∧ Below w.heap.size w w' := by
  obtain ⟨L, rfl, h2, h3⟩ := h; exact Master_any L s w h2 hn hm
theorem new_live (v : Value) (t : List Ep) (w : World) (ht : SlAt w v t.length (epsCells t)) (hr : rightB t = true) :
    Calls Try.prog 12 #[v] w fun e w' => ∃ b, e = .returned (.tuple #[.pointer (some ⟨b, 0, none⟩), .int .i64 0]) ∧ Live (fun c => c < w.heap.size) w' b (logSt [] t) ∧ Below w.heap.size w w' := by
  refine (New_yes v t w ht hr).mono fun e w' hr => ?_
  obtain ⟨L, h1, h2, h3, h4⟩ := hr
  exact ⟨L.b, h1, ⟨L, rfl, h2, fun c hc hl => by have := h3 c hc; omega⟩, h4⟩
theorem wrote_log (E : List Ent) (t : List Ep) (x : Ent) : wroteF (logSt E t) x = logSt (E ++ [x]) t := logSt_snoc E t x

end Go.Proofs.Ytedcdjlpogpgbaa

/- Layer 15's awake: the document's example. -/
set_option linter.unusedVariables false
set_option linter.unusedSimpArgs false
namespace Go.Proofs.Ytedcdjlpogpgbaa
open Go.RowKit

attribute [local go_sem] neq_pos eql_pos fld_text fld_there fld_index
def aE : Ent := ⟨⟨1, 1⟩, 1, 1, ⟨#[97]⟩, false, ⟨#[120]⟩⟩
def bE : Ent := ⟨⟨1, 2⟩, 1, 2, ⟨#[98]⟩, false, ⟨#[121]⟩⟩
def s0 : St := logSt [] oneT
def s1 : St := logSt [aE] oneT
def s2 : St := logSt [aE, bE] oneT
def s3 : St := logSt [aE] (twoT 1 false)
theorem ab_ok (E : List Ent) (t : List Ep) (hp : (posOf E).i = E.length) (hl : E.length ≤ 2) (ht : rightB t = true) : Ok (logSt E t) := logOk hp (by omega) ht
theorem a_check : checkW (logSt [] oneT) aE = 0 := checkW_ok rfl rfl (by decide) (atB_one (by decide) (by decide)) rfl rfl rfl (by decide) (by decide) (by decide) rfl
theorem b_check : checkW (logSt [aE] oneT) bE = 0 := checkW_ok rfl rfl (by decide) (atB_one (by decide) (by decide)) rfl rfl rfl (by decide) (by decide) (by decide) (by decide)
theorem ab_adopt : adoptF (logSt [aE, bE] oneT) ⟨2, 1, false⟩ = logSt [aE] (twoT 1 false) := by
  rw [adopt_log _ _ _ (by decide), if_neg (by decide)]; rfl

set_option maxRecDepth 100000 in
set_option maxHeartbeats 8000000 in
theorem awake_any (w : World) : Calls Try.prog 11 #[] w fun e w' => e = .returned (.bool true) ∧ Below w.heap.size w w' := by
  have hw1 : ∀ (F : Nat → Prop) (b : Nat) (W : World), Live F W b (s0) → (∀ c, F c → c < W.heap.size) → Calls Try.prog 13 #[.pointer (some ⟨b, 0, none⟩), .agg (recVal 1 aE ⟨0, 0, false⟩ 0 zeroPos (.slice none 0 0) (.slice none 0 0))] W (LiveRes F b 0 (s1) W) :=
    fun F b W h hF => write_live aE _ _ _ _ _ _ _ _ _ W h hF (ab_ok [] _ rfl (by decide) oneT_right) ⟨by decide, by decide⟩ a_check (by decide)
  have hw2 : ∀ (F : Nat → Prop) (b : Nat) (W : World), Live F W b (s1) → (∀ c, F c → c < W.heap.size) → Calls Try.prog 13 #[.pointer (some ⟨b, 0, none⟩), .agg (recVal 1 bE ⟨0, 0, false⟩ 0 zeroPos (.slice none 0 0) (.slice none 0 0))] W (LiveRes F b 0 (s2) W) :=
    fun F b W h hF => write_live bE _ _ _ _ _ _ _ _ _ W h hF (ab_ok [aE] _ rfl (by decide) oneT_right) ⟨by decide, by decide⟩ b_check (by decide)
  have hw3 : ∀ (F : Nat → Prop) (b : Nat) (W : World), Live F W b (s2) → (∀ c, F c → c < W.heap.size) → Calls Try.prog 13 #[.pointer (some ⟨b, 0, none⟩), .agg (recVal 2 ⟨⟨0, 0⟩, 0, 0, ⟨#[]⟩, false, ⟨#[]⟩⟩ ⟨2, 1, false⟩ 0 zeroPos (.slice none 0 0) (.slice none 0 0))] W (LiveRes F b 0 (s3) W) :=
    fun F b W h hF => (show adoptF s2 ⟨2, 1, false⟩ = s3 from ab_adopt) ▸ adopt_live _ _ _ _ _ _ _ _ _ _ W h hF (ab_ok [aE, bE] _ rfl (by decide) oneT_right) (twoT_right false (by decide) (by decide))
  unfold recVal at hw1 hw2 hw3
  simp only [aE, bE, zeroPos] at hw1 hw2 hw3
  go_enter Try.func11, Try.ntmps11
  go_wp2_with fail
  refine (one_any _).mono ?_
  rintro e w1 ⟨v, rfl, hv, hb1⟩
  go_wp2_with fail
  refine (new_live v oneT w1 hv oneT_right).mono ?_
  rintro e w2 ⟨b, rfl, hl, hb2⟩
  have hB2 := hb1.trans (hb2.mono hb1.size)
  have hs2 := hB2.size
  have HL : Hid (Live (fun c => c < w.heap.size) w2 b s0) := Lib.hid (hl.mono (G := fun c => c < w.heap.size) (fun c hc => Nat.lt_of_lt_of_le hc hb1.size))
  have HB := Lib.hid hB2
  have HW1 := Lib.hid hw1
  have HW2 := Lib.hid hw2
  have HW3 := Lib.hid hw3
  clear hv hb1 hb2 hB2 hl hw1 hw2 hw3
  go_wp2_with fail
  refine (HW1.out _ b _ HL.out (fun c hc => Nat.lt_of_lt_of_le hc hs2)).mono ?_
  rintro e w3 ⟨rfl, hl3, hf3⟩
  have hb3 := HB.out.trans (hf3.belowB hs2)
  have hs3 := hb3.size
  have HL3 := Lib.hid hl3
  have HB3 := Lib.hid hb3
  clear HL HB HW1 hl3 hf3 hb3
  go_wp2_with fail
  refine (HW2.out _ b _ HL3.out (fun c hc => Nat.lt_of_lt_of_le hc hs3)).mono ?_
  rintro e w4 ⟨rfl, hl4, hf4⟩
  have hb4 := HB3.out.trans (hf4.belowB hs3)
  have hs4 := hb4.size
  have HL4 := Lib.hid hl4
  have HB4 := Lib.hid hb4
  clear HL3 HB3 HW2 hl4 hf4 hb4
  go_wp2_with fail
  refine (HW3.out _ b _ HL4.out (fun c hc => Nat.lt_of_lt_of_le hc hs4)).mono ?_
  rintro e w5 ⟨rfl, hl5, hf5⟩
  have hb5 := HB4.out.trans (hf5.belowB hs4)
  have hs5 := hb5.size
  have HL5 := Lib.hid hl5
  have HB5 := Lib.hid hb5
  clear HL4 HB4 HW3 hl5 hf5 hb5
  go_wp2_with fail
  refine (last_live HL5.out).mono ?_
  rintro e w6 ⟨rfl, hb6⟩
  rw [show posCells (s3).pos = #[.int .i64 1, .int .i64 1] from rfl]
  have HL6 := Lib.hid (HL5.out.below hb6)
  have HB6 := Lib.hid (HB5.out.trans (hb6.mono hs5))
  have hs6 := HB6.out.size
  have hp : posEq 1 1 1 1 = true := rfl
  clear hb6 HL5 HB5
  go_wp2_with fail
  refine (get_live _ HL6.out).mono ?_
  rintro e w7 ⟨rfl, hb7⟩
  rw [show valCells ((getL ⟨#[97]⟩ (s3).keys).getD zeroVal) = #[.int .i64 1, .int .i64 1, .bool true, .string ⟨#[120]⟩] from by rw [show (s3).keys = ins ⟨#[97]⟩ (entV aE) [] from rfl, getL_ins_same]; rfl]
  have HL7 := Lib.hid (HL6.out.below hb7)
  have HB7 := Lib.hid (HB6.out.trans (hb7.mono hs6))
  have hs7 := HB7.out.size
  clear hb7 HL6 HB6 hp
  go_wp2_with fail
  refine (get_live _ HL7.out).mono ?_
  rintro e w8 ⟨rfl, hb8⟩
  rw [show valCells ((getL ⟨#[98]⟩ (s3).keys).getD zeroVal) = #[.int .i64 0, .int .i64 0, .bool false, .string ⟨#[]⟩] from by rw [show (s3).keys = ins ⟨#[97]⟩ (entV aE) [] from rfl, getL_ins_other (by decide)]; rfl]
  have HL8 := Lib.hid (HL7.out.below hb8)
  have HB8 := Lib.hid (HB7.out.trans (hb8.mono hs7))
  have hs8 := HB8.out.size
  clear hb8 HL7 HB7
  go_wp2_with fail
  refine (config_live HL8.out).mono ?_
  rintro e w9 ⟨rfl, hb9⟩
  rw [show (((s3).table.length : Nat) : Int) = 2 from rfl]
  have HL9 := Lib.hid (HL8.out.below hb9)
  have HB9 := Lib.hid (HB8.out.trans (hb9.mono hs8))
  have hs9 := HB9.out.size
  clear hb9 HL8 HB8
  go_wp2_with fail
  refine (master_live HL9.out (by decide) (by decide)).mono ?_
  rintro e w10 ⟨rfl, hb10⟩
  rw [show (ep (s3).table ((s3).table.length - 1)).m = 2 from rfl]
  have HB10 := Lib.hid (HB9.out.trans (hb10.mono hs9))
  clear hb10 HL9 HB9
  go_wp2_with fail
  go_ret
  exact ⟨rfl, HB10.out⟩

end Go.Proofs.Ytedcdjlpogpgbaa
