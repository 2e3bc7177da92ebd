/- Layer 15: Check and Apply of a Write and of an Adopt. -/
import Derived.Test.YtedcdjlpogpgbaaCheckW
import Derived.Test.YtedcdjlpogpgbaaAdopt
set_option linter.unusedVariables false
set_option linter.unusedSimpArgs false
namespace Go.Proofs.Ytedcdjlpogpgbaa
open Go.RowKit

def Small (x : Ent) : Prop := -1000000000000 ≤ x.pos.i ∧ x.pos.i ≤ 1000000000000

set_option maxRecDepth 100000 in
set_option maxHeartbeats 8000000 in
theorem Check_write (L : Lay) (s : St) (x : Ent) (e : Ep) (cfg : Int) (sp : Pos) (A B : Option Addr) (na ca nb cb : Nat) (w : World) (h : StAt w L s) (hok : Ok s) (hx : Small x) :
    Calls Try.prog 41 #[.pointer (some ⟨L.b, 0, none⟩), .agg (recVal 1 x e cfg sp (.slice A na ca) (.slice B nb cb))] w (IntRes (checkW s x) w) := by
  have H := Lib.hid h
  have HOK := Lib.hid hok
  have HX := Lib.hid hx
  clear h hok hx
  have hcw : ∀ W : World, Below w.heap.size w W → Calls Try.prog 60 #[.pointer (some ⟨L.b, 0, none⟩), .agg #[.int .i64 x.pos.e, .int .i64 x.pos.i, .int .i64 x.s, .int .i64 x.r, .string x.k, .bool x.d, .string x.t]] W (IntRes (checkW s x) W) :=
    fun W hW => checkWrite_any L s x W (H.out.below hW) (by have := HOK.out.at_; have := HOK.out.low; have := HOK.out.high; omega) HX.out
  have HCW := Lib.hid hcw
  clear hcw
  unfold recVal
  go_enter Try.func41, Try.ntmps41
  go_wp2_with fail
  refine (HCW.out _ (by (repeat' (first | with_reducible exact Below.refl _ _ | with_reducible refine below_drewN ?_ _ | with_reducible refine Below.drew ?_ | with_reducible refine Below.setCell ?_ (by first | exact Nat.le_refl _ | (simp; done) | (simp; omega) | omega) _ | with_reducible refine Below.alloc ?_ (by first | exact Nat.le_refl _ | (simp; done) | (simp; omega) | omega) _ | exact Below.refl _ _)))).mono ?_
  rintro e1 w1 ⟨rfl, hb⟩
  have HB := Lib.hid ((by (repeat' (first | with_reducible exact Below.refl _ _ | with_reducible refine below_drewN ?_ _ | with_reducible refine Below.drew ?_ | with_reducible refine Below.setCell ?_ (by first | exact Nat.le_refl _ | (simp; done) | (simp; omega) | omega) _ | with_reducible refine Below.alloc ?_ (by first | exact Nat.le_refl _ | (simp; done) | (simp; omega) | omega) _ | exact Below.refl _ _)) : Below w.heap.size w _).trans (hb.mono (by simp)))
  clear hb
  go_wp2_with fail
  go_ret
  exact ⟨rfl, HB.out⟩

theorem own_apart {w : World} {k n kb sb mb c : Nat} {e : TypeId} {v : Value} {xs : List Value} {t : T} {l : List Sn} (h : w.ownsRow 0 e k v n xs) (f : FoldAt w kb sb mb t l) (h1 : e ≠ MapT) (h2 : e ≠ 157) (hc : v.ownBlock = some c) : c ≠ kb ∧ c ∉ t.blocks ∧ c ≠ mb := by
  obtain ⟨nk, hkb⟩ := f.keys.blk
  refine ⟨fun e => by subst e; exact h1 (own_type h hc hkb), fun hm => ?_, fun e => by subst e; exact own_map h hc f.seen.map⟩
  obtain ⟨cs, hcb⟩ := T.At.blk f.keys.tree hm
  exact h2 (own_type h hc hcb)
def wroteF (s : St) (x : Ent) : St := St.put { s with ents := s.ents ++ [x] } x
def ApplyRes (L : Lay) (n : Int) (s' : St) (w : World) (e : Ending) (w' : World) : Prop := e = .returned (.int .i64 n) ∧ ∃ L', Moved w w' L L' s'
theorem Moved.same {w w' : World} {L : Lay} {s : St} (h : StAt w L s) (f : Below w.heap.size w w') : Moved w w' L L s := ⟨h.below f, rfl, fun _ h => .inl h, Frm.ofBelow f⟩
theorem ent_info : (Try.prog.info? 35).map (fun i => (i.zero, i.size, i.bytes)) = some (some (.agg #[.int .i64 0, .int .i64 0, .int .i64 0, .int .i64 0, .string ⟨#[]⟩, .bool false, .string ⟨#[]⟩]), 7, 72) := by kernel_rfl

set_option maxRecDepth 100000 in
set_option maxHeartbeats 8000000 in
theorem Apply_write_no (L : Lay) (s : St) (x : Ent) (e : Ep) (cfg : Int) (sp : Pos) (A B : Option Addr) (na ca nb cb : Nat) (w : World) (h : StAt w L s) (hok : Ok s) (hx : Small x) (hno : checkW s x ≠ 0) :
    Calls Try.prog 13 #[.pointer (some ⟨L.b, 0, none⟩), .agg (recVal 1 x e cfg sp (.slice A na ca) (.slice B nb cb))] w (ApplyRes L (checkW s x) s w) := by
  have H := Lib.hid h
  have d1 : (checkW s x != 0) = true := by simpa using hno
  have hc : ∀ W : World, Below w.heap.size w W → Calls Try.prog 41 #[.pointer (some ⟨L.b, 0, none⟩), .agg (recVal 1 x e cfg sp (.slice A na ca) (.slice B nb cb))] W (IntRes (checkW s x) W) := fun W hW => Check_write L s x e cfg sp A B na ca nb cb W (H.out.below hW) hok hx
  unfold recVal at *
  have HC := Lib.hid hc
  clear h hok hx hno hc
  go_enter Try.func13, Try.ntmps13
  go_wp2_with fail
  refine (HC.out _ (by (repeat' (first | with_reducible exact Below.refl _ _ | with_reducible refine below_drewN ?_ _ | with_reducible refine Below.drew ?_ | with_reducible refine Below.setCell ?_ (by first | exact Nat.le_refl _ | (simp; done) | (simp; omega) | omega) _ | with_reducible refine Below.alloc ?_ (by first | exact Nat.le_refl _ | (simp; done) | (simp; omega) | omega) _ | exact Below.refl _ _)))).mono ?_
  rintro e1 w1 ⟨rfl, hb⟩
  have HB := Lib.hid ((by (repeat' (first | with_reducible exact Below.refl _ _ | with_reducible refine below_drewN ?_ _ | with_reducible refine Below.drew ?_ | with_reducible refine Below.setCell ?_ (by first | exact Nat.le_refl _ | (simp; done) | (simp; omega) | omega) _ | with_reducible refine Below.alloc ?_ (by first | exact Nat.le_refl _ | (simp; done) | (simp; omega) | omega) _ | exact Below.refl _ _)) : Below w.heap.size w _).trans (hb.mono (by simp)))
  clear hb
  go_wp2_with fail
  go_ret
  exact ⟨rfl, L, Moved.same H.out HB.out⟩

set_option maxRecDepth 100000 in
set_option maxHeartbeats 8000000 in
theorem Apply_write_yes (L : Lay) (s : St) (x : Ent) (e : Ep) (cfg : Int) (sp : Pos) (A B : Option Addr) (na ca nb cb : Nat) (w : World) (h : StAt w L s) (hok : Ok s) (hx : Small x) (hyes : checkW s x = 0) (hen : s.ents.length ≤ 1000) :
    Calls Try.prog 13 #[.pointer (some ⟨L.b, 0, none⟩), .agg (recVal 1 x e cfg sp (.slice A na ca) (.slice B nb cb))] w (ApplyRes L 0 (wroteF s x) w) := by
  have H := Lib.hid h
  have hc : ∀ W : World, Below w.heap.size w W → Calls Try.prog 41 #[.pointer (some ⟨L.b, 0, none⟩), .agg (recVal 1 x e cfg sp (.slice A na ca) (.slice B nb cb))] W (IntRes 0 W) := fun W hW => hyes ▸ Check_write L s x e cfg sp A B na ca nb cb W (H.out.below hW) hok hx
  have hbox : ∀ W : World, Below (w.alloc (.cells (recVal 1 x e cfg sp (.slice A na ca) (.slice B nb cb)) 42)).heap.size (w.alloc (.cells (recVal 1 x e cfg sp (.slice A na ca) (.slice B nb cb)) 42)) W → Blk W w.heap.size (recVal 1 x e cfg sp (.slice A na ca) (.slice B nb cb)) 42 := fun W hW => Blk.below (Blk.new' rfl rfl) hW
  unfold recVal at *
  have HC := Lib.hid hc
  have HBOX := Lib.hid hbox
  have hbl := h.blk.lt
  clear h hok hx hyes hc hbox
  go_enter Try.func13, Try.ntmps13
  go_wp2_with fail
  refine (HC.out _ (by (repeat' (first | with_reducible exact Below.refl _ _ | with_reducible refine below_drewN ?_ _ | with_reducible refine Below.drew ?_ | with_reducible refine Below.setCell ?_ (by first | exact Nat.le_refl _ | (simp; done) | (simp; omega) | omega) _ | with_reducible refine Below.alloc ?_ (by first | exact Nat.le_refl _ | (simp; done) | (simp; omega) | omega) _ | exact Below.refl _ _)))).mono ?_
  rintro e1 w1 ⟨rfl, hb⟩
  have hbx := HBOX.out w1 hb
  have hbel : Below w.heap.size w w1 := (by (repeat' (first | with_reducible exact Below.refl _ _ | with_reducible refine below_drewN ?_ _ | with_reducible refine Below.drew ?_ | with_reducible refine Below.setCell ?_ (by first | exact Nat.le_refl _ | (simp; done) | (simp; omega) | omega) _ | with_reducible refine Below.alloc ?_ (by first | exact Nat.le_refl _ | (simp; done) | (simp; omega) | omega) _ | exact Below.refl _ _)) : Below w.heap.size w _).trans (hb.mono (by simp))
  have hst := H.out.below hbel
  have hbl1 := hst.blk.lt
  have hxl1 := hbx.lt
  have k0 : World.cell? w1 ⟨w.heap.size, 0, none⟩ = some (.int .i64 1) := by rw [Blk.cell hbx]; rfl
  have k1 : World.cell? w1 ⟨w.heap.size, 1, none⟩ = some (.int .i64 x.pos.e) := by rw [Blk.cell hbx]; rfl
  have k2 : World.cell? w1 ⟨w.heap.size, 2, none⟩ = some (.int .i64 x.pos.i) := by rw [Blk.cell hbx]; rfl
  have k3 : World.cell? w1 ⟨w.heap.size, 3, none⟩ = some (.int .i64 x.s) := by rw [Blk.cell hbx]; rfl
  have k4 : World.cell? w1 ⟨w.heap.size, 4, none⟩ = some (.int .i64 x.r) := by rw [Blk.cell hbx]; rfl
  have k5 : World.cell? w1 ⟨w.heap.size, 5, none⟩ = some (.string x.k) := by rw [Blk.cell hbx]; rfl
  have k6 : World.cell? w1 ⟨w.heap.size, 6, none⟩ = some (.bool x.d) := by rw [Blk.cell hbx]; rfl
  have k7 : World.cell? w1 ⟨w.heap.size, 7, none⟩ = some (.string x.t) := by rw [Blk.cell hbx]; rfl
  have c9 : w1.cell? ⟨L.b, 9, none⟩ = some L.ev := by rw [hst.blk.cell]; rfl
  have fr : ∀ i, w1.frozen? ⟨L.b, i, none⟩ = false := hst.blk.free
  -- the append
  have hW : Frm (fun _ => False) w1 ((w1.alloc (.cells (entVal x) 35)).drew) := by (repeat' (first | with_reducible exact Frm.refl _ _ | with_reducible refine Frm.drewN ?_ _ | with_reducible refine Frm.drew ?_ | with_reducible refine Frm.setCell ?_ (by first | exact Or.inl rfl | exact Or.inr (Nat.le_refl _) | (simp; done) | (simp; omega)) _ | with_reducible refine Frm.alloc ?_ _ | exact Frm.refl _ _))
  obtain ⟨v', w2, happ, hown, hgr, hob⟩ := run_append_sl (P := Try.prog) (w := (w1.alloc (.cells (entVal x) 35)).drew) 58 58 35 7 72 _ Try.underlying58 ent_info rfl (by omega) L.ev s.ents.length (entsCells s.ents) (own_frm hst.ens hW (fun _ _ h => h))
    (.slice (some ⟨w1.heap.size, 0, none⟩) 1 1) 1 (entCells x) (sl_one (cs := entVal x) (T := 35) (by ((repeat' (first | with_reducible exact Blk.new _ _ _ | with_reducible apply Blk.drewN | with_reducible apply Blk.drew | with_reducible apply Blk.set' | (with_reducible apply Blk.set_other (hp := by first | assumption | (simp; done) | (simp; omega) | omega)) | (with_reducible apply Blk.new'; focus (first | (simp; done) | (simp; omega))) | with_reducible apply Blk.alloc)) <;> rfl))) rfl (by simpa [entsCells] using entsCells_one [x]) (by omega) (by unfold maxLen; omega)
  obtain ⟨A', ca', hv', _⟩ := own_sl hown
  subst hv'
  unfold entVal at happ
  have hF2 := Frm.ofGrown hgr
  have hevb : ∀ c, L.ev.ownBlock = some c → c ≠ L.b := fun c hc e => by subst e; exact absurd (own_type hst.ens hc hst.blk) (by decide)
  have hevx : ∀ c, L.ev.ownBlock = some c → c ≠ w.heap.size := fun c hc e => by subst e; exact absurd (own_type hst.ens hc hbx) (by decide)
  have F12 : Frm (fun c => L.ev.ownBlock = some c) w1 w2 := (hW.mono (fun _ _ h => h.elim)).trans hF2 (fun _ _ h => h)
  have hb2 : Blk w2 L.b (stCells L s) 94 := hst.blk.frm F12 (fun hc => hevb _ hc rfl)
  have hbx2 := hbx.frm F12 (fun hc => hevx _ hc rfl)
  have hbl2 := hb2.lt
  have d9 : World.cell? w2 ⟨L.b, 9, none⟩ = some (L.ev) := by rw [Blk.cell hb2]; rfl
  have fr2 : ∀ i, w2.frozen? ⟨L.b, i, none⟩ = false := hb2.free
  have HO := Lib.hid hown
  have HF12 := Lib.hid F12
  have HB2 := Lib.hid hb2
  have HBX2 := Lib.hid hbx2
  have HST := Lib.hid hst
  have HBEL := Lib.hid hbel
  have HOB := Lib.hid hob
  clear hW hown hgr hF2 hevb hevx F12 hb2 hbx2 hst hbel hob hbx hb
  go_upto_region 10 with (fail)
  go_cut [] (fun wx => wx.heap = (w2.setCell ⟨L.b, 9, none⟩ (.slice A' (s.ents.length + 1) ca')).heap ∧ wx.os = w2.os ∧ wx.output = w2.output ∧ wx.tape = w2.tape)
  case first =>
    go_region_law (first | (refine step_append_run rfl _ _ _ _ rfl rfl (by rfl) (by rfl) happ ?_))
    all_goals
      go_wp2_with fail
      go_meet
      exact ⟨rfl, rfl, rfl, rfl⟩
  case rest =>
    obtain ⟨q1, q2, q3, q4⟩ := hcut
    have bc : Blk wc L.b (stCells { L with ev := .slice A' (s.ents.length + 1) ca' } { s with ents := s.ents ++ [x] }) 94 := by
      have := HB2.out.set 9 (.slice A' (s.ents.length + 1) ca')
      unfold Blk at this ⊢
      rw [q1, this]; rfl
    have fc : Frm (fun c => c = L.b) w2 wc := by
      have f0 := (Frm.refl (fun c => c = L.b) w2).setCell (p := ⟨L.b, 9, none⟩) (.inl rfl) (.slice A' (s.ents.length + 1) ca')
      exact f0.alike ⟨q1, q2, q3⟩ q4
    clear q1 q2 q3 q4
    have bx := HBX2.out.frm fc (by omega)
    have fw : Frm (fun c => c = L.b ∨ L.ev.ownBlock = some c) w1 wc := (HF12.out.mono (fun _ _ h => .inr h)).trans fc (fun _ _ h => .inl h)
    have hfold : FoldAt wc L.kb L.sb L.mb L.t s.seen := by
      have HS := HST.out
      obtain ⟨nk, hkb⟩ := HS.fold.keys.blk
      refine HS.fold.frm fw ?_ ?_ ?_ ?_
      · exact fun h => h.elim (hkb.ne HS.blk (by decide)) (fun h => absurd (own_type HS.ens h hkb) (by decide))
      · intro c hc h
        obtain ⟨cs, hcb⟩ := T.At.blk HS.fold.keys.tree hc
        exact h.elim (fun e => by subst e; exact absurd (hcb.type HS.blk) (by decide)) (fun h => absurd (own_type HS.ens h hcb) (by decide))
      · exact fun h => h.elim (HS.fold.seen.blk.ne HS.blk (by decide)) (fun h => absurd (own_type HS.ens h HS.fold.seen.blk) (by decide))
      · exact fun h => h.elim (fun e => HS.blk.neMap HS.fold.seen.map e.symm) (fun h => own_map HS.ens h HS.fold.seen.map)
    clear k0 k1 k2 k3 k4 k5 k6 k7 c9 fr d9 fr2
    have k1 : World.cell? wc ⟨w.heap.size, 1, none⟩ = some (.int .i64 x.pos.e) := by rw [Blk.cell bx]; rfl
    have k2 : World.cell? wc ⟨w.heap.size, 2, none⟩ = some (.int .i64 x.pos.i) := by rw [Blk.cell bx]; rfl
    have k3 : World.cell? wc ⟨w.heap.size, 3, none⟩ = some (.int .i64 x.s) := by rw [Blk.cell bx]; rfl
    have k4 : World.cell? wc ⟨w.heap.size, 4, none⟩ = some (.int .i64 x.r) := by rw [Blk.cell bx]; rfl
    have k5 : World.cell? wc ⟨w.heap.size, 5, none⟩ = some (.string x.k) := by rw [Blk.cell bx]; rfl
    have k6 : World.cell? wc ⟨w.heap.size, 6, none⟩ = some (.bool x.d) := by rw [Blk.cell bx]; rfl
    have k7 : World.cell? wc ⟨w.heap.size, 7, none⟩ = some (.string x.t) := by rw [Blk.cell bx]; rfl
    have hblc := bc.lt
    have hxlc := bx.lt
    have hput : ∀ W : World, Below wc.heap.size wc W → Calls Try.prog 46 #[.pointer (some ⟨L.b, 0, none⟩), .agg #[.int .i64 x.pos.e, .int .i64 x.pos.i, .int .i64 x.s, .int .i64 x.r, .string x.k, .bool x.d, .string x.t]] W (PutRes L.b L.kb L.sb L.mb L.t s.seen x (stCells { L with ev := .slice A' (s.ents.length + 1) ca' } { s with ents := s.ents ++ [x] }) 94 W) := by
      intro W hW
      have hf := hfold.frm (F := fun _ => False) (Frm.ofBelow hW) (fun h => h) (fun _ _ h => h) (fun h => h) (fun h => h)
      obtain ⟨nk, hkb⟩ := hf.keys.blk
      have hbW := bc.below hW
      exact put_any L.b L.kb L.sb L.mb L.t _ x _ _ W hbW rfl rfl (by simp [stCells]) hf (hbW.ne hkb (by decide)) (hbW.notTree hf.keys.tree (by decide)) (hbW.ne hf.seen.blk (by decide)) (hbW.neMap hf.seen.map)
    have HPUT := Lib.hid hput
    have HBC := Lib.hid bc
    have HFC := Lib.hid fc
    have HFW := Lib.hid fw
    have HFO := Lib.hid hfold
    clear hput bc fc fw bx hfold
    go_wp2_with fail
    go_region_with (go_at_call 46; refine (HPUT.out _ (by (repeat' (first | with_reducible exact Below.refl _ _ | with_reducible refine below_drewN ?_ _ | with_reducible refine Below.drew ?_ | with_reducible refine Below.setCell ?_ (by first | exact Nat.le_refl _ | (simp; done) | (simp; omega) | omega) _ | with_reducible refine Below.alloc ?_ (by first | exact Nat.le_refl _ | (simp; done) | (simp; omega) | omega) _ | exact Below.refl _ _)))).mono ?_; rintro e w3 ⟨rfl, t', hdone⟩; (have hd2 : PutDone L.b L.kb L.sb L.mb L.t s.seen x (stCells { L with ev := .slice A' (s.ents.length + 1) ca' } { s with ents := s.ents ++ [x] }) 94 wc w3 t' := ⟨hdone.fold, hdone.list, hdone.blk, fun c hc => (hdone.blocks c hc).imp id (fun h => by simp at h; omega), (by (repeat' (first | with_reducible exact Frm.refl _ _ | with_reducible refine Frm.drewN ?_ _ | with_reducible refine Frm.drew ?_ | with_reducible refine Frm.setCell ?_ (by first | exact Or.inl rfl | exact Or.inr (Nat.le_refl _) | (simp; done) | (simp; omega)) _ | with_reducible refine Frm.alloc ?_ _ | exact Frm.refl _ _)) : Frm (fun c => c = L.b ∨ c = L.kb ∨ c ∈ L.t.blocks ∨ c = L.mb) wc _).trans hdone.frm (fun i _ h => h)⟩); (have HD := Lib.hid hd2); clear hdone hd2)
    all_goals
      go_wp2_with fail
      go_ret
      refine ⟨rfl, { L with ev := .slice A' (s.ents.length + 1) ca', t := t' }, ?_⟩
      have hG : Frm (fun c => c = L.b ∨ L.ev.ownBlock = some c ∨ c = L.kb ∨ c ∈ L.t.blocks ∨ c = L.mb) w w3 := by
        refine ((Frm.ofBelow HBEL.out).trans (HFW.out.mono (G := fun c => c = L.b ∨ L.ev.ownBlock = some c ∨ c = L.kb ∨ c ∈ L.t.blocks ∨ c = L.mb) (fun i _ h => ?_)) (fun _ _ h => h)).trans HD.out.frm (fun i _ h => ?_)
        · exact h.elim .inl (fun h => .inr (.inl h))
        · rcases h with h | h | h | h
          · exact .inl h
          · exact .inr (.inr (.inl h))
          · exact .inr (.inr (.inr (.inl h)))
          · exact .inr (.inr (.inr (.inr h)))
      have hkeep : ∀ {k n : Nat} {e : TypeId} {v : Value} {xs : List Value}, w.ownsRow 0 e k v n xs → e ≠ 94 → e ≠ 35 → e ≠ MapT → e ≠ 157 → w3.ownsRow 0 e k v n xs := fun ho n1 n2 n3 n4 => by
        refine own_frm ho hG (fun c hc h => ?_)
        have ha := own_apart ho H.out.fold n3 n4 hc
        rcases h with h | h | h | h | h
        · subst h; exact n1 (own_type ho hc H.out.blk)
        · exact n2 (own_two ho hc H.out.ens h)
        · exact ha.1 h
        · exact ha.2.1 h
        · exact ha.2.2 h
      have hec : wc.ownsRow 0 35 7 (.slice A' (s.ents.length + 1) ca') (s.ents.length + 1) (entsCells s.ents ++ entCells x) := own_frm HO.out HFC.out (fun c hc e => by subst e; exact absurd (own_type HO.out hc HB2.out) (by decide))
      have hee : w3.ownsRow 0 35 7 (.slice A' (s.ents.length + 1) ca') (s.ents.length + 1) (entsCells s.ents ++ entCells x) := by
        refine own_frm hec HD.out.frm (fun c hc h => ?_)
        have ha := own_apart hec HFO.out (by decide) (by decide) hc
        rcases h with h | h | h | h
        · subst h; exact absurd (own_type hec hc HBC.out) (by decide)
        · exact ha.1 h
        · exact ha.2.1 h
        · exact ha.2.2 h
      refine ⟨⟨HD.out.blk, HD.out.fold, ?_, hkeep H.out.tab (by decide) (by decide) (by decide) (by decide), hkeep H.out.prs (by decide) (by decide) (by decide) (by decide), hkeep H.out.sns (by decide) (by decide) (by decide) (by decide), ?_⟩, rfl, ?_, hG.mono ?_⟩
      · show t'.list = ins x.k (entV x) s.keys
        rw [← H.out.keys]; exact HD.out.list
      · show w3.ownsRow 0 _ 7 _ (s.ents ++ [x]).length (entsCells (s.ents ++ [x]))
        rw [List.length_append, show entsCells (s.ents ++ [x]) = entsCells s.ents ++ entCells x by simp [entsCells]]
        exact hee
      · intro c hc
        have hs1 := HBEL.out.size
        have hs2 := HFW.out.size
        rcases hc with hc | hc | hc | hc | hc | hc | hc | hc | hc
        · exact .inl (.inl hc)
        · exact .inl (.inr (.inl hc))
        · rcases HD.out.blocks c hc with h | h
          · exact .inl (.inr (.inr (.inl h)))
          · exact .inr (by omega)
        · exact .inl (.inr (.inr (.inr (.inl hc))))
        · exact .inl (.inr (.inr (.inr (.inr (.inl hc)))))
        · exact .inl (.inr (.inr (.inr (.inr (.inr (.inl hc))))))
        · exact .inl (.inr (.inr (.inr (.inr (.inr (.inr (.inl hc)))))))
        · exact .inl (.inr (.inr (.inr (.inr (.inr (.inr (.inr (.inl hc))))))))
        · rcases HOB.out with h | h
          · refine .inl ?_
            have : L.ev.ownBlock = some c := by rw [← h]; exact hc
            unfold Lay.foot; simp [this]
          · right
            have hc' : (Value.slice A' (s.ents.length + 1) ca').ownBlock = some c := hc
            rw [h] at hc'; injection hc' with hc'; rw [← hc']; simp; omega
      · intro i _ h
        unfold Lay.foot
        rcases h with h | h | h | h | h <;> simp [h]

end Go.Proofs.Ytedcdjlpogpgbaa
