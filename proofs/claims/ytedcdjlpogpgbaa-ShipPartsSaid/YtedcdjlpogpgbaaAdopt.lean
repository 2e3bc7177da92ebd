/- Layer 15: adopt: an epoch is taken. -/
import Derived.Test.YtedcdjlpogpgbaaAgain
import Derived.Deep.RegionLaw
set_option linter.unusedVariables false
set_option linter.unusedSimpArgs false
namespace Go.Proofs.Ytedcdjlpogpgbaa
open Go.RowKit

/-- A record's cells. -/
def recVal (k : Int) (x : Ent) (e : Ep) (cfg : Int) (sp : Pos) (pv sv : Value) : Array Value :=
  #[.int .i64 k, .int .i64 x.pos.e, .int .i64 x.pos.i, .int .i64 x.s, .int .i64 x.r, .string x.k, .bool x.d, .string x.t, .int .i64 e.m, .int .i64 e.c, .bool e.f, .int .i64 cfg, .int .i64 sp.e, .int .i64 sp.i, pv, sv]
def emptySnap : Snap := ⟨zeroPos, [], []⟩
def adoptF (s : St) (e : Ep) : St :=
  if s.pos.i ≤ e.c then { s with table := s.table ++ [e], closed := false }
  else if s.base.pos.i ≤ e.c then St.refold { s with table := s.table ++ [e], closed := false, ents := s.ents.take (e.c - s.base.pos.i).toNat }
  else St.refold { s with table := s.table ++ [e], closed := false, base := emptySnap, ents := [] }
/-- What holds of every state that the program makes. -/
structure Ok (s : St) : Prop where
  base : SnapOk s.base
  at_ : s.pos.i = s.base.pos.i + s.ents.length
  low : 0 ≤ s.base.pos.i
  high : s.pos.i ≤ 512
  right : rightB s.table = true
/-- A state's blocks behind a call that works on it: its own or new ones; the state's first block stays. -/
structure Moved (w w' : World) (L L' : Lay) (s' : St) : Prop where
  at_ : StAt w' L' s'
  b : L'.b = L.b
  foot : ∀ c, L'.foot c → L.foot c ∨ w.heap.size ≤ c
  frm : Frm L.foot w w'
def MovedRes (L : Lay) (s' : St) (w : World) (e : Ending) (w' : World) : Prop := e = .returned (.tuple #[]) ∧ ∃ L', Moved w w' L L' s'

theorem sl_one {w : World} {b : Nat} {cs : Array Value} {T : TypeId} (h : Blk w b cs T) : SlAt w (.slice (some ⟨b, 0, none⟩) 1 1) 1 cs.toList :=
  ⟨_, 1, rfl, Nat.le_refl _, by unfold maxLen; omega, fun _ => ⟨b, 0, rfl, h.lt, fun j u hu => by rw [Nat.zero_add, h.cell]; simpa using hu⟩⟩

theorem own_take {w : World} {base k n j ce : Nat} {e : TypeId} {E : Option Addr} {xs : List Value} (h : w.ownsRow base e k (.slice E n ce) n xs) (hj : j ≤ n) : w.ownsRow base e k (.slice E j ce) j (xs.take (j * k)) := by
  obtain ⟨h1, h2⟩ := h
  refine ⟨by rw [List.length_take, h1]; have := Nat.mul_le_mul_right k hj; omega, ?_⟩
  rcases h2 with ⟨h2, h3⟩ | ⟨g, cap, cur, hv, h3, h4, h5, h6, h7, h8⟩
  · injection h2 with a b c
    subst a; subst b; subst c
    left
    have : j = 0 := by omega
    subst this
    exact ⟨rfl, rfl⟩
  · injection hv with a b c
    subst a; subst c
    refine .inr ⟨g, ce, cur, rfl, h3, h4, by omega, h6, h7, ?_⟩
    rw [← h8, List.take_take, Nat.min_eq_left (Nat.mul_le_mul_right k hj)]
theorem flat_take {α : Type} (enc : α → List Value) (k : Nat) (hk : ∀ x, (enc x).length = k) : ∀ (l : List α) (j : Nat), (l.take j).flatMap enc = (l.flatMap enc).take (j * k)
  | [], j => by simp
  | x :: l, 0 => by simp
  | x :: l, j + 1 => by
    rw [List.take_succ_cons, List.flatMap_cons, List.flatMap_cons, flat_take enc k hk l j, List.take_append, hk, List.take_of_length_le (l := enc x) (by rw [hk, Nat.add_mul]; omega), show (j + 1) * k - k = j * k from by rw [Nat.add_mul]; omega]

/-- Behind again: the state as a whole. -/
theorem moved_of_again {w W w' : World} {L L2 L' : Lay} {s2 : St} (hb2 : L2.b = L.b) (FW : Frm L.foot w W) (hst : Blk W L2.b (stCells L2 s2) 94)
    (tab : W.ownsRow 0 29 3 L2.tv s2.table.length (epsCells s2.table)) (prs : W.ownsRow 0 67 5 L2.pv s2.base.ps.length (pairsCells s2.base.ps)) (sns : W.ownsRow 0 69 4 L2.sv s2.base.ss.length (snsCells s2.base.ss)) (ens : W.ownsRow 0 35 7 L2.ev s2.ents.length (entsCells s2.ents))
    (hf : ∀ c, L2.tv.ownBlock = some c ∨ L2.pv.ownBlock = some c ∨ L2.sv.ownBlock = some c ∨ L2.ev.ownBlock = some c → L.foot c ∨ w.heap.size ≤ c)
    (h : Anew W w' L2 L' s2.refold) : Moved w w' L L' s2.refold := by
  have r1 : s2.refold.table = s2.table := (St.foldl_rest s2.ents s2.basis).1
  have r2 : s2.refold.base = s2.base := (St.foldl_rest s2.ents s2.basis).2.1
  have r3 : s2.refold.ents = s2.ents := (St.foldl_rest s2.ents s2.basis).2.2.1
  have hne : ∀ {k n : Nat} {e : TypeId} {v : Value} {xs : List Value}, W.ownsRow 0 e k v n xs → e ≠ 94 → ∀ c, v.ownBlock = some c → ¬ (c = L2.b) := fun ho hn c hc e => by subst e; exact hn (own_type ho hc hst)
  have hWs := FW.size
  refine ⟨⟨?_, h.fold, h.keys, ?_, ?_, ?_, ?_⟩, h.b.trans hb2, ?_, ?_⟩
  · rw [h.b]; exact h.blk
  · rw [h.tv, r1]; exact own_frm tab h.frm (hne tab (by decide))
  · rw [h.pv, r2]; exact own_frm prs h.frm (hne prs (by decide))
  · rw [h.sv, r2]; exact own_frm sns h.frm (hne sns (by decide))
  · rw [h.ev, r3]; exact own_frm ens h.frm (hne ens (by decide))
  · intro c hc
    rcases hc with hc | hc | hc | hc | hc | hc | hc | hc | hc
    · exact .inl (.inl (hc.trans (h.b.trans hb2)))
    · have := h.n1; exact .inr (by omega)
    · have := h.n4 c hc; exact .inr (by omega)
    · have := h.n2; exact .inr (by omega)
    · have := h.n3; exact .inr (by omega)
    · exact hf c (.inl (by rw [← h.tv]; exact hc))
    · exact hf c (.inr (.inl (by rw [← h.pv]; exact hc)))
    · exact hf c (.inr (.inr (.inl (by rw [← h.sv]; exact hc))))
    · exact hf c (.inr (.inr (.inr (by rw [← h.ev]; exact hc))))
  · exact FW.trans h.frm (fun i _ hi => .inl (hi.trans hb2))

set_option maxRecDepth 100000 in
set_option maxHeartbeats 8000000 in
theorem adopt_any (L : Lay) (s : St) (x : Ep) (w : World) (h : StAt w L s) (hok : Ok s) (hx : 0 ≤ x.c ∧ x.c ≤ 512) :
    Calls Try.prog 47 #[.pointer (some ⟨L.b, 0, none⟩), .agg (epVal x)] w (MovedRes L (adoptF s x) w) := by
  have H := Lib.hid h
  have HOK := Lib.hid hok
  have hbl := h.blk.lt
  obtain ⟨hx1, hx2⟩ := hx
  have hlen : s.table.length ≤ 64 := ((rightB_iff _).1 hok.right).2.1
  have hp1 : 0 ≤ s.pos.i := by have := hok.at_; have := hok.low; omega
  have hp2 := hok.high
  have hp3 := hok.low
  have hp4 : s.base.pos.i ≤ s.pos.i := by have := hok.at_; omega
  have c1 : World.cell? w ⟨L.b, 1, none⟩ = some (.int .i64 s.pos.i) := by rw [Blk.cell h.blk]; rfl
  have c4 : World.cell? w ⟨L.b, 4, none⟩ = some (L.tv) := by rw [Blk.cell h.blk]; rfl
  have c6 : World.cell? w ⟨L.b, 6, none⟩ = some (.int .i64 s.base.pos.i) := by rw [Blk.cell h.blk]; rfl
  have fr : ∀ i, w.frozen? ⟨L.b, i, none⟩ = false := h.blk.free
  obtain ⟨A, ca, htv, _⟩ := own_sl h.tab
  -- the append
  have hW : Frm (fun _ => False) w (((w.alloc (.cells (epVal x) 29)).alloc (.cells (epVal x) 29)).drew) := by (repeat' (first | with_reducible exact Frm.refl _ _ | with_reducible refine Frm.drewN ?_ _ | with_reducible refine Frm.drew ?_ | with_reducible refine Frm.setCell ?_ (by first | exact Or.inl rfl | exact Or.inr (Nat.le_refl _) | (simp; done) | (simp; omega)) _ | with_reducible refine Frm.alloc ?_ _ | exact Frm.refl _ _))
  obtain ⟨v', w1, happ, hown, hgr, hob⟩ := run_append_sl (P := Try.prog) (w := ((w.alloc (.cells (epVal x) 29)).alloc (.cells (epVal x) 29)).drew) 30 30 29 3 24 _ Try.underlying30 ep_info rfl (by omega) L.tv s.table.length (epsCells s.table) (own_frm h.tab hW (fun _ _ h => h))
    (.slice (some ⟨w.heap.size + 1, 0, none⟩) 1 1) 1 (epCells x) (sl_one (cs := epVal x) (T := 29) (by ((repeat' (first | with_reducible exact Blk.new _ _ _ | with_reducible apply Blk.drewN | with_reducible apply Blk.drew | with_reducible apply Blk.set' | (with_reducible apply Blk.set_other (hp := by first | assumption | (simp; done) | (simp; omega) | omega)) | (with_reducible apply Blk.new'; focus (first | (simp; done) | (simp; omega))) | with_reducible apply Blk.alloc)) <;> rfl))) rfl (epsCells_one [x]) (by omega) (by unfold maxLen; omega)
  obtain ⟨A', ca', hv', _⟩ := own_sl hown
  subst hv'
  unfold epVal at happ
  have hF1 := Frm.ofGrown hgr
  have hb1 : Blk w1 L.b (stCells L s) 94 := (h.blk.frm hW (fun h => h)).frm hF1 (fun hc => absurd (own_type h.tab hc h.blk) (by decide))
  have hbl1 := hb1.lt
  have d1 : World.cell? w1 ⟨L.b, 1, none⟩ = some (.int .i64 s.pos.i) := by rw [Blk.cell hb1]; rfl
  have d4 : World.cell? w1 ⟨L.b, 4, none⟩ = some (L.tv) := by rw [Blk.cell hb1]; rfl
  have d6 : World.cell? w1 ⟨L.b, 6, none⟩ = some (.int .i64 s.base.pos.i) := by rw [Blk.cell hb1]; rfl
  have d10 : World.cell? w1 ⟨L.b, 10, none⟩ = some (.bool s.closed) := by rw [Blk.cell hb1]; rfl
  have fr1 : ∀ i, w1.frozen? ⟨L.b, i, none⟩ = false := hb1.free
  have HO := Lib.hid hown
  have HG := Lib.hid hF1
  have HOB := Lib.hid hob
  have HB1 := Lib.hid hb1
  have HTV := Lib.hid htv
  clear h hok hown hgr hF1 hob hb1 htv hW
  unfold epVal
  go_enter Try.func47, Try.ntmps47
  go_wp2_with fail
  have ne1 : w.heap.size ≠ L.b := by omega
  have b1 : Blk w1 w.heap.size (epVal x) 29 := by
    have b0 : Blk (((w.alloc (.cells (epVal x) 29)).alloc (.cells (epVal x) 29)).drew) w.heap.size (epVal x) 29 := by ((repeat' (first | with_reducible exact Blk.new _ _ _ | with_reducible apply Blk.drewN | with_reducible apply Blk.drew | with_reducible apply Blk.set' | (with_reducible apply Blk.set_other (hp := by first | assumption | (simp; done) | (simp; omega) | omega)) | (with_reducible apply Blk.new'; focus (first | (simp; done) | (simp; omega))) | with_reducible apply Blk.alloc)) <;> rfl)
    exact b0.frm HG.out (fun hc => by have := own_lt H.out.tab hc; omega)
  have e0 : World.cell? w1 ⟨w.heap.size, 0, none⟩ = some (.int .i64 x.m) := by rw [Blk.cell b1]; rfl
  have e1 : World.cell? w1 ⟨w.heap.size, 1, none⟩ = some (.int .i64 x.c) := by rw [Blk.cell b1]; rfl
  have e2 : World.cell? w1 ⟨w.heap.size, 2, none⟩ = some (.bool x.f) := by rw [Blk.cell b1]; rfl
  go_upto_region 1 with (fail)
  go_cut [] (fun wx => wx.heap = (w1.setCell ⟨L.b, 4, none⟩ (.slice A' (s.table.length + 1) ca')).heap ∧ wx.os = w1.os ∧ wx.output = w1.output ∧ wx.tape = w1.tape)
  case first =>
    go_region_law (first | (refine step_append_run rfl _ _ _ _ rfl rfl (by rfl) (by rfl) happ ?_))
    all_goals
      go_wp2_with fail
      go_meet
      exact ⟨rfl, rfl, rfl, rfl⟩
  case rest =>
    obtain ⟨q1, q2, q3, q4⟩ := hcut
    -- the table's slot is written
    obtain ⟨L1, hL1⟩ : ∃ L1 : Lay, L1 = { L with tv := .slice A' (s.table.length + 1) ca' } := ⟨_, rfl⟩
    have bc : Blk wc L.b (stCells L1 { s with table := s.table ++ [x] }) 94 := by
      have := HB1.out.set 4 (.slice A' (s.table.length + 1) ca')
      unfold Blk at this ⊢
      rw [q1, this, hL1]; rfl
    have fc : Frm (fun c => c = L.b) w1 wc := by
      have f0 := (Frm.refl (fun c => c = L.b) w1).setCell (p := ⟨L.b, 4, none⟩) (.inl rfl) (.slice A' (s.table.length + 1) ca')
      exact f0.alike ⟨q1, q2, q3⟩ q4
    clear q1 q2 q3 q4
    have bx := b1.frm fc (by omega)
    have hblc := bc.lt
    have hxlc := bx.lt
    clear c1 c4 c6 d1 d4 d6 d10 e0 e1 e2
    have o10 : wc.cell? ⟨L.b, 10, none⟩ = some (.bool s.closed) := by rw [bc.cell]; rfl
    have frc : ∀ i, wc.frozen? ⟨L.b, i, none⟩ = false := bc.free
    have HBC := Lib.hid bc
    have HBX := Lib.hid bx
    have HFC := Lib.hid fc
    clear bc bx fc b1 happ
    go_wp2_with fail
    refine wp_abs ?_
    intro w2 hw2
    have bd : Blk w2 L.b (stCells L1 { s with table := s.table ++ [x], closed := false }) 94 := by rw [hw2]; exact HBC.out.set 10 _
    have bx : Blk w2 w.heap.size (epVal x) 29 := by rw [hw2]; exact HBX.out.set_other (p := ⟨L.b, 10, none⟩) (by show L.b ≠ w.heap.size; omega) _
    have fd : Frm (fun c => c = L.b) w1 w2 := by rw [hw2]; exact HFC.out.setCell (p := ⟨L.b, 10, none⟩) (.inl rfl) _
    clear hw2 o10 frc fr fr1
    have hbl2 := bd.lt
    have hxl2 := bx.lt
    have e0 : World.cell? w2 ⟨w.heap.size, 0, none⟩ = some (.int .i64 x.m) := by rw [Blk.cell bx]; rfl
    have e1 : World.cell? w2 ⟨w.heap.size, 1, none⟩ = some (.int .i64 x.c) := by rw [Blk.cell bx]; rfl
    have e2 : World.cell? w2 ⟨w.heap.size, 2, none⟩ = some (.bool x.f) := by rw [Blk.cell bx]; rfl
    have d1 : World.cell? w2 ⟨L.b, 1, none⟩ = some (.int .i64 s.pos.i) := by rw [Blk.cell bd]; rfl
    have d6 : World.cell? w2 ⟨L.b, 6, none⟩ = some (.int .i64 s.base.pos.i) := by rw [Blk.cell bd]; rfl
    have fr2 : ∀ i, w2.frozen? ⟨L.b, i, none⟩ = false := bd.free
    obtain ⟨E, ce, hev, hce, hcm, _⟩ := own_sl H.out.ens
    obtain ⟨A0, ca0, hpv, _⟩ := own_sl H.out.prs
    obtain ⟨B0, cb0, hsv, _⟩ := own_sl H.out.sns
    have d9 : w2.cell? ⟨L.b, 9, none⟩ = some (.slice E s.ents.length ce) := by rw [bd.cell, ← hev, hL1]; rfl
    have hcel : (s.ents.length : Int) ≤ ce := by omega
    have hceh : (ce : Int) ≤ 9223372036854775807 := by unfold maxLen at hcm; omega
    have hle := HOK.out.at_
    have HEV := Lib.hid hev
    have HPV := Lib.hid hpv
    have HSV := Lib.hid hsv
    have HLE := Lib.hid hle
    clear hev hpv hsv hle hce hcm
    have HBD := Lib.hid bd
    have HBXD := Lib.hid bx
    have HFD := Lib.hid fd
    have HL1 := Lib.hid hL1
    clear bd bx fd hL1
    have hF0 : Frm (fun c => c = L.b ∨ L.tv.ownBlock = some c) w w2 := by
      refine Frm.trans (b := w1) (Frm.trans (b := ((w.alloc (.cells (epVal x) 29)).alloc (.cells (epVal x) 29)).drew) (by (repeat' (first | with_reducible exact Frm.refl _ _ | with_reducible refine Frm.drewN ?_ _ | with_reducible refine Frm.drew ?_ | with_reducible refine Frm.setCell ?_ (by first | exact Or.inl rfl | exact Or.inr (Nat.le_refl _) | (simp; done) | (simp; omega)) _ | with_reducible refine Frm.alloc ?_ _ | exact Frm.refl _ _))) HG.out (fun i _ hi => .inr hi)) HFD.out (fun i _ hi => .inl hi)
    have htb : ∀ c, L.tv.ownBlock = some c → c ≠ L.b := fun c hc e => by subst e; exact absurd (own_type H.out.tab hc H.out.blk) (by decide)
    have hneF : ∀ {k n : Nat} {e : TypeId} {v : Value} {xs : List Value}, w.ownsRow 0 e k v n xs → e ≠ 94 → e ≠ 29 → ∀ c, v.ownBlock = some c → ¬ (c = L.b ∨ L.tv.ownBlock = some c) := fun ho h1 h2 c hc h => by
      rcases h with rfl | h
      · exact h1 (own_type ho hc H.out.blk)
      · exact h2 (own_two ho hc H.out.tab h)
    have hfold : FoldAt w2 L.kb L.sb L.mb L.t s.seen := by
      obtain ⟨nk, hkb⟩ := H.out.fold.keys.blk
      refine H.out.fold.frm hF0 ?_ ?_ ?_ ?_
      · exact fun h => h.elim (hkb.ne H.out.blk (by decide)) (fun h => absurd (own_type H.out.tab h hkb) (by decide))
      · intro c hc h
        obtain ⟨cs, hcb⟩ := T.At.blk H.out.fold.keys.tree hc
        exact h.elim (fun e => by subst e; exact absurd (hcb.type H.out.blk) (by decide)) (fun h => absurd (own_type H.out.tab h hcb) (by decide))
      · exact fun h => h.elim (H.out.fold.seen.blk.ne H.out.blk (by decide)) (fun h => absurd (own_type H.out.tab h H.out.fold.seen.blk) (by decide))
      · exact fun h => h.elim (fun e => H.out.blk.neMap H.out.fold.seen.map e.symm) (fun h => own_map H.out.tab h H.out.fold.seen.map)
    have hprs := own_frm H.out.prs hF0 (hneF H.out.prs (by decide) (by decide))
    have hsns := own_frm H.out.sns hF0 (hneF H.out.sns (by decide) (by decide))
    have hens := own_frm H.out.ens hF0 (hneF H.out.ens (by decide) (by decide))
    have htab : w2.ownsRow 0 29 3 (.slice A' (s.table.length + 1) ca') (s.table.length + 1) (epsCells s.table ++ epCells x) := own_frm HO.out HFD.out (fun c hc e => by subst e; exact absurd (own_type HO.out hc HB1.out) (by decide))
    have hnew : ∀ c, (Value.slice A' (s.table.length + 1) ca').ownBlock = some c → L.foot c ∨ w.heap.size ≤ c := by
      intro c hc
      rcases HOB.out with h | h
      · rw [h] at hc; exact .inl (by unfold Lay.foot; simp [hc])
      · rw [h] at hc; injection hc with hc; right; rw [← hc]; simp; omega
    have hepl : epsCells (s.table ++ [x]) = epsCells s.table ++ epCells x := by simp [epsCells]
    have HF0 := Lib.hid hF0
    have HFO := Lib.hid hfold
    have HPR := Lib.hid hprs
    have HSN := Lib.hid hsns
    have HEN := Lib.hid hens
    have HTA := Lib.hid htab
    have HNW := Lib.hid hnew
    have HEP := Lib.hid hepl
    clear hF0 htb hneF hfold hprs hsns hens htab hnew hepl
    by_cases hp : s.pos.i ≤ x.c
    · have dp : decide (s.pos.i ≤ x.c) = true := decide_eq_true hp
      have HPP := Lib.hid hp
      clear hp
      go_quiet (fail)
      go_wp2_with fail
      go_end0
      have e : adoptF s x = { s with table := s.table ++ [x], closed := false } := by unfold adoptF; rw [if_pos HPP.out]
      rw [e]
      refine ⟨rfl, L1, ?_, ?_, ?_, ?_⟩
      · refine StAt.frm (F := fun _ => False) (w := w2) ?_ (by (repeat' (first | with_reducible exact Frm.refl _ _ | with_reducible refine Frm.drewN ?_ _ | with_reducible refine Frm.drew ?_ | with_reducible refine Frm.setCell ?_ (by first | exact Or.inl rfl | exact Or.inr (Nat.le_refl _) | (simp; done) | (simp; omega)) _ | with_reducible refine Frm.alloc ?_ _ | exact Frm.refl _ _))) (fun _ _ h => h)
        have hb1 : L1.b = L.b := by rw [HL1.out]
        refine ⟨by rw [hb1]; exact HBD.out, by rw [HL1.out]; exact HFO.out, by rw [HL1.out]; exact H.out.keys, ?_, by rw [HL1.out]; exact HPR.out, by rw [HL1.out]; exact HSN.out, by rw [HL1.out]; exact HEN.out⟩
        rw [HL1.out]; show w2.ownsRow 0 29 3 _ (s.table ++ [x]).length (epsCells (s.table ++ [x]))
        rw [HEP.out, List.length_append]; exact HTA.out
      · rw [HL1.out]
      · intro c hc
        rw [HL1.out] at hc
        rcases hc with hc | hc | hc | hc | hc | hc | hc
        · exact .inl (.inl hc)
        · exact .inl (.inr (.inl hc))
        · exact .inl (.inr (.inr (.inl hc)))
        · exact .inl (.inr (.inr (.inr (.inl hc))))
        · exact .inl (.inr (.inr (.inr (.inr (.inl hc)))))
        · exact HNW.out c hc
        · exact .inl (.inr (.inr (.inr (.inr (.inr (.inr hc))))))
      · refine (HF0.out.mono (G := L.foot) (fun i _ h => ?_)).trans (by (repeat' (first | with_reducible exact Frm.refl _ _ | with_reducible refine Frm.drewN ?_ _ | with_reducible refine Frm.drew ?_ | with_reducible refine Frm.setCell ?_ (by first | exact Or.inl rfl | exact Or.inr (Nat.le_refl _) | (simp; done) | (simp; omega)) _ | with_reducible refine Frm.alloc ?_ _ | exact Frm.refl _ _)) : Frm (fun _ => False) w2 _) (fun _ _ h => h.elim)
        rcases h with h | h
        · exact .inl h
        · unfold Lay.foot; simp [h]
    · have dp : decide (s.pos.i ≤ x.c) = false := decide_eq_false hp
      have HPP := Lib.hid hp
      clear hp
      go_quiet (fail)
      go_wp2_with fail
      by_cases hq : s.base.pos.i ≤ x.c
      · have dq : decide (s.base.pos.i ≤ x.c) = true := decide_eq_true hq
        have hk0 : 0 ≤ x.c - s.base.pos.i := by omega
        have hk1 : x.c - s.base.pos.i ≤ ce := by have := HLE.out; have := HPP.out; omega
        go_quiet (fail)
        go_wp2_with fail
        refine wp_abs ?_
        intro w3 hw3
        have f3 : Frm (fun _ => False) w2 w3 := by rw [hw3]; (repeat' (first | with_reducible exact Frm.refl _ _ | with_reducible refine Frm.drewN ?_ _ | with_reducible refine Frm.drew ?_ | with_reducible refine Frm.setCell ?_ (by first | exact Or.inl rfl | exact Or.inr (Nat.le_refl _) | (simp; done) | (simp; omega)) _ | with_reducible refine Frm.alloc ?_ _ | exact Frm.refl _ _))
        have bd3 := HBD.out.frm f3 (fun h => h)
        have bx3 := HBXD.out.frm f3 (fun h => h)
        have g1 : World.cell? w3 ⟨w.heap.size, 1, none⟩ = some (.int .i64 x.c) := by rw [Blk.cell bx3]; rfl
        have h6 : World.cell? w3 ⟨L.b, 6, none⟩ = some (.int .i64 s.base.pos.i) := by rw [Blk.cell bd3]; rfl
        have h9 : w3.cell? ⟨L.b, 9, none⟩ = some (.slice E s.ents.length ce) := by rw [bd3.cell, ← HEV.out, HL1.out]; rfl
        have fr3 : ∀ i, w3.frozen? ⟨L.b, i, none⟩ = false := bd3.free
        have HF3 := Lib.hid f3
        clear hw3 f3 bd3 bx3 d1 d6 d9 e0 e1 e2 fr2
        go_region
        go_wp2_with fail
        have hkn : (x.c - s.base.pos.i).toNat ≤ s.ents.length := by have := HLE.out; have := HPP.out; omega
        have hlen2 : (s.ents.take (x.c - s.base.pos.i).toNat).length = (x.c - s.base.pos.i).toNat := by rw [List.length_take]; omega
        have hbd : Blk w3 L.b (stCells { L with tv := .slice A' (s.table.length + 1) ca' } { s with table := s.table ++ [x], closed := false }) 94 := by
          have h0 := HBD.out; rw [HL1.out] at h0; exact h0.frm HF3.out (fun h => h)
        have hFW : ∀ W, Frm (fun c => c = L.b) w3 W → Frm L.foot w W := fun W hW => by
          refine ((HF0.out.mono (G := L.foot) (fun i _ h => ?_)).trans HF3.out (fun _ _ h => h.elim)).trans hW (fun i _ h => .inl h)
          rcases h with h | h
          · exact .inl h
          · unfold Lay.foot; simp [h]
        have hkeep : ∀ {k n : Nat} {e : TypeId} {v : Value} {xs : List Value} (W : World), w2.ownsRow 0 e k v n xs → e ≠ 94 → Frm (fun c => c = L.b) w3 W → W.ownsRow 0 e k v n xs := fun W ho hn hW => by
          refine own_frm (own_frm ho HF3.out (fun _ _ h => h)) hW (fun c hc e => ?_)
          subst e
          exact hn (own_type ho hc HBD.out)
        have hens2 : w2.ownsRow 0 35 7 (.slice E (x.c - s.base.pos.i).toNat ce) (s.ents.take (x.c - s.base.pos.i).toNat).length (entsCells (s.ents.take (x.c - s.base.pos.i).toNat)) := by
          have h0 := HEN.out
          rw [HEV.out] at h0
          have h1 := own_take h0 hkn
          rw [hlen2, show entsCells (s.ents.take (x.c - s.base.pos.i).toNat) = (entsCells s.ents).take ((x.c - s.base.pos.i).toNat * 7) from flat_take entCells 7 (fun _ => rfl) _ _]
          exact h1
        have hWF : ∀ W, W = (w3.drew.setCell ⟨L.b, 9, none⟩ (.slice E (x.c - s.base.pos.i).toNat ce)) ∨ W = (w3.setCell ⟨L.b, 9, none⟩ (.slice E (x.c - s.base.pos.i).toNat ce)).drew → Blk W L.b (stCells { L with tv := .slice A' (s.table.length + 1) ca', ev := .slice E (x.c - s.base.pos.i).toNat ce } { s with table := s.table ++ [x], closed := false, ents := s.ents.take (x.c - s.base.pos.i).toNat }) 94 ∧ Frm (fun c => c = L.b) w3 W := by
          rintro W (rfl | rfl)
          · exact ⟨hbd.drew.set 9 _, by (repeat' (first | with_reducible exact Frm.refl _ _ | with_reducible refine Frm.drewN ?_ _ | with_reducible refine Frm.drew ?_ | with_reducible refine Frm.setCell ?_ (by first | exact Or.inl rfl | exact Or.inr (Nat.le_refl _) | (simp; done) | (simp; omega)) _ | with_reducible refine Frm.alloc ?_ _ | exact Frm.refl _ _))⟩
          · exact ⟨(hbd.set 9 _).drew, by (repeat' (first | with_reducible exact Frm.refl _ _ | with_reducible refine Frm.drewN ?_ _ | with_reducible refine Frm.drew ?_ | with_reducible refine Frm.setCell ?_ (by first | exact Or.inl rfl | exact Or.inr (Nat.le_refl _) | (simp; done) | (simp; omega)) _ | with_reducible refine Frm.alloc ?_ _ | exact Frm.refl _ _))⟩
        have e : adoptF s x = St.refold { s with table := s.table ++ [x], closed := false, ents := s.ents.take (x.c - s.base.pos.i).toNat } := by unfold adoptF; rw [if_neg (by have := HPP.out; omega), if_pos hq]
        have HE2 := Lib.hid e
        clear e
        obtain ⟨W, hW⟩ : ∃ W, W = (w3.setCell ⟨L.b, 9, none⟩ (.slice E (x.c - s.base.pos.i).toNat ce)).drew := ⟨_, rfl⟩
        obtain ⟨hW1, hW2⟩ := hWF W (.inr hW)
        have hcall := again_any { L with tv := .slice A' (s.table.length + 1) ca', ev := .slice E (x.c - s.base.pos.i).toNat ce } { s with table := s.table ++ [x], closed := false, ents := s.ents.take (x.c - s.base.pos.i).toNat } W hW1 (hkeep _ HPR.out (by decide) hW2) (hkeep _ HSN.out (by decide) hW2) (hkeep _ hens2 (by decide) hW2) HOK.out.base (by show (s.ents.take (x.c - s.base.pos.i).toNat).length ≤ _; omega)
        have hfin : ∀ w' L', Anew W w' { L with tv := .slice A' (s.table.length + 1) ca', ev := .slice E (x.c - s.base.pos.i).toNat ce } L' (St.refold { s with table := s.table ++ [x], closed := false, ents := s.ents.take (x.c - s.base.pos.i).toNat }) → Moved w w' L L' (adoptF s x) := by
          intro w' L' han
          rw [HE2.out]
          refine moved_of_again (L := L) (L2 := { L with tv := .slice A' (s.table.length + 1) ca', ev := .slice E (x.c - s.base.pos.i).toNat ce }) (W := W) rfl (hFW W hW2) hW1 ?_ (hkeep _ HPR.out (by decide) hW2) (hkeep _ HSN.out (by decide) hW2) (hkeep _ hens2 (by decide) hW2) ?_ han
          · show W.ownsRow 0 _ 3 _ (s.table ++ [x]).length (epsCells (s.table ++ [x]))
            rw [HEP.out, List.length_append]; exact hkeep _ HTA.out (by decide) hW2
          · intro c hc
            rcases hc with hc | hc | hc | hc
            · exact HNW.out c hc
            · exact .inl (by unfold Lay.foot; simp [show L.pv.ownBlock = some c from hc])
            · exact .inl (by unfold Lay.foot; simp [show L.sv.ownBlock = some c from hc])
            · refine .inl ?_
              have : L.ev.ownBlock = some c := by rw [HEV.out]; change (Value.slice E (x.c - s.base.pos.i).toNat ce).ownBlock = some c at hc; cases E with | none => exact absurd hc (by simp [Value.ownBlock]) | some a => exact hc
              unfold Lay.foot; simp [this]
        have HFIN := Lib.hid hfin
        clear hfin hWF hens2 hkeep hFW hbd hW1 hW2
        rw [hW] at hcall
        refine hcall.mono ?_
        rintro e w' ⟨rfl, L', han⟩
        rw [← hW] at han
        have HAN := Lib.hid han
        clear han hcall
        go_wp2_with fail
        go_end0
        exact ⟨rfl, L', HFIN.out _ _ HAN.out⟩
      · have dq : decide (s.base.pos.i ≤ x.c) = false := decide_eq_false hq
        have d5 : w2.cell? ⟨L.b, 5, none⟩ = some (.int .i64 s.base.pos.e) := by rw [HBD.out.cell]; rfl
        have d7 : w2.cell? ⟨L.b, 7, none⟩ = some (.slice A0 s.base.ps.length ca0) := by rw [HBD.out.cell, ← HPV.out, HL1.out]; rfl
        have d8 : w2.cell? ⟨L.b, 8, none⟩ = some (.slice B0 s.base.ss.length cb0) := by rw [HBD.out.cell, ← HSV.out, HL1.out]; rfl
        go_quiet (fail)
        go_wp2_with fail
        have hne1 : ∀ {k n : Nat} {e : TypeId} {v : Value} {xs : List Value} (W : World), w2.ownsRow 0 e k v n xs → e ≠ 94 → Frm (fun c => c = L.b) w2 W → W.ownsRow 0 e k v n xs := fun W ho hn hW => by
          refine own_frm ho hW (fun c hc e => ?_)
          subst e
          exact hn (own_type ho hc HBD.out)
        have hFW : ∀ W, Frm (fun c => c = L.b) w2 W → Frm L.foot w W := fun W hW => by
          refine (HF0.out.mono (G := L.foot) (fun i _ h => ?_)).trans hW (fun i _ h => .inl h)
          rcases h with h | h
          · exact .inl h
          · unfold Lay.foot; simp [h]
        have hbd : Blk w2 L.b (stCells { L with tv := .slice A' (s.table.length + 1) ca' } { s with table := s.table ++ [x], closed := false }) 94 := by
          have h0 := HBD.out; rw [HL1.out] at h0; exact h0
        have e : adoptF s x = St.refold { s with table := s.table ++ [x], closed := false, base := emptySnap, ents := [] } := by unfold adoptF; rw [if_neg (by have := HPP.out; omega), if_neg (by omega)]
        have HE2 := Lib.hid e
        clear e
        obtain ⟨nqq, hnqq⟩ : ∃ n : Nat, n = nq + nq := ⟨_, rfl⟩
        clear hnqq nqq
        have hWall : ∀ n : Nat, ∃ W, W = ((((((w2.drewN n).setCell ⟨L.b, 5, none⟩ (.int .i64 0)).setCell ⟨L.b, 6, none⟩ (.int .i64 0)).setCell ⟨L.b, 7, none⟩ (.slice none 0 0)).setCell ⟨L.b, 8, none⟩ (.slice none 0 0)).setCell ⟨L.b, 9, none⟩ (.slice none 0 0)) ∧
            Blk W L.b (stCells { L with tv := .slice A' (s.table.length + 1) ca', pv := .slice none 0 0, sv := .slice none 0 0, ev := .slice none 0 0 } { s with table := s.table ++ [x], closed := false, base := emptySnap, ents := [] }) 94 ∧ Frm (fun c => c = L.b) w2 W := fun n =>
          ⟨_, rfl, (((((hbd.drewN n).set 5 _).set 6 _).set 7 _).set 8 _).set 9 _, by (repeat' (first | with_reducible exact Frm.refl _ _ | with_reducible refine Frm.drewN ?_ _ | with_reducible refine Frm.drew ?_ | with_reducible refine Frm.setCell ?_ (by first | exact Or.inl rfl | exact Or.inr (Nat.le_refl _) | (simp; done) | (simp; omega)) _ | with_reducible refine Frm.alloc ?_ _ | exact Frm.refl _ _))⟩
        have hcall : ∀ n : Nat, Calls Try.prog 50 #[.pointer (some ⟨L.b, 0, none⟩)] ((((((w2.drewN n).setCell ⟨L.b, 5, none⟩ (.int .i64 0)).setCell ⟨L.b, 6, none⟩ (.int .i64 0)).setCell ⟨L.b, 7, none⟩ (.slice none 0 0)).setCell ⟨L.b, 8, none⟩ (.slice none 0 0)).setCell ⟨L.b, 9, none⟩ (.slice none 0 0)) (MovedRes L (adoptF s x) w) := by
          intro n
          obtain ⟨W, hW, hW1, hW2⟩ := hWall n
          rw [← hW]
          refine (again_any { L with tv := .slice A' (s.table.length + 1) ca', pv := .slice none 0 0, sv := .slice none 0 0, ev := .slice none 0 0 } { s with table := s.table ++ [x], closed := false, base := emptySnap, ents := [] } W hW1 (own_empty W _ _) (own_empty W _ _) (own_empty W _ _) ⟨List.Pairwise.nil, List.Pairwise.nil, by simp [emptySnap], by simp [emptySnap]⟩ (by simp)).mono ?_
          rintro e w' ⟨rfl, L', han⟩
          refine ⟨rfl, L', ?_⟩
          rw [HE2.out]
          refine moved_of_again (L := L) (L2 := { L with tv := .slice A' (s.table.length + 1) ca', pv := .slice none 0 0, sv := .slice none 0 0, ev := .slice none 0 0 }) (W := W) rfl (hFW W hW2) hW1 ?_ (own_empty W _ _) (own_empty W _ _) (own_empty W _ _) ?_ han
          · show W.ownsRow 0 _ 3 _ (s.table ++ [x]).length (epsCells (s.table ++ [x]))
            rw [HEP.out, List.length_append]; exact hne1 W HTA.out (by decide) hW2
          · intro c hc
            rcases hc with hc | hc | hc | hc
            · exact HNW.out c hc
            · cases hc
            · cases hc
            · cases hc
        have HCALL := Lib.hid hcall
        clear hcall hWall hne1 hFW hbd
        refine (HCALL.out _).mono ?_
        rintro e w' ⟨rfl, L', hmv⟩
        have HMV := Lib.hid hmv
        clear hmv
        go_wp2_with fail
        go_end0
        exact ⟨rfl, L', HMV.out⟩

end Go.Proofs.Ytedcdjlpogpgbaa
