/- Layer 15's data, and how a state lies in memory. -/
import Derived.Test.YtedcdjlpogpgbaaState
set_option linter.unusedVariables false
set_option linter.unusedSimpArgs false
namespace Go.Proofs.Ytedcdjlpogpgbaa
open Go.RowKit

structure Ent where
  pos : Pos
  s : Int
  r : Int
  k : ByteArray
  d : Bool
  t : ByteArray
structure Snap where
  pos : Pos
  ps : List (ByteArray × Val)
  ss : List Sn
structure St where
  pos : Pos
  keys : List (ByteArray × Val)
  seen : List Sn
  table : List Ep
  base : Snap
  ents : List Ent
  closed : Bool
structure Lay where
  b : Nat
  kb : Nat
  sb : Nat
  mb : Nat
  t : T
  tv : Value
  pv : Value
  sv : Value
  ev : Value
def entCells (e : Ent) : List Value := [.int .i64 e.pos.e, .int .i64 e.pos.i, .int .i64 e.s, .int .i64 e.r, .string e.k, .bool e.d, .string e.t]
def entVal (e : Ent) : Array Value := #[.int .i64 e.pos.e, .int .i64 e.pos.i, .int .i64 e.s, .int .i64 e.r, .string e.k, .bool e.d, .string e.t]
def pairCells (p : ByteArray × Val) : List Value := [.string p.1, .int .i64 p.2.pos.e, .int .i64 p.2.pos.i, .bool p.2.th, .string p.2.t]
def snCells (x : Sn) : List Value := [.int .i64 x.s, .int .i64 x.r, .int .i64 x.pos.e, .int .i64 x.pos.i]
def entsCells (l : List Ent) : List Value := l.flatMap entCells
def pairsCells (l : List (ByteArray × Val)) : List Value := l.flatMap pairCells
def snsCells (l : List Sn) : List Value := l.flatMap snCells
def epVal (e : Ep) : Array Value := #[.int .i64 e.m, .int .i64 e.c, .bool e.f]
theorem entsCells_length (l : List Ent) : (entsCells l).length = l.length * 7 := flat_length entCells 7 (fun _ => rfl) l
theorem pairsCells_length (l : List (ByteArray × Val)) : (pairsCells l).length = l.length * 5 := flat_length pairCells 5 (fun _ => rfl) l
theorem snsCells_length (l : List Sn) : (snsCells l).length = l.length * 4 := flat_length snCells 4 (fun _ => rfl) l
theorem entsCells_one (l : List Ent) : ∀ x ∈ entsCells l, x.oneCell' = true := by
  intro x hx
  simp only [entsCells, List.mem_flatMap] at hx
  obtain ⟨e, _, he⟩ := hx
  simp only [entCells, List.mem_cons, List.not_mem_nil, or_false] at he
  rcases he with rfl | rfl | rfl | rfl | rfl | rfl | rfl <;> rfl
theorem pairsCells_one (l : List (ByteArray × Val)) : ∀ x ∈ pairsCells l, x.oneCell' = true := by
  intro x hx
  simp only [pairsCells, List.mem_flatMap] at hx
  obtain ⟨e, _, he⟩ := hx
  simp only [pairCells, List.mem_cons, List.not_mem_nil, or_false] at he
  rcases he with rfl | rfl | rfl | rfl | rfl <;> rfl
theorem snsCells_one (l : List Sn) : ∀ x ∈ snsCells l, x.oneCell' = true := by
  intro x hx
  simp only [snsCells, List.mem_flatMap] at hx
  obtain ⟨e, _, he⟩ := hx
  simp only [snCells, List.mem_cons, List.not_mem_nil, or_false] at he
  rcases he with rfl | rfl | rfl | rfl <;> rfl

def stCells (L : Lay) (s : St) : Array Value :=
  #[.int .i64 s.pos.e, .int .i64 s.pos.i, .pointer (some ⟨L.kb, 0, none⟩), .pointer (some ⟨L.sb, 0, none⟩), L.tv, .int .i64 s.base.pos.e, .int .i64 s.base.pos.i, L.pv, L.sv, L.ev, .bool s.closed]
structure StAt (w : World) (L : Lay) (s : St) : Prop where
  blk : Blk w L.b (stCells L s) 94
  fold : FoldAt w L.kb L.sb L.mb L.t s.seen
  keys : L.t.list = s.keys
  tab : w.ownsRow 0 29 3 L.tv s.table.length (epsCells s.table)
  prs : w.ownsRow 0 67 5 L.pv s.base.ps.length (pairsCells s.base.ps)
  sns : w.ownsRow 0 69 4 L.sv s.base.ss.length (snsCells s.base.ss)
  ens : w.ownsRow 0 35 7 L.ev s.ents.length (entsCells s.ents)
/-- All blocks that a state has. -/
def Lay.foot (L : Lay) (x : Nat) : Prop :=
  x = L.b ∨ x = L.kb ∨ x ∈ L.t.blocks ∨ x = L.sb ∨ x = L.mb ∨ L.tv.ownBlock = some x ∨ L.pv.ownBlock = some x ∨ L.sv.ownBlock = some x ∨ L.ev.ownBlock = some x
theorem FoldAt.frm {F : Nat → Prop} {w w' : World} {kb sb mb : Nat} {t : T} {l : List Sn} (h : FoldAt w kb sb mb t l) (f : Frm F w w') (h1 : ¬ F kb) (h2 : ∀ b ∈ t.blocks, ¬ F b) (h3 : ¬ F sb) (h4 : ¬ F mb) : FoldAt w' kb sb mb t l :=
  ⟨h.keys.frm f h1 h2, h.seen.frm f h3 h4⟩
theorem StAt.frm {F : Nat → Prop} {w w' : World} {L : Lay} {s : St} (h : StAt w L s) (f : Frm F w w') (hn : ∀ x, L.foot x → ¬ F x) : StAt w' L s :=
  ⟨h.blk.frm f (hn _ (.inl rfl)), h.fold.frm f (hn _ (.inr (.inl rfl))) (fun b hb => hn _ (.inr (.inr (.inl hb)))) (hn _ (.inr (.inr (.inr (.inl rfl))))) (hn _ (.inr (.inr (.inr (.inr (.inl rfl)))))),
    h.keys, own_frm h.tab f (fun b hb => hn _ (by unfold Lay.foot; simp [hb])), own_frm h.prs f (fun b hb => hn _ (by unfold Lay.foot; simp [hb])), own_frm h.sns f (fun b hb => hn _ (by unfold Lay.foot; simp [hb])), own_frm h.ens f (fun b hb => hn _ (by unfold Lay.foot; simp [hb]))⟩
theorem StAt.below {w w' : World} {L : Lay} {s : St} (h : StAt w L s) (f : Below w.heap.size w w') : StAt w' L s := h.frm (Frm.ofBelow (F := fun _ => False) f) (fun _ _ h => h)
theorem StAt.lt {w : World} {L : Lay} {s : St} (h : StAt w L s) : ∀ x, L.foot x → x < w.heap.size := by
  intro x hx
  have hk := h.fold.keys.lt
  rcases hx with rfl | rfl | hx | rfl | rfl | hx | hx | hx | hx
  · exact h.blk.lt
  · exact hk.1
  · exact hk.2 x hx
  · exact h.fold.seen.blk.lt
  · exact h.fold.seen.map.lt
  · exact own_lt h.tab hx
  · exact own_lt h.prs hx
  · exact own_lt h.sns hx
  · exact own_lt h.ens hx

def checkW (s : St) (e : Ent) : Int :=
  if s.closed = true then 10
  else if e.pos.i ≠ s.pos.i + 1 then 9
  else if 512 < e.pos.i then 5
  else if ¬ (e.pos.e = (atB s.table e.pos.i).e ∧ e.pos.i = (atB s.table e.pos.i).i) then 8
  else if numB e.s = false ∨ numB e.r = false ∨ (e.d = true ∧ e.t.toList ≠ []) then 1
  else if e.k.size < 1 ∨ 64 < e.k.size ∨ 1024 < e.t.size then 3
  else if (look 16 s.seen e.s e.r).1 = 2 ∨ (look 16 s.seen e.s e.r).1 = 3 then 13
  else if (look 16 s.seen e.s e.r).1 = 4 then 4 else 0

end Go.Proofs.Ytedcdjlpogpgbaa
