/- Words that all walks over this program share: what a frame leaves alone, what a block holds, the plain data of the program and how they lie in cells. -/
import Derived.Test.YtedcdjlpogpgbaaProg
import Derived.WalkKit
import Derived.WalkSpells
import Derived.WalkLawsBesides
import Derived.Deep.QuietTactic
import Derived.Deep.RegionWith
import Derived.Deep.DeepCutAuto
import Derived.Deep.CutBlock
import Derived.Deep.LoopGhost
import Derived.BigQuiet
import Derived.BigRegion
import Derived.ChangeAlike
import Derived.Lib.Hide
import Derived.Outline
set_option linter.unusedVariables false
set_option linter.unusedSimpArgs false
namespace Go.Proofs.Ytedcdjlpogpgbaa
open Go.RowKit

/-- Outside the blocks F the world is as it was; streams as they were; no block has gone. -/
structure Frm (F : Nat → Prop) (w w' : World) : Prop where
  os : w'.os = w.os
  tape : w'.tape = w.tape
  output : w'.output = w.output
  size : w.heap.size ≤ w'.heap.size
  block : ∀ k, k < w.heap.size → ¬ F k → w'.heap[k]? = w.heap[k]?

theorem Frm.refl (F : Nat → Prop) (w : World) : Frm F w w := ⟨rfl, rfl, rfl, Nat.le_refl _, fun _ _ _ => rfl⟩
theorem Frm.trans {F G : Nat → Prop} {a b c : World} (h : Frm F a b) (k : Frm G b c) (hs : ∀ i, i < a.heap.size → G i → F i) : Frm F a c :=
  ⟨k.os.trans h.os, k.tape.trans h.tape, k.output.trans h.output, Nat.le_trans h.size k.size,
    fun i hi hn => (k.block i (Nat.lt_of_lt_of_le hi h.size) (fun hg => hn (hs i hi hg))).trans (h.block i hi hn)⟩
theorem Frm.mono {F G : Nat → Prop} {a b : World} (h : Frm F a b) (hs : ∀ i, i < a.heap.size → F i → G i) : Frm G a b :=
  ⟨h.os, h.tape, h.output, h.size, fun i hi hn => h.block i hi (fun hf => hn (hs i hi hf))⟩
theorem Frm.ofBelow {F : Nat → Prop} {w w' : World} (h : Below w.heap.size w w') : Frm F w w' := ⟨h.os, h.tape, h.output, h.size, fun k hk _ => h.block k hk⟩
theorem Frm.below {F : Nat → Prop} {w w' : World} (h : Frm F w w') (hn : ∀ i, i < w.heap.size → ¬ F i) : Below w.heap.size w w' := ⟨h.os, h.tape, h.output, h.size, fun k hk => h.block k hk (hn k hk)⟩
theorem Frm.drew {F : Nat → Prop} {w w' : World} (h : Frm F w w') : Frm F w w'.drew := ⟨h.os, h.tape, h.output, h.size, h.block⟩
theorem Frm.drewN {F : Nat → Prop} {w w' : World} (h : Frm F w w') (n : Nat) : Frm F w (w'.drewN n) := ⟨h.os, h.tape, h.output, h.size, h.block⟩
theorem Frm.alloc {F : Nat → Prop} {w w' : World} (h : Frm F w w') (o : Obj) : Frm F w (w'.alloc o) :=
  ⟨h.os, h.tape, h.output, by have := h.size; simp; omega, fun k hk hn => (Below.heap_alloc _ _ _ (by have := h.size; omega)).trans (h.block k hk hn)⟩
theorem Frm.setCell {F : Nat → Prop} {w w' : World} (h : Frm F w w') {p : Addr} (hp : F p.block ∨ w.heap.size ≤ p.block) (u : Value) : Frm F w (w'.setCell p u) :=
  ⟨h.os, h.tape, h.output, by have := h.size; simp; omega, fun k hk hn => (Below.heap_setCell _ _ _ _ (by
    intro e; subst e; rcases hp with hp | hp
    · exact hn hp
    · omega)).trans (h.block k hk hn)⟩
theorem Frm.alike {F : Nat → Prop} {w w' w'' : World} (h : Frm F w w') (ha : w''.Alike w') (ht : w''.tape = w'.tape) : Frm F w w'' :=
  ⟨ha.2.1.trans h.os, ht.trans h.tape, ha.2.2.trans h.output, by rw [ha.1]; exact h.size, fun k hk hn => by rw [ha.1]; exact h.block k hk hn⟩
theorem Frm.cell {F : Nat → Prop} {w w' : World} (h : Frm F w w') {p : Addr} (hp : p.block < w.heap.size) (hn : ¬ F p.block) : w'.cell? p = w.cell? p := World.cell?_of_block (w := w) (h.block p.block hp hn)
theorem Frm.frozen {F : Nat → Prop} {w w' : World} (h : Frm F w w') {p : Addr} (hp : p.block < w.heap.size) (hn : ¬ F p.block) : w'.frozen? p = w.frozen? p := World.frozen?_of_block (w := w) (h.block p.block hp hn)

/-- Block b holds just these cells, free to be written. -/
def Blk (w : World) (b : Nat) (cs : Array Value) (t : TypeId) : Prop := w.heap[b]? = some (.cells cs t (0, 0))
theorem Blk.lt {w : World} {b : Nat} {cs : Array Value} {t : TypeId} (h : Blk w b cs t) : b < w.heap.size := (Array.getElem?_eq_some_iff.1 h).1
theorem Blk.cell {w : World} {b : Nat} {cs : Array Value} {t : TypeId} (h : Blk w b cs t) (i : Nat) : w.cell? ⟨b, i, none⟩ = cs[i]? := by
  unfold Blk at h; simp [World.cell?, h]
theorem Blk.free {w : World} {b : Nat} {cs : Array Value} {t : TypeId} (h : Blk w b cs t) (i : Nat) : w.frozen? ⟨b, i, none⟩ = false := by
  unfold Blk at h; simp [World.frozen?, h]
theorem Blk.frm {F : Nat → Prop} {w w' : World} {b : Nat} {cs : Array Value} {t : TypeId} (h : Blk w b cs t) (f : Frm F w w') (hn : ¬ F b) : Blk w' b cs t := (f.block b h.lt hn).trans h
theorem Blk.below {w w' : World} {b : Nat} {cs : Array Value} {t : TypeId} (h : Blk w b cs t) (f : Below w.heap.size w w') : Blk w' b cs t := (f.block b h.lt).trans h
theorem Blk.new (w : World) (cs : Array Value) (t : TypeId) : Blk (w.alloc (.cells cs t)) w.heap.size cs t := by
  unfold Blk
  show (w.heap.push _)[w.heap.size]? = _
  simp
theorem Blk.alloc {w : World} {b : Nat} {cs : Array Value} {t : TypeId} (h : Blk w b cs t) (o : Obj) : Blk (w.alloc o) b cs t := (Below.heap_alloc _ _ _ h.lt).trans h
theorem Blk.drew {w : World} {b : Nat} {cs : Array Value} {t : TypeId} (h : Blk w b cs t) : Blk w.drew b cs t := h
theorem Blk.drewN {w : World} {b : Nat} {cs : Array Value} {t : TypeId} (h : Blk w b cs t) (n : Nat) : Blk (w.drewN n) b cs t := h
theorem Blk.set {w : World} {b : Nat} {cs : Array Value} {t : TypeId} (h : Blk w b cs t) (i : Nat) (u : Value) : Blk (w.setCell ⟨b, i, none⟩ u) b (cs.setIfInBounds i u) t := by
  unfold Blk at *
  simp [World.setCell, Array.getElem?_modify, h]
theorem Blk.set_other {w : World} {b : Nat} {cs : Array Value} {t : TypeId} (h : Blk w b cs t) {p : Addr} (hp : p.block ≠ b) (u : Value) : Blk (w.setCell p u) b cs t := by
  unfold Blk at *
  rw [Below.heap_setCell _ _ _ _ (Ne.symm hp)]; exact h
theorem Blk.set' {w : World} {b : Nat} {cs cs' : Array Value} {t : TypeId} {i : Nat} {u : Value} (h : Blk w b cs t) (hi : cs.setIfInBounds i u = cs') : Blk (w.setCell ⟨b, i, none⟩ u) b cs' t := hi ▸ h.set i u
theorem Blk.new' {w : World} {b : Nat} {cs cs' : Array Value} {t : TypeId} (h : b = w.heap.size) (hc : cs = cs') : Blk (w.alloc (.cells cs t)) b cs' t := h ▸ hc ▸ Blk.new w cs t
theorem Blk.alike {w w' : World} {b : Nat} {cs : Array Value} {t : TypeId} (h : Blk w b cs t) (ha : w'.Alike w) : Blk w' b cs t := by
  unfold Blk at *; rw [ha.1]; exact h

theorem Addr.add_plain' (b j : Nat) : (⟨b, 0, none⟩ : Addr).add j = ⟨b, j, none⟩ := by unfold Addr.add; split <;> simp_all
/-- A variable of a struct type reads as the cells of its block. -/
def Loads (P : Program) (t : TypeId) (b : Nat) (v : Value) (w : World) : Prop := (loadVar t ⟨b, 0, none⟩).run P w = .ok v w
theorem loads_blk {P : Program} {t T : TypeId} {n b : Nat} {w : World} {cs : Array Value} (hA : ∀ w, (isAgg t).run P w = .ok true w) (hS : ∀ w, (sizeOf t).run P w = .ok n w) (h : Blk w b cs T) (hn : cs.size = n) : Loads P t b (.agg cs) w := by
  have hl := run_loadCells_list (P := P) w ⟨b, 0, none⟩ cs.toList (fun j v hj => by rw [Addr.add_plain', h.cell]; simpa using hj)
  have hl2 : (loadCells ⟨b, 0, none⟩ n).run P w = .ok cs w := by rw [← hn]; simpa using hl
  unfold Loads loadVar
  simp only [Sem.run_bind, hA, hS, Result.andThen_ok, if_true, hl2]
  rfl
theorem ret_cell {P : Program} {fn : Func} {R : Ending → World → Prop} {a : Act} {w : World} {p : Tmp} {ty : TypeId} {b : Nat} {v : Value} (hr : fn.results = #[.cell p ty]) (ha : a.tmps.getD p undef = .pointer (some ⟨b, 0, none⟩)) (hl : Loads P ty b v w) (hd : a.defers = [])
    (h : R (.returned v) w) : bodyPost P fn R .ret a w := by
  refine bodyPost_ret (v := v) ?_ hd h
  unfold Loads at hl
  have ha' : a.tmps[p]?.getD undef = .pointer (some ⟨b, 0, none⟩) := by simpa using ha
  simp only [results, hr]
  simp [Sem.run_bind, ha', asAddr, hl]
theorem ret_cell_tmp {P : Program} {fn : Func} {R : Ending → World → Prop} {a : Act} {w : World} {p u : Tmp} {ty : TypeId} {b : Nat} {v : Value} (hr : fn.results = #[.cell p ty, .tmp u]) (ha : a.tmps.getD p undef = .pointer (some ⟨b, 0, none⟩)) (hl : Loads P ty b v w) (hd : a.defers = [])
    (h : R (.returned (.tuple #[v, a.tmps.getD u undef])) w) : bodyPost P fn R .ret a w := by
  refine bodyPost_ret (v := .tuple #[v, a.tmps.getD u undef]) ?_ hd h
  unfold Loads at hl
  have ha' : a.tmps[p]?.getD undef = .pointer (some ⟨b, 0, none⟩) := by simpa using ha
  simp only [results, hr]
  simp [Sem.run_bind, ha', asAddr, hl]
theorem ret_tmp_cell {P : Program} {fn : Func} {R : Ending → World → Prop} {a : Act} {w : World} {p u : Tmp} {ty : TypeId} {b : Nat} {v : Value} (hr : fn.results = #[.tmp u, .cell p ty]) (ha : a.tmps.getD p undef = .pointer (some ⟨b, 0, none⟩)) (hl : Loads P ty b v w) (hd : a.defers = [])
    (h : R (.returned (.tuple #[a.tmps.getD u undef, v])) w) : bodyPost P fn R .ret a w := by
  refine bodyPost_ret (v := .tuple #[a.tmps.getD u undef, v]) ?_ hd h
  unfold Loads at hl
  have ha' : a.tmps[p]?.getD undef = .pointer (some ⟨b, 0, none⟩) := by simpa using ha
  simp only [results, hr]
  simp [Sem.run_bind, ha', asAddr, hl]
theorem ret_tmp_cell_tmp {P : Program} {fn : Func} {R : Ending → World → Prop} {a : Act} {w : World} {p u u2 : Tmp} {ty : TypeId} {b : Nat} {v : Value} (hr : fn.results = #[.tmp u, .cell p ty, .tmp u2]) (ha : a.tmps.getD p undef = .pointer (some ⟨b, 0, none⟩)) (hl : Loads P ty b v w) (hd : a.defers = [])
    (h : R (.returned (.tuple #[a.tmps.getD u undef, v, a.tmps.getD u2 undef])) w) : bodyPost P fn R .ret a w := by
  refine bodyPost_ret (v := .tuple #[a.tmps.getD u undef, v, a.tmps.getD u2 undef]) ?_ hd h
  unfold Loads at hl
  have ha' : a.tmps[p]?.getD undef = .pointer (some ⟨b, 0, none⟩) := by simpa using ha
  simp only [results, hr]
  simp [Sem.run_bind, ha', asAddr, hl]

theorem ret_of {v v' : Value} (h : v = v') : Ending.returned v = .returned v' := by rw [h]

end Go.Proofs.Ytedcdjlpogpgbaa
