/- Words that all walks over this program share: what a frame leaves alone, what a block holds, the plain data of the program and how they lie in cells. -/
import Derived.Test.YtedcdjlpogpgbaaProg
import Derived.WalkKit
import Derived.WalkSpells
import Derived.WalkLawsBesides
import Derived.Deep.QuietTactic
import Derived.Deep.RegionWith
import Derived.Deep.DeepCutAuto
import Derived.Deep.CutBlock
import Derived.Deep.LoopGhost
import Derived.BigQuiet
import Derived.BigRegion
import Derived.ChangeAlike
import Derived.Lib.Hide
import Derived.Outline
import Derived.Maps.RangeRun
set_option linter.unusedVariables false
set_option linter.unusedSimpArgs false
namespace Go.Proofs.Ytedcdjlpogpgbaa
open Go.RowKit

/-- Outside the blocks F the world is as it was; streams as they were; no block has gone. -/
structure Frm (F : Nat → Prop) (w w' : World) : Prop where
  os : w'.os = w.os
  tape : w'.tape = w.tape
  output : w'.output = w.output
  size : w.heap.size ≤ w'.heap.size
  block : ∀ k, k < w.heap.size → ¬ F k → w'.heap[k]? = w.heap[k]?

theorem Frm.refl (F : Nat → Prop) (w : World) : Frm F w w := ⟨rfl, rfl, rfl, Nat.le_refl _, fun _ _ _ => rfl⟩
theorem Frm.trans {F G : Nat → Prop} {a b c : World} (h : Frm F a b) (k : Frm G b c) (hs : ∀ i, i < a.heap.size → G i → F i) : Frm F a c :=
  ⟨k.os.trans h.os, k.tape.trans h.tape, k.output.trans h.output, Nat.le_trans h.size k.size,
    fun i hi hn => (k.block i (Nat.lt_of_lt_of_le hi h.size) (fun hg => hn (hs i hi hg))).trans (h.block i hi hn)⟩
theorem Frm.mono {F G : Nat → Prop} {a b : World} (h : Frm F a b) (hs : ∀ i, i < a.heap.size → F i → G i) : Frm G a b :=
  ⟨h.os, h.tape, h.output, h.size, fun i hi hn => h.block i hi (fun hf => hn (hs i hi hf))⟩
theorem Frm.ofBelow {F : Nat → Prop} {w w' : World} (h : Below w.heap.size w w') : Frm F w w' := ⟨h.os, h.tape, h.output, h.size, fun k hk _ => h.block k hk⟩
theorem Frm.below {F : Nat → Prop} {w w' : World} (h : Frm F w w') (hn : ∀ i, i < w.heap.size → ¬ F i) : Below w.heap.size w w' := ⟨h.os, h.tape, h.output, h.size, fun k hk => h.block k hk (hn k hk)⟩
theorem Frm.drew {F : Nat → Prop} {w w' : World} (h : Frm F w w') : Frm F w w'.drew := ⟨h.os, h.tape, h.output, h.size, h.block⟩
theorem Frm.drewN {F : Nat → Prop} {w w' : World} (h : Frm F w w') (n : Nat) : Frm F w (w'.drewN n) := ⟨h.os, h.tape, h.output, h.size, h.block⟩
theorem Frm.alloc {F : Nat → Prop} {w w' : World} (h : Frm F w w') (o : Obj) : Frm F w (w'.alloc o) :=
  ⟨h.os, h.tape, h.output, by have := h.size; simp; omega, fun k hk hn => (Below.heap_alloc _ _ _ (by have := h.size; omega)).trans (h.block k hk hn)⟩
theorem Frm.setCell {F : Nat → Prop} {w w' : World} (h : Frm F w w') {p : Addr} (hp : F p.block ∨ w.heap.size ≤ p.block) (u : Value) : Frm F w (w'.setCell p u) :=
  ⟨h.os, h.tape, h.output, by have := h.size; simp; omega, fun k hk hn => (Below.heap_setCell _ _ _ _ (by
    intro e; subst e; rcases hp with hp | hp
    · exact hn hp
    · omega)).trans (h.block k hk hn)⟩
theorem Frm.alike {F : Nat → Prop} {w w' w'' : World} (h : Frm F w w') (ha : w''.Alike w') (ht : w''.tape = w'.tape) : Frm F w w'' :=
  ⟨ha.2.1.trans h.os, ht.trans h.tape, ha.2.2.trans h.output, by rw [ha.1]; exact h.size, fun k hk hn => by rw [ha.1]; exact h.block k hk hn⟩
theorem Frm.cell {F : Nat → Prop} {w w' : World} (h : Frm F w w') {p : Addr} (hp : p.block < w.heap.size) (hn : ¬ F p.block) : w'.cell? p = w.cell? p := World.cell?_of_block (w := w) (h.block p.block hp hn)
theorem Frm.frozen {F : Nat → Prop} {w w' : World} (h : Frm F w w') {p : Addr} (hp : p.block < w.heap.size) (hn : ¬ F p.block) : w'.frozen? p = w.frozen? p := World.frozen?_of_block (w := w) (h.block p.block hp hn)

/-- Block b holds just these cells, free to be written. -/
def Blk (w : World) (b : Nat) (cs : Array Value) (t : TypeId) : Prop := w.heap[b]? = some (.cells cs t (0, 0))
theorem Blk.lt {w : World} {b : Nat} {cs : Array Value} {t : TypeId} (h : Blk w b cs t) : b < w.heap.size := (Array.getElem?_eq_some_iff.1 h).1
theorem Blk.cell {w : World} {b : Nat} {cs : Array Value} {t : TypeId} (h : Blk w b cs t) (i : Nat) : w.cell? ⟨b, i, none⟩ = cs[i]? := by
  unfold Blk at h; simp [World.cell?, h]
theorem Blk.free {w : World} {b : Nat} {cs : Array Value} {t : TypeId} (h : Blk w b cs t) (i : Nat) : w.frozen? ⟨b, i, none⟩ = false := by
  unfold Blk at h; simp [World.frozen?, h]
theorem Blk.frm {F : Nat → Prop} {w w' : World} {b : Nat} {cs : Array Value} {t : TypeId} (h : Blk w b cs t) (f : Frm F w w') (hn : ¬ F b) : Blk w' b cs t := (f.block b h.lt hn).trans h
theorem Blk.below {w w' : World} {b : Nat} {cs : Array Value} {t : TypeId} (h : Blk w b cs t) (f : Below w.heap.size w w') : Blk w' b cs t := (f.block b h.lt).trans h
theorem Blk.new (w : World) (cs : Array Value) (t : TypeId) : Blk (w.alloc (.cells cs t)) w.heap.size cs t := by
  unfold Blk
  show (w.heap.push _)[w.heap.size]? = _
  simp
theorem Blk.alloc {w : World} {b : Nat} {cs : Array Value} {t : TypeId} (h : Blk w b cs t) (o : Obj) : Blk (w.alloc o) b cs t := (Below.heap_alloc _ _ _ h.lt).trans h
theorem Blk.drew {w : World} {b : Nat} {cs : Array Value} {t : TypeId} (h : Blk w b cs t) : Blk w.drew b cs t := h
theorem Blk.drewN {w : World} {b : Nat} {cs : Array Value} {t : TypeId} (h : Blk w b cs t) (n : Nat) : Blk (w.drewN n) b cs t := h
theorem Blk.set {w : World} {b : Nat} {cs : Array Value} {t : TypeId} (h : Blk w b cs t) (i : Nat) (u : Value) : Blk (w.setCell ⟨b, i, none⟩ u) b (cs.setIfInBounds i u) t := by
  unfold Blk at *
  simp [World.setCell, Array.getElem?_modify, h]
theorem Blk.set_other {w : World} {b : Nat} {cs : Array Value} {t : TypeId} (h : Blk w b cs t) {p : Addr} (hp : p.block ≠ b) (u : Value) : Blk (w.setCell p u) b cs t := by
  unfold Blk at *
  rw [Below.heap_setCell _ _ _ _ (Ne.symm hp)]; exact h
theorem Blk.set' {w : World} {b : Nat} {cs cs' : Array Value} {t : TypeId} {i : Nat} {u : Value} (h : Blk w b cs t) (hi : cs.setIfInBounds i u = cs') : Blk (w.setCell ⟨b, i, none⟩ u) b cs' t := hi ▸ h.set i u
theorem Blk.new' {w : World} {b : Nat} {cs cs' : Array Value} {t : TypeId} (h : b = w.heap.size) (hc : cs = cs') : Blk (w.alloc (.cells cs t)) b cs' t := h ▸ hc ▸ Blk.new w cs t
theorem Blk.alike {w w' : World} {b : Nat} {cs : Array Value} {t : TypeId} (h : Blk w b cs t) (ha : w'.Alike w) : Blk w' b cs t := by
  unfold Blk at *; rw [ha.1]; exact h

theorem Addr.add_plain' (b j : Nat) : (⟨b, 0, none⟩ : Addr).add j = ⟨b, j, none⟩ := by unfold Addr.add; split <;> simp_all
/-- A variable of a struct type reads as the cells of its block. -/
def Loads (P : Program) (t : TypeId) (b : Nat) (v : Value) (w : World) : Prop := (loadVar t ⟨b, 0, none⟩).run P w = .ok v w
theorem loads_blk {P : Program} {t T : TypeId} {n b : Nat} {w : World} {cs : Array Value} (hA : ∀ w, (isAgg t).run P w = .ok true w) (hS : ∀ w, (sizeOf t).run P w = .ok n w) (h : Blk w b cs T) (hn : cs.size = n) : Loads P t b (.agg cs) w := by
  have hl := run_loadCells_list (P := P) w ⟨b, 0, none⟩ cs.toList (fun j v hj => by rw [Addr.add_plain', h.cell]; simpa using hj)
  have hl2 : (loadCells ⟨b, 0, none⟩ n).run P w = .ok cs w := by rw [← hn]; simpa using hl
  unfold Loads loadVar
  simp only [Sem.run_bind, hA, hS, Result.andThen_ok, if_true, hl2]
  rfl
theorem ret_cell {P : Program} {fn : Func} {R : Ending → World → Prop} {a : Act} {w : World} {p : Tmp} {ty : TypeId} {b : Nat} {v : Value} (hr : fn.results = #[.cell p ty]) (ha : a.tmps.getD p undef = .pointer (some ⟨b, 0, none⟩)) (hl : Loads P ty b v w) (hd : a.defers = [])
    (h : R (.returned v) w) : bodyPost P fn R .ret a w := by
  refine bodyPost_ret (v := v) ?_ hd h
  unfold Loads at hl
  have ha' : a.tmps[p]?.getD undef = .pointer (some ⟨b, 0, none⟩) := by simpa using ha
  simp only [results, hr]
  simp [Sem.run_bind, ha', asAddr, hl]
theorem ret_cell_tmp {P : Program} {fn : Func} {R : Ending → World → Prop} {a : Act} {w : World} {p u : Tmp} {ty : TypeId} {b : Nat} {v : Value} (hr : fn.results = #[.cell p ty, .tmp u]) (ha : a.tmps.getD p undef = .pointer (some ⟨b, 0, none⟩)) (hl : Loads P ty b v w) (hd : a.defers = [])
    (h : R (.returned (.tuple #[v, a.tmps.getD u undef])) w) : bodyPost P fn R .ret a w := by
  refine bodyPost_ret (v := .tuple #[v, a.tmps.getD u undef]) ?_ hd h
  unfold Loads at hl
  have ha' : a.tmps[p]?.getD undef = .pointer (some ⟨b, 0, none⟩) := by simpa using ha
  simp only [results, hr]
  simp [Sem.run_bind, ha', asAddr, hl]
theorem ret_tmp_cell {P : Program} {fn : Func} {R : Ending → World → Prop} {a : Act} {w : World} {p u : Tmp} {ty : TypeId} {b : Nat} {v : Value} (hr : fn.results = #[.tmp u, .cell p ty]) (ha : a.tmps.getD p undef = .pointer (some ⟨b, 0, none⟩)) (hl : Loads P ty b v w) (hd : a.defers = [])
    (h : R (.returned (.tuple #[a.tmps.getD u undef, v])) w) : bodyPost P fn R .ret a w := by
  refine bodyPost_ret (v := .tuple #[a.tmps.getD u undef, v]) ?_ hd h
  unfold Loads at hl
  have ha' : a.tmps[p]?.getD undef = .pointer (some ⟨b, 0, none⟩) := by simpa using ha
  simp only [results, hr]
  simp [Sem.run_bind, ha', asAddr, hl]
theorem ret_tmp_cell_tmp {P : Program} {fn : Func} {R : Ending → World → Prop} {a : Act} {w : World} {p u u2 : Tmp} {ty : TypeId} {b : Nat} {v : Value} (hr : fn.results = #[.tmp u, .cell p ty, .tmp u2]) (ha : a.tmps.getD p undef = .pointer (some ⟨b, 0, none⟩)) (hl : Loads P ty b v w) (hd : a.defers = [])
    (h : R (.returned (.tuple #[a.tmps.getD u undef, v, a.tmps.getD u2 undef])) w) : bodyPost P fn R .ret a w := by
  refine bodyPost_ret (v := .tuple #[a.tmps.getD u undef, v, a.tmps.getD u2 undef]) ?_ hd h
  unfold Loads at hl
  have ha' : a.tmps[p]?.getD undef = .pointer (some ⟨b, 0, none⟩) := by simpa using ha
  simp only [results, hr]
  simp [Sem.run_bind, ha', asAddr, hl]

theorem ret_of {v v' : Value} (h : v = v') : Ending.returned v = .returned v' := by rw [h]

end Go.Proofs.Ytedcdjlpogpgbaa

/- What the operations on a map whose keys are ints come to, and what the map then holds. -/
set_option linter.unusedVariables false
set_option linter.unusedSimpArgs false
namespace Go.Proofs.Ytedcdjlpogpgbaa
open Go.RowKit
open Go.ChangeMaps (setBlock)

/-- Block b is a map with these keys and values, in the order in which they came. -/
structure MpOf (es : Array MapEntry) (clock : Nat) (l : List (Value × Value)) : Prop where
  list : es.toList.map (fun e => (e.key, e.val)) = l
  born : (es.toList.map (·.born)).Pairwise (· < ·)
  old : ∀ x ∈ es.toList, x.born < clock
def MpAt (w : World) (b : Nat) (l : List (Value × Value)) : Prop := ∃ es clock, w.heap[b]? = some (.map es clock) ∧ MpOf es clock l

theorem MpAt.lt {w : World} {b : Nat} {l : List (Value × Value)} (h : MpAt w b l) : b < w.heap.size := by
  obtain ⟨es, clock, h, _⟩ := h; exact (Array.getElem?_eq_some_iff.1 h).1
theorem MpAt.frm {F : Nat → Prop} {w w' : World} {b : Nat} {l : List (Value × Value)} (h : MpAt w b l) (f : Frm F w w') (hn : ¬ F b) : MpAt w' b l := by
  have hl := h.lt
  obtain ⟨es, clock, h, k⟩ := h; exact ⟨es, clock, (f.block b hl hn).trans h, k⟩
theorem MpAt.new (w : World) : MpAt (w.alloc (.map #[] 0)) w.heap.size [] := by
  refine ⟨#[], 0, ?_, rfl, by simp, by simp⟩
  show (w.heap.push _)[w.heap.size]? = _
  simp
theorem MpAt.new' {w : World} {b : Nat} (h : b = w.heap.size) : MpAt (w.alloc (.map #[] 0)) b [] := h ▸ MpAt.new w
theorem MpAt.alloc {w : World} {b : Nat} {l : List (Value × Value)} (h : MpAt w b l) (o : Obj) : MpAt (w.alloc o) b l := h.frm (F := fun _ => False) ((Frm.refl _ w).alloc o) (fun h => h)

def keyIs (s : Int) (p : Value × Value) : Bool := match p.1 with | .int _ n => n == s | _ => false
def Ints (l : List (Value × Value)) : Prop := ∀ p ∈ l, ∃ n, p.1 = .int .i64 n
def findI (s : Int) (l : List (Value × Value)) : Option Value := (l.find? (keyIs s)).map (·.2)
def updI (s : Int) (v : Value) (l : List (Value × Value)) : List (Value × Value) :=
  if (findI s l).isSome = true then l.map (fun p => if keyIs s p = true then (.int .i64 s, v) else p) else l ++ [(.int .i64 s, v)]

theorem findNow_int (s : Int) : ∀ (es : List MapEntry) (i : Nat), Ints (es.map (fun e => (e.key, e.val))) →
    ∃ r, Instr.findNow (.int .i64) (.int .i64 s) es i = some r ∧ r.map (·.2) = findI s (es.map (fun e => (e.key, e.val))) ∧
      (∀ j v, r = some (j, v) → i ≤ j ∧ ∃ e, es[j - i]? = some e ∧ e.key = .int .i64 s ∧ ∀ k, k < j - i → ∀ e', es[k]? = some e' → e'.key ≠ .int .i64 s)
  | [], i, _ => ⟨none, rfl, rfl, fun _ _ h => by cases h⟩
  | e :: es, i, h => by
    obtain ⟨n, hn⟩ := h (e.key, e.val) (by simp)
    simp only at hn
    by_cases he : n = s
    · subst he
      refine ⟨some (i, e.val), ?_, ?_, ?_⟩
      · simp [Instr.findNow, Instr.sameNow, hn]
      · simp [findI, keyIs, hn]
      · rintro j v hj
        simp only [Option.some.injEq, Prod.mk.injEq] at hj
        obtain ⟨rfl, rfl⟩ := hj
        refine ⟨Nat.le_refl _, e, by simp, hn, fun k hk => by omega⟩
    · obtain ⟨r, h1, h2, h3⟩ := findNow_int s es (i + 1) (fun p hp => h p (by simp only [List.map_cons, List.mem_cons]; exact .inr hp))
      refine ⟨r, ?_, ?_, ?_⟩
      · have : (s == n) = false := by rw [beq_eq_false_iff_ne]; omega
        simp [Instr.findNow, Instr.sameNow, hn, this, h1]
      · rw [h2]; simp [findI, keyIs, hn, he]
      · intro j v hj
        obtain ⟨g1, e', g2, g3, g4⟩ := h3 j v hj
        refine ⟨by omega, e', ?_, g3, ?_⟩
        · rw [show j - i = (j - (i + 1)) + 1 from by omega]; simpa using g2
        · intro k hk e'' he''
          cases k with
          | zero => simp at he''; subst he''; rw [hn]; intro h; injection h with _ h; exact he h
          | succ k => exact g4 k (by omega) e'' (by simpa using he'')

variable {P : Program} {t k e : TypeId}
theorem run_findKey_int {w : World} {es : Array MapEntry} (hk : P.underlying k = some (.int .i64)) (s : Int) {r : Option (Nat × Value)} (h : Instr.findNow (.int .i64) (.int .i64 s) es.toList 0 = some r) :
    (Instr.findKey k (.int .i64 s) es.toList).run P w = .ok r w := by
  simp [Instr.findKey, Sem.run_bind, run_underlying hk, h]
theorem run_checkKey_int {w : World} (hk : P.underlying k = some (.int .i64)) (b : Bool) (s : Int) : (Instr.checkKey b 10000 k (.int .i64 s)).run P w = .ok () w := by
  rw [show (10000 : Nat) = 9999 + 1 from rfl, Instr.checkKey]
  simp [Sem.run_bind, run_underlying hk]

theorem run_lookup_int (ht : P.underlying t = some (.map k e)) (hk : P.underlying k = some (.int .i64)) {z : Value} (hz : ∀ w, (zeroValue e).run P w = .ok z w) {w : World} {b : Nat} {l : List (Value × Value)} (h : MpAt w b l) (hi : Ints l) (s : Int) :
    (Instr.lookup t (.map (some b)) (.int .i64 s) true).run P w = .ok (.tuple #[(findI s l).getD z, .bool (findI s l).isSome]) w := by
  obtain ⟨es, clock, hb, hl, hbn, ho⟩ := h
  subst hl
  obtain ⟨r, h1, h2, _⟩ := findNow_int s es.toList 0 hi
  rw [← h2]
  have hg : (getObj b).run P w = .ok (.map es clock) w := run_getObj_map _ b es clock hb
  have hc : (Instr.checkKey es.isEmpty 10000 k (.int .i64 s)).run P w = .ok () w := run_checkKey_int hk _ _
  have hf := run_findKey_int (P := P) (w := w) hk s h1
  cases r with
  | none => simp [Instr.lookup, Sem.run_bind, run_underlying ht, hg, hc, hf, hz]
  | some q => simp [Instr.lookup, Sem.run_bind, run_underlying ht, hg, hc, hf]

theorem run_len_map (ht : P.underlying t = some (.map k e)) {w : World} {b : Nat} {l : List (Value × Value)} (h : MpAt w b l) (ty : TypeId) : (Builtin.len_ #[t] ty #[.map (some b)]).run P w = .ok (.int .i64 l.length) w := by
  obtain ⟨es, clock, hb, hl, hbn, ho⟩ := h
  subst hl
  have hg : (getObj b).run P w = .ok (.map es clock) w := run_getObj_map _ b es clock hb
  simp [Builtin.len_, Sem.run_bind, run_underlying ht, hg, goInt]

theorem frm_setBlock (w : World) (b : Nat) (o : Obj) : Frm (· = b) w (setBlock w b o) :=
  ⟨rfl, rfl, rfl, by simp [setBlock], fun i hi hn => by simp only [setBlock, Array.getElem?_setIfInBounds]; rw [if_neg (fun h => hn h.symm)]⟩
theorem get_setBlock {w : World} {b : Nat} (o : Obj) (h : b < w.heap.size) : (setBlock w b o).heap[b]? = some o := by simp [setBlock, h]

theorem findI_none {s : Int} {l : List (Value × Value)} : (findI s l).isSome = l.any (keyIs s) := by
  unfold findI
  induction l with
  | nil => rfl
  | cons p l ih => simp only [List.find?_cons, List.any_cons]; cases keyIs s p <;> simp_all

theorem born_modify (es : Array MapEntry) (j : Nat) (k v : Value) : (es.modify j (fun e => { e with key := k, val := v })).toList.map (·.born) = es.toList.map (·.born) := by
  apply List.ext_getElem
  · simp
  · intro i h1 h2
    simp only [Array.toList_modify, List.getElem_map]
    rw [List.getElem_modify]
    split <;> rfl
theorem mpOf_push {es : Array MapEntry} {clock : Nat} {l : List (Value × Value)} (h : MpOf es clock l) (k v : Value) : MpOf (es.push { key := k, val := v, born := clock }) (clock + 1) (l ++ [(k, v)]) := by
  refine ⟨by simp [h.list], ?_, ?_⟩
  · rw [Array.toList_push, List.map_append, List.pairwise_append]
    refine ⟨h.born, by simp, ?_⟩
    intro a ha b hb
    simp only [List.mem_map] at ha
    obtain ⟨x, hx, rfl⟩ := ha
    simp at hb
    subst hb
    exact h.old x hx
  · intro x hx
    simp only [Array.toList_push, List.mem_append, List.mem_singleton] at hx
    rcases hx with hx | rfl
    · have := h.old x hx; omega
    · simp
theorem keyIs_iff {s : Int} {p : Value × Value} (h : ∃ n, p.1 = .int .i64 n) : keyIs s p = true ↔ p.1 = .int .i64 s := by
  obtain ⟨n, hn⟩ := h
  simp [keyIs, hn]

theorem run_mapUpdate_int (ht : P.underlying t = some (.map k e)) (hk : P.underlying k = some (.int .i64)) {w : World} {b : Nat} {l : List (Value × Value)} (h : MpAt w b l) (hi : Ints l) (hn : (l.map (·.1)).Pairwise (· ≠ ·)) (s : Int) (v : Value) :
    ∃ o, (Instr.mapUpdate t (.map (some b)) (.int .i64 s) v).run P w = .ok () (setBlock w b o) ∧ MpAt (setBlock w b o) b (updI s v l) := by
  have hlt := h.lt
  obtain ⟨es, clock, hb, hm⟩ := h
  have hl := hm.list
  subst hl
  obtain ⟨r, h1, h2, h3⟩ := findNow_int s es.toList 0 hi
  have hg : (getObj b).run P w = .ok (.map es clock) w := run_getObj_map _ b es clock hb
  have hc : (Instr.checkKey false 10000 k (.int .i64 s)).run P w = .ok () w := run_checkKey_int hk _ _
  have hf := run_findKey_int (P := P) (w := w) hk s h1
  have hset : ∀ o, (setObj b o).run P w = .ok () (setBlock w b o) := by intro o; simp [setObj, Sem.run, hb, setBlock]
  cases r with
  | none =>
    refine ⟨.map (es.push { key := .int .i64 s, val := v, born := clock }) (clock + 1), ?_, _, _, get_setBlock _ hlt, ?_⟩
    · simp [Instr.mapUpdate, Sem.run_bind, run_underlying ht, hg, hc, hf, hset]
    · have : updI s v (es.toList.map (fun e => (e.key, e.val))) = es.toList.map (fun e => (e.key, e.val)) ++ [(.int .i64 s, v)] := by
        unfold updI; rw [← h2]; simp
      rw [this]; exact mpOf_push hm _ _
  | some q =>
    obtain ⟨j, v0⟩ := q
    obtain ⟨_, e0, g2, g3, g4⟩ := h3 j v0 rfl
    simp only [Nat.sub_zero] at g2 g4
    have g2' : es[j]? = some e0 := by simpa using g2
    refine ⟨.map (es.modify j fun e => { e with key := .int .i64 s, val := v }) clock, ?_, _, _, get_setBlock _ hlt, ?_⟩
    · have hsb : (Instr.keyThatStays (.int .i64 s) (.int .i64 s)).run P w = .ok (.int .i64 s) w := by
        simp only [Instr.keyThatStays]
        rw [show Instr.sameBits 10000 (.int .i64 s) (.int .i64 s) = true by rw [show (10000 : Nat) = 9999 + 1 from rfl]; simp [Instr.sameBits]]
        simp
      simp [Instr.mapUpdate, Sem.run_bind, run_underlying ht, hg, hc, hf, g2', g3, hsb, hset]
    · have hu : updI s v (es.toList.map (fun e => (e.key, e.val))) = (es.toList.map (fun e => (e.key, e.val))).map (fun p => if keyIs s p = true then (.int .i64 s, v) else p) := by
        unfold updI; rw [← h2]; simp
      rw [hu]
      refine ⟨?_, by rw [born_modify]; exact hm.born, ?_⟩
      · apply List.ext_getElem
        · simp
        · intro i i1 i2
          simp only [Array.toList_modify, List.getElem_map]
          rw [List.getElem_modify]
          have hik : i < es.toList.length := by simpa using i1
          have hex : ∃ n, (es.toList[i].key, es.toList[i].val).1 = .int .i64 n := hi _ (List.mem_map.2 ⟨_, List.getElem_mem hik, rfl⟩)
          by_cases hij : j = i
          · subst hij
            have : es.toList[j] = e0 := by have := g2; rw [List.getElem?_eq_getElem hik] at this; exact Option.some.inj this
            rw [if_pos rfl, if_pos ((keyIs_iff hex).2 (by rw [this]; exact g3))]
          · rw [if_neg hij, if_neg]
            intro hkey
            have hkey' := (keyIs_iff hex).1 hkey
            simp only at hkey'
            have hjl : j < es.toList.length := by
              rcases Nat.lt_or_ge j es.toList.length with h | h
              · exact h
              · rw [List.getElem?_eq_none h] at g2; cases g2
            have ej : es.toList[j].key = .int .i64 s := by
              have := g2; rw [List.getElem?_eq_getElem hjl] at this; rw [Option.some.inj this]; exact g3
            rw [List.map_map] at hn
            rw [List.pairwise_map] at hn
            rw [List.pairwise_iff_getElem] at hn
            rcases Nat.lt_or_ge i j with hlt2 | hge
            · exact hn i j hik hjl hlt2 (by show es.toList[i].key = es.toList[j].key; rw [hkey', ej])
            · exact hn j i hjl hik (by omega) (by show es.toList[j].key = es.toList[i].key; rw [hkey', ej])
      · intro x hx
        have hx2 : x.born ∈ (es.modify j fun e => { e with key := .int .i64 s, val := v }).toList.map (·.born) := List.mem_map.2 ⟨x, hx, rfl⟩
        rw [born_modify] at hx2
        obtain ⟨y, hy, hye⟩ := List.mem_map.1 hx2
        rw [← hye]; exact hm.old y hy

theorem run_clear_map (ht : P.underlying t = some (.map k e)) {w : World} {b : Nat} {l : List (Value × Value)} (h : MpAt w b l) :
    ∃ o, (∀ ty, (Builtin.clear_ #[t] ty #[.map (some b)]).run P w = .ok (.tuple #[]) (setBlock w b o)) ∧ MpAt (setBlock w b o) b [] := by
  have hlt := h.lt
  obtain ⟨es, clock, hb, hm⟩ := h
  have hg : (getObj b).run P w = .ok (.map es clock) w := run_getObj_map _ b es clock hb
  have hset : ∀ o, (setObj b o).run P w = .ok () (setBlock w b o) := by intro o; simp [setObj, Sem.run, hb, setBlock]
  refine ⟨.map #[] clock, fun ty => ?_, #[], clock, get_setBlock _ hlt, rfl, by simp, by simp⟩
  simp [Builtin.clear_, Sem.run_bind, run_underlying ht, hg, hset]

end Go.Proofs.Ytedcdjlpogpgbaa

/- Layer 5's tree, as plain data and in memory: its turns (skew, split) and the putting in of a key keep it a search tree. -/
set_option linter.unusedVariables false
set_option linter.unusedSimpArgs false
namespace Go.Proofs.Ytedcdjlpogpgbaa
open Go.RowKit

structure Pos where
  e : Int
  i : Int
structure Val where
  pos : Pos
  th : Bool
  t : ByteArray

/-- The tree; b: the block in which a place lies. -/
inductive T where
  | nil
  | node (b : Nat) (k : ByteArray) (v : Val) (lev : Int) (l r : T)

def T.ptr : T → Option Addr
  | .nil => none
  | .node b _ _ _ _ _ => some ⟨b, 0, none⟩
def placeCells (k : ByteArray) (v : Val) (lev : Int) (l r : Option Addr) : Array Value :=
  #[.string k, .int .i64 v.pos.e, .int .i64 v.pos.i, .bool v.th, .string v.t, .int .i64 lev, .pointer l, .pointer r]
def T.At (w : World) : T → Prop
  | .nil => True
  | .node b k v lev l r => Blk w b (placeCells k v lev l.ptr r.ptr) 157 ∧ l.At w ∧ r.At w
def T.blocks : T → List Nat
  | .nil => []
  | .node b _ _ _ l r => b :: (l.blocks ++ r.blocks)
def T.list : T → List (ByteArray × Val)
  | .nil => []
  | .node _ k v _ l r => l.list ++ (k, v) :: r.list

theorem T.At.lt {w : World} : ∀ {t : T}, t.At w → ∀ b ∈ t.blocks, b < w.heap.size
  | .nil, _, b, hb => by simp [T.blocks] at hb
  | .node c k v lev l r, h, b, hb => by
    simp only [T.blocks, List.mem_cons, List.mem_append] at hb
    rcases hb with rfl | hb | hb
    · exact h.1.lt
    · exact h.2.1.lt b hb
    · exact h.2.2.lt b hb
theorem T.At.frm {F : Nat → Prop} {w w' : World} (f : Frm F w w') : ∀ {t : T}, t.At w → (∀ b ∈ t.blocks, ¬ F b) → t.At w'
  | .nil, _, _ => trivial
  | .node c k v lev l r, h, hn => by
    simp only [T.blocks, List.mem_cons, List.mem_append] at hn
    exact ⟨h.1.frm f (hn _ (.inl rfl)), T.At.frm f h.2.1 (fun b hb => hn _ (.inr (.inl hb))), T.At.frm f h.2.2 (fun b hb => hn _ (.inr (.inr hb)))⟩

def T.skew : T → T
  | .node b k v lev (.node b2 k2 v2 lev2 l2 r2) r => if (lev2 == lev) = true then .node b2 k2 v2 lev2 l2 (.node b k v lev r2 r) else .node b k v lev (.node b2 k2 v2 lev2 l2 r2) r
  | t => t
def T.split : T → T
  | .node b k v lev l (.node b2 k2 v2 lev2 l2 (.node b3 k3 v3 lev3 l3 r3)) =>
    if (lev3 == lev) = true then .node b2 k2 v2 (wrap64 (lev2 + 1)) (.node b k v lev l l2) (.node b3 k3 v3 lev3 l3 r3)
    else .node b k v lev l (.node b2 k2 v2 lev2 l2 (.node b3 k3 v3 lev3 l3 r3))
  | t => t

set_option maxHeartbeats 400000 in
theorem skew_nil (w : World) :
    Calls Try.prog 95 #[.pointer none] w fun e w' => e = .returned (.pointer none) ∧ Below w.heap.size w w' := by
  go_enter Try.func95, Try.ntmps95
  go_wp2
  go_quiet (fail)
  go_wp2
  go_ret
  exact ⟨rfl, below_drewN (Below.refl _ _) _⟩

set_option maxHeartbeats 400000 in
theorem skew_lnil (w : World) (b : Nat) (h3 : w.cell? ⟨b, 6, none⟩ = some (.pointer none)) :
    Calls Try.prog 95 #[.pointer (some ⟨b, 0, none⟩)] w fun e w' => e = .returned (.pointer (some ⟨b, 0, none⟩)) ∧ Below w.heap.size w w' := by
  go_enter Try.func95, Try.ntmps95
  go_wp2
  go_quiet (fail)
  go_wp2
  go_ret
  exact ⟨rfl, below_drewN (Below.refl _ _) _⟩

set_option maxHeartbeats 400000 in
theorem skew_lev (w : World) (b l : Nat) (n m : Int) (h3 : w.cell? ⟨b, 6, none⟩ = some (.pointer (some ⟨l, 0, none⟩))) (h4 : w.cell? ⟨b, 5, none⟩ = some (.int .i64 n)) (h5 : w.cell? ⟨l, 5, none⟩ = some (.int .i64 m)) (hne : (m == n) = false) (hne2 : (m != n) = true) :
    Calls Try.prog 95 #[.pointer (some ⟨b, 0, none⟩)] w fun e w' => e = .returned (.pointer (some ⟨b, 0, none⟩)) ∧ Below w.heap.size w w' := by
  go_enter Try.func95, Try.ntmps95
  go_wp2
  go_quiet (fail)
  go_wp2
  go_ret
  exact ⟨rfl, below_drewN (Below.refl _ _) _⟩

set_option maxHeartbeats 400000 in
theorem skew_rot (w : World) (b l : Nat) (n m : Int) (lg : Option Addr) (h3 : w.cell? ⟨b, 6, none⟩ = some (.pointer (some ⟨l, 0, none⟩))) (h4 : w.cell? ⟨b, 5, none⟩ = some (.int .i64 n)) (h5 : w.cell? ⟨l, 5, none⟩ = some (.int .i64 m)) (h6 : w.cell? ⟨l, 7, none⟩ = some (.pointer lg)) (hfb : w.frozen? ⟨b, 6, none⟩ = false) (hfl : w.frozen? ⟨l, 7, none⟩ = false) (hne : (m == n) = true) (hne2 : (m != n) = false) (hbl : b ≠ l):
    Calls Try.prog 95 #[.pointer (some ⟨b, 0, none⟩)] w fun e w' => e = .returned (.pointer (some ⟨l, 0, none⟩)) ∧ w'.Alike ((w.setCell ⟨b, 6, none⟩ (.pointer lg)).setCell ⟨l, 7, none⟩ (.pointer (some ⟨b, 0, none⟩))) ∧ w'.tape = w.tape := by
  go_enter Try.func95, Try.ntmps95
  go_wp2
  go_quiet (fail)
  go_wp2
  go_ret
  exact ⟨rfl, ⟨rfl, rfl, rfl⟩, rfl⟩

theorem skew_any (t : T) (w : World) (ht : t.At w) (hd : t.blocks.Nodup) :
    Calls Try.prog 95 #[.pointer t.ptr] w fun e w' => e = .returned (.pointer t.skew.ptr) ∧ t.skew.At w' ∧ Frm (· ∈ t.blocks) w w' := by
  cases t with
  | nil => exact (skew_nil w).mono fun e w' ⟨he, hb⟩ => ⟨he, trivial, Frm.ofBelow hb⟩
  | node b k v lev l r =>
    cases l with
    | nil =>
      refine (skew_lnil w b (by rw [ht.1.cell]; rfl)).mono fun e w' ⟨he, hb⟩ => ⟨he, ?_, Frm.ofBelow hb⟩
      exact T.At.frm (Frm.ofBelow (F := fun _ => False) hb) ht (fun _ _ h => h)
    | node b2 k2 v2 lev2 l2 r2 =>
      have c1 : w.cell? ⟨b, 6, none⟩ = some (.pointer (some ⟨b2, 0, none⟩)) := by rw [ht.1.cell]; rfl
      have c2 : w.cell? ⟨b, 5, none⟩ = some (.int .i64 lev) := by rw [ht.1.cell]; rfl
      have c3 : w.cell? ⟨b2, 5, none⟩ = some (.int .i64 lev2) := by rw [ht.2.1.1.cell]; rfl
      have c4 : w.cell? ⟨b2, 7, none⟩ = some (.pointer r2.ptr) := by rw [ht.2.1.1.cell]; rfl
      by_cases hl : (lev2 == lev) = true
      · have hne : b ≠ b2 := by
          simp only [T.blocks, List.cons_append, List.nodup_cons, List.mem_cons, not_or] at hd; exact hd.1.1
        refine (skew_rot w b b2 lev lev2 r2.ptr c1 c2 c3 c4 (ht.1.free 6) (ht.2.1.1.free 7) hl (by simpa using hl) hne).mono fun e w' ⟨he, ha, htp⟩ => ?_
        have hs : T.skew (.node b k v lev (.node b2 k2 v2 lev2 l2 r2) r) = .node b2 k2 v2 lev2 l2 (.node b k v lev r2 r) := by simp only [T.skew]; rw [if_pos hl]
        rw [hs]
        have f : Frm (fun x => x = b ∨ x = b2) w w' := (((Frm.refl _ w).setCell (p := ⟨b, 6, none⟩) (.inl (.inl rfl)) _).setCell (p := ⟨b2, 7, none⟩) (.inl (.inr rfl)) _).alike ha htp
        simp only [T.blocks, List.cons_append, List.nodup_cons, List.mem_cons, List.mem_append, not_or, List.nodup_append] at hd
        refine ⟨he, ⟨?_, ?_, ?_, ?_, ?_⟩, f.mono ?_⟩
        · exact ((ht.2.1.1.set_other (p := ⟨b, 6, none⟩) hne _).set 7 _).alike ha
        · exact T.At.frm f ht.2.1.2.1 (by grind)
        · exact ((ht.1.set 6 _).set_other (p := ⟨b2, 7, none⟩) hne.symm _).alike ha
        · exact T.At.frm f ht.2.1.2.2 (by grind)
        · exact T.At.frm f ht.2.2 (by grind)
        · intro x _ h
          simp only [T.blocks, List.cons_append, List.mem_cons]
          rcases h with rfl | rfl
          · exact .inl rfl
          · exact .inr (.inl rfl)
      · refine (skew_lev w b b2 lev lev2 c1 c2 c3 (by simpa using hl) (by simpa using hl)).mono fun e w' ⟨he, hb⟩ => ?_
        have hs : T.skew (.node b k v lev (.node b2 k2 v2 lev2 l2 r2) r) = .node b k v lev (.node b2 k2 v2 lev2 l2 r2) r := by simp only [T.skew]; rw [if_neg hl]
        rw [hs]
        exact ⟨he, T.At.frm (Frm.ofBelow (F := fun _ => False) hb) ht (fun _ _ h => h), Frm.ofBelow hb⟩

set_option maxHeartbeats 400000 in
theorem split_nil (w : World) :
    Calls Try.prog 94 #[.pointer none] w fun e w' => e = .returned (.pointer none) ∧ Below w.heap.size w w' := by
  go_enter Try.func94, Try.ntmps94
  go_wp2
  go_quiet (fail)
  go_wp2
  go_ret
  exact ⟨rfl, below_drewN (Below.refl _ _) _⟩

set_option maxHeartbeats 400000 in
theorem split_gnil (w : World) (b : Nat) (h3 : w.cell? ⟨b, 7, none⟩ = some (.pointer none)) :
    Calls Try.prog 94 #[.pointer (some ⟨b, 0, none⟩)] w fun e w' => e = .returned (.pointer (some ⟨b, 0, none⟩)) ∧ Below w.heap.size w w' := by
  go_enter Try.func94, Try.ntmps94
  go_wp2
  go_quiet (fail)
  go_wp2
  go_ret
  exact ⟨rfl, below_drewN (Below.refl _ _) _⟩

set_option maxHeartbeats 400000 in
theorem split_ggnil (w : World) (b g : Nat) (h3 : w.cell? ⟨b, 7, none⟩ = some (.pointer (some ⟨g, 0, none⟩))) (h4 : w.cell? ⟨g, 7, none⟩ = some (.pointer none)) :
    Calls Try.prog 94 #[.pointer (some ⟨b, 0, none⟩)] w fun e w' => e = .returned (.pointer (some ⟨b, 0, none⟩)) ∧ Below w.heap.size w w' := by
  go_enter Try.func94, Try.ntmps94
  go_wp2
  go_quiet (fail)
  go_wp2
  go_ret
  exact ⟨rfl, below_drewN (Below.refl _ _) _⟩

set_option maxHeartbeats 400000 in
theorem split_lev (w : World) (b g h : Nat) (n m : Int) (h3 : w.cell? ⟨b, 7, none⟩ = some (.pointer (some ⟨g, 0, none⟩))) (h4 : w.cell? ⟨g, 7, none⟩ = some (.pointer (some ⟨h, 0, none⟩))) (h5 : w.cell? ⟨b, 5, none⟩ = some (.int .i64 n)) (h6 : w.cell? ⟨h, 5, none⟩ = some (.int .i64 m)) (hne : (m == n) = false) (hne2 : (m != n) = true) :
    Calls Try.prog 94 #[.pointer (some ⟨b, 0, none⟩)] w fun e w' => e = .returned (.pointer (some ⟨b, 0, none⟩)) ∧ Below w.heap.size w w' := by
  go_enter Try.func94, Try.ntmps94
  go_wp2
  go_quiet (fail)
  go_wp2
  go_ret
  exact ⟨rfl, below_drewN (Below.refl _ _) _⟩

set_option maxHeartbeats 400000 in
theorem split_rot (w : World) (b g h : Nat) (n m gl : Int) (gs : Option Addr) (h3 : w.cell? ⟨b, 7, none⟩ = some (.pointer (some ⟨g, 0, none⟩))) (h4 : w.cell? ⟨g, 7, none⟩ = some (.pointer (some ⟨h, 0, none⟩))) (h5 : w.cell? ⟨b, 5, none⟩ = some (.int .i64 n)) (h6 : w.cell? ⟨h, 5, none⟩ = some (.int .i64 m)) (h7 : w.cell? ⟨g, 6, none⟩ = some (.pointer gs)) (h8 : w.cell? ⟨g, 5, none⟩ = some (.int .i64 gl))
    (hfb : w.frozen? ⟨b, 7, none⟩ = false) (hfg : w.frozen? ⟨g, 6, none⟩ = false) (hfl : w.frozen? ⟨g, 5, none⟩ = false) (hne : (m == n) = true) (hne2 : (m != n) = false) (hbg : b ≠ g) :
    Calls Try.prog 94 #[.pointer (some ⟨b, 0, none⟩)] w fun e w' => e = .returned (.pointer (some ⟨g, 0, none⟩)) ∧ w'.Alike (((w.setCell ⟨b, 7, none⟩ (.pointer gs)).setCell ⟨g, 6, none⟩ (.pointer (some ⟨b, 0, none⟩))).setCell ⟨g, 5, none⟩ (.int .i64 (wrap64 (gl + 1)))) ∧ w'.tape = w.tape := by
  go_enter Try.func94, Try.ntmps94
  go_wp2
  go_quiet (fail)
  go_wp2
  go_ret
  exact ⟨rfl, ⟨rfl, rfl, rfl⟩, rfl⟩

theorem split_any (t : T) (w : World) (ht : t.At w) (hd : t.blocks.Nodup) :
    Calls Try.prog 94 #[.pointer t.ptr] w fun e w' => e = .returned (.pointer t.split.ptr) ∧ t.split.At w' ∧ Frm (· ∈ t.blocks) w w' := by
  cases t with
  | nil => exact (split_nil w).mono fun e w' ⟨he, hb⟩ => ⟨he, trivial, Frm.ofBelow hb⟩
  | node b k v lev l r =>
    cases r with
    | nil =>
      refine (split_gnil w b (by rw [ht.1.cell]; rfl)).mono fun e w' ⟨he, hb⟩ => ⟨he, ?_, Frm.ofBelow hb⟩
      exact T.At.frm (Frm.ofBelow (F := fun _ => False) hb) ht (fun _ _ h => h)
    | node b2 k2 v2 lev2 l2 r2 =>
      have c1 : w.cell? ⟨b, 7, none⟩ = some (.pointer (some ⟨b2, 0, none⟩)) := by rw [ht.1.cell]; rfl
      have c2 : w.cell? ⟨b, 5, none⟩ = some (.int .i64 lev) := by rw [ht.1.cell]; rfl
      cases r2 with
      | nil =>
        refine (split_ggnil w b b2 c1 (by rw [ht.2.2.1.cell]; rfl)).mono fun e w' ⟨he, hb⟩ => ⟨he, ?_, Frm.ofBelow hb⟩
        exact T.At.frm (Frm.ofBelow (F := fun _ => False) hb) ht (fun _ _ h => h)
      | node b3 k3 v3 lev3 l3 r3 =>
        have c3 : w.cell? ⟨b2, 7, none⟩ = some (.pointer (some ⟨b3, 0, none⟩)) := by rw [ht.2.2.1.cell]; rfl
        have c4 : w.cell? ⟨b3, 5, none⟩ = some (.int .i64 lev3) := by rw [ht.2.2.2.2.1.cell]; rfl
        have c5 : w.cell? ⟨b2, 6, none⟩ = some (.pointer l2.ptr) := by rw [ht.2.2.1.cell]; rfl
        have c6 : w.cell? ⟨b2, 5, none⟩ = some (.int .i64 lev2) := by rw [ht.2.2.1.cell]; rfl
        by_cases hl : (lev3 == lev) = true
        · simp only [T.blocks, List.cons_append, List.nodup_cons, List.mem_cons, List.mem_append, not_or, List.nodup_append] at hd
          have hne : b ≠ b2 := by grind
          refine (split_rot w b b2 b3 lev lev3 lev2 l2.ptr c1 c3 c2 c4 c5 c6 (ht.1.free 7) (ht.2.2.1.free 6) (ht.2.2.1.free 5) hl (by simpa using hl) hne).mono fun e w' ⟨he, ha, htp⟩ => ?_
          have hs : T.split (.node b k v lev l (.node b2 k2 v2 lev2 l2 (.node b3 k3 v3 lev3 l3 r3))) = .node b2 k2 v2 (wrap64 (lev2 + 1)) (.node b k v lev l l2) (.node b3 k3 v3 lev3 l3 r3) := by simp only [T.split]; rw [if_pos hl]
          rw [hs]
          have f : Frm (fun x => x = b ∨ x = b2) w w' := ((((Frm.refl _ w).setCell (p := ⟨b, 7, none⟩) (.inl (.inl rfl)) _).setCell (p := ⟨b2, 6, none⟩) (.inl (.inr rfl)) _).setCell (p := ⟨b2, 5, none⟩) (.inl (.inr rfl)) _).alike ha htp
          refine ⟨he, ⟨?_, ⟨?_, ?_, ?_⟩, ?_⟩, f.mono ?_⟩
          · exact (((ht.2.2.1.set_other (p := ⟨b, 7, none⟩) hne _).set 6 _).set 5 _).alike ha
          · exact (((ht.1.set 7 _).set_other (p := ⟨b2, 6, none⟩) hne.symm _).set_other (p := ⟨b2, 5, none⟩) hne.symm _).alike ha
          · exact T.At.frm f ht.2.1 (by grind)
          · exact T.At.frm f ht.2.2.2.1 (by grind)
          · exact T.At.frm f ht.2.2.2.2 (by simp only [T.blocks, List.mem_cons, List.mem_append]; grind)
          · intro x _ h
            simp only [T.blocks, List.cons_append, List.mem_cons, List.mem_append]
            grind
        · refine (split_lev w b b2 b3 lev lev3 c1 c3 c2 c4 (by simpa using hl) (by simpa using hl)).mono fun e w' ⟨he, hb⟩ => ?_
          have hs : T.split (.node b k v lev l (.node b2 k2 v2 lev2 l2 (.node b3 k3 v3 lev3 l3 r3))) = .node b k v lev l (.node b2 k2 v2 lev2 l2 (.node b3 k3 v3 lev3 l3 r3)) := by simp only [T.split]; rw [if_neg hl]
          rw [hs]
          exact ⟨he, T.At.frm (Frm.ofBelow (F := fun _ => False) hb) ht (fun _ _ h => h), Frm.ofBelow hb⟩

end Go.Proofs.Ytedcdjlpogpgbaa

/- Layer 14's table: what Look, Note and Load come to. -/
set_option linter.unusedVariables false
set_option linter.unusedSimpArgs false
namespace Go.Proofs.Ytedcdjlpogpgbaa
open Go.RowKit
open Go.ChangeMaps (setBlock)

structure Sn where
  s : Int
  r : Int
  pos : Pos
def lastCells (x : Sn) : Array Value := #[.int .i64 x.r, .int .i64 x.pos.e, .int .i64 x.pos.i]
def sess (l : List Sn) : List (Value × Value) := l.map fun x => (.int .i64 x.s, .agg (lastCells x))
def TabT : TypeId := 141
structure TabAt (w : World) (b mb : Nat) (lim : Int) (l : List Sn) : Prop where
  blk : Blk w b #[.int .i64 lim, .map (some mb)] TabT
  map : MpAt w mb (sess l)
  keys : l.Pairwise (fun x y => x.s ≠ y.s)
theorem TabAt.frm {F : Nat → Prop} {w w' : World} {b mb : Nat} {lim : Int} {l : List Sn} (h : TabAt w b mb lim l) (f : Frm F w w') (h1 : ¬ F b) (h2 : ¬ F mb) : TabAt w' b mb lim l :=
  ⟨h.blk.frm f h1, h.map.frm f h2, h.keys⟩
theorem sess_ints (l : List Sn) : Ints (sess l) := by
  intro p hp
  simp only [sess, List.mem_map] at hp
  obtain ⟨x, _, rfl⟩ := hp
  exact ⟨_, rfl⟩
theorem sess_find (s : Int) (l : List Sn) : findI s (sess l) = (l.find? (fun x => x.s == s)).map (fun x => .agg (lastCells x)) := by
  unfold findI sess
  rw [List.find?_map]
  simp only [Option.map_map]
  rfl
def zeroPos : Pos := ⟨0, 0⟩
def look (lim : Int) (l : List Sn) (s r : Int) : Int × Pos :=
  match l.find? (fun x => x.s == s) with
  | none => if lim ≤ (l.length : Int) then (4, zeroPos) else (1, zeroPos)
  | some x => if x.r < r then (1, zeroPos) else if r < x.r then (3, zeroPos) else (2, x.pos)
def posCells (p : Pos) : Array Value := #[.int .i64 p.e, .int .i64 p.i]
theorem pos_agg (w : World) : (isAgg 33).run Try.prog w = .ok true w := by kernel_rfl
theorem pos_size (w : World) : (sizeOf 33).run Try.prog w = .ok 2 w := by kernel_rfl
theorem zero_last (w : World) : (zeroValue 137).run Try.prog w = .ok (.agg #[.int .i64 0, .int .i64 0, .int .i64 0]) w := by kernel_rfl

def LookRes (lim : Int) (l : List Sn) (s r : Int) (w : World) (e : Ending) (w' : World) : Prop :=
  e = .returned (.tuple #[.int .i64 (look lim l s r).1, .agg (posCells (look lim l s r).2)]) ∧ Below w.heap.size w w'

set_option maxRecDepth 100000 in
set_option maxHeartbeats 2000000 in
theorem Look_none (b mb : Nat) (lim : Int) (l : List Sn) (s r : Int) (w : World) (h : TabAt w b mb lim l) (hf : l.find? (fun x => x.s == s) = none) :
    Calls Try.prog 52 #[.pointer (some ⟨b, 0, none⟩), .int .i64 s, .int .i64 r] w (LookRes lim l s r w) := by
  have hb := h.blk.lt
  have c0 : w.cell? ⟨b, 0, none⟩ = some (.int .i64 lim) := by rw [h.blk.cell]; rfl
  have c1 : w.cell? ⟨b, 1, none⟩ = some (.map (some mb)) := by rw [h.blk.cell]; rfl
  have hl := run_lookup_int (P := Try.prog) (t := 139) (z := _) Try.underlying139 Try.underlying3 zero_last (h.map.alloc (.cells #[.int .i64 0, .int .i64 0] 33)) (sess_ints l) s
  rw [sess_find, hf] at hl
  simp only [Option.map_none, Option.getD_none, Option.isSome_none] at hl
  have hn := fun n => run_len_map (P := Try.prog) (t := 139) Try.underlying139 (w := ((w.alloc (.cells #[.int .i64 0, .int .i64 0] 33)).alloc (.cells #[.int .i64 0, .int .i64 0, .int .i64 0] 137)).drewN n) (b := mb) (l := sess l) (((h.map.alloc _).alloc _).frm (F := fun _ => False) ((Frm.refl _ _).drewN n) (fun h => h)) 3
  have hll : (sess l).length = l.length := by simp [sess]
  rw [hll] at hn
  clear hll
  have HF := Lib.hid hf
  clear hf
  by_cases hlim : lim ≤ (l.length : Int)
  · go_enter Try.func52, Try.ntmps52
    go_wp2_with fail
    go_quiet (fail)
    go_wp2_with fail
    refine ret_tmp_cell rfl rfl (loads_blk (T := 33) (cs := posCells zeroPos) pos_agg pos_size ?_ rfl) rfl ⟨?_, ?_⟩
    · ((repeat' (first | with_reducible exact Blk.new _ _ _ | with_reducible apply Blk.drewN | with_reducible apply Blk.drew | with_reducible apply Blk.set' | (with_reducible apply Blk.set_other (hp := by first | assumption | (simp; done) | (simp; omega) | omega)) | (with_reducible apply Blk.new'; focus (first | (simp; done) | (simp; omega))) | with_reducible apply Blk.alloc)) <;> rfl)
    · have e : look lim l s r = (4, zeroPos) := by unfold look; rw [HF.out]; simp [hlim]
      rw [e]; rfl
    · (repeat' (first | with_reducible exact Below.refl _ _ | with_reducible refine below_drewN ?_ _ | with_reducible refine Below.drew ?_ | with_reducible refine Below.setCell ?_ (by first | exact Nat.le_refl _ | (simp; done) | (simp; omega) | omega) _ | with_reducible refine Below.alloc ?_ (by first | exact Nat.le_refl _ | (simp; done) | (simp; omega) | omega) _ | exact Below.refl _ _))
  · go_enter Try.func52, Try.ntmps52
    go_wp2_with fail
    go_quiet (fail)
    go_wp2_with fail
    refine ret_tmp_cell rfl rfl (loads_blk (T := 33) (cs := posCells zeroPos) pos_agg pos_size ?_ rfl) rfl ⟨?_, ?_⟩
    · ((repeat' (first | with_reducible exact Blk.new _ _ _ | with_reducible apply Blk.drewN | with_reducible apply Blk.drew | with_reducible apply Blk.set' | (with_reducible apply Blk.set_other (hp := by first | assumption | (simp; done) | (simp; omega) | omega)) | (with_reducible apply Blk.new'; focus (first | (simp; done) | (simp; omega))) | with_reducible apply Blk.alloc)) <;> rfl)
    · have e : look lim l s r = (1, zeroPos) := by unfold look; rw [HF.out]; simp [hlim]
      rw [e]; rfl
    · (repeat' (first | with_reducible exact Below.refl _ _ | with_reducible refine below_drewN ?_ _ | with_reducible refine Below.drew ?_ | with_reducible refine Below.setCell ?_ (by first | exact Nat.le_refl _ | (simp; done) | (simp; omega) | omega) _ | with_reducible refine Below.alloc ?_ (by first | exact Nat.le_refl _ | (simp; done) | (simp; omega) | omega) _ | exact Below.refl _ _))
set_option maxRecDepth 100000 in
set_option maxHeartbeats 2000000 in
theorem Look_some (b mb : Nat) (lim : Int) (l : List Sn) (s r : Int) (w : World) (h : TabAt w b mb lim l) (x : Sn) (hf : l.find? (fun x => x.s == s) = some x) :
    Calls Try.prog 52 #[.pointer (some ⟨b, 0, none⟩), .int .i64 s, .int .i64 r] w (LookRes lim l s r w) := by
  have hb := h.blk.lt
  have c0 : w.cell? ⟨b, 0, none⟩ = some (.int .i64 lim) := by rw [h.blk.cell]; rfl
  have c1 : w.cell? ⟨b, 1, none⟩ = some (.map (some mb)) := by rw [h.blk.cell]; rfl
  have hl := run_lookup_int (P := Try.prog) (t := 139) (z := _) Try.underlying139 Try.underlying3 zero_last (h.map.alloc (.cells #[.int .i64 0, .int .i64 0] 33)) (sess_ints l) s
  rw [sess_find, hf] at hl
  simp only [Option.map_some, Option.getD_some, Option.isSome_some, lastCells] at hl
  have HF := Lib.hid hf
  clear hf
  by_cases h1 : x.r < r
  · have h1' : decide (x.r < r) = true := by simpa using h1
    go_enter Try.func52, Try.ntmps52
    go_wp2_with fail
    go_quiet (fail)
    go_wp2_with fail
    refine ret_tmp_cell rfl rfl (loads_blk (T := 33) (cs := posCells zeroPos) pos_agg pos_size ?_ rfl) rfl ⟨?_, ?_⟩
    · ((repeat' (first | with_reducible exact Blk.new _ _ _ | with_reducible apply Blk.drewN | with_reducible apply Blk.drew | with_reducible apply Blk.set' | (with_reducible apply Blk.set_other (hp := by first | assumption | (simp; done) | (simp; omega) | omega)) | (with_reducible apply Blk.new'; focus (first | (simp; done) | (simp; omega))) | with_reducible apply Blk.alloc)) <;> rfl)
    · have e : look lim l s r = (1, zeroPos) := by unfold look; rw [HF.out]; simp [h1]
      rw [e]; rfl
    · (repeat' (first | with_reducible exact Below.refl _ _ | with_reducible refine below_drewN ?_ _ | with_reducible refine Below.drew ?_ | with_reducible refine Below.setCell ?_ (by first | exact Nat.le_refl _ | (simp; done) | (simp; omega) | omega) _ | with_reducible refine Below.alloc ?_ (by first | exact Nat.le_refl _ | (simp; done) | (simp; omega) | omega) _ | exact Below.refl _ _))
  · by_cases h2 : r < x.r
    · go_enter Try.func52, Try.ntmps52
      go_wp2_with fail
      go_quiet (fail)
      go_wp2_with fail
      refine ret_tmp_cell rfl rfl (loads_blk (T := 33) (cs := posCells zeroPos) pos_agg pos_size ?_ rfl) rfl ⟨?_, ?_⟩
      · ((repeat' (first | with_reducible exact Blk.new _ _ _ | with_reducible apply Blk.drewN | with_reducible apply Blk.drew | with_reducible apply Blk.set' | (with_reducible apply Blk.set_other (hp := by first | assumption | (simp; done) | (simp; omega) | omega)) | (with_reducible apply Blk.new'; focus (first | (simp; done) | (simp; omega))) | with_reducible apply Blk.alloc)) <;> rfl)
      · have e : look lim l s r = (3, zeroPos) := by unfold look; rw [HF.out]; dsimp only; first | (rw [if_neg (by omega), if_neg (by omega)]; done) | (rw [if_neg (by omega), if_pos (by omega)]; done)
        rw [e]; rfl
      · (repeat' (first | with_reducible exact Below.refl _ _ | with_reducible refine below_drewN ?_ _ | with_reducible refine Below.drew ?_ | with_reducible refine Below.setCell ?_ (by first | exact Nat.le_refl _ | (simp; done) | (simp; omega) | omega) _ | with_reducible refine Below.alloc ?_ (by first | exact Nat.le_refl _ | (simp; done) | (simp; omega) | omega) _ | exact Below.refl _ _))
    · go_enter Try.func52, Try.ntmps52
      go_wp2_with fail
      go_quiet (fail)
      go_wp2_with fail
      go_region
      all_goals
        go_wp2_with fail
        refine ret_tmp_cell rfl rfl (loads_blk (T := 33) (cs := posCells x.pos) pos_agg pos_size ?_ rfl) rfl ⟨?_, ?_⟩
        · ((repeat' (first | with_reducible exact Blk.new _ _ _ | with_reducible apply Blk.drewN | with_reducible apply Blk.drew | with_reducible apply Blk.set' | (with_reducible apply Blk.set_other (hp := by first | assumption | (simp; done) | (simp; omega) | omega)) | (with_reducible apply Blk.new'; focus (first | (simp; done) | (simp; omega))) | with_reducible apply Blk.alloc)) <;> rfl)
        · have e : look lim l s r = (2, x.pos) := by unfold look; rw [HF.out]; dsimp only; first | (rw [if_neg (by omega), if_neg (by omega)]; done) | (rw [if_neg (by omega), if_pos (by omega)]; done)
          rw [e]; rfl
        · (repeat' (first | with_reducible exact Below.refl _ _ | with_reducible refine below_drewN ?_ _ | with_reducible refine Below.drew ?_ | with_reducible refine Below.setCell ?_ (by first | exact Nat.le_refl _ | (simp; done) | (simp; omega) | omega) _ | with_reducible refine Below.alloc ?_ (by first | exact Nat.le_refl _ | (simp; done) | (simp; omega) | omega) _ | exact Below.refl _ _))

theorem Look_any (b mb : Nat) (lim : Int) (l : List Sn) (s r : Int) (w : World) (h : TabAt w b mb lim l) :
    Calls Try.prog 52 #[.pointer (some ⟨b, 0, none⟩), .int .i64 s, .int .i64 r] w (LookRes lim l s r w) := by
  cases hf : l.find? (fun x => x.s == s) with
  | none => exact Look_none b mb lim l s r w h hf
  | some x => exact Look_some b mb lim l s r w h x hf

def note (x : Sn) (l : List Sn) : List Sn := if (l.find? (fun y => y.s == x.s)).isSome = true then l.map (fun y => if (y.s == x.s) = true then x else y) else l ++ [x]
theorem sess_note (x : Sn) (l : List Sn) : updI x.s (.agg (lastCells x)) (sess l) = sess (note x l) := by
  unfold updI note
  rw [sess_find]
  cases hf : l.find? (fun y => y.s == x.s) with
  | none => simp [sess]
  | some y =>
    simp only [Option.map_some, Option.isSome_some, if_true]
    unfold sess
    rw [List.map_map, List.map_map]
    apply List.map_congr_left
    intro z _
    show (if keyIs x.s (.int .i64 z.s, .agg (lastCells z)) = true then _ else _) = _
    have hk : keyIs x.s (.int .i64 z.s, .agg (lastCells z)) = (z.s == x.s) := rfl
    rw [hk]
    by_cases hz : (z.s == x.s) = true <;> simp [Function.comp, hz]
theorem keys_note {x : Sn} {l : List Sn} (h : l.Pairwise (fun x y => x.s ≠ y.s)) : (note x l).Pairwise (fun x y => x.s ≠ y.s) := by
  unfold note
  cases hf : l.find? (fun y => y.s == x.s) with
  | none =>
    simp only [Option.isSome_none, Bool.false_eq_true, if_false]
    rw [List.pairwise_append]
    refine ⟨h, by simp, ?_⟩
    intro a ha b hb
    simp only [List.mem_singleton] at hb
    subst hb
    rw [List.find?_eq_none] at hf
    have := hf a ha
    simpa using this
  | some y =>
    simp only [Option.isSome_some, if_true]
    rw [List.pairwise_map]
    refine h.imp ?_
    intro a b hab
    by_cases h1 : (a.s == x.s) = true <;> by_cases h2 : (b.s == x.s) = true
    · simp only [beq_iff_eq] at h1 h2; exact absurd (h1.trans h2.symm) hab
    · simp only [h1, h2, if_true]; simp only [beq_iff_eq] at h1 h2; simp; exact fun e => h2 e.symm
    · simp only [h1, h2, if_true]; simp only [beq_iff_eq] at h1 h2; simp; exact fun e => h1 e
    · simp only [h1, h2]; simpa using hab
def NoteRes (b mb : Nat) (lim : Int) (l : List Sn) (x : Sn) (w : World) (e : Ending) (w' : World) : Prop :=
  ∃ bb : Bool, e = .returned (.bool bb) ∧ TabAt w' b mb lim (if (look lim l x.s x.r).1 = 1 then note x l else l) ∧ Frm (fun c => c = mb) w w'

set_option maxRecDepth 100000 in
set_option maxHeartbeats 2000000 in
theorem Note_any (b mb : Nat) (lim : Int) (l : List Sn) (x : Sn) (w : World) (h : TabAt w b mb lim l) :
    Calls Try.prog 71 #[.pointer (some ⟨b, 0, none⟩), .int .i64 x.s, .int .i64 x.r, .agg (posCells x.pos)] w (NoteRes b mb lim l x w) := by
  have H := Lib.hid h
  have hbm : b ≠ mb := by
    intro e; subst e
    obtain ⟨es, cl, hm, _⟩ := h.map
    have := h.blk
    unfold Blk at this
    rw [this] at hm
    cases hm
  have hb0 := h.blk.lt
  clear h
  unfold posCells
  go_enter Try.func71, Try.ntmps71
  go_wp2_with fail
  refine (Look_any b mb lim l x.s x.r _ (H.out.frm (F := fun _ => False) ((Frm.refl _ _).alloc _) (fun h => h) (fun h => h))).mono ?_
  rintro e w1 ⟨rfl, hbel⟩
  have h1 : TabAt w1 b mb lim l := H.out.frm (F := fun _ => False) (((Frm.refl _ _).alloc _).trans (Frm.ofBelow hbel) (fun _ _ h => h)) (fun h => h) (fun h => h)
  have hx := (Blk.new w (posCells x.pos) 33).below hbel
  have hx1 := hx.lt
  have x0 : w1.cell? ⟨w.heap.size, 0, none⟩ = some (.int .i64 x.pos.e) := by rw [hx.cell]; rfl
  have x1 : w1.cell? ⟨w.heap.size, 1, none⟩ = some (.int .i64 x.pos.i) := by rw [hx.cell]; rfl
  have hb := h1.blk.lt
  have c1 : w1.cell? ⟨b, 1, none⟩ = some (.map (some mb)) := by rw [h1.blk.cell]; rfl
  have HB := Lib.hid (((Below.refl _ w).alloc (Nat.le_refl _) (.cells (posCells x.pos) 33)).trans (hbel.mono (by simp)))
  have H1 := Lib.hid h1
  clear hbel hx
  obtain ⟨⟨le, li⟩, hlp⟩ : ∃ p, (look lim l x.s x.r).2 = p := ⟨_, rfl⟩
  rw [hlp]
  clear hlp
  unfold posCells
  dsimp only
  by_cases hk : (look lim l x.s x.r).1 = 1
  · have hk' : ((look lim l x.s x.r).1 == 1) = true := by simpa using hk
    have hk2 : ((look lim l x.s x.r).1 != 1) = false := by simp [hk]
    obtain ⟨o, ho, hmp⟩ := run_mapUpdate_int (P := Try.prog) (t := 139) Try.underlying139 Try.underlying3 (w := (w1.alloc (.cells #[.int .i64 le, .int .i64 li] 33)).drew) (b := mb) (l := sess l)
      (H1.out.map.frm (F := fun _ => False) ((Frm.refl _ _).alloc _).drew (fun h => h)) (sess_ints l) (by unfold sess; rw [List.map_map, List.pairwise_map]; exact H1.out.keys.imp (fun hab h => by injection h with _ h; exact hab h)) x.s (.agg (lastCells x))
    rw [sess_note] at hmp
    have HM := Lib.hid hmp
    have HK := Lib.hid hk
    unfold lastCells at ho
    clear hmp hk
    go_wp2_with fail
    go_region
    all_goals
      go_wp2_with fail
      go_ret
      refine ⟨true, rfl, ?_, ?_⟩
      · rw [if_pos HK.out]
        exact ⟨(((H1.out.blk.alloc _).drew).frm (frm_setBlock _ mb o) hbm), HM.out, keys_note H1.out.keys⟩
      · exact (((Frm.ofBelow HB.out).alloc _).drew).trans (frm_setBlock _ mb o) (fun i _ h => h)
  · have hk' : ((look lim l x.s x.r).1 == 1) = false := by simpa using hk
    have hk2 : ((look lim l x.s x.r).1 != 1) = true := by simp [hk]
    have HK := Lib.hid hk
    clear hk
    go_wp2_with fail
    go_ret
    refine ⟨false, rfl, ?_, ?_⟩
    · rw [if_neg HK.out]; exact H1.out.frm (F := fun _ => False) (((Frm.refl _ _).alloc _)) (fun h => h) (fun h => h)
    · exact (Frm.ofBelow HB.out).alloc _

end Go.Proofs.Ytedcdjlpogpgbaa

/- Layer 5's tree: the putting in of a key. -/
set_option linter.unusedVariables false
set_option linter.unusedSimpArgs false
namespace Go.Proofs.Ytedcdjlpogpgbaa
open Go.RowKit

def lt (a b : ByteArray) : Bool := Op.bytesLess a.toList b.toList

def T.set (nb : Nat) (key : ByteArray) (x : Val) : T → T
  | .nil => .node nb key x 1 .nil .nil
  | .node b k v lev l r =>
    if lt key k = true then (T.skew (.node b k v lev (l.set nb key x) r)).split
    else if lt k key = true then (T.skew (.node b k v lev l (r.set nb key x))).split
    else .node b k x lev l r

def valCells (v : Val) : Array Value := #[.int .i64 v.pos.e, .int .i64 v.pos.i, .bool v.th, .string v.t]

def PtrRes (R : Option Addr → World → Prop) (e : Ending) (w' : World) : Prop := ∃ q, e = .returned (.pointer q) ∧ R q w'

set_option maxHeartbeats 400000 in
theorem set_nil (m : Nat) (key : ByteArray) (x : Val) (n : Int) (w : World)
    (hm : m < w.heap.size) (hk : w.cell? ⟨m, 1, none⟩ = some (.int .i64 n)) (hf : w.frozen? ⟨m, 1, none⟩ = false) :
    Calls Try.prog 83 #[.pointer (some ⟨m, 0, none⟩), .pointer none, .string key, .agg (valCells x)] w fun e w' => e = .returned (.pointer (some ⟨w.heap.size + 1, 0, none⟩)) ∧ w' = ((w.setCell ⟨m, 1, none⟩ (.int .i64 (wrap64 (n + 1)))).alloc (.cells (valCells x) 46)).alloc (.cells (placeCells key x 1 none none) 157) := by
  unfold valCells placeCells
  go_enter Try.func83, Try.ntmps83
  go_wp2_with fail
  go_ret
  exact ⟨rfl, rfl⟩

set_option maxHeartbeats 400000 in
theorem set_same (m b : Nat) (key k : ByteArray) (x y : Val) (lev : Int) (l r : Option Addr) (w : World)
    (hb : Blk w b (placeCells k y lev l r) 157) (h1 : Op.bytesLess key.toList k.toList = false) (h2 : Op.bytesLess k.toList key.toList = false) (h3 : (key.toList == k.toList) = true) :
    Calls Try.prog 83 #[.pointer (some ⟨m, 0, none⟩), .pointer (some ⟨b, 0, none⟩), .string key, .agg (valCells x)] w fun e w' => e = .returned (.pointer (some ⟨b, 0, none⟩)) ∧ Blk w' b (placeCells k x lev l r) 157 ∧ Frm (· = b) w w' := by
  have hb1 := hb.lt
  have c0 : w.cell? ⟨b, 0, none⟩ = some (.string k) := by rw [hb.cell]; rfl
  have c1 : w.cell? ⟨b, 1, none⟩ = some (.int .i64 y.pos.e) := by rw [hb.cell]; rfl
  have c2 : w.cell? ⟨b, 2, none⟩ = some (.int .i64 y.pos.i) := by rw [hb.cell]; rfl
  have c3 : w.cell? ⟨b, 3, none⟩ = some (.bool y.th) := by rw [hb.cell]; rfl
  have c4 : w.cell? ⟨b, 4, none⟩ = some (.string y.t) := by rw [hb.cell]; rfl
  have f1 := hb.free 1
  have f2 := hb.free 2
  have f3 := hb.free 3
  have f4 := hb.free 4
  have HB := Lib.hid hb
  clear hb
  unfold valCells
  go_enter Try.func83, Try.ntmps83
  go_wp2_with fail
  go_ret
  refine ⟨rfl, ?_, ?_⟩
  · exact (((((HB.out).set 1 _).set 2 _).set 3 _).set 4 _).alloc _
  · exact (((((Frm.refl (· = b) w).setCell (p := ⟨b, 1, none⟩) (.inl rfl) _).setCell (p := ⟨b, 2, none⟩) (.inl rfl) _).setCell (p := ⟨b, 3, none⟩) (.inl rfl) _).setCell (p := ⟨b, 4, none⟩) (.inl rfl) _).alloc _

set_option maxHeartbeats 400000 in
theorem set_less (m b : Nat) (key k : ByteArray) (x : Val) (l : Option Addr) (w : World) (R R' : Option Addr → World → Prop)
    (hb : b < w.heap.size) (hk : w.cell? ⟨b, 0, none⟩ = some (.string k)) (hl : w.cell? ⟨b, 6, none⟩ = some (.pointer l)) (hlt : Op.bytesLess key.toList k.toList = true)
    (hc : ∀ W : World, Below w.heap.size w W → Calls Try.prog 83 #[.pointer (some ⟨m, 0, none⟩), .pointer l, .string key, .agg (valCells x)] W (PtrRes R))
    (hw : ∀ q W, R q W → (W.cell? ⟨b, 6, none⟩ = some (.pointer l) ∧ W.frozen? ⟨b, 6, none⟩ = false))
    (hs : ∀ q W W', R q W → W'.Alike (W.setCell ⟨b, 6, none⟩ (.pointer q)) → W'.tape = W.tape → Calls Try.prog 95 #[.pointer (some ⟨b, 0, none⟩)] W' (PtrRes fun q2 w2 => Calls Try.prog 94 #[.pointer q2] w2 (PtrRes R'))) :
    Calls Try.prog 83 #[.pointer (some ⟨m, 0, none⟩), .pointer (some ⟨b, 0, none⟩), .string key, .agg (valCells x)] w (PtrRes R') := by
  unfold valCells at *
  have HC := Lib.hid hc
  have HW := Lib.hid hw
  have HS := Lib.hid hs
  clear hc hw hs
  go_enter Try.func83, Try.ntmps83
  go_wp2_with fail
  go_region_with (go_at_call 83; refine (HC.out _ (((Below.refl _ _).alloc (Nat.le_refl _) _).drew)).mono ?_; rintro e w1 ⟨q, rfl, hr⟩; obtain ⟨hw1, hw2⟩ := HW.out q w1 hr)
  all_goals
    go_wp2_with fail
    refine (HS.out q w1 _ hr ⟨rfl, rfl, rfl⟩ rfl).mono ?_
    rintro e w2 ⟨q2, rfl, hs2⟩
    have HS2 := Lib.hid hs2
    clear hs2
    go_wp2_with fail
    refine HS2.out.mono ?_
    rintro e w3 ⟨q3, rfl, hs3⟩
    go_wp2_with fail
    go_ret
    exact ⟨q3, rfl, hs3⟩

set_option maxHeartbeats 400000 in
theorem set_great (m b : Nat) (key k : ByteArray) (x : Val) (l : Option Addr) (w : World) (R R' : Option Addr → World → Prop)
    (hb : b < w.heap.size) (hk : w.cell? ⟨b, 0, none⟩ = some (.string k)) (hl : w.cell? ⟨b, 7, none⟩ = some (.pointer l)) (hlt : Op.bytesLess key.toList k.toList = false) (hlt2 : Op.bytesLess k.toList key.toList = true) (hne : (key.toList == k.toList) = false)
    (hc : ∀ W : World, Below w.heap.size w W → Calls Try.prog 83 #[.pointer (some ⟨m, 0, none⟩), .pointer l, .string key, .agg (valCells x)] W (PtrRes R))
    (hw : ∀ q W, R q W → (W.cell? ⟨b, 7, none⟩ = some (.pointer l) ∧ W.frozen? ⟨b, 7, none⟩ = false))
    (hs : ∀ q W W', R q W → W'.Alike (W.setCell ⟨b, 7, none⟩ (.pointer q)) → W'.tape = W.tape → Calls Try.prog 95 #[.pointer (some ⟨b, 0, none⟩)] W' (PtrRes fun q2 w2 => Calls Try.prog 94 #[.pointer q2] w2 (PtrRes R'))) :
    Calls Try.prog 83 #[.pointer (some ⟨m, 0, none⟩), .pointer (some ⟨b, 0, none⟩), .string key, .agg (valCells x)] w (PtrRes R') := by
  unfold valCells at *
  have HC := Lib.hid hc
  have HW := Lib.hid hw
  have HS := Lib.hid hs
  clear hc hw hs
  go_enter Try.func83, Try.ntmps83
  go_wp2_with fail
  go_region_with (go_at_call 83; refine (HC.out _ (((Below.refl _ _).alloc (Nat.le_refl _) _).drew)).mono ?_; rintro e w1 ⟨q, rfl, hr⟩; obtain ⟨hw1, hw2⟩ := HW.out q w1 hr)
  all_goals
    go_wp2_with fail
    refine (HS.out q w1 _ hr ⟨rfl, rfl, rfl⟩ rfl).mono ?_
    rintro e w2 ⟨q2, rfl, hs2⟩
    have HS2 := Lib.hid hs2
    clear hs2
    go_wp2_with fail
    refine HS2.out.mono ?_
    rintro e w3 ⟨q3, rfl, hs3⟩
    go_wp2_with fail
    go_ret
    exact ⟨q3, rfl, hs3⟩


/-- What bytesLess is: a strict order without ties but of equals. -/
theorem bless_irr : ∀ a : List UInt8, Op.bytesLess a a = false
  | [] => rfl
  | x :: a => by simp [Op.bytesLess, bless_irr a]
theorem bless_tri : ∀ a b : List UInt8, Op.bytesLess a b = false → Op.bytesLess b a = false → a = b
  | [], [], _, _ => rfl
  | [], y :: b, h, _ => by simp [Op.bytesLess] at h
  | x :: a, [], _, h => by simp [Op.bytesLess] at h
  | x :: a, y :: b, h, k => by
    simp only [Op.bytesLess, Bool.or_eq_false_iff, Bool.and_eq_false_iff, decide_eq_false_iff_not, beq_eq_false_iff_ne, UInt8.not_lt, UInt8.le_iff_toNat_le] at h k
    have e : x = y := UInt8.toNat.inj (by omega)
    subst e
    rw [bless_tri a b (h.2.resolve_left (fun h => h rfl)) (k.2.resolve_left (fun h => h rfl))]
theorem bless_trans : ∀ a b c : List UInt8, Op.bytesLess a b = true → Op.bytesLess b c = true → Op.bytesLess a c = true
  | _, [], [], _, h => by simp [Op.bytesLess] at h
  | _, _ :: _, [], _, h => by simp [Op.bytesLess] at h
  | [], _, _ :: _, _, _ => by simp [Op.bytesLess]
  | _ :: _, [], _ :: _, h, _ => by simp [Op.bytesLess] at h
  | x :: a, y :: b, z :: c, h, k => by
    simp only [Op.bytesLess, Bool.or_eq_true, Bool.and_eq_true, decide_eq_true_eq, beq_iff_eq, UInt8.lt_iff_toNat_lt] at h k ⊢
    rcases h with h | ⟨rfl, h⟩
    · rcases k with k | ⟨rfl, k⟩
      · exact .inl (by omega)
      · exact .inl h
    · rcases k with k | ⟨rfl, k⟩
      · exact .inl k
      · exact .inr ⟨rfl, bless_trans a b c h k⟩
theorem bytes_inj {a b : ByteArray} (h : a.toList = b.toList) : a = b := by
  rw [ByteArray.toList_eq, ByteArray.toList_eq] at h
  cases a; cases b; simpa using h
theorem lt_irr (a : ByteArray) : lt a a = false := bless_irr _
theorem lt_tri {a b : ByteArray} (h : lt a b = false) (k : lt b a = false) : a = b := bytes_inj (bless_tri _ _ h k)
theorem lt_trans {a b c : ByteArray} (h : lt a b = true) (k : lt b c = true) : lt a c = true := bless_trans _ _ _ h k
theorem lt_asymm {a b : ByteArray} (h : lt a b = true) : lt b a = false := by
  cases k : lt b a with
  | false => rfl
  | true => have := lt_trans h k; rw [lt_irr] at this; cases this

end Go.Proofs.Ytedcdjlpogpgbaa

/- Layer 5's tree: what the putting in of a key comes to, for every search tree. -/
set_option linter.unusedVariables false
set_option linter.unusedSimpArgs false
namespace Go.Proofs.Ytedcdjlpogpgbaa
open Go.RowKit

theorem T.skew_list (t : T) : t.skew.list = t.list := by
  unfold T.skew
  split
  · split <;> simp [T.list]
  · rfl
theorem T.split_list (t : T) : t.split.list = t.list := by
  unfold T.split
  split
  · split <;> simp [T.list]
  · rfl
theorem T.skew_blocks (t : T) : t.skew.blocks.Perm t.blocks := by
  unfold T.skew
  split
  · split
    · rw [List.perm_iff_count]; intro a; simp only [T.blocks, List.count_cons, List.count_append]; omega
    · exact List.Perm.refl _
  · exact List.Perm.refl _
theorem T.split_blocks (t : T) : t.split.blocks.Perm t.blocks := by
  unfold T.split
  split
  · split
    · rw [List.perm_iff_count]; intro a; simp only [T.blocks, List.count_cons, List.count_append]; omega
    · exact List.Perm.refl _
  · exact List.Perm.refl _

def ins (key : ByteArray) (x : Val) : List (ByteArray × Val) → List (ByteArray × Val)
  | [] => [(key, x)]
  | (k, y) :: l => if lt key k = true then (key, x) :: (k, y) :: l else if lt k key = true then (k, y) :: ins key x l else (k, x) :: l
def Up (l : List (ByteArray × Val)) : Prop := l.Pairwise (fun a b => lt a.1 b.1 = true)

theorem ins_left (key : ByteArray) (x : Val) (k : ByteArray) (v : Val) (r : List (ByteArray × Val)) (h : lt key k = true) : ∀ l, ins key x (l ++ (k, v) :: r) = ins key x l ++ (k, v) :: r
  | [] => by simp [ins, h]
  | (a, y) :: l => by
    simp only [List.cons_append, ins]
    split
    · rfl
    · split
      · rw [ins_left key x k v r h l]; rfl
      · rfl
theorem ins_right (key : ByteArray) (x : Val) (k : ByteArray) (v : Val) (r : List (ByteArray × Val)) (h : lt k key = true) : ∀ l, (∀ a ∈ l, lt a.1 k = true) → ins key x (l ++ (k, v) :: r) = l ++ (k, v) :: ins key x r
  | [], _ => by simp [ins, h, lt_asymm h]
  | (a, y) :: l, ha => by
    have h1 : lt a key = true := lt_trans (ha _ (List.mem_cons_self ..)) h
    simp only [List.cons_append, ins]
    rw [if_neg (by rw [lt_asymm h1]; simp), if_pos h1, ins_right key x k v r h l (fun b hb => ha b (List.mem_cons_of_mem _ hb))]
theorem ins_same (k : ByteArray) (x v : Val) (r : List (ByteArray × Val)) : ∀ l, (∀ a ∈ l, lt a.1 k = true) → ins k x (l ++ (k, v) :: r) = l ++ (k, x) :: r
  | [], _ => by simp [ins, lt_irr]
  | (a, y) :: l, ha => by
    have h1 : lt a k = true := ha _ (List.mem_cons_self ..)
    simp only [List.cons_append, ins]
    rw [if_neg (by rw [lt_asymm h1]; simp), if_pos h1, ins_same k x v r l (fun b hb => ha b (List.mem_cons_of_mem _ hb))]

theorem Up.node {l r : List (ByteArray × Val)} {k : ByteArray} {v : Val} (h : Up (l ++ (k, v) :: r)) : Up l ∧ Up r ∧ (∀ a ∈ l, lt a.1 k = true) ∧ (∀ a ∈ r, lt k a.1 = true) := by
  unfold Up at *
  rw [List.pairwise_append, List.pairwise_cons] at h
  exact ⟨h.1, h.2.1.2, fun a ha => h.2.2 a ha _ (List.mem_cons_self ..), fun a ha => h.2.1.1 a ha⟩

theorem T.set_list (nb : Nat) (key : ByteArray) (x : Val) : ∀ t : T, Up t.list → (t.set nb key x).list = ins key x t.list
  | .nil, _ => rfl
  | .node b k v lev l r, h => by
    obtain ⟨h1, h2, h3, h4⟩ := Up.node h
    simp only [T.set]
    split
    · rename_i hl
      rw [T.split_list, T.skew_list]
      simp only [T.list]
      rw [T.set_list nb key x l h1, ins_left key x k v _ hl]
    · rename_i hl
      split
      · rename_i hg
        rw [T.split_list, T.skew_list]
        simp only [T.list]
        rw [T.set_list nb key x r h2, ins_right key x k v _ hg _ h3]
      · rename_i hg
        have e : key = k := lt_tri (by simpa using hl) (by simpa using hg)
        subst e
        simp only [T.list]
        rw [ins_same key x v _ _ h3]

theorem mem_ins (key : ByteArray) (x : Val) : ∀ (l : List (ByteArray × Val)) (p : ByteArray × Val), p ∈ ins key x l → p = (key, x) ∨ (p ∈ l) ∨ p.1 = key
  | [], p, h => by simp [ins] at h; exact .inl h
  | (k, y) :: l, p, h => by
    simp only [ins] at h
    split at h
    · simp only [List.mem_cons] at h ⊢; rcases h with h | h
      · exact .inl h
      · exact .inr (.inl h)
    · split at h
      · simp only [List.mem_cons] at h ⊢
        rcases h with h | h
        · exact .inr (.inl (.inl h))
        · rcases mem_ins key x l p h with h | h | h
          · exact .inl h
          · exact .inr (.inl (.inr h))
          · exact .inr (.inr h)
      · rename_i a b
        have e : key = k := lt_tri (by simpa using a) (by simpa using b)
        subst e
        simp only [List.mem_cons] at h ⊢
        rcases h with h | h
        · exact .inl h
        · exact .inr (.inl (.inr h))
theorem mem_ins' {key : ByteArray} {x : Val} {l : List (ByteArray × Val)} {p : ByteArray × Val} (h : p ∈ ins key x l) : p = (key, x) ∨ p ∈ l := by
  induction l with
  | nil => simp [ins] at h; exact .inl h
  | cons q l ih =>
    obtain ⟨k, y⟩ := q
    simp only [ins] at h
    split at h
    · simp only [List.mem_cons] at h ⊢; exact h
    · split at h
      · simp only [List.mem_cons] at h ⊢
        rcases h with h | h
        · exact .inr (.inl h)
        · rcases ih h with h | h
          · exact .inl h
          · exact .inr (.inr h)
      · rename_i a b
        have e : key = k := lt_tri (by simpa using a) (by simpa using b)
        subst e
        simp only [List.mem_cons] at h ⊢
        rcases h with h | h
        · exact .inl h
        · exact .inr (.inr h)
theorem Up.ins {key : ByteArray} {x : Val} : ∀ {l : List (ByteArray × Val)}, Up l → Up (ins key x l)
  | [], _ => by simp [Up, Proofs.Ytedcdjlpogpgbaa.ins]
  | (k, y) :: l, h => by
    unfold Up at *
    simp only [Proofs.Ytedcdjlpogpgbaa.ins]
    rw [List.pairwise_cons] at h
    split
    · rename_i hl
      rw [List.pairwise_cons, List.pairwise_cons]
      refine ⟨fun a ha => ?_, h⟩
      rcases List.mem_cons.1 ha with rfl | ha
      · exact hl
      · exact lt_trans hl (h.1 a ha)
    · split
      · rename_i hg
        rw [List.pairwise_cons]
        refine ⟨fun a ha => ?_, Up.ins h.2⟩
        rcases mem_ins' ha with rfl | ha
        · exact hg
        · exact h.1 a ha
      · rw [List.pairwise_cons]; exact h

theorem T.set_blocks (nb : Nat) (key : ByteArray) (x : Val) : ∀ t : T, (t.set nb key x).blocks.Perm t.blocks ∨ (t.set nb key x).blocks.Perm (nb :: t.blocks)
  | .nil => .inr (List.Perm.refl _)
  | .node b k v lev l r => by
    simp only [T.set]
    split
    · have e := (T.split_blocks (T.skew (.node b k v lev (l.set nb key x) r))).trans (T.skew_blocks _)
      rcases T.set_blocks nb key x l with h | h
      · refine .inl (e.trans ?_)
        simp only [T.blocks]
        exact (h.append_right _).cons _
      · refine .inr (e.trans ?_)
        simp only [T.blocks]
        refine ((h.append_right _).cons _).trans ?_
        simp only [List.cons_append]
        exact List.Perm.swap ..
    · split
      · have e := (T.split_blocks (T.skew (.node b k v lev l (r.set nb key x)))).trans (T.skew_blocks _)
        rcases T.set_blocks nb key x r with h | h
        · refine .inl (e.trans ?_)
          simp only [T.blocks]
          exact (h.append_left _).cons _
        · refine .inr (e.trans ?_)
          simp only [T.blocks]
          refine ((h.append_left _).cons _).trans ?_
          rw [List.perm_iff_count]; intro a; simp only [List.count_cons, List.count_append]; omega
      · exact .inl (List.Perm.refl _)
theorem T.set_mem {nb : Nat} {key : ByteArray} {x : Val} {t : T} {b : Nat} (h : b ∈ (t.set nb key x).blocks) : b ∈ t.blocks ∨ b = nb := by
  rcases T.set_blocks nb key x t with e | e
  · exact .inl (e.mem_iff.1 h)
  · rcases List.mem_cons.1 (e.mem_iff.1 h) with h | h
    · exact .inr h
    · exact .inl h
theorem T.set_nodup {nb : Nat} {key : ByteArray} {x : Val} {t : T} (hd : t.blocks.Nodup) (hn : nb ∉ t.blocks) : (t.set nb key x).blocks.Nodup := by
  rcases T.set_blocks nb key x t with e | e
  · exact e.nodup_iff.2 hd
  · exact e.nodup_iff.2 (List.nodup_cons.2 ⟨hn, hd⟩)

def MapT : TypeId := 149
def SetDone (m : Nat) (r0 : Value) (key : ByteArray) (x : Val) (t : T) (w : World) (q : Option Addr) (w' : World) : Prop :=
  ∃ nb n', w.heap.size ≤ nb ∧ q = (t.set nb key x).ptr ∧ (t.set nb key x).At w' ∧ Blk w' m #[r0, .int .i64 n'] MapT ∧ Frm (fun b => b = m ∨ b ∈ t.blocks) w w'

theorem set_any (m : Nat) (r0 : Value) (key : ByteArray) (x : Val) : ∀ (t : T) (w : World) (n : Int), Blk w m #[r0, .int .i64 n] MapT → t.At w → t.blocks.Nodup → m ∉ t.blocks →
    Calls Try.prog 83 #[.pointer (some ⟨m, 0, none⟩), .pointer t.ptr, .string key, .agg (valCells x)] w (PtrRes (SetDone m r0 key x t w)) := by
  intro t
  induction t with
  | nil =>
    intro w n hm _ _ _
    refine (set_nil m key x n w hm.lt (by rw [hm.cell]; rfl) (hm.free 1)).mono fun e w' ⟨he, hw⟩ => ?_
    subst hw
    refine ⟨_, he, w.heap.size + 1, wrap64 (n + 1), by omega, rfl, ⟨?_, trivial, trivial⟩, ?_, ?_⟩
    · have := Blk.new (((w.setCell ⟨m, 1, none⟩ (.int .i64 (wrap64 (n + 1)))).alloc (.cells (valCells x) 46))) (placeCells key x 1 none none) 157
      show Blk _ _ (placeCells key x 1 none none) _
      simpa using this
    · exact ((hm.set 1 _).alloc _).alloc _
    · exact ((((Frm.refl _ w).setCell (p := ⟨m, 1, none⟩) (.inl (.inl rfl)) _).alloc _).alloc _)
  | node b k v lev l r ihl ihr =>
    intro w n hm ht hd hmb
    have hd0 := hd
    simp only [T.blocks, List.nodup_cons, List.mem_cons, List.mem_append, not_or, List.nodup_append] at hd hmb
    have step : ∀ (W W' : World) (t' : T), t'.At W' → t'.blocks.Nodup → (∀ c ∈ t'.blocks, c ∈ (T.node b k v lev l r).blocks ∨ w.heap.size ≤ c) → Frm (fun c => c = m ∨ c ∈ (T.node b k v lev l r).blocks) w W' → (∃ n', Blk W' m #[r0, .int .i64 n'] MapT) →
        (∀ nb, w.heap.size ≤ nb → True) →
        Calls Try.prog 95 #[.pointer t'.ptr] W' (PtrRes fun q2 w2 => Calls Try.prog 94 #[.pointer q2] w2 (PtrRes fun q3 w3 => q3 = (T.skew t').split.ptr ∧ (T.skew t').split.At w3 ∧ (∃ n', Blk w3 m #[r0, .int .i64 n'] MapT) ∧ Frm (fun c => c = m ∨ c ∈ (T.node b k v lev l r).blocks) w w3)) := by
      intro W W' t' h1 h2 h3 h4 ⟨n', h5⟩ _
      have hmt : m ∉ t'.blocks := fun h => by
        rcases h3 m h with h | h
        · simp only [T.blocks, List.mem_cons, List.mem_append] at h; grind
        · have := hm.lt; omega
      refine (skew_any t' W' h1 h2).mono fun e w2 ⟨he, ha, hf⟩ => ⟨_, he, ?_⟩
      have hp := T.skew_blocks t'
      refine (split_any t'.skew w2 ha (hp.nodup_iff.2 h2)).mono fun e w3 ⟨he, ha3, hf3⟩ => ⟨_, he, rfl, ha3, ⟨n', ?_⟩, ?_⟩
      · exact (h5.frm hf hmt).frm hf3 (fun h => hmt (hp.mem_iff.1 h))
      · refine (h4.trans hf ?_).trans hf3 ?_
        · intro i hi h; rcases h3 i h with h | h
          · exact .inr h
          · omega
        · intro i hi h; rcases h3 i (hp.mem_iff.1 h) with h | h
          · exact .inr h
          · omega
    have c0 : w.cell? ⟨b, 0, none⟩ = some (.string k) := by rw [ht.1.cell]; rfl
    have c6 : w.cell? ⟨b, 6, none⟩ = some (.pointer l.ptr) := by rw [ht.1.cell]; rfl
    have c7 : w.cell? ⟨b, 7, none⟩ = some (.pointer r.ptr) := by rw [ht.1.cell]; rfl
    by_cases hl : lt key k = true
    · refine (set_less m b key k x l.ptr w (fun q W => ∃ nb n', w.heap.size ≤ nb ∧ q = (l.set nb key x).ptr ∧ (l.set nb key x).At W ∧ Blk W m #[r0, .int .i64 n'] MapT ∧ Frm (fun c => c = m ∨ c ∈ l.blocks) w W) (SetDone m r0 key x (.node b k v lev l r) w) ht.1.lt c0 c6 hl ?_ ?_ ?_)
      · intro W hW
        refine (ihl W n (hm.below hW) (T.At.frm (Frm.ofBelow (F := fun _ => False) hW) ht.2.1 (fun _ _ h => h)) hd.2.1 (by grind)).mono fun e w' ⟨q, he, nb, n', h1, h2, h3, h4, h5⟩ => ⟨q, he, nb, n', by have := hW.size; omega, h2, h3, h4, (Frm.ofBelow hW).trans h5 (fun _ _ h => h)⟩
      · rintro q W ⟨nb, n', h1, h2, h3, h4, h5⟩
        have hb := ht.1.frm h5 (by grind)
        exact ⟨by rw [hb.cell]; rfl, hb.free 6⟩
      · rintro q W W' ⟨nb, n', h1, h2, h3, h4, h5⟩ ha htp
        have f6 : Frm (fun c => c = b) W W' := ((Frm.refl (fun c => c = b) W).setCell (p := ⟨b, 6, none⟩) (.inl rfl) _).alike ha htp
        have hlt := ht.1.lt
        have hbl := T.At.lt ht.2.1
        have hmem : ∀ c ∈ (l.set nb key x).blocks, c ∈ l.blocks ∨ c = nb := fun c hc => T.set_mem hc
        refine (step W W' (.node b k v lev (l.set nb key x) r) ⟨?_, ?_, ?_⟩ ?_ ?_ ?_ ⟨n', ?_⟩ (fun _ _ => trivial)).mono fun e w2 ⟨q2, he, hc⟩ => ⟨q2, he, hc.mono fun e w3 ⟨q3, he, g1, g2, ⟨n3, g3⟩, g4⟩ => ⟨q3, he, nb, n3, h1, ?_, ?_, g3, g4⟩⟩
        · subst h2; exact ((ht.1.frm h5 (by grind)).set 6 _).alike ha
        · exact T.At.frm f6 h3 (by rintro c hc rfl; rcases hmem _ hc with h | h <;> grind)
        · exact T.At.frm f6 (T.At.frm h5 ht.2.2 (by grind)) (by grind)
        · have hnb : nb ∉ l.blocks := fun h => by have := hbl nb h; omega
          have hnr : nb ∉ r.blocks := fun h => by have := T.At.lt ht.2.2 nb h; omega
          have hnd := T.set_nodup (nb := nb) (key := key) (x := x) hd.2.1 hnb
          simp only [T.blocks, List.nodup_cons, List.mem_append, not_or, List.nodup_append]
          refine ⟨⟨fun h => ?_, hd.1.2⟩, hnd, hd.2.2.1, fun c hc => ?_⟩
          · rcases hmem _ h with h | h
            · exact hd.1.1 h
            · omega
          · rcases hmem _ hc with h | h <;> grind
        · intro c hc
          simp only [T.blocks, List.mem_cons, List.mem_append] at hc ⊢
          rcases hc with h | h | h
          · exact .inl (.inl h)
          · rcases hmem _ h with h | h
            · exact .inl (.inr (.inl h))
            · exact .inr (by omega)
          · exact .inl (.inr (.inr h))
        · refine (h5.mono (G := fun c => c = m ∨ c ∈ (T.node b k v lev l r).blocks) ?_).trans f6 ?_
          · intro i hi h; simp only [T.blocks, List.mem_cons, List.mem_append]; grind
          · intro i hi h; simp only [T.blocks, List.mem_cons, List.mem_append]; grind
        · exact h4.frm f6 (by grind)
        · rw [g1]; simp only [T.set]; rw [if_pos hl]
        · simp only [T.set]; rw [if_pos hl]; exact g2
    · have hl' : Op.bytesLess key.toList k.toList = false := by simpa [lt] using hl
      by_cases hg : lt k key = true
      · have hne : (key.toList == k.toList) = false := by
          rw [beq_eq_false_iff_ne]; intro e; have e' := bytes_inj e; subst e'; rw [lt_irr] at hg; cases hg
        refine (set_great m b key k x r.ptr w (fun q W => ∃ nb n', w.heap.size ≤ nb ∧ q = (r.set nb key x).ptr ∧ (r.set nb key x).At W ∧ Blk W m #[r0, .int .i64 n'] MapT ∧ Frm (fun c => c = m ∨ c ∈ r.blocks) w W) (SetDone m r0 key x (.node b k v lev l r) w) ht.1.lt c0 c7 hl' hg hne ?_ ?_ ?_)
        · intro W hW
          refine (ihr W n (hm.below hW) (T.At.frm (Frm.ofBelow (F := fun _ => False) hW) ht.2.2 (fun _ _ h => h)) hd.2.2.1 (by grind)).mono fun e w' ⟨q, he, nb, n', h1, h2, h3, h4, h5⟩ => ⟨q, he, nb, n', by have := hW.size; omega, h2, h3, h4, (Frm.ofBelow hW).trans h5 (fun _ _ h => h)⟩
        · rintro q W ⟨nb, n', h1, h2, h3, h4, h5⟩
          have hb := ht.1.frm h5 (by grind)
          exact ⟨by rw [hb.cell]; rfl, hb.free 7⟩
        · rintro q W W' ⟨nb, n', h1, h2, h3, h4, h5⟩ ha htp
          have f6 : Frm (fun c => c = b) W W' := ((Frm.refl (fun c => c = b) W).setCell (p := ⟨b, 7, none⟩) (.inl rfl) _).alike ha htp
          have hlt := ht.1.lt
          have hbl := T.At.lt ht.2.2
          have hmem : ∀ c ∈ (r.set nb key x).blocks, c ∈ r.blocks ∨ c = nb := fun c hc => T.set_mem hc
          refine (step W W' (.node b k v lev l (r.set nb key x)) ⟨?_, ?_, ?_⟩ ?_ ?_ ?_ ⟨n', ?_⟩ (fun _ _ => trivial)).mono fun e w2 ⟨q2, he, hc⟩ => ⟨q2, he, hc.mono fun e w3 ⟨q3, he, g1, g2, ⟨n3, g3⟩, g4⟩ => ⟨q3, he, nb, n3, h1, ?_, ?_, g3, g4⟩⟩
          · subst h2; exact ((ht.1.frm h5 (by grind)).set 7 _).alike ha
          · exact T.At.frm f6 (T.At.frm h5 ht.2.1 (by grind)) (by grind)
          · exact T.At.frm f6 h3 (by rintro c hc rfl; rcases hmem _ hc with h | h <;> grind)
          · have hnb : nb ∉ r.blocks := fun h => by have := hbl nb h; omega
            have hnl : nb ∉ l.blocks := fun h => by have := T.At.lt ht.2.1 nb h; omega
            have hnd := T.set_nodup (nb := nb) (key := key) (x := x) hd.2.2.1 hnb
            simp only [T.blocks, List.nodup_cons, List.mem_append, not_or, List.nodup_append]
            refine ⟨⟨hd.1.1, fun h => ?_⟩, hd.2.1, hnd, fun a ha c hc => ?_⟩
            · rcases hmem _ h with h | h
              · exact hd.1.2 h
              · omega
            · rcases hmem _ hc with h | h <;> grind
          · intro c hc
            simp only [T.blocks, List.mem_cons, List.mem_append] at hc ⊢
            rcases hc with h | h | h
            · exact .inl (.inl h)
            · exact .inl (.inr (.inl h))
            · rcases hmem _ h with h | h
              · exact .inl (.inr (.inr h))
              · exact .inr (by omega)
          · refine (h5.mono (G := fun c => c = m ∨ c ∈ (T.node b k v lev l r).blocks) ?_).trans f6 ?_
            · intro i hi h; simp only [T.blocks, List.mem_cons, List.mem_append]; grind
            · intro i hi h; simp only [T.blocks, List.mem_cons, List.mem_append]; grind
          · exact h4.frm f6 (by grind)
          · rw [g1]; simp only [T.set]; rw [if_neg hl, if_pos hg]
          · simp only [T.set]; rw [if_neg hl, if_pos hg]; exact g2
      · have hg' : Op.bytesLess k.toList key.toList = false := by simpa [lt] using hg
        have e : key = k := lt_tri hl' hg'
        subst e
        refine (set_same m b key key x v lev l.ptr r.ptr w ht.1 hl' hg' (by simp)).mono fun e w' ⟨he, hb, hf⟩ => ?_
        have hs : T.set w.heap.size key x (.node b key v lev l r) = .node b key x lev l r := by simp only [T.set]; rw [if_neg hl, if_neg hg]
        refine ⟨_, he, w.heap.size, n, Nat.le_refl _, ?_, ?_, ?_, ?_⟩
        · rw [hs]; rfl
        · rw [hs]; exact ⟨hb, T.At.frm hf ht.2.1 (by grind), T.At.frm hf ht.2.2 (by grind)⟩
        · exact hm.frm hf (by grind)
        · exact hf.mono (by intro i hi h; simp only [T.blocks, List.mem_cons, List.mem_append]; grind)

end Go.Proofs.Ytedcdjlpogpgbaa

/- Layer 5's map: New, Set, From, Get by what the list of keys comes to. -/
set_option linter.unusedVariables false
set_option linter.unusedSimpArgs false
namespace Go.Proofs.Ytedcdjlpogpgbaa
open Go.RowKit

structure MapAt (w : World) (m : Nat) (t : T) : Prop where
  blk : ∃ n : Int, Blk w m #[.pointer t.ptr, .int .i64 n] MapT
  tree : t.At w
  nodup : t.blocks.Nodup
  out : m ∉ t.blocks
  up : Up t.list
theorem MapAt.frm {F : Nat → Prop} {w w' : World} {m : Nat} {t : T} (h : MapAt w m t) (f : Frm F w w') (hm : ¬ F m) (ht : ∀ b ∈ t.blocks, ¬ F b) : MapAt w' m t := by
  obtain ⟨n, hn⟩ := h.blk
  exact ⟨⟨n, hn.frm f hm⟩, T.At.frm f h.tree ht, h.nodup, h.out, h.up⟩
theorem MapAt.lt {w : World} {m : Nat} {t : T} (h : MapAt w m t) : m < w.heap.size ∧ ∀ b ∈ t.blocks, b < w.heap.size := by
  obtain ⟨n, hn⟩ := h.blk
  exact ⟨hn.lt, T.At.lt h.tree⟩
def MapDone (m : Nat) (key : ByteArray) (x : Val) (t : T) (w : World) (e : Ending) (w' : World) : Prop :=
  ∃ (bb : Bool) (t' : T), e = .returned (.bool bb) ∧ MapAt w' m t' ∧ t'.list = ins key x t.list ∧ (∀ c ∈ t'.blocks, c ∈ t.blocks ∨ w.heap.size ≤ c) ∧ Frm (fun b => b = m ∨ b ∈ t.blocks) w w'

set_option maxHeartbeats 400000 in
theorem new_map (w : World) : Calls Try.prog 68 #[] w fun e w' => e = .returned (.pointer (some ⟨w.heap.size, 0, none⟩)) ∧ w' = w.alloc (.cells #[.pointer none, .int .i64 0] 149) := by
  go_enter Try.func68, Try.ntmps68
  go_wp2_with fail
  go_ret
  exact ⟨rfl, rfl⟩
theorem mapAt_new (w : World) : MapAt (w.alloc (.cells #[.pointer none, .int .i64 0] MapT)) w.heap.size .nil :=
  ⟨⟨0, Blk.new w _ _⟩, trivial, List.nodup_nil, by simp [T.blocks], by simp [Up, T.list]⟩

set_option maxHeartbeats 400000 in
theorem Set_walk (m : Nat) (r0 : Option Addr) (n : Int) (key : ByteArray) (x : Val) (w : World) (R : Option Addr → World → Prop) (R' : World → Prop)
    (hm : m < w.heap.size) (h0 : w.cell? ⟨m, 0, none⟩ = some (.pointer r0)) (h1 : w.cell? ⟨m, 1, none⟩ = some (.int .i64 n))
    (hc : ∀ W : World, Below w.heap.size w W → Calls Try.prog 83 #[.pointer (some ⟨m, 0, none⟩), .pointer r0, .string key, .agg (valCells x)] W (PtrRes R))
    (hw : ∀ q W, R q W → ∃ n2 : Int, W.cell? ⟨m, 0, none⟩ = some (.pointer r0) ∧ W.frozen? ⟨m, 0, none⟩ = false ∧ W.cell? ⟨m, 1, none⟩ = some (.int .i64 n2))
    (hs : ∀ q W W', R q W → W'.Alike (W.setCell ⟨m, 0, none⟩ (.pointer q)) → W'.tape = W.tape → R' W') :
    Calls Try.prog 70 #[.pointer (some ⟨m, 0, none⟩), .string key, .agg (valCells x)] w fun e w' => (∃ b : Bool, e = .returned (.bool b)) ∧ R' w' := by
  unfold valCells at *
  have HC := Lib.hid hc
  have HW := Lib.hid hw
  have HS := Lib.hid hs
  clear hc hw hs
  go_enter Try.func70, Try.ntmps70
  go_wp2_with fail
  go_region_with (go_at_call 83; refine (HC.out _ (((Below.refl _ _).alloc (Nat.le_refl _) _).drew)).mono ?_; rintro e w1 ⟨q, rfl, hr⟩; obtain ⟨n2, hw1, hw2, hw3⟩ := HW.out q w1 hr)
  all_goals
    go_wp2_with fail
    go_ret
    exact ⟨⟨_, rfl⟩, HS.out q w1 _ hr ⟨rfl, rfl, rfl⟩ rfl⟩

theorem Set_any (m : Nat) (t : T) (key : ByteArray) (x : Val) (w : World) (h : MapAt w m t) :
    Calls Try.prog 70 #[.pointer (some ⟨m, 0, none⟩), .string key, .agg (valCells x)] w (MapDone m key x t w) := by
  obtain ⟨n, hb⟩ := h.blk
  refine (Set_walk m t.ptr n key x w (SetDone m (.pointer t.ptr) key x t w) (fun w' => ∃ t', MapAt w' m t' ∧ t'.list = ins key x t.list ∧ (∀ c ∈ t'.blocks, c ∈ t.blocks ∨ w.heap.size ≤ c) ∧ Frm (fun b => b = m ∨ b ∈ t.blocks) w w') hb.lt (by rw [hb.cell]; rfl) (by rw [hb.cell]; rfl) ?_ ?_ ?_).mono ?_
  · intro W hW
    refine (set_any m (.pointer t.ptr) key x t W n (hb.below hW) (T.At.frm (Frm.ofBelow (F := fun _ => False) hW) h.tree (fun _ _ h => h)) h.nodup h.out).mono ?_
    rintro e w' ⟨q, he, nb, n', h1, h2, h3, h4, h5⟩
    exact ⟨q, he, nb, n', by have := hW.size; omega, h2, h3, h4, (Frm.ofBelow hW).trans h5 (fun _ _ h => h)⟩
  · rintro q W ⟨nb, n', h1, h2, h3, h4, h5⟩
    exact ⟨n', by rw [h4.cell]; rfl, h4.free 0, by rw [h4.cell]; rfl⟩
  · rintro q W W' ⟨nb, n', h1, h2, h3, h4, h5⟩ ha htp
    have f6 : Frm (fun c => c = m) W W' := ((Frm.refl (fun c => c = m) W).setCell (p := ⟨m, 0, none⟩) (.inl rfl) _).alike ha htp
    have hnb : nb ∉ t.blocks := fun hh => by have := T.At.lt h.tree nb hh; omega
    have hmn : ∀ c ∈ (t.set nb key x).blocks, c ≠ m := by
      intro c hc e
      subst e
      rcases T.set_mem hc with hc | hc
      · exact h.out hc
      · have := hb.lt; omega
    refine ⟨t.set nb key x, ⟨⟨n', ?_⟩, T.At.frm f6 h3 hmn, T.set_nodup h.nodup hnb, fun hh => hmn m hh rfl, ?_⟩, T.set_list nb key x t h.up, ?_, ?_⟩
    · subst h2; exact (h4.set 0 _).alike ha
    · rw [T.set_list nb key x t h.up]; exact Up.ins h.up
    · intro c hc
      rcases T.set_mem hc with hc | hc
      · exact .inl hc
      · exact .inr (by omega)
    · exact h5.trans f6 (fun i _ hi => .inl hi)
  · rintro e w' ⟨⟨bb, he⟩, t', g1, g2, g3, g4⟩
    exact ⟨bb, t', he, g1, g2, g3, g4⟩

def T.from (key : ByteArray) : T → Option (ByteArray × Val) → Option (ByteArray × Val)
  | .nil, best => best
  | .node _ k v _ l r, best => if lt k key = true then r.from key best else l.from key (some (k, v))
def T.count : T → Nat
  | .nil => 0
  | .node _ _ _ _ l r => l.count + r.count + 1
def BestAt (w : World) (p : Option Addr) : Option (ByteArray × Val) → Prop
  | none => p = none
  | some (k, v) => ∃ b lev l r, p = some ⟨b, 0, none⟩ ∧ Blk w b (placeCells k v lev l r) 157
theorem BestAt.below {w w' : World} (h : Below w.heap.size w w') {p : Option Addr} : ∀ {o : Option (ByteArray × Val)}, BestAt w p o → BestAt w' p o
  | none, hb => hb
  | some (k, v), ⟨b, lev, l, r, e, hb⟩ => ⟨b, lev, l, r, e, hb.below h⟩
theorem T.At.below {w w' : World} (h : Below w.heap.size w w') {t : T} (ht : t.At w) : t.At w' := T.At.frm (Frm.ofBelow (F := fun _ => False) h) ht (fun _ _ h => h)

theorem val_agg (w : World) : (isAgg 46).run Try.prog w = .ok true w := by kernel_rfl
theorem val_size (w : World) : (sizeOf 46).run Try.prog w = .ok 4 w := by kernel_rfl
def zeroVal : Val := ⟨⟨0, 0⟩, false, ⟨#[]⟩⟩
def FromRes (o : Option (ByteArray × Val)) (w : World) (e : Ending) (w' : World) : Prop :=
  e = .returned (match o with | none => .tuple #[.string ⟨#[]⟩, .agg (valCells zeroVal), .bool false] | some (k, v) => .tuple #[.string k, .agg (valCells v), .bool true]) ∧ Below w.heap.size w w'
def FromRel (key : ByteArray) (t : T) (w0 : World) (g : Nat) (bv pv : Value) (wr : World) : Prop :=
  ∃ (s : T) (bp : Option Addr) (o : Option (ByteArray × Val)), bv = .pointer bp ∧ pv = .pointer s.ptr ∧ s.At wr ∧ BestAt wr bp o ∧ s.from key o = t.from key none ∧ g = s.count ∧ Blk wr w0.heap.size (valCells zeroVal) 46 ∧ Below w0.heap.size w0 wr

set_option maxHeartbeats 1000000 in
theorem From_any (m : Nat) (t : T) (key : ByteArray) (w : World) (h : MapAt w m t) :
    Calls Try.prog 75 #[.pointer (some ⟨m, 0, none⟩), .string key] w (FromRes (t.from key none) w) := by
  obtain ⟨n, hb⟩ := h.blk
  have hm := hb.lt
  have c0 : w.cell? ⟨m, 0, none⟩ = some (.pointer t.ptr) := by rw [hb.cell]; rfl
  have ht := h.tree
  have HT := Lib.hid ht
  clear hb h ht
  go_enter Try.func75, Try.ntmps75
  go_wp2_with fail
  go_loopg [7, 8] t.count (fun g bv pv wr => FromRel key t w g bv pv wr)
  case atStart => exact ⟨t, none, none, rfl, rfl, T.At.below ((Below.refl _ _).alloc (Nat.le_refl _) _) HT.out, rfl, rfl, rfl, Blk.new w _ _, (Below.refl _ _).alloc (Nat.le_refl _) _⟩
  case round =>
    obtain ⟨s, bp, o, rfl, rfl, hs, ho, hf, rfl, hz, hbel⟩ := hrel
    have hz1 := hz.lt
    have z0 : wr.cell? ⟨w.heap.size, 0, none⟩ = some (.int .i64 0) := by rw [hz.cell]; rfl
    have z1 : wr.cell? ⟨w.heap.size, 1, none⟩ = some (.int .i64 0) := by rw [hz.cell]; rfl
    have z2 : wr.cell? ⟨w.heap.size, 2, none⟩ = some (.bool false) := by rw [hz.cell]; rfl
    have z3 : wr.cell? ⟨w.heap.size, 3, none⟩ = some (.string ⟨#[]⟩) := by rw [hz.cell]; rfl
    have y0 := hz.free 0
    have y1 := hz.free 1
    have y2 := hz.free 2
    have y3 := hz.free 3
    have HB := Lib.hid hbel
    have HF := Lib.hid hf
    have HZ := Lib.hid hz
    have HS := Lib.hid hs
    clear hbel hf hz hs
    cases s with
    | nil =>
      cases o with
      | none =>
        obtain rfl := ho
        go_wp2_with fail
        go_region
        all_goals
          go_wp2_with fail
          have hfin : T.from key .nil none = t.from key none := HF.out
          rw [← hfin]
          refine ret_tmp_cell_tmp rfl rfl (loads_blk (T := 46) (cs := valCells zeroVal) val_agg val_size ?_ rfl) rfl ⟨rfl, ?_⟩
          · first | exact (((((HZ.out.set 0 _).set 1 _).set 2 _).set 3 _).alloc _) | exact ((((HZ.out.alloc _).set 0 _).set 1 _).set 2 _).set 3 _
          · exact below_drewN (((((HB.out.setCell (Nat.le_refl _) _).setCell (Nat.le_refl _) _).setCell (Nat.le_refl _) _).setCell (Nat.le_refl _) _).alloc (by simp; omega) _) 1
      | some p =>
        obtain ⟨k, v⟩ := p
        obtain ⟨b, lev, l, r, rfl, hb⟩ := ho
        have c0 : wr.cell? ⟨b, 0, none⟩ = some (.string k) := by rw [hb.cell]; rfl
        have c1 : wr.cell? ⟨b, 1, none⟩ = some (.int .i64 v.pos.e) := by rw [hb.cell]; rfl
        have c2 : wr.cell? ⟨b, 2, none⟩ = some (.int .i64 v.pos.i) := by rw [hb.cell]; rfl
        have c3 : wr.cell? ⟨b, 3, none⟩ = some (.bool v.th) := by rw [hb.cell]; rfl
        have c4 : wr.cell? ⟨b, 4, none⟩ = some (.string v.t) := by rw [hb.cell]; rfl
        clear hb
        go_wp2_with fail
        go_region
        all_goals
          go_wp2_with fail
          have hfin : T.from key .nil (some (k, v)) = t.from key none := HF.out
          rw [← hfin]
          refine ret_tmp_cell_tmp rfl rfl (loads_blk (T := 46) (cs := valCells v) val_agg val_size ?_ rfl) rfl ⟨rfl, ?_⟩
          · exact (((HZ.out.set 0 _).set 1 _).set 2 _).set 3 _
          · exact below_drewN ((((HB.out.setCell (Nat.le_refl _) _).setCell (Nat.le_refl _) _).setCell (Nat.le_refl _) _).setCell (Nat.le_refl _) _) 1
    | node b k v lev l r =>
      obtain ⟨hb, hsl, hsr⟩ := HS.out
      have hb1 := hb.lt
      have c0 : wr.cell? ⟨b, 0, none⟩ = some (.string k) := by rw [hb.cell]; rfl
      have c6 : wr.cell? ⟨b, 6, none⟩ = some (.pointer l.ptr) := by rw [hb.cell]; rfl
      have c7 : wr.cell? ⟨b, 7, none⟩ = some (.pointer r.ptr) := by rw [hb.cell]; rfl
      have HK := Lib.hid hb
      have HL := Lib.hid hsl
      have HR := Lib.hid hsr
      clear hb hsl hsr
      have hp : (T.node b k v lev l r).ptr = some ⟨b, 0, none⟩ := rfl
      by_cases hlt : Op.bytesLess k.toList key.toList = true
      · go_wp2_with fail
        go_roundg r.count
        case measure => simp [T.count]; omega
        case rel =>
          refine ⟨r, bp, o, rfl, rfl, HR.out, ho, ?_, rfl, HZ.out, HB.out⟩
          rw [← HF.out]; simp only [T.from]; rw [if_pos (show lt k key = true from hlt)]
      · have hlt' : Op.bytesLess k.toList key.toList = false := by simpa using hlt
        clear hlt
        go_wp2_with fail
        go_region
        all_goals
          go_wp2_with fail
          go_roundg l.count
          case measure => simp [T.count]; omega
          case rel =>
            refine ⟨l, some ⟨b, 0, none⟩, some (k, v), rfl, rfl, T.At.below (Below.refl _ _).drew HL.out, ⟨b, lev, l.ptr, r.ptr, rfl, HK.out⟩, ?_, rfl, HZ.out, HB.out.drew⟩
            rw [← HF.out]; simp only [T.from]; rw [if_neg (by simpa [lt] using hlt')]

def getL (key : ByteArray) (l : List (ByteArray × Val)) : Option Val := (l.find? (fun p => p.1.toList == key.toList)).map (·.2)

theorem T.from_list (key : ByteArray) : ∀ (t : T), Up t.list → ∀ best, t.from key best = (t.list.find? (fun p => !lt p.1 key)).or best
  | .nil, _, best => by simp [T.from, T.list]
  | .node b k v lev l r, h, best => by
    obtain ⟨h1, h2, h3, h4⟩ := Up.node h
    simp only [T.from, T.list]
    rw [List.find?_append]
    split
    · rename_i hk
      have hn : l.list.find? (fun p => !lt p.1 key) = none := by
        rw [List.find?_eq_none]; intro p hp; simp [lt_trans (h3 p hp) hk]
      rw [hn, T.from_list key r h2]
      simp [List.find?_cons, hk]
    · rename_i hk
      rw [T.from_list key l h1]
      have hk' : lt k key = false := by simpa using hk
      simp only [List.find?_cons, hk']
      cases hf : l.list.find? (fun p => !lt p.1 key) <;> simp
theorem find_same (key : ByteArray) : ∀ l : List (ByteArray × Val), Up l → (match l.find? (fun p => !lt p.1 key) with | none => none | some (k, v) => if (k.toList == key.toList) = true then some v else none) = getL key l
  | [], _ => rfl
  | (k, v) :: l, h => by
    unfold Up at h
    rw [List.pairwise_cons] at h
    unfold getL
    cases hk : lt k key with
    | true =>
      have hne : (k.toList == key.toList) = false := by
        rw [beq_eq_false_iff_ne]; intro e; rw [bytes_inj e, lt_irr] at hk; cases hk
      have := find_same key l h.2
      unfold getL at this
      simp only [List.find?_cons, hk, hne]
      simpa using this
    | false =>
      simp only [List.find?_cons, hk, Bool.not_false]
      by_cases he : (k.toList == key.toList) = true
      · simp [he]
      · have hlt : lt key k = true := by
          cases h2 : lt key k with
          | true => rfl
          | false => exact absurd (by rw [lt_tri hk h2]; simp) he
        simp only [he]
        have hn : l.find? (fun p => p.1.toList == key.toList) = none := by
          rw [List.find?_eq_none]; intro p hp hpe
          have := lt_trans hlt (h.1 p hp)
          rw [bytes_inj (beq_iff_eq.1 hpe), lt_irr] at this; cases this
        simp [hn]
theorem T.get_list (key : ByteArray) (t : T) (h : Up t.list) : (match t.from key none with | none => none | some (k, v) => if (k.toList == key.toList) = true then some v else none) = getL key t.list := by
  rw [T.from_list key t h, Option.or_none]; exact find_same key t.list h

theorem getL_ins_same (key : ByteArray) (x : Val) : ∀ l : List (ByteArray × Val), getL key (ins key x l) = some x
  | [] => by simp [ins, getL]
  | (k, y) :: l => by
    simp only [ins]
    split
    · simp [getL]
    · split
      · rename_i h1 h2
        have hne : (k.toList == key.toList) = false := by
          rw [beq_eq_false_iff_ne]; intro e; rw [bytes_inj e, lt_irr] at h2; cases h2
        have := getL_ins_same key x l
        unfold getL at this ⊢
        simp only [List.find?_cons, hne]; exact this
      · rename_i h1 h2
        have e : key = k := lt_tri (by simpa using h1) (by simpa using h2)
        simp [getL, e]
theorem getL_ins_other {key key' : ByteArray} (hne : key' ≠ key) (x : Val) : ∀ l : List (ByteArray × Val), getL key' (ins key x l) = getL key' l
  | [] => by
    have : (key.toList == key'.toList) = false := by rw [beq_eq_false_iff_ne]; intro e; exact hne (bytes_inj e).symm
    simp [ins, getL, this]
  | (k, y) :: l => by
    have hn : (key.toList == key'.toList) = false := by rw [beq_eq_false_iff_ne]; intro e; exact hne (bytes_inj e).symm
    have ih := getL_ins_other hne x l
    simp only [ins]
    split
    · unfold getL; simp only [List.find?_cons, hn]
    · split
      · unfold getL at ih ⊢
        simp only [List.find?_cons]
        cases k.toList == key'.toList <;> simp [ih]
      · rename_i h1 h2
        have e : key = k := lt_tri (by simpa using h1) (by simpa using h2)
        subst e
        unfold getL; simp only [List.find?_cons, hn]

set_option maxHeartbeats 400000 in
theorem Get_some (m : Nat) (key k : ByteArray) (v : Val) (w : World) (o : Option (ByteArray × Val)) (ho : o = some (k, v)) (h : ∀ W, Below w.heap.size w W → Calls Try.prog 75 #[.pointer (some ⟨m, 0, none⟩), .string key] W (FromRes o W)) (b : Bool) (hk : (k.toList == key.toList) = b) :
    Calls Try.prog 51 #[.pointer (some ⟨m, 0, none⟩), .string key] w fun e w' => e = .returned (.tuple #[.agg (valCells (if b = true then v else zeroVal)), .bool b]) ∧ Below w.heap.size w w' := by
  subst ho
  have H := Lib.hid h
  clear h
  have hk2 : (k.toList != key.toList) = !b := by rw [← hk]; rfl
  go_enter Try.func51, Try.ntmps51
  go_wp2_with fail
  refine (H.out _ ((Below.refl _ _).alloc (Nat.le_refl _) _)).mono ?_
  rintro e w1 ⟨rfl, hb⟩
  unfold valCells
  have hz := (Blk.new w (valCells zeroVal) 46).below hb
  have hz1 := hz.lt
  have z0 : w1.cell? ⟨w.heap.size, 0, none⟩ = some (.int .i64 0) := by rw [hz.cell]; rfl
  have z1 : w1.cell? ⟨w.heap.size, 1, none⟩ = some (.int .i64 0) := by rw [hz.cell]; rfl
  have z2 : w1.cell? ⟨w.heap.size, 2, none⟩ = some (.bool false) := by rw [hz.cell]; rfl
  have z3 : w1.cell? ⟨w.heap.size, 3, none⟩ = some (.string ⟨#[]⟩) := by rw [hz.cell]; rfl
  have y0 := hz.free 0
  have y1 := hz.free 1
  have y2 := hz.free 2
  have y3 := hz.free 3
  have HB := Lib.hid ((((Below.refl _ w).alloc (Nat.le_refl _) _).trans (hb.mono (by simp))))
  have HZ := Lib.hid hz
  clear hb hz
  cases b
  · go_wp2_with fail
    refine ret_cell_tmp rfl rfl (loads_blk (T := 46) (cs := valCells zeroVal) val_agg val_size ?_ rfl) rfl ⟨rfl, ?_⟩
    · exact (((((HZ.out.set 0 _).set 1 _).set 2 _).set 3 _).alloc _).alloc _
    · exact ((((((HB.out.setCell (Nat.le_refl _) _).setCell (Nat.le_refl _) _).setCell (Nat.le_refl _) _).setCell (Nat.le_refl _) _).alloc (by simp; omega) _).alloc (by simp; omega) _)
  · go_wp2_with fail
    refine ret_cell_tmp rfl rfl (loads_blk (T := 46) (cs := valCells v) val_agg val_size ?_ rfl) rfl ⟨rfl, ?_⟩
    · exact ((((HZ.out.set 0 _).set 1 _).set 2 _).set 3 _).alloc _
    · exact (((((HB.out.setCell (Nat.le_refl _) _).setCell (Nat.le_refl _) _).setCell (Nat.le_refl _) _).setCell (Nat.le_refl _) _).alloc (by simp; omega) _)

set_option maxHeartbeats 400000 in
theorem Get_none (m : Nat) (key : ByteArray) (w : World) (o : Option (ByteArray × Val)) (ho : o = none) (h : ∀ W, Below w.heap.size w W → Calls Try.prog 75 #[.pointer (some ⟨m, 0, none⟩), .string key] W (FromRes o W)) :
    Calls Try.prog 51 #[.pointer (some ⟨m, 0, none⟩), .string key] w fun e w' => e = .returned (.tuple #[.agg (valCells zeroVal), .bool false]) ∧ Below w.heap.size w w' := by
  subst ho
  have H := Lib.hid h
  clear h
  go_enter Try.func51, Try.ntmps51
  go_wp2_with fail
  refine (H.out _ ((Below.refl _ _).alloc (Nat.le_refl _) _)).mono ?_
  rintro e w1 ⟨rfl, hb⟩
  unfold valCells
  have hz := (Blk.new w (valCells zeroVal) 46).below hb
  have hz1 := hz.lt
  have z0 : w1.cell? ⟨w.heap.size, 0, none⟩ = some (.int .i64 0) := by rw [hz.cell]; rfl
  have z1 : w1.cell? ⟨w.heap.size, 1, none⟩ = some (.int .i64 0) := by rw [hz.cell]; rfl
  have z2 : w1.cell? ⟨w.heap.size, 2, none⟩ = some (.bool false) := by rw [hz.cell]; rfl
  have z3 : w1.cell? ⟨w.heap.size, 3, none⟩ = some (.string ⟨#[]⟩) := by rw [hz.cell]; rfl
  have y0 := hz.free 0
  have y1 := hz.free 1
  have y2 := hz.free 2
  have y3 := hz.free 3
  have HB := Lib.hid ((((Below.refl _ w).alloc (Nat.le_refl _) _).trans (hb.mono (by simp))))
  have HZ := Lib.hid hz
  clear hb hz
  go_wp2_with fail
  refine ret_cell_tmp rfl rfl (loads_blk (T := 46) (cs := valCells zeroVal) val_agg val_size ?_ rfl) rfl ⟨rfl, ?_⟩
  · exact (((((HZ.out.set 0 _).set 1 _).set 2 _).set 3 _).alloc _).alloc _
  · exact ((((((HB.out.setCell (Nat.le_refl _) _).setCell (Nat.le_refl _) _).setCell (Nat.le_refl _) _).setCell (Nat.le_refl _) _).alloc (by simp; omega) _).alloc (by simp; omega) _)

theorem Get_any (m : Nat) (t : T) (key : ByteArray) (w : World) (h : MapAt w m t) :
    Calls Try.prog 51 #[.pointer (some ⟨m, 0, none⟩), .string key] w fun e w' => e = .returned (.tuple #[.agg (valCells ((getL key t.list).getD zeroVal)), .bool (getL key t.list).isSome]) ∧ Below w.heap.size w w' := by
  have hg := T.get_list key t h.up
  have hc : ∀ W, Below w.heap.size w W → Calls Try.prog 75 #[.pointer (some ⟨m, 0, none⟩), .string key] W (FromRes (t.from key none) W) :=
    fun W hW => From_any m t key W (h.frm (Frm.ofBelow (F := fun _ => False) hW) (fun h => h) (fun _ _ h => h))
  cases ho : t.from key none with
  | none =>
    rw [ho] at hg
    simp only at hg
    rw [← hg]
    exact Get_none m key w _ ho hc
  | some p =>
    obtain ⟨k, v⟩ := p
    rw [ho] at hg
    simp only at hg
    rw [← hg]
    cases hb : k.toList == key.toList with
    | true => simpa [hb] using Get_some m key k v w _ ho hc true hb
    | false => simpa [hb] using Get_some m key k v w _ ho hc false hb

end Go.Proofs.Ytedcdjlpogpgbaa
