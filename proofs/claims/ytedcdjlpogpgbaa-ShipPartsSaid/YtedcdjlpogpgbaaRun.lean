/- What the operations on a map whose keys are ints come to, and what the map then holds. -/
import Derived.Test.YtedcdjlpogpgbaaBase
import Derived.Maps.RangeRun
set_option linter.unusedVariables false
set_option linter.unusedSimpArgs false
namespace Go.Proofs.Ytedcdjlpogpgbaa
open Go.RowKit
open Go.ChangeMaps (setBlock)

/-- Block b is a map with these keys and values, in the order in which they came. -/
structure MpOf (es : Array MapEntry) (clock : Nat) (l : List (Value × Value)) : Prop where
  list : es.toList.map (fun e => (e.key, e.val)) = l
  born : (es.toList.map (·.born)).Pairwise (· < ·)
  old : ∀ x ∈ es.toList, x.born < clock
def MpAt (w : World) (b : Nat) (l : List (Value × Value)) : Prop := ∃ es clock, w.heap[b]? = some (.map es clock) ∧ MpOf es clock l

theorem MpAt.lt {w : World} {b : Nat} {l : List (Value × Value)} (h : MpAt w b l) : b < w.heap.size := by
  obtain ⟨es, clock, h, _⟩ := h; exact (Array.getElem?_eq_some_iff.1 h).1
theorem MpAt.frm {F : Nat → Prop} {w w' : World} {b : Nat} {l : List (Value × Value)} (h : MpAt w b l) (f : Frm F w w') (hn : ¬ F b) : MpAt w' b l := by
  have hl := h.lt
  obtain ⟨es, clock, h, k⟩ := h; exact ⟨es, clock, (f.block b hl hn).trans h, k⟩
theorem MpAt.new (w : World) : MpAt (w.alloc (.map #[] 0)) w.heap.size [] := by
  refine ⟨#[], 0, ?_, rfl, by simp, by simp⟩
  show (w.heap.push _)[w.heap.size]? = _
  simp
theorem MpAt.new' {w : World} {b : Nat} (h : b = w.heap.size) : MpAt (w.alloc (.map #[] 0)) b [] := h ▸ MpAt.new w
theorem MpAt.alloc {w : World} {b : Nat} {l : List (Value × Value)} (h : MpAt w b l) (o : Obj) : MpAt (w.alloc o) b l := h.frm (F := fun _ => False) ((Frm.refl _ w).alloc o) (fun h => h)

def keyIs (s : Int) (p : Value × Value) : Bool := match p.1 with | .int _ n => n == s | _ => false
def Ints (l : List (Value × Value)) : Prop := ∀ p ∈ l, ∃ n, p.1 = .int .i64 n
def findI (s : Int) (l : List (Value × Value)) : Option Value := (l.find? (keyIs s)).map (·.2)
def updI (s : Int) (v : Value) (l : List (Value × Value)) : List (Value × Value) :=
  if (findI s l).isSome = true then l.map (fun p => if keyIs s p = true then (.int .i64 s, v) else p) else l ++ [(.int .i64 s, v)]

theorem findNow_int (s : Int) : ∀ (es : List MapEntry) (i : Nat), Ints (es.map (fun e => (e.key, e.val))) →
    ∃ r, Instr.findNow (.int .i64) (.int .i64 s) es i = some r ∧ r.map (·.2) = findI s (es.map (fun e => (e.key, e.val))) ∧
      (∀ j v, r = some (j, v) → i ≤ j ∧ ∃ e, es[j - i]? = some e ∧ e.key = .int .i64 s ∧ ∀ k, k < j - i → ∀ e', es[k]? = some e' → e'.key ≠ .int .i64 s)
  | [], i, _ => ⟨none, rfl, rfl, fun _ _ h => by cases h⟩
  | e :: es, i, h => by
    obtain ⟨n, hn⟩ := h (e.key, e.val) (by simp)
    simp only at hn
    by_cases he : n = s
    · subst he
      refine ⟨some (i, e.val), ?_, ?_, ?_⟩
      · simp [Instr.findNow, Instr.sameNow, hn]
      · simp [findI, keyIs, hn]
      · rintro j v hj
        simp only [Option.some.injEq, Prod.mk.injEq] at hj
        obtain ⟨rfl, rfl⟩ := hj
        refine ⟨Nat.le_refl _, e, by simp, hn, fun k hk => by omega⟩
    · obtain ⟨r, h1, h2, h3⟩ := findNow_int s es (i + 1) (fun p hp => h p (by simp only [List.map_cons, List.mem_cons]; exact .inr hp))
      refine ⟨r, ?_, ?_, ?_⟩
      · have : (s == n) = false := by rw [beq_eq_false_iff_ne]; omega
        simp [Instr.findNow, Instr.sameNow, hn, this, h1]
      · rw [h2]; simp [findI, keyIs, hn, he]
      · intro j v hj
        obtain ⟨g1, e', g2, g3, g4⟩ := h3 j v hj
        refine ⟨by omega, e', ?_, g3, ?_⟩
        · rw [show j - i = (j - (i + 1)) + 1 from by omega]; simpa using g2
        · intro k hk e'' he''
          cases k with
          | zero => simp at he''; subst he''; rw [hn]; intro h; injection h with _ h; exact he h
          | succ k => exact g4 k (by omega) e'' (by simpa using he'')

variable {P : Program} {t k e : TypeId}
theorem run_findKey_int {w : World} {es : Array MapEntry} (hk : P.underlying k = some (.int .i64)) (s : Int) {r : Option (Nat × Value)} (h : Instr.findNow (.int .i64) (.int .i64 s) es.toList 0 = some r) :
    (Instr.findKey k (.int .i64 s) es.toList).run P w = .ok r w := by
  simp [Instr.findKey, Sem.run_bind, run_underlying hk, h]
theorem run_checkKey_int {w : World} (hk : P.underlying k = some (.int .i64)) (b : Bool) (s : Int) : (Instr.checkKey b 10000 k (.int .i64 s)).run P w = .ok () w := by
  rw [show (10000 : Nat) = 9999 + 1 from rfl, Instr.checkKey]
  simp [Sem.run_bind, run_underlying hk]

theorem run_lookup_int (ht : P.underlying t = some (.map k e)) (hk : P.underlying k = some (.int .i64)) {z : Value} (hz : ∀ w, (zeroValue e).run P w = .ok z w) {w : World} {b : Nat} {l : List (Value × Value)} (h : MpAt w b l) (hi : Ints l) (s : Int) :
    (Instr.lookup t (.map (some b)) (.int .i64 s) true).run P w = .ok (.tuple #[(findI s l).getD z, .bool (findI s l).isSome]) w := by
  obtain ⟨es, clock, hb, hl, hbn, ho⟩ := h
  subst hl
  obtain ⟨r, h1, h2, _⟩ := findNow_int s es.toList 0 hi
  rw [← h2]
  have hg : (getObj b).run P w = .ok (.map es clock) w := run_getObj_map _ b es clock hb
  have hc : (Instr.checkKey es.isEmpty 10000 k (.int .i64 s)).run P w = .ok () w := run_checkKey_int hk _ _
  have hf := run_findKey_int (P := P) (w := w) hk s h1
  cases r with
  | none => simp [Instr.lookup, Sem.run_bind, run_underlying ht, hg, hc, hf, hz]
  | some q => simp [Instr.lookup, Sem.run_bind, run_underlying ht, hg, hc, hf]

theorem run_len_map (ht : P.underlying t = some (.map k e)) {w : World} {b : Nat} {l : List (Value × Value)} (h : MpAt w b l) (ty : TypeId) : (Builtin.len_ #[t] ty #[.map (some b)]).run P w = .ok (.int .i64 l.length) w := by
  obtain ⟨es, clock, hb, hl, hbn, ho⟩ := h
  subst hl
  have hg : (getObj b).run P w = .ok (.map es clock) w := run_getObj_map _ b es clock hb
  simp [Builtin.len_, Sem.run_bind, run_underlying ht, hg, goInt]

theorem frm_setBlock (w : World) (b : Nat) (o : Obj) : Frm (· = b) w (setBlock w b o) :=
  ⟨rfl, rfl, rfl, by simp [setBlock], fun i hi hn => by simp only [setBlock, Array.getElem?_setIfInBounds]; rw [if_neg (fun h => hn h.symm)]⟩
theorem get_setBlock {w : World} {b : Nat} (o : Obj) (h : b < w.heap.size) : (setBlock w b o).heap[b]? = some o := by simp [setBlock, h]

theorem findI_none {s : Int} {l : List (Value × Value)} : (findI s l).isSome = l.any (keyIs s) := by
  unfold findI
  induction l with
  | nil => rfl
  | cons p l ih => simp only [List.find?_cons, List.any_cons]; cases keyIs s p <;> simp_all

theorem born_modify (es : Array MapEntry) (j : Nat) (k v : Value) : (es.modify j (fun e => { e with key := k, val := v })).toList.map (·.born) = es.toList.map (·.born) := by
  apply List.ext_getElem
  · simp
  · intro i h1 h2
    simp only [Array.toList_modify, List.getElem_map]
    rw [List.getElem_modify]
    split <;> rfl
theorem mpOf_push {es : Array MapEntry} {clock : Nat} {l : List (Value × Value)} (h : MpOf es clock l) (k v : Value) : MpOf (es.push { key := k, val := v, born := clock }) (clock + 1) (l ++ [(k, v)]) := by
  refine ⟨by simp [h.list], ?_, ?_⟩
  · rw [Array.toList_push, List.map_append, List.pairwise_append]
    refine ⟨h.born, by simp, ?_⟩
    intro a ha b hb
    simp only [List.mem_map] at ha
    obtain ⟨x, hx, rfl⟩ := ha
    simp at hb
    subst hb
    exact h.old x hx
  · intro x hx
    simp only [Array.toList_push, List.mem_append, List.mem_singleton] at hx
    rcases hx with hx | rfl
    · have := h.old x hx; omega
    · simp
theorem keyIs_iff {s : Int} {p : Value × Value} (h : ∃ n, p.1 = .int .i64 n) : keyIs s p = true ↔ p.1 = .int .i64 s := by
  obtain ⟨n, hn⟩ := h
  simp [keyIs, hn]

theorem run_mapUpdate_int (ht : P.underlying t = some (.map k e)) (hk : P.underlying k = some (.int .i64)) {w : World} {b : Nat} {l : List (Value × Value)} (h : MpAt w b l) (hi : Ints l) (hn : (l.map (·.1)).Pairwise (· ≠ ·)) (s : Int) (v : Value) :
    ∃ o, (Instr.mapUpdate t (.map (some b)) (.int .i64 s) v).run P w = .ok () (setBlock w b o) ∧ MpAt (setBlock w b o) b (updI s v l) := by
  have hlt := h.lt
  obtain ⟨es, clock, hb, hm⟩ := h
  have hl := hm.list
  subst hl
  obtain ⟨r, h1, h2, h3⟩ := findNow_int s es.toList 0 hi
  have hg : (getObj b).run P w = .ok (.map es clock) w := run_getObj_map _ b es clock hb
  have hc : (Instr.checkKey false 10000 k (.int .i64 s)).run P w = .ok () w := run_checkKey_int hk _ _
  have hf := run_findKey_int (P := P) (w := w) hk s h1
  have hset : ∀ o, (setObj b o).run P w = .ok () (setBlock w b o) := by intro o; simp [setObj, Sem.run, hb, setBlock]
  cases r with
  | none =>
    refine ⟨.map (es.push { key := .int .i64 s, val := v, born := clock }) (clock + 1), ?_, _, _, get_setBlock _ hlt, ?_⟩
    · simp [Instr.mapUpdate, Sem.run_bind, run_underlying ht, hg, hc, hf, hset]
    · have : updI s v (es.toList.map (fun e => (e.key, e.val))) = es.toList.map (fun e => (e.key, e.val)) ++ [(.int .i64 s, v)] := by
        unfold updI; rw [← h2]; simp
      rw [this]; exact mpOf_push hm _ _
  | some q =>
    obtain ⟨j, v0⟩ := q
    obtain ⟨_, e0, g2, g3, g4⟩ := h3 j v0 rfl
    simp only [Nat.sub_zero] at g2 g4
    have g2' : es[j]? = some e0 := by simpa using g2
    refine ⟨.map (es.modify j fun e => { e with key := .int .i64 s, val := v }) clock, ?_, _, _, get_setBlock _ hlt, ?_⟩
    · have hsb : (Instr.keyThatStays (.int .i64 s) (.int .i64 s)).run P w = .ok (.int .i64 s) w := by
        simp only [Instr.keyThatStays]
        rw [show Instr.sameBits 10000 (.int .i64 s) (.int .i64 s) = true by rw [show (10000 : Nat) = 9999 + 1 from rfl]; simp [Instr.sameBits]]
        simp
      simp [Instr.mapUpdate, Sem.run_bind, run_underlying ht, hg, hc, hf, g2', g3, hsb, hset]
    · have hu : updI s v (es.toList.map (fun e => (e.key, e.val))) = (es.toList.map (fun e => (e.key, e.val))).map (fun p => if keyIs s p = true then (.int .i64 s, v) else p) := by
        unfold updI; rw [← h2]; simp
      rw [hu]
      refine ⟨?_, by rw [born_modify]; exact hm.born, ?_⟩
      · apply List.ext_getElem
        · simp
        · intro i i1 i2
          simp only [Array.toList_modify, List.getElem_map]
          rw [List.getElem_modify]
          have hik : i < es.toList.length := by simpa using i1
          have hex : ∃ n, (es.toList[i].key, es.toList[i].val).1 = .int .i64 n := hi _ (List.mem_map.2 ⟨_, List.getElem_mem hik, rfl⟩)
          by_cases hij : j = i
          · subst hij
            have : es.toList[j] = e0 := by have := g2; rw [List.getElem?_eq_getElem hik] at this; exact Option.some.inj this
            rw [if_pos rfl, if_pos ((keyIs_iff hex).2 (by rw [this]; exact g3))]
          · rw [if_neg hij, if_neg]
            intro hkey
            have hkey' := (keyIs_iff hex).1 hkey
            simp only at hkey'
            have hjl : j < es.toList.length := by
              rcases Nat.lt_or_ge j es.toList.length with h | h
              · exact h
              · rw [List.getElem?_eq_none h] at g2; cases g2
            have ej : es.toList[j].key = .int .i64 s := by
              have := g2; rw [List.getElem?_eq_getElem hjl] at this; rw [Option.some.inj this]; exact g3
            rw [List.map_map] at hn
            rw [List.pairwise_map] at hn
            rw [List.pairwise_iff_getElem] at hn
            rcases Nat.lt_or_ge i j with hlt2 | hge
            · exact hn i j hik hjl hlt2 (by show es.toList[i].key = es.toList[j].key; rw [hkey', ej])
            · exact hn j i hjl hik (by omega) (by show es.toList[j].key = es.toList[i].key; rw [hkey', ej])
      · intro x hx
        have hx2 : x.born ∈ (es.modify j fun e => { e with key := .int .i64 s, val := v }).toList.map (·.born) := List.mem_map.2 ⟨x, hx, rfl⟩
        rw [born_modify] at hx2
        obtain ⟨y, hy, hye⟩ := List.mem_map.1 hx2
        rw [← hye]; exact hm.old y hy

theorem run_clear_map (ht : P.underlying t = some (.map k e)) {w : World} {b : Nat} {l : List (Value × Value)} (h : MpAt w b l) :
    ∃ o, (∀ ty, (Builtin.clear_ #[t] ty #[.map (some b)]).run P w = .ok (.tuple #[]) (setBlock w b o)) ∧ MpAt (setBlock w b o) b [] := by
  have hlt := h.lt
  obtain ⟨es, clock, hb, hm⟩ := h
  have hg : (getObj b).run P w = .ok (.map es clock) w := run_getObj_map _ b es clock hb
  have hset : ∀ o, (setObj b o).run P w = .ok () (setBlock w b o) := by intro o; simp [setObj, Sem.run, hb, setBlock]
  refine ⟨.map #[] clock, fun ty => ?_, #[], clock, get_setBlock _ hlt, rfl, by simp, by simp⟩
  simp [Builtin.clear_, Sem.run_bind, run_underlying ht, hg, hset]

end Go.Proofs.Ytedcdjlpogpgbaa
