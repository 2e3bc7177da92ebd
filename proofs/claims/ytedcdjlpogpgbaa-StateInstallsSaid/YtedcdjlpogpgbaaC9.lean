/- Positions on the branch, with no program in sight. -/
import Derived.Test.YtedcdjlpogpgbaaC6
import Derived.Test.YtedcdjlpogpgbaaC8
import Derived.Test.YtedcdjlpogpgbaaC4
import Derived.Test.YtedcdjlpogpgbaaC3
import Derived.Deep.WholeRow
import Derived.Deep.RegionHeld3
import Derived.Lib.MinMax
set_option linter.unusedVariables false
set_option linter.unusedSimpArgs false
namespace Go.Proofs.Ytedcdjlpogpgbaa
open Go.RowKit

/-- A position of the branch that isn't the beginning. -/
def OnP (t : List Ep) (p : Pos) : Prop := 1 ≤ p.e ∧ p.e ≤ t.length ∧ (ep t (p.e.toNat - 1)).c < p.i ∧ p.i ≤ 512 ∧ ∀ q, p.e.toNat ≤ q → q < t.length → p.i ≤ (ep t q).c
theorem cutGo_zero (t : List Ep) (i : Int) : ∀ (m j : Nat), cutGo t i j m = 0 ↔ ∀ q, j ≤ q → q < j + m → i ≤ (ep t q).c
  | 0, j => by simp [cutGo]; intro q h1 h2; omega
  | m + 1, j => by
    unfold cutGo
    by_cases h : (ep t j).c < i
    · rw [if_pos h]
      constructor
      · intro h2; omega
      · intro h2; have := h2 j (Nat.le_refl _) (by omega); omega
    · rw [if_neg h, cutGo_zero t i m (j + 1)]
      constructor
      · intro h2 q h3 h4
        by_cases hq : q = j
        · subst hq; omega
        · exact h2 q (by omega) (by omega)
      · intro h2 q h3 h4; exact h2 q (by omega) (by omega)
theorem cut_ge {t : List Ep} (hr : rightB t = true) {q : Nat} (hq : q < t.length) : 0 ≤ (ep t q).c := (((rightB_iff t).1 hr).2.2.2.2 q hq).2.2.1
theorem onB_iff {t : List Ep} (hr : rightB t = true) (p : Pos) : onB t p = true ↔ p = zeroPos ∨ OnP t p := by
  unfold onB
  rw [hr, Bool.true_and, Bool.and_eq_true, beq_iff_eq]
  unfold cutN
  rw [cutGo_zero]
  constructor
  · rintro ⟨h1, h2⟩
    unfold isB posEq at h1
    simp only [Bool.or_eq_true, Bool.and_eq_true, beq_iff_eq, decide_eq_true_eq] at h1
    rcases h1 with ⟨h1, h3⟩ | h1
    · left; cases p; simp only at h1 h3; subst h1; subst h3; rfl
    · exact .inr ⟨h1.1.1.1, h1.1.1.2, h1.1.2, h1.2, fun q h3 h4 => h2 q h3 (by omega)⟩
  · rintro (rfl | ⟨h1, h2, h3, h4, h5⟩)
    · exact ⟨rfl, fun q h1 h2 => cut_ge hr (by simpa [zeroPos] using h2)⟩
    · refine ⟨?_, fun q h6 h7 => h5 q h6 (by omega)⟩
      unfold isB
      simp only [Bool.or_eq_true, Bool.and_eq_true, decide_eq_true_eq]
      exact .inr ⟨⟨⟨h1, h2⟩, h3⟩, h4⟩
theorem OnP.pos {t : List Ep} {p : Pos} (h : OnP t p) (hr : rightB t = true) : 1 ≤ p.i := by
  obtain ⟨h1, h2, h3, _, _⟩ := h
  have := cut_ge hr (q := p.e.toNat - 1) (by omega)
  omega
theorem OnP.ne {t : List Ep} {p : Pos} (h : OnP t p) : p ≠ zeroPos := fun e => by subst e; have := h.1; simp [zeroPos] at this
theorem OnP.inj {t : List Ep} {p q : Pos} (h : OnP t p) (k : OnP t q) (e : p.i = q.i) : p = q := by
  obtain ⟨h1, h2, h3, h4, h5⟩ := h
  obtain ⟨k1, k2, k3, k4, k5⟩ := k
  have he : p.e = q.e := by
    rcases Int.lt_trichotomy p.e q.e with h | h | h
    · have := h5 (q.e.toNat - 1) (by omega) (by omega); omega
    · exact h
    · have := k5 (p.e.toNat - 1) (by omega) (by omega); omega
  cases p; cases q; simp only at he e; subst he; subst e; rfl
theorem OnP.snoc {t : List Ep} {p : Pos} (h : OnP t p) {e : Ep} (hc : p.i ≤ e.c) : OnP (t ++ [e]) p := by
  obtain ⟨h1, h2, h3, h4, h5⟩ := h
  have hep : ∀ q, q < t.length → ep (t ++ [e]) q = ep t q := fun q hq => by unfold ep; rw [List.getD_eq_getElem?_getD, List.getD_eq_getElem?_getD, List.getElem?_append_left hq]
  refine ⟨h1, by simp; omega, by rw [hep _ (by omega)]; exact h3, h4, fun q hq1 hq2 => ?_⟩
  by_cases hq : q < t.length
  · rw [hep q hq]; exact h5 q hq1 hq
  · have : q = t.length := by simp at hq2; omega
    subst this
    simp [ep]; exact hc
theorem atGo_on {t : List Ep} {i : Int} (hr : rightB t = true) (h1 : 1 ≤ i) (h2 : i ≤ 512) : ∀ k, k ≤ t.length → 0 < k → (∀ q, k ≤ q → q < t.length → i ≤ (ep t q).c) → OnP t (atGo t i k) ∧ (atGo t i k).i = i
  | 0, _, h, _ => absurd h (by omega)
  | k + 1, hk, _, hq => by
    unfold atGo
    by_cases hc : (ep t k).c < i
    · rw [if_pos hc]
      exact ⟨⟨by show 1 ≤ (k : Int) + 1; omega, by show (k : Int) + 1 ≤ _; omega, by show (ep t (((k : Int) + 1).toNat - 1)).c < i; rw [show ((k : Int) + 1).toNat - 1 = k from by omega]; exact hc, h2, fun q h3 h4 => hq q (by simp only at h3; omega) h4⟩, rfl⟩
    · rw [if_neg hc]
      have h0 : 0 < k := by
        rcases Nat.eq_zero_or_pos k with h | h
        · subst h
          have := ((rightB_iff t).1 hr).2.2.1
          omega
        · exact h
      refine atGo_on hr h1 h2 k (by omega) h0 (fun q h3 h4 => ?_)
      by_cases hq2 : q = k
      · subst hq2; omega
      · exact hq q (by omega) h4
theorem atB_on {t : List Ep} {i : Int} (hr : rightB t = true) (h1 : 1 ≤ i) (h2 : i ≤ 512) : OnP t (atB t i) ∧ (atB t i).i = i := by
  unfold atB
  rw [if_pos ⟨hr, h1, h2⟩]
  have hl := ((rightB_iff t).1 hr).1
  exact atGo_on hr h1 h2 t.length (Nat.le_refl _) (by omega) (fun q h3 h4 => by omega)
theorem OnP.at_ {t : List Ep} {p : Pos} (h : OnP t p) (hr : rightB t = true) : atB t p.i = p := by
  obtain ⟨h1, h2⟩ := atB_on hr (h.pos hr) h.2.2.2.1
  exact h1.inj h h2
theorem below_iff {t : List Ep} (hr : rightB t = true) (q p : Pos) : belowB t q p = true ↔ OnP t q ∧ q.i ≤ p.i ∧ onB t p = true := by
  unfold belowB coversB
  simp only [Bool.and_eq_true, decide_eq_true_eq, Bool.not_eq_true']
  constructor
  · rintro ⟨h1, ⟨h2, h3⟩, h4⟩
    rcases (onB_iff hr q).1 h3 with h5 | h5
    · subst h5; simp [posEq, zeroPos] at h1
    · exact ⟨h5, h4, h2⟩
  · rintro ⟨h1, h2, h3⟩
    refine ⟨?_, ⟨h3, (onB_iff hr q).2 (.inr h1)⟩, h2⟩
    have := h1.1
    unfold posEq
    simp; intro h; omega

end Go.Proofs.Ytedcdjlpogpgbaa

/- What holds of every state that the program makes, with no program in sight. -/
set_option linter.unusedVariables false
set_option linter.unusedSimpArgs false
namespace Go.Proofs.Ytedcdjlpogpgbaa
open Go.RowKit

/-- What a key has, up to a position. -/
structure KvOk (t : List Ep) (p : Pos) (x : KV) : Prop where
  on : OnP t x.2.pos
  le : x.2.pos.i ≤ p.i
  k1 : 1 ≤ x.1.size
  k2 : x.1.size ≤ 64
  t1 : x.2.t.size ≤ 1024
  th : x.2.th = true ∨ x.2.t.size = 0
structure SnOk (t : List Ep) (p : Pos) (y : Sn) : Prop where
  on : OnP t y.pos
  le : y.pos.i ≤ p.i
  s : numB y.s = true
  r : numB y.r = true
/-- A snapshot (the sessions in whatever order), perhaps of the beginning. -/
structure RS (t : List Ep) (p : Pos) (ps : List KV) (ss : List Sn) : Prop where
  on : p = zeroPos ∨ OnP t p
  up : Up ps
  kv : ∀ x ∈ ps, KvOk t p x
  one : ps.Pairwise (fun x y => x.2.pos.i ≠ y.2.pos.i)
  sn : ∀ y ∈ ss, SnOk t p y
  dif : ss.Pairwise (fun x y => x.s ≠ y.s)
  few : ss.length ≤ 16
/-- An entry that may stand behind p. -/
structure EntOk (t : List Ep) (x : Ent) : Prop where
  on : OnP t x.pos
  s : numB x.s = true
  r : numB x.r = true
  k1 : 1 ≤ x.k.size
  k2 : x.k.size ≤ 64
  t1 : x.t.size ≤ 1024
  d : x.d = true → x.t.size = 0

theorem RS.zero (t : List Ep) : RS t zeroPos [] [] := ⟨.inl rfl, List.Pairwise.nil, fun x h => by simp at h, List.Pairwise.nil, fun x h => by simp at h, List.Pairwise.nil, by simp⟩
theorem RS.empty {t : List Ep} {ps : List KV} {ss : List Sn} (h : RS t zeroPos ps ss) (hr : rightB t = true) : ps = [] ∧ ss = [] := by
  constructor
  · cases ps with
    | nil => rfl
    | cons x l => have k := h.kv x (by simp); have := k.on.pos hr; have := k.le; simp [zeroPos] at this; omega
  · cases ss with
    | nil => rfl
    | cons x l => have k := h.sn x (by simp); have := k.on.pos hr; have := k.le; simp [zeroPos] at this; omega
theorem RS.snoc {t : List Ep} {p : Pos} {ps : List KV} {ss : List Sn} (h : RS t p ps ss) {e : Ep} (hc : p.i ≤ e.c) : RS (t ++ [e]) p ps ss := by
  refine ⟨h.on.imp id (fun h => h.snoc hc), h.up, fun x hx => ?_, h.one, fun y hy => ?_, h.dif, h.few⟩
  · have k := h.kv x hx; exact ⟨k.on.snoc (by have := k.le; omega), k.le, k.k1, k.k2, k.t1, k.th⟩
  · have k := h.sn y hy; exact ⟨k.on.snoc (by have := k.le; omega), k.le, k.s, k.r⟩
theorem pair_ins {key : ByteArray} {v : Val} : ∀ {l : List KV}, l.Pairwise (fun x y => x.2.pos.i ≠ y.2.pos.i) → (∀ x ∈ l, x.2.pos.i ≠ v.pos.i) → (ins key v l).Pairwise (fun x y => x.2.pos.i ≠ y.2.pos.i)
  | [], _, _ => by simp [ins]
  | (k, y) :: l, h, hv => by
    obtain ⟨h1, h2⟩ := List.pairwise_cons.1 h
    unfold ins
    split
    · rw [List.pairwise_cons]; exact ⟨fun x hx => fun e => hv x hx e.symm, h⟩
    · split
      · rw [List.pairwise_cons]
        refine ⟨fun x hx => ?_, pair_ins h2 (fun x hx => hv x (List.mem_cons_of_mem _ hx))⟩
        rcases mem_ins' hx with rfl | hx
        · exact hv (k, y) (by simp)
        · exact h1 x hx
      · rw [List.pairwise_cons]
        exact ⟨fun x hx => fun e => hv x (List.mem_cons_of_mem _ hx) e.symm, h2⟩
theorem note_mem {x y : Sn} {l : List Sn} (h : y ∈ note x l) : y = x ∨ y ∈ l := by
  unfold note at h
  split at h
  · simp only [List.mem_map] at h
    obtain ⟨z, hz, rfl⟩ := h
    split
    · exact .inl rfl
    · exact .inr hz
  · simp only [List.mem_append, List.mem_singleton] at h
    exact h.symm
theorem note_len (l : List Sn) (x : Sn) (h : l.length ≤ 16) : (noteIf l x).length ≤ 16 := by
  unfold noteIf
  split
  · rename_i h1
    unfold note
    split
    · rw [List.length_map]; exact h
    · rename_i hf
      have hn : l.find? (fun y => y.s == x.s) = none := by
        cases hl : l.find? (fun y => y.s == x.s) with
        | none => rfl
        | some z => rw [hl] at hf; simp at hf
      unfold look at h1
      rw [hn] at h1
      simp only at h1
      split at h1
      · simp at h1
      · simp; omega
  · exact h
/-- One entry more. -/
theorem RS.put {t : List Ep} {p : Pos} {ps : List KV} {ss : List Sn} (h : RS t p ps ss) {x : Ent} (hx : EntOk t x) (hi : p.i < x.pos.i) : RS t x.pos (ins x.k (entV x) ps) (noteIf ss (entS x)) := by
  refine ⟨.inr hx.on, Up.ins h.up, fun y hy => ?_, pair_ins h.one (fun y hy => ?_), fun y hy => ?_, ?_, note_len _ _ h.few⟩
  · rcases mem_ins' hy with rfl | hy
    · refine ⟨hx.on, Int.le_refl _, hx.k1, hx.k2, hx.t1, ?_⟩
      show (!x.d) = true ∨ x.t.size = 0
      cases hd : x.d with
      | false => exact .inl rfl
      | true => exact .inr (hx.d hd)
    · have k := h.kv y hy; exact ⟨k.on, by have := k.le; omega, k.k1, k.k2, k.t1, k.th⟩
  · have := (h.kv y hy).le; show y.2.pos.i ≠ x.pos.i; omega
  · unfold noteIf at hy
    split at hy
    · rcases note_mem hy with rfl | hy
      · exact ⟨hx.on, Int.le_refl _, hx.s, hx.r⟩
      · have k := h.sn y hy; exact ⟨k.on, by have := k.le; omega, k.s, k.r⟩
    · have k := h.sn y hy; exact ⟨k.on, by have := k.le; omega, k.s, k.r⟩
  · unfold noteIf
    split
    · exact keys_note h.dif
    · exact h.dif
theorem RS.perm {t : List Ep} {p : Pos} {ps : List KV} {ss ss' : List Sn} (h : RS t p ps ss) (hp : ss'.Perm ss) : RS t p ps ss' :=
  ⟨h.on, h.up, h.kv, h.one, fun y hy => h.sn y (hp.mem_iff.1 hy), (hp.pairwise_iff (fun h => Ne.symm h)).2 h.dif, by rw [hp.length_eq]; exact h.few⟩

theorem ins_len (key : ByteArray) (v : Val) : ∀ l : List KV, (ins key v l).length ≤ l.length + 1
  | [] => by simp [ins]
  | (k, y) :: l => by
    unfold ins
    split
    · simp
    · split
      · have := ins_len key v l; simp; omega
      · simp
/-- What holds of every state. -/
structure SInv (s : St) : Prop where
  right : rightB s.table = true
  base : RS s.table s.base.pos s.base.ps s.base.ss
  rise : Rise s.base.ss
  ents : ∀ (j : Nat) (x : Ent), s.ents[j]? = some x → EntOk s.table x ∧ x.pos.i = s.base.pos.i + j + 1
  fold : St.refold s = s
/-- The fold of a right base and of right entries. -/
theorem foldl_inv (t : List Ep) : ∀ (E : List Ent) (s : St), RS t s.pos s.keys s.seen → (∀ (j : Nat) (x : Ent), E[j]? = some x → EntOk t x ∧ x.pos.i = s.pos.i + j + 1) →
    RS t (E.foldl St.put s).pos (E.foldl St.put s).keys (E.foldl St.put s).seen ∧ (E.foldl St.put s).pos.i = s.pos.i + E.length ∧ (E.foldl St.put s).keys.length ≤ s.keys.length + E.length
  | [], s, h, _ => ⟨h, by simp, by simp⟩
  | x :: E, s, h, hE => by
    obtain ⟨h1, h2⟩ := hE 0 x rfl
    have h3 : RS t (s.put x).pos (s.put x).keys (s.put x).seen := h.put h1 (by omega)
    obtain ⟨g1, g2, g3⟩ := foldl_inv t E (s.put x) h3 (fun j y hj => by
      obtain ⟨k1, k2⟩ := hE (j + 1) y hj
      exact ⟨k1, by show y.pos.i = x.pos.i + j + 1; omega⟩)
    refine ⟨g1, ?_, ?_⟩
    · show ((E.foldl St.put (s.put x)).pos.i : Int) = _
      rw [g2]; show x.pos.i + _ = _; simp; omega
    · show (E.foldl St.put (s.put x)).keys.length ≤ _
      have : (s.put x).keys.length ≤ s.keys.length + 1 := ins_len _ _ _
      simp; omega
theorem SInv.told {s : St} (h : SInv s) : RS s.table s.pos s.keys s.seen ∧ s.pos.i = s.base.pos.i + s.ents.length ∧ s.keys.length ≤ s.base.ps.length + s.ents.length := by
  have h0 := foldl_inv s.table s.ents s.basis h.base h.ents
  have hf : s.ents.foldl St.put s.basis = s := h.fold
  rw [hf] at h0
  exact h0

end Go.Proofs.Ytedcdjlpogpgbaa

/- What holds of every state stays so, whatever is applied; with no program in sight. -/
set_option linter.unusedVariables false
set_option linter.unusedSimpArgs false
namespace Go.Proofs.Ytedcdjlpogpgbaa
open Go.RowKit

theorem kvAt_get {ps : List KV} {j : Nat} {x : KV} (h : ps[j]? = some x) : kvAt ps j = x := by unfold kvAt; rw [List.getD_eq_getElem?_getD, h]; rfl
theorem snAt_get {ss : List Sn} {j : Nat} {x : Sn} (h : ss[j]? = some x) : snAt ss j = x := by unfold snAt; rw [List.getD_eq_getElem?_getD, h]; rfl
theorem isIn_mem {p : Pos} {l : List Pos} : isIn p l = true ↔ p ∈ l := by
  unfold isIn
  rw [List.any_eq_true]
  constructor
  · rintro ⟨q, hq, he⟩
    unfold posEq at he
    simp only [Bool.and_eq_true, beq_iff_eq] at he
    have : p = q := by cases p; cases q; simp only at he; obtain ⟨rfl, rfl⟩ := he; rfl
    subst this; exact hq
  · intro h; exact ⟨p, h, by simp [posEq]⟩
theorem posEq_zero {p : Pos} : posEq p.e p.i 0 0 = true ↔ p = zeroPos := by
  unfold posEq
  simp only [Bool.and_eq_true, beq_iff_eq]
  constructor
  · rintro ⟨h1, h2⟩; cases p; simp only at h1 h2; subst h1; subst h2; rfl
  · rintro rfl; exact ⟨rfl, rfl⟩

theorem right_rs {t : List Ep} {p : Pos} {ps : List KV} {ss : List Sn} (hr : rightB t = true) (h : rightSnapB t p ps ss = true) : RS t p ps ss ∧ Rise ss ∧ OnP t p := by
  obtain ⟨hu, hrise, h16⟩ := right_up h
  unfold rightSnapB at h
  simp only [Bool.and_eq_true, decide_eq_true_eq, Bool.not_eq_true'] at h
  obtain ⟨⟨⟨⟨hz, hon⟩, _⟩, hp⟩, hs⟩ := h
  have hP : OnP t p := by
    rcases (onB_iff hr p).1 hon with h | h
    · rw [posEq_zero.2 h] at hz; cases hz
    · exact h
  unfold pairsB at hp
  unfold seensB at hs
  rw [List.all_eq_true] at hp hs
  have hkv : ∀ j x, ps[j]? = some x → KvOk t p x ∧ ¬ x.2.pos ∈ (ps.take j).map (·.2.pos) := fun j x hx => by
    have hj : j < ps.length := (List.getElem?_eq_some_iff.1 hx).1
    have k := hp j (List.mem_range.2 hj)
    unfold pairAtB at k
    rw [kvAt_get hx] at k
    simp only [Bool.and_eq_true, Bool.or_eq_true, decide_eq_true_eq, Bool.not_eq_true'] at k
    obtain ⟨⟨⟨⟨⟨⟨k1, k2⟩, k3⟩, _⟩, k4⟩, k5⟩, k6⟩ := k
    obtain ⟨g1, g2, _⟩ := (below_iff hr _ _).1 k6
    refine ⟨⟨g1, g2, k2, k3, k4, k5⟩, fun hm => ?_⟩
    rw [isIn_mem.2 hm] at k1; cases k1
  have hsn : ∀ j y, ss[j]? = some y → SnOk t p y := fun j y hy => by
    have hj : j < ss.length := (List.getElem?_eq_some_iff.1 hy).1
    have k := hs j (List.mem_range.2 hj)
    unfold seenAtB at k
    rw [snAt_get hy] at k
    simp only [Bool.and_eq_true] at k
    obtain ⟨⟨⟨k1, k2⟩, _⟩, k4⟩ := k
    obtain ⟨g1, g2, _⟩ := (below_iff hr _ _).1 k4
    exact ⟨g1, g2, k1, k2⟩
  refine ⟨⟨.inr hP, hu, fun x hx => ?_, ?_, fun y hy => ?_, hrise.keys, h16⟩, hrise, hP⟩
  · obtain ⟨j, hj, rfl⟩ := List.mem_iff_getElem.1 hx
    exact (hkv j _ (List.getElem?_eq_getElem hj)).1
  · rw [List.pairwise_iff_getElem]
    intro i j hi hj hij he
    obtain ⟨k1, _⟩ := hkv i _ (List.getElem?_eq_getElem hi)
    obtain ⟨k2, k3⟩ := hkv j _ (List.getElem?_eq_getElem hj)
    apply k3
    have e := k1.on.inj k2.on he
    rw [← e]
    exact List.mem_map.2 ⟨ps[i], List.mem_iff_getElem.2 ⟨i, by simp; omega, by simp⟩, rfl⟩
  · obtain ⟨j, hj, rfl⟩ := List.mem_iff_getElem.1 hy
    exact hsn j _ (List.getElem?_eq_getElem hj)
theorem rs_right {t : List Ep} {p : Pos} {ps : List KV} {ss : List Sn} (hr : rightB t = true) (h : RS t p ps ss) (hs : Rise ss) (hp : OnP t p) : rightSnapB t p ps ss = true := by
  have hon : onB t p = true := (onB_iff hr p).2 (.inr hp)
  have hz : posEq p.e p.i 0 0 = false := by
    cases hq : posEq p.e p.i 0 0 with
    | false => rfl
    | true => exact absurd (posEq_zero.1 hq) hp.ne
  unfold rightSnapB
  rw [hz, hon, show decide (ss.length ≤ 16) = true from decide_eq_true h.few]
  rw [pairsB_true, seensB_true]
  · rfl
  · intro j hj
    have k := h.sn ss[j] (List.getElem_mem hj)
    unfold seenAtB
    rw [snAt_get (List.getElem?_eq_getElem hj), k.s, k.r, (below_iff hr _ _).2 ⟨k.on, k.le, hon⟩]
    rcases Nat.eq_zero_or_pos j with h0 | h0
    · subst h0; rfl
    · have hlt : (ss[j - 1]'(by omega)).s < ss[j].s := (List.pairwise_iff_getElem.1 hs) (j - 1) j (by omega) hj (by omega)
      rw [snAt_get (List.getElem?_eq_getElem (show j - 1 < ss.length by omega)), decide_eq_true hlt]
      simp
  · intro j hj
    have k := h.kv ps[j] (List.getElem_mem hj)
    unfold pairAtB
    rw [kvAt_get (List.getElem?_eq_getElem hj), (below_iff hr _ _).2 ⟨k.on, k.le, hon⟩, decide_eq_true k.k1, decide_eq_true k.k2, decide_eq_true k.t1]
    have hth : (ps[j].2.th || decide (ps[j].2.t.size = 0)) = true := by
      rcases k.th with h | h
      · rw [h]; rfl
      · rw [decide_eq_true h]; simp
    have hni : isIn ps[j].2.pos ((ps.take j).map (·.2.pos)) = false := by
      cases hi : isIn ps[j].2.pos ((ps.take j).map (·.2.pos)) with
      | false => rfl
      | true =>
        have hm := isIn_mem.1 hi
        simp only [List.mem_map] at hm
        obtain ⟨y, hy, he⟩ := hm
        obtain ⟨i, hi2, rfl⟩ := List.mem_iff_getElem.1 hy
        have hil : i < j := by simp at hi2; omega
        have hne := (List.pairwise_iff_getElem.1 h.one) i j (by omega) hj hil
        rw [List.getElem_take] at he
        exact absurd (by rw [he]) hne
    rw [hth, hni]
    rcases Nat.eq_zero_or_pos j with h0 | h0
    · subst h0; rfl
    · have hlt : lt (ps[j - 1]'(by omega)).1 ps[j].1 = true := (List.pairwise_iff_getElem.1 h.up) (j - 1) j (by omega) hj (by omega)
      rw [kvAt_get (List.getElem?_eq_getElem (show j - 1 < ps.length by omega)), hlt]
      simp

/-- The beginning. -/
theorem inv_start {t : List Ep} (h : rightB t = true) : SInv (logSt [] t) := by
  rw [logSt_nil]
  exact ⟨h, RS.zero t, List.Pairwise.nil, fun j x hx => by simp at hx, rfl⟩
theorem SInv.ok {s : St} (h : SInv s) (hl : s.base.ps.length ≤ 1000000000000) : Ok s := by
  obtain ⟨h1, h2, _⟩ := h.told
  refine ⟨⟨h.base.up, h.rise, h.base.few, hl⟩, h2, ?_, ?_, h.right⟩
  · rcases h.base.on with h | k
    · rw [h]; exact Int.le_refl 0
    · have := k.pos h.right; omega
  · rcases h1.on with h | k
    · rw [h]; show (0 : Int) ≤ 512; omega
    · exact k.2.2.2.1
theorem foldl_same (E : List Ent) : ∀ s : St, (E.foldl St.put s).table = s.table ∧ (E.foldl St.put s).base = s.base ∧ (E.foldl St.put s).ents = s.ents := by
  induction E with
  | nil => intro s; exact ⟨rfl, rfl, rfl⟩
  | cons x E ih => intro s; exact ih (s.put x)
theorem refold_same (s : St) : (St.refold s).table = s.table ∧ (St.refold s).base = s.base ∧ (St.refold s).ents = s.ents := foldl_same s.ents s.basis
theorem foldl_basis (E : List Ent) : ∀ s : St, (E.foldl St.put s).basis = s.basis := by
  induction E with
  | nil => intro s; rfl
  | cons x E ih => intro s; exact (ih (s.put x)).trans rfl
theorem refold_refold (s : St) : St.refold (St.refold s) = St.refold s := by
  show (St.refold s).ents.foldl St.put (St.refold s).basis = St.refold s
  rw [(refold_same s).2.2]
  show s.ents.foldl St.put ((s.ents.foldl St.put s.basis).basis) = s.ents.foldl St.put s.basis
  rw [foldl_basis]; rfl
theorem inv_refold {s : St} (hr : rightB s.table = true) (hb : RS s.table s.base.pos s.base.ps s.base.ss) (hs : Rise s.base.ss) (he : ∀ (j : Nat) (x : Ent), s.ents[j]? = some x → EntOk s.table x ∧ x.pos.i = s.base.pos.i + j + 1) : SInv (St.refold s) := by
  obtain ⟨h1, h2, h3⟩ := refold_same s
  refine ⟨by rw [h1]; exact hr, by rw [h1, h2]; exact hb, by rw [h2]; exact hs, fun j x hx => ?_, refold_refold s⟩
  rw [h3] at hx
  rw [h1, h2]
  exact he j x hx
theorem checkW_ent {s : St} {x : Ent} (hr : rightB s.table = true) (h0 : 0 ≤ s.pos.i) (h : checkW s x = 0) : EntOk s.table x ∧ x.pos.i = s.pos.i + 1 ∧ (look 16 s.seen x.s x.r).1 = 1 ∧ s.closed = false := by
  unfold checkW at h
  split at h
  · simp at h
  rename_i hc
  split at h
  · simp at h
  rename_i h1
  split at h
  · simp at h
  rename_i h2
  split at h
  · simp at h
  rename_i h3
  split at h
  · simp at h
  rename_i h4
  split at h
  · simp at h
  rename_i h5
  split at h
  · simp at h
  rename_i h6
  split at h
  · simp at h
  rename_i h7
  have hi : x.pos.i = s.pos.i + 1 := by omega
  obtain ⟨g1, g2⟩ := atB_on hr (show 1 ≤ x.pos.i by omega) (show x.pos.i ≤ 512 by omega)
  have hx : x.pos = atB s.table x.pos.i := by
    have h3' : x.pos.e = (atB s.table x.pos.i).e ∧ x.pos.i = (atB s.table x.pos.i).i := by
      by_cases hh : x.pos.e = (atB s.table x.pos.i).e ∧ x.pos.i = (atB s.table x.pos.i).i
      · exact hh
      · exact absurd hh h3
    generalize atB s.table x.pos.i = q at h3'
    obtain ⟨e1, e2⟩ := h3'
    generalize x.pos = p at e1 e2
    cases p; cases q; simp only at e1 e2; rw [e1, e2]
  have hn1 : numB x.s = true := by cases hh : numB x.s with | true => rfl | false => exact absurd (.inl hh) h4
  have hn2 : numB x.r = true := by cases hh : numB x.r with | true => rfl | false => exact absurd (.inr (.inl hh)) h4
  have hd : x.d = true → x.t.size = 0 := fun hd => by
    apply bytes_size
    cases ht : x.t.toList with
    | nil => rfl
    | cons a l => exact absurd (.inr (.inr ⟨hd, by rw [ht]; simp⟩)) h4
  refine ⟨⟨by rw [hx]; exact g1, hn1, hn2, by omega, by omega, by omega, hd⟩, hi, ?_, by simpa using hc⟩
  have hl : (look 16 s.seen x.s x.r).1 = 1 ∨ (look 16 s.seen x.s x.r).1 = 2 ∨ (look 16 s.seen x.s x.r).1 = 3 ∨ (look 16 s.seen x.s x.r).1 = 4 := by
    unfold look
    split
    · split
      · exact .inr (.inr (.inr rfl))
      · exact .inl rfl
    · split
      · exact .inl rfl
      · split
        · exact .inr (.inr (.inl rfl))
        · exact .inr (.inl rfl)
  omega

end Go.Proofs.Ytedcdjlpogpgbaa

/- What holds of every state stays so, whatever is applied (the steps); with no program in sight. -/
set_option linter.unusedVariables false
set_option linter.unusedSimpArgs false
namespace Go.Proofs.Ytedcdjlpogpgbaa
open Go.RowKit

theorem inv_write {s : St} (h : SInv s) {x : Ent} (hc : checkW s x = 0) : SInv (wroteF s x) := by
  obtain ⟨h1, h2, h3⟩ := h.told
  have h0 : 0 ≤ s.pos.i := by
    rcases h1.on with h | k
    · rw [h]; exact Int.le_refl 0
    · have := k.pos h.right; omega
  obtain ⟨hx, hi, _, _⟩ := checkW_ent h.right h0 hc
  refine ⟨h.right, h.base, h.rise, fun j y hy => ?_, ?_⟩
  · show EntOk s.table y ∧ y.pos.i = s.base.pos.i + j + 1
    have hy' : (s.ents ++ [x])[j]? = some y := hy
    by_cases hj : j < s.ents.length
    · rw [List.getElem?_append_left hj] at hy'; exact h.ents j y hy'
    · rw [List.getElem?_append_right (by omega)] at hy'
      have : j - s.ents.length = 0 := by
        rcases Nat.eq_zero_or_pos (j - s.ents.length) with h | h
        · exact h
        · rw [List.getElem?_eq_none (by simp; omega)] at hy'; cases hy'
      rw [this] at hy'
      injection hy' with hy'
      subst hy'
      exact ⟨hx, by omega⟩
  · show (s.ents ++ [x]).foldl St.put (wroteF s x).basis = wroteF s x
    rw [List.foldl_append]
    have hb : (wroteF s x).basis = { s.basis with ents := s.ents ++ [x] } := rfl
    have hcomm : ∀ (E A : List Ent) (u : St), E.foldl St.put { u with ents := A } = { E.foldl St.put u with ents := A } := by
      intro E
      induction E with
      | nil => intro A u; rfl
      | cons y E ih => intro A u; exact ih A (u.put y)
    rw [hb, hcomm s.ents (s.ents ++ [x]) s.basis]
    have hf : s.ents.foldl St.put s.basis = s := h.fold
    rw [hf]; rfl
theorem right_snoc {t : List Ep} {e : Ep} (h : rightB (t ++ [e]) = true) (h0 : rightB t = true) : 0 ≤ e.c ∧ e.c ≤ 512 := by
  have := (((rightB_iff _).1 h).2.2.2.2 t.length (by simp))
  have he : ep (t ++ [e]) t.length = e := by simp [ep]
  rw [he] at this
  exact ⟨this.2.2.1, this.2.2.2⟩
theorem EntOk.snoc {t : List Ep} {x : Ent} (h : EntOk t x) {e : Ep} (hc : x.pos.i ≤ e.c) : EntOk (t ++ [e]) x := ⟨h.on.snoc hc, h.s, h.r, h.k1, h.k2, h.t1, h.d⟩
theorem inv_adopt {s : St} (h : SInv s) {e : Ep} (hr : rightB (s.table ++ [e]) = true) : SInv (adoptF s e) := by
  obtain ⟨h1, h2, h3⟩ := h.told
  unfold adoptF
  by_cases hc : s.pos.i ≤ e.c
  · rw [if_pos hc]
    refine ⟨hr, h.base.snoc (by omega), h.rise, fun j x hx => ?_, ?_⟩
    · obtain ⟨k1, k2⟩ := h.ents j x hx
      have hj : j < s.ents.length := (List.getElem?_eq_some_iff.1 hx).1
      exact ⟨k1.snoc (by omega), k2⟩
    · have hcomm : ∀ (E : List Ent) (u : St) (t : List Ep) (b : Bool), E.foldl St.put { u with table := t, closed := b } = { E.foldl St.put u with table := t, closed := b } := by
        intro E
        induction E with
        | nil => intro u t b; rfl
        | cons y E ih => intro u t b; exact ih (u.put y) t b
      show s.ents.foldl St.put { s.basis with table := s.table ++ [e], closed := false } = _
      rw [hcomm]
      have hf : s.ents.foldl St.put s.basis = s := h.fold
      rw [hf]
  · rw [if_neg hc]
    by_cases hb : s.base.pos.i ≤ e.c
    · rw [if_pos hb]
      refine inv_refold hr (h.base.snoc hb) h.rise (fun j x hx => ?_)
      have hx' : (s.ents.take (e.c - s.base.pos.i).toNat)[j]? = some x := hx
      rw [List.getElem?_take] at hx'
      split at hx'
      · rename_i hj
        obtain ⟨k1, k2⟩ := h.ents j x hx'
        exact ⟨k1.snoc (by omega), k2⟩
      · cases hx'
    · rw [if_neg hb]
      exact inv_refold hr (RS.zero _) List.Pairwise.nil (fun j x hx => by simp at hx)
theorem inv_install {s : St} (h : SInv s) {p : Pos} {ps : List KV} {ss : List Sn} (hi : installE s p ps ss = 0) : SInv (installF s p ps ss) := by
  have hr : rightSnapB s.table p ps ss = true := by
    unfold installE at hi
    cases hb : rightSnapB s.table p ps ss with
    | true => rfl
    | false => rw [hb] at hi; split at hi <;> simp at hi
  obtain ⟨k1, k2, k3⟩ := right_rs h.right hr
  exact inv_refold (s := basedF s p ps ss) h.right k1 k2 (fun j x hx => by simp [basedF] at hx)
theorem inv_compact {s : St} (h : SInv s) : SInv (compactF s) := by
  obtain ⟨h1, _, _⟩ := h.told
  exact inv_refold (s := basedF s s.pos s.keys (sortS s.seen)) h.right (h1.perm (sortS_perm _)) (rise_sortS h1.dif) (fun j x hx => by simp [basedF] at hx)
theorem inv_close {s : St} (h : SInv s) : SInv (closeF s) := by
  refine ⟨h.right, h.base, h.rise, h.ents, ?_⟩
  have hcomm : ∀ (E : List Ent) (u : St) (b : Bool), E.foldl St.put { u with closed := b } = { E.foldl St.put u with closed := b } := by
    intro E
    induction E with
    | nil => intro u b; rfl
    | cons y E ih => intro u b; exact ih (u.put y) b
  show s.ents.foldl St.put { s.basis with closed := true } = _
  rw [hcomm]
  have hf : s.ents.foldl St.put s.basis = s := h.fold
  rw [hf]; rfl
theorem checkN_zero {s : St} {r : RecD} (h : checkN s r = 0) :
    (r.kind = 1 ∧ checkW s r.x = 0 ∧ applyF s r = wroteF s r.x) ∨ (r.kind = 2 ∧ rightB (s.table ++ [r.e]) = true ∧ applyF s r = adoptF s r.e) ∨ (r.kind = 3 ∧ applyF s r = closeF s) ∨
    (r.kind = 4 ∧ installE s r.d.pos r.d.ps r.d.ss = 0 ∧ applyF s r = installF s r.d.pos r.d.ps r.d.ss) ∨ (r.kind = 5 ∧ s.closed = false ∧ applyF s r = compactF s) := by
  have hE : applyF s r = if r.kind = 1 then wroteF s r.x else if r.kind = 2 then adoptF s r.e else if r.kind = 3 then closeF s else if r.kind = 4 then installF s r.d.pos r.d.ps r.d.ss else compactF s := by
    unfold applyF; rw [if_neg (by simp [h])]
  unfold checkN at h
  by_cases h1 : r.kind = 1
  · rw [if_pos h1] at h hE; exact .inl ⟨h1, h, hE⟩
  rw [if_neg h1] at h hE
  by_cases h2 : r.kind = 2
  · rw [if_pos h2] at h hE
    refine .inr (.inl ⟨h2, ?_, hE⟩)
    cases hb : rightB (s.table ++ [r.e]) with
    | true => rfl
    | false => rw [hb] at h; simp at h
  rw [if_neg h2] at h hE
  by_cases h3 : r.kind = 3
  · rw [if_pos h3] at hE; exact .inr (.inr (.inl ⟨h3, hE⟩))
  rw [if_neg h3] at h hE
  by_cases h4 : r.kind = 4
  · rw [if_pos h4] at h hE; exact .inr (.inr (.inr (.inl ⟨h4, h, hE⟩)))
  rw [if_neg h4] at h hE
  by_cases h5 : r.kind = 5
  · rw [if_pos h5] at h
    refine .inr (.inr (.inr (.inr ⟨h5, ?_, hE⟩)))
    unfold compactE at h
    cases hc : s.closed with
    | false => rfl
    | true => rw [if_pos hc] at h; simp at h
  · rw [if_neg h5] at h; simp at h
theorem inv_apply {s : St} (h : SInv s) (r : RecD) : SInv (applyF s r) := by
  by_cases hn : checkN s r = 0
  · rcases checkN_zero hn with ⟨_, h2, h3⟩ | ⟨_, h2, h3⟩ | ⟨_, h3⟩ | ⟨_, h2, h3⟩ | ⟨_, h2, h3⟩
    · rw [h3]; exact inv_write h h2
    · rw [h3]; exact inv_adopt h h2
    · rw [h3]; exact inv_close h
    · rw [h3]; exact inv_install h h2
    · rw [h3]; exact inv_compact h
  · unfold applyF; rw [if_pos hn]; exact h
/-- How many pairs there can be. -/
def St.bulk (s : St) : Nat := s.base.ps.length + s.ents.length
theorem bulk_apply {s : St} (h : SInv s) (r : RecD) (n : Nat) (hb : s.bulk ≤ n) (h1 : 1000 ≤ n) (hl : r.d.ps.length ≤ 1000) : (applyF s r).bulk ≤ n + 1 := by
  obtain ⟨_, _, h3⟩ := h.told
  unfold St.bulk at *
  by_cases hn : checkN s r = 0
  · rcases checkN_zero hn with ⟨_, h2, h3⟩ | ⟨_, h2, h3⟩ | ⟨_, h3⟩ | ⟨_, h2, h3⟩ | ⟨_, h2, h3'⟩
    · rw [h3]; show s.base.ps.length + (s.ents ++ [r.x]).length ≤ _; simp; omega
    · rw [h3]; unfold adoptF
      split
      · show s.base.ps.length + s.ents.length ≤ _; omega
      · split
        · rw [(refold_same _).2.1, (refold_same _).2.2]
          show s.base.ps.length + (s.ents.take _).length ≤ _
          rw [List.length_take]; omega
        · rw [(refold_same _).2.1, (refold_same _).2.2]
          show ([] : List KV).length + ([] : List Ent).length ≤ _
          simp
    · rw [h3]; show s.base.ps.length + s.ents.length ≤ _; omega
    · rw [h3]; unfold installF
      rw [(refold_same _).2.1, (refold_same _).2.2]
      show r.d.ps.length + ([] : List Ent).length ≤ _
      simp; omega
    · rw [h3']; unfold compactF
      rw [(refold_same _).2.1, (refold_same _).2.2]
      show s.keys.length + ([] : List Ent).length ≤ _
      simp; omega
  · unfold applyF; rw [if_pos hn]; omega

end Go.Proofs.Ytedcdjlpogpgbaa

/- The reference's Light; the law's Plain. -/
set_option linter.unusedVariables false
set_option linter.unusedSimpArgs false
namespace Go.Proofs.Ytedcdjlpogpgbaa
open Go.RowKit

def LightRes (a b : Nat) (w : World) (e : Ending) (w' : World) : Prop := ∃ lb : Bool, e = .returned (.bool lb) ∧ (lb = true → a ≤ 1000 ∧ b ≤ 1000) ∧ Below w.heap.size w w'
set_option maxRecDepth 100000 in
set_option maxHeartbeats 8000000 in
theorem Light_any (k : Int) (x : Ent) (e : Ep) (cfg : Int) (sp : Pos) (pv sv : Value) (ps : List (ByteArray × Val)) (ss : List Sn) (w : World) (hp : SlAt w pv ps.length (pairsCells ps)) (hs : SlAt w sv ss.length (snsCells ss)) :
    Calls Try.prog 20 #[.agg (recVal k x e cfg sp pv sv)] w (LightRes ps.length ss.length w) := by
  obtain ⟨pA, pc, rfl, _, hpm, _⟩ := id hp
  obtain ⟨sA, sc, rfl, _, hsm, _⟩ := id hs
  obtain ⟨a, ha⟩ : ∃ a, ps.length = a := ⟨_, rfl⟩
  obtain ⟨b, hb⟩ : ∃ b, ss.length = b := ⟨_, rfl⟩
  rw [ha] at hp ⊢
  rw [hb] at hs ⊢
  have HP := Lib.hid hp
  have HA := Lib.hid ha
  obtain ⟨m1, hm1⟩ : ∃ m : Nat, m = min x.k.size 100000 := ⟨_, rfl⟩
  obtain ⟨m2, hm2⟩ : ∃ m : Nat, m = min x.t.size 100000 := ⟨_, rfl⟩
  have g1 : min (x.k.size : Int) 100000 = (m1 : Int) := by omega
  have g2 : min (x.t.size : Int) 100000 = (m2 : Int) := by omega
  have g3 : IntKind.i64.wrap ((m1 : Int) + (m2 : Int)) = (m1 : Int) + (m2 : Int) := wrap_small _ (by omega) (by omega)
  have g4 : m1 ≤ 100000 ∧ m2 ≤ 100000 := by omega
  clear hp hs ha hb hm1 hm2
  unfold recVal
  by_cases ca : 1000 < a
  · have d1 : decide (1000 < (a : Int)) = true := by rw [decide_eq_true_eq]; omega
    go_enter Try.func20, Try.ntmps20
    go_wp2_with fail
    go_ret
    exact ⟨false, rfl, fun h => (by cases h), by (repeat' (first | with_reducible exact Below.refl _ _ | with_reducible refine below_drewN ?_ _ | with_reducible refine Below.drew ?_ | with_reducible refine Below.setCell ?_ (by first | exact Nat.le_refl _ | (simp; done) | (simp; omega) | omega) _ | with_reducible refine Below.alloc ?_ (by first | exact Nat.le_refl _ | (simp; done) | (simp; omega) | omega) _ | exact Below.refl _ _))⟩
  have d1 : decide (1000 < (a : Int)) = false := by rw [decide_eq_false_iff_not]; omega
  by_cases cb : 1000 < b
  · have d2 : decide (1000 < (b : Int)) = true := by rw [decide_eq_true_eq]; omega
    go_enter Try.func20, Try.ntmps20
    go_wp2_with fail
    go_ret
    exact ⟨false, rfl, fun h => (by cases h), by (repeat' (first | with_reducible exact Below.refl _ _ | with_reducible refine below_drewN ?_ _ | with_reducible refine Below.drew ?_ | with_reducible refine Below.setCell ?_ (by first | exact Nat.le_refl _ | (simp; done) | (simp; omega) | omega) _ | with_reducible refine Below.alloc ?_ (by first | exact Nat.le_refl _ | (simp; done) | (simp; omega) | omega) _ | exact Below.refl _ _))⟩
  have d2 : decide (1000 < (b : Int)) = false := by rw [decide_eq_false_iff_not]; omega
  have HL : Hid (a ≤ 1000 ∧ b ≤ 1000) := Lib.hid (by omega)
  go_enter Try.func20, Try.ntmps20
  go_wp2_with fail
  refine wp_name ?_
  intro w1 hw1
  have hb1 : Below w.heap.size w w1 := by rw [hw1]; (repeat' (first | with_reducible exact Below.refl _ _ | with_reducible refine below_drewN ?_ _ | with_reducible refine Below.drew ?_ | with_reducible refine Below.setCell ?_ (by first | exact Nat.le_refl _ | (simp; done) | (simp; omega) | omega) _ | with_reducible refine Below.alloc ?_ (by first | exact Nat.le_refl _ | (simp; done) | (simp; omega) | omega) _ | exact Below.refl _ _))
  have hx1 : Blk w1 w.heap.size (recVal k x e cfg sp (.slice pA a pc) (.slice sA b sc)) 52 := by rw [hw1]; unfold recVal; ((repeat' (first | with_reducible exact Blk.new _ _ _ | with_reducible apply Blk.drewN | with_reducible apply Blk.drew | with_reducible apply Blk.set' | (with_reducible apply Blk.set_other (hp := by first | assumption | (simp; done) | (simp; omega) | omega)) | (with_reducible apply Blk.new'; focus (first | (simp; done) | (simp; omega))) | with_reducible apply Blk.alloc)) <;> rfl)
  have x14 : World.cell? w1 ⟨w.heap.size, 14, none⟩ = some (.slice pA a pc) := by rw [Blk.cell hx1]; rfl
  have hxl := hx1.lt
  have HB1 := Lib.hid hb1
  clear hw1 hb1 hx1 g1 g2 g3 d1 d2
  go_loopg [3, 4] a (fun g v i wr => ∃ (q m : Nat), q ≤ a ∧ g = a - q ∧ i = .int .i64 (q : Int) ∧ v = .int .i64 (m : Int) ∧ m ≤ 200000 * (q + 1) ∧ ∃ nq, wr = w1.drewN nq)
  case atStart => exact ⟨0, m1 + m2, Nat.zero_le _, rfl, rfl, by simp, by omega, 0, rfl⟩
  case round =>
    obtain ⟨q, m, hq, rfl, rfl, rfl, hm, nq, rfl⟩ := hrel
    by_cases hlt : q < a
    · have d1 : decide ((q : Int) < (a : Int)) = true := by rw [decide_eq_true_eq]; omega
      obtain ⟨pb, po, rfl, hpb, hpc⟩ := sl_elem pairCells 5 (fun _ => rfl) (HP.out.below HB1.out) (by omega)
      obtain ⟨y, hy⟩ : ∃ y, ps[q]? = some y := ⟨_, List.getElem?_eq_getElem (by have := HA.out; omega)⟩
      obtain ⟨key, ⟨pp, th, tx⟩⟩ := y
      have a0 : World.cell? w1 ⟨pb, po + q * 5, none⟩ = some (.string key) := hpc q _ hy 0 _ rfl
      have a4 : World.cell? w1 ⟨pb, po + q * 5 + 4, none⟩ = some (.string tx) := hpc q _ hy 4 _ rfl
      obtain ⟨n1, hn1⟩ : ∃ m : Nat, m = min key.size 100000 := ⟨_, rfl⟩
      obtain ⟨n2, hn2⟩ : ∃ m : Nat, m = min tx.size 100000 := ⟨_, rfl⟩
      have g1 : min (key.size : Int) 100000 = (n1 : Int) := by omega
      have g2 : min (tx.size : Int) 100000 = (n2 : Int) := by omega
      have hmm : m ≤ 300000000 := by omega
      have hnn : n1 ≤ 100000 ∧ n2 ≤ 100000 := by omega
      have g3 : IntKind.i64.wrap ((m : Int) + (n1 : Int)) = (m : Int) + (n1 : Int) := wrap_small _ (by omega) (by omega)
      have g5 : IntKind.i64.wrap ((m : Int) + (n1 : Int) + (n2 : Int)) = (m : Int) + (n1 : Int) + (n2 : Int) := wrap_small _ (by omega) (by omega)
      have q0 : (0 : Int) ≤ (q : Int) := by omega
      have q1 : (q : Int) < (a : Int) := by omega
      clear hpc hy hn1 hn2
      go_upto_region 7 with (fail)
      go_quiet (fail)
      go_wp2_with fail
      go_roundg (a - (q + 1))
      case measure => omega
      case rel => exact ⟨q + 1, m + n1 + n2, by omega, rfl, by go_num, by go_num, by omega, _, rfl⟩
    · have d1 : decide ((q : Int) < (a : Int)) = false := by rw [decide_eq_false_iff_not]; omega
      go_wp2_with fail
      go_ret
      exact ⟨_, rfl, fun _ => HL.out, by (repeat' (first | with_reducible exact HB1.out | with_reducible exact Below.refl _ _ | with_reducible refine below_drewN ?_ _ | with_reducible refine Below.drew ?_ | with_reducible refine Below.setCell ?_ (by first | exact Nat.le_refl _ | (simp; done) | (simp; omega) | omega) _ | with_reducible refine Below.alloc ?_ (by first | exact Nat.le_refl _ | (simp; done) | (simp; omega) | omega) _ | exact Below.refl _ _ | exact HB1.out))⟩

end Go.Proofs.Ytedcdjlpogpgbaa

/- The law's Plain: a record in new memory. -/
set_option linter.unusedVariables false
set_option linter.unusedSimpArgs false
namespace Go.Proofs.Ytedcdjlpogpgbaa
open Go.RowKit

theorem Blk.setRow {w : World} {b : Nat} {cs cs' : Array Value} {t : TypeId} (h : Blk w b cs t) : Blk (w.setRow b cs') b cs' t := setRow_heap w b cs cs' t (0, 0) h
theorem Blk.setRow_other {w : World} {b g : Nat} {cs cs' : Array Value} {t : TypeId} (h : Blk w b cs t) (hn : b ≠ g) : Blk (w.setRow g cs') b cs t := by
  unfold Blk at *; rw [Go.setRow_other w g b cs' hn]; exact h
theorem Below.setRow {B : Nat} {w w' : World} (h : Below B w w') {g : Nat} (hg : B ≤ g) (cs : Array Value) : Below B w (w'.setRow g cs) :=
  ⟨h.os, h.tape, h.output, by rw [setRow_size]; exact h.size, fun k hk => (Go.setRow_other w' g k cs (by omega)).trans (h.block k hk)⟩
theorem Frm.setRow {F : Nat → Prop} {w w' : World} (h : Frm F w w') {g : Nat} (hg : F g ∨ w.heap.size ≤ g) (cs : Array Value) : Frm F w (w'.setRow g cs) :=
  ⟨h.os, h.tape, h.output, by rw [setRow_size]; exact h.size, fun k hk hn => (Go.setRow_other w' g k cs (fun e => by subst e; exact hg.elim hn (fun hg => by omega))).trans (h.block k hk hn)⟩
theorem run_storeAt_row {P : Program} {w : World} {b : Nat} {cs cs' : Array Value} {T t : TypeId} (h : Blk w b cs T) (hi : (P.info? t).map (·.size) = some cs'.size) (hs : cs.size = cs'.size) (h1 : cs'.all (·.oneCell') = true) :
    (Instr.storeAt t (.pointer (some ⟨b, 0, none⟩)) (.agg cs')).run P w = .ok () (w.setRow b cs') := by
  unfold Instr.storeAt
  simp only [Instr.sureAddr, Sem.run_bind, Sem.run_pure, Result.andThen_ok]
  exact run_storeVar_row w b T t cs cs' h hi hs h1

def storeRec (x y : Value) : Sem Unit := Instr.storeAt 42 x y
theorem storeRec_eq (x y : Value) : Instr.storeAt 42 x y = storeRec x y := rfl
theorem rec_info : (Try.prog.info? 42).map (·.size) = some 16 := by kernel_rfl
theorem rec_agg (w : World) : (isAgg 42).run Try.prog w = .ok true w := by kernel_rfl
theorem rec_size (w : World) : (sizeOf 42).run Try.prog w = .ok 16 w := by kernel_rfl

/-- A record in new memory. -/
def PlainRes (k : Int) (x : Ent) (e : Ep) (cfg : Int) (p : Pos) (ps : List (ByteArray × Val)) (ss : List Sn) (w : World) (en : Ending) (w' : World) : Prop :=
  ∃ pv sv, en = .returned (.agg (recVal k x e cfg p pv sv)) ∧ w'.ownsRow 0 67 5 pv ps.length (pairsCells ps) ∧ w'.ownsRow 0 69 4 sv ss.length (snsCells ss) ∧ (∀ c, pv.ownBlock = some c → w.heap.size ≤ c) ∧ (∀ c, sv.ownBlock = some c → w.heap.size ≤ c) ∧ Below w.heap.size w w'

attribute [local go_sem ↓] storeRec_eq
set_option maxRecDepth 100000 in
set_option maxHeartbeats 8000000 in
theorem Plain_any (k : Int) (x : Ent) (e : Ep) (cfg : Int) (sp : Pos) (pv sv : Value) (ps : List (ByteArray × Val)) (ss : List Sn) (w : World) (hp : SlAt w pv ps.length (pairsCells ps)) (hs : SlAt w sv ss.length (snsCells ss)) (hlp : ps.length ≤ 1000000000) (hls : ss.length ≤ 1000000000) :
    Calls Try.prog 21 #[.agg (recVal k x e cfg sp pv sv)] w (PlainRes k x e cfg sp ps ss w) := by
  obtain ⟨pA, pc, rfl, _, hpm, _⟩ := id hp
  obtain ⟨sA, sc, rfl, _, hsm, _⟩ := id hs
  obtain ⟨a, ha⟩ : ∃ a, ps.length = a := ⟨_, rfl⟩
  obtain ⟨b, hb⟩ : ∃ b, ss.length = b := ⟨_, rfl⟩
  have hsn : ∀ W : World, Below w.heap.size w W → Calls Try.prog 35 #[.agg #[.int .i64 sp.e, .int .i64 sp.i, .slice pA a pc, .slice sA b sc]] W (SnapRes sp ps ss W) := fun W hW => by
    have := Snap_any sp (.slice pA ps.length pc) (.slice sA ss.length sc) ps ss W (hp.below hW) (hs.below hW) hlp hls
    rw [ha, hb] at this
    exact this
  rw [ha, hb]
  have HSN := Lib.hid hsn
  have HA := Lib.hid ha
  have HB := Lib.hid hb
  clear hp hs ha hb hsn hlp hls
  unfold recVal
  go_enter Try.func21, Try.ntmps21
  go_upto_region 1 with (fail)
  refine wp_name ?_
  intro w1 hw1
  have hb1 : Below w.heap.size w w1 := by rw [hw1]; (repeat' (first | with_reducible exact Below.refl _ _ | with_reducible refine below_drewN ?_ _ | with_reducible refine Below.drew ?_ | with_reducible refine Below.setCell ?_ (by first | exact Nat.le_refl _ | (simp; done) | (simp; omega) | omega) _ | with_reducible refine Below.alloc ?_ (by first | exact Nat.le_refl _ | (simp; done) | (simp; omega) | omega) _ | exact Below.refl _ _))
  have hx1 : Blk w1 w.heap.size (recVal k x e cfg sp (.slice pA a pc) (.slice sA b sc)) 52 := by rw [hw1]; unfold recVal; ((repeat' (first | with_reducible exact Blk.new _ _ _ | with_reducible apply Blk.drewN | with_reducible apply Blk.drew | with_reducible apply Blk.set' | (with_reducible apply Blk.set_other (hp := by first | assumption | (simp; done) | (simp; omega) | omega)) | (with_reducible apply Blk.new'; focus (first | (simp; done) | (simp; omega))) | with_reducible apply Blk.alloc)) <;> rfl)
  have hr1 : Blk w1 (w.heap.size + 1) (recVal 0 ⟨zeroPos, 0, 0, ⟨#[]⟩, false, ⟨#[]⟩⟩ ⟨0, 0, false⟩ 0 zeroPos (.slice none 0 0) (.slice none 0 0)) 42 := by rw [hw1]; unfold recVal zeroPos; ((repeat' (first | with_reducible exact Blk.new _ _ _ | with_reducible apply Blk.drewN | with_reducible apply Blk.drew | with_reducible apply Blk.set' | (with_reducible apply Blk.set_other (hp := by first | assumption | (simp; done) | (simp; omega) | omega)) | (with_reducible apply Blk.new'; focus (first | (simp; done) | (simp; omega))) | with_reducible apply Blk.alloc)) <;> rfl)
  have x0 : World.cell? w1 ⟨w.heap.size, 0, none⟩ = some (.int .i64 k) := by rw [Blk.cell hx1]; rfl
  have x1 : World.cell? w1 ⟨w.heap.size, 1, none⟩ = some (.int .i64 x.pos.e) := by rw [Blk.cell hx1]; rfl
  have x2 : World.cell? w1 ⟨w.heap.size, 2, none⟩ = some (.int .i64 x.pos.i) := by rw [Blk.cell hx1]; rfl
  have x3 : World.cell? w1 ⟨w.heap.size, 3, none⟩ = some (.int .i64 x.s) := by rw [Blk.cell hx1]; rfl
  have x4 : World.cell? w1 ⟨w.heap.size, 4, none⟩ = some (.int .i64 x.r) := by rw [Blk.cell hx1]; rfl
  have x5 : World.cell? w1 ⟨w.heap.size, 5, none⟩ = some (.string x.k) := by rw [Blk.cell hx1]; rfl
  have x6 : World.cell? w1 ⟨w.heap.size, 6, none⟩ = some (.bool x.d) := by rw [Blk.cell hx1]; rfl
  have x7 : World.cell? w1 ⟨w.heap.size, 7, none⟩ = some (.string x.t) := by rw [Blk.cell hx1]; rfl
  have x8 : World.cell? w1 ⟨w.heap.size, 8, none⟩ = some (.int .i64 e.m) := by rw [Blk.cell hx1]; rfl
  have x9 : World.cell? w1 ⟨w.heap.size, 9, none⟩ = some (.int .i64 e.c) := by rw [Blk.cell hx1]; rfl
  have x10 : World.cell? w1 ⟨w.heap.size, 10, none⟩ = some (.bool e.f) := by rw [Blk.cell hx1]; rfl
  have x11 : World.cell? w1 ⟨w.heap.size, 11, none⟩ = some (.int .i64 cfg) := by rw [Blk.cell hx1]; rfl
  have x12 : World.cell? w1 ⟨w.heap.size, 12, none⟩ = some (.int .i64 sp.e) := by rw [Blk.cell hx1]; rfl
  have x13 : World.cell? w1 ⟨w.heap.size, 13, none⟩ = some (.int .i64 sp.i) := by rw [Blk.cell hx1]; rfl
  have x14 : World.cell? w1 ⟨w.heap.size, 14, none⟩ = some (.slice pA a pc) := by rw [Blk.cell hx1]; rfl
  have x15 : World.cell? w1 ⟨w.heap.size, 15, none⟩ = some (.slice sA b sc) := by rw [Blk.cell hx1]; rfl
  have hxl := hx1.lt
  have hrl := hr1.lt
  have hs1 := hb1.size
  have HX1 := Lib.hid hx1
  have HR1 := Lib.hid hr1
  have HB1 := Lib.hid hb1
  clear hw1 hb1 hx1 hr1
  refine wp_region_noPanic ?_
  refine wp_region_held_drew (S := (fun W => W.cell? ⟨w.heap.size, 0, none⟩ = some (.int .i64 k) ∧ W.cell? ⟨w.heap.size, 1, none⟩ = some (.int .i64 x.pos.e) ∧ W.cell? ⟨w.heap.size, 2, none⟩ = some (.int .i64 x.pos.i) ∧ W.cell? ⟨w.heap.size, 3, none⟩ = some (.int .i64 x.s) ∧ W.cell? ⟨w.heap.size, 4, none⟩ = some (.int .i64 x.r) ∧ W.cell? ⟨w.heap.size, 5, none⟩ = some (.string x.k) ∧ W.cell? ⟨w.heap.size, 6, none⟩ = some (.bool x.d) ∧ W.cell? ⟨w.heap.size, 7, none⟩ = some (.string x.t) ∧ W.cell? ⟨w.heap.size, 8, none⟩ = some (.int .i64 e.m) ∧ W.cell? ⟨w.heap.size, 9, none⟩ = some (.int .i64 e.c) ∧ W.cell? ⟨w.heap.size, 10, none⟩ = some (.bool e.f) ∧ W.cell? ⟨w.heap.size, 11, none⟩ = some (.int .i64 cfg) ∧ W.cell? ⟨w.heap.size, 12, none⟩ = some (.int .i64 sp.e) ∧ W.cell? ⟨w.heap.size, 13, none⟩ = some (.int .i64 sp.i) ∧ W.cell? ⟨w.heap.size, 14, none⟩ = some (.slice pA a pc) ∧ W.cell? ⟨w.heap.size, 15, none⟩ = some (.slice sA b sc))) (by kernel_rfl) ?_ (fun hHeld => ?_)
  · ((try dsimp only); first | go_keep)
  refine wpAnyH_take (i := 0) (v := ?_) rfl (by kernel_rfl) (by kernel_rfl) (by kernel_rfl) (fun _ _ _ h => h) (Or.inl ⟨by rfl, ?_⟩) (by assumption) ?_
  rotate_left
  · (intro w hSw; (try dsimp only at hSw); (try simp only [Act.put, List.getElem_toArray, List.getElem_cons_succ, List.getElem_cons_zero, List.setIfInBounds_toArray, List.set_cons_zero, List.set_cons_succ]); go_simp; try with_reducible rfl)
  (try simp only [Act.put, List.getElem_toArray, List.getElem_cons_succ, List.getElem_cons_zero, List.setIfInBounds_toArray, List.set_cons_zero, List.set_cons_succ])
  refine wpAnyH_take (i := 2) (v := ?_) rfl (by kernel_rfl) (by kernel_rfl) (by kernel_rfl) (fun _ _ _ h => h) (Or.inl ⟨by rfl, ?_⟩) (by assumption) ?_
  rotate_left
  · (intro w hSw; (try dsimp only at hSw); (try simp only [Act.put, List.getElem_toArray, List.getElem_cons_succ, List.getElem_cons_zero, List.setIfInBounds_toArray, List.set_cons_zero, List.set_cons_succ]); go_simp; try with_reducible rfl)
  (try simp only [Act.put, List.getElem_toArray, List.getElem_cons_succ, List.getElem_cons_zero, List.setIfInBounds_toArray, List.set_cons_zero, List.set_cons_succ])
  refine wpAnyH_take (i := 4) (v := ?_) rfl (by kernel_rfl) (by kernel_rfl) (by kernel_rfl) (fun _ _ _ h => h) (Or.inl ⟨by rfl, ?_⟩) (by assumption) ?_
  rotate_left
  · (intro w hSw; (try dsimp only at hSw); (try simp only [Act.put, List.getElem_toArray, List.getElem_cons_succ, List.getElem_cons_zero, List.setIfInBounds_toArray, List.set_cons_zero, List.set_cons_succ]); go_simp; try with_reducible rfl)
  (try simp only [Act.put, List.getElem_toArray, List.getElem_cons_succ, List.getElem_cons_zero, List.setIfInBounds_toArray, List.set_cons_zero, List.set_cons_succ])
  refine wpAnyH_take (i := 6) (v := ?_) rfl (by kernel_rfl) (by kernel_rfl) (by kernel_rfl) (fun _ _ _ h => h) (Or.inl ⟨by rfl, ?_⟩) (by assumption) ?_
  rotate_left
  · (intro w hSw; (try dsimp only at hSw); (try simp only [Act.put, List.getElem_toArray, List.getElem_cons_succ, List.getElem_cons_zero, List.setIfInBounds_toArray, List.set_cons_zero, List.set_cons_succ]); go_simp; try with_reducible rfl)
  (try simp only [Act.put, List.getElem_toArray, List.getElem_cons_succ, List.getElem_cons_zero, List.setIfInBounds_toArray, List.set_cons_zero, List.set_cons_succ])
  refine wpAnyH_take (i := 8) (v := ?_) rfl (by kernel_rfl) (by kernel_rfl) (by kernel_rfl) (fun _ _ _ h => h) (Or.inl ⟨by rfl, ?_⟩) (by assumption) ?_
  rotate_left
  · (intro w hSw; (try dsimp only at hSw); (try simp only [Act.put, List.getElem_toArray, List.getElem_cons_succ, List.getElem_cons_zero, List.setIfInBounds_toArray, List.set_cons_zero, List.set_cons_succ]); go_simp; try with_reducible rfl)
  (try simp only [Act.put, List.getElem_toArray, List.getElem_cons_succ, List.getElem_cons_zero, List.setIfInBounds_toArray, List.set_cons_zero, List.set_cons_succ])
  refine wpAnyH_take (i := 1) (v := ?_) rfl (by kernel_rfl) (by kernel_rfl) (by kernel_rfl) (fun _ _ _ h => h) (Or.inl ⟨by rfl, ?_⟩) (by assumption) ?_
  rotate_left
  · (intro w hSw; (try dsimp only at hSw); (try simp only [Act.put, List.getElem_toArray, List.getElem_cons_succ, List.getElem_cons_zero, List.setIfInBounds_toArray, List.set_cons_zero, List.set_cons_succ]); go_simp; try with_reducible rfl)
  (try simp only [Act.put, List.getElem_toArray, List.getElem_cons_succ, List.getElem_cons_zero, List.setIfInBounds_toArray, List.set_cons_zero, List.set_cons_succ])
  refine wpAnyH_take (i := 3) (v := ?_) rfl (by kernel_rfl) (by kernel_rfl) (by kernel_rfl) (fun _ _ _ h => h) (Or.inl ⟨by rfl, ?_⟩) (by assumption) ?_
  rotate_left
  · (intro w hSw; (try dsimp only at hSw); (try simp only [Act.put, List.getElem_toArray, List.getElem_cons_succ, List.getElem_cons_zero, List.setIfInBounds_toArray, List.set_cons_zero, List.set_cons_succ]); go_simp; try with_reducible rfl)
  (try simp only [Act.put, List.getElem_toArray, List.getElem_cons_succ, List.getElem_cons_zero, List.setIfInBounds_toArray, List.set_cons_zero, List.set_cons_succ])
  refine wpAnyH_take (i := 5) (v := ?_) rfl (by kernel_rfl) (by kernel_rfl) (by kernel_rfl) (fun _ _ _ h => h) (Or.inl ⟨by rfl, ?_⟩) (by assumption) ?_
  rotate_left
  · (intro w hSw; (try dsimp only at hSw); (try simp only [Act.put, List.getElem_toArray, List.getElem_cons_succ, List.getElem_cons_zero, List.setIfInBounds_toArray, List.set_cons_zero, List.set_cons_succ]); go_simp; try with_reducible rfl)
  (try simp only [Act.put, List.getElem_toArray, List.getElem_cons_succ, List.getElem_cons_zero, List.setIfInBounds_toArray, List.set_cons_zero, List.set_cons_succ])
  refine wpAnyH_take (i := 7) (v := ?_) rfl (by kernel_rfl) (by kernel_rfl) (by kernel_rfl) (fun _ _ _ h => h) (Or.inl ⟨by rfl, ?_⟩) (by assumption) ?_
  rotate_left
  · (intro w hSw; (try dsimp only at hSw); (try simp only [Act.put, List.getElem_toArray, List.getElem_cons_succ, List.getElem_cons_zero, List.setIfInBounds_toArray, List.set_cons_zero, List.set_cons_succ]); go_simp; try with_reducible rfl)
  (try simp only [Act.put, List.getElem_toArray, List.getElem_cons_succ, List.getElem_cons_zero, List.setIfInBounds_toArray, List.set_cons_zero, List.set_cons_succ])
  refine wpAnyH_take (i := 9) (v := ?_) rfl (by kernel_rfl) (by kernel_rfl) (by kernel_rfl) (fun _ _ _ h => h) (Or.inl ⟨by rfl, ?_⟩) (by assumption) ?_
  rotate_left
  · (intro w hSw; (try dsimp only at hSw); (try simp only [Act.put, List.getElem_toArray, List.getElem_cons_succ, List.getElem_cons_zero, List.setIfInBounds_toArray, List.set_cons_zero, List.set_cons_succ]); go_simp; try with_reducible rfl)
  (try simp only [Act.put, List.getElem_toArray, List.getElem_cons_succ, List.getElem_cons_zero, List.setIfInBounds_toArray, List.set_cons_zero, List.set_cons_succ])
  refine wpAnyH_ready (rs := [10]) (by kernel_rfl) (by simp) (AllReadyH.cons rfl (fun K hK => ?_) AllReadyH.nil)
  (try simp only [Act.put, List.getElem_toArray, List.getElem_cons_succ, List.getElem_cons_zero, List.setIfInBounds_toArray, List.set_cons_zero, List.set_cons_succ])
  go_simp
  (go_at_call 35; refine (HSN.out _ (by (repeat' (first | with_reducible exact HB1.out | with_reducible exact Below.refl _ _ | with_reducible refine below_drewN ?_ _ | with_reducible refine Below.drew ?_ | with_reducible refine Below.setCell ?_ (by first | exact Nat.le_refl _ | (simp; done) | (simp; omega) | omega) _ | with_reducible refine Below.alloc ?_ (by first | exact Nat.le_refl _ | (simp; done) | (simp; omega) | omega) _ | exact Below.refl _ _ | exact HB1.out)))).mono ?_; rintro en w2 ⟨pv2, sv2, rfl, hp2, hs2, hn2, hm2, hb2⟩; (obtain ⟨pA2, pc2, rfl, _⟩ := own_sl hp2); (obtain ⟨sA2, sc2, rfl, _⟩ := own_sl hs2); (have hx2 := HX1.out.drew.below hb2); (have hr2 := HR1.out.drew.below hb2); clear x0 x1 x2 x3 x4 x5 x6 x7 x8 x9 x10 x11 x12 x13 x14 x15; (have x0 : World.cell? w2 ⟨w.heap.size, 0, none⟩ = some (.int .i64 k) := by rw [Blk.cell hx2]; rfl); (have x1 : World.cell? w2 ⟨w.heap.size, 1, none⟩ = some (.int .i64 x.pos.e) := by rw [Blk.cell hx2]; rfl); (have x2 : World.cell? w2 ⟨w.heap.size, 2, none⟩ = some (.int .i64 x.pos.i) := by rw [Blk.cell hx2]; rfl); (have x3 : World.cell? w2 ⟨w.heap.size, 3, none⟩ = some (.int .i64 x.s) := by rw [Blk.cell hx2]; rfl); (have x4 : World.cell? w2 ⟨w.heap.size, 4, none⟩ = some (.int .i64 x.r) := by rw [Blk.cell hx2]; rfl); (have x5 : World.cell? w2 ⟨w.heap.size, 5, none⟩ = some (.string x.k) := by rw [Blk.cell hx2]; rfl); (have x6 : World.cell? w2 ⟨w.heap.size, 6, none⟩ = some (.bool x.d) := by rw [Blk.cell hx2]; rfl); (have x7 : World.cell? w2 ⟨w.heap.size, 7, none⟩ = some (.string x.t) := by rw [Blk.cell hx2]; rfl); (have x8 : World.cell? w2 ⟨w.heap.size, 8, none⟩ = some (.int .i64 e.m) := by rw [Blk.cell hx2]; rfl); (have x9 : World.cell? w2 ⟨w.heap.size, 9, none⟩ = some (.int .i64 e.c) := by rw [Blk.cell hx2]; rfl); (have x10 : World.cell? w2 ⟨w.heap.size, 10, none⟩ = some (.bool e.f) := by rw [Blk.cell hx2]; rfl); (have x11 : World.cell? w2 ⟨w.heap.size, 11, none⟩ = some (.int .i64 cfg) := by rw [Blk.cell hx2]; rfl); (have x12 : World.cell? w2 ⟨w.heap.size, 12, none⟩ = some (.int .i64 sp.e) := by rw [Blk.cell hx2]; rfl); (have x13 : World.cell? w2 ⟨w.heap.size, 13, none⟩ = some (.int .i64 sp.i) := by rw [Blk.cell hx2]; rfl); (have x14 : World.cell? w2 ⟨w.heap.size, 14, none⟩ = some (.slice pA a pc) := by rw [Blk.cell hx2]; rfl); (have x15 : World.cell? w2 ⟨w.heap.size, 15, none⟩ = some (.slice sA b sc) := by rw [Blk.cell hx2]; rfl); (have hst : (storeRec (.pointer (some ⟨w.heap.size + 1, 0, none⟩)) (.agg (recVal k x e cfg sp (.slice pA2 ps.length pc2) (.slice sA2 ss.length sc2)))).run Try.prog w2 = .ok () (w2.setRow (w.heap.size + 1) (recVal k x e cfg sp (.slice pA2 ps.length pc2) (.slice sA2 ss.length sc2))) := run_storeAt_row hr2 rec_info rfl (by simp [recVal, Value.oneCell'])); (have hxw : ∀ (i : Nat), (w2.setRow (w.heap.size + 1) (recVal k x e cfg sp (.slice pA2 ps.length pc2) (.slice sA2 ss.length sc2))).cell? ⟨w.heap.size, i, none⟩ = w2.cell? ⟨w.heap.size, i, none⟩ := fun i => cell_setRow_other w2 (w.heap.size + 1) _ _ (by show w.heap.size ≠ w.heap.size + 1; omega)); (have HX2 := Lib.hid hx2); (have HR2 := Lib.hid hr2); (have HB2 := Lib.hid (HB1.out.drew.trans (hb2.mono hs1))); (have HP2 := Lib.hid hp2); (have HS2 := Lib.hid hs2); (have HN2 := Lib.hid hn2); (have HM2 := Lib.hid hm2); unfold recVal at hst hxw; clear hx2 hr2 hb2 hp2 hs2 hn2 hm2; unfold snapVal)
  (try dsimp only)
  refine hK.out _ _ ?_ (fun hHeld => ?_)
  · ((try dsimp only); first | go_keep)
  clear hK K
  (try simp only [Act.put, List.getElem_toArray, List.getElem_cons_succ, List.getElem_cons_zero, List.setIfInBounds_toArray, List.set_cons_zero, List.set_cons_succ])
  refine wpAnyH_take (i := 11) (v := ?_) rfl (by kernel_rfl) (by kernel_rfl) (by kernel_rfl) (fun _ _ _ h => h) (Or.inl ⟨by rfl, ?_⟩) (by assumption) ?_
  rotate_left
  · (intro w hSw; (try dsimp only at hSw); (try simp only [Act.put, List.getElem_toArray, List.getElem_cons_succ, List.getElem_cons_zero, List.setIfInBounds_toArray, List.set_cons_zero, List.set_cons_succ]); go_simp; try with_reducible rfl)
  (try simp only [Act.put, List.getElem_toArray, List.getElem_cons_succ, List.getElem_cons_zero, List.setIfInBounds_toArray, List.set_cons_zero, List.set_cons_succ])
  refine wpAnyH_ready (rs := [12]) (by kernel_rfl) (by simp) (AllReadyH.cons rfl (fun K hK => ?_) AllReadyH.nil)
  (try simp only [Act.put, List.getElem_toArray, List.getElem_cons_succ, List.getElem_cons_zero, List.setIfInBounds_toArray, List.set_cons_zero, List.set_cons_succ])
  go_simp
  refine hK.out _ _ ?_ (fun hHeld => ?_)
  · ((try dsimp only); first | go_keep)
  clear hK K
  (try simp only [Act.put, List.getElem_toArray, List.getElem_cons_succ, List.getElem_cons_zero, List.setIfInBounds_toArray, List.set_cons_zero, List.set_cons_succ])
  refine wpAnyH_done (by kernel_rfl) ?_ _
  refine NoPanic.normal ?_
  go_wp2_with fail
  have hr3 : Blk (w2.setRow (w.heap.size + 1) (recVal k x e cfg sp (.slice pA2 ps.length pc2) (.slice sA2 ss.length sc2))) (w.heap.size + 1) (recVal k x e cfg sp (.slice pA2 ps.length pc2) (.slice sA2 ss.length sc2)) 42 := HR2.out.setRow
  have hf3 : Frm (fun c => c = w.heap.size + 1) w2 (w2.setRow (w.heap.size + 1) (recVal k x e cfg sp (.slice pA2 ps.length pc2) (.slice sA2 ss.length sc2))) := Frm.setRow (F := fun c => c = w.heap.size + 1) (Frm.refl _ w2) (.inl rfl) _
  unfold recVal at hr3 hf3
  refine ret_cell rfl rfl (loads_blk (T := 42) rec_agg rec_size hr3 rfl) rfl ⟨.slice pA2 ps.length pc2, .slice sA2 ss.length sc2, rfl, ?_, ?_, ?_, ?_, ?_⟩
  · exact own_frm HP2.out hf3 (fun c h1 h2 => by have := HN2.out c h1; simp at this; omega)
  · exact own_frm HS2.out hf3 (fun c h1 h2 => by have := HM2.out c h1; simp at this; omega)
  · intro c hc; have := HN2.out c hc; simp at this; omega
  · intro c hc; have := HM2.out c hc; simp at this; omega
  · exact Frm.ge HB2.out hf3 (fun c hc => by omega)

end Go.Proofs.Ytedcdjlpogpgbaa

/- The reference's SameSnap, at equal snapshots. -/
set_option linter.unusedVariables false
set_option linter.unusedSimpArgs false
namespace Go.Proofs.Ytedcdjlpogpgbaa
open Go.RowKit

attribute [local go_sem high] neq_pos eql_pos
set_option maxRecDepth 100000 in
set_option maxHeartbeats 4000000 in
theorem SameSnap_eq (p : Pos) (v u v2 u2 : Value) (ps : List (ByteArray × Val)) (ss : List Sn) (w : World) (hv : SlAt w v ps.length (pairsCells ps)) (hu : SlAt w u ss.length (snsCells ss)) (hv2 : SlAt w v2 ps.length (pairsCells ps)) (hu2 : SlAt w u2 ss.length (snsCells ss)) :
    Calls Try.prog 23 #[.agg (snapVal p v u), .agg (snapVal p v2 u2)] w (fun e w' => e = .returned (.bool true) ∧ Below w.heap.size w w') := by
  obtain ⟨A, ca, rfl, _⟩ := id hv
  obtain ⟨B, cb, rfl, _⟩ := id hu
  obtain ⟨C, cc, rfl, _⟩ := id hv2
  obtain ⟨D, cd, rfl, _⟩ := id hu2
  have hpq : posEq p.e p.i p.e p.i = true := by simp [posEq]
  have h1 : ∀ W : World, Below w.heap.size w W → Calls Try.prog 36 #[.slice A ps.length ca, .slice C ps.length cc] W (TrueRes W) := fun W hW => SamePairs_eq _ _ ps W (hv.below hW) (hv2.below hW)
  have h2 : ∀ W : World, Below w.heap.size w W → Calls Try.prog 37 #[.slice B ss.length cb, .slice D ss.length cd] W (TrueRes W) := fun W hW => SameSeen_eq _ _ ss W (hu.below hW) (hu2.below hW)
  have H1 := Lib.hid h1
  have H2 := Lib.hid h2
  clear hv hu hv2 hu2 h1 h2
  unfold snapVal
  go_enter Try.func23, Try.ntmps23
  go_wp2_with fail
  refine (H1.out _ (by (repeat' (first | with_reducible exact Below.refl _ _ | with_reducible refine below_drewN ?_ _ | with_reducible refine Below.drew ?_ | with_reducible refine Below.setCell ?_ (by first | exact Nat.le_refl _ | (simp; done) | (simp; omega) | omega) _ | with_reducible refine Below.alloc ?_ (by first | exact Nat.le_refl _ | (simp; done) | (simp; omega) | omega) _ | exact Below.refl _ _)))).mono ?_
  rintro e w1 ⟨rfl, n1, rfl⟩
  go_wp2_with fail
  refine (H2.out _ (by (repeat' (first | with_reducible exact Below.refl _ _ | with_reducible refine below_drewN ?_ _ | with_reducible refine Below.drew ?_ | with_reducible refine Below.setCell ?_ (by first | exact Nat.le_refl _ | (simp; done) | (simp; omega) | omega) _ | with_reducible refine Below.alloc ?_ (by first | exact Nat.le_refl _ | (simp; done) | (simp; omega) | omega) _ | exact Below.refl _ _)))).mono ?_
  rintro e w2 ⟨rfl, n2, rfl⟩
  go_wp2_with fail
  go_ret
  exact ⟨rfl, by (repeat' (first | with_reducible exact Below.refl _ _ | with_reducible refine below_drewN ?_ _ | with_reducible refine Below.drew ?_ | with_reducible refine Below.setCell ?_ (by first | exact Nat.le_refl _ | (simp; done) | (simp; omega) | omega) _ | with_reducible refine Below.alloc ?_ (by first | exact Nat.le_refl _ | (simp; done) | (simp; omega) | omega) _ | exact Below.refl _ _))⟩

end Go.Proofs.Ytedcdjlpogpgbaa

/- Laws over a script of records: an element read; a record that is light, plain and applied. -/
set_option linter.unusedVariables false
set_option linter.unusedSimpArgs false
namespace Go.Proofs.Ytedcdjlpogpgbaa
open Go.RowKit

def loadRd (x : Value) : Sem Value := Instr.loadAt 52 x
theorem loadRd_eq (x : Value) : Instr.loadAt 52 x = loadRd x := rfl
theorem rrec_agg (w : World) : (isAgg 52).run Try.prog w = .ok true w := by kernel_rfl
theorem rrec_size (w : World) : (sizeOf 52).run Try.prog w = .ok 16 w := by kernel_rfl
theorem run_loadRd {w : World} {b o : Nat} {cs : Array Value} (h : ∀ j u, cs.toList[j]? = some u → w.cell? ⟨b, o + j, none⟩ = some u) (hs : cs.size = 16) : (loadRd (.pointer (some ⟨b, o, none⟩))).run Try.prog w = .ok (.agg cs) w := by
  unfold loadRd Instr.loadAt
  simp only [Instr.sureAddr, Sem.run_bind, Sem.run_pure, Result.andThen_ok]
  have hl := run_loadCells_list (P := Try.prog) w ⟨b, o, none⟩ cs.toList (fun j v hj => by rw [addr_add]; exact h j v hj)
  have hl2 : (loadCells ⟨b, o, none⟩ 16).run Try.prog w = .ok cs w := by rw [← hs]; simpa using hl
  unfold loadVar
  simp only [Sem.run_bind, rrec_agg, rrec_size, Result.andThen_ok, if_true, hl2]
  rfl
def RecD.val (r : RecD) : Array Value := recVal r.kind r.x r.e r.cfg r.d.pos r.d.pv r.d.sv
theorem RecD.val_list (r : RecD) : r.val.toList = r.cells := rfl
/-- The script in memory. -/
def Script (w : World) (A : Option Addr) (n c : Nat) (l : List RecD) : Prop := l.length = n ∧ SlAt w (.slice A n c) n (l.flatMap RecD.cells) ∧ ∀ r ∈ l, GRec w r
theorem Script.elem {w : World} {A : Option Addr} {n c : Nat} {l : List RecD} (h : Script w A n c l) {i : Nat} (hi : i < n) :
    ∃ (b o : Nat) (r : RecD), A = some ⟨b, o, none⟩ ∧ b < w.heap.size ∧ SlAt w r.d.pv r.d.ps.length (pairsCells r.d.ps) ∧ SlAt w r.d.sv r.d.ss.length (snsCells r.d.ss) ∧ ∀ W, Below w.heap.size w W → (loadRd (.pointer (some ⟨b, o + i * 16, none⟩))).run Try.prog W = .ok (.agg r.val) W := by
  obtain ⟨h1, h2, h3⟩ := h
  obtain ⟨b, o, hA, hb, hc⟩ := sl_elem RecD.cells 16 (fun _ => rfl) h2 (by omega)
  have hil : i < l.length := by omega
  have hg := h3 l[i] (List.getElem_mem hil)
  refine ⟨b, o, l[i], hA, hb, hg.d.prs, hg.d.sns, fun W hW => run_loadRd (fun j u hj => ?_) rfl⟩
  rw [hW.cell (p := ⟨b, _, none⟩) hb]
  rw [RecD.val_list] at hj
  exact hc i _ (List.getElem?_eq_getElem hil) j u hj
theorem SInv.keys_le {s : St} (h : SInv s) {n : Nat} (hb : s.bulk ≤ n) : s.keys.length ≤ n := by
  have := h.told.2.2
  unfold St.bulk at hb
  omega
theorem apply_inv {F : Nat → Prop} {b : Nat} {s : St} (r : RecD) (pv sv : Value) (w : World) (n : Nat) (h : Live F w b s) (hF : ∀ c, F c → c < w.heap.size) (hi : SInv s) (hb : s.bulk ≤ n) (hn : n ≤ 100000) (hp : SlAt w pv r.d.ps.length (pairsCells r.d.ps)) (hs : SlAt w sv r.d.ss.length (snsCells r.d.ss))
    (hlp : r.d.ps.length ≤ 1000000) (hls : r.d.ss.length ≤ 1000000) :
    Calls Try.prog 13 #[.pointer (some ⟨b, 0, none⟩), .agg (recVal r.kind r.x r.e r.cfg r.d.pos pv sv)] w (LiveRes F b (checkN s r) (applyF s r) w) := by
  have hk := hi.keys_le hb
  exact apply_live r pv sv w h hF (hi.ok (by unfold St.bulk at hb; omega)) hp hs hlp hls (by omega) hi.told.1.few
theorem sortS_sortS (l : List Sn) : sortS (sortS l) = sortS l := by
  unfold sortS
  apply List.mergeSort_of_pairwise
  have := sortS_sorted l
  unfold sortS at this
  exact this.imp (fun h => by simpa using h)
theorem SInv.len {s : St} (h : SInv s) : 1 ≤ s.table.length ∧ s.table.length ≤ 64 := by
  have := (rightB_iff _).1 h.right
  exact ⟨this.1, this.2.1⟩

end Go.Proofs.Ytedcdjlpogpgbaa
