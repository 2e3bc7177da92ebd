/- Arguments opened: positions, entries, epochs, pairs, sessions, snapshots, records, and slices of them. -/
import Derived.Test.YtedcdjlpogpgbaaOpen
import Derived.Test.YtedcdjlpogpgbaaData
import Derived.Deep.Slices
set_option linter.unusedVariables false
set_option linter.unusedSimpArgs false
namespace Go.Proofs.Ytedcdjlpogpgbaa
open Go.ChangeShapes Go.WideShapes Go.ChangeAt Go.RowKit Go.Deep

theorem len1 {α : Type} {l : List α} (h : l.length = 1) : ∃ a, l = [a] := by match l, h with | [a], _ => exact ⟨a, rfl⟩
theorem len2 {α : Type} {l : List α} (h : l.length = 2) : ∃ a b, l = [a, b] := by match l, h with | [a, b], _ => exact ⟨a, b, rfl⟩
theorem len3 {α : Type} {l : List α} (h : l.length = 3) : ∃ a b c, l = [a, b, c] := by match l, h with | [a, b, c], _ => exact ⟨a, b, c, rfl⟩
theorem len4 {α : Type} {l : List α} (h : l.length = 4) : ∃ a b c d, l = [a, b, c, d] := by match l, h with | [a, b, c, d], _ => exact ⟨a, b, c, d, rfl⟩
theorem len5 {α : Type} {l : List α} (h : l.length = 5) : ∃ a b c d e, l = [a, b, c, d, e] := by match l, h with | [a, b, c, d, e], _ => exact ⟨a, b, c, d, e, rfl⟩
theorem len7 {α : Type} {l : List α} (h : l.length = 7) : ∃ a b c d e f g, l = [a, b, c, d, e, f, g] := by match l, h with | [a, b, c, d, e, f, g], _ => exact ⟨a, b, c, d, e, f, g, rfl⟩
def I64 (n : Int) : Prop := -9223372036854775808 ≤ n ∧ n ≤ 9223372036854775807
section
variable {H : Type} {enc : TypeId × Value → H} {w : World} {base : Nat} {spare : Nat → Bool} {held : Bool} {fuel : Nat} {cs : List Value} {x : DataW H × List MemPlace}
theorem row_int : Try.prog.cellsOf 3 = 1 := by kernel_rfl
theorem row_bool : Try.prog.cellsOf 4 = 1 := by kernel_rfl
theorem row_pos : Try.prog.cellsOf 33 = 2 := by kernel_rfl
theorem row_val : Try.prog.cellsOf 46 = 4 := by kernel_rfl
theorem row_pair : Try.prog.cellsOf 67 = 5 := by kernel_rfl
theorem row_seen : Try.prog.cellsOf 69 = 4 := by kernel_rfl
theorem row_ent : Try.prog.cellsOf 35 = 7 := by kernel_rfl
theorem row_ep : Try.prog.cellsOf 29 = 3 := by kernel_rfl
theorem row_pairs : Try.prog.cellsOf 37 = 1 := by kernel_rfl
theorem row_seens : Try.prog.cellsOf 38 = 1 := by kernel_rfl
theorem row_snap : Try.prog.cellsOf 40 = 4 := by kernel_rfl
theorem field_at {P : Program} {t : TypeId} {fs : Array Field} (ht : P.underlying t = some (.struct fs)) (h : DataW.trod enc P w base spare held fuel t cs = some x) :
    cs.length = P.cellsOf t ∧ ∃ n, ∀ (j : Nat) (f : Field), fs[j]? = some f → ∃ y, DataW.trod enc P w base spare held n f.type ((cs.drop f.offset).take (P.cellsOf f.type)) = some y := by
  obtain ⟨xs, n, _, _, hl, hlen, hg⟩ := DataW.trod_struct ht h
  refine ⟨hl, n, fun j f hj => ?_⟩
  have hjl : j < xs.length := by rw [hlen]; exact (Array.getElem?_eq_some_iff.1 hj).1
  exact ⟨xs[j], (hg j f hj).trans (List.getElem?_eq_getElem hjl)⟩
theorem fld {P : Program} {fs : Array Field} {n : Nat} (hf : ∀ (j : Nat) (f : Field), fs[j]? = some f → ∃ y, DataW.trod enc P w base spare held n f.type ((cs.drop f.offset).take (P.cellsOf f.type)) = some y) (j : Nat) (f : Field) (hj : fs[j]? = some f) {t : TypeId} {k o : Nat} (h1 : f.type = t) (h2 : P.cellsOf t = k) (h3 : f.offset = o) :
    ∃ y, DataW.trod enc P w base spare held n t ((cs.drop o).take k) = some y := by
  subst h1; subst h2; subst h3; exact hf j f hj
theorem at_int (h : DataW.trod enc Try.prog w base spare held fuel 3 cs = some x) : ∃ n, cs = [.int .i64 n] ∧ I64 n := by
  obtain ⟨n, h1, _, h2⟩ := DataW.trod_int Try.underlying3 h
  refine ⟨n, h1, ?_⟩
  simp only [Lit.wf, Bool.and_eq_true, decide_eq_true_eq] at h2
  rw [show IntKind.i64.min = -9223372036854775808 from by decide, IntKind.max_i64] at h2
  exact h2
theorem at_bool (h : DataW.trod enc Try.prog w base spare held fuel 4 cs = some x) : ∃ b, cs = [.bool b] := by
  obtain ⟨n, h1, _⟩ := DataW.trod_bool Try.underlying4 h
  exact ⟨n, h1⟩
theorem at_str (h : DataW.trod enc Try.prog w base spare held fuel 9 cs = some x) : ∃ s, cs = [.string s] ∧ s.size ≤ maxLen := by
  obtain ⟨n, h1, _, h2⟩ := DataW.trod_string Try.underlying9 h
  exact ⟨n, h1, h2⟩
theorem at_pos (h : DataW.trod enc Try.prog w base spare held fuel 33 cs = some x) : ∃ p : Pos, cs = [.int .i64 p.e, .int .i64 p.i] ∧ I64 p.e ∧ I64 p.i := by
  obtain ⟨hl, n, hf⟩ := field_at Try.underlying33 h
  rw [row_pos] at hl
  obtain ⟨c0, c1, rfl⟩ := len2 hl
  obtain ⟨y0, h0⟩ := fld hf 0 _ rfl (t := 3) (k := 1) (o := 0) rfl row_int rfl
  obtain ⟨a, e0, ia⟩ := at_int h0
  simp only [List.drop_succ_cons, List.drop_zero, List.take_succ_cons, List.take_zero, List.cons.injEq, and_true] at e0
  obtain ⟨y1, h1⟩ := fld hf 1 _ rfl (t := 3) (k := 1) (o := 1) rfl row_int rfl
  obtain ⟨b, e1, ib⟩ := at_int h1
  simp only [List.drop_succ_cons, List.drop_zero, List.take_succ_cons, List.take_zero, List.cons.injEq, and_true] at e1
  subst e0
  subst e1
  exact ⟨⟨a, b⟩, rfl, ia, ib⟩
def GVal (v : Val) : Prop := I64 v.pos.e ∧ I64 v.pos.i ∧ v.t.size ≤ maxLen
def GSn (y : Sn) : Prop := I64 y.s ∧ I64 y.r ∧ I64 y.pos.e ∧ I64 y.pos.i
def GEp (y : Ep) : Prop := I64 y.m ∧ I64 y.c
def GEnt (y : Ent) : Prop := I64 y.pos.e ∧ I64 y.pos.i ∧ I64 y.s ∧ I64 y.r ∧ y.k.size ≤ maxLen ∧ y.t.size ≤ maxLen
def GKV (y : ByteArray × Val) : Prop := y.1.size ≤ maxLen ∧ GVal y.2
theorem at_val (h : DataW.trod enc Try.prog w base spare held fuel 46 cs = some x) : ∃ v : Val, cs = [.int .i64 v.pos.e, .int .i64 v.pos.i, .bool v.th, .string v.t] ∧ GVal v := by
  obtain ⟨hl, n, hf⟩ := field_at Try.underlying46 h
  rw [row_val] at hl
  obtain ⟨c0, c1, c2, c3, rfl⟩ := len4 hl
  obtain ⟨y0, h0⟩ := fld hf 0 _ rfl (t := 33) (k := 2) (o := 0) rfl row_pos rfl
  obtain ⟨p, e0, ia, ib⟩ := at_pos h0
  simp only [List.drop_succ_cons, List.drop_zero, List.take_succ_cons, List.take_zero, List.cons.injEq, and_true] at e0
  obtain ⟨y1, h1⟩ := fld hf 1 _ rfl (t := 4) (k := 1) (o := 2) rfl row_bool rfl
  obtain ⟨b, e1⟩ := at_bool h1
  simp only [List.drop_succ_cons, List.drop_zero, List.take_succ_cons, List.take_zero, List.cons.injEq, and_true] at e1
  obtain ⟨y2, h2⟩ := fld hf 2 _ rfl (t := 9) (k := 1) (o := 3) rfl row_cells9 rfl
  obtain ⟨t, e2, it⟩ := at_str h2
  simp only [List.drop_succ_cons, List.drop_zero, List.take_succ_cons, List.take_zero, List.cons.injEq, and_true] at e2
  obtain ⟨rfl, rfl⟩ := e0
  subst e1
  subst e2
  exact ⟨⟨p, b, t⟩, rfl, ia, ib, it⟩
theorem at_pair (h : DataW.trod enc Try.prog w base spare held fuel 67 cs = some x) : ∃ v : ByteArray × Val, cs = pairCells v ∧ GKV v := by
  obtain ⟨hl, n, hf⟩ := field_at Try.underlying67 h
  rw [row_pair] at hl
  obtain ⟨c0, c1, c2, c3, c4, rfl⟩ := len5 hl
  obtain ⟨y0, h0⟩ := fld hf 0 _ rfl (t := 9) (k := 1) (o := 0) rfl row_cells9 rfl
  obtain ⟨k, e0, ik⟩ := at_str h0
  simp only [List.drop_succ_cons, List.drop_zero, List.take_succ_cons, List.take_zero, List.cons.injEq, and_true] at e0
  obtain ⟨y1, h1⟩ := fld hf 1 _ rfl (t := 46) (k := 4) (o := 1) rfl row_val rfl
  obtain ⟨v, e1, iv⟩ := at_val h1
  simp only [List.drop_succ_cons, List.drop_zero, List.take_succ_cons, List.take_zero, List.cons.injEq, and_true] at e1
  subst e0
  obtain ⟨rfl, rfl, rfl, rfl⟩ := e1
  exact ⟨(k, v), rfl, ik, iv⟩
theorem at_seen (h : DataW.trod enc Try.prog w base spare held fuel 69 cs = some x) : ∃ v : Sn, cs = snCells v ∧ GSn v := by
  obtain ⟨hl, n, hf⟩ := field_at Try.underlying69 h
  rw [row_seen] at hl
  obtain ⟨c0, c1, c2, c3, rfl⟩ := len4 hl
  obtain ⟨y0, h0⟩ := fld hf 0 _ rfl (t := 3) (k := 1) (o := 0) rfl row_int rfl
  obtain ⟨a, e0, ia⟩ := at_int h0
  simp only [List.drop_succ_cons, List.drop_zero, List.take_succ_cons, List.take_zero, List.cons.injEq, and_true] at e0
  obtain ⟨y1, h1⟩ := fld hf 1 _ rfl (t := 3) (k := 1) (o := 1) rfl row_int rfl
  obtain ⟨b, e1, ib⟩ := at_int h1
  simp only [List.drop_succ_cons, List.drop_zero, List.take_succ_cons, List.take_zero, List.cons.injEq, and_true] at e1
  obtain ⟨y2, h2⟩ := fld hf 2 _ rfl (t := 33) (k := 2) (o := 2) rfl row_pos rfl
  obtain ⟨p, e2, ic, id⟩ := at_pos h2
  simp only [List.drop_succ_cons, List.drop_zero, List.take_succ_cons, List.take_zero, List.cons.injEq, and_true] at e2
  subst e0
  subst e1
  obtain ⟨rfl, rfl⟩ := e2
  exact ⟨⟨a, b, p⟩, rfl, ia, ib, ic, id⟩
theorem at_ep (h : DataW.trod enc Try.prog w base spare held fuel 29 cs = some x) : ∃ v : Ep, cs = (epVal v).toList ∧ GEp v := by
  obtain ⟨hl, n, hf⟩ := field_at Try.underlying29 h
  rw [row_ep] at hl
  obtain ⟨c0, c1, c2, rfl⟩ := len3 hl
  obtain ⟨y0, h0⟩ := fld hf 0 _ rfl (t := 3) (k := 1) (o := 0) rfl row_int rfl
  obtain ⟨a, e0, ia⟩ := at_int h0
  simp only [List.drop_succ_cons, List.drop_zero, List.take_succ_cons, List.take_zero, List.cons.injEq, and_true] at e0
  obtain ⟨y1, h1⟩ := fld hf 1 _ rfl (t := 3) (k := 1) (o := 1) rfl row_int rfl
  obtain ⟨b, e1, ib⟩ := at_int h1
  simp only [List.drop_succ_cons, List.drop_zero, List.take_succ_cons, List.take_zero, List.cons.injEq, and_true] at e1
  obtain ⟨y2, h2⟩ := fld hf 2 _ rfl (t := 4) (k := 1) (o := 2) rfl row_bool rfl
  obtain ⟨f, e2⟩ := at_bool h2
  simp only [List.drop_succ_cons, List.drop_zero, List.take_succ_cons, List.take_zero, List.cons.injEq, and_true] at e2
  subst e0
  subst e1
  subst e2
  exact ⟨⟨a, b, f⟩, rfl, ia, ib⟩
theorem at_ent (h : DataW.trod enc Try.prog w base spare held fuel 35 cs = some x) : ∃ v : Ent, cs = entCells v ∧ GEnt v := by
  obtain ⟨hl, n, hf⟩ := field_at Try.underlying35 h
  rw [row_ent] at hl
  obtain ⟨c0, c1, c2, c3, c4, c5, c6, rfl⟩ := len7 hl
  obtain ⟨y0, h0⟩ := fld hf 0 _ rfl (t := 33) (k := 2) (o := 0) rfl row_pos rfl
  obtain ⟨p, e0, ia, ib⟩ := at_pos h0
  simp only [List.drop_succ_cons, List.drop_zero, List.take_succ_cons, List.take_zero, List.cons.injEq, and_true] at e0
  obtain ⟨y1, h1⟩ := fld hf 1 _ rfl (t := 3) (k := 1) (o := 2) rfl row_int rfl
  obtain ⟨a, e1, ic⟩ := at_int h1
  simp only [List.drop_succ_cons, List.drop_zero, List.take_succ_cons, List.take_zero, List.cons.injEq, and_true] at e1
  obtain ⟨y2, h2⟩ := fld hf 2 _ rfl (t := 3) (k := 1) (o := 3) rfl row_int rfl
  obtain ⟨b, e2, id⟩ := at_int h2
  simp only [List.drop_succ_cons, List.drop_zero, List.take_succ_cons, List.take_zero, List.cons.injEq, and_true] at e2
  obtain ⟨y3, h3⟩ := fld hf 3 _ rfl (t := 9) (k := 1) (o := 4) rfl row_cells9 rfl
  obtain ⟨k, e3, ik⟩ := at_str h3
  simp only [List.drop_succ_cons, List.drop_zero, List.take_succ_cons, List.take_zero, List.cons.injEq, and_true] at e3
  obtain ⟨y4, h4⟩ := fld hf 4 _ rfl (t := 4) (k := 1) (o := 5) rfl row_bool rfl
  obtain ⟨f, e4⟩ := at_bool h4
  simp only [List.drop_succ_cons, List.drop_zero, List.take_succ_cons, List.take_zero, List.cons.injEq, and_true] at e4
  obtain ⟨y5, h5⟩ := fld hf 5 _ rfl (t := 9) (k := 1) (o := 6) rfl row_cells9 rfl
  obtain ⟨t, e5, it⟩ := at_str h5
  simp only [List.drop_succ_cons, List.drop_zero, List.take_succ_cons, List.take_zero, List.cons.injEq, and_true] at e5
  obtain ⟨rfl, rfl⟩ := e0
  subst e1
  subst e2
  subst e3
  subst e4
  subst e5
  exact ⟨⟨p, a, b, k, f, t⟩, rfl, ia, ib, ic, id, ik, it⟩
/-- A slice of such elements. -/
theorem at_slice {α : Type} (z : α) {P : Program} {t e : TypeId} (cells : α → List Value) (q : Nat) (hq : 0 < q) (G : α → Prop) (ht : P.underlying t = some (.slice e)) (hC : P.cellsOf e = q) (hl : ∀ a, (cells a).length = q)
    (hopen : ∀ (n : Nat) (cs : List Value) (x : DataW H × List MemPlace), DataW.trod enc P w base spare held n e cs = some x → ∃ a, cs = cells a ∧ G a) (h : DataW.trod enc P w base spare held fuel t cs = some x) :
    ∃ (v : Value) (l : List α), cs = [v] ∧ SlAt w v l.length (l.flatMap cells) ∧ ∀ a ∈ l, G a := by
  rcases open_slice ht h with ⟨h0, _⟩ | ⟨a, len, cap, m, n, D, Pl, hcs, hb, hle, hm, hmm, _, hi⟩
  · exact ⟨_, [], h0, ⟨none, 0, rfl, Nat.le_refl _, by unfold maxLen; omega, fun h => absurd h (by simp)⟩, fun a ha => absurd ha (by simp)⟩
  · have hml : len ≤ m := by rw [hmm]; split <;> omega
    have hex : ∀ i, i < len → ∃ d : α, G d ∧ ∀ j u, (cells d)[j]? = some u → w.cell? (a.add (i * q + j)) = some u := by
      intro i hil
      obtain ⟨cs', hc, ht'⟩ := hi i (by omega)
      obtain ⟨d, hd, hG⟩ := hopen n cs' _ ht'
      obtain ⟨_, hcl, hat⟩ := World.cells?_some hc
      refine ⟨d, hG, fun j u hu => ?_⟩
      have hj : j < q := by rw [← hl d]; exact (List.getElem?_eq_some_iff.1 hu).1
      have := hat j (by rw [hC]; exact hj)
      rw [hd, hu, hC, Go.Deep.add_add] at this
      exact this
    have : Inhabited α := ⟨z⟩
    obtain ⟨f, hf⟩ := choose_lt hex
    refine ⟨_, (List.range len).map f, hcs, ⟨some a, cap, by simp, by simpa using hle, hm, fun hp => ?_⟩, fun y hy => ?_⟩
    · simp only [List.length_map, List.length_range] at hp
      obtain ⟨b, off, spot⟩ := a
      have h0 := hf 0 hp
      obtain ⟨u0, hu0⟩ : ∃ u, (cells (f 0))[0]? = some u := ⟨_, List.getElem?_eq_getElem (by rw [hl]; exact hq)⟩
      have hc0 := h0.2 0 u0 hu0
      have hspot : spot = none := by simpa [Addr.add] using World.cell?_spot hc0
      subst hspot
      refine ⟨b, off, rfl, by simpa [add_plain] using World.block_lt_of_cell? w _ hc0, fun j u hu => ?_⟩
      have hjl : j < len * q := by
        have := (List.getElem?_eq_some_iff.1 hu).1
        rw [flat_length cells q hl] at this
        simpa using this
      have hd : j / q < len := Nat.div_lt_of_lt_mul (by rw [Nat.mul_comm]; exact hjl)
      have hr : j % q < q := Nat.mod_lt _ hq
      have hj : j = j / q * q + j % q := by rw [Nat.mul_comm]; exact (Nat.div_add_mod j q).symm
      have hg := flat_get cells q hl ((List.range len).map f) (j / q) (j % q) (f (j / q)) (by rw [List.getElem?_map, List.getElem?_range hd]; rfl) hr
      rw [← hj, hu] at hg
      have := (hf _ hd).2 _ _ hg.symm
      rw [← hj, add_plain] at this
      exact this
    · simp only [List.mem_map, List.mem_range] at hy
      obtain ⟨i, hil, rfl⟩ := hy
      exact (hf i hil).1
theorem at_pairs (h : DataW.trod enc Try.prog w base spare held fuel 37 cs = some x) : ∃ (v : Value) (l : List (ByteArray × Val)), cs = [v] ∧ SlAt w v l.length (pairsCells l) ∧ ∀ a ∈ l, GKV a :=
  at_slice (⟨#[]⟩, zeroVal) pairCells 5 (by decide) GKV Try.underlying37 row_pair (fun _ => rfl) (fun _ _ _ => at_pair) h
theorem at_seens (h : DataW.trod enc Try.prog w base spare held fuel 38 cs = some x) : ∃ (v : Value) (l : List Sn), cs = [v] ∧ SlAt w v l.length (snsCells l) ∧ ∀ a ∈ l, GSn a :=
  at_slice ⟨0, 0, ⟨0, 0⟩⟩ snCells 4 (by decide) GSn Try.underlying38 row_seen (fun _ => rfl) (fun _ _ _ => at_seen) h
/-- A snapshot: its position, and two slices in memory. -/
structure SnapD where
  pos : Pos
  pv : Value
  sv : Value
  ps : List (ByteArray × Val)
  ss : List Sn
def SnapD.cells (d : SnapD) : List Value := [.int .i64 d.pos.e, .int .i64 d.pos.i, d.pv, d.sv]
structure GSnap (w : World) (d : SnapD) : Prop where
  pe : I64 d.pos.e
  pi : I64 d.pos.i
  prs : SlAt w d.pv d.ps.length (pairsCells d.ps)
  sns : SlAt w d.sv d.ss.length (snsCells d.ss)
  gp : ∀ a ∈ d.ps, GKV a
  gs : ∀ a ∈ d.ss, GSn a
theorem at_snap (h : DataW.trod enc Try.prog w base spare held fuel 40 cs = some x) : ∃ d : SnapD, cs = d.cells ∧ GSnap w d := by
  obtain ⟨hl, n, hf⟩ := field_at Try.underlying40 h
  rw [row_snap] at hl
  obtain ⟨c0, c1, c2, c3, rfl⟩ := len4 hl
  obtain ⟨y0, h0⟩ := fld hf 0 _ rfl (t := 33) (k := 2) (o := 0) rfl row_pos rfl
  obtain ⟨p, e0, ia, ib⟩ := at_pos h0
  simp only [List.drop_succ_cons, List.drop_zero, List.take_succ_cons, List.take_zero, List.cons.injEq, and_true] at e0
  obtain ⟨y1, h1⟩ := fld hf 1 _ rfl (t := 37) (k := 1) (o := 2) rfl row_pairs rfl
  obtain ⟨pv, ps, e1, hp, gp⟩ := at_pairs h1
  simp only [List.drop_succ_cons, List.drop_zero, List.take_succ_cons, List.take_zero, List.cons.injEq, and_true] at e1
  obtain ⟨y2, h2⟩ := fld hf 2 _ rfl (t := 38) (k := 1) (o := 3) rfl row_seens rfl
  obtain ⟨sv, ss, e2, hs, gs⟩ := at_seens h2
  simp only [List.drop_succ_cons, List.drop_zero, List.take_succ_cons, List.take_zero, List.cons.injEq, and_true] at e2
  obtain ⟨rfl, rfl⟩ := e0
  subst e1
  subst e2
  exact ⟨⟨p, c2, c3, ps, ss⟩, rfl, ia, ib, hp, hs, gp, gs⟩
/-- A record of the reference's. -/
structure RecD where
  kind : Int
  x : Ent
  e : Ep
  cfg : Int
  d : SnapD
def RecD.cells (r : RecD) : List Value := .int .i64 r.kind :: (entCells r.x ++ ((epVal r.e).toList ++ (.int .i64 r.cfg :: r.d.cells)))
structure GRec (w : World) (r : RecD) : Prop where
  kind : I64 r.kind
  cfg : I64 r.cfg
  x : GEnt r.x
  e : GEp r.e
  d : GSnap w r.d
theorem len16 {α : Type} {l : List α} (h : l.length = 16) : ∃ a b c d e f g i j k m n o p q r, l = [a, b, c, d, e, f, g, i, j, k, m, n, o, p, q, r] := by
  match l, h with | [a, b, c, d, e, f, g, i, j, k, m, n, o, p, q, r], _ => exact ⟨a, b, c, d, e, f, g, i, j, k, m, n, o, p, q, r, rfl⟩
theorem row_rec : Try.prog.cellsOf 52 = 16 := by kernel_rfl
theorem at_rec (h : DataW.trod enc Try.prog w base spare held fuel 52 cs = some x) : ∃ r : RecD, cs = r.cells ∧ GRec w r := by
  obtain ⟨hl, n, hf⟩ := field_at Try.underlying52 h
  rw [row_rec] at hl
  obtain ⟨c0, c1, c2, c3, c4, c5, c6, c7, c8, c9, c10, c11, c12, c13, c14, c15, rfl⟩ := len16 hl
  obtain ⟨y0, h0⟩ := fld hf 0 _ rfl (t := 3) (k := 1) (o := 0) rfl row_int rfl
  obtain ⟨a, e0, ia⟩ := at_int h0
  obtain ⟨y1, h1⟩ := fld hf 1 _ rfl (t := 35) (k := 7) (o := 1) rfl row_ent rfl
  obtain ⟨b, e1, ib⟩ := at_ent h1
  obtain ⟨y2, h2⟩ := fld hf 2 _ rfl (t := 29) (k := 3) (o := 8) rfl row_ep rfl
  obtain ⟨c, e2, ic⟩ := at_ep h2
  obtain ⟨y3, h3⟩ := fld hf 3 _ rfl (t := 3) (k := 1) (o := 11) rfl row_int rfl
  obtain ⟨g, e3, ig⟩ := at_int h3
  obtain ⟨y4, h4⟩ := fld hf 4 _ rfl (t := 40) (k := 4) (o := 12) rfl row_snap rfl
  obtain ⟨d, e4, id⟩ := at_snap h4
  refine ⟨⟨a, b, c, g, d⟩, ?_, ia, ig, ib, ic, id⟩
  show [c0, c1, c2, c3, c4, c5, c6, c7, c8, c9, c10, c11, c12, c13, c14, c15] = _
  unfold RecD.cells
  rw [← e1, ← e2, ← e4]
  injection e0 with e0
  injection e3 with e3
  rw [← e0, ← e3]
  rfl
theorem at_recs (h : DataW.trod enc Try.prog w base spare held fuel 49 cs = some x) : ∃ (v : Value) (l : List RecD), cs = [v] ∧ SlAt w v l.length (l.flatMap RecD.cells) ∧ ∀ a ∈ l, GRec w a :=
  at_slice ⟨0, ⟨⟨0, 0⟩, 0, 0, ⟨#[]⟩, false, ⟨#[]⟩⟩, ⟨0, 0, false⟩, 0, ⟨⟨0, 0⟩, .slice none 0 0, .slice none 0 0, [], []⟩⟩ RecD.cells 16 (by decide) (GRec w) Try.underlying49 row_rec (fun _ => rfl) (fun _ _ _ => at_rec) h
end

end Go.Proofs.Ytedcdjlpogpgbaa
