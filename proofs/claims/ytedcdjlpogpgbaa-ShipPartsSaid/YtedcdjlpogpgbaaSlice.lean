/- Slices of the program's own: what append makes of them; how they lie and stay. -/
import Derived.Test.YtedcdjlpogpgbaaPos
import Derived.Maps.AppendAt
set_option linter.unusedVariables false
set_option linter.unusedSimpArgs false
namespace Go.Proofs.Ytedcdjlpogpgbaa
open Go.RowKit

theorem Frm.ofGrown {w w' : World} {v : Value} (h : w.grownBy w' v.ownBlock) : Frm (fun b => v.ownBlock = some b) w w' :=
  ⟨h.os, h.tape, h.output, h.size, fun k hk hn => h.block k hk (fun e => hn e.symm)⟩
theorem own_frm {F : Nat → Prop} {w w' : World} {base k n : Nat} {e : TypeId} {v : Value} {xs : List Value} (h : w.ownsRow base e k v n xs) (f : Frm F w w') (hn : ∀ b, v.ownBlock = some b → ¬ F b) : w'.ownsRow base e k v n xs := by
  obtain ⟨h1, h2⟩ := h
  refine ⟨h1, ?_⟩
  rcases h2 with h2 | ⟨g, cap, cur, rfl, h3, h4, h5⟩
  · exact .inl h2
  · exact .inr ⟨g, cap, cur, rfl, h3, (f.block g (Array.getElem?_eq_some_iff.1 h4).1 (hn g rfl)).trans h4, h5⟩
theorem own_lt {w : World} {base k n b : Nat} {e : TypeId} {v : Value} {xs : List Value} (h : w.ownsRow base e k v n xs) (hb : v.ownBlock = some b) : b < w.heap.size := by
  rcases h.2 with ⟨rfl, _⟩ | ⟨g, cap, cur, rfl, _, h4, _⟩
  · cases hb
  · simp only [Value.ownBlock, Option.some.injEq] at hb; subst hb; exact (Array.getElem?_eq_some_iff.1 h4).1
theorem own_type {w : World} {base k n b : Nat} {e t : TypeId} {v : Value} {xs : List Value} {cs : Array Value} (h : w.ownsRow base e k v n xs) (hb : v.ownBlock = some b) (hk : Blk w b cs t) : e = t := by
  rcases h.2 with ⟨rfl, _⟩ | ⟨g, cap, cur, rfl, _, h4, _⟩
  · cases hb
  · simp only [Value.ownBlock, Option.some.injEq] at hb; subst hb; unfold Blk at hk; rw [hk] at h4; simp at h4; exact h4.2.symm
theorem own_map {w : World} {base k n b : Nat} {e : TypeId} {v : Value} {xs : List Value} {l : List (Value × Value)} (h : w.ownsRow base e k v n xs) (hb : v.ownBlock = some b) (hk : MpAt w b l) : False := by
  obtain ⟨es, cl, hm, _⟩ := hk
  rcases h.2 with ⟨rfl, _⟩ | ⟨g, cap, cur, rfl, _, h4, _⟩
  · cases hb
  · simp only [Value.ownBlock, Option.some.injEq] at hb; subst hb; rw [hm] at h4; cases h4
theorem own_two {w : World} {base k n b base' k' n' : Nat} {e e' : TypeId} {v v' : Value} {xs xs' : List Value} (h : w.ownsRow base e k v n xs) (hb : v.ownBlock = some b) (h' : w.ownsRow base' e' k' v' n' xs') (hb' : v'.ownBlock = some b) : e = e' := by
  rcases h'.2 with ⟨rfl, _⟩ | ⟨g, cap, cur, rfl, _, h4, _⟩
  · cases hb'
  · simp only [Value.ownBlock, Option.some.injEq] at hb'; subst hb'; exact own_type h hb h4
theorem own_sl {w : World} {base k n : Nat} {e : TypeId} {v : Value} {xs : List Value} (h : w.ownsRow base e k v n xs) : SlAt w v n xs := by
  rcases h.2 with ⟨rfl, rfl⟩ | ⟨g, cap, cur, rfl, _, h4, h5, h6, h7, h8⟩
  · exact ⟨none, 0, rfl, Nat.le_refl _, Nat.zero_le _, fun h => absurd h (by omega)⟩
  · refine ⟨_, cap, rfl, h5, h6, fun _ => ⟨g, 0, rfl, (Array.getElem?_eq_some_iff.1 h4).1, fun j u hu => ?_⟩⟩
    subst h8
    rw [List.getElem?_take] at hu
    split at hu
    · simp [World.cell?, h4]; simpa using hu
    · cases hu
theorem own_empty (w : World) (e : TypeId) (k : Nat) : w.ownsRow 0 e k (.slice none 0 0) 0 [] := ⟨by simp, .inl ⟨rfl, rfl⟩⟩

theorem run_append_sl {P : Program} {w : World} (t ty e : TypeId) (k bytes : Nat) (z : Value) (ht : P.underlying t = some (.slice e)) (hinfo : (P.info? e).map (fun i => (i.zero, i.size, i.bytes)) = some (some z, k, bytes)) (hzs : z.cells.size = k) (hk0 : 0 < k)
    (v : Value) (n : Nat) (xs : List Value) (hown : w.ownsRow 0 e k v n xs) (u : Value) (m : Nat) (news : List Value) (hs : SlAt w u m news) (hl : news.length = m * k) (h1 : ∀ x ∈ news, x.oneCell' = true) (hbytes : (n + m) * bytes ≤ 140737488355328) (hn : n + m ≤ maxLen) :
    ∃ v' w', (Builtin.append_ #[t, t] ty #[v, u]).run P w = .ok v' w' ∧ w'.ownsRow 0 e k v' (n + m) (xs ++ news) ∧ w.grownBy w' v.ownBlock ∧ (v'.ownBlock = v.ownBlock ∨ v'.ownBlock = some w.heap.size) := by
  obtain ⟨i0, hi, hzz⟩ := Option.map_eq_some_iff.1 hinfo
  simp only [Prod.mk.injEq] at hzz
  obtain ⟨hz0, hz1, hz2⟩ := hzz
  obtain ⟨A, c, rfl, hmc, hc, hcell⟩ := hs
  cases A with
  | none =>
    have h0 : m = 0 := by
      rcases Nat.eq_zero_or_pos m with h0 | h0
      · exact h0
      · obtain ⟨b, o, h, _⟩ := hcell h0; cases h
    subst h0
    have hne : news = [] := List.eq_nil_of_length_eq_zero (by simpa using hl)
    subst hne
    refine ⟨v, w, ?_, by simpa using hown, World.grownBy.refl w _, .inl rfl⟩
    rcases hown.2 with ⟨rfl, hn0⟩ | ⟨g, cap, cur, rfl, _, _, hnc, _⟩
    · simp [Builtin.append_, run_underlying ht, sizeOf, typeInfo, hi, Builtin.lenOf, Builtin.firstCells]
    · simp [Builtin.append_, run_underlying ht, sizeOf, typeInfo, hi, Builtin.lenOf, Builtin.firstCells, hnc, storeCells]
  | some ad =>
    have hcells : ∀ j x, news[j]? = some x → w.cell? (ad.add j) = some x := by
      intro j x hj
      have hjl : j < news.length := (List.getElem?_eq_some_iff.1 hj).1
      rcases Nat.eq_zero_or_pos m with h0 | h0
      · subst h0; omega
      · obtain ⟨b, o, h, _, hx⟩ := hcell h0
        injection h with h
        subst h
        have := hx j x hj
        unfold Addr.add
        split
        · rename_i h0; subst h0; simpa using this
        · exact this
    obtain ⟨v', w', hr, h2, h3, _, h5⟩ := run_append_own_at (P := P) w 0 t ty e i0 z k bytes ht hi hz0 hz1 hz2 hzs hk0 v n xs hown ad m c news hl hcells h1 hn hbytes (Nat.zero_le _)
    exact ⟨v', w', hr, h2, h3, h5⟩

section
variable {P : Program} {ops : Array Oper} {o : Oper} {a : Act} {w w' : World}
theorem wp_append_run {K : Act → World → Prop} {Q : Exit → Act → World → Prop} (s x : Operand) (t ty : TypeId) (hop : o.op = .call { callee := .builtin .append, args := #[s, x], argTypes := #[t, t] }) (hty : o.type = ty) {v u v' : Value}
    (hs : a.eval s = v) (hx : a.eval x = u) (happ : (Builtin.append_ #[t, t] ty #[v, u]).run P w = .ok v' w') (h : K (a.put o.dst v') w') : Oper.wp P o a w K Q := by
  subst hty
  unfold Oper.wp execOp
  simp only [hop, resolve, invoke, builtin, Sem.run_bind, Sem.run_pure, Result.andThen_ok, List.map_toArray, List.map_cons, List.map_nil, hs, hx, happ]
  exact h
/-- append in a region that draws its order. -/
theorem step_append_run {K : Act → World → Prop} {Q : Exit → Act → World → Prop} {E : Prop} (hgd : o.guard = none) (s x : Operand) (t ty : TypeId) (hop : o.op = .call { callee := .builtin .append, args := #[s, x], argTypes := #[t, t] }) (hty : o.type = ty) {v u v' : Value}
    (hs : a.eval s = v) (hx : a.eval x = u) (happ : (Builtin.append_ #[t, t] ty #[v, u]).run P w = .ok v' w') (h : K (a.put o.dst v') w') : if Region.wanted o (yielded ops a.tmps) = true then Oper.wp P o a w K Q else E := by
  have hw : Region.wanted o (yielded ops a.tmps) = true := by simp [Region.wanted, hgd]
  rw [if_pos hw]
  exact wp_append_run s x t ty hop hty hs hx happ h
/-- append outside such a region. -/
theorem list_append_run {Q : Exit → Act → World → Prop} {rest : List Oper} (hgd : o.guard = none) (s x : Operand) (t ty : TypeId) (hop : o.op = .call { callee := .builtin .append, args := #[s, x], argTypes := #[t, t] }) (hty : o.type = ty) {v u v' : Value}
    (hs : a.eval s = v) (hx : a.eval x = u) (happ : (Builtin.append_ #[t, t] ty #[v, u]).run P w = .ok v' w') (h : wpList P ops Q rest (a.put o.dst v') w') : wpList P ops Q (o :: rest) a w := by
  refine wpList_plain hgd fun K hK => ?_
  exact wp_append_run s x t ty hop hty hs hx happ (hK _ _ h)
end

/-- The same with what append gives behind it, whatever the world in which it stands. -/
theorem step_append_sl {P : Program} {ops : Array Oper} {o : Oper} {a : Act} {w : World} {K : Act → World → Prop} {Q : Exit → Act → World → Prop} {E : Prop} (hgd : o.guard = none) (s x : Operand) (t ty e : TypeId) (k bytes : Nat) (z : Value) (hop : o.op = .call { callee := .builtin .append, args := #[s, x], argTypes := #[t, t] }) (hty : o.type = ty)
    (ht : P.underlying t = some (.slice e)) (hinfo : (P.info? e).map (fun i => (i.zero, i.size, i.bytes)) = some (some z, k, bytes)) (hzs : z.cells.size = k) (hk0 : 0 < k) {v u : Value} (n : Nat) (xs : List Value) (m : Nat) (news : List Value)
    (hs : a.eval s = v) (hx : a.eval x = u) (hown : w.ownsRow 0 e k v n xs) (hsl : SlAt w u m news) (hl : news.length = m * k) (h1 : ∀ x ∈ news, x.oneCell' = true) (hbytes : (n + m) * bytes ≤ 140737488355328) (hn : n + m ≤ maxLen) (N : Nat) (hN : n + m = N) (ys : List Value) (hys : xs ++ news = ys)
    (h : ∀ A' c' w', w'.ownsRow 0 e k (.slice A' N c') N ys → Frm (fun c => v.ownBlock = some c) w w' → ((Value.slice A' N c').ownBlock = v.ownBlock ∨ (Value.slice A' N c').ownBlock = some w.heap.size) → K (a.put o.dst (.slice A' N c')) w') :
    if Region.wanted o (yielded ops a.tmps) = true then Oper.wp P o a w K Q else E := by
  subst hN
  subst hys
  obtain ⟨v', w', happ, hown', hgr, hob⟩ := run_append_sl t ty e k bytes z ht hinfo hzs hk0 v n xs hown u m news hsl hl h1 hbytes hn
  obtain ⟨A', c', rfl, _⟩ := own_sl hown'
  exact step_append_run hgd s x t ty hop hty hs hx happ (h A' c' w' hown' (Frm.ofGrown hgr) hob)
theorem own_blk0 {w : World} {b : Nat} {e : TypeId} (k : Nat) (h : Blk w b #[] e) : w.ownsRow 0 e k (.slice (some ⟨b, 0, none⟩) 0 0) 0 [] :=
  ⟨by simp, .inr ⟨b, 0, #[], rfl, Nat.zero_le _, h, Nat.le_refl _, Nat.zero_le _, by simp, by simp⟩⟩
theorem Frm.ge {F : Nat → Prop} {w W w' : World} (h : Below w.heap.size w W) (f : Frm F W w') (hF : ∀ c, F c → w.heap.size ≤ c) : Below w.heap.size w w' :=
  h.trans ⟨f.os, f.tape, f.output, f.size, fun k hk => f.block k (by have := h.size; omega) (fun hf => by have := hF k hf; omega)⟩

theorem ep_info : (Try.prog.info? 29).map (fun i => (i.zero, i.size, i.bytes)) = some (some (.agg #[.int .i64 0, .int .i64 0, .bool false]), 3, 24) := by kernel_rfl
theorem epsCells_one (t : List Ep) : ∀ x ∈ epsCells t, x.oneCell' = true := by
  intro x hx
  simp only [epsCells, List.mem_flatMap] at hx
  obtain ⟨e, _, he⟩ := hx
  simp only [epCells, List.mem_cons, List.not_mem_nil, or_false] at he
  rcases he with rfl | rfl | rfl <;> rfl
theorem epsCells_length (t : List Ep) : (epsCells t).length = t.length * 3 := flat_length epCells 3 (fun _ => rfl) t

end Go.Proofs.Ytedcdjlpogpgbaa
