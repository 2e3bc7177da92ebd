/- What a log of one epoch tells, with no program in sight. -/
import Derived.Test.YtedcdjlpogpgbaaEntries
set_option linter.unusedVariables false
set_option linter.unusedSimpArgs false
namespace Go.Proofs.Ytedcdjlpogpgbaa
open Go.RowKit

theorem en_log (f g : Nat → ByteArray) (n i : Nat) (h : i < n) : en (logE f g n) i = simpleE ((i : Int) + 1) (f i) (g i) := by
  unfold en logE
  rw [List.getD_eq_getElem?_getD, List.getElem?_map, List.getElem?_range h]
  rfl
theorem some_all (f g : Nat → ByteArray) (n : Nat) : someE (logSt (logE f g n) oneT) 1 (n : Int) = logE f g n := by
  unfold someE
  rw [logSt_eq]
  show (if (1 : Int) ≤ 0 ∨ (posOf (logE f g n)).i < 1 ∨ (n : Int) < 1 then [] else ((logE f g n).drop (1 - 0 - 1 : Int).toNat).take (n : Int).toNat) = _
  rw [logE_idx]
  by_cases h : n = 0
  · subst h; rfl
  · rw [if_neg (by omega), show ((1 - 0 - 1 : Int).toNat) = 0 from rfl, List.drop_zero, Int.toNat_natCast, List.take_of_length_le (by rw [logE_length]; exact Nat.le_refl _)]
theorem some_cases (f g : Nat → ByteArray) (n : Nat) (a m : Int) : someE (logSt (logE f g n) oneT) a m = if a ≤ 0 ∨ (n : Int) < a ∨ m < 1 then [] else ((logE f g n).drop (a - 1).toNat).take m.toNat := by
  unfold someE
  rw [logSt_eq]
  show (if a ≤ 0 ∨ (posOf (logE f g n)).i < a ∨ m < 1 then [] else ((logE f g n).drop (a - 0 - 1).toNat).take m.toNat) = _
  rw [logE_idx, Int.sub_zero]
theorem some_len (f g : Nat → ByteArray) (n : Nat) (a m : Int) : ((someE (logSt (logE f g n) oneT) a m).length : Int) = if a ≤ 0 ∨ (n : Int) < a ∨ m < 1 then 0 else min m ((n : Int) - a + 1) := by
  rw [some_cases]
  split
  · rfl
  · rw [List.length_take, List.length_drop, logE_length]; omega
theorem some_get (f g : Nat → ByteArray) (n : Nat) (a m : Int) (i : Nat) (h : i < (someE (logSt (logE f g n) oneT) a m).length) : 1 ≤ a ∧ (a - 1).toNat + i < n ∧ en (someE (logSt (logE f g n) oneT) a m) i = en (logE f g n) ((a - 1).toNat + i) := by
  rw [some_cases] at h ⊢
  split at h
  · simp at h
  · rename_i hn
    rw [List.length_take, List.length_drop, logE_length] at h
    rw [if_neg hn]
    refine ⟨by omega, by omega, ?_⟩
    unfold en
    rw [List.getD_eq_getElem?_getD, List.getD_eq_getElem?_getD, List.getElem?_take_of_lt (by omega), List.getElem?_drop]
theorem look_at {l : List Sn} {s r : Int} {y : Sn} (h : l.find? (fun x => x.s == s) = some y) (hr : y.r = r) : look 16 l s r = (2, y.pos) := by
  unfold look; rw [h]; show (if y.r < r then _ else if r < y.r then _ else _ : Int × Pos) = _; rw [if_neg (by omega), if_neg (by omega)]
theorem look_gt {l : List Sn} {s r : Int} {y : Sn} (h : l.find? (fun x => x.s == s) = some y) (hr : r < y.r) : look 16 l s r = (3, zeroPos) := by
  unfold look; rw [h]; show (if y.r < r then _ else if r < y.r then _ else _ : Int × Pos) = _; rw [if_neg (by omega), if_pos hr]
theorem seen_find (n i : Nat) (h : i < n) : ∃ q : Nat, (seenN n).find? (fun x => x.s == 1 + ((i : Int) + 1) % 3) = some (sx (1 + ((i : Int) + 1) % 3) q) ∧ q = n - (n - (i + 1)) % 3 := by
  refine ⟨_, ?_, rfl⟩
  unfold seenN
  rw [if_neg (by omega)]
  by_cases h1 : n = 1
  · have : i = 0 := by omega
    subst h1; subst this; rfl
  rw [if_neg h1]
  by_cases h2 : n = 2
  · have : i = 0 ∨ i = 1 := by omega
    subst h2
    rcases this with rfl | rfl <;> rfl
  rw [if_neg h2]
  have e : ((i : Int) + 1) % 3 = 1 ∨ ((i : Int) + 1) % 3 = 2 ∨ ((i : Int) + 1) % 3 = 0 := by omega
  rcases e with e | e | e
  · rw [e]; show some (sx 2 _) = some (sx 2 _); congr 2; omega
  · rw [e]; show some (sx 3 _) = some (sx 3 _); congr 2; omega
  · rw [e]; show some (sx 1 _) = some (sx 1 _); congr 2; omega
/-- What Look tells of the i-th request. -/
theorem look_log (f g : Nat → ByteArray) (n i : Nat) (h : i < n) : look 16 (logSt (logE f g n) oneT).seen (1 + ((i : Int) + 1) % 3) ((i : Int) + 1) = if n ≤ i + 3 then (2, ⟨1, (i : Int) + 1⟩) else (3, zeroPos) := by
  rw [logSt_eq]
  show look 16 (seenOf (logE f g n)) _ _ = _
  rw [logE_seen]
  obtain ⟨q, hq, hqe⟩ := seen_find n i h
  by_cases hc : n ≤ i + 3
  · rw [if_pos hc, look_at hq (by show (q : Int) = _; omega)]
    show (2, (⟨1, (q : Int)⟩ : Pos)) = _
    rw [show (q : Int) = (i : Int) + 1 by omega]
  · rw [if_neg hc, look_gt hq (by show _ < (q : Int); omega)]
theorem get_log (f : Nat → ByteArray) (n i : Nat) (h : i < n) : ∃ m, i ≤ m ∧ m < n ∧ f m = f i ∧ (getL (f i) (logSt (logE f f n) oneT).keys).getD zeroVal = ⟨⟨1, (m : Int) + 1⟩, true, f i⟩ := by
  obtain ⟨m, h1, h2, h3, h4⟩ := logE_keys f f n i h
  refine ⟨m, h1, h2, h3, ?_⟩
  rw [logSt_eq]
  show (getL (f i) (keysOf (logE f f n))).getD zeroVal = _
  rw [h4, h3]; rfl

theorem eqIn_ent (pe pi s r : Int) (k t : ByteArray) (d : Bool) (n : Nat) (w : World) : (Op.equalIn (n + 3) 35 (.agg #[.int .i64 pe, .int .i64 pi, .int .i64 s, .int .i64 r, .string k, .bool d, .string t]) (.agg #[.int .i64 pe, .int .i64 pi, .int .i64 s, .int .i64 r, .string k, .bool d, .string t])).run Try.prog w = .ok true w := by
  rw [run_equalIn_struct w (n + 2) 35 _ _ (by kernel_rfl) (by kernel_rfl)]
  simp [go_sem, eqIn_pos, posEq]
theorem neq_ent (pe pi s r : Int) (k t : ByteArray) (d : Bool) (w : World) : (binOp .neq 35 (.agg #[.int .i64 pe, .int .i64 pi, .int .i64 s, .int .i64 r, .string k, .bool d, .string t]) (.agg #[.int .i64 pe, .int .i64 pi, .int .i64 s, .int .i64 r, .string k, .bool d, .string t])).run Try.prog w = .ok (.bool false) w := by
  rw [run_neq_struct, show (10000 : Nat) = 9997 + 3 from rfl, eqIn_ent]; rfl

/-- An entry in memory. -/
def EntAt (w : World) (b o : Nat) (x : Ent) : Prop :=
  w.cell? ⟨b, o, none⟩ = some (.int .i64 x.pos.e) ∧ w.cell? ⟨b, o + 1, none⟩ = some (.int .i64 x.pos.i) ∧ w.cell? ⟨b, o + 2, none⟩ = some (.int .i64 x.s) ∧ w.cell? ⟨b, o + 3, none⟩ = some (.int .i64 x.r) ∧ w.cell? ⟨b, o + 4, none⟩ = some (.string x.k) ∧ w.cell? ⟨b, o + 5, none⟩ = some (.bool x.d) ∧ w.cell? ⟨b, o + 6, none⟩ = some (.string x.t)
theorem ents_cells {W0 : World} {A : Option Addr} {n c : Nat} {l : List Ent} (h : SlAt W0 (.slice A n c) n (entsCells l)) (hl : l.length = n) (hn : 0 < n) :
    ∃ eb eo, A = some ⟨eb, eo, none⟩ ∧ eb < W0.heap.size ∧ ∀ W, Below W0.heap.size W0 W → ∀ i, i < n → EntAt W eb (eo + i * 7) (en l i) := by
  subst hl
  obtain ⟨b, o, c', hv, _, _, hb, _⟩ := ens_at h hn
  injection hv with hA _ hc
  subst hA; subst hc
  refine ⟨b, o, rfl, hb, fun W hW i hi => ?_⟩
  obtain ⟨b2, o2, c2, hv2, _, _, hb2, hc2⟩ := ens_at (h.below hW) hn
  injection hv2 with hA2 _ _
  injection hA2 with hA2
  injection hA2 with e1 e2
  subst e1; subst e2
  exact hc2 i hi

end Go.Proofs.Ytedcdjlpogpgbaa
