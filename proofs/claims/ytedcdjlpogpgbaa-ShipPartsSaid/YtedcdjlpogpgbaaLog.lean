/- Layer 15: logs of one epoch, with no program in sight. -/
import Derived.Test.YtedcdjlpogpgbaaAdopt
set_option linter.unusedVariables false
set_option linter.unusedSimpArgs false
namespace Go.Proofs.Ytedcdjlpogpgbaa
open Go.RowKit

def bare (E : List Ent) (t : List Ep) : St := ⟨zeroPos, [], [], t, emptySnap, E, false⟩
/-- The state that a log of entries comes to. -/
def logSt (E : List Ent) (t : List Ep) : St := (bare E t).refold
def keysOf (E : List Ent) : List (ByteArray × Val) := E.foldl (fun l x => ins x.k (entV x) l) []
def seenOf (E : List Ent) : List Sn := E.foldl (fun l x => noteIf l (entS x)) []
def posOf (E : List Ent) : Pos := E.foldl (fun _ x => x.pos) zeroPos
theorem foldl_put (E : List Ent) : ∀ s : St, E.foldl St.put s = ⟨E.foldl (fun _ x => x.pos) s.pos, E.foldl (fun l x => ins x.k (entV x) l) s.keys, E.foldl (fun l x => noteIf l (entS x)) s.seen, s.table, s.base, s.ents, s.closed⟩ := by
  induction E with
  | nil => intro s; rfl
  | cons x E ih => intro s; rw [List.foldl_cons, ih]; rfl
theorem logSt_eq (E : List Ent) (t : List Ep) : logSt E t = ⟨posOf E, keysOf E, seenOf E, t, emptySnap, E, false⟩ := by
  unfold logSt St.refold
  rw [foldl_put]; rfl
theorem logSt_nil (t : List Ep) : logSt [] t = ⟨zeroPos, [], [], t, emptySnap, [], false⟩ := rfl
theorem posOf_snoc (E : List Ent) (x : Ent) : posOf (E ++ [x]) = x.pos := by unfold posOf; rw [List.foldl_append]; rfl
theorem keysOf_snoc (E : List Ent) (x : Ent) : keysOf (E ++ [x]) = ins x.k (entV x) (keysOf E) := by unfold keysOf; rw [List.foldl_append]; rfl
theorem seenOf_snoc (E : List Ent) (x : Ent) : seenOf (E ++ [x]) = noteIf (seenOf E) (entS x) := by unfold seenOf; rw [List.foldl_append]; rfl
theorem logSt_snoc (E : List Ent) (t : List Ep) (x : Ent) : St.put { logSt E t with ents := (logSt E t).ents ++ [x] } x = logSt (E ++ [x]) t := by
  rw [logSt_eq, logSt_eq, posOf_snoc, keysOf_snoc, seenOf_snoc]; rfl
theorem adopt_log (E : List Ent) (t : List Ep) (e : Ep) (h : 0 ≤ e.c) : adoptF (logSt E t) e = if (posOf E).i ≤ e.c then logSt E (t ++ [e]) else logSt (E.take e.c.toNat) (t ++ [e]) := by
  unfold adoptF
  rw [logSt_eq]
  by_cases h1 : (posOf E).i ≤ e.c
  · rw [if_pos h1, if_pos h1, logSt_eq]
  · rw [if_neg h1, if_neg h1, if_pos (show emptySnap.pos.i ≤ e.c from h)]
    show St.refold _ = St.refold _
    rw [show e.c - (emptySnap).pos.i = e.c from Int.sub_zero _]
    rfl
theorem logOk {E : List Ent} {t : List Ep} (hp : (posOf E).i = E.length) (hl : E.length ≤ 512) (ht : rightB t = true) : Ok (logSt E t) := by
  rw [logSt_eq]
  refine ⟨⟨List.Pairwise.nil, List.Pairwise.nil, by simp [emptySnap], by simp [emptySnap]⟩, ?_, by simp [emptySnap, zeroPos], ?_, ht⟩
  · simp only [emptySnap, zeroPos, hp]; omega
  · simp only [hp]; omega

def oneT : List Ep := [⟨1, 0, false⟩]
theorem oneT_right : rightB oneT = true := by decide
theorem atB_one {i : Int} (h1 : 1 ≤ i) (h2 : i ≤ 512) : atB oneT i = ⟨1, i⟩ := by
  unfold atB
  rw [if_pos ⟨oneT_right, h1, h2⟩]
  simp [oneT, atGo, ep, show (0 : Int) < i by omega]
def twoT (c : Int) (f : Bool) : List Ep := oneT ++ [⟨2, c, f⟩]
theorem twoT_right {c : Int} (f : Bool) (h1 : 0 ≤ c) (h2 : c ≤ 512) : rightB (twoT c f) = true := by
  simp [rightB, twoT, oneT, ep, okEp, h1, h2]
theorem atB_two {c i : Int} (f : Bool) (h0 : 0 ≤ c) (h1 : c < i) (h2 : i ≤ 512) : atB (twoT c f) i = ⟨2, i⟩ := by
  unfold atB
  rw [if_pos ⟨twoT_right f h0 (by omega), by omega, h2⟩]
  simp [twoT, oneT, atGo, ep, h1]

/-- The i-th entry of a log of one epoch. -/
def simpleE (i : Int) (k t : ByteArray) : Ent := ⟨⟨1, i⟩, 1 + i.tmod 3, i, k, false, t⟩
def logE (f g : Nat → ByteArray) (n : Nat) : List Ent := (List.range n).map fun j : Nat => simpleE ((j : Int) + 1) (f j) (g j)
theorem logE_succ (f g : Nat → ByteArray) (n : Nat) : logE f g (n + 1) = logE f g n ++ [simpleE ((n : Int) + 1) (f n) (g n)] := by
  unfold logE; rw [List.range_succ, List.map_append]; rfl
theorem logE_length (f g : Nat → ByteArray) (n : Nat) : (logE f g n).length = n := by simp [logE]
theorem logE_take (f g : Nat → ByteArray) (n c : Nat) (h : c ≤ n) : (logE f g n).take c = logE f g c := by
  unfold logE; rw [← List.map_take, List.take_range, Nat.min_eq_left h]
theorem logE_pos (f g : Nat → ByteArray) : ∀ n, posOf (logE f g n) = if n = 0 then zeroPos else ⟨1, n⟩
  | 0 => rfl
  | n + 1 => by rw [logE_succ, posOf_snoc, if_neg (by omega)]; simp [simpleE]
theorem logE_idx (f g : Nat → ByteArray) (n : Nat) : (posOf (logE f g n)).i = (n : Int) := by
  rw [logE_pos]; split
  · rename_i h; subst h; rfl
  · rfl

def sx (s r : Int) : Sn := ⟨s, r, ⟨1, r⟩⟩
def seenN (n : Nat) : List Sn :=
  if n = 0 then [] else if n = 1 then [sx 2 1] else if n = 2 then [sx 2 1, sx 3 2]
  else [sx 2 ((n : Int) - ((n : Int) + 2) % 3), sx 3 ((n : Int) - ((n : Int) + 1) % 3), sx 1 ((n : Int) - (n : Int) % 3)]
theorem tmod3 (n : Nat) : ((n : Int) + 1).tmod 3 = ((n : Int) + 1) % 3 := Int.tmod_eq_emod_of_nonneg (by omega)
theorem look_lt {l : List Sn} {s r : Int} {y : Sn} (h : l.find? (fun x => x.s == s) = some y) (hr : y.r < r) : (look 16 l s r).1 = 1 := by
  unfold look; rw [h]; show (if y.r < r then _ else _ : Int × Pos).1 = 1; rw [if_pos hr]
theorem look_no {l : List Sn} {s r : Int} (h : l.find? (fun x => x.s == s) = none) (hr : l.length < 16) : (look 16 l s r).1 = 1 := by
  unfold look; rw [h]; show (if (16 : Int) ≤ l.length then _ else _ : Int × Pos).1 = 1; rw [if_neg (by omega)]
theorem look_big (n : Nat) (s : Int) (r : Int) (hr : (n : Int) < r) : (look 16 (seenN n) s r).1 = 1 := by
  unfold seenN
  by_cases h0 : n = 0
  · rw [if_pos h0]; exact look_no rfl (by simp)
  rw [if_neg h0]
  by_cases h1 : n = 1
  · rw [if_pos h1]
    by_cases e2 : (2 : Int) = s
    · exact look_lt (y := sx 2 1) (by subst e2; rfl) (by show (1 : Int) < r; omega)
    · exact look_no (by simp [sx, e2]) (by simp)
  rw [if_neg h1]
  by_cases h2 : n = 2
  · rw [if_pos h2]
    by_cases e2 : (2 : Int) = s
    · exact look_lt (y := sx 2 1) (by subst e2; rfl) (by show (1 : Int) < r; omega)
    by_cases e3 : (3 : Int) = s
    · exact look_lt (y := sx 3 2) (by subst e3; rfl) (by show (2 : Int) < r; omega)
    · exact look_no (by simp [sx, e2, e3]) (by simp)
  rw [if_neg h2]
  by_cases e2 : (2 : Int) = s
  · exact look_lt (y := sx 2 ((n : Int) - ((n : Int) + 2) % 3)) (by subst e2; rfl) (by show (n : Int) - ((n : Int) + 2) % 3 < r; omega)
  by_cases e3 : (3 : Int) = s
  · exact look_lt (y := sx 3 ((n : Int) - ((n : Int) + 1) % 3)) (by subst e3; rfl) (by show (n : Int) - ((n : Int) + 1) % 3 < r; omega)
  by_cases e1 : (1 : Int) = s
  · exact look_lt (y := sx 1 ((n : Int) - (n : Int) % 3)) (by subst e1; rfl) (by show (n : Int) - (n : Int) % 3 < r; omega)
  · exact look_no (by simp [sx, e2, e3, e1]) (by simp)
theorem look_next (n : Nat) : (look 16 (seenN n) (1 + ((n : Int) + 1).tmod 3) ((n : Int) + 1)).1 = 1 := look_big n _ _ (by omega)
theorem note_there {x y : Sn} {l : List Sn} (h : l.find? (fun y => y.s == x.s) = some y) : note x l = l.map (fun y => if (y.s == x.s) = true then x else y) := by
  unfold note; rw [h]; rfl
theorem note_next (n : Nat) : noteIf (seenN n) (sx (1 + ((n : Int) + 1).tmod 3) ((n : Int) + 1)) = seenN (n + 1) := by
  unfold noteIf
  rw [if_pos (show (look 16 (seenN n) (sx (1 + ((n : Int) + 1).tmod 3) ((n : Int) + 1)).s (sx (1 + ((n : Int) + 1).tmod 3) ((n : Int) + 1)).r).1 = 1 from look_next n), tmod3]
  by_cases h0 : n = 0
  · subst h0; rfl
  by_cases h1 : n = 1
  · subst h1; rfl
  by_cases h2 : n = 2
  · subst h2; rfl
  unfold seenN
  rw [if_neg h0, if_neg h1, if_neg h2, if_neg (by omega), if_neg (by omega), if_neg (by omega)]
  have e : ((n : Int) + 1) % 3 = 1 ∨ ((n : Int) + 1) % 3 = 2 ∨ ((n : Int) + 1) % 3 = 0 := by omega
  rcases e with e | e | e
  · rw [e, note_there (x := sx (1 + 1) ((n : Int) + 1)) (y := sx 2 ((n : Int) - ((n : Int) + 2) % 3)) rfl]
    show [sx 2 _, sx 3 _, sx 1 _] = _
    simp only [List.cons.injEq, and_true, sx, Sn.mk.injEq, Pos.mk.injEq, true_and]
    omega
  · rw [e, note_there (x := sx (1 + 2) ((n : Int) + 1)) (y := sx 3 ((n : Int) - 2)) rfl]
    show [sx 2 _, sx 3 _, sx 1 _] = _
    simp only [List.cons.injEq, and_true, sx, Sn.mk.injEq, Pos.mk.injEq, true_and]
    omega
  · rw [e, note_there (x := sx (1 + 0) ((n : Int) + 1)) (y := sx 1 ((n : Int) - (n : Int) % 3)) rfl]
    show [sx 2 _, sx 3 _, sx 1 _] = _
    simp only [List.cons.injEq, and_true, sx, Sn.mk.injEq, Pos.mk.injEq, true_and]
    omega
theorem logE_seen (f g : Nat → ByteArray) : ∀ n, seenOf (logE f g n) = seenN n
  | 0 => rfl
  | n + 1 => by rw [logE_succ, seenOf_snoc, logE_seen f g n]; exact note_next n

/-- What a log's keys have. -/
theorem logE_keys (f g : Nat → ByteArray) : ∀ n, (∀ j, j < n → ∃ m, j ≤ m ∧ m < n ∧ f m = f j ∧ getL (f j) (keysOf (logE f g n)) = some ⟨⟨1, (m : Int) + 1⟩, true, g m⟩)
  | 0 => fun j hj => absurd hj (by omega)
  | n + 1 => fun j hj => by
    rw [logE_succ, keysOf_snoc]
    by_cases hk : f n = f j
    · refine ⟨n, by omega, by omega, hk, ?_⟩
      show getL (f j) (ins (f n) _ _) = _
      rw [hk, getL_ins_same]; rfl
    · have hjn : j < n := by
        rcases Nat.lt_or_ge j n with h | h
        · exact h
        · exact absurd (by rw [show j = n by omega]) hk
      obtain ⟨m, h1, h2, h3, h4⟩ := logE_keys f g n j hjn
      refine ⟨m, h1, by omega, h3, ?_⟩
      show getL (f j) (ins (f n) _ _) = _
      rw [getL_ins_other (fun e => hk e.symm)]; exact h4
theorem logE_low (f g : Nat → ByteArray) (k : ByteArray) : ∀ n, ((getL k (keysOf (logE f g n))).getD zeroVal).pos.i ≤ (n : Int)
  | 0 => by simp [logE, keysOf, getL, zeroVal, zeroPos]
  | n + 1 => by
    rw [logE_succ, keysOf_snoc]
    by_cases hk : k = f n
    · subst hk
      show ((getL (f n) (ins (f n) _ _)).getD zeroVal).pos.i ≤ _
      rw [getL_ins_same]; simp [entV, simpleE]
    · show ((getL k (ins (f n) _ _)).getD zeroVal).pos.i ≤ _
      rw [getL_ins_other hk]
      have := logE_low f g k n
      omega

theorem checkW_ok {s : St} {x : Ent} (h1 : s.closed = false) (h2 : x.pos.i = s.pos.i + 1) (h3 : x.pos.i ≤ 512) (h4 : atB s.table x.pos.i = x.pos) (h5 : numB x.s = true) (h6 : numB x.r = true) (h7 : x.d = false) (h8 : 1 ≤ x.k.size) (h9 : x.k.size ≤ 64) (h10 : x.t.size ≤ 1024) (h11 : (look 16 s.seen x.s x.r).1 = 1) : checkW s x = 0 := by
  unfold checkW
  rw [if_neg (by simp [h1]), if_neg (by omega), if_neg (by omega), if_neg (by rw [h4]; simp), if_neg (by simp [h5, h6, h7]), if_neg (by omega), if_neg (by omega), if_neg (by omega)]
theorem checkW_simple (f g : Nat → ByteArray) (n : Nat) (k t : ByteArray) (hn : n < 512) (h8 : 1 ≤ k.size) (h9 : k.size ≤ 64) (h10 : t.size ≤ 1024) : checkW (logSt (logE f g n) oneT) (simpleE ((n : Int) + 1) k t) = 0 := by
  rw [logSt_eq]
  have hm := tmod3 n
  refine checkW_ok rfl ?_ ?_ ?_ ?_ ?_ rfl h8 h9 h10 ?_
  · show (n : Int) + 1 = (posOf _).i + 1; rw [logE_idx]
  · show (n : Int) + 1 ≤ 512; omega
  · exact atB_one (by show 1 ≤ (n : Int) + 1; omega) (by show (n : Int) + 1 ≤ 512; omega)
  · have e1 : (simpleE ((n : Int) + 1) k t).s = 1 + ((n : Int) + 1) % 3 := by rw [← hm]; rfl
    have g := Int.emod_nonneg ((n : Int) + 1) (show (3 : Int) ≠ 0 by decide)
    have g2 := Int.emod_lt_of_pos ((n : Int) + 1) (show (0 : Int) < 3 by decide)
    unfold numB; rw [e1]; simp only [Bool.and_eq_true, decide_eq_true_eq]; omega
  · show numB ((n : Int) + 1) = true; unfold numB; simp only [Bool.and_eq_true, decide_eq_true_eq]; omega
  · rw [logE_seen]; exact look_next n
theorem log_ok (f g : Nat → ByteArray) (n : Nat) (t : List Ep) (hn : n ≤ 512) (ht : rightB t = true) : Ok (logSt (logE f g n) t) := logOk (by rw [logE_idx, logE_length]) (by rw [logE_length]; exact hn) ht

end Go.Proofs.Ytedcdjlpogpgbaa
