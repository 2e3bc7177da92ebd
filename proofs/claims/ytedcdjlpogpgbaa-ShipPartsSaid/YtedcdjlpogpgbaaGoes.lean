/- Layer 19: a log of one session, and what a ship plans of it, with no program in sight. -/
import Derived.Test.YtedcdjlpogpgbaaPlan
set_option linter.unusedVariables false
set_option linter.unusedSimpArgs false
namespace Go.Proofs.Ytedcdjlpogpgbaa
open Go.RowKit

def goE (i : Int) (k : ByteArray) : Ent := ⟨⟨1, i⟩, 1, i, k, false, ⟨#[]⟩⟩
def goesE (f : Nat → ByteArray) (n : Nat) : List Ent := (List.range n).map fun j : Nat => goE ((j : Int) + 1) (f j)
theorem goesE_succ (f : Nat → ByteArray) (n : Nat) : goesE f (n + 1) = goesE f n ++ [goE ((n : Int) + 1) (f n)] := by
  unfold goesE; rw [List.range_succ, List.map_append]; rfl
theorem goesE_length (f : Nat → ByteArray) (n : Nat) : (goesE f n).length = n := by simp [goesE]
theorem goesE_idx (f : Nat → ByteArray) : ∀ n, (posOf (goesE f n)).i = (n : Int)
  | 0 => rfl
  | n + 1 => by rw [goesE_succ, posOf_snoc]; simp [goE]
theorem goesE_seen (f : Nat → ByteArray) : ∀ n, seenOf (goesE f n) = if n = 0 then [] else [sx 1 n]
  | 0 => rfl
  | n + 1 => by
    rw [goesE_succ, seenOf_snoc, goesE_seen f n]
    by_cases h : n = 0
    · subst h; rfl
    · rw [if_neg h, if_neg (by omega)]
      unfold noteIf
      have hl : (look 16 [sx 1 n] (entS (goE ((n : Int) + 1) (f n))).s (entS (goE ((n : Int) + 1) (f n))).r).1 = 1 := look_lt (y := sx 1 n) rfl (by show (n : Int) < (n : Int) + 1; omega)
      rw [if_pos hl]
      rfl
theorem goes_look (f : Nat → ByteArray) (n : Nat) : (look 16 (seenOf (goesE f n)) 1 ((n : Int) + 1)).1 = 1 := by
  rw [goesE_seen]
  by_cases h : n = 0
  · subst h; rfl
  · rw [if_neg h]; exact look_lt (y := sx 1 n) rfl (by show (n : Int) < (n : Int) + 1; omega)
theorem goes_check (f : Nat → ByteArray) (n : Nat) (k : ByteArray) (hn : n < 512) (h8 : 1 ≤ k.size) (h9 : k.size ≤ 64) : checkW (logSt (goesE f n) oneT) (goE ((n : Int) + 1) k) = 0 := by
  rw [logSt_eq]
  refine checkW_ok rfl ?_ ?_ ?_ (show numB 1 = true from by decide) ?_ rfl h8 h9 (by show 0 ≤ 1024; omega) ?_
  · show (n : Int) + 1 = (posOf _).i + 1; rw [goesE_idx]
  · show (n : Int) + 1 ≤ 512; omega
  · exact atB_one (by show 1 ≤ (n : Int) + 1; omega) (by show (n : Int) + 1 ≤ 512; omega)
  · show numB ((n : Int) + 1) = true; unfold numB; simp only [Bool.and_eq_true, decide_eq_true_eq]; omega
  · exact goes_look f n
theorem goes_ok (f : Nat → ByteArray) (n : Nat) (t : List Ep) (hn : n ≤ 512) (ht : rightB t = true) : Ok (logSt (goesE f n) t) := logOk (by rw [goesE_idx, goesE_length]) (by rw [goesE_length]; exact hn) ht
theorem goes_pos (f : Nat → ByteArray) (n : Nat) : (logSt (goesE f n) oneT).pos.i = (n : Int) := by rw [logSt_eq]; exact goesE_idx f n
theorem goes_some (f : Nat → ByteArray) (n m : Nat) (h : m < n) : someE (logSt (goesE f n) oneT) ((m : Int) + 1) 8 = ((goesE f n).drop m).take 8 := by
  unfold someE
  rw [goes_pos, if_neg (by simp [logSt_eq, emptySnap, zeroPos]; omega)]
  have e : ((m : Int) + 1 - (logSt (goesE f n) oneT).base.pos.i - 1).toNat = m := by
    rw [logSt_eq]; show ((m : Int) + 1 - 0 - 1).toNat = m; omega
  rw [e, logSt_eq]; rfl
theorem goes_some_len (f : Nat → ByteArray) (n m : Nat) (h : m < n) : (((goesE f n).drop m).take 8).length = min (n - m) 8 := by simp [goesE_length]; omega
theorem goes_en (f : Nat → ByteArray) (n m i : Nat) (h : i < min (n - m) 8) : en (((goesE f n).drop m).take 8) i = goE (((m + i : Nat) : Int) + 1) (f (m + i)) := by
  unfold en
  have h2 : (((goesE f n).drop m).take 8)[i]? = some (goE (((m + i : Nat) : Int) + 1) (f (m + i))) := by
    rw [List.getElem?_take, if_pos (by omega), List.getElem?_drop]
    unfold goesE
    rw [List.getElem?_map, List.getElem?_range (by omega)]; rfl
  rw [List.getD_eq_getElem?_getD, h2]; rfl

theorem far_put (S : Shp) (n : Int) (x : Far) (h : 1 ≤ n) (h4 : n ≤ 4) : (S.put n x).far n = x := by
  have : n = 1 ∨ n = 2 ∨ n = 3 ∨ n = 4 := by omega
  rcases this with rfl | rfl | rfl | rfl <;> rfl
theorem put_me (S : Shp) (n : Int) (x : Far) : (S.put n x).me = S.me := by unfold Shp.put; split <;> (try split) <;> (try split) <;> rfl
theorem put_cfg (S : Shp) (n : Int) (x : Far) : (S.put n x).cfg = S.cfg := by unfold Shp.put; split <;> (try split) <;> (try split) <;> rfl
/-- A new ship that was told once. -/
theorem told_new (n : Int) (p : Pos) (h2 : 2 ≤ n) (h4 : n ≤ 4) : toldOk (newShip 1) n 1 = true ∧ (toldF (newShip 1) n 1 p).me = 1 ∧ knownF (toldF (newShip 1) n 1 p) n 1 = ⟨true, p⟩ := by
  have ho : otherB 1 n = true := by unfold otherB; simp only [decide_eq_true_eq]; omega
  have hk : toldOk (newShip 1) n 1 = true := by unfold toldOk; rw [show (newShip 1).me = 1 from rfl, ho]; decide
  have hf : toldF (newShip 1) n 1 p = Shp.put { newShip (newShip 1).me with cfg := 1 } n ⟨true, p⟩ := by
    unfold toldF; rw [if_pos hk, if_pos (by decide)]
  refine ⟨hk, by rw [hf, put_me]; rfl, ?_⟩
  unfold knownF
  rw [hf, put_me, put_cfg, far_put _ _ _ (by omega) h4, if_pos ⟨ho, rfl, by decide⟩]
theorem known_new (n : Int) : (knownF (newShip 1) n 1).is = false := by
  unfold knownF; rw [if_neg (by simp [newShip])]; rfl

end Go.Proofs.Ytedcdjlpogpgbaa
