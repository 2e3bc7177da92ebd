/- Layer 19: piece: the i-th eight of a list (printed by piecegen.py). -/
import Derived.Test.YtedcdjlpogpgbaaWords
set_option linter.unusedVariables false
set_option linter.unusedSimpArgs false
namespace Go.Proofs.Ytedcdjlpogpgbaa
open Go.RowKit

def pieceL {α : Type} (l : List α) (i : Nat) : List α := (l.drop (8 * i)).take 8
def RowRes (e : TypeId) (k n : Nat) (cs : List Value) (w : World) (en : Ending) (w' : World) : Prop :=
  ∃ v, en = .returned v ∧ w'.ownsRow 0 e k v n cs ∧ (∀ c, v.ownBlock = some c → w.heap.size ≤ c) ∧ Below w.heap.size w w'

set_option maxRecDepth 100000 in
set_option maxHeartbeats 4000000 in
theorem piece_pair (v : Value) (l : List (ByteArray × Val)) (i : Nat) (w : World) (hv : SlAt w v l.length (pairsCells l)) (hl : l.length ≤ 1000000) (hi : i ≤ 1000000) :
    Calls Try.prog 56 #[v, .int .i64 i] w (RowRes 67 5 (pieceL l i).length (pairsCells (pieceL l i)) w) := by
  obtain ⟨A, c, rfl, hc1, hc2, hc3⟩ := id hv
  obtain ⟨n, hn⟩ : ∃ n, l.length = n := ⟨_, rfl⟩
  rw [hn] at hv hc1 hc3 ⊢
  obtain ⟨f, hf⟩ : ∃ f, f = min (8 * i) n := ⟨_, rfl⟩
  obtain ⟨m, hm⟩ : ∃ m, f + m = min (8 * i + 8) n := ⟨min (8 * i + 8) n - f, by omega⟩
  have hfn : f + m ≤ n := by omega
  have hpl : (pieceL l i).length = m := by unfold pieceL; rw [List.length_take, List.length_drop]; omega
  have hpe : pieceL l i = (l.drop f).take m := by
    unfold pieceL
    by_cases h : 8 * i ≤ n
    · rw [show f = 8 * i by omega, List.take_eq_take_iff, List.length_drop]; omega
    · rw [List.drop_eq_nil_of_le (by omega), List.drop_eq_nil_of_le (by omega)]; simp
  have hsub : SlAt w (.slice (if m = 0 then A else A.map (·.add (f * 5))) m m) m (pairsCells (pieceL l i)) := by
    by_cases h0 : m = 0
    · subst h0
      rw [if_pos rfl, List.eq_nil_of_length_eq_zero hpl]
      exact sl_no (by omega)
    · obtain ⟨b, o, rfl, _, _⟩ := hc3 (by omega)
      rw [if_neg h0, hpe]
      have := sl_part pairCells 5 (fun _ => rfl) (k := f) (m := m) (c' := m) hv (by omega) (Nat.le_refl _) (by omega)
      simp only [Option.map_some, addr_add]
      exact this
  obtain ⟨U, hU⟩ : ∃ U, (if m = 0 then A else A.map (·.add (f * 5))) = U := ⟨_, rfl⟩
  have hrs : ∀ W : World, (Instr.slice 37 (.slice A n c) (some (.int .i64 f)) (some (.int .i64 ((f : Int) + (m : Int)))) (some (.int .i64 ((f : Int) + (m : Int))))).run Try.prog W = .ok (.slice U m m) W := by
    intro W
    rw [show ((f : Int) + (m : Int)) = ((f + m : Nat) : Int) from by omega]
    have a1 : (0 : Int) ≤ (f : Int) ∧ (f : Int) ≤ ((f + m : Nat) : Int) := by omega
    have a2 : (0 : Int) ≤ ((f + m : Nat) : Int) ∧ ((f + m : Nat) : Int) ≤ (c : Int) := by omega
    have a3 : (0 : Int) ≤ ((f + m : Nat) : Int) ∧ ((f + m : Nat) : Int) ≤ ((f + m : Nat) : Int) := by omega
    unfold Instr.slice Instr.sliceBounds Instr.sliceBound asIntOf
    simp only [Sem.run_bind, Sem.run_pure, Result.andThen_ok, run_underlying Try.underlying37, Option.isSome, if_true, if_pos a2, if_pos a3, Int.toNat_natCast, if_pos a1]
    rw [show (sizeOf 67).run Try.prog W = .ok 5 W from by kernel_rfl]
    simp only [Result.andThen_ok, Nat.add_sub_cancel_left]
    rw [← hU]
    by_cases h0 : m = 0
    · rw [if_pos (by omega), if_pos h0]
    · rw [if_neg (by omega), if_neg h0]
  have hm1 : min ((i : Int) * 8) (n : Int) = (f : Int) := by omega
  have hm2 : min (((i : Int) + 1) * 8) (n : Int) = (f : Int) + (m : Int) := by omega
  have q1 : IntKind.i64.wrap ((i : Int) * 8) = (i : Int) * 8 := wrap_small _ (by omega) (by omega)
  have q2 : IntKind.i64.wrap ((i : Int) + 1) = (i : Int) + 1 := wrap_small _ (by omega) (by omega)
  have q3 : IntKind.i64.wrap (((i : Int) + 1) * 8) = ((i : Int) + 1) * 8 := wrap_small _ (by omega) (by omega)
  rw [hU] at hsub
  have HSUB := Lib.hid hsub
  have HPL := Lib.hid hpl
  clear hpe hsub hU hf hm hn hc3 hv hpl
  go_enter Try.func56, Try.ntmps56
  go_upto_region 2 with (fail)
  obtain ⟨v', w3, happ, hown, hgr, hob⟩ := run_append_sl (P := Try.prog) (w := (w.alloc (.cells #[] 67))) 37 37 67 5 56 _ Try.underlying37 pr_info rfl (by omega) (.slice (some ⟨w.heap.size, 0, none⟩) 0 0) 0 [] (own_blk0 5 (Blk.new' rfl rfl)) (.slice U m m) m (pairsCells (pieceL l i)) (HSUB.out.below (by (repeat' (first | with_reducible exact Below.refl _ _ | with_reducible refine below_drewN ?_ _ | with_reducible refine Below.drew ?_ | with_reducible refine Below.setCell ?_ (by first | exact Nat.le_refl _ | (simp; done) | (simp; omega) | omega) _ | with_reducible refine Below.alloc ?_ (by first | exact Nat.le_refl _ | (simp; done) | (simp; omega) | omega) _ | exact Below.refl _ _)))) (by rw [pairsCells_length, HPL.out]) (pairsCells_one _) (by omega) (by unfold maxLen; omega)
  rw [Nat.zero_add] at hown
  obtain ⟨A', ca', hv', _⟩ := own_sl hown
  subst hv'
  have HFR := Lib.hid (Frm.ofGrown hgr)
  have HO := Lib.hid hown
  have HOB := Lib.hid hob
  clear hown hgr hob
  go_wp2_with (refine list_append_run rfl _ _ _ _ rfl rfl (by rfl) (by rfl) happ ?_)
  go_ret
  have hg : ∀ c, (Value.slice A' m ca').ownBlock = some c → w.heap.size ≤ c := by
    intro c hc
    rcases HOB.out with h | h
    · rw [h] at hc; injection hc with hc; rw [← hc]; exact Nat.le_refl _
    · rw [h] at hc; injection hc with hc; rw [← hc]; simp
  exact ⟨.slice A' m ca', rfl, by rw [HPL.out]; simpa using HO.out, hg, Frm.ge (W := w.alloc (.cells #[] 67)) (by (repeat' (first | with_reducible exact Below.refl _ _ | with_reducible refine below_drewN ?_ _ | with_reducible refine Below.drew ?_ | with_reducible refine Below.setCell ?_ (by first | exact Nat.le_refl _ | (simp; done) | (simp; omega) | omega) _ | with_reducible refine Below.alloc ?_ (by first | exact Nat.le_refl _ | (simp; done) | (simp; omega) | omega) _ | exact Below.refl _ _))) HFR.out (by intro c hc; injection hc with hc; rw [← hc]; exact Nat.le_refl _)⟩

set_option maxRecDepth 100000 in
set_option maxHeartbeats 4000000 in
theorem piece_seen (v : Value) (l : List (Sn)) (i : Nat) (w : World) (hv : SlAt w v l.length (snsCells l)) (hl : l.length ≤ 1000000) (hi : i ≤ 1000000) :
    Calls Try.prog 57 #[v, .int .i64 i] w (RowRes 69 4 (pieceL l i).length (snsCells (pieceL l i)) w) := by
  obtain ⟨A, c, rfl, hc1, hc2, hc3⟩ := id hv
  obtain ⟨n, hn⟩ : ∃ n, l.length = n := ⟨_, rfl⟩
  rw [hn] at hv hc1 hc3 ⊢
  obtain ⟨f, hf⟩ : ∃ f, f = min (8 * i) n := ⟨_, rfl⟩
  obtain ⟨m, hm⟩ : ∃ m, f + m = min (8 * i + 8) n := ⟨min (8 * i + 8) n - f, by omega⟩
  have hfn : f + m ≤ n := by omega
  have hpl : (pieceL l i).length = m := by unfold pieceL; rw [List.length_take, List.length_drop]; omega
  have hpe : pieceL l i = (l.drop f).take m := by
    unfold pieceL
    by_cases h : 8 * i ≤ n
    · rw [show f = 8 * i by omega, List.take_eq_take_iff, List.length_drop]; omega
    · rw [List.drop_eq_nil_of_le (by omega), List.drop_eq_nil_of_le (by omega)]; simp
  have hsub : SlAt w (.slice (if m = 0 then A else A.map (·.add (f * 4))) m m) m (snsCells (pieceL l i)) := by
    by_cases h0 : m = 0
    · subst h0
      rw [if_pos rfl, List.eq_nil_of_length_eq_zero hpl]
      exact sl_no (by omega)
    · obtain ⟨b, o, rfl, _, _⟩ := hc3 (by omega)
      rw [if_neg h0, hpe]
      have := sl_part snCells 4 (fun _ => rfl) (k := f) (m := m) (c' := m) hv (by omega) (Nat.le_refl _) (by omega)
      simp only [Option.map_some, addr_add]
      exact this
  obtain ⟨U, hU⟩ : ∃ U, (if m = 0 then A else A.map (·.add (f * 4))) = U := ⟨_, rfl⟩
  have hrs : ∀ W : World, (Instr.slice 38 (.slice A n c) (some (.int .i64 f)) (some (.int .i64 ((f : Int) + (m : Int)))) (some (.int .i64 ((f : Int) + (m : Int))))).run Try.prog W = .ok (.slice U m m) W := by
    intro W
    rw [show ((f : Int) + (m : Int)) = ((f + m : Nat) : Int) from by omega]
    have a1 : (0 : Int) ≤ (f : Int) ∧ (f : Int) ≤ ((f + m : Nat) : Int) := by omega
    have a2 : (0 : Int) ≤ ((f + m : Nat) : Int) ∧ ((f + m : Nat) : Int) ≤ (c : Int) := by omega
    have a3 : (0 : Int) ≤ ((f + m : Nat) : Int) ∧ ((f + m : Nat) : Int) ≤ ((f + m : Nat) : Int) := by omega
    unfold Instr.slice Instr.sliceBounds Instr.sliceBound asIntOf
    simp only [Sem.run_bind, Sem.run_pure, Result.andThen_ok, run_underlying Try.underlying38, Option.isSome, if_true, if_pos a2, if_pos a3, Int.toNat_natCast, if_pos a1]
    rw [show (sizeOf 69).run Try.prog W = .ok 4 W from by kernel_rfl]
    simp only [Result.andThen_ok, Nat.add_sub_cancel_left]
    rw [← hU]
    by_cases h0 : m = 0
    · rw [if_pos (by omega), if_pos h0]
    · rw [if_neg (by omega), if_neg h0]
  have hm1 : min ((i : Int) * 8) (n : Int) = (f : Int) := by omega
  have hm2 : min (((i : Int) + 1) * 8) (n : Int) = (f : Int) + (m : Int) := by omega
  have q1 : IntKind.i64.wrap ((i : Int) * 8) = (i : Int) * 8 := wrap_small _ (by omega) (by omega)
  have q2 : IntKind.i64.wrap ((i : Int) + 1) = (i : Int) + 1 := wrap_small _ (by omega) (by omega)
  have q3 : IntKind.i64.wrap (((i : Int) + 1) * 8) = ((i : Int) + 1) * 8 := wrap_small _ (by omega) (by omega)
  rw [hU] at hsub
  have HSUB := Lib.hid hsub
  have HPL := Lib.hid hpl
  clear hpe hsub hU hf hm hn hc3 hv hpl
  go_enter Try.func57, Try.ntmps57
  go_upto_region 2 with (fail)
  obtain ⟨v', w3, happ, hown, hgr, hob⟩ := run_append_sl (P := Try.prog) (w := (w.alloc (.cells #[] 69))) 38 38 69 4 32 _ Try.underlying38 se_info rfl (by omega) (.slice (some ⟨w.heap.size, 0, none⟩) 0 0) 0 [] (own_blk0 4 (Blk.new' rfl rfl)) (.slice U m m) m (snsCells (pieceL l i)) (HSUB.out.below (by (repeat' (first | with_reducible exact Below.refl _ _ | with_reducible refine below_drewN ?_ _ | with_reducible refine Below.drew ?_ | with_reducible refine Below.setCell ?_ (by first | exact Nat.le_refl _ | (simp; done) | (simp; omega) | omega) _ | with_reducible refine Below.alloc ?_ (by first | exact Nat.le_refl _ | (simp; done) | (simp; omega) | omega) _ | exact Below.refl _ _)))) (by rw [snsCells_length, HPL.out]) (snsCells_one _) (by omega) (by unfold maxLen; omega)
  rw [Nat.zero_add] at hown
  obtain ⟨A', ca', hv', _⟩ := own_sl hown
  subst hv'
  have HFR := Lib.hid (Frm.ofGrown hgr)
  have HO := Lib.hid hown
  have HOB := Lib.hid hob
  clear hown hgr hob
  go_wp2_with (refine list_append_run rfl _ _ _ _ rfl rfl (by rfl) (by rfl) happ ?_)
  go_ret
  have hg : ∀ c, (Value.slice A' m ca').ownBlock = some c → w.heap.size ≤ c := by
    intro c hc
    rcases HOB.out with h | h
    · rw [h] at hc; injection hc with hc; rw [← hc]; exact Nat.le_refl _
    · rw [h] at hc; injection hc with hc; rw [← hc]; simp
  exact ⟨.slice A' m ca', rfl, by rw [HPL.out]; simpa using HO.out, hg, Frm.ge (W := w.alloc (.cells #[] 69)) (by (repeat' (first | with_reducible exact Below.refl _ _ | with_reducible refine below_drewN ?_ _ | with_reducible refine Below.drew ?_ | with_reducible refine Below.setCell ?_ (by first | exact Nat.le_refl _ | (simp; done) | (simp; omega) | omega) _ | with_reducible refine Below.alloc ?_ (by first | exact Nat.le_refl _ | (simp; done) | (simp; omega) | omega) _ | exact Below.refl _ _))) HFR.out (by intro c hc; injection hc with hc; rw [← hc]; exact Nat.le_refl _)⟩

end Go.Proofs.Ytedcdjlpogpgbaa
