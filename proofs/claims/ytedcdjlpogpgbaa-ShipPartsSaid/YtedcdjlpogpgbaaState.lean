/- Layer 15: the state in memory and as plain data; blank, New, number. -/
import Derived.Test.YtedcdjlpogpgbaaSlice
import Derived.Test.YtedcdjlpogpgbaaMap
set_option linter.unusedVariables false
set_option linter.unusedSimpArgs false
namespace Go.Proofs.Ytedcdjlpogpgbaa
open Go.RowKit

theorem fold_agg (w : World) : (isAgg 91).run Try.prog w = .ok true w := by kernel_rfl
theorem fold_size (w : World) : (sizeOf 91).run Try.prog w = .ok 4 w := by kernel_rfl

set_option maxHeartbeats 2000000 in
theorem New_tab (lim : Int) (w : World) : Calls Try.prog 69 #[.int .i64 lim] w fun e w' => e = .returned (.pointer (some ⟨w.heap.size + 1, 0, none⟩)) ∧ w' = (w.alloc (.map #[] 0)).alloc (.cells #[.int .i64 lim, .map (some w.heap.size)] 141) := by
  have hmm := @run_makeMap Try.prog
  go_enter Try.func69, Try.ntmps69
  go_wp2_with fail
  go_ret
  exact ⟨rfl, rfl⟩

/-- What a fold's two pointers lead to. -/
structure FoldAt (w : World) (kb sb mb : Nat) (t : T) (l : List Sn) : Prop where
  keys : MapAt w kb t
  seen : TabAt w sb mb 16 l
def foldVal (p : Pos) (kb sb : Nat) : Array Value := #[.int .i64 p.e, .int .i64 p.i, .pointer (some ⟨kb, 0, none⟩), .pointer (some ⟨sb, 0, none⟩)]
def BlankRes (w : World) (e : Ending) (w' : World) : Prop :=
  ∃ kb sb mb, e = .returned (.agg (foldVal zeroPos kb sb)) ∧ FoldAt w' kb sb mb .nil [] ∧ w.heap.size ≤ kb ∧ w.heap.size ≤ sb ∧ w.heap.size ≤ mb ∧ Below w.heap.size w w'

set_option maxHeartbeats 2000000 in
theorem blank_any (w : World) : Calls Try.prog 45 #[] w (BlankRes w) := by
  go_enter Try.func45, Try.ntmps45
  go_wp2_with fail
  refine (new_map _).mono ?_
  rintro e w1 ⟨rfl, rfl⟩
  go_wp2_with fail
  refine (New_tab _ _).mono ?_
  rintro e w1 ⟨rfl, rfl⟩
  go_wp2_with fail
  refine ret_cell rfl rfl (loads_blk (T := 91) (cs := foldVal zeroPos (w.heap.size + 1) (w.heap.size + 3)) fold_agg fold_size ?_ rfl) rfl ⟨w.heap.size + 1, w.heap.size + 3, w.heap.size + 2, rfl, ⟨?_, ?_⟩, by omega, by omega, by omega, ?_⟩
  · ((repeat' (first | with_reducible exact Blk.new _ _ _ | with_reducible apply Blk.drewN | with_reducible apply Blk.drew | with_reducible apply Blk.set' | (with_reducible apply Blk.set_other (hp := by first | assumption | (simp; done) | (simp; omega) | omega)) | (with_reducible apply Blk.new'; focus (first | (simp; done) | (simp; omega))) | with_reducible apply Blk.alloc)) <;> rfl)
  · refine ⟨⟨0, ?_⟩, trivial, List.nodup_nil, by simp [T.blocks], by simp [Up, T.list]⟩
    unfold MapT
    ((repeat' (first | with_reducible exact Blk.new _ _ _ | with_reducible apply Blk.drewN | with_reducible apply Blk.drew | with_reducible apply Blk.set' | (with_reducible apply Blk.set_other (hp := by first | assumption | (simp; done) | (simp; omega) | omega)) | (with_reducible apply Blk.new'; focus (first | (simp; done) | (simp; omega))) | with_reducible apply Blk.alloc)) <;> rfl)
  · refine ⟨?_, ?_, List.Pairwise.nil⟩
    · unfold TabT
      ((repeat' (first | with_reducible exact Blk.new _ _ _ | with_reducible apply Blk.drewN | with_reducible apply Blk.drew | with_reducible apply Blk.set' | (with_reducible apply Blk.set_other (hp := by first | assumption | (simp; done) | (simp; omega) | omega)) | (with_reducible apply Blk.new'; focus (first | (simp; done) | (simp; omega))) | with_reducible apply Blk.alloc)) <;> rfl)
    · refine MpAt.alloc ?_ _
      exact MpAt.new' (by simp)
  · (repeat' (first | with_reducible exact Below.refl _ _ | with_reducible refine below_drewN ?_ _ | with_reducible refine Below.drew ?_ | with_reducible refine Below.setCell ?_ (by first | exact Nat.le_refl _ | (simp; done) | (simp; omega) | omega) _ | with_reducible refine Below.alloc ?_ (by first | exact Nat.le_refl _ | (simp; done) | (simp; omega) | omega) _ | exact Below.refl _ _))

def numB (n : Int) : Bool := decide (1 ≤ n) && decide (n ≤ 9007199254740992)
set_option maxHeartbeats 2000000 in
theorem number_any (n : Int) (w : World) : Calls Try.prog 77 #[.int .i64 n] w fun e w' => e = .returned (.bool (numB n)) ∧ Below w.heap.size w w' := by
  by_cases h : 1 ≤ n
  · have d1 : decide (1 ≤ n) = true := by simpa using h
    go_enter Try.func77, Try.ntmps77
    go_wp2_with fail
    go_ret
    exact ⟨by simp [numB, h], by (repeat' (first | with_reducible exact Below.refl _ _ | with_reducible refine below_drewN ?_ _ | with_reducible refine Below.drew ?_ | with_reducible refine Below.setCell ?_ (by first | exact Nat.le_refl _ | (simp; done) | (simp; omega) | omega) _ | with_reducible refine Below.alloc ?_ (by first | exact Nat.le_refl _ | (simp; done) | (simp; omega) | omega) _ | exact Below.refl _ _))⟩
  · have d1 : decide (1 ≤ n) = false := by simpa using h
    clear h
    go_enter Try.func77, Try.ntmps77
    go_wp2_with fail
    go_ret
    exact ⟨by simp [numB, d1], by (repeat' (first | with_reducible exact Below.refl _ _ | with_reducible refine below_drewN ?_ _ | with_reducible refine Below.drew ?_ | with_reducible refine Below.setCell ?_ (by first | exact Nat.le_refl _ | (simp; done) | (simp; omega) | omega) _ | with_reducible refine Below.alloc ?_ (by first | exact Nat.le_refl _ | (simp; done) | (simp; omega) | omega) _ | exact Below.refl _ _))⟩

end Go.Proofs.Ytedcdjlpogpgbaa
