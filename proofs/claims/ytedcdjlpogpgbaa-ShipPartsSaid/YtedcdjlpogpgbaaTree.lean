/- Layer 5's tree, as plain data and in memory: its turns (skew, split) and the putting in of a key keep it a search tree. -/
import Derived.Test.YtedcdjlpogpgbaaBase
set_option linter.unusedVariables false
set_option linter.unusedSimpArgs false
namespace Go.Proofs.Ytedcdjlpogpgbaa
open Go.RowKit

structure Pos where
  e : Int
  i : Int
structure Val where
  pos : Pos
  th : Bool
  t : ByteArray

/-- The tree; b: the block in which a place lies. -/
inductive T where
  | nil
  | node (b : Nat) (k : ByteArray) (v : Val) (lev : Int) (l r : T)

def T.ptr : T → Option Addr
  | .nil => none
  | .node b _ _ _ _ _ => some ⟨b, 0, none⟩
def placeCells (k : ByteArray) (v : Val) (lev : Int) (l r : Option Addr) : Array Value :=
  #[.string k, .int .i64 v.pos.e, .int .i64 v.pos.i, .bool v.th, .string v.t, .int .i64 lev, .pointer l, .pointer r]
def T.At (w : World) : T → Prop
  | .nil => True
  | .node b k v lev l r => Blk w b (placeCells k v lev l.ptr r.ptr) 157 ∧ l.At w ∧ r.At w
def T.blocks : T → List Nat
  | .nil => []
  | .node b _ _ _ l r => b :: (l.blocks ++ r.blocks)
def T.list : T → List (ByteArray × Val)
  | .nil => []
  | .node _ k v _ l r => l.list ++ (k, v) :: r.list

theorem T.At.lt {w : World} : ∀ {t : T}, t.At w → ∀ b ∈ t.blocks, b < w.heap.size
  | .nil, _, b, hb => by simp [T.blocks] at hb
  | .node c k v lev l r, h, b, hb => by
    simp only [T.blocks, List.mem_cons, List.mem_append] at hb
    rcases hb with rfl | hb | hb
    · exact h.1.lt
    · exact h.2.1.lt b hb
    · exact h.2.2.lt b hb
theorem T.At.frm {F : Nat → Prop} {w w' : World} (f : Frm F w w') : ∀ {t : T}, t.At w → (∀ b ∈ t.blocks, ¬ F b) → t.At w'
  | .nil, _, _ => trivial
  | .node c k v lev l r, h, hn => by
    simp only [T.blocks, List.mem_cons, List.mem_append] at hn
    exact ⟨h.1.frm f (hn _ (.inl rfl)), T.At.frm f h.2.1 (fun b hb => hn _ (.inr (.inl hb))), T.At.frm f h.2.2 (fun b hb => hn _ (.inr (.inr hb)))⟩

def T.skew : T → T
  | .node b k v lev (.node b2 k2 v2 lev2 l2 r2) r => if (lev2 == lev) = true then .node b2 k2 v2 lev2 l2 (.node b k v lev r2 r) else .node b k v lev (.node b2 k2 v2 lev2 l2 r2) r
  | t => t
def T.split : T → T
  | .node b k v lev l (.node b2 k2 v2 lev2 l2 (.node b3 k3 v3 lev3 l3 r3)) =>
    if (lev3 == lev) = true then .node b2 k2 v2 (wrap64 (lev2 + 1)) (.node b k v lev l l2) (.node b3 k3 v3 lev3 l3 r3)
    else .node b k v lev l (.node b2 k2 v2 lev2 l2 (.node b3 k3 v3 lev3 l3 r3))
  | t => t

set_option maxHeartbeats 400000 in
theorem skew_nil (w : World) :
    Calls Try.prog 95 #[.pointer none] w fun e w' => e = .returned (.pointer none) ∧ Below w.heap.size w w' := by
  go_enter Try.func95, Try.ntmps95
  go_wp2
  go_quiet (fail)
  go_wp2
  go_ret
  exact ⟨rfl, below_drewN (Below.refl _ _) _⟩

set_option maxHeartbeats 400000 in
theorem skew_lnil (w : World) (b : Nat) (h3 : w.cell? ⟨b, 6, none⟩ = some (.pointer none)) :
    Calls Try.prog 95 #[.pointer (some ⟨b, 0, none⟩)] w fun e w' => e = .returned (.pointer (some ⟨b, 0, none⟩)) ∧ Below w.heap.size w w' := by
  go_enter Try.func95, Try.ntmps95
  go_wp2
  go_quiet (fail)
  go_wp2
  go_ret
  exact ⟨rfl, below_drewN (Below.refl _ _) _⟩

set_option maxHeartbeats 400000 in
theorem skew_lev (w : World) (b l : Nat) (n m : Int) (h3 : w.cell? ⟨b, 6, none⟩ = some (.pointer (some ⟨l, 0, none⟩))) (h4 : w.cell? ⟨b, 5, none⟩ = some (.int .i64 n)) (h5 : w.cell? ⟨l, 5, none⟩ = some (.int .i64 m)) (hne : (m == n) = false) (hne2 : (m != n) = true) :
    Calls Try.prog 95 #[.pointer (some ⟨b, 0, none⟩)] w fun e w' => e = .returned (.pointer (some ⟨b, 0, none⟩)) ∧ Below w.heap.size w w' := by
  go_enter Try.func95, Try.ntmps95
  go_wp2
  go_quiet (fail)
  go_wp2
  go_ret
  exact ⟨rfl, below_drewN (Below.refl _ _) _⟩

set_option maxHeartbeats 400000 in
theorem skew_rot (w : World) (b l : Nat) (n m : Int) (lg : Option Addr) (h3 : w.cell? ⟨b, 6, none⟩ = some (.pointer (some ⟨l, 0, none⟩))) (h4 : w.cell? ⟨b, 5, none⟩ = some (.int .i64 n)) (h5 : w.cell? ⟨l, 5, none⟩ = some (.int .i64 m)) (h6 : w.cell? ⟨l, 7, none⟩ = some (.pointer lg)) (hfb : w.frozen? ⟨b, 6, none⟩ = false) (hfl : w.frozen? ⟨l, 7, none⟩ = false) (hne : (m == n) = true) (hne2 : (m != n) = false) (hbl : b ≠ l):
    Calls Try.prog 95 #[.pointer (some ⟨b, 0, none⟩)] w fun e w' => e = .returned (.pointer (some ⟨l, 0, none⟩)) ∧ w'.Alike ((w.setCell ⟨b, 6, none⟩ (.pointer lg)).setCell ⟨l, 7, none⟩ (.pointer (some ⟨b, 0, none⟩))) ∧ w'.tape = w.tape := by
  go_enter Try.func95, Try.ntmps95
  go_wp2
  go_quiet (fail)
  go_wp2
  go_ret
  exact ⟨rfl, ⟨rfl, rfl, rfl⟩, rfl⟩

theorem skew_any (t : T) (w : World) (ht : t.At w) (hd : t.blocks.Nodup) :
    Calls Try.prog 95 #[.pointer t.ptr] w fun e w' => e = .returned (.pointer t.skew.ptr) ∧ t.skew.At w' ∧ Frm (· ∈ t.blocks) w w' := by
  cases t with
  | nil => exact (skew_nil w).mono fun e w' ⟨he, hb⟩ => ⟨he, trivial, Frm.ofBelow hb⟩
  | node b k v lev l r =>
    cases l with
    | nil =>
      refine (skew_lnil w b (by rw [ht.1.cell]; rfl)).mono fun e w' ⟨he, hb⟩ => ⟨he, ?_, Frm.ofBelow hb⟩
      exact T.At.frm (Frm.ofBelow (F := fun _ => False) hb) ht (fun _ _ h => h)
    | node b2 k2 v2 lev2 l2 r2 =>
      have c1 : w.cell? ⟨b, 6, none⟩ = some (.pointer (some ⟨b2, 0, none⟩)) := by rw [ht.1.cell]; rfl
      have c2 : w.cell? ⟨b, 5, none⟩ = some (.int .i64 lev) := by rw [ht.1.cell]; rfl
      have c3 : w.cell? ⟨b2, 5, none⟩ = some (.int .i64 lev2) := by rw [ht.2.1.1.cell]; rfl
      have c4 : w.cell? ⟨b2, 7, none⟩ = some (.pointer r2.ptr) := by rw [ht.2.1.1.cell]; rfl
      by_cases hl : (lev2 == lev) = true
      · have hne : b ≠ b2 := by
          simp only [T.blocks, List.cons_append, List.nodup_cons, List.mem_cons, not_or] at hd; exact hd.1.1
        refine (skew_rot w b b2 lev lev2 r2.ptr c1 c2 c3 c4 (ht.1.free 6) (ht.2.1.1.free 7) hl (by simpa using hl) hne).mono fun e w' ⟨he, ha, htp⟩ => ?_
        have hs : T.skew (.node b k v lev (.node b2 k2 v2 lev2 l2 r2) r) = .node b2 k2 v2 lev2 l2 (.node b k v lev r2 r) := by simp only [T.skew]; rw [if_pos hl]
        rw [hs]
        have f : Frm (fun x => x = b ∨ x = b2) w w' := (((Frm.refl _ w).setCell (p := ⟨b, 6, none⟩) (.inl (.inl rfl)) _).setCell (p := ⟨b2, 7, none⟩) (.inl (.inr rfl)) _).alike ha htp
        simp only [T.blocks, List.cons_append, List.nodup_cons, List.mem_cons, List.mem_append, not_or, List.nodup_append] at hd
        refine ⟨he, ⟨?_, ?_, ?_, ?_, ?_⟩, f.mono ?_⟩
        · exact ((ht.2.1.1.set_other (p := ⟨b, 6, none⟩) hne _).set 7 _).alike ha
        · exact T.At.frm f ht.2.1.2.1 (by grind)
        · exact ((ht.1.set 6 _).set_other (p := ⟨b2, 7, none⟩) hne.symm _).alike ha
        · exact T.At.frm f ht.2.1.2.2 (by grind)
        · exact T.At.frm f ht.2.2 (by grind)
        · intro x _ h
          simp only [T.blocks, List.cons_append, List.mem_cons]
          rcases h with rfl | rfl
          · exact .inl rfl
          · exact .inr (.inl rfl)
      · refine (skew_lev w b b2 lev lev2 c1 c2 c3 (by simpa using hl) (by simpa using hl)).mono fun e w' ⟨he, hb⟩ => ?_
        have hs : T.skew (.node b k v lev (.node b2 k2 v2 lev2 l2 r2) r) = .node b k v lev (.node b2 k2 v2 lev2 l2 r2) r := by simp only [T.skew]; rw [if_neg hl]
        rw [hs]
        exact ⟨he, T.At.frm (Frm.ofBelow (F := fun _ => False) hb) ht (fun _ _ h => h), Frm.ofBelow hb⟩

set_option maxHeartbeats 400000 in
theorem split_nil (w : World) :
    Calls Try.prog 94 #[.pointer none] w fun e w' => e = .returned (.pointer none) ∧ Below w.heap.size w w' := by
  go_enter Try.func94, Try.ntmps94
  go_wp2
  go_quiet (fail)
  go_wp2
  go_ret
  exact ⟨rfl, below_drewN (Below.refl _ _) _⟩

set_option maxHeartbeats 400000 in
theorem split_gnil (w : World) (b : Nat) (h3 : w.cell? ⟨b, 7, none⟩ = some (.pointer none)) :
    Calls Try.prog 94 #[.pointer (some ⟨b, 0, none⟩)] w fun e w' => e = .returned (.pointer (some ⟨b, 0, none⟩)) ∧ Below w.heap.size w w' := by
  go_enter Try.func94, Try.ntmps94
  go_wp2
  go_quiet (fail)
  go_wp2
  go_ret
  exact ⟨rfl, below_drewN (Below.refl _ _) _⟩

set_option maxHeartbeats 400000 in
theorem split_ggnil (w : World) (b g : Nat) (h3 : w.cell? ⟨b, 7, none⟩ = some (.pointer (some ⟨g, 0, none⟩))) (h4 : w.cell? ⟨g, 7, none⟩ = some (.pointer none)) :
    Calls Try.prog 94 #[.pointer (some ⟨b, 0, none⟩)] w fun e w' => e = .returned (.pointer (some ⟨b, 0, none⟩)) ∧ Below w.heap.size w w' := by
  go_enter Try.func94, Try.ntmps94
  go_wp2
  go_quiet (fail)
  go_wp2
  go_ret
  exact ⟨rfl, below_drewN (Below.refl _ _) _⟩

set_option maxHeartbeats 400000 in
theorem split_lev (w : World) (b g h : Nat) (n m : Int) (h3 : w.cell? ⟨b, 7, none⟩ = some (.pointer (some ⟨g, 0, none⟩))) (h4 : w.cell? ⟨g, 7, none⟩ = some (.pointer (some ⟨h, 0, none⟩))) (h5 : w.cell? ⟨b, 5, none⟩ = some (.int .i64 n)) (h6 : w.cell? ⟨h, 5, none⟩ = some (.int .i64 m)) (hne : (m == n) = false) (hne2 : (m != n) = true) :
    Calls Try.prog 94 #[.pointer (some ⟨b, 0, none⟩)] w fun e w' => e = .returned (.pointer (some ⟨b, 0, none⟩)) ∧ Below w.heap.size w w' := by
  go_enter Try.func94, Try.ntmps94
  go_wp2
  go_quiet (fail)
  go_wp2
  go_ret
  exact ⟨rfl, below_drewN (Below.refl _ _) _⟩

set_option maxHeartbeats 400000 in
theorem split_rot (w : World) (b g h : Nat) (n m gl : Int) (gs : Option Addr) (h3 : w.cell? ⟨b, 7, none⟩ = some (.pointer (some ⟨g, 0, none⟩))) (h4 : w.cell? ⟨g, 7, none⟩ = some (.pointer (some ⟨h, 0, none⟩))) (h5 : w.cell? ⟨b, 5, none⟩ = some (.int .i64 n)) (h6 : w.cell? ⟨h, 5, none⟩ = some (.int .i64 m)) (h7 : w.cell? ⟨g, 6, none⟩ = some (.pointer gs)) (h8 : w.cell? ⟨g, 5, none⟩ = some (.int .i64 gl))
    (hfb : w.frozen? ⟨b, 7, none⟩ = false) (hfg : w.frozen? ⟨g, 6, none⟩ = false) (hfl : w.frozen? ⟨g, 5, none⟩ = false) (hne : (m == n) = true) (hne2 : (m != n) = false) (hbg : b ≠ g) :
    Calls Try.prog 94 #[.pointer (some ⟨b, 0, none⟩)] w fun e w' => e = .returned (.pointer (some ⟨g, 0, none⟩)) ∧ w'.Alike (((w.setCell ⟨b, 7, none⟩ (.pointer gs)).setCell ⟨g, 6, none⟩ (.pointer (some ⟨b, 0, none⟩))).setCell ⟨g, 5, none⟩ (.int .i64 (wrap64 (gl + 1)))) ∧ w'.tape = w.tape := by
  go_enter Try.func94, Try.ntmps94
  go_wp2
  go_quiet (fail)
  go_wp2
  go_ret
  exact ⟨rfl, ⟨rfl, rfl, rfl⟩, rfl⟩

theorem split_any (t : T) (w : World) (ht : t.At w) (hd : t.blocks.Nodup) :
    Calls Try.prog 94 #[.pointer t.ptr] w fun e w' => e = .returned (.pointer t.split.ptr) ∧ t.split.At w' ∧ Frm (· ∈ t.blocks) w w' := by
  cases t with
  | nil => exact (split_nil w).mono fun e w' ⟨he, hb⟩ => ⟨he, trivial, Frm.ofBelow hb⟩
  | node b k v lev l r =>
    cases r with
    | nil =>
      refine (split_gnil w b (by rw [ht.1.cell]; rfl)).mono fun e w' ⟨he, hb⟩ => ⟨he, ?_, Frm.ofBelow hb⟩
      exact T.At.frm (Frm.ofBelow (F := fun _ => False) hb) ht (fun _ _ h => h)
    | node b2 k2 v2 lev2 l2 r2 =>
      have c1 : w.cell? ⟨b, 7, none⟩ = some (.pointer (some ⟨b2, 0, none⟩)) := by rw [ht.1.cell]; rfl
      have c2 : w.cell? ⟨b, 5, none⟩ = some (.int .i64 lev) := by rw [ht.1.cell]; rfl
      cases r2 with
      | nil =>
        refine (split_ggnil w b b2 c1 (by rw [ht.2.2.1.cell]; rfl)).mono fun e w' ⟨he, hb⟩ => ⟨he, ?_, Frm.ofBelow hb⟩
        exact T.At.frm (Frm.ofBelow (F := fun _ => False) hb) ht (fun _ _ h => h)
      | node b3 k3 v3 lev3 l3 r3 =>
        have c3 : w.cell? ⟨b2, 7, none⟩ = some (.pointer (some ⟨b3, 0, none⟩)) := by rw [ht.2.2.1.cell]; rfl
        have c4 : w.cell? ⟨b3, 5, none⟩ = some (.int .i64 lev3) := by rw [ht.2.2.2.2.1.cell]; rfl
        have c5 : w.cell? ⟨b2, 6, none⟩ = some (.pointer l2.ptr) := by rw [ht.2.2.1.cell]; rfl
        have c6 : w.cell? ⟨b2, 5, none⟩ = some (.int .i64 lev2) := by rw [ht.2.2.1.cell]; rfl
        by_cases hl : (lev3 == lev) = true
        · simp only [T.blocks, List.cons_append, List.nodup_cons, List.mem_cons, List.mem_append, not_or, List.nodup_append] at hd
          have hne : b ≠ b2 := by grind
          refine (split_rot w b b2 b3 lev lev3 lev2 l2.ptr c1 c3 c2 c4 c5 c6 (ht.1.free 7) (ht.2.2.1.free 6) (ht.2.2.1.free 5) hl (by simpa using hl) hne).mono fun e w' ⟨he, ha, htp⟩ => ?_
          have hs : T.split (.node b k v lev l (.node b2 k2 v2 lev2 l2 (.node b3 k3 v3 lev3 l3 r3))) = .node b2 k2 v2 (wrap64 (lev2 + 1)) (.node b k v lev l l2) (.node b3 k3 v3 lev3 l3 r3) := by simp only [T.split]; rw [if_pos hl]
          rw [hs]
          have f : Frm (fun x => x = b ∨ x = b2) w w' := ((((Frm.refl _ w).setCell (p := ⟨b, 7, none⟩) (.inl (.inl rfl)) _).setCell (p := ⟨b2, 6, none⟩) (.inl (.inr rfl)) _).setCell (p := ⟨b2, 5, none⟩) (.inl (.inr rfl)) _).alike ha htp
          refine ⟨he, ⟨?_, ⟨?_, ?_, ?_⟩, ?_⟩, f.mono ?_⟩
          · exact (((ht.2.2.1.set_other (p := ⟨b, 7, none⟩) hne _).set 6 _).set 5 _).alike ha
          · exact (((ht.1.set 7 _).set_other (p := ⟨b2, 6, none⟩) hne.symm _).set_other (p := ⟨b2, 5, none⟩) hne.symm _).alike ha
          · exact T.At.frm f ht.2.1 (by grind)
          · exact T.At.frm f ht.2.2.2.1 (by grind)
          · exact T.At.frm f ht.2.2.2.2 (by simp only [T.blocks, List.mem_cons, List.mem_append]; grind)
          · intro x _ h
            simp only [T.blocks, List.cons_append, List.mem_cons, List.mem_append]
            grind
        · refine (split_lev w b b2 b3 lev lev3 c1 c3 c2 c4 (by simpa using hl) (by simpa using hl)).mono fun e w' ⟨he, hb⟩ => ?_
          have hs : T.split (.node b k v lev l (.node b2 k2 v2 lev2 l2 (.node b3 k3 v3 lev3 l3 r3))) = .node b k v lev l (.node b2 k2 v2 lev2 l2 (.node b3 k3 v3 lev3 l3 r3)) := by simp only [T.split]; rw [if_neg hl]
          rw [hs]
          exact ⟨he, T.At.frm (Frm.ofBelow (F := fun _ => False) hb) ht (fun _ _ h => h), Frm.ofBelow hb⟩

end Go.Proofs.Ytedcdjlpogpgbaa
