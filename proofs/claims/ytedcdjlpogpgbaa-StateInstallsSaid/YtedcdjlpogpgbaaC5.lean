/- Layer 5: Copy of a map: its tree in new memory. -/
import Derived.Test.YtedcdjlpogpgbaaC1
import Derived.Deep.RegionHeld3
import Derived.RangeFuncNested
import Derived.RangeFuncBound
import Derived.RangeFuncCalls
import Derived.RangeFuncLeaves
import Derived.Shelf.Abstract
import Derived.Shelf.RegionOpen
import Derived.OwnWalkIn
import Derived.TacticsInMore
import Derived.Test.YtedcdjlpogpgbaaC2
import Derived.RangeFuncBox
import Derived.Test.YtedcdjlpogpgbaaC3
import Derived.Test.YtedcdjlpogpgbaaSortLay
set_option linter.unusedVariables false
set_option linter.unusedSimpArgs false
namespace Go.Proofs.Ytedcdjlpogpgbaa
open Go.RowKit

theorem wp_abs' {P : Program} {c : Code} {Q : Exit → Act → World → Prop} {a : Act} {W : World} (h : ∀ w1, w1 = W → c.wp P Q a w1) : c.wp P Q a W := h W rfl
def CopRes (t : T) (w : World) (e : Ending) (w' : World) : Prop :=
  ∃ t' : T, e = .returned (.pointer t'.ptr) ∧ t'.At w' ∧ t'.list = t.list ∧ (∀ c ∈ t'.blocks, w.heap.size ≤ c) ∧ Below w.heap.size w w'

set_option maxRecDepth 100000 in
set_option maxHeartbeats 8000000 in
theorem copied_any (t : T) : ∀ (w : World), t.At w → Calls Try.prog 99 #[.pointer t.ptr] w (CopRes t w) := by
  induction t with
  | nil =>
    intro w _
    unfold T.ptr
    go_enter Try.func99, Try.ntmps99
    go_wp2_with fail
    go_ret
    exact ⟨.nil, rfl, trivial, rfl, by simp [T.blocks], by (repeat' (first | with_reducible exact Below.refl _ _ | with_reducible refine below_drewN ?_ _ | with_reducible refine Below.drew ?_ | with_reducible refine Below.setCell ?_ (by first | exact Nat.le_refl _ | (simp; done) | (simp; omega) | omega) _ | with_reducible refine Below.alloc ?_ (by first | exact Nat.le_refl _ | (simp; done) | (simp; omega) | omega) _ | exact Below.refl _ _))⟩
  | node b k v lev l r ihl ihr =>
    intro w ht
    have hbl := ht.1.lt
    have c0 : World.cell? w ⟨b, 0, none⟩ = some (.string k) := by rw [Blk.cell ht.1]; rfl
    have c1 : World.cell? w ⟨b, 1, none⟩ = some (.int .i64 v.pos.e) := by rw [Blk.cell ht.1]; rfl
    have c2 : World.cell? w ⟨b, 2, none⟩ = some (.int .i64 v.pos.i) := by rw [Blk.cell ht.1]; rfl
    have c3 : World.cell? w ⟨b, 3, none⟩ = some (.bool v.th) := by rw [Blk.cell ht.1]; rfl
    have c4 : World.cell? w ⟨b, 4, none⟩ = some (.string v.t) := by rw [Blk.cell ht.1]; rfl
    have c5 : World.cell? w ⟨b, 5, none⟩ = some (.int .i64 lev) := by rw [Blk.cell ht.1]; rfl
    have c6 : World.cell? w ⟨b, 6, none⟩ = some (.pointer l.ptr) := by rw [Blk.cell ht.1]; rfl
    have c7 : World.cell? w ⟨b, 7, none⟩ = some (.pointer r.ptr) := by rw [Blk.cell ht.1]; rfl
    have hil : ∀ W : World, Below w.heap.size w W → Calls Try.prog 99 #[.pointer l.ptr] W (CopRes l W) := fun W hW => ihl W (ht.2.1.below hW)
    have hir : ∀ W : World, Below w.heap.size w W → Calls Try.prog 99 #[.pointer r.ptr] W (CopRes r W) := fun W hW => ihr W (ht.2.2.below hW)
    have HIL := Lib.hid hil
    have HIR := Lib.hid hir
    have HT := Lib.hid ht
    clear hil hir ht ihl ihr
    show Calls _ _ #[.pointer (some ⟨b, 0, none⟩)] _ _
    go_enter Try.func99, Try.ntmps99
    go_upto_region 4 with (fail)
    refine wp_abs' ?_
    intro w1 hw1
    have K1 : Blk w1 w.heap.size (placeCells k v lev l.ptr r.ptr) 157 := by rw [hw1]; ((repeat' (first | with_reducible exact Blk.new _ _ _ | with_reducible apply Blk.drewN | with_reducible apply Blk.drew | with_reducible apply Blk.set' | (with_reducible apply Blk.set_other (hp := by first | assumption | (simp; done) | (simp; omega) | omega)) | (with_reducible apply Blk.new'; focus (first | (simp; done) | (simp; omega))) | with_reducible apply Blk.alloc)) <;> rfl)
    have B1 : Below w.heap.size w w1 := by rw [hw1]; (repeat' (first | with_reducible exact Below.refl _ _ | with_reducible refine below_drewN ?_ _ | with_reducible refine Below.drew ?_ | with_reducible refine Below.setCell ?_ (by first | exact Nat.le_refl _ | (simp; done) | (simp; omega) | omega) _ | with_reducible refine Below.alloc ?_ (by first | exact Nat.le_refl _ | (simp; done) | (simp; omega) | omega) _ | exact Below.refl _ _))
    clear hw1 c0 c1 c2 c3 c4 c5 c6 c7
    have hs1 := B1.size
    have hk1 := K1.lt
    have b1 := HT.out.1.below B1
    have d6 : World.cell? w1 ⟨b, 6, none⟩ = some (.pointer l.ptr) := by rw [Blk.cell b1]; rfl
    have d7 : World.cell? w1 ⟨b, 7, none⟩ = some (.pointer r.ptr) := by rw [Blk.cell b1]; rfl
    have ne1 : b ≠ w.heap.size := by omega
    have ne2 : w.heap.size ≠ b := by omega
    have HK1 := Lib.hid K1
    have HB1 := Lib.hid B1
    clear K1 B1 b1
    go_region_held3 (fun W => W.cell? ⟨b, 6, none⟩ = some (.pointer l.ptr) ∧ W.cell? ⟨b, 7, none⟩ = some (.pointer r.ptr)) (first | go_keep)
      (first
      | (go_at_call 99; refine (HIL.out _ HB1.out.drew).mono ?_; rintro e w2 ⟨tl, rfl, hA2, hl2, hn2, hb2⟩; (have B2 : Below w.heap.size w w2 := HB1.out.drew.trans (hb2.mono hs1)); (have K2 := HK1.out.drew.below hb2); (have HK2 := Lib.hid K2); (have HB2 := Lib.hid B2); (have HA2 := Lib.hid hA2); (have HL2 := Lib.hid hl2); (have HN2 := Lib.hid hn2); (have hs2 := B2.size); (have hs12 := hb2.size); (have hk2 := K2.lt); clear HIL d6 d7 hA2 hl2 hn2 hb2; (have d6 : w2.cell? ⟨b, 6, none⟩ = some (.pointer l.ptr) := by rw [(HT.out.1.below B2).cell]; rfl); (have d7 : w2.cell? ⟨b, 7, none⟩ = some (.pointer r.ptr) := by rw [(HT.out.1.below B2).cell]; rfl); clear B2 K2)
      | (go_at_call 99; refine (HIR.out _ HB2.out).mono ?_; rintro e w3 ⟨tr, rfl, hA3, hl3, hn3, hb3⟩; (have B3 : Below w.heap.size w w3 := HB2.out.trans (hb3.mono hs2)); (have K3 := HK2.out.below hb3); (have HK3 := Lib.hid K3); (have HB3 := Lib.hid B3); (have HA3 := Lib.hid hA3); (have HL3 := Lib.hid hl3); (have HN3 := Lib.hid hn3); (have HA23 := Lib.hid (HA2.out.below hb3)); (have hs3 := B3.size); (have hk3 := K3.lt); clear HIR d6 d7 hA3 hl3 hn3 hb3; (have d6 : w3.cell? ⟨b, 6, none⟩ = some (.pointer l.ptr) := by rw [(HT.out.1.below B3).cell]; rfl); (have d7 : w3.cell? ⟨b, 7, none⟩ = some (.pointer r.ptr) := by rw [(HT.out.1.below B3).cell]; rfl); (have k6 : w3.cell? ⟨w.heap.size, 6, none⟩ = some (.pointer l.ptr) := by rw [K3.cell]; rfl); (have k7 : w3.cell? ⟨w.heap.size, 7, none⟩ = some (.pointer r.ptr) := by rw [K3.cell]; rfl); (have y6 := K3.free 6); (have y7 := K3.free 7); clear B3 K3))
    go_wp2_with fail
    go_ret
    refine ⟨.node w.heap.size k v lev tl tr, rfl, ⟨by ((repeat' (first | with_reducible exact HK3.out | with_reducible exact Blk.new _ _ _ | with_reducible apply Blk.drewN | with_reducible apply Blk.drew | with_reducible apply Blk.set' | (with_reducible apply Blk.set_other (hp := by first | assumption | (simp; done) | (simp; omega) | omega)) | (with_reducible apply Blk.new'; focus (first | (simp; done) | (simp; omega))) | with_reducible apply Blk.alloc | exact HK3.out)) <;> rfl), ?_, ?_⟩, ?_, ?_, ?_⟩
    · exact T.At.frm (F := fun c => c = w.heap.size) (by (repeat' (first | with_reducible exact Frm.refl _ _ | with_reducible refine Frm.drewN ?_ _ | with_reducible refine Frm.drew ?_ | with_reducible refine Frm.setCell ?_ (by first | exact Or.inl rfl | exact Or.inr (Nat.le_refl _) | (simp; done) | (simp; omega)) _ | with_reducible refine Frm.alloc ?_ _ | exact Frm.refl _ _))) HA23.out (fun c hc e => by have := HN2.out c hc; simp at this; omega)
    · exact T.At.frm (F := fun c => c = w.heap.size) (by (repeat' (first | with_reducible exact Frm.refl _ _ | with_reducible refine Frm.drewN ?_ _ | with_reducible refine Frm.drew ?_ | with_reducible refine Frm.setCell ?_ (by first | exact Or.inl rfl | exact Or.inr (Nat.le_refl _) | (simp; done) | (simp; omega)) _ | with_reducible refine Frm.alloc ?_ _ | exact Frm.refl _ _))) HA3.out (fun c hc e => by have := HN3.out c hc; omega)
    · simp only [T.list]; rw [HL2.out, HL3.out]
    · intro c hc
      simp only [T.blocks, List.mem_cons, List.mem_append] at hc
      rcases hc with hc | hc | hc
      · omega
      · have := HN2.out c hc; simp at this; omega
      · have := HN3.out c hc; omega
    · (repeat' (first | with_reducible exact HB3.out | with_reducible exact Below.refl _ _ | with_reducible refine below_drewN ?_ _ | with_reducible refine Below.drew ?_ | with_reducible refine Below.setCell ?_ (by first | exact Nat.le_refl _ | (simp; done) | (simp; omega) | omega) _ | with_reducible refine Below.alloc ?_ (by first | exact Nat.le_refl _ | (simp; done) | (simp; omega) | omega) _ | exact Below.refl _ _ | exact HB3.out))

structure CopyDone (t : T) (w w' : World) (m : Nat) (t' : T) : Prop where
  blk : ∃ n : Int, Blk w' m #[.pointer t'.ptr, .int .i64 n] MapT
  tree : t'.At w'
  list : t'.list = t.list
  new : ∀ c ∈ t'.blocks, w.heap.size ≤ c
  newm : w.heap.size ≤ m
  below : Below w.heap.size w w'
set_option maxRecDepth 100000 in
set_option maxHeartbeats 8000000 in
theorem Copy_map (m : Nat) (t : T) (w : World) (h : MapAt w m t) :
    Calls Try.prog 88 #[.pointer (some ⟨m, 0, none⟩)] w fun e w' => ∃ m' t', e = .returned (.pointer (some ⟨m', 0, none⟩)) ∧ CopyDone t w w' m' t' := by
  obtain ⟨n, hb⟩ := h.blk
  have hml := hb.lt
  have c0 : World.cell? w ⟨m, 0, none⟩ = some (.pointer t.ptr) := by rw [Blk.cell hb]; rfl
  have c1 : World.cell? w ⟨m, 1, none⟩ = some (.int .i64 n) := by rw [Blk.cell hb]; rfl
  have hc : ∀ W : World, Below w.heap.size w W → Calls Try.prog 99 #[.pointer t.ptr] W (CopRes t W) := fun W hW => copied_any t W (h.tree.below hW)
  have HC := Lib.hid hc
  have HBK := Lib.hid hb
  clear h hb hc
  go_enter Try.func88, Try.ntmps88
  go_upto_region 3 with (fail)
  go_region_held3 (fun W => W.cell? ⟨m, 0, none⟩ = some (.pointer t.ptr) ∧ W.cell? ⟨m, 1, none⟩ = some (.int .i64 n)) (first | go_keep)
    (first
    | (go_at_call 99; refine (HC.out _ (by (repeat' (first | with_reducible exact Below.refl _ _ | with_reducible refine below_drewN ?_ _ | with_reducible refine Below.drew ?_ | with_reducible refine Below.setCell ?_ (by first | exact Nat.le_refl _ | (simp; done) | (simp; omega) | omega) _ | with_reducible refine Below.alloc ?_ (by first | exact Nat.le_refl _ | (simp; done) | (simp; omega) | omega) _ | exact Below.refl _ _)))).mono ?_; rintro e w2 ⟨tl, rfl, hA2, hl2, hn2, hb2⟩; (have B2 : Below w.heap.size w w2 := (Below.refl _ w).drew.trans hb2); (have c0' : w2.cell? ⟨m, 0, none⟩ = some (.pointer t.ptr) := by rw [(HBK.out.below B2).cell]; rfl); (have c1' : w2.cell? ⟨m, 1, none⟩ = some (.int .i64 n) := by rw [(HBK.out.below B2).cell]; rfl); (have HB2 := Lib.hid B2); (have HA2 := Lib.hid hA2); (have HL2 := Lib.hid hl2); (have HN2 := Lib.hid hn2); (have hs2 := B2.size); clear c0 c1 B2 hA2 hl2 hn2 hb2))
  all_goals
    go_wp2_with fail
    go_ret
    refine ⟨w2.heap.size, tl, rfl, ⟨⟨n, Blk.new' rfl rfl⟩, HA2.out.below (by (repeat' (first | with_reducible exact Below.refl _ _ | with_reducible refine below_drewN ?_ _ | with_reducible refine Below.drew ?_ | with_reducible refine Below.setCell ?_ (by first | exact Nat.le_refl _ | (simp; done) | (simp; omega) | omega) _ | with_reducible refine Below.alloc ?_ (by first | exact Nat.le_refl _ | (simp; done) | (simp; omega) | omega) _ | exact Below.refl _ _))), HL2.out, HN2.out, hs2, by (repeat' (first | with_reducible exact HB2.out | with_reducible exact Below.refl _ _ | with_reducible refine below_drewN ?_ _ | with_reducible refine Below.drew ?_ | with_reducible refine Below.setCell ?_ (by first | exact Nat.le_refl _ | (simp; done) | (simp; omega) | omega) _ | with_reducible refine Below.alloc ?_ (by first | exact Nat.le_refl _ | (simp; done) | (simp; omega) | omega) _ | exact Below.refl _ _ | exact HB2.out))⟩⟩

end Go.Proofs.Ytedcdjlpogpgbaa

/- Layer 5: the iterator over a map: walk hands its keys and values on, in order. -/
set_option linter.unusedVariables false
set_option linter.unusedSimpArgs false
namespace Go.Proofs.Ytedcdjlpogpgbaa
open Go.RowKit Go.Shelf

attribute [local go_sem] Oper.semAt_some

theorem room_none {F : Fence} (hd : F.depth = none) (k : Nat) : F.room k := fun d h => by rw [hd] at h; cases h
theorem RoundIn.anyD {F : Fence} (hd : F.depth = none) {m m' : Nat} {P : Program} {l : Nat} {f : FuncId} {tmps : Array Value} {assign body : Code} {w : World} {R : Ending → World → Prop}
    (h : RoundIn F m P l f tmps assign body w R) : RoundIn F m' P l f tmps assign body w R := ⟨h.1, fun c cs _ => h.2 c cs (room_none hd _)⟩
theorem YieldAt.anyD {F : Fence} (hd : F.depth = none) {m : Nat} (m' : Nat) {P : Program} {l : Nat} {args : Array Value} {W : World} {R : Ending → World → Prop} (h : YieldAt F m P l args W R) : YieldAt F m' P l args W R := by
  obtain ⟨fn, tmps, assign, body, hy, hR⟩ := h
  exact ⟨fn, tmps, assign, body, hy, RoundIn.anyD hd hR⟩

abbrev KV := ByteArray × Val
def encKV (x : KV) : Array Value := #[.string x.1, .agg #[.int .i64 x.2.pos.e, .int .i64 x.2.pos.i, .bool x.2.th, .string x.2.t]]
abbrev PlaceT : TypeId := 157
/-- Whatever places there were are as they were. -/
def KpT (W W' : World) : Prop := ∀ c cs, Blk W c cs PlaceT → Blk W' c cs PlaceT
theorem KpT.trans {A B C : World} (h : KpT A B) (k : KpT B C) : KpT A C := fun c cs hc => k c cs (h c cs hc)
theorem T.At.kp {A B : World} (h : KpT A B) : ∀ {t : T}, t.At A → t.At B
  | .nil, _ => trivial
  | .node _ _ _ _ _ _, ht => ⟨h _ _ ht.1, T.At.kp h ht.2.1, T.At.kp h ht.2.2⟩

set_option maxRecDepth 100000 in
set_option maxHeartbeats 4000000 in
theorem walk_ok (l N : Nat) (J Jx : List KV → World → Prop) (hJd : ∀ pre W W', W.grownBy W' none → J pre W → J pre W')
    (hY : ∀ m pre x W, J pre W → pre.length < N → YieldAt Fence.wide m Try.prog l (encKV x) W fun e W' =>
      (e = .returned (.bool true) ∧ J (pre ++ [x]) W' ∧ KpT W W') ∨ (e = .returned (.bool false) ∧ Jx (pre ++ [x]) W')) (t : T) :
    ∀ (n : Nat) (pre : List KV) (W : World), t.At W → J pre W → pre.length + t.list.length ≤ N →
      CallsIn Fence.wide n Try.prog 89 #[.pointer t.ptr, .func (.yield l) #[] #[]] W fun e W' =>
        (e = .returned (.bool true) ∧ J (pre ++ t.list) W' ∧ KpT W W') ∨ (e = .returned (.bool false) ∧ ∃ q, q <+: t.list ∧ Jx (pre ++ q) W') := by
  induction t with
  | nil =>
    intro n pre W ht hJ _
    unfold T.ptr
    refine callsIn_of_wp Try.func89 rfl trivial ?_ rfl
    simp only [Try.ntmps89, List.size_toArray, List.length_cons, List.length_nil, Nat.reduceAdd, Nat.reduceSub, Array.replicate_succ, Array.replicate_zero, List.push_toArray, List.append_toArray, List.nil_append, List.cons_append]
    gi_wp2
    refine wpIn_wide.2 ?_
    go_quiet (fail)
    gi_wp2
    go_ret
    refine .inl ⟨rfl, ?_, fun c cs hc => hc⟩
    rw [show pre ++ T.nil.list = pre from List.append_nil pre]
    exact hJd _ W _ ⟨rfl, rfl, rfl, Nat.le_refl _, fun _ _ _ => rfl⟩ hJ
  | node b k v lev tl tr ihl ihr =>
    intro n pre W ht hJ hN
    have hbl := ht.1.lt
    simp only [T.list, List.length_append, List.length_cons] at hN
    have c0 : World.cell? W ⟨b, 0, none⟩ = some (.string k) := by rw [Blk.cell ht.1]; rfl
    have c1 : World.cell? W ⟨b, 1, none⟩ = some (.int .i64 v.pos.e) := by rw [Blk.cell ht.1]; rfl
    have c2 : World.cell? W ⟨b, 2, none⟩ = some (.int .i64 v.pos.i) := by rw [Blk.cell ht.1]; rfl
    have c3 : World.cell? W ⟨b, 3, none⟩ = some (.bool v.th) := by rw [Blk.cell ht.1]; rfl
    have c4 : World.cell? W ⟨b, 4, none⟩ = some (.string v.t) := by rw [Blk.cell ht.1]; rfl
    have c6 : World.cell? W ⟨b, 6, none⟩ = some (.pointer tl.ptr) := by rw [Blk.cell ht.1]; rfl
    have c7 : World.cell? W ⟨b, 7, none⟩ = some (.pointer tr.ptr) := by rw [Blk.cell ht.1]; rfl
    show CallsIn _ _ _ _ #[.pointer (some ⟨b, 0, none⟩), .func (.yield l) #[] #[]] _ _
    refine callsIn_of_wp Try.func89 rfl trivial ?_ rfl
    simp only [Try.ntmps89, List.size_toArray, List.length_cons, List.length_nil, Nat.reduceAdd, Nat.reduceSub, Array.replicate_succ, Array.replicate_zero, List.push_toArray, List.append_toArray, List.nil_append, List.cons_append]
    gi_wp2
    refine wpIn_region_any (by kernel_rfl) ?_
    (try (change wpAnyIn _ _ _ _ _ _ _ _ _ (World.drew _)))
    refine wpAnyIn_take (i := 0) (v := ?_) rfl rfl (by kernel_rfl) (by kernel_rfl) (by kernel_rfl) (fun _ _ _ h => h) ⟨Or.inl ⟨by rfl, ?_⟩, fun _ => rfl⟩ ?_
    rotate_left
    focus (intro w; go_simp; try with_reducible rfl)
    (try simp only [Act.put, List.getElem_toArray, List.getElem_cons_succ, List.getElem_cons_zero, List.setIfInBounds_toArray, List.set_cons_zero, List.set_cons_succ])
    refine wpAnyIn_take (i := 1) (v := ?_) rfl rfl (by kernel_rfl) (by kernel_rfl) (by kernel_rfl) (fun _ _ _ h => h) ⟨Or.inl ⟨by rfl, ?_⟩, fun _ => rfl⟩ ?_
    rotate_left
    focus (intro w; go_simp; try with_reducible rfl)
    (try simp only [Act.put, List.getElem_toArray, List.getElem_cons_succ, List.getElem_cons_zero, List.setIfInBounds_toArray, List.set_cons_zero, List.set_cons_succ])
    refine wpAnyIn_take (i := 2) (v := ?_) rfl rfl (by kernel_rfl) (by kernel_rfl) (by kernel_rfl) (fun _ _ _ h => h) ⟨Or.inl ⟨by rfl, ?_⟩, fun _ => rfl⟩ ?_
    rotate_left
    focus (intro w; go_simp; try with_reducible rfl)
    (try simp only [Act.put, List.getElem_toArray, List.getElem_cons_succ, List.getElem_cons_zero, List.setIfInBounds_toArray, List.set_cons_zero, List.set_cons_succ])
    refine wpAnyIn_take (i := 3) (v := ?_) rfl rfl (by kernel_rfl) (by kernel_rfl) (by kernel_rfl) (fun _ _ _ h => h) ⟨Or.inl ⟨by rfl, ?_⟩, fun _ => rfl⟩ ?_
    rotate_left
    focus (intro w; go_simp; try with_reducible rfl)
    (try simp only [Act.put, List.getElem_toArray, List.getElem_cons_succ, List.getElem_cons_zero, List.setIfInBounds_toArray, List.set_cons_zero, List.set_cons_succ])
    refine wpAnyIn_take (i := 4) (v := ?_) rfl rfl (by kernel_rfl) (by kernel_rfl) (by kernel_rfl) (fun _ _ _ h => h) ⟨Or.inl ⟨by rfl, ?_⟩, fun _ => rfl⟩ ?_
    rotate_left
    focus (intro w; go_simp; try with_reducible rfl)
    (try simp only [Act.put, List.getElem_toArray, List.getElem_cons_succ, List.getElem_cons_zero, List.setIfInBounds_toArray, List.set_cons_zero, List.set_cons_succ])
    refine wpAnyIn_take (i := 5) (v := ?_) rfl rfl (by kernel_rfl) (by kernel_rfl) (by kernel_rfl) (fun _ _ _ h => h) ⟨Or.inl ⟨by rfl, ?_⟩, fun _ => rfl⟩ ?_
    rotate_left
    focus (intro w; go_simp; try with_reducible rfl)
    (try simp only [Act.put, List.getElem_toArray, List.getElem_cons_succ, List.getElem_cons_zero, List.setIfInBounds_toArray, List.set_cons_zero, List.set_cons_succ])
    refine wpAnyIn_take (i := 7) (v := ?_) rfl rfl (by kernel_rfl) (by kernel_rfl) (by kernel_rfl) (fun _ _ _ h => h) ⟨Or.inl ⟨by rfl, ?_⟩, fun _ => rfl⟩ ?_
    rotate_left
    focus (intro w; go_simp; try with_reducible rfl)
    (try simp only [Act.put, List.getElem_toArray, List.getElem_cons_succ, List.getElem_cons_zero, List.setIfInBounds_toArray, List.set_cons_zero, List.set_cons_succ])
    refine wpAnyIn_ready (rs := [6]) (by kernel_rfl) (by simp) (AllReadyIn.cons rfl (fun K hK => ?_) AllReadyIn.nil)
    go_simp
    refine hK _ _ ?_
    clear hK K
    refine wpAnyIn_ready (rs := [8]) (by kernel_rfl) (by simp) (AllReadyIn.cons rfl (fun K hK => ?_) AllReadyIn.nil)
    go_simp
    refine ⟨trivial, fun h => (by cases h), ?_⟩
    refine (ihl (n - 1) pre _ (T.At.kp (A := W) (B := W.drew) (fun c cs hc => hc) ht.2.1) (hJd _ W W.drew ⟨rfl, rfl, rfl, Nat.le_refl _, fun _ _ _ => rfl⟩ hJ) (by omega)).mono ?_
    rintro e W1 (⟨rfl, hJ1, hb1⟩ | ⟨rfl, q, hq, hx1⟩)
    all_goals dsimp only
    all_goals refine hK _ _ ?_
    all_goals clear hK K
    · have hbw : KpT W W1 := fun c cs hc => hb1 c cs hc
      have e0 : W1.cell? ⟨b, 0, none⟩ = some (.string k) := by rw [(hbw b _ ht.1).cell]; rfl
      have e1 : W1.cell? ⟨b, 1, none⟩ = some (.int .i64 v.pos.e) := by rw [(hbw b _ ht.1).cell]; rfl
      have e2 : W1.cell? ⟨b, 2, none⟩ = some (.int .i64 v.pos.i) := by rw [(hbw b _ ht.1).cell]; rfl
      have e3 : W1.cell? ⟨b, 3, none⟩ = some (.bool v.th) := by rw [(hbw b _ ht.1).cell]; rfl
      have e4 : W1.cell? ⟨b, 4, none⟩ = some (.string v.t) := by rw [(hbw b _ ht.1).cell]; rfl
      obtain ⟨fn, tmps, assign, body, hy, hR⟩ := hY (n - 1) (pre ++ tl.list) (k, v) W1 hJ1 (by simp; omega)
      unfold encKV at hy
      dsimp only at hy
      refine wpAnyIn_take (i := 9) (v := ?_) rfl rfl (by kernel_rfl) (by kernel_rfl) (by kernel_rfl) (fun _ _ _ h => h) ⟨Or.inl ⟨by rfl, ?_⟩, fun _ => rfl⟩ ?_
      rotate_left
      focus (intro w; go_simp; try with_reducible rfl)
      (try simp only [Act.put, List.getElem_toArray, List.getElem_cons_succ, List.getElem_cons_zero, List.setIfInBounds_toArray, List.set_cons_zero, List.set_cons_succ])
      refine wpAnyIn_take (i := 10) (v := ?_) rfl rfl (by kernel_rfl) (by kernel_rfl) (by kernel_rfl) (fun _ _ _ h => h) ⟨Or.inl ⟨by rfl, ?_⟩, fun _ => rfl⟩ ?_
      rotate_left
      focus (intro w; go_simp; try with_reducible rfl)
      (try simp only [Act.put, List.getElem_toArray, List.getElem_cons_succ, List.getElem_cons_zero, List.setIfInBounds_toArray, List.set_cons_zero, List.set_cons_succ])
      refine wpAnyIn_take (i := 11) (v := ?_) rfl rfl (by kernel_rfl) (by kernel_rfl) (by kernel_rfl) (fun _ _ _ h => h) ⟨Or.inl ⟨by rfl, ?_⟩, fun _ => rfl⟩ ?_
      rotate_left
      focus (intro w; go_simp; try with_reducible rfl)
      (try simp only [Act.put, List.getElem_toArray, List.getElem_cons_succ, List.getElem_cons_zero, List.setIfInBounds_toArray, List.set_cons_zero, List.set_cons_succ])
      refine wpAnyIn_take (i := 12) (v := ?_) rfl rfl (by kernel_rfl) (by kernel_rfl) (by kernel_rfl) (fun _ _ _ h => h) ⟨Or.inl ⟨by rfl, ?_⟩, fun _ => rfl⟩ ?_
      rotate_left
      focus (intro w; go_simp; try with_reducible rfl)
      (try simp only [Act.put, List.getElem_toArray, List.getElem_cons_succ, List.getElem_cons_zero, List.setIfInBounds_toArray, List.set_cons_zero, List.set_cons_succ])
      refine wpAnyIn_take (i := 13) (v := ?_) rfl rfl (by kernel_rfl) (by kernel_rfl) (by kernel_rfl) (fun _ _ _ h => h) ⟨Or.inl ⟨by rfl, ?_⟩, fun _ => rfl⟩ ?_
      rotate_left
      focus (intro w; go_simp; try with_reducible rfl)
      (try simp only [Act.put, List.getElem_toArray, List.getElem_cons_succ, List.getElem_cons_zero, List.setIfInBounds_toArray, List.set_cons_zero, List.set_cons_succ])
      refine wpAnyIn_take (i := 15) (v := ?_) rfl rfl (by kernel_rfl) (by kernel_rfl) (by kernel_rfl) (fun _ _ _ h => h) ⟨Or.inl ⟨by rfl, ?_⟩, fun _ => rfl⟩ ?_
      rotate_left
      focus (intro w; go_simp; try with_reducible rfl)
      (try simp only [Act.put, List.getElem_toArray, List.getElem_cons_succ, List.getElem_cons_zero, List.setIfInBounds_toArray, List.set_cons_zero, List.set_cons_succ])
      refine wpAnyIn_take (i := 16) (v := ?_) rfl rfl (by kernel_rfl) (by kernel_rfl) (by kernel_rfl) (fun _ _ _ h => h) ⟨Or.inl ⟨by rfl, ?_⟩, fun _ => rfl⟩ ?_
      rotate_left
      focus (intro w; go_simp; try with_reducible rfl)
      (try simp only [Act.put, List.getElem_toArray, List.getElem_cons_succ, List.getElem_cons_zero, List.setIfInBounds_toArray, List.set_cons_zero, List.set_cons_succ])
      refine wpAnyIn_take (i := 17) (v := ?_) rfl rfl (by kernel_rfl) (by kernel_rfl) (by kernel_rfl) (fun _ _ _ h => h) ⟨Or.inl ⟨by rfl, ?_⟩, fun _ => rfl⟩ ?_
      rotate_left
      focus (intro w; go_simp; try with_reducible rfl)
      (try simp only [Act.put, List.getElem_toArray, List.getElem_cons_succ, List.getElem_cons_zero, List.setIfInBounds_toArray, List.set_cons_zero, List.set_cons_succ])
      refine (fun (key : ?T) => ?main) ?rest
      case main =>
        refine wpAnyIn_ready (rs := [14, 18]) (by kernel_rfl) (by simp) (AllReadyIn.cons rfl (fun K hK => ?_) (AllReadyIn.cons rfl (fun K hK => ?_) AllReadyIn.nil))
        · go_simp
          refine hK _ _ ?_
          clear hK K
          refine wpAnyIn_ready (rs := [18]) (by kernel_rfl) (by simp) (AllReadyIn.cons rfl (fun K hK => ?_) AllReadyIn.nil)
          go_simp
          refine hK _ _ ?_
          clear hK K
          exact key
        · go_simp
          refine hK _ _ ?_
          clear hK K
          refine wpAnyIn_ready (rs := [14]) (by kernel_rfl) (by simp) (AllReadyIn.cons rfl (fun K hK => ?_) AllReadyIn.nil)
          go_simp
          refine hK _ _ ?_
          clear hK K
          exact key
      refine wpAnyIn_ready (rs := [19]) (by kernel_rfl) (by simp) (AllReadyIn.cons rfl (fun K hK => ?_) AllReadyIn.nil)
      go_simp
      refine ⟨fun h => (by cases h), ?_⟩
      refine hR.mono ?_
      rintro e W2 (⟨rfl, hJ2, hb2⟩ | ⟨rfl, hx2⟩)
      all_goals dsimp only
      all_goals refine hK _ _ ?_
      all_goals clear hK K
      · have hb12 : KpT W W2 := hbw.trans hb2
        have f7 : W2.cell? ⟨b, 7, none⟩ = some (.pointer tr.ptr) := by rw [(hb12 b _ ht.1).cell]; rfl
        refine wpAnyIn_take (i := 20) (v := ?_) rfl rfl (by kernel_rfl) (by kernel_rfl) (by kernel_rfl) (fun _ _ _ h => h) ⟨Or.inl ⟨by rfl, ?_⟩, fun _ => rfl⟩ ?_
        rotate_left
        focus (intro w; go_simp; try with_reducible rfl)
        (try simp only [Act.put, List.getElem_toArray, List.getElem_cons_succ, List.getElem_cons_zero, List.setIfInBounds_toArray, List.set_cons_zero, List.set_cons_succ])
        refine wpAnyIn_take (i := 21) (v := ?_) rfl rfl (by kernel_rfl) (by kernel_rfl) (by kernel_rfl) (fun _ _ _ h => h) ⟨Or.inl ⟨by rfl, ?_⟩, fun _ => rfl⟩ ?_
        rotate_left
        focus (intro w; go_simp; try with_reducible rfl)
        (try simp only [Act.put, List.getElem_toArray, List.getElem_cons_succ, List.getElem_cons_zero, List.setIfInBounds_toArray, List.set_cons_zero, List.set_cons_succ])
        refine wpAnyIn_take (i := 22) (v := ?_) rfl rfl (by kernel_rfl) (by kernel_rfl) (by kernel_rfl) (fun _ _ _ h => h) ⟨Or.inl ⟨by rfl, ?_⟩, fun _ => rfl⟩ ?_
        rotate_left
        focus (intro w; go_simp; try with_reducible rfl)
        (try simp only [Act.put, List.getElem_toArray, List.getElem_cons_succ, List.getElem_cons_zero, List.setIfInBounds_toArray, List.set_cons_zero, List.set_cons_succ])
        refine wpAnyIn_take (i := 23) (v := ?_) rfl rfl (by kernel_rfl) (by kernel_rfl) (by kernel_rfl) (fun _ _ _ h => h) ⟨Or.inl ⟨by rfl, ?_⟩, fun _ => rfl⟩ ?_
        rotate_left
        focus (intro w; go_simp; try with_reducible rfl)
        (try simp only [Act.put, List.getElem_toArray, List.getElem_cons_succ, List.getElem_cons_zero, List.setIfInBounds_toArray, List.set_cons_zero, List.set_cons_succ])
        refine wpAnyIn_take (i := 24) (v := ?_) rfl rfl (by kernel_rfl) (by kernel_rfl) (by kernel_rfl) (fun _ _ _ h => h) ⟨Or.inl ⟨by rfl, ?_⟩, fun _ => rfl⟩ ?_
        rotate_left
        focus (intro w; go_simp; try with_reducible rfl)
        (try simp only [Act.put, List.getElem_toArray, List.getElem_cons_succ, List.getElem_cons_zero, List.setIfInBounds_toArray, List.set_cons_zero, List.set_cons_succ])
        refine wpAnyIn_take (i := 26) (v := ?_) rfl rfl (by kernel_rfl) (by kernel_rfl) (by kernel_rfl) (fun _ _ _ h => h) ⟨Or.inl ⟨by rfl, ?_⟩, fun _ => rfl⟩ ?_
        rotate_left
        focus (intro w; go_simp; try with_reducible rfl)
        (try simp only [Act.put, List.getElem_toArray, List.getElem_cons_succ, List.getElem_cons_zero, List.setIfInBounds_toArray, List.set_cons_zero, List.set_cons_succ])
        refine wpAnyIn_ready (rs := [25]) (by kernel_rfl) (by simp) (AllReadyIn.cons rfl (fun K hK => ?_) AllReadyIn.nil)
        go_simp
        refine hK _ _ ?_
        clear hK K
        refine wpAnyIn_ready (rs := [27]) (by kernel_rfl) (by simp) (AllReadyIn.cons rfl (fun K hK => ?_) AllReadyIn.nil)
        go_simp
        refine ⟨trivial, fun h => (by cases h), ?_⟩
        refine (ihr (n - 1) (pre ++ tl.list ++ [(k, v)]) W2 (T.At.kp hb12 ht.2.2) hJ2 (by simp; omega)).mono ?_
        rintro e W3 (⟨rfl, hJ3, hb3⟩ | ⟨rfl, q, hq, hx3⟩)
        all_goals dsimp only
        all_goals refine hK _ _ ?_
        all_goals clear hK K
        · clear hJ2 hJ1
          refine wpAnyIn_take (i := 28) (v := ?_) rfl rfl (by kernel_rfl) (by kernel_rfl) (by kernel_rfl) (fun _ _ _ h => h) ⟨Or.inl ⟨by rfl, ?_⟩, fun _ => rfl⟩ ?_
          rotate_left
          focus (intro w; go_simp; try with_reducible rfl)
          (try simp only [Act.put, List.getElem_toArray, List.getElem_cons_succ, List.getElem_cons_zero, List.setIfInBounds_toArray, List.set_cons_zero, List.set_cons_succ])
          refine wpAnyIn_take (i := 29) (v := ?_) rfl rfl (by kernel_rfl) (by kernel_rfl) (by kernel_rfl) (fun _ _ _ h => h) ⟨Or.inl ⟨by rfl, ?_⟩, fun _ => rfl⟩ ?_
          rotate_left
          focus (intro w; go_simp; try with_reducible rfl)
          (try simp only [Act.put, List.getElem_toArray, List.getElem_cons_succ, List.getElem_cons_zero, List.setIfInBounds_toArray, List.set_cons_zero, List.set_cons_succ])
          refine wpAnyIn_take (i := 30) (v := ?_) rfl rfl (by kernel_rfl) (by kernel_rfl) (by kernel_rfl) (fun _ _ _ h => h) ⟨Or.inl ⟨by rfl, ?_⟩, fun _ => rfl⟩ ?_
          rotate_left
          focus (intro w; go_simp; try with_reducible rfl)
          (try simp only [Act.put, List.getElem_toArray, List.getElem_cons_succ, List.getElem_cons_zero, List.setIfInBounds_toArray, List.set_cons_zero, List.set_cons_succ])
          refine wpAnyIn_done (by kernel_rfl) ?_ _
          gi_wp2
          go_ret
          exact .inl ⟨rfl, by simpa [T.list, List.append_assoc] using hJ3, hb12.trans hb3⟩
        · clear hJ2 hJ1
          refine wpAnyIn_take (i := 28) (v := ?_) rfl rfl (by kernel_rfl) (by kernel_rfl) (by kernel_rfl) (fun _ _ _ h => h) ⟨Or.inl ⟨by rfl, ?_⟩, fun _ => rfl⟩ ?_
          rotate_left
          focus (intro w; go_simp; try with_reducible rfl)
          (try simp only [Act.put, List.getElem_toArray, List.getElem_cons_succ, List.getElem_cons_zero, List.setIfInBounds_toArray, List.set_cons_zero, List.set_cons_succ])
          refine wpAnyIn_take (i := 29) (v := ?_) rfl rfl (by kernel_rfl) (by kernel_rfl) (by kernel_rfl) (fun _ _ _ h => h) ⟨Or.inl ⟨by rfl, ?_⟩, fun _ => rfl⟩ ?_
          rotate_left
          focus (intro w; go_simp; try with_reducible rfl)
          (try simp only [Act.put, List.getElem_toArray, List.getElem_cons_succ, List.getElem_cons_zero, List.setIfInBounds_toArray, List.set_cons_zero, List.set_cons_succ])
          refine wpAnyIn_take (i := 30) (v := ?_) rfl rfl (by kernel_rfl) (by kernel_rfl) (by kernel_rfl) (fun _ _ _ h => h) ⟨Or.inl ⟨by rfl, ?_⟩, fun _ => rfl⟩ ?_
          rotate_left
          focus (intro w; go_simp; try with_reducible rfl)
          (try simp only [Act.put, List.getElem_toArray, List.getElem_cons_succ, List.getElem_cons_zero, List.setIfInBounds_toArray, List.set_cons_zero, List.set_cons_succ])
          refine wpAnyIn_done (by kernel_rfl) ?_ _
          gi_wp2
          go_ret
          obtain ⟨r, hr'⟩ := hq
          exact .inr ⟨rfl, tl.list ++ (k, v) :: q, ⟨r, by simp [T.list, ← hr']⟩, by simpa [List.append_assoc] using hx3⟩
      · skip
        refine wpAnyIn_take (i := 20) (v := ?_) rfl rfl (by kernel_rfl) (by kernel_rfl) (by kernel_rfl) (fun _ _ _ h => h) ⟨Or.inl ⟨by rfl, ?_⟩, fun _ => rfl⟩ ?_
        rotate_left
        focus (intro w; go_simp; try with_reducible rfl)
        (try simp only [Act.put, List.getElem_toArray, List.getElem_cons_succ, List.getElem_cons_zero, List.setIfInBounds_toArray, List.set_cons_zero, List.set_cons_succ])
        refine wpAnyIn_take (i := 21) (v := ?_) rfl rfl (by kernel_rfl) (by kernel_rfl) (by kernel_rfl) (fun _ _ _ h => h) ⟨Or.inl ⟨by rfl, ?_⟩, fun _ => rfl⟩ ?_
        rotate_left
        focus (intro w; go_simp; try with_reducible rfl)
        (try simp only [Act.put, List.getElem_toArray, List.getElem_cons_succ, List.getElem_cons_zero, List.setIfInBounds_toArray, List.set_cons_zero, List.set_cons_succ])
        refine wpAnyIn_take (i := 22) (v := undef) rfl rfl (by kernel_rfl) (by kernel_rfl) (by kernel_rfl) (fun _ _ _ h => h) ⟨Or.inr ⟨by rfl, rfl⟩, fun _ => rfl⟩ ?_
        (try simp only [Act.put, List.getElem_toArray, List.getElem_cons_succ, List.getElem_cons_zero, List.setIfInBounds_toArray, List.set_cons_zero, List.set_cons_succ])
        refine wpAnyIn_take (i := 23) (v := undef) rfl rfl (by kernel_rfl) (by kernel_rfl) (by kernel_rfl) (fun _ _ _ h => h) ⟨Or.inr ⟨by rfl, rfl⟩, fun _ => rfl⟩ ?_
        (try simp only [Act.put, List.getElem_toArray, List.getElem_cons_succ, List.getElem_cons_zero, List.setIfInBounds_toArray, List.set_cons_zero, List.set_cons_succ])
        refine wpAnyIn_take (i := 24) (v := undef) rfl rfl (by kernel_rfl) (by kernel_rfl) (by kernel_rfl) (fun _ _ _ h => h) ⟨Or.inr ⟨by rfl, rfl⟩, fun _ => rfl⟩ ?_
        (try simp only [Act.put, List.getElem_toArray, List.getElem_cons_succ, List.getElem_cons_zero, List.setIfInBounds_toArray, List.set_cons_zero, List.set_cons_succ])
        refine wpAnyIn_take (i := 25) (v := undef) rfl rfl (by kernel_rfl) (by kernel_rfl) (by kernel_rfl) (fun _ _ _ h => h) ⟨Or.inr ⟨by rfl, rfl⟩, fun _ => rfl⟩ ?_
        (try simp only [Act.put, List.getElem_toArray, List.getElem_cons_succ, List.getElem_cons_zero, List.setIfInBounds_toArray, List.set_cons_zero, List.set_cons_succ])
        refine wpAnyIn_take (i := 26) (v := undef) rfl rfl (by kernel_rfl) (by kernel_rfl) (by kernel_rfl) (fun _ _ _ h => h) ⟨Or.inr ⟨by rfl, rfl⟩, fun _ => rfl⟩ ?_
        (try simp only [Act.put, List.getElem_toArray, List.getElem_cons_succ, List.getElem_cons_zero, List.setIfInBounds_toArray, List.set_cons_zero, List.set_cons_succ])
        refine wpAnyIn_ready (rs := [27]) (by kernel_rfl) (by simp) (AllReadyIn.cons rfl (fun K hK => ?_) AllReadyIn.nil)
        go_simp
        first | refine hK _ _ ?_ | refine ⟨trivial, hK _ _ ?_⟩ | refine ⟨fun _ _ => trivial, hK _ _ ?_⟩
        clear hK K
        refine wpAnyIn_take (i := 28) (v := ?_) rfl rfl (by kernel_rfl) (by kernel_rfl) (by kernel_rfl) (fun _ _ _ h => h) ⟨Or.inl ⟨by rfl, ?_⟩, fun _ => rfl⟩ ?_
        rotate_left
        focus (intro w; go_simp; try with_reducible rfl)
        (try simp only [Act.put, List.getElem_toArray, List.getElem_cons_succ, List.getElem_cons_zero, List.setIfInBounds_toArray, List.set_cons_zero, List.set_cons_succ])
        refine wpAnyIn_take (i := 29) (v := ?_) rfl rfl (by kernel_rfl) (by kernel_rfl) (by kernel_rfl) (fun _ _ _ h => h) ⟨Or.inl ⟨by rfl, ?_⟩, fun _ => rfl⟩ ?_
        rotate_left
        focus (intro w; go_simp; try with_reducible rfl)
        (try simp only [Act.put, List.getElem_toArray, List.getElem_cons_succ, List.getElem_cons_zero, List.setIfInBounds_toArray, List.set_cons_zero, List.set_cons_succ])
        refine wpAnyIn_take (i := 30) (v := ?_) rfl rfl (by kernel_rfl) (by kernel_rfl) (by kernel_rfl) (fun _ _ _ h => h) ⟨Or.inl ⟨by rfl, ?_⟩, fun _ => rfl⟩ ?_
        rotate_left
        focus (intro w; go_simp; try with_reducible rfl)
        (try simp only [Act.put, List.getElem_toArray, List.getElem_cons_succ, List.getElem_cons_zero, List.setIfInBounds_toArray, List.set_cons_zero, List.set_cons_succ])
        refine wpAnyIn_done (by kernel_rfl) ?_ _
        gi_wp2
        go_ret
        exact .inr ⟨rfl, tl.list ++ [(k, v)], ⟨tr.list, by simp [T.list]⟩, by simpa [List.append_assoc] using hx2⟩
    · skip
      refine wpAnyIn_take (i := 9) (v := ?_) rfl rfl (by kernel_rfl) (by kernel_rfl) (by kernel_rfl) (fun _ _ _ h => h) ⟨Or.inl ⟨by rfl, ?_⟩, fun _ => rfl⟩ ?_
      rotate_left
      focus (intro w; go_simp; try with_reducible rfl)
      (try simp only [Act.put, List.getElem_toArray, List.getElem_cons_succ, List.getElem_cons_zero, List.setIfInBounds_toArray, List.set_cons_zero, List.set_cons_succ])
      refine wpAnyIn_take (i := 10) (v := undef) rfl rfl (by kernel_rfl) (by kernel_rfl) (by kernel_rfl) (fun _ _ _ h => h) ⟨Or.inr ⟨by rfl, rfl⟩, fun _ => rfl⟩ ?_
      (try simp only [Act.put, List.getElem_toArray, List.getElem_cons_succ, List.getElem_cons_zero, List.setIfInBounds_toArray, List.set_cons_zero, List.set_cons_succ])
      refine wpAnyIn_take (i := 11) (v := undef) rfl rfl (by kernel_rfl) (by kernel_rfl) (by kernel_rfl) (fun _ _ _ h => h) ⟨Or.inr ⟨by rfl, rfl⟩, fun _ => rfl⟩ ?_
      (try simp only [Act.put, List.getElem_toArray, List.getElem_cons_succ, List.getElem_cons_zero, List.setIfInBounds_toArray, List.set_cons_zero, List.set_cons_succ])
      refine wpAnyIn_take (i := 12) (v := undef) rfl rfl (by kernel_rfl) (by kernel_rfl) (by kernel_rfl) (fun _ _ _ h => h) ⟨Or.inr ⟨by rfl, rfl⟩, fun _ => rfl⟩ ?_
      (try simp only [Act.put, List.getElem_toArray, List.getElem_cons_succ, List.getElem_cons_zero, List.setIfInBounds_toArray, List.set_cons_zero, List.set_cons_succ])
      refine wpAnyIn_take (i := 13) (v := undef) rfl rfl (by kernel_rfl) (by kernel_rfl) (by kernel_rfl) (fun _ _ _ h => h) ⟨Or.inr ⟨by rfl, rfl⟩, fun _ => rfl⟩ ?_
      (try simp only [Act.put, List.getElem_toArray, List.getElem_cons_succ, List.getElem_cons_zero, List.setIfInBounds_toArray, List.set_cons_zero, List.set_cons_succ])
      refine wpAnyIn_take (i := 14) (v := undef) rfl rfl (by kernel_rfl) (by kernel_rfl) (by kernel_rfl) (fun _ _ _ h => h) ⟨Or.inr ⟨by rfl, rfl⟩, fun _ => rfl⟩ ?_
      (try simp only [Act.put, List.getElem_toArray, List.getElem_cons_succ, List.getElem_cons_zero, List.setIfInBounds_toArray, List.set_cons_zero, List.set_cons_succ])
      refine wpAnyIn_take (i := 15) (v := undef) rfl rfl (by kernel_rfl) (by kernel_rfl) (by kernel_rfl) (fun _ _ _ h => h) ⟨Or.inr ⟨by rfl, rfl⟩, fun _ => rfl⟩ ?_
      (try simp only [Act.put, List.getElem_toArray, List.getElem_cons_succ, List.getElem_cons_zero, List.setIfInBounds_toArray, List.set_cons_zero, List.set_cons_succ])
      refine wpAnyIn_take (i := 16) (v := undef) rfl rfl (by kernel_rfl) (by kernel_rfl) (by kernel_rfl) (fun _ _ _ h => h) ⟨Or.inr ⟨by rfl, rfl⟩, fun _ => rfl⟩ ?_
      (try simp only [Act.put, List.getElem_toArray, List.getElem_cons_succ, List.getElem_cons_zero, List.setIfInBounds_toArray, List.set_cons_zero, List.set_cons_succ])
      refine wpAnyIn_take (i := 17) (v := undef) rfl rfl (by kernel_rfl) (by kernel_rfl) (by kernel_rfl) (fun _ _ _ h => h) ⟨Or.inr ⟨by rfl, rfl⟩, fun _ => rfl⟩ ?_
      (try simp only [Act.put, List.getElem_toArray, List.getElem_cons_succ, List.getElem_cons_zero, List.setIfInBounds_toArray, List.set_cons_zero, List.set_cons_succ])
      refine wpAnyIn_take (i := 18) (v := undef) rfl rfl (by kernel_rfl) (by kernel_rfl) (by kernel_rfl) (fun _ _ _ h => h) ⟨Or.inr ⟨by rfl, rfl⟩, fun _ => rfl⟩ ?_
      (try simp only [Act.put, List.getElem_toArray, List.getElem_cons_succ, List.getElem_cons_zero, List.setIfInBounds_toArray, List.set_cons_zero, List.set_cons_succ])
      refine wpAnyIn_take (i := 19) (v := undef) rfl rfl (by kernel_rfl) (by kernel_rfl) (by kernel_rfl) (fun _ _ _ h => h) ⟨Or.inr ⟨by rfl, rfl⟩, fun _ => rfl⟩ ?_
      (try simp only [Act.put, List.getElem_toArray, List.getElem_cons_succ, List.getElem_cons_zero, List.setIfInBounds_toArray, List.set_cons_zero, List.set_cons_succ])
      refine wpAnyIn_take (i := 20) (v := ?_) rfl rfl (by kernel_rfl) (by kernel_rfl) (by kernel_rfl) (fun _ _ _ h => h) ⟨Or.inl ⟨by rfl, ?_⟩, fun _ => rfl⟩ ?_
      rotate_left
      focus (intro w; go_simp; try with_reducible rfl)
      (try simp only [Act.put, List.getElem_toArray, List.getElem_cons_succ, List.getElem_cons_zero, List.setIfInBounds_toArray, List.set_cons_zero, List.set_cons_succ])
      refine wpAnyIn_take (i := 21) (v := ?_) rfl rfl (by kernel_rfl) (by kernel_rfl) (by kernel_rfl) (fun _ _ _ h => h) ⟨Or.inl ⟨by rfl, ?_⟩, fun _ => rfl⟩ ?_
      rotate_left
      focus (intro w; go_simp; try with_reducible rfl)
      (try simp only [Act.put, List.getElem_toArray, List.getElem_cons_succ, List.getElem_cons_zero, List.setIfInBounds_toArray, List.set_cons_zero, List.set_cons_succ])
      refine wpAnyIn_take (i := 22) (v := undef) rfl rfl (by kernel_rfl) (by kernel_rfl) (by kernel_rfl) (fun _ _ _ h => h) ⟨Or.inr ⟨by rfl, rfl⟩, fun _ => rfl⟩ ?_
      (try simp only [Act.put, List.getElem_toArray, List.getElem_cons_succ, List.getElem_cons_zero, List.setIfInBounds_toArray, List.set_cons_zero, List.set_cons_succ])
      refine wpAnyIn_take (i := 23) (v := undef) rfl rfl (by kernel_rfl) (by kernel_rfl) (by kernel_rfl) (fun _ _ _ h => h) ⟨Or.inr ⟨by rfl, rfl⟩, fun _ => rfl⟩ ?_
      (try simp only [Act.put, List.getElem_toArray, List.getElem_cons_succ, List.getElem_cons_zero, List.setIfInBounds_toArray, List.set_cons_zero, List.set_cons_succ])
      refine wpAnyIn_take (i := 24) (v := undef) rfl rfl (by kernel_rfl) (by kernel_rfl) (by kernel_rfl) (fun _ _ _ h => h) ⟨Or.inr ⟨by rfl, rfl⟩, fun _ => rfl⟩ ?_
      (try simp only [Act.put, List.getElem_toArray, List.getElem_cons_succ, List.getElem_cons_zero, List.setIfInBounds_toArray, List.set_cons_zero, List.set_cons_succ])
      refine wpAnyIn_take (i := 25) (v := undef) rfl rfl (by kernel_rfl) (by kernel_rfl) (by kernel_rfl) (fun _ _ _ h => h) ⟨Or.inr ⟨by rfl, rfl⟩, fun _ => rfl⟩ ?_
      (try simp only [Act.put, List.getElem_toArray, List.getElem_cons_succ, List.getElem_cons_zero, List.setIfInBounds_toArray, List.set_cons_zero, List.set_cons_succ])
      refine wpAnyIn_take (i := 26) (v := undef) rfl rfl (by kernel_rfl) (by kernel_rfl) (by kernel_rfl) (fun _ _ _ h => h) ⟨Or.inr ⟨by rfl, rfl⟩, fun _ => rfl⟩ ?_
      (try simp only [Act.put, List.getElem_toArray, List.getElem_cons_succ, List.getElem_cons_zero, List.setIfInBounds_toArray, List.set_cons_zero, List.set_cons_succ])
      refine wpAnyIn_ready (rs := [27]) (by kernel_rfl) (by simp) (AllReadyIn.cons rfl (fun K hK => ?_) AllReadyIn.nil)
      go_simp
      first | refine hK _ _ ?_ | refine ⟨trivial, hK _ _ ?_⟩ | refine ⟨fun _ _ => trivial, hK _ _ ?_⟩
      clear hK K
      refine wpAnyIn_take (i := 28) (v := ?_) rfl rfl (by kernel_rfl) (by kernel_rfl) (by kernel_rfl) (fun _ _ _ h => h) ⟨Or.inl ⟨by rfl, ?_⟩, fun _ => rfl⟩ ?_
      rotate_left
      focus (intro w; go_simp; try with_reducible rfl)
      (try simp only [Act.put, List.getElem_toArray, List.getElem_cons_succ, List.getElem_cons_zero, List.setIfInBounds_toArray, List.set_cons_zero, List.set_cons_succ])
      refine wpAnyIn_take (i := 29) (v := ?_) rfl rfl (by kernel_rfl) (by kernel_rfl) (by kernel_rfl) (fun _ _ _ h => h) ⟨Or.inl ⟨by rfl, ?_⟩, fun _ => rfl⟩ ?_
      rotate_left
      focus (intro w; go_simp; try with_reducible rfl)
      (try simp only [Act.put, List.getElem_toArray, List.getElem_cons_succ, List.getElem_cons_zero, List.setIfInBounds_toArray, List.set_cons_zero, List.set_cons_succ])
      refine wpAnyIn_take (i := 30) (v := ?_) rfl rfl (by kernel_rfl) (by kernel_rfl) (by kernel_rfl) (fun _ _ _ h => h) ⟨Or.inl ⟨by rfl, ?_⟩, fun _ => rfl⟩ ?_
      rotate_left
      focus (intro w; go_simp; try with_reducible rfl)
      (try simp only [Act.put, List.getElem_toArray, List.getElem_cons_succ, List.getElem_cons_zero, List.setIfInBounds_toArray, List.set_cons_zero, List.set_cons_succ])
      refine wpAnyIn_done (by kernel_rfl) ?_ _
      gi_wp2
      go_ret
      exact .inr ⟨rfl, q, hq.trans (List.prefix_append _ _), hx1⟩

end Go.Proofs.Ytedcdjlpogpgbaa

/- Layer 5: All of a map: the function value that it hands back, and what that does. -/
set_option linter.unusedVariables false
set_option linter.unusedSimpArgs false
namespace Go.Proofs.Ytedcdjlpogpgbaa
open Go.RowKit Go.Shelf

theorem grown_of_below {W W' : World} (h : Below W.heap.size W W') : W.grownBy W' none := ⟨h.os, h.tape, h.output, h.size, fun k hk _ => h.block k hk⟩

set_option maxRecDepth 100000 in
set_option maxHeartbeats 4000000 in
theorem all1_in (l n Bn m : Nat) (t : T) (J Jx : List KV → World → Prop) (hJd : ∀ pre W W', W.grownBy W' none → J pre W → J pre W')
    (hY : ∀ pre x W, J pre W → pre.length < t.list.length → YieldAt Fence.wide (n - 1) Try.prog l (encKV x) W fun e W' =>
      (e = .returned (.bool true) ∧ J (pre ++ [x]) W' ∧ KpT W W') ∨ (e = .returned (.bool false) ∧ Jx (pre ++ [x]) W'))
    (W : World) (hBn : W.cell? ⟨Bn, 0, none⟩ = some (.pointer (some ⟨m, 0, none⟩))) (hM : MapAt W m t) (h0 : J [] W) :
    CallsIn Fence.wide n Try.prog 87 #[.func (.yield l) #[] #[], .pointer (some ⟨Bn, 0, none⟩)] W fun e W' => (∃ v, e = .returned v) ∧
      ((∃ ys, ys = t.list ∧ J ys W') ∨ (∃ pre, pre <+: t.list ∧ Jx pre W')) := by
  refine callsIn_wide.2 ?_
  have HM := Lib.hid hM
  have HY := Lib.hid hY
  have HJD := Lib.hid hJd
  have H0 := Lib.hid h0
  clear hM hY hJd h0
  go_enter Try.func87, Try.ntmps87
  go_wp2_with fail
  refine (Copy_map m t W HM.out).mono ?_
  rintro e w1 ⟨m', t', rfl, hd⟩
  have HD := Lib.hid hd
  obtain ⟨k, hk⟩ := hd.blk
  have hkl := hk.lt
  have c0 : World.cell? w1 ⟨m', 0, none⟩ = some (.pointer t'.ptr) := by rw [Blk.cell hk]; rfl
  have c1 : World.cell? w1 ⟨m', 1, none⟩ = some (.int .i64 k) := by rw [Blk.cell hk]; rfl
  clear hd hk
  go_wp2_with fail
  refine (callsIn_wide.1 (walk_ok l t.list.length J Jx HJD.out (fun m pre x W hj hl => YieldAt.anyD rfl m (HY.out pre x W hj hl)) t' 0 [] w1 HD.out.tree (HJD.out _ W w1 (grown_of_below HD.out.below) H0.out) (by rw [HD.out.list]; simp))).mono ?_
  rintro e w2 (⟨rfl, hj, _⟩ | ⟨rfl, q, hq, hx⟩)
  · go_wp2_with fail
    go_end0
    exact ⟨⟨_, rfl⟩, .inl ⟨_, rfl, by rw [← HD.out.list]; exact hj⟩⟩
  · go_wp2_with fail
    go_end0
    exact ⟨⟨_, rfl⟩, .inr ⟨q, by rw [← HD.out.list]; exact hq, hx⟩⟩

set_option maxRecDepth 100000 in
set_option maxHeartbeats 4000000 in
theorem All_any (m : Nat) (w : World) : Calls Try.prog 73 #[.pointer (some ⟨m, 0, none⟩)] w fun e w' => e = .returned (.func (.func 87) #[] #[.pointer (some ⟨w.heap.size, 0, none⟩)]) ∧ w' = w.alloc (.cells #[.pointer (some ⟨m, 0, none⟩)] 88) := by
  go_enter Try.func73, Try.ntmps73
  go_wp2_with fail
  go_ret
  exact ⟨rfl, rfl⟩

/-- What All hands back gives the map's keys and values, in order; or a beginning of them. -/
theorem all_stops (n Bn m : Nat) (t : T) (w : World) (hc : w.cell? ⟨Bn, 0, none⟩ = some (.pointer (some ⟨m, 0, none⟩))) (hBn : Bn < w.heap.size) (hM : MapAt w m t) :
    SeqStopsK Fence.wide n Try.prog 87 #[.pointer (some ⟨Bn, 0, none⟩)] encKV KpT (fun ys => ys = t.list) (fun pre => pre <+: t.list) t.list.length w := fun l J Jx W hW hJ _ hY h0 =>
  all1_in l n Bn m t J Jx (fun pre A B hg hj => hJ pre A B none hj hg (fun r e => by cases e)) hY W ((hW.cell (p := ⟨Bn, 0, none⟩) hBn).trans hc) (hM.frm (F := fun _ => False) (Frm.ofBelow hW) (fun h => h) (fun _ _ h => h)) h0

end Go.Proofs.Ytedcdjlpogpgbaa

/- Layer 15: told: a fold as a snapshot. -/
set_option linter.unusedVariables false
set_option linter.unusedSimpArgs false
namespace Go.Proofs.Ytedcdjlpogpgbaa
open Go.RowKit Go.Shelf

attribute [local go_sem] Oper.semAt_some
def sortS (l : List Sn) : List Sn := l.mergeSort (fun x y => decide (x.s ≤ y.s))
def AllRes (l : List Sn) (w : World) (e : Ending) (w' : World) : Prop :=
  ∃ v, e = .returned v ∧ w'.ownsRow 0 69 4 v (sortS l).length (snsCells (sortS l)) ∧ (∀ c, v.ownBlock = some c → w.heap.size ≤ c) ∧ Below w.heap.size w w'
def ToldRes (p : Pos) (ps : List KV) (ss : List Sn) (w : World) (e : Ending) (w' : World) : Prop :=
  ∃ pv sv, e = .returned (.agg (snapVal p pv sv)) ∧ w'.ownsRow 0 67 5 pv ps.length (pairsCells ps) ∧ w'.ownsRow 0 69 4 sv ss.length (snsCells ss) ∧ (∀ c, pv.ownBlock = some c → w.heap.size ≤ c) ∧ (∀ c, sv.ownBlock = some c → w.heap.size ≤ c) ∧ Below w.heap.size w w'

def ToldMid (p : Pos) (ss : List Sn) (w : World) (v : Value) (wx : World) : Prop :=
  ∃ S sv, v = .pointer (some ⟨S, 0, none⟩) ∧ w.heap.size < S ∧ Blk wx S (snapVal p (.slice none 0 0) sv) 40 ∧ Blk wx w.heap.size (snapVal zeroPos (.slice none 0 0) (.slice none 0 0)) 40 ∧
    wx.ownsRow 0 69 4 sv ss.length (snsCells ss) ∧ (∀ c, sv.ownBlock = some c → w.heap.size ≤ c) ∧ Below w.heap.size w wx

/-- Between two rounds. -/
def ToldI (p : Pos) (n0 S R : Nat) (sv : Value) (ss : List Sn) (w : World) (pre : List KV) (W : World) : Prop :=
  ∃ v, Blk W S (snapVal p v sv) 40 ∧ Blk W R (snapVal zeroPos (.slice none 0 0) (.slice none 0 0)) 40 ∧ W.ownsRow w.heap.size 67 5 v pre.length (pairsCells pre) ∧
    W.ownsRow 0 69 4 sv ss.length (snsCells ss) ∧ Below w.heap.size w W ∧ n0 ≤ W.heap.size
theorem Blk.grown {X Y : World} {row : Option Nat} {b : Nat} {cs : Array Value} {t : TypeId} (h : Blk X b cs t) (hg : X.grownBy Y row) (hr : ∀ r, row = some r → ∃ o : Obj, X.heap[r]? = some o ∧ o.isCells = false) : Blk Y b cs t :=
  (hg.block b h.lt (fun e => by obtain ⟨o, ho, hc⟩ := hr b e.symm; unfold Blk at h; rw [h] at ho; cases ho; cases hc)).trans h
theorem own_grown {X Y : World} {row : Option Nat} {base k n : Nat} {e : TypeId} {v : Value} {xs : List Value} (h : X.ownsRow base e k v n xs) (hg : X.grownBy Y row) (hr : ∀ r, row = some r → ∃ o : Obj, X.heap[r]? = some o ∧ o.isCells = false) : Y.ownsRow base e k v n xs := by
  refine h.kept hg ?_
  rcases h.2 with ⟨rfl, _⟩ | ⟨g, cap, cur, rfl, _, hgb, _⟩
  · exact .inl rfl
  · refine .inr fun e' => ?_
    obtain ⟨o, ho, hc⟩ := hr g (by simpa [Value.ownBlock] using e'.symm)
    rw [hgb] at ho; cases ho; cases hc
theorem told_own (p : Pos) (n0 S R : Nat) (sv : Value) (ss : List Sn) (w : World) (B : Nat) (hB : w.heap.size ≤ B) : OwnFrom B (ToldI p n0 S R sv ss w) := by
  rintro pre X Y row ⟨v, h1, h2, h3, h4, h5, h6⟩ hg hr
  have hr2 : ∀ r, row = some r → ∃ o : Obj, X.heap[r]? = some o ∧ o.isCells = false := fun r e => (hr r e).2
  exact ⟨v, h1.grown hg hr2, h2.grown hg hr2, own_grown h3 hg hr2, own_grown h4 hg hr2, h5.grown hg h5.size (fun k e => Nat.le_trans hB (hr k e).1), Nat.le_trans h6 hg.size⟩
theorem kpT_book (B : Nat) (W : World) (l : Nat) (o o' : Obj) (_ : B ≤ l) (h : W.heap[l]? = some o) (hc : o.isCells = false) (_ : o.isWalk = false) : KpT W (W.putObj l o') := fun c cs hb =>
  hb.grown (row := some l) (grownBy_putObj' W l o') (fun r e => by cases e; exact ⟨o, h, hc⟩)
theorem pair_info : (Try.prog.info? 67).map (fun i => (i.zero, i.size, i.bytes)) = some (some (.agg #[.string ⟨#[]⟩, .int .i64 0, .int .i64 0, .bool false, .string ⟨#[]⟩]), 5, 56) := by kernel_rfl
theorem told_step {W w1 : World} {S : Nat} {i : Nat} {u : Value} {v : Value} {ob : Obj} (hg : (W.alloc ob).grownBy w1 v.ownBlock) {k : Nat} {o : Obj} (h : W.heap[k]? = some o) (hS : k ≠ S) (hv : v.ownBlock ≠ some k) : (w1.setCell ⟨S, i, none⟩ u).heap[k]? = some o := by
  have hk := (Array.getElem?_eq_some_iff.1 h).1
  rw [Below.heap_setCell _ _ _ _ hS, hg.block k (by simp; omega) (fun e => hv e.symm), Below.heap_alloc _ _ _ hk]
  exact h
theorem own_blk {X : World} {base k n : Nat} {e : TypeId} {v : Value} {xs : List Value} {c : Nat} (h : X.ownsRow base e k v n xs) (hc : v.ownBlock = some c) : base ≤ c ∧ ∃ cs : Array Value, Blk X c cs e := by
  rcases h.2 with ⟨rfl, _⟩ | ⟨g, cap, cur, rfl, hb, hgb, _⟩
  · cases hc
  · have : g = c := by simpa [Value.ownBlock] using hc
    subst this
    exact ⟨hb, _, hgb⟩
theorem res_cell {P : Program} {fn : Func} {tmps : Array Value} {w : World} {p : Tmp} {ty : TypeId} {b : Nat} {v : Value} (hr : fn.results = #[.cell p ty]) (ha : tmps.getD p undef = .pointer (some ⟨b, 0, none⟩)) (hl : Loads P ty b v w) : (results fn tmps).run P w = .ok v w := by
  unfold Loads at hl
  have ha' : tmps[p]?.getD undef = .pointer (some ⟨b, 0, none⟩) := by simpa using ha
  simp only [results, hr]
  simp [Sem.run_bind, ha', asAddr, hl]
theorem snap_agg (w : World) : (isAgg 40).run Try.prog w = .ok true w := by kernel_rfl
theorem snap_size (w : World) : (sizeOf 40).run Try.prog w = .ok 4 w := by kernel_rfl
theorem own_zero {X : World} {base k n : Nat} {e : TypeId} {v : Value} {xs : List Value} (h : X.ownsRow base e k v n xs) : X.ownsRow 0 e k v n xs := by
  refine ⟨h.1, ?_⟩
  rcases h.2 with h | ⟨g, cap, cur, hv, hb, h4, h5⟩
  · exact .inl h
  · exact .inr ⟨g, cap, cur, hv, Nat.zero_le _, h4, h5⟩
def kvVal (v : Val) : Array Value := #[.int .i64 v.pos.e, .int .i64 v.pos.i, .bool v.th, .string v.t]

set_option maxRecDepth 100000 in
set_option maxHeartbeats 8000000 in
theorem told_any (b kb sb mb : Nat) (t : T) (l : List Sn) (p : Pos) (cs : Array Value) (ty : TypeId) (w : World) (hb : Blk w b cs ty) (h0 : cs[0]? = some (.int .i64 p.e)) (h1 : cs[1]? = some (.int .i64 p.i)) (h2 : cs[2]? = some (.pointer (some ⟨kb, 0, none⟩))) (h3 : cs[3]? = some (.pointer (some ⟨sb, 0, none⟩)))
    (hf : FoldAt w kb sb mb t l) (hlen : t.list.length ≤ 1000000000) (hall : ∀ W : World, Below w.heap.size w W → Calls Try.prog 72 #[.pointer (some ⟨sb, 0, none⟩)] W (AllRes l W)) :
    Calls Try.prog 48 #[.pointer (some ⟨b, 0, none⟩)] w (ToldRes p t.list (sortS l) w) := by
  have HB := Lib.hid hb
  have HF := Lib.hid hf
  have HALL := Lib.hid hall
  have hbl := hb.lt
  have hcell : ∀ W : World, Below w.heap.size w W → W.cell? ⟨b, 0, none⟩ = some (.int .i64 p.e) ∧ W.cell? ⟨b, 1, none⟩ = some (.int .i64 p.i) ∧ W.cell? ⟨b, 2, none⟩ = some (.pointer (some ⟨kb, 0, none⟩)) ∧ W.cell? ⟨b, 3, none⟩ = some (.pointer (some ⟨sb, 0, none⟩)) := fun W hW => by
    have := (HB.out.below hW)
    exact ⟨by rw [this.cell]; exact h0, by rw [this.cell]; exact h1, by rw [this.cell]; exact h2, by rw [this.cell]; exact h3⟩
  have HC := Lib.hid hcell
  clear hb hf hall hcell h0 h1 h2 h3
  refine callsIn_wide.1 (callsIn_of_wp_marks (n := 9) Try.func48 rfl trivial ?_ rfl)
  refine wpIn_wide.2 ?_
  simp only [Try.ntmps48, List.size_toArray, List.length_cons, List.length_nil, Nat.reduceAdd, Nat.reduceSub, Array.replicate_succ, Array.replicate_zero, List.push_toArray, List.append_toArray, List.nil_append, List.cons_append]
  go_upto_region 1 with (fail)
  obtain ⟨c0, c1, c2, c3⟩ := HC.out w (Below.refl _ w)
  have ne1 : b ≠ w.heap.size := by omega
  have ne2 : b ≠ w.heap.size + 1 := by omega
  have ne3 : w.heap.size ≠ b := by omega
  have ne4 : w.heap.size + 1 ≠ b := by omega
  go_cut [3] from 6 to 15 (fun v wx => ToldMid p (sortS l) w v wx)
  case first =>
    go_region_held3 (fun W => W.cell? ⟨b, 0, none⟩ = some (.int .i64 p.e) ∧ W.cell? ⟨b, 1, none⟩ = some (.int .i64 p.i) ∧ W.cell? ⟨b, 3, none⟩ = some (.pointer (some ⟨sb, 0, none⟩))) (first | go_keep)
      (first
      | (go_at_call 72; refine (HALL.out _ (by (repeat' (first | with_reducible exact Below.refl _ _ | with_reducible refine below_drewN ?_ _ | with_reducible refine Below.drew ?_ | with_reducible refine Below.setCell ?_ (by first | exact Nat.le_refl _ | (simp; done) | (simp; omega) | omega) _ | with_reducible refine Below.alloc ?_ (by first | exact Nat.le_refl _ | (simp; done) | (simp; omega) | omega) _ | exact Below.refl _ _)))).mono ?_; rintro e w2 ⟨sv, rfl, hown, hnew, hb2⟩; (have hz : Blk w2 (w.heap.size + 1) (snapVal zeroPos (.slice none 0 0) (.slice none 0 0)) 40 := by (refine Blk.below ?_ hb2; ((repeat' (first | with_reducible exact Blk.new _ _ _ | with_reducible apply Blk.drewN | with_reducible apply Blk.drew | with_reducible apply Blk.set' | (with_reducible apply Blk.set_other (hp := by first | assumption | (simp; done) | (simp; omega) | omega)) | (with_reducible apply Blk.new'; focus (first | (simp; done) | (simp; omega))) | with_reducible apply Blk.alloc)) <;> rfl))); (have hz1 := hz.lt); (have z0 : World.cell? w2 ⟨w.heap.size + 1, 0, none⟩ = some (.int .i64 0) := by rw [Blk.cell hz]; rfl); (have z1 : World.cell? w2 ⟨w.heap.size + 1, 1, none⟩ = some (.int .i64 0) := by rw [Blk.cell hz]; rfl); (have z2 : World.cell? w2 ⟨w.heap.size + 1, 2, none⟩ = some (.slice none 0 0) := by rw [Blk.cell hz]; rfl); (have z3 : World.cell? w2 ⟨w.heap.size + 1, 3, none⟩ = some (.slice none 0 0) := by rw [Blk.cell hz]; rfl); (have y0 := hz.free 0); (have y1 := hz.free 1); (have y2 := hz.free 2); (have y3 := hz.free 3); (have HZ := Lib.hid hz); clear hz; (have B2 : Below w.heap.size w w2 := (by (repeat' (first | with_reducible exact Below.refl _ _ | with_reducible refine below_drewN ?_ _ | with_reducible refine Below.drew ?_ | with_reducible refine Below.setCell ?_ (by first | exact Nat.le_refl _ | (simp; done) | (simp; omega) | omega) _ | with_reducible refine Below.alloc ?_ (by first | exact Nat.le_refl _ | (simp; done) | (simp; omega) | omega) _ | exact Below.refl _ _)) : Below w.heap.size w _).trans (hb2.mono (by simp; try omega))); (have HB2 := Lib.hid B2); (have HR2 := Lib.hid (Blk.below (by ((repeat' (first | with_reducible exact Blk.new _ _ _ | with_reducible apply Blk.drewN | with_reducible apply Blk.drew | with_reducible apply Blk.set' | (with_reducible apply Blk.set_other (hp := by first | assumption | (simp; done) | (simp; omega) | omega)) | (with_reducible apply Blk.new'; focus (first | (simp; done) | (simp; omega))) | with_reducible apply Blk.alloc)) <;> rfl) : Blk _ w.heap.size (snapVal zeroPos (.slice none 0 0) (.slice none 0 0)) 40) hb2)); (have hs2 := hb2.size); (have HOW := Lib.hid hown); (have HNW := Lib.hid hnew); (obtain ⟨sA, sc, hsv, _⟩ := own_sl hown); subst hsv; clear c0 c1 c2 c3 hb2 hown hnew; (obtain ⟨c0, c1, c2, c3⟩ := HC.out w2 B2); clear B2; simp at hs2)
      | (go_at_call 72; refine (HALL.out _ (by (repeat' (first | with_reducible exact Below.refl _ _ | with_reducible refine below_drewN ?_ _ | with_reducible refine Below.drew ?_ | with_reducible refine Below.setCell ?_ (by first | exact Nat.le_refl _ | (simp; done) | (simp; omega) | omega) _ | with_reducible refine Below.alloc ?_ (by first | exact Nat.le_refl _ | (simp; done) | (simp; omega) | omega) _ | exact Below.refl _ _)))).mono ?_; rintro e w2 ⟨sv, rfl, hown, hnew, hb2⟩; (have B2 : Below w.heap.size w w2 := (by (repeat' (first | with_reducible exact Below.refl _ _ | with_reducible refine below_drewN ?_ _ | with_reducible refine Below.drew ?_ | with_reducible refine Below.setCell ?_ (by first | exact Nat.le_refl _ | (simp; done) | (simp; omega) | omega) _ | with_reducible refine Below.alloc ?_ (by first | exact Nat.le_refl _ | (simp; done) | (simp; omega) | omega) _ | exact Below.refl _ _)) : Below w.heap.size w _).trans (hb2.mono (by simp; try omega))); (have HB2 := Lib.hid B2); (have HR2 := Lib.hid (Blk.below (by ((repeat' (first | with_reducible exact Blk.new _ _ _ | with_reducible apply Blk.drewN | with_reducible apply Blk.drew | with_reducible apply Blk.set' | (with_reducible apply Blk.set_other (hp := by first | assumption | (simp; done) | (simp; omega) | omega)) | (with_reducible apply Blk.new'; focus (first | (simp; done) | (simp; omega))) | with_reducible apply Blk.alloc)) <;> rfl) : Blk _ w.heap.size (snapVal zeroPos (.slice none 0 0) (.slice none 0 0)) 40) hb2)); (have hs2 := hb2.size); (have HOW := Lib.hid hown); (have HNW := Lib.hid hnew); (obtain ⟨sA, sc, hsv, _⟩ := own_sl hown); subst hsv; clear c0 c1 c2 c3 hb2 hown hnew; (obtain ⟨c0, c1, c2, c3⟩ := HC.out w2 B2); clear B2; simp at hs2))
    · go_wp2_with fail
      go_meet
      exact ⟨w2.heap.size, .slice sA (sortS l).length sc, rfl, by omega, by ((repeat' (first | with_reducible exact Blk.new _ _ _ | with_reducible apply Blk.drewN | with_reducible apply Blk.drew | with_reducible apply Blk.set' | (with_reducible apply Blk.set_other (hp := by first | assumption | (simp; done) | (simp; omega) | omega)) | (with_reducible apply Blk.new'; focus (first | (simp; done) | (simp; omega))) | with_reducible apply Blk.alloc)) <;> rfl), by ((repeat' (first | with_reducible exact HR2.out | with_reducible exact Blk.new _ _ _ | with_reducible apply Blk.drewN | with_reducible apply Blk.drew | with_reducible apply Blk.set' | (with_reducible apply Blk.set_other (hp := by first | assumption | (simp; done) | (simp; omega) | omega)) | (with_reducible apply Blk.new'; focus (first | (simp; done) | (simp; omega))) | with_reducible apply Blk.alloc | exact HR2.out)) <;> rfl), own_frm HOW.out (F := fun _ => False) (by (repeat' (first | with_reducible exact Frm.refl _ _ | with_reducible refine Frm.drewN ?_ _ | with_reducible refine Frm.drew ?_ | with_reducible refine Frm.setCell ?_ (by first | exact Or.inl rfl | exact Or.inr (Nat.le_refl _) | (simp; done) | (simp; omega)) _ | with_reducible refine Frm.alloc ?_ _ | exact Frm.refl _ _))) (fun _ _ h => h), fun c hc => by have := HNW.out c hc; simp at this; omega, by (repeat' (first | with_reducible exact HB2.out | with_reducible exact Below.refl _ _ | with_reducible refine below_drewN ?_ _ | with_reducible refine Below.drew ?_ | with_reducible refine Below.setCell ?_ (by first | exact Nat.le_refl _ | (simp; done) | (simp; omega) | omega) _ | with_reducible refine Below.alloc ?_ (by first | exact Nat.le_refl _ | (simp; done) | (simp; omega) | omega) _ | exact Below.refl _ _ | exact HB2.out))⟩
    · go_wp2_with fail
      go_meet
      exact ⟨w.heap.size + 1, .slice sA (sortS l).length sc, rfl, by omega, by ((repeat' (first | with_reducible exact HZ.out | with_reducible exact Blk.new _ _ _ | with_reducible apply Blk.drewN | with_reducible apply Blk.drew | with_reducible apply Blk.set' | (with_reducible apply Blk.set_other (hp := by first | assumption | (simp; done) | (simp; omega) | omega)) | (with_reducible apply Blk.new'; focus (first | (simp; done) | (simp; omega))) | with_reducible apply Blk.alloc | exact HZ.out)) <;> rfl), by ((repeat' (first | with_reducible exact HR2.out | with_reducible exact Blk.new _ _ _ | with_reducible apply Blk.drewN | with_reducible apply Blk.drew | with_reducible apply Blk.set' | (with_reducible apply Blk.set_other (hp := by first | assumption | (simp; done) | (simp; omega) | omega)) | (with_reducible apply Blk.new'; focus (first | (simp; done) | (simp; omega))) | with_reducible apply Blk.alloc | exact HR2.out)) <;> rfl), own_frm HOW.out (F := fun c => c = w.heap.size + 1) (by (repeat' (first | with_reducible exact Frm.refl _ _ | with_reducible refine Frm.drewN ?_ _ | with_reducible refine Frm.drew ?_ | with_reducible refine Frm.setCell ?_ (by first | exact Or.inl rfl | exact Or.inr (Nat.le_refl _) | (simp; done) | (simp; omega)) _ | with_reducible refine Frm.alloc ?_ _ | exact Frm.refl _ _))) (fun c hc e => by have := HNW.out c hc; simp at this; omega), fun c hc => by have := HNW.out c hc; simp at this; omega, by (repeat' (first | with_reducible exact HB2.out | with_reducible exact Below.refl _ _ | with_reducible refine below_drewN ?_ _ | with_reducible refine Below.drew ?_ | with_reducible refine Below.setCell ?_ (by first | exact Nat.le_refl _ | (simp; done) | (simp; omega) | omega) _ | with_reducible refine Below.alloc ?_ (by first | exact Nat.le_refl _ | (simp; done) | (simp; omega) | omega) _ | exact Below.refl _ _ | exact HB2.out))⟩
  case rest =>
    obtain ⟨S, sv, rfl, hS, hbS, hbR, hown, hnew, hbel⟩ := hcut
    have HBEL := Lib.hid hbel
    have HOW := Lib.hid hown
    have HNW := Lib.hid hnew
    have HBS := Lib.hid hbS
    have HBR := Lib.hid hbR
    have hsl := hbS.lt
    have hsz := hbel.size
    obtain ⟨c0, c1, c2, c3⟩ := HC.out wc hbel
    have hM : MapAt wc kb t := HF.out.keys.frm (F := fun _ => False) (Frm.ofBelow hbel) (fun h => h) (fun _ _ h => h)
    have HM := Lib.hid hM
    clear hown hnew hbS hbR hbel hM
    go_wp2_with fail
    refine (All_any kb _).mono ?_
    rintro e w1 ⟨rfl, hw1⟩
    subst hw1
    go_wp2_with fail
    refine wp_abs' ?_
    intro W0 hW0
    have hB0 : Below wc.heap.size wc W0 := by rw [hW0]; (repeat' (first | with_reducible exact Below.refl _ _ | with_reducible refine below_drewN ?_ _ | with_reducible refine Below.drew ?_ | with_reducible refine Below.setCell ?_ (by first | exact Nat.le_refl _ | (simp; done) | (simp; omega) | omega) _ | with_reducible refine Below.alloc ?_ (by first | exact Nat.le_refl _ | (simp; done) | (simp; omega) | omega) _ | exact Below.refl _ _))
    have hbx : W0.cell? ⟨wc.heap.size, 0, none⟩ = some (.pointer (some ⟨kb, 0, none⟩)) := by rw [hW0]; simp
    have hW0s : W0.heap.size = wc.heap.size + 1 := by rw [hW0]; simp
    have hBW0 := HBEL.out.trans (hB0.mono hsz)
    have hM0 : MapAt W0 kb t := HM.out.frm (F := fun _ => False) (Frm.ofBelow hB0) (fun h => h) (fun _ _ h => h)
    have hI0 : ToldI p W0.heap.size S w.heap.size sv (sortS l) w [] W0 := ⟨.slice none 0 0, HBS.out.below hB0, HBR.out.below hB0, World.ownsRow_nil _ _ _ _, own_frm HOW.out (Frm.ofBelow (F := fun _ => False) hB0) (fun _ _ h => h), hBW0, Nat.le_refl _⟩
    clear hW0 c0 c1 c2 c3
    refine (wpIn_wide (n := 9)).1 ?_
    refine wpIn_rangeFunc_ownH rfl (by omega) (gf := 87) (lb := #[.pointer (some ⟨wc.heap.size, 0, none⟩)]) rfl trivial (enters_of Try.func87 (by kernel_rfl) rfl)
      (all_stops (9 - 1) wc.heap.size kb t W0 hbx (by omega) hM0) (fun h k => KpT.trans h k) (fun W l o o' hl h hc hw => kpT_book W0.heap.size W l o o' hl h hc hw) (Below.refl _ _) (fun _ => rfl)
      (ToldI p W0.heap.size S w.heap.size sv (sortS l) w) (fun _ _ _ => False) (told_own _ _ _ _ _ _ _ _ hBW0.size) (fun _ _ _ _ _ hs _ _ => hs) hI0
      (fun x a' W => ∃ Bx, W0.heap.size ≤ Bx ∧ Blk W Bx (kvVal x.2) 46 ∧ a' = { tmps := #[.pointer (some ⟨b, 0, none⟩), undef, .pointer (some ⟨w.heap.size, 0, none⟩), .pointer (some ⟨S, 0, none⟩), .string x.1, .pointer (some ⟨Bx, 0, none⟩), u6, u7, u8, u9, u10, u11, u12, u13, u14, u15, .pointer (some ⟨b, 0, none⟩), .pointer (some ⟨b, 0, none⟩), .pointer (some ⟨b, 2, none⟩), .pointer (some ⟨kb, 0, none⟩), .func (.func 87) #[] #[.pointer (some ⟨wc.heap.size, 0, none⟩)], .string x.1, .agg (kvVal x.2), undef, undef, undef, undef, undef, undef, undef, undef, undef], defers := [] })
      (fun x a' => ?hax) ?assign ?body ?done ?stop
    case hax =>
      rintro _ X Y row ⟨Bx, h1, h2, h3⟩ hg hr
      exact ⟨Bx, h1, h2.grown hg (fun r e => (hr r e).2), h3⟩
    case assign =>
      rintro l' pre x W K ⟨v, h1, h2, h3, h4, h5, h6⟩ hK
      unfold encKV
      gi_wp2
      have hg := World.grownBy_alloc W (.cells (kvVal x.2) 46) none
      have hr2 : ∀ r, (none : Option Nat) = some r → ∃ o : Obj, W.heap[r]? = some o ∧ o.isCells = false := fun r e => by cases e
      exact hK _ _ ((KeepsOthers.alloc _ _).from _) (fun c cs hc => hc.alloc _) ⟨v, h1.alloc _, h2.alloc _, own_grown h3 hg hr2, own_grown h4 hg hr2, h5.alloc h5.size _, by simp; omega⟩ ⟨W.heap.size, h6, Blk.new' rfl rfl, rfl⟩
    case body =>
      rintro l' pre x a' W hl ⟨r, hr⟩ ⟨v, h1, h2, h3, h4, h5, h6⟩ ⟨Bx, hBx, bX, rfl⟩ hlt
      obtain ⟨i0, hi, hz0, hz1, hz2⟩ := info_parts pair_info
      have hSl := h1.lt
      have hXl := bX.lt
      have x0 : World.cell? W ⟨Bx, 0, none⟩ = some (.int .i64 x.2.pos.e) := by rw [Blk.cell bX]; rfl
      have x1 : World.cell? W ⟨Bx, 1, none⟩ = some (.int .i64 x.2.pos.i) := by rw [Blk.cell bX]; rfl
      have x2 : World.cell? W ⟨Bx, 2, none⟩ = some (.bool x.2.th) := by rw [Blk.cell bX]; rfl
      have x3 : World.cell? W ⟨Bx, 3, none⟩ = some (.string x.2.t) := by rw [Blk.cell bX]; rfl
      have s2 : W.cell? ⟨S, 2, none⟩ = some v := by rw [h1.cell]; rfl
      have hgA := World.grownBy_alloc W (.cells (pairCells x).toArray 67) none
      have hr2 : ∀ r, (none : Option Nat) = some r → ∃ o : Obj, W.heap[r]? = some o ∧ o.isCells = false := fun r e => by cases e
      have h3A := own_grown h3 hgA hr2
      have hneS : some S ≠ v.ownBlock := fun e => absurd (own_type (base := w.heap.size) h3 e.symm h1) (by decide)
      have hsz5 := h5.size
      have hcl : ∀ (j : Nat) (u : Value), (pairCells x)[j]? = some u → (W.alloc (.cells (pairCells x).toArray 67)).cell? ((⟨W.heap.size, 0, none⟩ : Addr).add j) = some u := fun j u hj => by rw [Addr.add_plain', (Blk.new W (pairCells x).toArray 67).cell]; simpa using hj
      have h1c : ∀ u ∈ pairCells x, u.oneCell' = true := fun u hu => pairsCells_one [x] u (by simpa [pairsCells] using hu)
      have hb3 : w.heap.size ≤ (W.alloc (.cells (pairCells x).toArray 67)).heap.size := by simp; omega
      gi_wp2_with (gi_at_builtin; refine wpListIn_append_own _ rfl _ _ 37 rfl w.heap.size 67 i0 _ 5 56 Try.underlying37 hi hz0 hz1 hz2 rfl (by decide) v pre.length (pairsCells pre) rfl h3A ⟨W.heap.size, 0, none⟩ 1 1 (pairCells x) rfl rfl hcl h1c (by unfold maxLen; omega) (by omega) hb3 ?_; intro v' w1 hown' hgrow _; obtain ⟨g', cap', rfl⟩ := ownsRow_succ hown'; (have B1 : Blk w1 S (snapVal p v sv) 40 := (hgrow.block S (h1.alloc _).lt hneS).trans (h1.alloc _)); (have b2 : w1.cell? ⟨S, 2, none⟩ = some v := by rw [B1.cell]; rfl); (have f2 := B1.free 2); (have hb1l := B1.lt))
      have hF : Frm (fun c => c = S ∨ v.ownBlock = some c) W (w1.setCell ⟨S, 2, none⟩ (.slice (some ⟨g', 0, none⟩) (pre.length + 1) cap')) := Frm.setCell (Frm.trans (Frm.alloc (Frm.refl _ W) _) (Frm.ofGrown hgrow) (fun i _ h => .inr h)) (.inl (.inl rfl)) _
      have hoT : ∀ c cs ty, v.ownBlock = some c → Blk W c cs ty → ty = 67 := fun c cs ty hc hk => by obtain ⟨_, cs', hk'⟩ := own_blk h3 hc; exact hk.type hk'
      refine ⟨⟨hF.size, fun k o _ hk ho => (hF.block k (Array.getElem?_eq_some_iff.1 hk).1 ?_).trans hk⟩, fun c cs hc => hc.frm hF ?_, ⟨.slice (some ⟨g', 0, none⟩) (pre.length + 1) cap', ?_, h2.frm hF ?_, ?_, own_frm h4 hF ?_, ?_, Nat.le_trans h6 hF.size⟩⟩
      · rintro (e | e)
        · subst e; unfold Blk at h1; rw [h1] at hk; cases hk; cases ho
        · obtain ⟨_, cs', hk'⟩ := own_blk h3 e; unfold Blk at hk'; rw [hk'] at hk; cases hk; cases ho
      · rintro (e | e)
        · subst e; exact absurd (h1.type hc) (by decide)
        · exact absurd (hoT c cs _ e hc) (by decide)
      · ((repeat' (first | with_reducible exact B1 | with_reducible exact Blk.new _ _ _ | with_reducible apply Blk.drewN | with_reducible apply Blk.drew | with_reducible apply Blk.set' | (with_reducible apply Blk.set_other (hp := by first | assumption | (simp; done) | (simp; omega) | omega)) | (with_reducible apply Blk.new'; focus (first | (simp; done) | (simp; omega))) | with_reducible apply Blk.alloc | exact B1)) <;> rfl)
      · rintro (e | e)
        · omega
        · exact absurd (hoT _ _ _ e h2) (by decide)
      · have hw1 : w1.ownsRow w.heap.size 67 5 (.slice (some ⟨g', 0, none⟩) (pre.length + 1) cap') (pre ++ [x]).length (pairsCells (pre ++ [x])) := by
          rw [show pairsCells (pre ++ [x]) = pairsCells pre ++ pairCells x by simp [pairsCells], List.length_append]; exact hown'
        exact own_frm hw1 (F := fun c => c = S) (by (repeat' (first | with_reducible exact Frm.refl _ _ | with_reducible refine Frm.drewN ?_ _ | with_reducible refine Frm.drew ?_ | with_reducible refine Frm.setCell ?_ (by first | exact Or.inl rfl | exact Or.inr (Nat.le_refl _) | (simp; done) | (simp; omega)) _ | with_reducible refine Frm.alloc ?_ _ | exact Frm.refl _ _))) (fun c hc e => by subst e; exact absurd (own_type hw1 hc B1) (by decide))
      · intro c hc
        rintro (e | e)
        · subst e; exact absurd (own_type h4 hc h1) (by decide)
        · obtain ⟨_, cs', hk'⟩ := own_blk h3 e; exact absurd (own_type h4 hc hk') (by decide)
      · refine h5.trans ⟨hF.os, hF.tape, hF.output, hF.size, fun i hi => hF.block i (by omega) ?_⟩
        rintro (e | e)
        · omega
        · have := (own_blk h3 e).1; omega
    case done =>
      rintro D ys W hD rfl ⟨v, h1, h2, h3, h4, h5, h6⟩ hK
      obtain ⟨vA, vc, hv, _⟩ := own_sl h3
      obtain ⟨svA, svc, hsv, _⟩ := own_sl h4
      rw [hsv] at h1
      rw [hv] at h1
      have s0 : World.cell? W ⟨S, 0, none⟩ = some (.int .i64 p.e) := by rw [Blk.cell h1]; rfl
      have s1 : World.cell? W ⟨S, 1, none⟩ = some (.int .i64 p.i) := by rw [Blk.cell h1]; rfl
      have s2 : World.cell? W ⟨S, 2, none⟩ = some (.slice vA t.list.length vc) := by rw [Blk.cell h1]; rfl
      have s3 : World.cell? W ⟨S, 3, none⟩ = some (.slice svA (sortS l).length svc) := by rw [Blk.cell h1]; rfl
      have r0 : World.cell? W ⟨w.heap.size, 0, none⟩ = some (.int .i64 0) := by rw [Blk.cell h2]; rfl
      have r1 : World.cell? W ⟨w.heap.size, 1, none⟩ = some (.int .i64 0) := by rw [Blk.cell h2]; rfl
      have r2 : World.cell? W ⟨w.heap.size, 2, none⟩ = some (.slice none 0 0) := by rw [Blk.cell h2]; rfl
      have r3 : World.cell? W ⟨w.heap.size, 3, none⟩ = some (.slice none 0 0) := by rw [Blk.cell h2]; rfl
      have y0 := Blk.free h2 0
      have y1 := Blk.free h2 1
      have y2 := Blk.free h2 2
      have y3 := Blk.free h2 3
      have hSl := h1.lt
      have hRl := h2.lt
      go_wp2_with fail
      have hDR : D ≠ w.heap.size := by omega
      have hK2 := hK
      rw [← Below.heap_setCell W ⟨w.heap.size, 0, none⟩ (.int .i64 p.e) D hDR, ← Below.heap_setCell _ ⟨w.heap.size, 1, none⟩ (.int .i64 p.i) D hDR, ← Below.heap_setCell _ ⟨w.heap.size, 2, none⟩ (.slice vA t.list.length vc) D hDR, ← Below.heap_setCell _ ⟨w.heap.size, 3, none⟩ (.slice svA (sortS l).length svc) D hDR] at hK2
      refine ⟨by simp, .inl ⟨_, _, rfl, run_takeDeferred hK2, ?_⟩⟩
      obtain ⟨W2, hW2⟩ : ∃ W2 : World, W2 = ((((W.setCell ⟨w.heap.size, 0, none⟩ (.int .i64 p.e)).setCell ⟨w.heap.size, 1, none⟩ (.int .i64 p.i)).setCell ⟨w.heap.size, 2, none⟩ (.slice vA t.list.length vc)).setCell ⟨w.heap.size, 3, none⟩ (.slice svA (sortS l).length svc)) := ⟨_, rfl⟩
      rw [← hW2] at hK2 ⊢
      have hR2 : Blk W2 w.heap.size (snapVal p (.slice vA t.list.length vc) (.slice svA (sortS l).length svc)) 40 := by rw [hW2]; ((repeat' (first | with_reducible exact h2 | with_reducible exact Blk.new _ _ _ | with_reducible apply Blk.drewN | with_reducible apply Blk.drew | with_reducible apply Blk.set' | (with_reducible apply Blk.set_other (hp := by first | assumption | (simp; done) | (simp; omega) | omega)) | (with_reducible apply Blk.new'; focus (first | (simp; done) | (simp; omega))) | with_reducible apply Blk.alloc | exact h2)) <;> rfl)
      have hF2 : Frm (fun c => c = w.heap.size) W W2 := by rw [hW2]; (repeat' (first | with_reducible exact Frm.refl _ _ | with_reducible refine Frm.drewN ?_ _ | with_reducible refine Frm.drew ?_ | with_reducible refine Frm.setCell ?_ (by first | exact Or.inl rfl | exact Or.inr (Nat.le_refl _) | (simp; done) | (simp; omega)) _ | with_reducible refine Frm.alloc ?_ _ | exact Frm.refl _ _))
      rw [hv] at h3
      rw [hsv] at h4
      have h3' := own_frm h3 hF2 (fun c hc e => by subst e; exact absurd (own_type h3 hc h2) (by decide))
      have h4' := own_frm h4 hF2 (fun c hc e => by subst e; exact absurd (own_type h4 hc h2) (by decide))
      have hgP := grownBy_putObj' W2 D (.deferred none)
      have hrP : ∀ r, some D = some r → ∃ o : Obj, W2.heap[r]? = some o ∧ o.isCells = false := fun r e => by cases e; exact ⟨_, hK2, rfl⟩
      have h3'' := own_grown h3' hgP hrP
      have hBl : Below w.heap.size w (W2.putObj D (.deferred none)) := by
        have : Below w.heap.size w W2 := h5.trans ⟨hF2.os, hF2.tape, hF2.output, hF2.size, fun i hi => hF2.block i (by omega) (by omega)⟩
        exact this.grown hgP (Nat.le_trans h5.size hF2.size) (fun k e => by cases e; omega)
      refine ⟨_, res_cell rfl rfl (loads_blk (T := 40) (cs := snapVal p (.slice vA t.list.length vc) (.slice svA (sortS l).length svc)) snap_agg snap_size (hR2.grown hgP hrP) rfl), ?_⟩
      refine ⟨_, _, rfl, ?_, own_grown h4' hgP hrP, fun c hc => (own_blk h3'' hc).1, fun c hc => HNW.out c (by rw [hsv]; exact hc), hBl⟩
      exact own_zero h3''
    case stop =>
      rintro D c pre W _ _ h _
      exact h.elim

end Go.Proofs.Ytedcdjlpogpgbaa

/- Sessions in their order, with no program in sight. -/
set_option linter.unusedVariables false
set_option linter.unusedSimpArgs false
namespace Go.Proofs.Ytedcdjlpogpgbaa
open Go.RowKit

def dec (p : Value × Value) : Sn := match p with
  | (.int _ s, .agg #[.int _ r, .int _ e, .int _ i]) => ⟨s, r, ⟨e, i⟩⟩
  | _ => ⟨0, 0, ⟨0, 0⟩⟩
theorem dec_sess (l : List Sn) : (sess l).map dec = l := by
  unfold sess
  rw [List.map_map]
  conv => rhs; rw [← List.map_id l]
  apply List.map_congr_left
  intro x _
  rfl
theorem sess_perm {l l' : List Sn} (h : (sess l).Perm (sess l')) : l.Perm l' := by
  have := h.map dec
  rwa [dec_sess, dec_sess] at this
theorem born_nodup {es : Array MapEntry} (h : (es.toList.map (·.born)).Pairwise (· < ·)) : (es.toList.map (·.born)).Nodup := h.imp (fun hab => Nat.ne_of_lt hab)
theorem nodup_of_map {α β : Type} {f : α → β} : ∀ {l : List α}, (l.map f).Nodup → l.Nodup
  | [], _ => List.nodup_nil
  | x :: l, h => by
    rw [List.map_cons, List.nodup_cons] at h
    exact List.nodup_cons.2 ⟨fun hx => h.1 (List.mem_map_of_mem hx), nodup_of_map h.2⟩
theorem born_inj : ∀ {l : List MapEntry}, (l.map (·.born)).Nodup → ∀ {x y : MapEntry}, x ∈ l → y ∈ l → x.born = y.born → x = y
  | [], _, _, _, hx, _, _ => by cases hx
  | z :: l, h, x, y, hx, hy, he => by
    rw [List.map_cons, List.nodup_cons] at h
    rcases List.mem_cons.1 hx with rfl | hx' <;> rcases List.mem_cons.1 hy with rfl | hy'
    · rfl
    · exact absurd (by rw [he]; exact List.mem_map_of_mem hy') h.1
    · exact absurd (by rw [← he]; exact List.mem_map_of_mem hx') h.1
    · exact born_inj h.2 hx' hy' he
/-- All that was handed out, when nothing is left. -/
theorem visited_all {es : Array MapEntry} {V : List MapEntry} {seen : Array Nat} (hb : (es.toList.map (·.born)).Pairwise (· < ·)) (hs : seen.toList = V.map (·.born)) (hn : V.Nodup) (hV : ∀ e ∈ V, e ∈ es.toList) (h0 : (leftOf es seen).size = 0) : V.Perm es.toList := by
  refine (List.perm_ext_iff_of_nodup hn (nodup_of_map (born_nodup hb))).2 fun e => ⟨hV e, fun he => ?_⟩
  have hc : seen.contains e.born = true := by
    cases hcc : seen.contains e.born with
    | true => rfl
    | false =>
      exfalso
      have : e ∈ (leftOf es seen).toList := by
        unfold leftOf
        simp only [Array.toList_filter, List.mem_filter]
        exact ⟨he, by simp only [hcc]; rfl⟩
      have h0' : (leftOf es seen).toList.length = 0 := by simpa using h0
      rw [List.eq_nil_of_length_eq_zero h0'] at this
      cases this
  have hm : e.born ∈ V.map (·.born) := by rw [← hs]; simpa using hc
  obtain ⟨e', he', hbe⟩ := List.mem_map.1 hm
  rw [born_inj (born_nodup hb) he (hV e' he') hbe.symm]; exact he'
theorem sortS_perm (l : List Sn) : (sortS l).Perm l := List.mergeSort_perm _ _
theorem sortS_sorted (l : List Sn) : (sortS l).Pairwise (fun x y => x.s ≤ y.s) := by
  refine (List.pairwise_mergeSort (le := fun x y : Sn => decide (x.s ≤ y.s)) (fun a b c h1 h2 => by simp at *; omega) (fun a b => by simp; omega) l).imp fun h => ?_
  simpa using h
theorem key_eq : ∀ {l : List Sn}, l.Pairwise (fun x y => x.s ≠ y.s) → ∀ {x y : Sn}, x ∈ l → y ∈ l → x.s = y.s → x = y
  | [], _, _, _, hx, _, _ => by cases hx
  | z :: l, h, x, y, hx, hy, he => by
    rw [List.pairwise_cons] at h
    rcases List.mem_cons.1 hx with rfl | hx' <;> rcases List.mem_cons.1 hy with rfl | hy'
    · rfl
    · exact absurd he (h.1 y hy')
    · exact absurd he.symm (h.1 x hx')
    · exact key_eq h.2 hx' hy' he
/-- A sorted list of the same sessions is that list. -/
theorem sorted_is {l l' : List Sn} (hk : l.Pairwise (fun x y => x.s ≠ y.s)) (hp : l'.Perm l) (hs : l'.Pairwise (fun x y => x.s ≤ y.s)) : l' = sortS l :=
  List.Perm.eq_of_pairwise (le := fun x y => x.s ≤ y.s) (fun a b ha hb h1 h2 => key_eq hk (hp.mem_iff.1 ha) ((sortS_perm l).mem_iff.1 hb) (by omega)) hs (sortS_sorted l) (hp.trans (sortS_perm l).symm)

end Go.Proofs.Ytedcdjlpogpgbaa

/- Layer 14: All of a table: its sessions, rising. -/
set_option linter.unusedVariables false
set_option linter.unusedSimpArgs false
namespace Go.Proofs.Ytedcdjlpogpgbaa
open Go.RowKit
open Go.ChangeMaps (setBlock)

theorem sn_info : (Try.prog.info? 69).map (fun i => (i.zero, i.size, i.bytes)) = some (some (.agg #[.int .i64 0, .int .i64 0, .int .i64 0, .int .i64 0]), 4, 32) := by kernel_rfl
theorem own_up {X : World} {k n B : Nat} {e : TypeId} {v : Value} {xs : List Value} (h : X.ownsRow 0 e k v n xs) (hB : ∀ c, v.ownBlock = some c → B ≤ c) : X.ownsRow B e k v n xs := by
  refine ⟨h.1, ?_⟩
  rcases h.2 with h | ⟨g, cap, cur, hv, _, h4, h5⟩
  · exact .inl h
  · exact .inr ⟨g, cap, cur, hv, hB g (by rw [hv]; rfl), h4, h5⟩
theorem left_le (es : Array MapEntry) (seen : Array Nat) : (leftOf es seen).size ≤ es.size := by unfold leftOf; exact Array.size_filter_le
theorem Frm.trans' {F : Nat → Prop} {a b c : World} (h : Frm (fun _ => False) a b) (k : Frm F b c) : Frm F a c := (h.mono (fun _ _ h => h.elim)).trans k (fun _ _ h => h)
structure AllRel (w : World) (l : List Sn) (mb : Nat) (es : Array MapEntry) (clock : Nat) (V : List MapEntry) (O : List Sn) (seen : Array Nat) (c0 : Nat) (v : Value) (wr : World) : Prop where
  own : wr.ownsRow w.heap.size 69 4 v O.length (snsCells O)
  list : V.map (fun e => (e.key, e.val)) = sess O
  vis : seen.toList = V.map (·.born)
  nodup : V.Nodup
  sub : ∀ e ∈ V, e ∈ es.toList
  iter : wr.heap[w.heap.size]? = some (.mapIter (some mb) clock seen c0)
  old : clock ≤ c0
  below : Below w.heap.size w wr
  few : V.length + (leftOf es seen).size ≤ l.length
def SortPay (w : World) : Prop := ∀ (W : World) (v : Value) (O : List Sn), W.ownsRow w.heap.size 69 4 v O.length (snsCells O) → O.length ≤ 1000 → O.Pairwise (fun x y => x.s ≠ y.s) →
  Calls Try.prog 84 #[v, .func (.func 85) #[] #[]] W fun e w' => e = .returned (.tuple #[]) ∧ w'.ownsRow 0 69 4 v O.length (snsCells (sortS O)) ∧ Frm (fun c => v.ownBlock = some c) W w'

set_option maxRecDepth 100000 in
set_option maxHeartbeats 8000000 in
theorem AllD_any (b mb : Nat) (lim : Int) (l : List Sn) (w : World) (h : TabAt w b mb lim l) (hl : l.length ≤ 1000) (hsort : SortPay w) :
    Calls Try.prog 72 #[.pointer (some ⟨b, 0, none⟩)] w (AllRes l w) := by
  have hbl := h.blk.lt
  have hml := h.map.lt
  have c1 : World.cell? w ⟨b, 1, none⟩ = some (.map (some mb)) := by rw [Blk.cell h.blk]; rfl
  obtain ⟨es, clock, hm, hmp⟩ := h.map
  have hrng := run_range_map (P := Try.prog) w 139 _ _ mb es clock Try.underlying139 hm
  have HK := Lib.hid h.keys
  have HM := Lib.hid hm
  have HMP := Lib.hid hmp
  have HS := Lib.hid hsort
  clear h hm hmp hsort
  go_enter Try.func72, Try.ntmps72
  go_wp2_with fail
  clear hrng
  have hesl : es.size = l.length := by have := congrArg List.length HMP.out.list; simpa [sess] using this
  go_loopg [3] (leftOf es #[]).size (fun g v wr => ∃ V O seen c0, AllRel w l mb es clock V O seen c0 v wr ∧ g = (leftOf es seen).size)
  case atStart =>
    refine ⟨[], [], #[], clock, ⟨World.ownsRow_nil _ _ _ _, rfl, rfl, List.nodup_nil, (fun e he => by cases he), ?_, Nat.le_refl _, by (repeat' (first | with_reducible exact Below.refl _ _ | with_reducible refine below_drewN ?_ _ | with_reducible refine Below.drew ?_ | with_reducible refine Below.setCell ?_ (by first | exact Nat.le_refl _ | (simp; done) | (simp; omega) | omega) _ | with_reducible refine Below.alloc ?_ (by first | exact Nat.le_refl _ | (simp; done) | (simp; omega) | omega) _ | exact Below.refl _ _)), by have := left_le es #[]; simp only [List.length_nil]; omega⟩, ?_⟩
    · show (w.heap.push _)[w.heap.size]? = _
      simp
    · rfl
  case round =>
    obtain ⟨V, O, seen, c0, hrel, rfl⟩ := hrel
    have hsr := hrel.below.size
    have HR := Lib.hid hrel
    have hOV : O.length = V.length := by have := congrArg List.length hrel.list; simpa [sess] using this.symm
    have hmr : wr.heap[mb]? = some (.map es clock) := (hrel.below.block mb hml).trans HM.out
    have HMR := Lib.hid hmr
    obtain ⟨vA, vc, hv, _⟩ := own_sl hrel.own
    subst hv
    have hfew := hrel.few
    rcases run_next_at (P := Try.prog) wr 0 w.heap.size mb clock c0 seen es clock hrel.iter hmr HMP.out.old hrel.old with ⟨hz, hn⟩ | ⟨e, he, w1, hw1, hn⟩
    · have hp : V.Perm es.toList := visited_all HMP.out.born hrel.vis hrel.nodup hrel.sub hz
      have hO : O.Perm l := sess_perm (by rw [← hrel.list, ← HMP.out.list]; exact hp.map _)
      have hSO : sortS O = sortS l := sorted_is HK.out ((sortS_perm O).trans hO) (sortS_sorted O)
      have hPW : O.Pairwise (fun x y => x.s ≠ y.s) := (hO.pairwise_iff (fun h => Ne.symm h)).2 HK.out
      have hlO : O.length ≤ 1000 := by have := hO.length_eq; omega
      have HSO := Lib.hid hSO
      have HPW := Lib.hid hPW
      clear hp hO hSO hPW hrel hmr hOV
      go_wp2_with fail
      refine (HS.out wr _ O HR.out.own hlO HPW.out).mono ?_
      rintro e2 w2 ⟨rfl, hown2, hf2⟩
      have HOW := Lib.hid hown2
      have HF2 := Lib.hid hf2
      clear hown2 hf2 hn
      go_wp2_with fail
      go_ret
      refine ⟨.slice vA O.length vc, rfl, ?_, fun c hc => (own_blk HR.out.own hc).1, HR.out.below.trans ⟨HF2.out.os, HF2.out.tape, HF2.out.output, HF2.out.size, fun i hi => HF2.out.block i (by omega) (fun hc => by have := (own_blk HR.out.own hc).1; omega)⟩⟩
      rw [← HSO.out, (sortS_perm O).length_eq]; exact HOW.out
    · have hmem := mem_left he
      have hshr := left_shrinks es seen e he
      have hin : (e.key, e.val) ∈ sess l := by rw [← HMP.out.list]; exact List.mem_map_of_mem hmem.1
      obtain ⟨x, hx, hxe⟩ := List.mem_map.1 hin
      injection hxe with hk hvv
      rw [← hk, ← hvv] at hn
      unfold lastCells at hn hvv
      have hw1f : Frm (fun _ => False) wr w1 := by rcases hw1 with rfl | rfl <;> (repeat' (first | with_reducible exact Frm.refl _ _ | with_reducible refine Frm.drewN ?_ _ | with_reducible refine Frm.drew ?_ | with_reducible refine Frm.setCell ?_ (by first | exact Or.inl rfl | exact Or.inr (Nat.le_refl _) | (simp; done) | (simp; omega)) _ | with_reducible refine Frm.alloc ?_ _ | exact Frm.refl _ _))
      obtain ⟨W1, hW1⟩ : ∃ W1 : World, W1 = setBlock w1 w.heap.size (.mapIter (some mb) clock (seen.push e.born) clock) := ⟨_, rfl⟩
      rw [← hW1] at hn
      have hrl : w.heap.size < wr.heap.size := (Array.getElem?_eq_some_iff.1 hrel.iter).1
      have hF1 : Frm (fun c => c = w.heap.size) wr W1 := by rw [hW1]; exact hw1f.trans' (frm_setBlock w1 w.heap.size _)
      have hr1 : W1.heap[w.heap.size]? = some (.mapIter (some mb) clock (seen.push e.born) clock) := by rw [hW1]; exact get_setBlock _ (Nat.lt_of_lt_of_le hrl hw1f.size)
      have hm1 : W1.heap[mb]? = some (.map es clock) := (hF1.block mb (by omega) (by omega)).trans hmr
      have hent := run_entry_at (P := Try.prog) W1 w.heap.size mb clock seen es clock e hr1 hm1 hmem.1 (born_nodup HMP.out.born)
      rw [← hk, ← hvv] at hent
      have HE := Lib.hid he
      have HMEM := Lib.hid hmem
      have HSHR := Lib.hid hshr
      have HX : Hid ((e.key, e.val) = ((.int .i64 x.s, .agg (lastCells x)) : Value × Value)) := Lib.hid (by rw [← hk, ← hvv]; rfl)
      have HF1 := Lib.hid hF1
      have HR1 := Lib.hid hr1
      have HOV := Lib.hid hOV
      have hO1000 : O.length ≤ 1000 := by omega
      clear he hmem hshr hin hx hk hvv hw1f hW1 hF1 hr1 hm1 hOV hrel hmr hw1
      go_upto_region 7 with (fail)
      refine wp_abs' ?_
      intro W3 hW3
      have hB3 : Below W1.heap.size W1 W3 := by rw [hW3]; (repeat' (first | with_reducible exact Below.refl _ _ | with_reducible refine below_drewN ?_ _ | with_reducible refine Below.drew ?_ | with_reducible refine Below.setCell ?_ (by first | exact Nat.le_refl _ | (simp; done) | (simp; omega) | omega) _ | with_reducible refine Below.alloc ?_ (by first | exact Nat.le_refl _ | (simp; done) | (simp; omega) | omega) _ | exact Below.refl _ _))
      have K3 : Blk W3 W1.heap.size (lastCells x) 137 := by rw [hW3]; ((repeat' (first | with_reducible exact Blk.new _ _ _ | with_reducible apply Blk.drewN | with_reducible apply Blk.drew | with_reducible apply Blk.set' | (with_reducible apply Blk.set_other (hp := by first | assumption | (simp; done) | (simp; omega) | omega)) | (with_reducible apply Blk.new'; focus (first | (simp; done) | (simp; omega))) | with_reducible apply Blk.alloc)) <;> rfl)
      clear hW3
      have hne1 : ∀ c, (Value.slice vA O.length vc).ownBlock = some c → c ≠ w.heap.size := fun c hc e' => by
        subst e'
        obtain ⟨_, cs, hk⟩ := own_blk HR.out.own hc
        have := HR.out.iter
        unfold Blk at hk; rw [hk] at this; cases this
      have own3 := own_frm (own_frm HR.out.own HF1.out hne1) (Frm.ofBelow (F := fun _ => False) hB3) (fun _ _ h => h)
      have hs13 := hB3.size
      have hsr1 := HF1.out.size
      have k0 : World.cell? W3 ⟨W1.heap.size, 0, none⟩ = some (.int .i64 x.r) := by rw [Blk.cell K3]; rfl
      have k1 : World.cell? W3 ⟨W1.heap.size, 1, none⟩ = some (.int .i64 x.pos.e) := by rw [Blk.cell K3]; rfl
      have k2 : World.cell? W3 ⟨W1.heap.size, 2, none⟩ = some (.int .i64 x.pos.i) := by rw [Blk.cell K3]; rfl
      have hk3 := K3.lt
      obtain ⟨v', w5, happ, hown, hgr, hob⟩ := run_append_sl (P := Try.prog) (w := (W3.alloc (.cells #[.int .i64 x.s, .int .i64 x.r, .int .i64 x.pos.e, .int .i64 x.pos.i] 69))) 38 38 69 4 32 _ Try.underlying38 sn_info rfl (by omega) (.slice vA O.length vc) O.length (snsCells O) (own_frm (F := fun _ => False) (own_zero own3) (by (repeat' (first | with_reducible exact Frm.refl _ _ | with_reducible refine Frm.drewN ?_ _ | with_reducible refine Frm.drew ?_ | with_reducible refine Frm.setCell ?_ (by first | exact Or.inl rfl | exact Or.inr (Nat.le_refl _) | (simp; done) | (simp; omega)) _ | with_reducible refine Frm.alloc ?_ _ | exact Frm.refl _ _))) (fun _ _ h => h))
        (.slice (some ⟨W3.heap.size, 0, none⟩) 1 1) 1 (snCells x) (sl_one (cs := #[.int .i64 x.s, .int .i64 x.r, .int .i64 x.pos.e, .int .i64 x.pos.i]) (T := 69) (by ((repeat' (first | with_reducible exact Blk.new _ _ _ | with_reducible apply Blk.drewN | with_reducible apply Blk.drew | with_reducible apply Blk.set' | (with_reducible apply Blk.set_other (hp := by first | assumption | (simp; done) | (simp; omega) | omega)) | (with_reducible apply Blk.new'; focus (first | (simp; done) | (simp; omega))) | with_reducible apply Blk.alloc)) <;> rfl))) rfl (snsCells_one [x]) (by omega) (by unfold maxLen; omega)
      obtain ⟨A', ca', hv', _⟩ := own_sl hown
      subst hv'
      have HO3 := Lib.hid own3
      have HOW := Lib.hid hown
      have HGR := Lib.hid hgr
      have HOB := Lib.hid hob
      have HB3 := Lib.hid hB3
      have HNE := Lib.hid hne1
      have hbase : ∀ c, (Value.slice vA O.length vc).ownBlock = some c → w.heap.size ≤ c := fun c hc => (own_blk HR.out.own hc).1
      have HBASE := Lib.hid hbase
      have q9 : IntKind.i64.wrap ((O.length : Int) + 1) = (O.length : Int) + 1 := wrap_small _ (by omega) (by omega)
      clear own3 hown hgr hob hB3 hne1 hbase K3 hfew
      go_wp2_with (refine list_append_run rfl _ _ _ _ rfl rfl (by rfl) (by rfl) happ ?_)
      go_roundg (leftOf es (seen.push e.born)).size
      case measure => exact HSHR.out
      case rel =>
        have hrel := HR.out
        have hFall : Frm (fun c => c = w.heap.size ∨ (Value.slice vA O.length vc).ownBlock = some c) wr w5 :=
          (HF1.out.trans (F := fun c => c = w.heap.size) ((Frm.ofBelow (F := fun c => c = w.heap.size) HB3.out).alloc _) (fun _ _ h => h)).mono (fun _ _ h => .inl h) |>.trans (Frm.ofGrown HGR.out) (fun _ _ h => .inr h)
        have hit : w5.heap[w.heap.size]? = some (.mapIter (some mb) clock (seen.push e.born) clock) := by
          have h1 := (((Frm.ofBelow (F := fun _ => False) HB3.out).alloc (.cells #[.int .i64 x.s, .int .i64 x.r, .int .i64 x.pos.e, .int .i64 x.pos.i] 69)).block w.heap.size (Array.getElem?_eq_some_iff.1 HR1.out).1 (fun h => h)).trans HR1.out
          exact ((Frm.ofGrown HGR.out).block w.heap.size (Array.getElem?_eq_some_iff.1 h1).1 (fun h => HNE.out _ h rfl)).trans h1
        refine ⟨V ++ [e], O ++ [x], seen.push e.born, clock, ⟨?_, ?_, ?_, ?_, ?_, hit, Nat.le_refl _, ?_, ?_⟩, rfl⟩
        · rw [show snsCells (O ++ [x]) = snsCells O ++ snCells x by simp [snsCells], List.length_append]
          refine own_up HOW.out (fun c hc => ?_)
          rcases HOB.out with h | h
          · rw [h] at hc; exact HBASE.out c hc
          · rw [h] at hc; injection hc with hc; simp at hc; omega
        · rw [List.map_append, hrel.list]
          simp only [sess, List.map_append, List.map_cons, List.map_nil]
          rw [HX.out]
        · rw [Array.toList_push, hrel.vis, List.map_append]; rfl
        · rw [List.nodup_append]
          refine ⟨hrel.nodup, by simp, fun a ha b hb hab => ?_⟩
          simp only [List.mem_cons, List.not_mem_nil, or_false] at hb
          subst hb; subst hab
          have h1 : a.born ∈ seen.toList := by rw [hrel.vis]; exact List.mem_map_of_mem ha
          have h2 := HMEM.out.2
          rw [show seen.contains a.born = true by simpa using h1] at h2
          cases h2
        · intro a ha
          rcases List.mem_append.1 ha with ha | ha
          · exact hrel.sub a ha
          · simp only [List.mem_cons, List.not_mem_nil, or_false] at ha; rw [ha]; exact HMEM.out.1
        · refine hrel.below.trans ⟨hFall.os, hFall.tape, hFall.output, hFall.size, fun i hi => hFall.block i (by omega) ?_⟩
          rintro (h | h)
          · omega
          · have := HBASE.out i h; omega
        · have h1 := hrel.few
          have h2 := HSHR.out
          rw [List.length_append, List.length_singleton]; omega

end Go.Proofs.Ytedcdjlpogpgbaa

/- slices.SortFunc at sessions: what the program's All asks of it. -/
set_option linter.unusedVariables false
set_option linter.unusedSimpArgs false
namespace Go.Proofs.Ytedcdjlpogpgbaa
open Go.RowKit Go.Shelf Go.Sort

instance instSn : Inhabited Sn := ⟨⟨0, 0, ⟨0, 0⟩⟩⟩
def cmpI (a b : Int) : Int := if a < b then -1 else if b < a then 1 else 0
set_option maxRecDepth 100000 in
set_option maxHeartbeats 2000000 in
theorem isNaN_any (a : Int) (w : World) : Calls Try.prog 98 #[.int .i64 a] w fun e w' => e = .returned (.bool false) ∧ w' = w := by
  go_enter Try.func98, Try.ntmps98
  go_wp2_with fail
  go_ret
  exact ⟨by simp, rfl⟩
set_option maxRecDepth 100000 in
set_option maxHeartbeats 2000000 in
theorem Compare_any (a b : Int) (w : World) : Calls Try.prog 86 #[.int .i64 a, .int .i64 b] w fun e w' => e = .returned (.int .i64 (cmpI a b)) ∧ w' = w := by
  by_cases h1 : a < b
  · have d1 : decide (a < b) = true := decide_eq_true h1
    have hc : cmpI a b = -1 := if_pos h1
    go_enter Try.func86, Try.ntmps86
    go_wp2_with (first | (go_at_call 98; refine (isNaN_any _ _).mono ?_; rintro e w' ⟨rfl, rfl⟩))
    go_ret
    exact ⟨by rw [hc]; rfl, rfl⟩
  have d1 : decide (a < b) = false := decide_eq_false h1
  by_cases h2 : b < a
  · have d2 : decide (b < a) = true := decide_eq_true h2
    have hc : cmpI a b = 1 := by unfold cmpI; rw [if_neg h1, if_pos h2]
    go_enter Try.func86, Try.ntmps86
    go_wp2_with (first | (go_at_call 98; refine (isNaN_any _ _).mono ?_; rintro e w' ⟨rfl, rfl⟩))
    go_ret
    exact ⟨by rw [hc]; rfl, rfl⟩
  · have d2 : decide (b < a) = false := decide_eq_false h2
    have hc : cmpI a b = 0 := by unfold cmpI; rw [if_neg h1, if_neg h2]
    go_enter Try.func86, Try.ntmps86
    go_wp2_with (first | (go_at_call 98; refine (isNaN_any _ _).mono ?_; rintro e w' ⟨rfl, rfl⟩))
    go_ret
    exact ⟨by rw [hc]; rfl, rfl⟩
set_option maxRecDepth 100000 in
set_option maxHeartbeats 2000000 in
theorem closure_any (x y : Sn) (w : World) : Calls Try.prog 85 #[.agg (snCells x).toArray, .agg (snCells y).toArray] w fun e w' => e = .returned (.int .i64 (cmpI x.s y.s)) ∧ ∃ q os', w' = grow (w.drewN q) os' := by
  obtain ⟨xs', xr, xe, xi⟩ := x
  obtain ⟨ys', yr, ye, yi⟩ := y
  unfold snCells
  dsimp only
  go_enter Try.func85, Try.ntmps85
  go_wp2_with fail
  refine (Compare_any _ _ _).mono ?_
  rintro e w' ⟨rfl, rfl⟩
  go_wp2_with fail
  go_ret
  exact ⟨rfl, 0, _, by rw [alloc_eq_grow, alloc_eq_grow, grow_grow]; rfl⟩

theorem flat_sns (O : List Sn) : flatK snCells 4 O.toArray = (snsCells O).toArray := by
  refine ext_get! (by simp [snsCells_length]) fun t ht => ?_
  have ht' : t < O.length * 4 := by simpa using ht
  rw [get_flatK _ _ _ t (by simpa using ht')]
  have hq : t / 4 < O.length := by omega
  have hr : t % 4 < 4 := by omega
  have h1 := flat_get snCells 4 (fun _ => rfl) O (t / 4) (t % 4) O[t / 4] (by simp [hq]) hr
  rw [show t / 4 * 4 + t % 4 = t by omega] at h1
  have e1 : O.toArray[t / 4]! = O[t / 4] := by simp [hq]
  rw [e1]
  have hlen : (snCells O[t / 4]).length = 4 := rfl
  have hs : t < (snsCells O).length := by rw [snsCells_length]; exact ht'
  have e2 : (snCells O[t / 4])[t % 4]! = (snCells O[t / 4])[t % 4]'(by omega) := by rw [getElem!_pos _ _ (by omega)]
  rw [e2, getElem!_pos _ t (by simpa using hs)]
  have h2 : (snsCells O)[t]? = some ((snsCells O)[t]'hs) := List.getElem?_eq_getElem hs
  have h3 : (snCells O[t / 4])[t % 4]? = some ((snCells O[t / 4])[t % 4]'(by omega)) := List.getElem?_eq_getElem (by omega)
  have h1' : (snsCells O)[t]? = (snCells O[t / 4])[t % 4]? := h1
  rw [h2, h3] at h1'
  simpa using h1'.symm
theorem put_heap {W : World} {g m : Nat} {F cur : Array Value} {T : TypeId} {os : Array Obj} (hg : W.heap[g]? = some (.cells cur T (0, 0))) : (grow (putRow id (Sort.ahead W m) g 0 F) os).heap[g]? = some (.cells (putCells id 0 F cur) T (0, 0)) := by
  have hlt := (Array.getElem?_eq_some_iff.1 hg).1
  show ((W.heap.modify g (onCells (putCells id 0 F))) ++ os)[g]? = _
  rw [Array.getElem?_append_left (by simpa using hlt), Array.getElem?_modify, if_pos rfl, hg]
  rfl
theorem put_frm (W : World) (g m : Nat) (F : Array Value) (os : Array Obj) : Frm (fun c => c = g) W (grow (putRow id (Sort.ahead W m) g 0 F) os) := by
  refine ⟨rfl, rfl, rfl, ?_, fun k hk hn => ?_⟩
  · show W.heap.size ≤ ((W.heap.modify g (onCells (putCells id 0 F))) ++ os).size
    simp
  · show ((W.heap.modify g (onCells (putCells id 0 F))) ++ os)[k]? = _
    rw [Array.getElem?_append_left (by simpa using hk), Array.getElem?_modify, if_neg (fun e => hn e.symm)]
theorem put_take {F cur : Array Value} (h : F.size ≤ cur.size) : (putCells id 0 F cur).toList.take F.size = F.toList := by
  apply List.ext_getElem?
  intro k
  rw [List.getElem?_take]
  by_cases hk : k < F.size
  · rw [if_pos hk]
    have hc : k < cur.size := by omega
    simp only [putCells, Array.getElem?_toList, Array.getElem?_mapIdx, Array.getElem?_eq_getElem hc, Option.map_some, Array.getElem?_eq_getElem hk]
    rw [if_pos ⟨Nat.zero_le _, by omega⟩]
    simp [hk]
  · rw [if_neg hk]
    simp only [Array.getElem?_toList]
    exact (Array.getElem?_eq_none (by omega)).symm
theorem sorted_own {W : World} {base g cap m n : Nat} {T : TypeId} {xs ys : List Value} {os : Array Obj} (h : W.ownsRow base T 4 (.slice (some ⟨g, 0, none⟩) n cap) n xs) (hl : ys.length = n * 4) :
    (grow (putRow id (Sort.ahead W m) g 0 ys.toArray) os).ownsRow 0 T 4 (.slice (some ⟨g, 0, none⟩) n cap) n ys := by
  rcases h.2 with ⟨h1, _⟩ | ⟨g', cap', cur, hv, hb, hgg, h5, h6, h7, h8⟩
  · cases h1
  · injection hv with e1 _ e2
    injection e1 with e1
    injection e1 with e1
    subst e1; subst e2
    have hle : ys.toArray.size ≤ cur.size := by simp only [List.size_toArray]; rw [hl, h7]; exact Nat.mul_le_mul_right 4 h5
    refine ⟨hl, .inr ⟨g, cap, _, rfl, Nat.zero_le _, put_heap hgg, h5, h6, by simp [putCells, h7], ?_⟩⟩
    have := put_take hle
    simp only [List.size_toArray] at this
    rw [hl] at this
    exact this
theorem cmp_lt (x y : Sn) : ltOf (fun x y : Sn => cmpI x.s y.s) x y = decide (x.s < y.s) := by
  unfold ltOf cmpI
  by_cases h1 : x.s < y.s
  · simp [h1]
  · by_cases h2 : y.s < x.s <;> simp [h1, h2]
theorem cmp_swo : SWO (ltOf fun x y : Sn => cmpI x.s y.s) where
  irrefl x := by rw [cmp_lt]; simp
  trans x y z h1 h2 := by rw [cmp_lt] at *; simp at *; omega
  ntrans x y z h1 h2 := by rw [cmp_lt] at *; simp at *; omega

theorem sn_agg (w : World) : (isAgg 69).run Try.prog w = .ok true w := by kernel_rfl
theorem sn_size (w : World) : (Go.sizeOf 69).run Try.prog w = .ok 4 w := by kernel_rfl
theorem sort_pay (w : World) : SortPay w := by
  intro W v O hown hlen hk
  by_cases h0 : O = []
  · subst h0
    obtain ⟨vA, vc, rfl, _⟩ := own_sl hown
    have hcon := AnyF.slices_SortFunc_none sortQ vA vc (.func (.func 85) #[] #[]) W
    change Calls Try.prog 84 _ _ _ at hcon
    refine hcon.mono ?_
    rintro e w' ⟨rfl, rfl⟩
    exact ⟨rfl, by rw [show sortS [] = [] from List.eq_nil_of_length_eq_zero (sortS_perm []).length_eq]; exact own_zero hown, Frm.refl _ _⟩
  · obtain ⟨k, hkl⟩ : ∃ k, O.length = k + 1 := ⟨O.length - 1, by have := List.length_pos_iff.2 h0; omega⟩
    obtain ⟨g, cap, hv⟩ := ownsRow_succ (k := k) (by rw [hkl] at hown; exact hown)
    rw [← hkl] at hv
    subst hv
    have hb := (own_blk hown (c := g) rfl).2
    obtain ⟨cur, hcur⟩ := hb
    have hcell := own_sl hown
    have hH : HoldsK snCells 4 W g 0 O.toArray := by
      unfold HoldsK Holds
      rw [flat_sns]
      intro j hj
      obtain ⟨A, c, hA, _, _, hc⟩ := hcell
      obtain ⟨b', o', hb', _, hcc⟩ := hc (by omega)
      rw [hb'] at hA
      injection hA with hA _ _
      injection hA with hA
      injection hA with e1 e2
      subst e1; subst e2
      refine ⟨?_, ?_⟩
      · have hj' : j < (snsCells O).length := by simpa using hj
        have := hcc j ((snsCells O)[j]'hj') (List.getElem?_eq_getElem hj')
        rw [this, getElem!_pos _ j hj]; simp
      · rw [Nat.zero_add]; exact hcur.free j
    have eg : ∀ args w, (callFunc 85 args).run Try.prog w = .ok (.enter 85 args) w := enters_of Try.func85 (by kernel_rfl) rfl
    have hcon := AnyQ.slices_SortFunc sortQ 4 sn_agg sn_size snCells (fun _ => rfl) (fun x u hu => snsCells_one [x] u (by simpa [snsCells] using hu)) (fun x y : Sn => cmpI x.s y.s) cmp_swo 85 #[] g 0 cap O.toArray W eg (fun _ _ _ _ x y => closure_any x y _) hH hcur.lt (by simp; omega)
    change Calls Try.prog 84 #[.slice (some ⟨g, 0, none⟩) O.length cap, _] _ _ at hcon
    refine hcon.mono ?_
    rintro e w' ⟨rfl, d', n, os, hp, hs, rfl⟩
    obtain ⟨hp1, _, hp3⟩ := hp
    have hsz : d'.size = O.length := by simpa using hp1
    have hperm : d'.toList.Perm O := by
      have e1 : d'.extract 0 O.toArray.size = d' := by rw [← hp1]; simp
      have e2 : O.toArray.extract 0 O.toArray.size = O.toArray := by simp
      rw [e1, e2] at hp3
      exact hp3
    have hsort : d'.toList.Pairwise (fun x y => x.s ≤ y.s) := by
      rw [List.pairwise_iff_getElem]
      intro i j hi hj hij
      have hi' : i < d'.size := by simpa using hi
      have hj' : j < d'.size := by simpa using hj
      have := hs i j (Nat.zero_le _) hij (by rw [← hp1]; exact hj')
      rw [cmp_lt, getElem!_pos _ j hj', getElem!_pos _ i hi'] at this
      simp only [decide_eq_false_iff_not] at this
      simp only [Array.getElem_toList]
      omega
    have hd : d' = (sortS O).toArray := by
      have := sorted_is hk hperm hsort
      rw [← this]
    refine ⟨rfl, ?_, ?_⟩
    · unfold sortWorldK putRowK
      rw [hd, flat_sns]
      exact sorted_own hown (by rw [snsCells_length, (sortS_perm O).length_eq])
    · unfold sortWorldK putRowK
      exact (put_frm W g n _ os).mono (fun c _ hc => by rw [hc]; rfl)
theorem AllD_all (b mb : Nat) (lim : Int) (l : List Sn) (w : World) (h : TabAt w b mb lim l) (hl : l.length ≤ 1000) : Calls Try.prog 72 #[.pointer (some ⟨b, 0, none⟩)] w (AllRes l w) :=
  AllD_any b mb lim l w h hl (sort_pay w)
/-- told, with nothing left to be paid. -/
theorem told_all (b kb sb mb : Nat) (t : T) (l : List Sn) (p : Pos) (cs : Array Value) (ty : TypeId) (w : World) (hb : Blk w b cs ty) (h0 : cs[0]? = some (.int .i64 p.e)) (h1 : cs[1]? = some (.int .i64 p.i)) (h2 : cs[2]? = some (.pointer (some ⟨kb, 0, none⟩))) (h3 : cs[3]? = some (.pointer (some ⟨sb, 0, none⟩)))
    (hf : FoldAt w kb sb mb t l) (hlen : t.list.length ≤ 1000000000) (hl : l.length ≤ 1000) : Calls Try.prog 48 #[.pointer (some ⟨b, 0, none⟩)] w (ToldRes p t.list (sortS l) w) :=
  told_any b kb sb mb t l p cs ty w hb h0 h1 h2 h3 hf hlen (fun W hW => AllD_all sb mb 16 l W (hf.seen.frm (F := fun _ => False) (Frm.ofBelow hW) (fun h => h) (fun h => h)) hl)

end Go.Proofs.Ytedcdjlpogpgbaa

/- Layer 15: Table, Base, Closed. -/
set_option linter.unusedVariables false
set_option linter.unusedSimpArgs false
namespace Go.Proofs.Ytedcdjlpogpgbaa
open Go.RowKit

set_option maxRecDepth 100000 in
set_option maxHeartbeats 4000000 in
theorem Closed_any (L : Lay) (s : St) (w : World) (h : StAt w L s) :
    Calls Try.prog 24 #[.pointer (some ⟨L.b, 0, none⟩)] w fun e w' => e = .returned (.bool s.closed) ∧ Below w.heap.size w w' := by
  have hbl := h.blk.lt
  have c10 : World.cell? w ⟨L.b, 10, none⟩ = some (.bool s.closed) := by rw [Blk.cell h.blk]; rfl
  clear h
  go_enter Try.func24, Try.ntmps24
  go_wp2_with fail
  go_ret
  exact ⟨rfl, by (repeat' (first | with_reducible exact Below.refl _ _ | with_reducible refine below_drewN ?_ _ | with_reducible refine Below.drew ?_ | with_reducible refine Below.setCell ?_ (by first | exact Nat.le_refl _ | (simp; done) | (simp; omega) | omega) _ | with_reducible refine Below.alloc ?_ (by first | exact Nat.le_refl _ | (simp; done) | (simp; omega) | omega) _ | exact Below.refl _ _))⟩

set_option maxRecDepth 100000 in
set_option maxHeartbeats 4000000 in
theorem Base_any (L : Lay) (s : St) (w : World) (h : StAt w L s) :
    Calls Try.prog 29 #[.pointer (some ⟨L.b, 0, none⟩)] w fun e w' => e = .returned (.agg (posCells s.base.pos)) ∧ Below w.heap.size w w' := by
  have hbl := h.blk.lt
  have c5 : World.cell? w ⟨L.b, 5, none⟩ = some (.int .i64 s.base.pos.e) := by rw [Blk.cell h.blk]; rfl
  have c6 : World.cell? w ⟨L.b, 6, none⟩ = some (.int .i64 s.base.pos.i) := by rw [Blk.cell h.blk]; rfl
  clear h
  go_enter Try.func29, Try.ntmps29
  go_wp2_with fail
  refine ret_cell rfl rfl (loads_blk (T := 33) (cs := posCells s.base.pos) pos_agg pos_size ?_ rfl) rfl ⟨rfl, ?_⟩
  · ((repeat' (first | with_reducible exact Blk.new _ _ _ | with_reducible apply Blk.drewN | with_reducible apply Blk.drew | with_reducible apply Blk.set' | (with_reducible apply Blk.set_other (hp := by first | assumption | (simp; done) | (simp; omega) | omega)) | (with_reducible apply Blk.new'; focus (first | (simp; done) | (simp; omega))) | with_reducible apply Blk.alloc)) <;> rfl)
  · (repeat' (first | with_reducible exact Below.refl _ _ | with_reducible refine below_drewN ?_ _ | with_reducible refine Below.drew ?_ | with_reducible refine Below.setCell ?_ (by first | exact Nat.le_refl _ | (simp; done) | (simp; omega) | omega) _ | with_reducible refine Below.alloc ?_ (by first | exact Nat.le_refl _ | (simp; done) | (simp; omega) | omega) _ | exact Below.refl _ _))

def TableRes (t : List Ep) (w : World) (e : Ending) (w' : World) : Prop :=
  ∃ v, e = .returned v ∧ w'.ownsRow 0 29 3 v t.length (epsCells t) ∧ (∀ c, v.ownBlock = some c → w.heap.size ≤ c) ∧ Below w.heap.size w w'
set_option maxRecDepth 100000 in
set_option maxHeartbeats 4000000 in
theorem Table_any (L : Lay) (s : St) (w : World) (h : StAt w L s) (hl : s.table.length ≤ 1000) :
    Calls Try.prog 26 #[.pointer (some ⟨L.b, 0, none⟩)] w (TableRes s.table w) := by
  have hbl := h.blk.lt
  have c4 : World.cell? w ⟨L.b, 4, none⟩ = some (L.tv) := by rw [Blk.cell h.blk]; rfl
  have HTV := Lib.hid (own_sl h.tab)
  clear h
  go_enter Try.func26, Try.ntmps26
  go_upto_region 3 with (fail)
  obtain ⟨v', w3, happ, hown, hgr, hob⟩ := run_append_sl (P := Try.prog) (w := (w.alloc (.cells #[] 29))) 30 30 29 3 24 _ Try.underlying30 ep_info rfl (by omega) (.slice (some ⟨w.heap.size, 0, none⟩) 0 0) 0 [] (own_blk0 3 (Blk.new' rfl rfl)) L.tv s.table.length (epsCells s.table) (HTV.out.below (by (repeat' (first | with_reducible exact Below.refl _ _ | with_reducible refine below_drewN ?_ _ | with_reducible refine Below.drew ?_ | with_reducible refine Below.setCell ?_ (by first | exact Nat.le_refl _ | (simp; done) | (simp; omega) | omega) _ | with_reducible refine Below.alloc ?_ (by first | exact Nat.le_refl _ | (simp; done) | (simp; omega) | omega) _ | exact Below.refl _ _)))) (epsCells_length _) (epsCells_one _) (by omega) (by unfold maxLen; omega)
  rw [Nat.zero_add] at hown
  obtain ⟨A', ca', hv', _⟩ := own_sl hown
  subst hv'
  have HFR := Lib.hid (Frm.ofGrown hgr)
  have HO := Lib.hid hown
  have HOB := Lib.hid hob
  clear hown hgr hob
  go_wp2_with (refine list_append_run rfl _ _ _ _ rfl rfl (by rfl) (by rfl) happ ?_)
  go_ret
  have hg : ∀ c, (Value.slice A' s.table.length ca').ownBlock = some c → w.heap.size ≤ c := by
    intro c hc
    rcases HOB.out with h | h
    · rw [h] at hc; injection hc with hc; rw [← hc]; exact Nat.le_refl _
    · rw [h] at hc; injection hc with hc; rw [← hc]; simp
  exact ⟨.slice A' s.table.length ca', rfl, by simpa using HO.out, hg, Frm.ge (W := w.alloc (.cells #[] 29)) (by (repeat' (first | with_reducible exact Below.refl _ _ | with_reducible refine below_drewN ?_ _ | with_reducible refine Below.drew ?_ | with_reducible refine Below.setCell ?_ (by first | exact Nat.le_refl _ | (simp; done) | (simp; omega) | omega) _ | with_reducible refine Below.alloc ?_ (by first | exact Nat.le_refl _ | (simp; done) | (simp; omega) | omega) _ | exact Below.refl _ _))) HFR.out (by intro c hc; injection hc with hc; rw [← hc]; exact Nat.le_refl _)⟩

end Go.Proofs.Ytedcdjlpogpgbaa

/- Layer 15: Snapshot. -/
set_option linter.unusedVariables false
set_option linter.unusedSimpArgs false
namespace Go.Proofs.Ytedcdjlpogpgbaa
open Go.RowKit

set_option maxRecDepth 100000 in
set_option maxHeartbeats 4000000 in
theorem Snapshot_any (L : Lay) (s : St) (w : World) (h : StAt w L s) (hk : s.keys.length ≤ 1000000000) (hs : s.seen.length ≤ 1000) :
    Calls Try.prog 22 #[.pointer (some ⟨L.b, 0, none⟩)] w (ToldRes s.pos s.keys (sortS s.seen) w) := by
  have hbl := h.blk.lt
  have ht : ∀ W : World, Below w.heap.size w W → Calls Try.prog 48 #[.pointer (some ⟨L.b, 0, none⟩)] W (ToldRes s.pos s.keys (sortS s.seen) W) := fun W hW => by
    have hW' := h.below hW
    have := told_all L.b L.kb L.sb L.mb L.t s.seen s.pos _ _ W hW'.blk rfl rfl rfl rfl hW'.fold (by rw [hW'.keys]; exact hk) hs
    rwa [hW'.keys] at this
  have HT := Lib.hid ht
  clear h ht
  go_enter Try.func22, Try.ntmps22
  go_wp2_with fail
  refine (HT.out _ (by (repeat' (first | with_reducible exact Below.refl _ _ | with_reducible refine below_drewN ?_ _ | with_reducible refine Below.drew ?_ | with_reducible refine Below.setCell ?_ (by first | exact Nat.le_refl _ | (simp; done) | (simp; omega) | omega) _ | with_reducible refine Below.alloc ?_ (by first | exact Nat.le_refl _ | (simp; done) | (simp; omega) | omega) _ | exact Below.refl _ _)))).mono ?_
  rintro e w1 ⟨pv, sv, rfl, hp, hs', hn1, hn2, hb⟩
  obtain ⟨pA, pc, hpv, _⟩ := own_sl hp
  obtain ⟨sA, sc, hsv, _⟩ := own_sl hs'
  subst hpv
  subst hsv
  have hz := (Blk.new w (snapVal zeroPos (.slice none 0 0) (.slice none 0 0)) 40).below hb
  have hz1 := hz.lt
  have z0 : World.cell? w1 ⟨w.heap.size, 0, none⟩ = some (.int .i64 0) := by rw [Blk.cell hz]; rfl
  have z1 : World.cell? w1 ⟨w.heap.size, 1, none⟩ = some (.int .i64 0) := by rw [Blk.cell hz]; rfl
  have z2 : World.cell? w1 ⟨w.heap.size, 2, none⟩ = some (.slice none 0 0) := by rw [Blk.cell hz]; rfl
  have z3 : World.cell? w1 ⟨w.heap.size, 3, none⟩ = some (.slice none 0 0) := by rw [Blk.cell hz]; rfl
  have y0 := Blk.free hz 0
  have y1 := Blk.free hz 1
  have y2 := Blk.free hz 2
  have y3 := Blk.free hz 3
  have HZ := Lib.hid hz
  have HB := Lib.hid (((Below.refl _ w).alloc (Nat.le_refl _) (.cells (snapVal zeroPos (.slice none 0 0) (.slice none 0 0)) 40)).trans (hb.mono (by simp)))
  have HP := Lib.hid hp
  have HS := Lib.hid hs'
  have HN1 := Lib.hid hn1
  have HN2 := Lib.hid hn2
  unfold snapVal
  clear hz hb hp hs' hn1 hn2
  go_wp2_with fail
  refine ret_cell rfl rfl (loads_blk (T := 40) (cs := snapVal s.pos (.slice pA s.keys.length pc) (.slice sA (sortS s.seen).length sc)) snap_agg snap_size ?_ rfl) rfl ⟨_, _, rfl, ?_, ?_, ?_, ?_, ?_⟩
  · ((repeat' (first | with_reducible exact HZ.out | with_reducible exact Blk.new _ _ _ | with_reducible apply Blk.drewN | with_reducible apply Blk.drew | with_reducible apply Blk.set' | (with_reducible apply Blk.set_other (hp := by first | assumption | (simp; done) | (simp; omega) | omega)) | (with_reducible apply Blk.new'; focus (first | (simp; done) | (simp; omega))) | with_reducible apply Blk.alloc | exact HZ.out)) <;> rfl)
  · exact own_frm HP.out (F := fun c => c = w.heap.size) (by (repeat' (first | with_reducible exact Frm.refl _ _ | with_reducible refine Frm.drewN ?_ _ | with_reducible refine Frm.drew ?_ | with_reducible refine Frm.setCell ?_ (by first | exact Or.inl rfl | exact Or.inr (Nat.le_refl _) | (simp; done) | (simp; omega)) _ | with_reducible refine Frm.alloc ?_ _ | exact Frm.refl _ _))) (fun c hc e => by have := HN1.out c hc; simp at this; omega)
  · exact own_frm HS.out (F := fun c => c = w.heap.size) (by (repeat' (first | with_reducible exact Frm.refl _ _ | with_reducible refine Frm.drewN ?_ _ | with_reducible refine Frm.drew ?_ | with_reducible refine Frm.setCell ?_ (by first | exact Or.inl rfl | exact Or.inr (Nat.le_refl _) | (simp; done) | (simp; omega)) _ | with_reducible refine Frm.alloc ?_ _ | exact Frm.refl _ _))) (fun c hc e => by have := HN2.out c hc; simp at this; omega)
  · intro c hc; have := HN1.out c hc; simp at this; omega
  · intro c hc; have := HN2.out c hc; simp at this; omega
  · (repeat' (first | with_reducible exact HB.out | with_reducible exact Below.refl _ _ | with_reducible refine below_drewN ?_ _ | with_reducible refine Below.drew ?_ | with_reducible refine Below.setCell ?_ (by first | exact Nat.le_refl _ | (simp; done) | (simp; omega) | omega) _ | with_reducible refine Below.alloc ?_ (by first | exact Nat.le_refl _ | (simp; done) | (simp; omega) | omega) _ | exact Below.refl _ _ | exact HB.out))

end Go.Proofs.Ytedcdjlpogpgbaa

/- Layer 15: copied: a snapshot in new memory. -/
set_option linter.unusedVariables false
set_option linter.unusedSimpArgs false
namespace Go.Proofs.Ytedcdjlpogpgbaa
open Go.RowKit

set_option maxRecDepth 100000 in
set_option maxHeartbeats 4000000 in
theorem copied_snap (p : Pos) (pv sv : Value) (ps : List KV) (ss : List Sn) (w : World) (hp : SlAt w pv ps.length (pairsCells ps)) (hs : SlAt w sv ss.length (snsCells ss)) (hlp : ps.length ≤ 1000000000) (hls : ss.length ≤ 1000000000) :
    Calls Try.prog 49 #[.agg (snapVal p pv sv)] w (ToldRes p ps ss w) := by
  obtain ⟨pA, pc, hpv, _⟩ := id hp
  obtain ⟨sA, sc, hsv, _⟩ := id hs
  have HP := Lib.hid hp
  have HS := Lib.hid hs
  subst hpv
  subst hsv
  clear hp hs
  unfold snapVal
  go_enter Try.func49, Try.ntmps49
  go_upto_region 1 with (fail)
  refine wp_abs' ?_
  intro w2 hw2
  have X2 : Blk w2 w.heap.size (snapVal p (.slice pA ps.length pc) (.slice sA ss.length sc)) 40 := by rw [hw2]; ((repeat' (first | with_reducible exact Blk.new _ _ _ | with_reducible apply Blk.drewN | with_reducible apply Blk.drew | with_reducible apply Blk.set' | (with_reducible apply Blk.set_other (hp := by first | assumption | (simp; done) | (simp; omega) | omega)) | (with_reducible apply Blk.new'; focus (first | (simp; done) | (simp; omega))) | with_reducible apply Blk.alloc)) <;> rfl)
  have R2 : Blk w2 (w.heap.size + 1) (snapVal zeroPos (.slice none 0 0) (.slice none 0 0)) 40 := by rw [hw2]; ((repeat' (first | with_reducible exact Blk.new _ _ _ | with_reducible apply Blk.drewN | with_reducible apply Blk.drew | with_reducible apply Blk.set' | (with_reducible apply Blk.set_other (hp := by first | assumption | (simp; done) | (simp; omega) | omega)) | (with_reducible apply Blk.new'; focus (first | (simp; done) | (simp; omega))) | with_reducible apply Blk.alloc)) <;> rfl)
  have B2 : Below w.heap.size w w2 := by rw [hw2]; (repeat' (first | with_reducible exact Below.refl _ _ | with_reducible refine below_drewN ?_ _ | with_reducible refine Below.drew ?_ | with_reducible refine Below.setCell ?_ (by first | exact Nat.le_refl _ | (simp; done) | (simp; omega) | omega) _ | with_reducible refine Below.alloc ?_ (by first | exact Nat.le_refl _ | (simp; done) | (simp; omega) | omega) _ | exact Below.refl _ _))
  have hs2 : w.heap.size + 2 ≤ w2.heap.size := by rw [hw2]; simp
  clear hw2
  have hx2 := X2.lt
  have x2 : w2.cell? ⟨w.heap.size, 2, none⟩ = some (.slice pA ps.length pc) := by rw [X2.cell]; rfl
  obtain ⟨v', w3, happ, hown, hgr, hob⟩ := run_append_sl (P := Try.prog) (w := (w2.alloc (.cells #[] 67))) 37 37 67 5 56 _ Try.underlying37 pair_info rfl (by omega) (.slice (some ⟨w2.heap.size, 0, none⟩) 0 0) 0 [] (own_blk0 5 (Blk.new' rfl rfl)) (.slice pA ps.length pc) ps.length (pairsCells ps) (HP.out.below (by (repeat' (first | with_reducible exact B2 | with_reducible exact Below.refl _ _ | with_reducible refine below_drewN ?_ _ | with_reducible refine Below.drew ?_ | with_reducible refine Below.setCell ?_ (by first | exact Nat.le_refl _ | (simp; done) | (simp; omega) | omega) _ | with_reducible refine Below.alloc ?_ (by first | exact Nat.le_refl _ | (simp; done) | (simp; omega) | omega) _ | exact Below.refl _ _ | exact B2)))) (pairsCells_length _) (pairsCells_one _) (by omega) (by unfold maxLen; omega)
  rw [Nat.zero_add] at hown
  obtain ⟨A', ca', hv', _⟩ := own_sl hown
  subst hv'
  have hF3 : Frm (fun c => c = w2.heap.size) (w2.alloc (.cells #[] 67)) w3 := (Frm.ofGrown hgr).mono (fun i _ h => by injection h with h; exact h.symm)
  have hB23 : Below w2.heap.size w2 w3 := Frm.ge (W := w2.alloc (.cells #[] 67)) (by (repeat' (first | with_reducible exact Below.refl _ _ | with_reducible refine below_drewN ?_ _ | with_reducible refine Below.drew ?_ | with_reducible refine Below.setCell ?_ (by first | exact Nat.le_refl _ | (simp; done) | (simp; omega) | omega) _ | with_reducible refine Below.alloc ?_ (by first | exact Nat.le_refl _ | (simp; done) | (simp; omega) | omega) _ | exact Below.refl _ _))) hF3 (fun c hc => by omega)
  have hn1 : ∀ c, (Value.slice A' ps.length ca').ownBlock = some c → w2.heap.size ≤ c := by
    intro c hc
    rcases hob with h | h
    · rw [h] at hc; injection hc with hc; rw [← hc]; exact Nat.le_refl _
    · rw [h] at hc; injection hc with hc; rw [← hc]; simp
  have X3 := X2.below hB23
  have R3 := R2.below hB23
  have B3 := B2.trans (hB23.mono B2.size)
  have x3 : w3.cell? ⟨w.heap.size, 2, none⟩ = some (.slice pA ps.length pc) := by rw [X3.cell]; rfl
  have f3 := X3.free 2
  have hx3 := X3.lt
  have hs3 := hB23.size
  have HX3 := Lib.hid X3
  have HR3 := Lib.hid R3
  have HB3 := Lib.hid B3
  have HN1 := Lib.hid hn1
  have HO1 := Lib.hid (show w3.ownsRow 0 67 5 (.slice A' ps.length ca') ps.length (pairsCells ps) by simpa using hown)
  clear X2 R2 B2 hown hgr hob hF3 hB23 hn1 X3 R3 B3
  go_upto_region 2 with (refine list_append_run rfl _ _ _ _ rfl rfl (by rfl) (by rfl) happ ?_)
  refine wp_abs' ?_
  intro w4 hw4
  have X4 : Blk w4 w.heap.size (snapVal p (.slice A' ps.length ca') (.slice sA ss.length sc)) 40 := by rw [hw4]; ((repeat' (first | with_reducible exact HX3.out | with_reducible exact Blk.new _ _ _ | with_reducible apply Blk.drewN | with_reducible apply Blk.drew | with_reducible apply Blk.set' | (with_reducible apply Blk.set_other (hp := by first | assumption | (simp; done) | (simp; omega) | omega)) | (with_reducible apply Blk.new'; focus (first | (simp; done) | (simp; omega))) | with_reducible apply Blk.alloc | exact HX3.out)) <;> rfl)
  have R4 : Blk w4 (w.heap.size + 1) (snapVal zeroPos (.slice none 0 0) (.slice none 0 0)) 40 := by rw [hw4]; ((repeat' (first | with_reducible exact HR3.out | with_reducible exact Blk.new _ _ _ | with_reducible apply Blk.drewN | with_reducible apply Blk.drew | with_reducible apply Blk.set' | (with_reducible apply Blk.set_other (hp := by first | assumption | (simp; done) | (simp; omega) | omega)) | (with_reducible apply Blk.new'; focus (first | (simp; done) | (simp; omega))) | with_reducible apply Blk.alloc | exact HR3.out)) <;> rfl)
  have F34 : Frm (fun c => c = w.heap.size) w3 w4 := by rw [hw4]; (repeat' (first | with_reducible exact Frm.refl _ _ | with_reducible refine Frm.drewN ?_ _ | with_reducible refine Frm.drew ?_ | with_reducible refine Frm.setCell ?_ (by first | exact Or.inl rfl | exact Or.inr (Nat.le_refl _) | (simp; done) | (simp; omega)) _ | with_reducible refine Frm.alloc ?_ _ | exact Frm.refl _ _))
  clear hw4 x2 x3 f3 happ
  have B4 : Below w.heap.size w w4 := HB3.out.trans ⟨F34.os, F34.tape, F34.output, F34.size, fun i hi => F34.block i (by omega) (by omega)⟩
  have hs4 := F34.size
  have O4 := own_frm HO1.out F34 (fun c hc e => by have := HN1.out c hc; omega)
  have hx4 := X4.lt
  have x4 : w4.cell? ⟨w.heap.size, 3, none⟩ = some (.slice sA ss.length sc) := by rw [X4.cell]; rfl
  obtain ⟨v'', w5, happ2, hown2, hgr2, hob2⟩ := run_append_sl (P := Try.prog) (w := (w4.alloc (.cells #[] 69))) 38 38 69 4 32 _ Try.underlying38 sn_info rfl (by omega) (.slice (some ⟨w4.heap.size, 0, none⟩) 0 0) 0 [] (own_blk0 4 (Blk.new' rfl rfl)) (.slice sA ss.length sc) ss.length (snsCells ss) (HS.out.below (by (repeat' (first | with_reducible exact B4 | with_reducible exact Below.refl _ _ | with_reducible refine below_drewN ?_ _ | with_reducible refine Below.drew ?_ | with_reducible refine Below.setCell ?_ (by first | exact Nat.le_refl _ | (simp; done) | (simp; omega) | omega) _ | with_reducible refine Below.alloc ?_ (by first | exact Nat.le_refl _ | (simp; done) | (simp; omega) | omega) _ | exact Below.refl _ _ | exact B4)))) (snsCells_length _) (snsCells_one _) (by omega) (by unfold maxLen; omega)
  rw [Nat.zero_add] at hown2
  obtain ⟨A'', ca'', hv'', _⟩ := own_sl hown2
  subst hv''
  have hF5 : Frm (fun c => c = w4.heap.size) (w4.alloc (.cells #[] 69)) w5 := (Frm.ofGrown hgr2).mono (fun i _ h => by injection h with h; exact h.symm)
  have hB45 : Below w4.heap.size w4 w5 := Frm.ge (W := w4.alloc (.cells #[] 69)) (by (repeat' (first | with_reducible exact Below.refl _ _ | with_reducible refine below_drewN ?_ _ | with_reducible refine Below.drew ?_ | with_reducible refine Below.setCell ?_ (by first | exact Nat.le_refl _ | (simp; done) | (simp; omega) | omega) _ | with_reducible refine Below.alloc ?_ (by first | exact Nat.le_refl _ | (simp; done) | (simp; omega) | omega) _ | exact Below.refl _ _))) hF5 (fun c hc => by omega)
  have hn2 : ∀ c, (Value.slice A'' ss.length ca'').ownBlock = some c → w4.heap.size ≤ c := by
    intro c hc
    rcases hob2 with h | h
    · rw [h] at hc; injection hc with hc; rw [← hc]; exact Nat.le_refl _
    · rw [h] at hc; injection hc with hc; rw [← hc]; simp
  have X5 := X4.below hB45
  have R5 := R4.below hB45
  have B5 := B4.trans (hB45.mono B4.size)
  have O5 := own_frm O4 (Frm.ofBelow (F := fun _ => False) hB45) (fun _ _ h => h)
  have x5 : w5.cell? ⟨w.heap.size, 3, none⟩ = some (.slice sA ss.length sc) := by rw [X5.cell]; rfl
  have f5 := X5.free 3
  have hx5 := X5.lt
  have hs5 := hB45.size
  have HX5 := Lib.hid X5
  have HR5 := Lib.hid R5
  have HB5 := Lib.hid B5
  have HN2 := Lib.hid hn2
  have HO5 := Lib.hid O5
  have HO2 := Lib.hid (show w5.ownsRow 0 69 4 (.slice A'' ss.length ca'') ss.length (snsCells ss) by simpa using hown2)
  clear X4 R4 B4 O4 F34 hown2 hgr2 hob2 hF5 hB45 hn2 X5 R5 B5 O5
  go_upto_region 3 with (refine list_append_run rfl _ _ _ _ rfl rfl (by rfl) (by rfl) happ2 ?_)
  refine wp_abs' ?_
  intro w6 hw6
  have X6 : Blk w6 w.heap.size (snapVal p (.slice A' ps.length ca') (.slice A'' ss.length ca'')) 40 := by rw [hw6]; ((repeat' (first | with_reducible exact HX5.out | with_reducible exact Blk.new _ _ _ | with_reducible apply Blk.drewN | with_reducible apply Blk.drew | with_reducible apply Blk.set' | (with_reducible apply Blk.set_other (hp := by first | assumption | (simp; done) | (simp; omega) | omega)) | (with_reducible apply Blk.new'; focus (first | (simp; done) | (simp; omega))) | with_reducible apply Blk.alloc | exact HX5.out)) <;> rfl)
  have R6 : Blk w6 (w.heap.size + 1) (snapVal zeroPos (.slice none 0 0) (.slice none 0 0)) 40 := by rw [hw6]; ((repeat' (first | with_reducible exact HR5.out | with_reducible exact Blk.new _ _ _ | with_reducible apply Blk.drewN | with_reducible apply Blk.drew | with_reducible apply Blk.set' | (with_reducible apply Blk.set_other (hp := by first | assumption | (simp; done) | (simp; omega) | omega)) | (with_reducible apply Blk.new'; focus (first | (simp; done) | (simp; omega))) | with_reducible apply Blk.alloc | exact HR5.out)) <;> rfl)
  have F56 : Frm (fun c => c = w.heap.size) w5 w6 := by rw [hw6]; (repeat' (first | with_reducible exact Frm.refl _ _ | with_reducible refine Frm.drewN ?_ _ | with_reducible refine Frm.drew ?_ | with_reducible refine Frm.setCell ?_ (by first | exact Or.inl rfl | exact Or.inr (Nat.le_refl _) | (simp; done) | (simp; omega)) _ | with_reducible refine Frm.alloc ?_ _ | exact Frm.refl _ _))
  clear hw6 x4 x5 f5 happ2
  have O6 := own_frm HO5.out F56 (fun c hc e => by have := HN1.out c hc; omega)
  have P6 := own_frm HO2.out F56 (fun c hc e => by have := HN2.out c hc; omega)
  have B6 : Below w.heap.size w w6 := HB5.out.trans ⟨F56.os, F56.tape, F56.output, F56.size, fun i hi => F56.block i (by omega) (by omega)⟩
  have a0 : World.cell? w6 ⟨w.heap.size, 0, none⟩ = some (.int .i64 p.e) := by rw [Blk.cell X6]; rfl
  have a1 : World.cell? w6 ⟨w.heap.size, 1, none⟩ = some (.int .i64 p.i) := by rw [Blk.cell X6]; rfl
  have a2 : World.cell? w6 ⟨w.heap.size, 2, none⟩ = some (.slice A' ps.length ca') := by rw [Blk.cell X6]; rfl
  have a3 : World.cell? w6 ⟨w.heap.size, 3, none⟩ = some (.slice A'' ss.length ca'') := by rw [Blk.cell X6]; rfl
  have r0 : World.cell? w6 ⟨w.heap.size + 1, 0, none⟩ = some (.int .i64 0) := by rw [Blk.cell R6]; rfl
  have r1 : World.cell? w6 ⟨w.heap.size + 1, 1, none⟩ = some (.int .i64 0) := by rw [Blk.cell R6]; rfl
  have r2 : World.cell? w6 ⟨w.heap.size + 1, 2, none⟩ = some (.slice none 0 0) := by rw [Blk.cell R6]; rfl
  have r3 : World.cell? w6 ⟨w.heap.size + 1, 3, none⟩ = some (.slice none 0 0) := by rw [Blk.cell R6]; rfl
  have y0 := Blk.free R6 0
  have y1 := Blk.free R6 1
  have y2 := Blk.free R6 2
  have y3 := Blk.free R6 3
  have hx6 := X6.lt
  have hr6 := R6.lt
  have HR6 := Lib.hid R6
  have HO6 := Lib.hid O6
  have HP6 := Lib.hid P6
  have HB6 := Lib.hid B6
  clear X6 R6 O6 P6 B6 F56
  go_wp2_with fail
  refine ret_cell rfl rfl (loads_blk (T := 40) (cs := snapVal p (.slice A' ps.length ca') (.slice A'' ss.length ca'')) snap_agg snap_size ?_ rfl) rfl ⟨_, _, rfl, ?_, ?_, ?_, ?_, ?_⟩
  · ((repeat' (first | with_reducible exact HR6.out | with_reducible exact Blk.new _ _ _ | with_reducible apply Blk.drewN | with_reducible apply Blk.drew | with_reducible apply Blk.set' | (with_reducible apply Blk.set_other (hp := by first | assumption | (simp; done) | (simp; omega) | omega)) | (with_reducible apply Blk.new'; focus (first | (simp; done) | (simp; omega))) | with_reducible apply Blk.alloc | exact HR6.out)) <;> rfl)
  · exact own_frm HO6.out (F := fun c => c = w.heap.size + 1) (by (repeat' (first | with_reducible exact Frm.refl _ _ | with_reducible refine Frm.drewN ?_ _ | with_reducible refine Frm.drew ?_ | with_reducible refine Frm.setCell ?_ (by first | exact Or.inl rfl | exact Or.inr (Nat.le_refl _) | (simp; done) | (simp; omega)) _ | with_reducible refine Frm.alloc ?_ _ | exact Frm.refl _ _))) (fun c hc e => by have := HN1.out c hc; omega)
  · exact own_frm HP6.out (F := fun c => c = w.heap.size + 1) (by (repeat' (first | with_reducible exact Frm.refl _ _ | with_reducible refine Frm.drewN ?_ _ | with_reducible refine Frm.drew ?_ | with_reducible refine Frm.setCell ?_ (by first | exact Or.inl rfl | exact Or.inr (Nat.le_refl _) | (simp; done) | (simp; omega)) _ | with_reducible refine Frm.alloc ?_ _ | exact Frm.refl _ _))) (fun c hc e => by have := HN2.out c hc; omega)
  · intro c hc; have := HN1.out c hc; omega
  · intro c hc; have := HN2.out c hc; omega
  · (repeat' (first | with_reducible exact HB6.out | with_reducible exact Below.refl _ _ | with_reducible refine below_drewN ?_ _ | with_reducible refine Below.drew ?_ | with_reducible refine Below.setCell ?_ (by first | exact Nat.le_refl _ | (simp; done) | (simp; omega) | omega) _ | with_reducible refine Below.alloc ?_ (by first | exact Nat.le_refl _ | (simp; done) | (simp; omega) | omega) _ | exact Below.refl _ _ | exact HB6.out))

end Go.Proofs.Ytedcdjlpogpgbaa
