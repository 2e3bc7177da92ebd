/- Layer 14's table: what Look, Note and Load come to. -/
import Derived.Test.YtedcdjlpogpgbaaRun
import Derived.Test.YtedcdjlpogpgbaaTree
set_option linter.unusedVariables false
set_option linter.unusedSimpArgs false
namespace Go.Proofs.Ytedcdjlpogpgbaa
open Go.RowKit
open Go.ChangeMaps (setBlock)

structure Sn where
  s : Int
  r : Int
  pos : Pos
def lastCells (x : Sn) : Array Value := #[.int .i64 x.r, .int .i64 x.pos.e, .int .i64 x.pos.i]
def sess (l : List Sn) : List (Value × Value) := l.map fun x => (.int .i64 x.s, .agg (lastCells x))
def TabT : TypeId := 141
structure TabAt (w : World) (b mb : Nat) (lim : Int) (l : List Sn) : Prop where
  blk : Blk w b #[.int .i64 lim, .map (some mb)] TabT
  map : MpAt w mb (sess l)
  keys : l.Pairwise (fun x y => x.s ≠ y.s)
theorem TabAt.frm {F : Nat → Prop} {w w' : World} {b mb : Nat} {lim : Int} {l : List Sn} (h : TabAt w b mb lim l) (f : Frm F w w') (h1 : ¬ F b) (h2 : ¬ F mb) : TabAt w' b mb lim l :=
  ⟨h.blk.frm f h1, h.map.frm f h2, h.keys⟩
theorem sess_ints (l : List Sn) : Ints (sess l) := by
  intro p hp
  simp only [sess, List.mem_map] at hp
  obtain ⟨x, _, rfl⟩ := hp
  exact ⟨_, rfl⟩
theorem sess_find (s : Int) (l : List Sn) : findI s (sess l) = (l.find? (fun x => x.s == s)).map (fun x => .agg (lastCells x)) := by
  unfold findI sess
  rw [List.find?_map]
  simp only [Option.map_map]
  rfl
def zeroPos : Pos := ⟨0, 0⟩
def look (lim : Int) (l : List Sn) (s r : Int) : Int × Pos :=
  match l.find? (fun x => x.s == s) with
  | none => if lim ≤ (l.length : Int) then (4, zeroPos) else (1, zeroPos)
  | some x => if x.r < r then (1, zeroPos) else if r < x.r then (3, zeroPos) else (2, x.pos)
def posCells (p : Pos) : Array Value := #[.int .i64 p.e, .int .i64 p.i]
theorem pos_agg (w : World) : (isAgg 33).run Try.prog w = .ok true w := by kernel_rfl
theorem pos_size (w : World) : (sizeOf 33).run Try.prog w = .ok 2 w := by kernel_rfl
theorem zero_last (w : World) : (zeroValue 137).run Try.prog w = .ok (.agg #[.int .i64 0, .int .i64 0, .int .i64 0]) w := by kernel_rfl

def LookRes (lim : Int) (l : List Sn) (s r : Int) (w : World) (e : Ending) (w' : World) : Prop :=
  e = .returned (.tuple #[.int .i64 (look lim l s r).1, .agg (posCells (look lim l s r).2)]) ∧ Below w.heap.size w w'

set_option maxRecDepth 100000 in
set_option maxHeartbeats 2000000 in
theorem Look_none (b mb : Nat) (lim : Int) (l : List Sn) (s r : Int) (w : World) (h : TabAt w b mb lim l) (hf : l.find? (fun x => x.s == s) = none) :
    Calls Try.prog 52 #[.pointer (some ⟨b, 0, none⟩), .int .i64 s, .int .i64 r] w (LookRes lim l s r w) := by
  have hb := h.blk.lt
  have c0 : w.cell? ⟨b, 0, none⟩ = some (.int .i64 lim) := by rw [h.blk.cell]; rfl
  have c1 : w.cell? ⟨b, 1, none⟩ = some (.map (some mb)) := by rw [h.blk.cell]; rfl
  have hl := run_lookup_int (P := Try.prog) (t := 139) (z := _) Try.underlying139 Try.underlying3 zero_last (h.map.alloc (.cells #[.int .i64 0, .int .i64 0] 33)) (sess_ints l) s
  rw [sess_find, hf] at hl
  simp only [Option.map_none, Option.getD_none, Option.isSome_none] at hl
  have hn := fun n => run_len_map (P := Try.prog) (t := 139) Try.underlying139 (w := ((w.alloc (.cells #[.int .i64 0, .int .i64 0] 33)).alloc (.cells #[.int .i64 0, .int .i64 0, .int .i64 0] 137)).drewN n) (b := mb) (l := sess l) (((h.map.alloc _).alloc _).frm (F := fun _ => False) ((Frm.refl _ _).drewN n) (fun h => h)) 3
  have hll : (sess l).length = l.length := by simp [sess]
  rw [hll] at hn
  clear hll
  have HF := Lib.hid hf
  clear hf
  by_cases hlim : lim ≤ (l.length : Int)
  · go_enter Try.func52, Try.ntmps52
    go_wp2_with fail
    go_quiet (fail)
    go_wp2_with fail
    refine ret_tmp_cell rfl rfl (loads_blk (T := 33) (cs := posCells zeroPos) pos_agg pos_size ?_ rfl) rfl ⟨?_, ?_⟩
    · ((repeat' (first | with_reducible exact Blk.new _ _ _ | with_reducible apply Blk.drewN | with_reducible apply Blk.drew | with_reducible apply Blk.set' | (with_reducible apply Blk.set_other (hp := by first | assumption | (simp; done) | (simp; omega) | omega)) | (with_reducible apply Blk.new'; focus (first | (simp; done) | (simp; omega))) | with_reducible apply Blk.alloc)) <;> rfl)
    · have e : look lim l s r = (4, zeroPos) := by unfold look; rw [HF.out]; simp [hlim]
      rw [e]; rfl
    · (repeat' (first | with_reducible exact Below.refl _ _ | with_reducible refine below_drewN ?_ _ | with_reducible refine Below.drew ?_ | with_reducible refine Below.setCell ?_ (by first | exact Nat.le_refl _ | (simp; done) | (simp; omega) | omega) _ | with_reducible refine Below.alloc ?_ (by first | exact Nat.le_refl _ | (simp; done) | (simp; omega) | omega) _ | exact Below.refl _ _))
  · go_enter Try.func52, Try.ntmps52
    go_wp2_with fail
    go_quiet (fail)
    go_wp2_with fail
    refine ret_tmp_cell rfl rfl (loads_blk (T := 33) (cs := posCells zeroPos) pos_agg pos_size ?_ rfl) rfl ⟨?_, ?_⟩
    · ((repeat' (first | with_reducible exact Blk.new _ _ _ | with_reducible apply Blk.drewN | with_reducible apply Blk.drew | with_reducible apply Blk.set' | (with_reducible apply Blk.set_other (hp := by first | assumption | (simp; done) | (simp; omega) | omega)) | (with_reducible apply Blk.new'; focus (first | (simp; done) | (simp; omega))) | with_reducible apply Blk.alloc)) <;> rfl)
    · have e : look lim l s r = (1, zeroPos) := by unfold look; rw [HF.out]; simp [hlim]
      rw [e]; rfl
    · (repeat' (first | with_reducible exact Below.refl _ _ | with_reducible refine below_drewN ?_ _ | with_reducible refine Below.drew ?_ | with_reducible refine Below.setCell ?_ (by first | exact Nat.le_refl _ | (simp; done) | (simp; omega) | omega) _ | with_reducible refine Below.alloc ?_ (by first | exact Nat.le_refl _ | (simp; done) | (simp; omega) | omega) _ | exact Below.refl _ _))
set_option maxRecDepth 100000 in
set_option maxHeartbeats 2000000 in
theorem Look_some (b mb : Nat) (lim : Int) (l : List Sn) (s r : Int) (w : World) (h : TabAt w b mb lim l) (x : Sn) (hf : l.find? (fun x => x.s == s) = some x) :
    Calls Try.prog 52 #[.pointer (some ⟨b, 0, none⟩), .int .i64 s, .int .i64 r] w (LookRes lim l s r w) := by
  have hb := h.blk.lt
  have c0 : w.cell? ⟨b, 0, none⟩ = some (.int .i64 lim) := by rw [h.blk.cell]; rfl
  have c1 : w.cell? ⟨b, 1, none⟩ = some (.map (some mb)) := by rw [h.blk.cell]; rfl
  have hl := run_lookup_int (P := Try.prog) (t := 139) (z := _) Try.underlying139 Try.underlying3 zero_last (h.map.alloc (.cells #[.int .i64 0, .int .i64 0] 33)) (sess_ints l) s
  rw [sess_find, hf] at hl
  simp only [Option.map_some, Option.getD_some, Option.isSome_some, lastCells] at hl
  have HF := Lib.hid hf
  clear hf
  by_cases h1 : x.r < r
  · have h1' : decide (x.r < r) = true := by simpa using h1
    go_enter Try.func52, Try.ntmps52
    go_wp2_with fail
    go_quiet (fail)
    go_wp2_with fail
    refine ret_tmp_cell rfl rfl (loads_blk (T := 33) (cs := posCells zeroPos) pos_agg pos_size ?_ rfl) rfl ⟨?_, ?_⟩
    · ((repeat' (first | with_reducible exact Blk.new _ _ _ | with_reducible apply Blk.drewN | with_reducible apply Blk.drew | with_reducible apply Blk.set' | (with_reducible apply Blk.set_other (hp := by first | assumption | (simp; done) | (simp; omega) | omega)) | (with_reducible apply Blk.new'; focus (first | (simp; done) | (simp; omega))) | with_reducible apply Blk.alloc)) <;> rfl)
    · have e : look lim l s r = (1, zeroPos) := by unfold look; rw [HF.out]; simp [h1]
      rw [e]; rfl
    · (repeat' (first | with_reducible exact Below.refl _ _ | with_reducible refine below_drewN ?_ _ | with_reducible refine Below.drew ?_ | with_reducible refine Below.setCell ?_ (by first | exact Nat.le_refl _ | (simp; done) | (simp; omega) | omega) _ | with_reducible refine Below.alloc ?_ (by first | exact Nat.le_refl _ | (simp; done) | (simp; omega) | omega) _ | exact Below.refl _ _))
  · by_cases h2 : r < x.r
    · go_enter Try.func52, Try.ntmps52
      go_wp2_with fail
      go_quiet (fail)
      go_wp2_with fail
      refine ret_tmp_cell rfl rfl (loads_blk (T := 33) (cs := posCells zeroPos) pos_agg pos_size ?_ rfl) rfl ⟨?_, ?_⟩
      · ((repeat' (first | with_reducible exact Blk.new _ _ _ | with_reducible apply Blk.drewN | with_reducible apply Blk.drew | with_reducible apply Blk.set' | (with_reducible apply Blk.set_other (hp := by first | assumption | (simp; done) | (simp; omega) | omega)) | (with_reducible apply Blk.new'; focus (first | (simp; done) | (simp; omega))) | with_reducible apply Blk.alloc)) <;> rfl)
      · have e : look lim l s r = (3, zeroPos) := by unfold look; rw [HF.out]; dsimp only; first | (rw [if_neg (by omega), if_neg (by omega)]; done) | (rw [if_neg (by omega), if_pos (by omega)]; done)
        rw [e]; rfl
      · (repeat' (first | with_reducible exact Below.refl _ _ | with_reducible refine below_drewN ?_ _ | with_reducible refine Below.drew ?_ | with_reducible refine Below.setCell ?_ (by first | exact Nat.le_refl _ | (simp; done) | (simp; omega) | omega) _ | with_reducible refine Below.alloc ?_ (by first | exact Nat.le_refl _ | (simp; done) | (simp; omega) | omega) _ | exact Below.refl _ _))
    · go_enter Try.func52, Try.ntmps52
      go_wp2_with fail
      go_quiet (fail)
      go_wp2_with fail
      go_region
      all_goals
        go_wp2_with fail
        refine ret_tmp_cell rfl rfl (loads_blk (T := 33) (cs := posCells x.pos) pos_agg pos_size ?_ rfl) rfl ⟨?_, ?_⟩
        · ((repeat' (first | with_reducible exact Blk.new _ _ _ | with_reducible apply Blk.drewN | with_reducible apply Blk.drew | with_reducible apply Blk.set' | (with_reducible apply Blk.set_other (hp := by first | assumption | (simp; done) | (simp; omega) | omega)) | (with_reducible apply Blk.new'; focus (first | (simp; done) | (simp; omega))) | with_reducible apply Blk.alloc)) <;> rfl)
        · have e : look lim l s r = (2, x.pos) := by unfold look; rw [HF.out]; dsimp only; first | (rw [if_neg (by omega), if_neg (by omega)]; done) | (rw [if_neg (by omega), if_pos (by omega)]; done)
          rw [e]; rfl
        · (repeat' (first | with_reducible exact Below.refl _ _ | with_reducible refine below_drewN ?_ _ | with_reducible refine Below.drew ?_ | with_reducible refine Below.setCell ?_ (by first | exact Nat.le_refl _ | (simp; done) | (simp; omega) | omega) _ | with_reducible refine Below.alloc ?_ (by first | exact Nat.le_refl _ | (simp; done) | (simp; omega) | omega) _ | exact Below.refl _ _))

theorem Look_any (b mb : Nat) (lim : Int) (l : List Sn) (s r : Int) (w : World) (h : TabAt w b mb lim l) :
    Calls Try.prog 52 #[.pointer (some ⟨b, 0, none⟩), .int .i64 s, .int .i64 r] w (LookRes lim l s r w) := by
  cases hf : l.find? (fun x => x.s == s) with
  | none => exact Look_none b mb lim l s r w h hf
  | some x => exact Look_some b mb lim l s r w h x hf

def note (x : Sn) (l : List Sn) : List Sn := if (l.find? (fun y => y.s == x.s)).isSome = true then l.map (fun y => if (y.s == x.s) = true then x else y) else l ++ [x]
theorem sess_note (x : Sn) (l : List Sn) : updI x.s (.agg (lastCells x)) (sess l) = sess (note x l) := by
  unfold updI note
  rw [sess_find]
  cases hf : l.find? (fun y => y.s == x.s) with
  | none => simp [sess]
  | some y =>
    simp only [Option.map_some, Option.isSome_some, if_true]
    unfold sess
    rw [List.map_map, List.map_map]
    apply List.map_congr_left
    intro z _
    show (if keyIs x.s (.int .i64 z.s, .agg (lastCells z)) = true then _ else _) = _
    have hk : keyIs x.s (.int .i64 z.s, .agg (lastCells z)) = (z.s == x.s) := rfl
    rw [hk]
    by_cases hz : (z.s == x.s) = true <;> simp [Function.comp, hz]
theorem keys_note {x : Sn} {l : List Sn} (h : l.Pairwise (fun x y => x.s ≠ y.s)) : (note x l).Pairwise (fun x y => x.s ≠ y.s) := by
  unfold note
  cases hf : l.find? (fun y => y.s == x.s) with
  | none =>
    simp only [Option.isSome_none, Bool.false_eq_true, if_false]
    rw [List.pairwise_append]
    refine ⟨h, by simp, ?_⟩
    intro a ha b hb
    simp only [List.mem_singleton] at hb
    subst hb
    rw [List.find?_eq_none] at hf
    have := hf a ha
    simpa using this
  | some y =>
    simp only [Option.isSome_some, if_true]
    rw [List.pairwise_map]
    refine h.imp ?_
    intro a b hab
    by_cases h1 : (a.s == x.s) = true <;> by_cases h2 : (b.s == x.s) = true
    · simp only [beq_iff_eq] at h1 h2; exact absurd (h1.trans h2.symm) hab
    · simp only [h1, h2, if_true]; simp only [beq_iff_eq] at h1 h2; simp; exact fun e => h2 e.symm
    · simp only [h1, h2, if_true]; simp only [beq_iff_eq] at h1 h2; simp; exact fun e => h1 e
    · simp only [h1, h2]; simpa using hab
def NoteRes (b mb : Nat) (lim : Int) (l : List Sn) (x : Sn) (w : World) (e : Ending) (w' : World) : Prop :=
  ∃ bb : Bool, e = .returned (.bool bb) ∧ TabAt w' b mb lim (if (look lim l x.s x.r).1 = 1 then note x l else l) ∧ Frm (fun c => c = mb) w w'

set_option maxRecDepth 100000 in
set_option maxHeartbeats 2000000 in
theorem Note_any (b mb : Nat) (lim : Int) (l : List Sn) (x : Sn) (w : World) (h : TabAt w b mb lim l) :
    Calls Try.prog 71 #[.pointer (some ⟨b, 0, none⟩), .int .i64 x.s, .int .i64 x.r, .agg (posCells x.pos)] w (NoteRes b mb lim l x w) := by
  have H := Lib.hid h
  have hbm : b ≠ mb := by
    intro e; subst e
    obtain ⟨es, cl, hm, _⟩ := h.map
    have := h.blk
    unfold Blk at this
    rw [this] at hm
    cases hm
  have hb0 := h.blk.lt
  clear h
  unfold posCells
  go_enter Try.func71, Try.ntmps71
  go_wp2_with fail
  refine (Look_any b mb lim l x.s x.r _ (H.out.frm (F := fun _ => False) ((Frm.refl _ _).alloc _) (fun h => h) (fun h => h))).mono ?_
  rintro e w1 ⟨rfl, hbel⟩
  have h1 : TabAt w1 b mb lim l := H.out.frm (F := fun _ => False) (((Frm.refl _ _).alloc _).trans (Frm.ofBelow hbel) (fun _ _ h => h)) (fun h => h) (fun h => h)
  have hx := (Blk.new w (posCells x.pos) 33).below hbel
  have hx1 := hx.lt
  have x0 : w1.cell? ⟨w.heap.size, 0, none⟩ = some (.int .i64 x.pos.e) := by rw [hx.cell]; rfl
  have x1 : w1.cell? ⟨w.heap.size, 1, none⟩ = some (.int .i64 x.pos.i) := by rw [hx.cell]; rfl
  have hb := h1.blk.lt
  have c1 : w1.cell? ⟨b, 1, none⟩ = some (.map (some mb)) := by rw [h1.blk.cell]; rfl
  have HB := Lib.hid (((Below.refl _ w).alloc (Nat.le_refl _) (.cells (posCells x.pos) 33)).trans (hbel.mono (by simp)))
  have H1 := Lib.hid h1
  clear hbel hx
  obtain ⟨⟨le, li⟩, hlp⟩ : ∃ p, (look lim l x.s x.r).2 = p := ⟨_, rfl⟩
  rw [hlp]
  clear hlp
  unfold posCells
  dsimp only
  by_cases hk : (look lim l x.s x.r).1 = 1
  · have hk' : ((look lim l x.s x.r).1 == 1) = true := by simpa using hk
    have hk2 : ((look lim l x.s x.r).1 != 1) = false := by simp [hk]
    obtain ⟨o, ho, hmp⟩ := run_mapUpdate_int (P := Try.prog) (t := 139) Try.underlying139 Try.underlying3 (w := (w1.alloc (.cells #[.int .i64 le, .int .i64 li] 33)).drew) (b := mb) (l := sess l)
      (H1.out.map.frm (F := fun _ => False) ((Frm.refl _ _).alloc _).drew (fun h => h)) (sess_ints l) (by unfold sess; rw [List.map_map, List.pairwise_map]; exact H1.out.keys.imp (fun hab h => by injection h with _ h; exact hab h)) x.s (.agg (lastCells x))
    rw [sess_note] at hmp
    have HM := Lib.hid hmp
    have HK := Lib.hid hk
    unfold lastCells at ho
    clear hmp hk
    go_wp2_with fail
    go_region
    all_goals
      go_wp2_with fail
      go_ret
      refine ⟨true, rfl, ?_, ?_⟩
      · rw [if_pos HK.out]
        exact ⟨(((H1.out.blk.alloc _).drew).frm (frm_setBlock _ mb o) hbm), HM.out, keys_note H1.out.keys⟩
      · exact (((Frm.ofBelow HB.out).alloc _).drew).trans (frm_setBlock _ mb o) (fun i _ h => h)
  · have hk' : ((look lim l x.s x.r).1 == 1) = false := by simpa using hk
    have hk2 : ((look lim l x.s x.r).1 != 1) = true := by simp [hk]
    have HK := Lib.hid hk
    clear hk
    go_wp2_with fail
    go_ret
    refine ⟨false, rfl, ?_, ?_⟩
    · rw [if_neg HK.out]; exact H1.out.frm (F := fun _ => False) (((Frm.refl _ _).alloc _)) (fun h => h) (fun h => h)
    · exact (Frm.ofBelow HB.out).alloc _

end Go.Proofs.Ytedcdjlpogpgbaa
