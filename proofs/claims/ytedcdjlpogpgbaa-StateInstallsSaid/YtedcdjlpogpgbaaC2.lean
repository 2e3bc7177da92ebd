/- Layer 4: tables of epochs as plain data and as slices; Right, is, At. -/
import Derived.Test.YtedcdjlpogpgbaaC1
import Derived.Maps.AppendAt
import Derived.Deep.RegionHeld3
set_option linter.unusedVariables false
set_option linter.unusedSimpArgs false
namespace Go.Proofs.Ytedcdjlpogpgbaa
open Go.RowKit

/-- A slice that can be read: n elements, whose cells are cs. -/
def SlAt (w : World) (v : Value) (n : Nat) (cs : List Value) : Prop :=
  ∃ A c, v = .slice A n c ∧ n ≤ c ∧ c ≤ maxLen ∧ (0 < n → ∃ b o, A = some ⟨b, o, none⟩ ∧ b < w.heap.size ∧ ∀ j u, cs[j]? = some u → w.cell? ⟨b, o + j, none⟩ = some u)
theorem SlAt.below {w w' : World} {v : Value} {n : Nat} {cs : List Value} (h : SlAt w v n cs) (f : Below w.heap.size w w') : SlAt w' v n cs := by
  obtain ⟨A, c, e, h1, h2, h3⟩ := h
  refine ⟨A, c, e, h1, h2, fun hn => ?_⟩
  obtain ⟨b, o, e2, hb, hc⟩ := h3 hn
  exact ⟨b, o, e2, by have := f.size; omega, fun j u hu => by rw [f.cell (p := ⟨b, o + j, none⟩) hb]; exact hc j u hu⟩

theorem flat_get {α : Type} (enc : α → List Value) (k : Nat) (hk : ∀ x, (enc x).length = k) : ∀ (l : List α) (j i : Nat) (x : α), l[j]? = some x → i < k → (l.flatMap enc)[j * k + i]? = (enc x)[i]?
  | [], j, i, x, h, _ => by simp at h
  | y :: l, 0, i, x, h, hi => by
    simp only [List.getElem?_cons_zero, Option.some.injEq] at h
    subst h
    rw [List.flatMap_cons, Nat.zero_mul, Nat.zero_add, List.getElem?_append_left (by rw [hk]; exact hi)]
  | y :: l, j + 1, i, x, h, hi => by
    rw [List.flatMap_cons, List.getElem?_append_right (by rw [hk, Nat.add_mul]; omega), hk, show (j + 1) * k + i - k = j * k + i from by rw [Nat.add_mul]; omega]
    exact flat_get enc k hk l j i x (by simpa using h) hi
theorem flat_length {α : Type} (enc : α → List Value) (k : Nat) (hk : ∀ x, (enc x).length = k) : ∀ l : List α, (l.flatMap enc).length = l.length * k
  | [] => by simp
  | y :: l => by rw [List.flatMap_cons, List.length_append, hk, flat_length enc k hk l, List.length_cons, Nat.add_mul]; omega

structure Ep where
  m : Int
  c : Int
  f : Bool
def epCells (e : Ep) : List Value := [.int .i64 e.m, .int .i64 e.c, .bool e.f]
def epsCells (t : List Ep) : List Value := t.flatMap epCells
def ep (t : List Ep) (j : Nat) : Ep := t.getD j ⟨0, 0, false⟩
theorem ep_get {t : List Ep} {j : Nat} (h : j < t.length) : t[j]? = some (ep t j) := by simp [ep, h]
theorem eps_at {w : World} {v : Value} {t : List Ep} (h : SlAt w v t.length (epsCells t)) (hn : 0 < t.length) :
    ∃ b o c, v = .slice (some ⟨b, o, none⟩) t.length c ∧ t.length ≤ c ∧ c ≤ maxLen ∧ b < w.heap.size ∧ ∀ j, j < t.length → w.cell? ⟨b, o + j * 3, none⟩ = some (.int .i64 (ep t j).m) ∧ w.cell? ⟨b, o + j * 3 + 1, none⟩ = some (.int .i64 (ep t j).c) ∧ w.cell? ⟨b, o + j * 3 + 2, none⟩ = some (.bool (ep t j).f) := by
  obtain ⟨A, c, e, h1, h2, h3⟩ := h
  obtain ⟨b, o, rfl, hb, hc⟩ := h3 hn
  refine ⟨b, o, c, e, h1, h2, hb, fun j hj => ⟨?_, ?_, ?_⟩⟩
  · have := hc (j * 3 + 0) _ (flat_get epCells 3 (fun _ => rfl) t j 0 _ (ep_get hj) (by omega)); simpa using this
  · have := hc (j * 3 + 1) _ (flat_get epCells 3 (fun _ => rfl) t j 1 _ (ep_get hj) (by omega)); rw [← Nat.add_assoc] at this; exact this
  · have := hc (j * 3 + 2) _ (flat_get epCells 3 (fun _ => rfl) t j 2 _ (ep_get hj) (by omega)); rw [← Nat.add_assoc] at this; exact this

def okEp (e : Ep) : Bool := decide (1 ≤ e.m) && decide (e.m ≤ 4) && decide (0 ≤ e.c) && decide (e.c ≤ 512)
def rightB (t : List Ep) : Bool := decide (1 ≤ t.length) && decide (t.length ≤ 64) && ((ep t 0).c == 0) && !(ep t 0).f && t.all okEp
def okDec (e : Ep) : Prop := 1 ≤ e.m ∧ e.m ≤ 4 ∧ 0 ≤ e.c ∧ e.c ≤ 512
theorem okEp_iff (e : Ep) : okEp e = true ↔ okDec e := by unfold okEp okDec; simp; omega
theorem rightB_iff (t : List Ep) : rightB t = true ↔ (1 ≤ t.length ∧ t.length ≤ 64 ∧ (ep t 0).c = 0 ∧ (ep t 0).f = false ∧ ∀ j, j < t.length → okDec (ep t j)) := by
  unfold rightB
  simp only [Bool.and_eq_true, decide_eq_true_eq, beq_iff_eq, Bool.not_eq_true', List.all_eq_true, okEp_iff]
  constructor
  · rintro ⟨⟨⟨⟨a, b⟩, c⟩, d⟩, e⟩
    exact ⟨a, b, c, d, fun j hj => e _ (List.mem_of_getElem? (ep_get hj))⟩
  · rintro ⟨a, b, c, d, e⟩
    refine ⟨⟨⟨⟨a, b⟩, c⟩, d⟩, fun x hx => ?_⟩
    obtain ⟨j, hj, rfl⟩ := List.mem_iff_getElem.1 hx
    have := e j hj
    rwa [show ep t j = t[j] by simp [ep, hj]] at this

set_option maxRecDepth 100000 in
set_option maxHeartbeats 2000000 in
theorem Right_empty (A : Option Addr) (c : Nat) (w : World) :
    Calls Try.prog 44 #[.slice A 0 c] w fun e w' => e = .returned (.bool false) ∧ Below w.heap.size w w' := by
  have d1 : decide ((0 : Int) < 1) = true := rfl
  go_enter Try.func44, Try.ntmps44
  go_wp2_with fail
  go_ret
  exact ⟨rfl, by (repeat' (first | with_reducible exact Below.refl _ _ | with_reducible refine below_drewN ?_ _ | with_reducible refine Below.drew ?_ | with_reducible refine Below.setCell ?_ (by first | exact Nat.le_refl _ | (simp; done) | (simp; omega) | omega) _ | with_reducible refine Below.alloc ?_ (by first | exact Nat.le_refl _ | (simp; done) | (simp; omega) | omega) _ | exact Below.refl _ _))⟩

set_option maxRecDepth 100000 in
set_option maxHeartbeats 2000000 in
theorem Right_long (b o c n : Nat) (w : World) (h : 64 < n) (c1 : Int) (f1 : Bool) (hc1 : w.cell? ⟨b, o + 1, none⟩ = some (.int .i64 c1)) (hc2 : w.cell? ⟨b, o + 2, none⟩ = some (.bool f1)) :
    Calls Try.prog 44 #[.slice (some ⟨b, o, none⟩) n c] w fun e w' => e = .returned (.bool false) ∧ Below w.heap.size w w' := by
  have d1 : decide (n < 1) = false := by simp; omega
  have d2 : decide (64 < n) = true := by simpa using h
  go_enter Try.func44, Try.ntmps44
  go_wp2_with fail
  go_ret
  exact ⟨rfl, by (repeat' (first | with_reducible exact Below.refl _ _ | with_reducible refine below_drewN ?_ _ | with_reducible refine Below.drew ?_ | with_reducible refine Below.setCell ?_ (by first | exact Nat.le_refl _ | (simp; done) | (simp; omega) | omega) _ | with_reducible refine Below.alloc ?_ (by first | exact Nat.le_refl _ | (simp; done) | (simp; omega) | omega) _ | exact Below.refl _ _))⟩

set_option maxRecDepth 100000 in
set_option maxHeartbeats 2000000 in
theorem Right_first (b o c n : Nat) (w : World) (hn : 1 ≤ n) (h : n ≤ 64) (c1 : Int) (f1 : Bool) (hc1 : w.cell? ⟨b, o + 1, none⟩ = some (.int .i64 c1)) (hc2 : w.cell? ⟨b, o + 2, none⟩ = some (.bool f1)) (hbad : c1 ≠ 0 ∨ f1 = true) :
    Calls Try.prog 44 #[.slice (some ⟨b, o, none⟩) n c] w fun e w' => e = .returned (.bool false) ∧ Below w.heap.size w w' := by
  have d1 : decide (n < 1) = false := by simp; omega
  have d2 : decide (64 < n) = false := by simpa using h
  by_cases h0 : c1 = 0
  · subst h0
    have hf : f1 = true := by simpa using hbad
    subst hf
    clear hbad
    go_enter Try.func44, Try.ntmps44
    go_wp2_with fail
    go_ret
    exact ⟨rfl, by (repeat' (first | with_reducible exact Below.refl _ _ | with_reducible refine below_drewN ?_ _ | with_reducible refine Below.drew ?_ | with_reducible refine Below.setCell ?_ (by first | exact Nat.le_refl _ | (simp; done) | (simp; omega) | omega) _ | with_reducible refine Below.alloc ?_ (by first | exact Nat.le_refl _ | (simp; done) | (simp; omega) | omega) _ | exact Below.refl _ _))⟩
  · have d3 : (c1 != 0) = true := by simpa using h0
    clear hbad h0
    go_enter Try.func44, Try.ntmps44
    go_wp2_with fail
    go_ret
    exact ⟨rfl, by (repeat' (first | with_reducible exact Below.refl _ _ | with_reducible refine below_drewN ?_ _ | with_reducible refine Below.drew ?_ | with_reducible refine Below.setCell ?_ (by first | exact Nat.le_refl _ | (simp; done) | (simp; omega) | omega) _ | with_reducible refine Below.alloc ?_ (by first | exact Nat.le_refl _ | (simp; done) | (simp; omega) | omega) _ | exact Below.refl _ _))⟩

set_option maxRecDepth 100000 in
set_option maxHeartbeats 4000000 in
theorem Right_loop (b o c : Nat) (t : List Ep) (w : World) (hn : 1 ≤ t.length) (h : t.length ≤ 64) (hb : b < w.heap.size) (hc : ∀ j, j < t.length → w.cell? ⟨b, o + j * 3, none⟩ = some (.int .i64 (ep t j).m) ∧ w.cell? ⟨b, o + j * 3 + 1, none⟩ = some (.int .i64 (ep t j).c) ∧ w.cell? ⟨b, o + j * 3 + 2, none⟩ = some (.bool (ep t j).f)) (h1 : (ep t 0).c = 0) (h2 : (ep t 0).f = false) :
    Calls Try.prog 44 #[.slice (some ⟨b, o, none⟩) t.length c] w fun e w' => e = .returned (.bool (rightB t)) ∧ Below w.heap.size w w' := by
  have d1 : decide (t.length < 1) = false := decide_eq_false (by omega)
  have d2 : decide (64 < t.length) = false := by simpa using h
  have hc1 : w.cell? ⟨b, o + 1, none⟩ = some (.int .i64 0) := by have := (hc 0 (by omega)).2.1; rw [h1] at this; simpa using this
  have hc2 : w.cell? ⟨b, o + 2, none⟩ = some (.bool false) := by have := (hc 0 (by omega)).2.2; rw [h2] at this; simpa using this
  have HC := Lib.hid hc
  have H1 := Lib.hid h1
  have H2 := Lib.hid h2
  clear hc h1 h2
  go_enter Try.func44, Try.ntmps44
  go_wp2_with fail
  clear hc1 hc2
  go_loopg [28] t.length (fun g v wr => ∃ k : Nat, k ≤ t.length ∧ v = .int .i64 k ∧ g = t.length - k ∧ (∀ j, j < k → okDec (ep t j)) ∧ Below w.heap.size w wr)
  case atStart => exact ⟨0, Nat.zero_le _, rfl, rfl, fun j hj => by omega, Below.refl _ _⟩
  case round =>
    obtain ⟨k, hk, rfl, rfl, hok, hbel⟩ := hrel
    have HO := Lib.hid hok
    have HB := Lib.hid hbel
    have hsz := hbel.size
    clear hok
    by_cases hlt : k < t.length
    · obtain ⟨a0, a1, a2⟩ := HC.out k hlt
      rw [← hbel.cell (p := ⟨b, o + k * 3, none⟩) hb] at a0
      rw [← hbel.cell (p := ⟨b, o + k * 3 + 1, none⟩) hb] at a1
      rw [← hbel.cell (p := ⟨b, o + k * 3 + 2, none⟩) hb] at a2
      have hb' : b < wr.heap.size := by have := hbel.size; omega
      clear hbel
      obtain ⟨e, he⟩ : ∃ e, ep t k = e := ⟨_, rfl⟩
      rw [he] at a0 a1 a2
      have HE := Lib.hid he
      clear he
      by_cases hbad : okDec e
      · obtain ⟨e1, e2, e3, e4⟩ := hbad
        have d3 : decide (e.m < 1) = false := by simpa using e1
        have d4 : decide (4 < e.m) = false := by simpa using e2
        have d5 : decide (e.c < 0) = false := by simpa using e3
        have d6 : decide (512 < e.c) = false := by simpa using e4
        go_wp2_with fail
        go_roundg (t.length - (k + 1))
        case measure => omega
        case rel =>
          refine ⟨k + 1, by omega, by go_num, rfl, fun j hj => ?_, by (repeat' (first | with_reducible exact HB.out | with_reducible exact Below.refl _ _ | with_reducible refine below_drewN ?_ _ | with_reducible refine Below.drew ?_ | with_reducible refine Below.setCell ?_ (by first | exact Nat.le_refl _ | (simp; done) | (simp; omega) | omega) _ | with_reducible refine Below.alloc ?_ (by first | exact Nat.le_refl _ | (simp; done) | (simp; omega) | omega) _ | exact Below.refl _ _ | exact HB.out))⟩
          by_cases hjk : j < k
          · exact HO.out j hjk
          · have : j = k := by omega
            rw [this, HE.out]; exact ⟨e1, e2, e3, e4⟩
      · have hfin : rightB t = false := by
          cases hr : rightB t with
          | false => rfl
          | true => exact absurd (HE.out ▸ ((rightB_iff t).1 hr).2.2.2.2 k hlt) hbad
        have HFIN := Lib.hid hfin
        have hcase : e.m < 1 ∨ (1 ≤ e.m ∧ 4 < e.m) ∨ (1 ≤ e.m ∧ e.m ≤ 4 ∧ e.c < 0) ∨ (1 ≤ e.m ∧ e.m ≤ 4 ∧ 0 ≤ e.c ∧ 512 < e.c) := by unfold okDec at hbad; omega
        clear hbad hfin
        rcases hcase with q | ⟨q1, q⟩ | ⟨q1, q2, q⟩ | ⟨q1, q2, q3, q⟩
        · have d3 : decide (e.m < 1) = true := by simpa using q
          go_wp2_with fail
          go_ret
          exact ⟨by rw [HFIN.out]; rfl, by (repeat' (first | with_reducible exact HB.out | with_reducible exact Below.refl _ _ | with_reducible refine below_drewN ?_ _ | with_reducible refine Below.drew ?_ | with_reducible refine Below.setCell ?_ (by first | exact Nat.le_refl _ | (simp; done) | (simp; omega) | omega) _ | with_reducible refine Below.alloc ?_ (by first | exact Nat.le_refl _ | (simp; done) | (simp; omega) | omega) _ | exact Below.refl _ _ | exact HB.out))⟩
        · have d3 : decide (e.m < 1) = false := by simpa using q1
          have d4 : decide (4 < e.m) = true := by simpa using q
          go_wp2_with fail
          go_ret
          exact ⟨by rw [HFIN.out]; rfl, by (repeat' (first | with_reducible exact HB.out | with_reducible exact Below.refl _ _ | with_reducible refine below_drewN ?_ _ | with_reducible refine Below.drew ?_ | with_reducible refine Below.setCell ?_ (by first | exact Nat.le_refl _ | (simp; done) | (simp; omega) | omega) _ | with_reducible refine Below.alloc ?_ (by first | exact Nat.le_refl _ | (simp; done) | (simp; omega) | omega) _ | exact Below.refl _ _ | exact HB.out))⟩
        · have d3 : decide (e.m < 1) = false := by simpa using q1
          have d4 : decide (4 < e.m) = false := by simpa using q2
          have d5 : decide (e.c < 0) = true := by simpa using q
          go_wp2_with fail
          go_ret
          exact ⟨by rw [HFIN.out]; rfl, by (repeat' (first | with_reducible exact HB.out | with_reducible exact Below.refl _ _ | with_reducible refine below_drewN ?_ _ | with_reducible refine Below.drew ?_ | with_reducible refine Below.setCell ?_ (by first | exact Nat.le_refl _ | (simp; done) | (simp; omega) | omega) _ | with_reducible refine Below.alloc ?_ (by first | exact Nat.le_refl _ | (simp; done) | (simp; omega) | omega) _ | exact Below.refl _ _ | exact HB.out))⟩
        · have d3 : decide (e.m < 1) = false := by simpa using q1
          have d4 : decide (4 < e.m) = false := by simpa using q2
          have d5 : decide (e.c < 0) = false := by simpa using q3
          have d6 : decide (512 < e.c) = true := by simpa using q
          go_wp2_with fail
          go_ret
          exact ⟨by rw [HFIN.out]; rfl, by (repeat' (first | with_reducible exact HB.out | with_reducible exact Below.refl _ _ | with_reducible refine below_drewN ?_ _ | with_reducible refine Below.drew ?_ | with_reducible refine Below.setCell ?_ (by first | exact Nat.le_refl _ | (simp; done) | (simp; omega) | omega) _ | with_reducible refine Below.alloc ?_ (by first | exact Nat.le_refl _ | (simp; done) | (simp; omega) | omega) _ | exact Below.refl _ _ | exact HB.out))⟩
    · have : k = t.length := by omega
      subst this
      go_wp2_with fail
      go_ret
      refine ⟨?_, by (repeat' (first | with_reducible exact HB.out | with_reducible exact Below.refl _ _ | with_reducible refine below_drewN ?_ _ | with_reducible refine Below.drew ?_ | with_reducible refine Below.setCell ?_ (by first | exact Nat.le_refl _ | (simp; done) | (simp; omega) | omega) _ | with_reducible refine Below.alloc ?_ (by first | exact Nat.le_refl _ | (simp; done) | (simp; omega) | omega) _ | exact Below.refl _ _ | exact HB.out))⟩
      rw [(rightB_iff t).2 ⟨by omega, h, H1.out, H2.out, HO.out⟩]; rfl

theorem Right_any (v : Value) (t : List Ep) (w : World) (ht : SlAt w v t.length (epsCells t)) :
    Calls Try.prog 44 #[v] w fun e w' => e = .returned (.bool (rightB t)) ∧ Below w.heap.size w w' := by
  by_cases h0 : t.length = 0
  · obtain ⟨A, c, rfl, _⟩ := ht
    rw [h0]
    have : rightB t = false := by unfold rightB; simp [h0]
    rw [this]
    exact Right_empty A c w
  · obtain ⟨b, o, c, rfl, h1, h2, hb, hc⟩ := eps_at ht (by omega)
    have c1 := (hc 0 (by omega)).2.1
    have c2 := (hc 0 (by omega)).2.2
    simp only [Nat.zero_mul, Nat.add_zero] at c1 c2
    by_cases h64 : 64 < t.length
    · have : rightB t = false := by
        cases hr : rightB t with
        | false => rfl
        | true => have := ((rightB_iff t).1 hr).2.1; omega
      rw [this]
      exact Right_long b o c _ w h64 _ _ c1 c2
    · by_cases hbad : (ep t 0).c ≠ 0 ∨ (ep t 0).f = true
      · have : rightB t = false := by
          cases hr : rightB t with
          | false => rfl
          | true =>
            obtain ⟨_, _, q1, q2, _⟩ := (rightB_iff t).1 hr
            rcases hbad with h | h
            · exact absurd q1 h
            · rw [q2] at h; cases h
        rw [this]
        exact Right_first b o c _ w (by omega) (by omega) _ _ c1 c2 hbad
      · simp only [not_or, Bool.not_eq_true, ne_eq, Decidable.not_not] at hbad
        exact Right_loop b o c t w (by omega) (by omega) hb hc hbad.1 hbad.2

def atGo (t : List Ep) (i : Int) : Nat → Pos
  | 0 => zeroPos
  | k + 1 => if (ep t k).c < i then ⟨(k : Int) + 1, i⟩ else atGo t i k
def atB (t : List Ep) (i : Int) : Pos := if rightB t = true ∧ 1 ≤ i ∧ i ≤ 512 then atGo t i t.length else zeroPos

set_option maxRecDepth 100000 in
set_option maxHeartbeats 2000000 in
theorem At_not (v : Value) (t : List Ep) (i : Int) (w : World) (ht : SlAt w v t.length (epsCells t)) (hno : ¬ (rightB t = true ∧ 1 ≤ i ∧ i ≤ 512)) :
    Calls Try.prog 76 #[v, .int .i64 i] w fun e w' => e = .returned (.agg (posCells zeroPos)) ∧ Below w.heap.size w w' := by
  have hc : rightB t = false ∨ (rightB t = true ∧ i < 1) ∨ (rightB t = true ∧ 1 ≤ i ∧ 512 < i) := by
    cases hr : rightB t with
    | false => exact .inl rfl
    | true =>
      by_cases a : 1 ≤ i
      · by_cases b : i ≤ 512
        · exact absurd ⟨hr, a, b⟩ hno
        · exact .inr (.inr ⟨rfl, a, by omega⟩)
      · exact .inr (.inl ⟨rfl, by omega⟩)
  clear hno
  have HT := Lib.hid ht
  clear ht
  go_enter Try.func76, Try.ntmps76
  go_wp2_with fail
  refine (Right_any v t _ (HT.out.below (by (repeat' (first | with_reducible exact Below.refl _ _ | with_reducible refine below_drewN ?_ _ | with_reducible refine Below.drew ?_ | with_reducible refine Below.setCell ?_ (by first | exact Nat.le_refl _ | (simp; done) | (simp; omega) | omega) _ | with_reducible refine Below.alloc ?_ (by first | exact Nat.le_refl _ | (simp; done) | (simp; omega) | omega) _ | exact Below.refl _ _))))).mono ?_
  rintro e w1 ⟨rfl, hb⟩
  have hz := (Blk.new w (posCells zeroPos) 33).below hb
  have hz1 := hz.lt
  have z0 : w1.cell? ⟨w.heap.size, 0, none⟩ = some (.int .i64 0) := by rw [hz.cell]; rfl
  have z1 : w1.cell? ⟨w.heap.size, 1, none⟩ = some (.int .i64 0) := by rw [hz.cell]; rfl
  have y0 := hz.free 0
  have y1 := hz.free 1
  have HB := Lib.hid (((Below.refl _ w).alloc (Nat.le_refl _) (.cells (posCells zeroPos) 33)).trans (hb.mono (by simp)))
  have HZ := Lib.hid hz
  clear hb hz
  rcases hc with q | ⟨q0, q⟩ | ⟨q0, q1, q⟩
  · go_wp2_with fail
    refine ret_cell rfl rfl (loads_blk (T := 33) (cs := posCells zeroPos) pos_agg pos_size ?_ rfl) rfl ⟨rfl, ?_⟩
    · ((repeat' (first | with_reducible exact HZ.out | with_reducible exact Blk.new _ _ _ | with_reducible apply Blk.drewN | with_reducible apply Blk.drew | with_reducible apply Blk.set' | (with_reducible apply Blk.set_other (hp := by first | assumption | (simp; done) | (simp; omega) | omega)) | (with_reducible apply Blk.new'; focus (first | (simp; done) | (simp; omega))) | with_reducible apply Blk.alloc | exact HZ.out)) <;> rfl)
    · (repeat' (first | with_reducible exact HB.out | with_reducible exact Below.refl _ _ | with_reducible refine below_drewN ?_ _ | with_reducible refine Below.drew ?_ | with_reducible refine Below.setCell ?_ (by first | exact Nat.le_refl _ | (simp; done) | (simp; omega) | omega) _ | with_reducible refine Below.alloc ?_ (by first | exact Nat.le_refl _ | (simp; done) | (simp; omega) | omega) _ | exact Below.refl _ _ | exact HB.out))
  · have d1 : decide (i < 1) = true := by simpa using q
    go_wp2_with fail
    refine ret_cell rfl rfl (loads_blk (T := 33) (cs := posCells zeroPos) pos_agg pos_size ?_ rfl) rfl ⟨rfl, ?_⟩
    · ((repeat' (first | with_reducible exact HZ.out | with_reducible exact Blk.new _ _ _ | with_reducible apply Blk.drewN | with_reducible apply Blk.drew | with_reducible apply Blk.set' | (with_reducible apply Blk.set_other (hp := by first | assumption | (simp; done) | (simp; omega) | omega)) | (with_reducible apply Blk.new'; focus (first | (simp; done) | (simp; omega))) | with_reducible apply Blk.alloc | exact HZ.out)) <;> rfl)
    · (repeat' (first | with_reducible exact HB.out | with_reducible exact Below.refl _ _ | with_reducible refine below_drewN ?_ _ | with_reducible refine Below.drew ?_ | with_reducible refine Below.setCell ?_ (by first | exact Nat.le_refl _ | (simp; done) | (simp; omega) | omega) _ | with_reducible refine Below.alloc ?_ (by first | exact Nat.le_refl _ | (simp; done) | (simp; omega) | omega) _ | exact Below.refl _ _ | exact HB.out))
  · have d1 : decide (i < 1) = false := by simpa using q1
    have d2 : decide (512 < i) = true := by simpa using q
    go_wp2_with fail
    refine ret_cell rfl rfl (loads_blk (T := 33) (cs := posCells zeroPos) pos_agg pos_size ?_ rfl) rfl ⟨rfl, ?_⟩
    · ((repeat' (first | with_reducible exact HZ.out | with_reducible exact Blk.new _ _ _ | with_reducible apply Blk.drewN | with_reducible apply Blk.drew | with_reducible apply Blk.set' | (with_reducible apply Blk.set_other (hp := by first | assumption | (simp; done) | (simp; omega) | omega)) | (with_reducible apply Blk.new'; focus (first | (simp; done) | (simp; omega))) | with_reducible apply Blk.alloc | exact HZ.out)) <;> rfl)
    · (repeat' (first | with_reducible exact HB.out | with_reducible exact Below.refl _ _ | with_reducible refine below_drewN ?_ _ | with_reducible refine Below.drew ?_ | with_reducible refine Below.setCell ?_ (by first | exact Nat.le_refl _ | (simp; done) | (simp; omega) | omega) _ | with_reducible refine Below.alloc ?_ (by first | exact Nat.le_refl _ | (simp; done) | (simp; omega) | omega) _ | exact Below.refl _ _ | exact HB.out))

set_option maxRecDepth 100000 in
set_option maxHeartbeats 2000000 in
theorem At_yes (v : Value) (t : List Ep) (i : Int) (w : World) (ht : SlAt w v t.length (epsCells t)) (hr : rightB t = true) (q1 : 1 ≤ i) (q2 : i ≤ 512) :
    Calls Try.prog 76 #[v, .int .i64 i] w fun e w' => e = .returned (.agg (posCells (atGo t i t.length))) ∧ Below w.heap.size w w' := by
  have HT := Lib.hid ht
  obtain ⟨hn, h64, _, _, _⟩ := (rightB_iff t).1 hr
  obtain ⟨b, o, c, rfl, _, _, hb, hc⟩ := eps_at ht (by omega)
  have HC := Lib.hid hc
  clear ht hc
  have d1 : decide (i < 1) = false := by simpa using q1
  have d2 : decide (512 < i) = false := by simpa using q2
  go_enter Try.func76, Try.ntmps76
  go_wp2_with fail
  refine (Right_any _ t _ (HT.out.below (by (repeat' (first | with_reducible exact Below.refl _ _ | with_reducible refine below_drewN ?_ _ | with_reducible refine Below.drew ?_ | with_reducible refine Below.setCell ?_ (by first | exact Nat.le_refl _ | (simp; done) | (simp; omega) | omega) _ | with_reducible refine Below.alloc ?_ (by first | exact Nat.le_refl _ | (simp; done) | (simp; omega) | omega) _ | exact Below.refl _ _))))).mono ?_
  rintro e w1 ⟨rfl, hb1⟩
  have hz := (Blk.new w (posCells zeroPos) 33).below hb1
  have HB := Lib.hid (((Below.refl _ w).alloc (Nat.le_refl _) (.cells (posCells zeroPos) 33)).trans (hb1.mono (by simp)))
  have HZ := Lib.hid hz
  clear hb1 hz
  rw [hr]
  clear hr
  go_wp2_with fail
  go_loopg [5] t.length (fun g v wr => ∃ k : Nat, k ≤ t.length ∧ v = .int .i64 ((k : Int) - 1) ∧ g = k ∧ atGo t i k = atGo t i t.length ∧ Blk wr w.heap.size (posCells zeroPos) 33 ∧ Below w.heap.size w wr)
  case atStart => exact ⟨t.length, Nat.le_refl _, rfl, rfl, rfl, HZ.out, HB.out⟩
  case round =>
    obtain ⟨k, hk, rfl, rfl, hat, hz, hbel⟩ := hrel
    have hsz := hbel.size
    have hz1 := hz.lt
    have z0 : wr.cell? ⟨w.heap.size, 0, none⟩ = some (.int .i64 0) := by rw [hz.cell]; rfl
    have z1 : wr.cell? ⟨w.heap.size, 1, none⟩ = some (.int .i64 0) := by rw [hz.cell]; rfl
    have y0 := hz.free 0
    have y1 := hz.free 1
    have HB := Lib.hid hbel
    have HZ := Lib.hid hz
    have HA := Lib.hid hat
    clear hbel hz hat
    cases gk with
    | zero =>
      have d3 : decide ((0 : Int) ≤ ((0 : Nat) : Int) - 1) = false := by simp
      go_wp2_with fail
      refine ret_cell rfl rfl (loads_blk (T := 33) (cs := posCells zeroPos) pos_agg pos_size ?_ rfl) rfl ⟨?_, ?_⟩
      · ((repeat' (first | with_reducible exact HZ.out | with_reducible exact Blk.new _ _ _ | with_reducible apply Blk.drewN | with_reducible apply Blk.drew | with_reducible apply Blk.set' | (with_reducible apply Blk.set_other (hp := by first | assumption | (simp; done) | (simp; omega) | omega)) | (with_reducible apply Blk.new'; focus (first | (simp; done) | (simp; omega))) | with_reducible apply Blk.alloc | exact HZ.out)) <;> rfl)
      · rw [← HA.out]; rfl
      · (repeat' (first | with_reducible exact HB.out | with_reducible exact Below.refl _ _ | with_reducible refine below_drewN ?_ _ | with_reducible refine Below.drew ?_ | with_reducible refine Below.setCell ?_ (by first | exact Nat.le_refl _ | (simp; done) | (simp; omega) | omega) _ | with_reducible refine Below.alloc ?_ (by first | exact Nat.le_refl _ | (simp; done) | (simp; omega) | omega) _ | exact Below.refl _ _ | exact HB.out))
    | succ k =>
      obtain ⟨a0, a1, a2⟩ := HC.out k (by omega)
      rw [← HB.out.cell (p := ⟨b, o + k * 3 + 1, none⟩) hb] at a1
      obtain ⟨e, he⟩ : ∃ e, (ep t k).c = e := ⟨_, rfl⟩
      rw [he] at a1
      have HE := Lib.hid he
      clear he a0 a2
      rw [show (((k + 1 : Nat) : Int) - 1) = (k : Int) from by omega]
      by_cases hlt : e < i
      · go_wp2_with fail
        refine ret_cell rfl rfl (loads_blk (T := 33) (cs := posCells ⟨(k : Int) + 1, i⟩) pos_agg pos_size ?_ rfl) rfl ⟨?_, ?_⟩
        · ((repeat' (first | with_reducible exact HZ.out | with_reducible exact Blk.new _ _ _ | with_reducible apply Blk.drewN | with_reducible apply Blk.drew | with_reducible apply Blk.set' | (with_reducible apply Blk.set_other (hp := by first | assumption | (simp; done) | (simp; omega) | omega)) | (with_reducible apply Blk.new'; focus (first | (simp; done) | (simp; omega))) | with_reducible apply Blk.alloc | exact HZ.out)) <;> rfl)
        · rw [← HA.out, show atGo t i (k + 1) = ⟨(k : Int) + 1, i⟩ by simp only [atGo]; rw [if_pos (by rw [HE.out]; exact hlt)]]
        · (repeat' (first | with_reducible exact HB.out | with_reducible exact Below.refl _ _ | with_reducible refine below_drewN ?_ _ | with_reducible refine Below.drew ?_ | with_reducible refine Below.setCell ?_ (by first | exact Nat.le_refl _ | (simp; done) | (simp; omega) | omega) _ | with_reducible refine Below.alloc ?_ (by first | exact Nat.le_refl _ | (simp; done) | (simp; omega) | omega) _ | exact Below.refl _ _ | exact HB.out))
      · go_wp2_with fail
        go_roundg k
        case measure => omega
        case rel =>
          refine ⟨k, by omega, rfl, rfl, ?_, HZ.out, HB.out⟩
          rw [← HA.out]; simp only [atGo]; rw [if_neg (by rw [HE.out]; omega)]

theorem At_any (v : Value) (t : List Ep) (i : Int) (w : World) (ht : SlAt w v t.length (epsCells t)) :
    Calls Try.prog 76 #[v, .int .i64 i] w fun e w' => e = .returned (.agg (posCells (atB t i))) ∧ Below w.heap.size w w' := by
  unfold atB
  by_cases h : rightB t = true ∧ 1 ≤ i ∧ i ≤ 512
  · rw [if_pos h]; exact At_yes v t i w ht h.1 h.2.1 h.2.2
  · rw [if_neg h]; exact At_not v t i w ht h

end Go.Proofs.Ytedcdjlpogpgbaa

/- Slices of the program's own: what append makes of them; how they lie and stay. -/
set_option linter.unusedVariables false
set_option linter.unusedSimpArgs false
namespace Go.Proofs.Ytedcdjlpogpgbaa
open Go.RowKit

theorem Frm.ofGrown {w w' : World} {v : Value} (h : w.grownBy w' v.ownBlock) : Frm (fun b => v.ownBlock = some b) w w' :=
  ⟨h.os, h.tape, h.output, h.size, fun k hk hn => h.block k hk (fun e => hn e.symm)⟩
theorem own_frm {F : Nat → Prop} {w w' : World} {base k n : Nat} {e : TypeId} {v : Value} {xs : List Value} (h : w.ownsRow base e k v n xs) (f : Frm F w w') (hn : ∀ b, v.ownBlock = some b → ¬ F b) : w'.ownsRow base e k v n xs := by
  obtain ⟨h1, h2⟩ := h
  refine ⟨h1, ?_⟩
  rcases h2 with h2 | ⟨g, cap, cur, rfl, h3, h4, h5⟩
  · exact .inl h2
  · exact .inr ⟨g, cap, cur, rfl, h3, (f.block g (Array.getElem?_eq_some_iff.1 h4).1 (hn g rfl)).trans h4, h5⟩
theorem own_lt {w : World} {base k n b : Nat} {e : TypeId} {v : Value} {xs : List Value} (h : w.ownsRow base e k v n xs) (hb : v.ownBlock = some b) : b < w.heap.size := by
  rcases h.2 with ⟨rfl, _⟩ | ⟨g, cap, cur, rfl, _, h4, _⟩
  · cases hb
  · simp only [Value.ownBlock, Option.some.injEq] at hb; subst hb; exact (Array.getElem?_eq_some_iff.1 h4).1
theorem own_type {w : World} {base k n b : Nat} {e t : TypeId} {v : Value} {xs : List Value} {cs : Array Value} (h : w.ownsRow base e k v n xs) (hb : v.ownBlock = some b) (hk : Blk w b cs t) : e = t := by
  rcases h.2 with ⟨rfl, _⟩ | ⟨g, cap, cur, rfl, _, h4, _⟩
  · cases hb
  · simp only [Value.ownBlock, Option.some.injEq] at hb; subst hb; unfold Blk at hk; rw [hk] at h4; simp at h4; exact h4.2.symm
theorem own_map {w : World} {base k n b : Nat} {e : TypeId} {v : Value} {xs : List Value} {l : List (Value × Value)} (h : w.ownsRow base e k v n xs) (hb : v.ownBlock = some b) (hk : MpAt w b l) : False := by
  obtain ⟨es, cl, hm, _⟩ := hk
  rcases h.2 with ⟨rfl, _⟩ | ⟨g, cap, cur, rfl, _, h4, _⟩
  · cases hb
  · simp only [Value.ownBlock, Option.some.injEq] at hb; subst hb; rw [hm] at h4; cases h4
theorem own_two {w : World} {base k n b base' k' n' : Nat} {e e' : TypeId} {v v' : Value} {xs xs' : List Value} (h : w.ownsRow base e k v n xs) (hb : v.ownBlock = some b) (h' : w.ownsRow base' e' k' v' n' xs') (hb' : v'.ownBlock = some b) : e = e' := by
  rcases h'.2 with ⟨rfl, _⟩ | ⟨g, cap, cur, rfl, _, h4, _⟩
  · cases hb'
  · simp only [Value.ownBlock, Option.some.injEq] at hb'; subst hb'; exact own_type h hb h4
theorem own_sl {w : World} {base k n : Nat} {e : TypeId} {v : Value} {xs : List Value} (h : w.ownsRow base e k v n xs) : SlAt w v n xs := by
  rcases h.2 with ⟨rfl, rfl⟩ | ⟨g, cap, cur, rfl, _, h4, h5, h6, h7, h8⟩
  · exact ⟨none, 0, rfl, Nat.le_refl _, Nat.zero_le _, fun h => absurd h (by omega)⟩
  · refine ⟨_, cap, rfl, h5, h6, fun _ => ⟨g, 0, rfl, (Array.getElem?_eq_some_iff.1 h4).1, fun j u hu => ?_⟩⟩
    subst h8
    rw [List.getElem?_take] at hu
    split at hu
    · simp [World.cell?, h4]; simpa using hu
    · cases hu
theorem own_empty (w : World) (e : TypeId) (k : Nat) : w.ownsRow 0 e k (.slice none 0 0) 0 [] := ⟨by simp, .inl ⟨rfl, rfl⟩⟩

theorem run_append_sl {P : Program} {w : World} (t ty e : TypeId) (k bytes : Nat) (z : Value) (ht : P.underlying t = some (.slice e)) (hinfo : (P.info? e).map (fun i => (i.zero, i.size, i.bytes)) = some (some z, k, bytes)) (hzs : z.cells.size = k) (hk0 : 0 < k)
    (v : Value) (n : Nat) (xs : List Value) (hown : w.ownsRow 0 e k v n xs) (u : Value) (m : Nat) (news : List Value) (hs : SlAt w u m news) (hl : news.length = m * k) (h1 : ∀ x ∈ news, x.oneCell' = true) (hbytes : (n + m) * bytes ≤ 140737488355328) (hn : n + m ≤ maxLen) :
    ∃ v' w', (Builtin.append_ #[t, t] ty #[v, u]).run P w = .ok v' w' ∧ w'.ownsRow 0 e k v' (n + m) (xs ++ news) ∧ w.grownBy w' v.ownBlock ∧ (v'.ownBlock = v.ownBlock ∨ v'.ownBlock = some w.heap.size) := by
  obtain ⟨i0, hi, hzz⟩ := Option.map_eq_some_iff.1 hinfo
  simp only [Prod.mk.injEq] at hzz
  obtain ⟨hz0, hz1, hz2⟩ := hzz
  obtain ⟨A, c, rfl, hmc, hc, hcell⟩ := hs
  cases A with
  | none =>
    have h0 : m = 0 := by
      rcases Nat.eq_zero_or_pos m with h0 | h0
      · exact h0
      · obtain ⟨b, o, h, _⟩ := hcell h0; cases h
    subst h0
    have hne : news = [] := List.eq_nil_of_length_eq_zero (by simpa using hl)
    subst hne
    refine ⟨v, w, ?_, by simpa using hown, World.grownBy.refl w _, .inl rfl⟩
    rcases hown.2 with ⟨rfl, hn0⟩ | ⟨g, cap, cur, rfl, _, _, hnc, _⟩
    · simp [Builtin.append_, run_underlying ht, sizeOf, typeInfo, hi, Builtin.lenOf, Builtin.firstCells]
    · simp [Builtin.append_, run_underlying ht, sizeOf, typeInfo, hi, Builtin.lenOf, Builtin.firstCells, hnc, storeCells]
  | some ad =>
    have hcells : ∀ j x, news[j]? = some x → w.cell? (ad.add j) = some x := by
      intro j x hj
      have hjl : j < news.length := (List.getElem?_eq_some_iff.1 hj).1
      rcases Nat.eq_zero_or_pos m with h0 | h0
      · subst h0; omega
      · obtain ⟨b, o, h, _, hx⟩ := hcell h0
        injection h with h
        subst h
        have := hx j x hj
        unfold Addr.add
        split
        · rename_i h0; subst h0; simpa using this
        · exact this
    obtain ⟨v', w', hr, h2, h3, _, h5⟩ := run_append_own_at (P := P) w 0 t ty e i0 z k bytes ht hi hz0 hz1 hz2 hzs hk0 v n xs hown ad m c news hl hcells h1 hn hbytes (Nat.zero_le _)
    exact ⟨v', w', hr, h2, h3, h5⟩

section
variable {P : Program} {ops : Array Oper} {o : Oper} {a : Act} {w w' : World}
theorem wp_append_run {K : Act → World → Prop} {Q : Exit → Act → World → Prop} (s x : Operand) (t ty : TypeId) (hop : o.op = .call { callee := .builtin .append, args := #[s, x], argTypes := #[t, t] }) (hty : o.type = ty) {v u v' : Value}
    (hs : a.eval s = v) (hx : a.eval x = u) (happ : (Builtin.append_ #[t, t] ty #[v, u]).run P w = .ok v' w') (h : K (a.put o.dst v') w') : Oper.wp P o a w K Q := by
  subst hty
  unfold Oper.wp execOp
  simp only [hop, resolve, invoke, builtin, Sem.run_bind, Sem.run_pure, Result.andThen_ok, List.map_toArray, List.map_cons, List.map_nil, hs, hx, happ]
  exact h
/-- append in a region that draws its order. -/
theorem step_append_run {K : Act → World → Prop} {Q : Exit → Act → World → Prop} {E : Prop} (hgd : o.guard = none) (s x : Operand) (t ty : TypeId) (hop : o.op = .call { callee := .builtin .append, args := #[s, x], argTypes := #[t, t] }) (hty : o.type = ty) {v u v' : Value}
    (hs : a.eval s = v) (hx : a.eval x = u) (happ : (Builtin.append_ #[t, t] ty #[v, u]).run P w = .ok v' w') (h : K (a.put o.dst v') w') : if Region.wanted o (yielded ops a.tmps) = true then Oper.wp P o a w K Q else E := by
  have hw : Region.wanted o (yielded ops a.tmps) = true := by simp [Region.wanted, hgd]
  rw [if_pos hw]
  exact wp_append_run s x t ty hop hty hs hx happ h
/-- append outside such a region. -/
theorem list_append_run {Q : Exit → Act → World → Prop} {rest : List Oper} (hgd : o.guard = none) (s x : Operand) (t ty : TypeId) (hop : o.op = .call { callee := .builtin .append, args := #[s, x], argTypes := #[t, t] }) (hty : o.type = ty) {v u v' : Value}
    (hs : a.eval s = v) (hx : a.eval x = u) (happ : (Builtin.append_ #[t, t] ty #[v, u]).run P w = .ok v' w') (h : wpList P ops Q rest (a.put o.dst v') w') : wpList P ops Q (o :: rest) a w := by
  refine wpList_plain hgd fun K hK => ?_
  exact wp_append_run s x t ty hop hty hs hx happ (hK _ _ h)
end

/-- The same with what append gives behind it, whatever the world in which it stands. -/
theorem step_append_sl {P : Program} {ops : Array Oper} {o : Oper} {a : Act} {w : World} {K : Act → World → Prop} {Q : Exit → Act → World → Prop} {E : Prop} (hgd : o.guard = none) (s x : Operand) (t ty e : TypeId) (k bytes : Nat) (z : Value) (hop : o.op = .call { callee := .builtin .append, args := #[s, x], argTypes := #[t, t] }) (hty : o.type = ty)
    (ht : P.underlying t = some (.slice e)) (hinfo : (P.info? e).map (fun i => (i.zero, i.size, i.bytes)) = some (some z, k, bytes)) (hzs : z.cells.size = k) (hk0 : 0 < k) {v u : Value} (n : Nat) (xs : List Value) (m : Nat) (news : List Value)
    (hs : a.eval s = v) (hx : a.eval x = u) (hown : w.ownsRow 0 e k v n xs) (hsl : SlAt w u m news) (hl : news.length = m * k) (h1 : ∀ x ∈ news, x.oneCell' = true) (hbytes : (n + m) * bytes ≤ 140737488355328) (hn : n + m ≤ maxLen) (N : Nat) (hN : n + m = N) (ys : List Value) (hys : xs ++ news = ys)
    (h : ∀ A' c' w', w'.ownsRow 0 e k (.slice A' N c') N ys → Frm (fun c => v.ownBlock = some c) w w' → ((Value.slice A' N c').ownBlock = v.ownBlock ∨ (Value.slice A' N c').ownBlock = some w.heap.size) → K (a.put o.dst (.slice A' N c')) w') :
    if Region.wanted o (yielded ops a.tmps) = true then Oper.wp P o a w K Q else E := by
  subst hN
  subst hys
  obtain ⟨v', w', happ, hown', hgr, hob⟩ := run_append_sl t ty e k bytes z ht hinfo hzs hk0 v n xs hown u m news hsl hl h1 hbytes hn
  obtain ⟨A', c', rfl, _⟩ := own_sl hown'
  exact step_append_run hgd s x t ty hop hty hs hx happ (h A' c' w' hown' (Frm.ofGrown hgr) hob)
theorem own_blk0 {w : World} {b : Nat} {e : TypeId} (k : Nat) (h : Blk w b #[] e) : w.ownsRow 0 e k (.slice (some ⟨b, 0, none⟩) 0 0) 0 [] :=
  ⟨by simp, .inr ⟨b, 0, #[], rfl, Nat.zero_le _, h, Nat.le_refl _, Nat.zero_le _, by simp, by simp⟩⟩
theorem Frm.ge {F : Nat → Prop} {w W w' : World} (h : Below w.heap.size w W) (f : Frm F W w') (hF : ∀ c, F c → w.heap.size ≤ c) : Below w.heap.size w w' :=
  h.trans ⟨f.os, f.tape, f.output, f.size, fun k hk => f.block k (by have := h.size; omega) (fun hf => by have := hF k hf; omega)⟩

theorem ep_info : (Try.prog.info? 29).map (fun i => (i.zero, i.size, i.bytes)) = some (some (.agg #[.int .i64 0, .int .i64 0, .bool false]), 3, 24) := by kernel_rfl
theorem epsCells_one (t : List Ep) : ∀ x ∈ epsCells t, x.oneCell' = true := by
  intro x hx
  simp only [epsCells, List.mem_flatMap] at hx
  obtain ⟨e, _, he⟩ := hx
  simp only [epCells, List.mem_cons, List.not_mem_nil, or_false] at he
  rcases he with rfl | rfl | rfl <;> rfl
theorem epsCells_length (t : List Ep) : (epsCells t).length = t.length * 3 := flat_length epCells 3 (fun _ => rfl) t

end Go.Proofs.Ytedcdjlpogpgbaa

/- Layer 15: the state in memory and as plain data; blank, New, number. -/
set_option linter.unusedVariables false
set_option linter.unusedSimpArgs false
namespace Go.Proofs.Ytedcdjlpogpgbaa
open Go.RowKit

theorem fold_agg (w : World) : (isAgg 91).run Try.prog w = .ok true w := by kernel_rfl
theorem fold_size (w : World) : (sizeOf 91).run Try.prog w = .ok 4 w := by kernel_rfl

set_option maxHeartbeats 2000000 in
theorem New_tab (lim : Int) (w : World) : Calls Try.prog 69 #[.int .i64 lim] w fun e w' => e = .returned (.pointer (some ⟨w.heap.size + 1, 0, none⟩)) ∧ w' = (w.alloc (.map #[] 0)).alloc (.cells #[.int .i64 lim, .map (some w.heap.size)] 141) := by
  have hmm := @run_makeMap Try.prog
  go_enter Try.func69, Try.ntmps69
  go_wp2_with fail
  go_ret
  exact ⟨rfl, rfl⟩

/-- What a fold's two pointers lead to. -/
structure FoldAt (w : World) (kb sb mb : Nat) (t : T) (l : List Sn) : Prop where
  keys : MapAt w kb t
  seen : TabAt w sb mb 16 l
def foldVal (p : Pos) (kb sb : Nat) : Array Value := #[.int .i64 p.e, .int .i64 p.i, .pointer (some ⟨kb, 0, none⟩), .pointer (some ⟨sb, 0, none⟩)]
def BlankRes (w : World) (e : Ending) (w' : World) : Prop :=
  ∃ kb sb mb, e = .returned (.agg (foldVal zeroPos kb sb)) ∧ FoldAt w' kb sb mb .nil [] ∧ w.heap.size ≤ kb ∧ w.heap.size ≤ sb ∧ w.heap.size ≤ mb ∧ Below w.heap.size w w'

set_option maxHeartbeats 2000000 in
theorem blank_any (w : World) : Calls Try.prog 45 #[] w (BlankRes w) := by
  go_enter Try.func45, Try.ntmps45
  go_wp2_with fail
  refine (new_map _).mono ?_
  rintro e w1 ⟨rfl, rfl⟩
  go_wp2_with fail
  refine (New_tab _ _).mono ?_
  rintro e w1 ⟨rfl, rfl⟩
  go_wp2_with fail
  refine ret_cell rfl rfl (loads_blk (T := 91) (cs := foldVal zeroPos (w.heap.size + 1) (w.heap.size + 3)) fold_agg fold_size ?_ rfl) rfl ⟨w.heap.size + 1, w.heap.size + 3, w.heap.size + 2, rfl, ⟨?_, ?_⟩, by omega, by omega, by omega, ?_⟩
  · ((repeat' (first | with_reducible exact Blk.new _ _ _ | with_reducible apply Blk.drewN | with_reducible apply Blk.drew | with_reducible apply Blk.set' | (with_reducible apply Blk.set_other (hp := by first | assumption | (simp; done) | (simp; omega) | omega)) | (with_reducible apply Blk.new'; focus (first | (simp; done) | (simp; omega))) | with_reducible apply Blk.alloc)) <;> rfl)
  · refine ⟨⟨0, ?_⟩, trivial, List.nodup_nil, by simp [T.blocks], by simp [Up, T.list]⟩
    unfold MapT
    ((repeat' (first | with_reducible exact Blk.new _ _ _ | with_reducible apply Blk.drewN | with_reducible apply Blk.drew | with_reducible apply Blk.set' | (with_reducible apply Blk.set_other (hp := by first | assumption | (simp; done) | (simp; omega) | omega)) | (with_reducible apply Blk.new'; focus (first | (simp; done) | (simp; omega))) | with_reducible apply Blk.alloc)) <;> rfl)
  · refine ⟨?_, ?_, List.Pairwise.nil⟩
    · unfold TabT
      ((repeat' (first | with_reducible exact Blk.new _ _ _ | with_reducible apply Blk.drewN | with_reducible apply Blk.drew | with_reducible apply Blk.set' | (with_reducible apply Blk.set_other (hp := by first | assumption | (simp; done) | (simp; omega) | omega)) | (with_reducible apply Blk.new'; focus (first | (simp; done) | (simp; omega))) | with_reducible apply Blk.alloc)) <;> rfl)
    · refine MpAt.alloc ?_ _
      exact MpAt.new' (by simp)
  · (repeat' (first | with_reducible exact Below.refl _ _ | with_reducible refine below_drewN ?_ _ | with_reducible refine Below.drew ?_ | with_reducible refine Below.setCell ?_ (by first | exact Nat.le_refl _ | (simp; done) | (simp; omega) | omega) _ | with_reducible refine Below.alloc ?_ (by first | exact Nat.le_refl _ | (simp; done) | (simp; omega) | omega) _ | exact Below.refl _ _))

def numB (n : Int) : Bool := decide (1 ≤ n) && decide (n ≤ 9007199254740992)
set_option maxHeartbeats 2000000 in
theorem number_any (n : Int) (w : World) : Calls Try.prog 77 #[.int .i64 n] w fun e w' => e = .returned (.bool (numB n)) ∧ Below w.heap.size w w' := by
  by_cases h : 1 ≤ n
  · have d1 : decide (1 ≤ n) = true := by simpa using h
    go_enter Try.func77, Try.ntmps77
    go_wp2_with fail
    go_ret
    exact ⟨by simp [numB, h], by (repeat' (first | with_reducible exact Below.refl _ _ | with_reducible refine below_drewN ?_ _ | with_reducible refine Below.drew ?_ | with_reducible refine Below.setCell ?_ (by first | exact Nat.le_refl _ | (simp; done) | (simp; omega) | omega) _ | with_reducible refine Below.alloc ?_ (by first | exact Nat.le_refl _ | (simp; done) | (simp; omega) | omega) _ | exact Below.refl _ _))⟩
  · have d1 : decide (1 ≤ n) = false := by simpa using h
    clear h
    go_enter Try.func77, Try.ntmps77
    go_wp2_with fail
    go_ret
    exact ⟨by simp [numB, d1], by (repeat' (first | with_reducible exact Below.refl _ _ | with_reducible refine below_drewN ?_ _ | with_reducible refine Below.drew ?_ | with_reducible refine Below.setCell ?_ (by first | exact Nat.le_refl _ | (simp; done) | (simp; omega) | omega) _ | with_reducible refine Below.alloc ?_ (by first | exact Nat.le_refl _ | (simp; done) | (simp; omega) | omega) _ | exact Below.refl _ _))⟩

end Go.Proofs.Ytedcdjlpogpgbaa

/- Layer 15's data, and how a state lies in memory. -/
set_option linter.unusedVariables false
set_option linter.unusedSimpArgs false
namespace Go.Proofs.Ytedcdjlpogpgbaa
open Go.RowKit

structure Ent where
  pos : Pos
  s : Int
  r : Int
  k : ByteArray
  d : Bool
  t : ByteArray
structure Snap where
  pos : Pos
  ps : List (ByteArray × Val)
  ss : List Sn
structure St where
  pos : Pos
  keys : List (ByteArray × Val)
  seen : List Sn
  table : List Ep
  base : Snap
  ents : List Ent
  closed : Bool
structure Lay where
  b : Nat
  kb : Nat
  sb : Nat
  mb : Nat
  t : T
  tv : Value
  pv : Value
  sv : Value
  ev : Value
def entCells (e : Ent) : List Value := [.int .i64 e.pos.e, .int .i64 e.pos.i, .int .i64 e.s, .int .i64 e.r, .string e.k, .bool e.d, .string e.t]
def entVal (e : Ent) : Array Value := #[.int .i64 e.pos.e, .int .i64 e.pos.i, .int .i64 e.s, .int .i64 e.r, .string e.k, .bool e.d, .string e.t]
def pairCells (p : ByteArray × Val) : List Value := [.string p.1, .int .i64 p.2.pos.e, .int .i64 p.2.pos.i, .bool p.2.th, .string p.2.t]
def snCells (x : Sn) : List Value := [.int .i64 x.s, .int .i64 x.r, .int .i64 x.pos.e, .int .i64 x.pos.i]
def entsCells (l : List Ent) : List Value := l.flatMap entCells
def pairsCells (l : List (ByteArray × Val)) : List Value := l.flatMap pairCells
def snsCells (l : List Sn) : List Value := l.flatMap snCells
def epVal (e : Ep) : Array Value := #[.int .i64 e.m, .int .i64 e.c, .bool e.f]
theorem entsCells_length (l : List Ent) : (entsCells l).length = l.length * 7 := flat_length entCells 7 (fun _ => rfl) l
theorem pairsCells_length (l : List (ByteArray × Val)) : (pairsCells l).length = l.length * 5 := flat_length pairCells 5 (fun _ => rfl) l
theorem snsCells_length (l : List Sn) : (snsCells l).length = l.length * 4 := flat_length snCells 4 (fun _ => rfl) l
theorem entsCells_one (l : List Ent) : ∀ x ∈ entsCells l, x.oneCell' = true := by
  intro x hx
  simp only [entsCells, List.mem_flatMap] at hx
  obtain ⟨e, _, he⟩ := hx
  simp only [entCells, List.mem_cons, List.not_mem_nil, or_false] at he
  rcases he with rfl | rfl | rfl | rfl | rfl | rfl | rfl <;> rfl
theorem pairsCells_one (l : List (ByteArray × Val)) : ∀ x ∈ pairsCells l, x.oneCell' = true := by
  intro x hx
  simp only [pairsCells, List.mem_flatMap] at hx
  obtain ⟨e, _, he⟩ := hx
  simp only [pairCells, List.mem_cons, List.not_mem_nil, or_false] at he
  rcases he with rfl | rfl | rfl | rfl | rfl <;> rfl
theorem snsCells_one (l : List Sn) : ∀ x ∈ snsCells l, x.oneCell' = true := by
  intro x hx
  simp only [snsCells, List.mem_flatMap] at hx
  obtain ⟨e, _, he⟩ := hx
  simp only [snCells, List.mem_cons, List.not_mem_nil, or_false] at he
  rcases he with rfl | rfl | rfl | rfl <;> rfl

def stCells (L : Lay) (s : St) : Array Value :=
  #[.int .i64 s.pos.e, .int .i64 s.pos.i, .pointer (some ⟨L.kb, 0, none⟩), .pointer (some ⟨L.sb, 0, none⟩), L.tv, .int .i64 s.base.pos.e, .int .i64 s.base.pos.i, L.pv, L.sv, L.ev, .bool s.closed]
structure StAt (w : World) (L : Lay) (s : St) : Prop where
  blk : Blk w L.b (stCells L s) 94
  fold : FoldAt w L.kb L.sb L.mb L.t s.seen
  keys : L.t.list = s.keys
  tab : w.ownsRow 0 29 3 L.tv s.table.length (epsCells s.table)
  prs : w.ownsRow 0 67 5 L.pv s.base.ps.length (pairsCells s.base.ps)
  sns : w.ownsRow 0 69 4 L.sv s.base.ss.length (snsCells s.base.ss)
  ens : w.ownsRow 0 35 7 L.ev s.ents.length (entsCells s.ents)
/-- All blocks that a state has. -/
def Lay.foot (L : Lay) (x : Nat) : Prop :=
  x = L.b ∨ x = L.kb ∨ x ∈ L.t.blocks ∨ x = L.sb ∨ x = L.mb ∨ L.tv.ownBlock = some x ∨ L.pv.ownBlock = some x ∨ L.sv.ownBlock = some x ∨ L.ev.ownBlock = some x
theorem FoldAt.frm {F : Nat → Prop} {w w' : World} {kb sb mb : Nat} {t : T} {l : List Sn} (h : FoldAt w kb sb mb t l) (f : Frm F w w') (h1 : ¬ F kb) (h2 : ∀ b ∈ t.blocks, ¬ F b) (h3 : ¬ F sb) (h4 : ¬ F mb) : FoldAt w' kb sb mb t l :=
  ⟨h.keys.frm f h1 h2, h.seen.frm f h3 h4⟩
theorem StAt.frm {F : Nat → Prop} {w w' : World} {L : Lay} {s : St} (h : StAt w L s) (f : Frm F w w') (hn : ∀ x, L.foot x → ¬ F x) : StAt w' L s :=
  ⟨h.blk.frm f (hn _ (.inl rfl)), h.fold.frm f (hn _ (.inr (.inl rfl))) (fun b hb => hn _ (.inr (.inr (.inl hb)))) (hn _ (.inr (.inr (.inr (.inl rfl))))) (hn _ (.inr (.inr (.inr (.inr (.inl rfl)))))),
    h.keys, own_frm h.tab f (fun b hb => hn _ (by unfold Lay.foot; simp [hb])), own_frm h.prs f (fun b hb => hn _ (by unfold Lay.foot; simp [hb])), own_frm h.sns f (fun b hb => hn _ (by unfold Lay.foot; simp [hb])), own_frm h.ens f (fun b hb => hn _ (by unfold Lay.foot; simp [hb]))⟩
theorem StAt.below {w w' : World} {L : Lay} {s : St} (h : StAt w L s) (f : Below w.heap.size w w') : StAt w' L s := h.frm (Frm.ofBelow (F := fun _ => False) f) (fun _ _ h => h)
theorem StAt.lt {w : World} {L : Lay} {s : St} (h : StAt w L s) : ∀ x, L.foot x → x < w.heap.size := by
  intro x hx
  have hk := h.fold.keys.lt
  rcases hx with rfl | rfl | hx | rfl | rfl | hx | hx | hx | hx
  · exact h.blk.lt
  · exact hk.1
  · exact hk.2 x hx
  · exact h.fold.seen.blk.lt
  · exact h.fold.seen.map.lt
  · exact own_lt h.tab hx
  · exact own_lt h.prs hx
  · exact own_lt h.sns hx
  · exact own_lt h.ens hx

def checkW (s : St) (e : Ent) : Int :=
  if s.closed = true then 10
  else if e.pos.i ≠ s.pos.i + 1 then 9
  else if 512 < e.pos.i then 5
  else if ¬ (e.pos.e = (atB s.table e.pos.i).e ∧ e.pos.i = (atB s.table e.pos.i).i) then 8
  else if numB e.s = false ∨ numB e.r = false ∨ (e.d = true ∧ e.t.toList ≠ []) then 1
  else if e.k.size < 1 ∨ 64 < e.k.size ∨ 1024 < e.t.size then 3
  else if (look 16 s.seen e.s e.r).1 = 2 ∨ (look 16 s.seen e.s e.r).1 = 3 then 13
  else if (look 16 s.seen e.s e.r).1 = 4 then 4 else 0

end Go.Proofs.Ytedcdjlpogpgbaa

/- The comparing of structs. -/
set_option linter.unusedVariables false
set_option linter.unusedSimpArgs false
namespace Go.Proofs.Ytedcdjlpogpgbaa
open Go.RowKit

def posEq (a b c d : Int) : Bool := (a == c) && (b == d)
theorem eqIn_pos (a b c d : Int) (n : Nat) (w : World) : (Op.equalIn (n + 2) 33 (.agg #[.int .i64 a, .int .i64 b]) (.agg #[.int .i64 c, .int .i64 d])).run Try.prog w = .ok (posEq a b c d) w := by
  rw [run_equalIn_struct w (n + 1) 33 _ _ (by kernel_rfl) (by kernel_rfl)]
  by_cases h1 : a = c <;> by_cases h2 : b = d <;> simp [go_sem, h1, h2, posEq]
theorem neq_pos (a b c d : Int) (w : World) : (binOp .neq 33 (.agg #[.int .i64 a, .int .i64 b]) (.agg #[.int .i64 c, .int .i64 d])).run Try.prog w = .ok (.bool (!posEq a b c d)) w := by
  rw [run_neq_struct, show (10000 : Nat) = 9998 + 2 from rfl, eqIn_pos]; rfl
theorem eql_pos (a b c d : Int) (w : World) : (binOp .eql 33 (.agg #[.int .i64 a, .int .i64 b]) (.agg #[.int .i64 c, .int .i64 d])).run Try.prog w = .ok (.bool (posEq a b c d)) w := by
  rw [run_eql_struct, show (10000 : Nat) = 9998 + 2 from rfl, eqIn_pos]; rfl

theorem wp_abs {P : Program} {c : Code} {Q : Exit → Act → World → Prop} {a : Act} {W : World} (h : ∀ w1, w1 = W → c.wp P Q a w1) : c.wp P Q a W := h W rfl

def IntRes (n : Int) (w : World) (e : Ending) (w' : World) : Prop := e = .returned (.int .i64 n) ∧ Below w.heap.size w w'

end Go.Proofs.Ytedcdjlpogpgbaa

/- Layer 15: (*fold).put. -/
set_option linter.unusedVariables false
set_option linter.unusedSimpArgs false
namespace Go.Proofs.Ytedcdjlpogpgbaa
open Go.RowKit

theorem Blk.type {w : World} {a : Nat} {cs cs' : Array Value} {t t' : TypeId} (h : Blk w a cs t) (k : Blk w a cs' t') : t = t' := by
  unfold Blk at h k; rw [h] at k; simp at k; exact k.2
theorem Blk.notMap {w : World} {a : Nat} {cs : Array Value} {t : TypeId} {l : List (Value × Value)} (h : Blk w a cs t) (k : MpAt w a l) : False := by
  obtain ⟨es, cl, hm, _⟩ := k
  unfold Blk at h; rw [h] at hm; cases hm
theorem T.At.blk {w : World} {b : Nat} : ∀ {t : T}, t.At w → b ∈ t.blocks → ∃ cs, Blk w b cs 157
  | .nil, _, h => by simp [T.blocks] at h
  | .node c k v lev l r, h, hb => by
    simp only [T.blocks, List.mem_cons, List.mem_append] at hb
    rcases hb with rfl | hb | hb
    · exact ⟨_, h.1⟩
    · exact T.At.blk h.2.1 hb
    · exact T.At.blk h.2.2 hb
/-- Two blocks of two types are two. -/
theorem Blk.ne {w : World} {a c : Nat} {cs cs' : Array Value} {t t' : TypeId} (h : Blk w a cs t) (k : Blk w c cs' t') (hne : t ≠ t') : a ≠ c := fun e => by subst e; exact hne (h.type k)
theorem Blk.neMap {w : World} {a c : Nat} {cs : Array Value} {t : TypeId} {l : List (Value × Value)} (h : Blk w a cs t) (k : MpAt w c l) : a ≠ c := fun e => by subst e; exact h.notMap k
theorem Blk.notTree {w : World} {a : Nat} {cs : Array Value} {ty : TypeId} {t : T} (h : Blk w a cs ty) (k : t.At w) (hne : ty ≠ 157) : a ∉ t.blocks := fun hm => by
  obtain ⟨cs', hb⟩ := T.At.blk k hm; exact hne (h.type hb)
theorem MpAt.notTree {w : World} {a : Nat} {l : List (Value × Value)} {t : T} (h : MpAt w a l) (k : t.At w) : a ∉ t.blocks := fun hm => by
  obtain ⟨cs', hb⟩ := T.At.blk k hm; exact hb.notMap h

def entV (x : Ent) : Val := ⟨x.pos, !x.d, x.t⟩
def entS (x : Ent) : Sn := ⟨x.s, x.r, x.pos⟩
def noteIf (l : List Sn) (x : Sn) : List Sn := if (look 16 l x.s x.r).1 = 1 then note x l else l
structure PutDone (b kb sb mb : Nat) (t : T) (l : List Sn) (x : Ent) (cs : Array Value) (ty : TypeId) (w w' : World) (t' : T) : Prop where
  fold : FoldAt w' kb sb mb t' (noteIf l (entS x))
  list : t'.list = ins x.k (entV x) t.list
  blk : Blk w' b ((cs.setIfInBounds 0 (.int .i64 x.pos.e)).setIfInBounds 1 (.int .i64 x.pos.i)) ty
  blocks : ∀ c ∈ t'.blocks, c ∈ t.blocks ∨ w.heap.size ≤ c
  frm : Frm (fun c => c = b ∨ c = kb ∨ c ∈ t.blocks ∨ c = mb) w w'
def PutRes (b kb sb mb : Nat) (t : T) (l : List Sn) (x : Ent) (cs : Array Value) (ty : TypeId) (w : World) (e : Ending) (w' : World) : Prop :=
  e = .returned (.tuple #[]) ∧ ∃ t', PutDone b kb sb mb t l x cs ty w w' t'

set_option maxRecDepth 100000 in
set_option maxHeartbeats 8000000 in
theorem put_any (b kb sb mb : Nat) (t : T) (l : List Sn) (x : Ent) (cs : Array Value) (ty : TypeId) (w : World) (hb : Blk w b cs ty) (h2 : cs[2]? = some (.pointer (some ⟨kb, 0, none⟩))) (h3 : cs[3]? = some (.pointer (some ⟨sb, 0, none⟩))) (h0 : cs.size ≥ 4)
    (hf : FoldAt w kb sb mb t l) (n1 : b ≠ kb) (n2 : b ∉ t.blocks) (n3 : b ≠ sb) (n4 : b ≠ mb) :
    Calls Try.prog 46 #[.pointer (some ⟨b, 0, none⟩), .agg (entVal x)] w (PutRes b kb sb mb t l x cs ty w) := by
  have HF := Lib.hid hf
  have HB := Lib.hid hb
  have hbl := hb.lt
  have c2 : w.cell? ⟨b, 2, none⟩ = some (.pointer (some ⟨kb, 0, none⟩)) := by rw [hb.cell]; exact h2
  have c3 : w.cell? ⟨b, 3, none⟩ = some (.pointer (some ⟨sb, 0, none⟩)) := by rw [hb.cell]; exact h3
  obtain ⟨o0, c0⟩ : ∃ o, w.cell? ⟨b, 0, none⟩ = some o := ⟨cs[0], by rw [hb.cell]; simp⟩
  obtain ⟨o1, c1⟩ : ∃ o, w.cell? ⟨b, 1, none⟩ = some o := ⟨cs[1], by rw [hb.cell]; simp⟩
  have f0 := Blk.free hb 0
  have f1 := Blk.free hb 1
  have H2 := Lib.hid h2
  have H3 := Lib.hid h3
  clear hb hf h2 h3
  unfold entVal
  have hset : ∀ W : World, Frm (fun c => c = b) w W → Calls Try.prog 70 #[.pointer (some ⟨kb, 0, none⟩), .string x.k, .agg #[.int .i64 x.pos.e, .int .i64 x.pos.i, .bool (!x.d), .string x.t]] W (MapDone kb x.k (entV x) t W) :=
    fun W hW => Set_any kb t x.k (entV x) W (HF.out.keys.frm hW (fun h => n1 h.symm) (fun c hc h => n2 (h ▸ hc)))
  have HSET := Lib.hid hset
  clear hset
  have tl := HF.out.keys.lt
  have htl : ∀ c ∈ t.blocks, c ≠ w.heap.size := fun c hc e => by have := tl.2 c hc; omega
  have HTL := Lib.hid htl
  have hkbs : kb ≠ w.heap.size := by have := tl.1; omega
  clear htl tl
  go_enter Try.func46, Try.ntmps46
  go_wp2_with fail
  refine wp_abs ?_
  intro w1 hw1
  have F1 : Frm (fun c => c = b) w w1 := by rw [hw1]; (repeat' (first | with_reducible exact Frm.refl _ _ | with_reducible refine Frm.drewN ?_ _ | with_reducible refine Frm.drew ?_ | with_reducible refine Frm.setCell ?_ (by first | exact Or.inl rfl | exact Or.inr (Nat.le_refl _) | (simp; done) | (simp; omega)) _ | with_reducible refine Frm.alloc ?_ _ | exact Frm.refl _ _))
  have B1 : Blk w1 b ((cs.setIfInBounds 0 (.int .i64 x.pos.e)).setIfInBounds 1 (.int .i64 x.pos.i)) ty := by rw [hw1]; exact ((HB.out.set 0 _).set 1 _).alloc _
  have K1 : Blk w1 w.heap.size (entVal x) 35 := by rw [hw1]; exact Blk.new' (by simp) rfl
  clear hw1
  have b2 : w1.cell? ⟨b, 2, none⟩ = some (.pointer (some ⟨kb, 0, none⟩)) := by rw [B1.cell]; simp [H2.out]
  have k0 : World.cell? w1 ⟨w.heap.size, 0, none⟩ = some (.int .i64 x.pos.e) := by rw [Blk.cell K1]; rfl
  have k1 : World.cell? w1 ⟨w.heap.size, 1, none⟩ = some (.int .i64 x.pos.i) := by rw [Blk.cell K1]; rfl
  have k2 : World.cell? w1 ⟨w.heap.size, 2, none⟩ = some (.int .i64 x.s) := by rw [Blk.cell K1]; rfl
  have k3 : World.cell? w1 ⟨w.heap.size, 3, none⟩ = some (.int .i64 x.r) := by rw [Blk.cell K1]; rfl
  have k4 : World.cell? w1 ⟨w.heap.size, 4, none⟩ = some (.string x.k) := by rw [Blk.cell K1]; rfl
  have k5 : World.cell? w1 ⟨w.heap.size, 5, none⟩ = some (.bool x.d) := by rw [Blk.cell K1]; rfl
  have k6 : World.cell? w1 ⟨w.heap.size, 6, none⟩ = some (.string x.t) := by rw [Blk.cell K1]; rfl
  have hbl1 := B1.lt
  have hkl1 := K1.lt
  have HF1 := Lib.hid F1
  have HB1 := Lib.hid B1
  have HK1 := Lib.hid K1
  clear F1 B1 K1 c0 c1 c2 c3 f0 f1
  go_region_held3 (fun W => W.cell? ⟨b, 2, none⟩ = some (.pointer (some ⟨kb, 0, none⟩)) ∧ W.cell? ⟨w.heap.size, 0, none⟩ = some (.int .i64 x.pos.e) ∧ W.cell? ⟨w.heap.size, 1, none⟩ = some (.int .i64 x.pos.i) ∧ W.cell? ⟨w.heap.size, 4, none⟩ = some (.string x.k) ∧ W.cell? ⟨w.heap.size, 5, none⟩ = some (.bool x.d) ∧ W.cell? ⟨w.heap.size, 6, none⟩ = some (.string x.t)) (first | go_keep)
    (first | (go_at_call 70; refine (HSET.out _ (by (repeat' (first | with_reducible exact HF1.out | with_reducible exact Frm.refl _ _ | with_reducible refine Frm.drewN ?_ _ | with_reducible refine Frm.drew ?_ | with_reducible refine Frm.setCell ?_ (by first | exact Or.inl rfl | exact Or.inr (Nat.le_refl _) | (simp; done) | (simp; omega)) _ | with_reducible refine Frm.alloc ?_ _ | exact Frm.refl _ _ | exact HF1.out)))).mono ?_; rintro e w2 ⟨bb, t', rfl, hm, hl, hbk, hfr⟩; (have B2 := HB1.out.drew.frm hfr (by intro h; rcases h with h | h; exact n1 h; exact n2 h)); (have K2 := HK1.out.drew.frm hfr (by intro h; rcases h with h | h; exact hkbs h.symm; exact HTL.out _ h rfl)); clear b2 k0 k1 k2 k3 k4 k5 k6; (have k0 : World.cell? w2 ⟨w.heap.size, 0, none⟩ = some (.int .i64 x.pos.e) := by rw [Blk.cell K2]; rfl); (have k1 : World.cell? w2 ⟨w.heap.size, 1, none⟩ = some (.int .i64 x.pos.i) := by rw [Blk.cell K2]; rfl); (have k2 : World.cell? w2 ⟨w.heap.size, 2, none⟩ = some (.int .i64 x.s) := by rw [Blk.cell K2]; rfl); (have k3 : World.cell? w2 ⟨w.heap.size, 3, none⟩ = some (.int .i64 x.r) := by rw [Blk.cell K2]; rfl); (have k4 : World.cell? w2 ⟨w.heap.size, 4, none⟩ = some (.string x.k) := by rw [Blk.cell K2]; rfl); (have k5 : World.cell? w2 ⟨w.heap.size, 5, none⟩ = some (.bool x.d) := by rw [Blk.cell K2]; rfl); (have k6 : World.cell? w2 ⟨w.heap.size, 6, none⟩ = some (.string x.t) := by rw [Blk.cell K2]; rfl); (have b2 : w2.cell? ⟨b, 2, none⟩ = some (.pointer (some ⟨kb, 0, none⟩)) := by rw [B2.cell]; simp [H2.out]); (have b3 : w2.cell? ⟨b, 3, none⟩ = some (.pointer (some ⟨sb, 0, none⟩)) := by rw [B2.cell]; simp [H3.out]); (have HFR := Lib.hid hfr); (have HM := Lib.hid hm); (have HL := Lib.hid hl); (have HBK := Lib.hid hbk); (have HB2 := Lib.hid B2); (have HK2 := Lib.hid K2); (have hbl2 := B2.lt); (have hkl2 := K2.lt); clear hfr hm hl hbk B2 K2))
  have hfr2 : Frm (fun c => c = b ∨ c = kb ∨ c ∈ t.blocks) w w2 := (HF1.out.mono (fun i _ h => .inl h)).trans (Frm.trans (Frm.refl (fun c => c = kb ∨ c ∈ t.blocks) _).drew HFR.out (fun i _ h => h)) (fun i _ h => .inr h)
  have hft2 : TabAt w2 sb mb 16 l := HF.out.seen.frm hfr2 (by obtain ⟨n, hk⟩ := HF.out.keys.blk; rintro (h | h | h); exact n3 h.symm; exact (HF.out.seen.blk.ne hk (by decide)) h; exact HF.out.seen.blk.notTree HF.out.keys.tree (by decide) h) (by obtain ⟨n, hk⟩ := HF.out.keys.blk; rintro (h | h | h); exact n4 h.symm; exact hk.neMap HF.out.seen.map h.symm; exact HF.out.seen.map.notTree HF.out.keys.tree h)
  have HFT := Lib.hid hft2
  have HFR2 := Lib.hid hfr2
  clear hft2 hfr2
  go_wp2_with fail
  go_region_held3 (fun W => W.cell? ⟨b, 3, none⟩ = some (.pointer (some ⟨sb, 0, none⟩)) ∧ W.cell? ⟨w.heap.size, 0, none⟩ = some (.int .i64 x.pos.e) ∧ W.cell? ⟨w.heap.size, 1, none⟩ = some (.int .i64 x.pos.i) ∧ W.cell? ⟨w.heap.size, 2, none⟩ = some (.int .i64 x.s) ∧ W.cell? ⟨w.heap.size, 3, none⟩ = some (.int .i64 x.r)) (first | go_keep)
    (first | (go_at_call 71; refine (Note_any sb mb 16 l (entS x) _ (HFT.out.frm (F := fun _ => False) (Frm.refl _ _).drew (fun h => h) (fun h => h))).mono ?_; rintro e w3 ⟨bb2, rfl, hn, hfr3⟩; (have B3 := HB2.out.drew.frm hfr3 n4); (have K3 := HK2.out.drew.frm hfr3 (fun h => by have := HF.out.seen.map.lt; omega)); clear b2 b3 k0 k1 k2 k3 k4 k5 k6; (have k0 : World.cell? w3 ⟨w.heap.size, 0, none⟩ = some (.int .i64 x.pos.e) := by rw [Blk.cell K3]; rfl); (have k1 : World.cell? w3 ⟨w.heap.size, 1, none⟩ = some (.int .i64 x.pos.i) := by rw [Blk.cell K3]; rfl); (have k2 : World.cell? w3 ⟨w.heap.size, 2, none⟩ = some (.int .i64 x.s) := by rw [Blk.cell K3]; rfl); (have k3 : World.cell? w3 ⟨w.heap.size, 3, none⟩ = some (.int .i64 x.r) := by rw [Blk.cell K3]; rfl); (have b3 : w3.cell? ⟨b, 3, none⟩ = some (.pointer (some ⟨sb, 0, none⟩)) := by rw [B3.cell]; simp [H3.out])))
  go_wp2_with fail
  go_end0
  have hd : ∀ F : Nat → Prop, Frm F w2 w2.drew := fun F => (Frm.refl F _).drew
  have hm2 : MapAt w3 kb t' := (HM.out.frm (hd (fun _ => False)) (fun h => h) (fun _ _ h => h)).frm hfr3 (by obtain ⟨n, hk⟩ := HM.out.blk; exact hk.neMap HFT.out.map) (fun c hc e => HFT.out.map.notTree HM.out.tree (e ▸ hc))
  refine ⟨rfl, t', ⟨hm2, hn⟩, HL.out, B3, ?_, ?_⟩
  · intro c hc
    rcases HBK.out c hc with h | h
    · exact .inl h
    · refine .inr (Nat.le_trans HF1.out.size ?_); simpa using h
  · refine (HFR2.out.mono (fun i _ h => ?_)).trans (Frm.trans (hd (fun c => c = mb)) hfr3 (fun i _ h => h)) (fun i _ h => ?_)
    · rcases h with h | h | h
      · exact .inl h
      · exact .inr (.inl h)
      · exact .inr (.inr (.inl h))
    · exact .inr (.inr (.inr h))

end Go.Proofs.Ytedcdjlpogpgbaa

/- Layer 14: Load of a list that may be loaded. -/
set_option linter.unusedVariables false
set_option linter.unusedSimpArgs false
namespace Go.Proofs.Ytedcdjlpogpgbaa
open Go.RowKit
open Go.ChangeMaps (setBlock)

def sn (l : List Sn) (j : Nat) : Sn := l.getD j ⟨0, 0, ⟨0, 0⟩⟩
theorem sn_get {l : List Sn} {j : Nat} (h : j < l.length) : l[j]? = some (sn l j) := by simp [sn, h]
theorem sns_at {w : World} {v : Value} {l : List Sn} (h : SlAt w v l.length (snsCells l)) (hn : 0 < l.length) :
    ∃ b o c, v = .slice (some ⟨b, o, none⟩) l.length c ∧ l.length ≤ c ∧ c ≤ maxLen ∧ b < w.heap.size ∧ ∀ j, j < l.length → w.cell? ⟨b, o + j * 4, none⟩ = some (.int .i64 (sn l j).s) ∧ w.cell? ⟨b, o + j * 4 + 1, none⟩ = some (.int .i64 (sn l j).r) ∧ w.cell? ⟨b, o + j * 4 + 2, none⟩ = some (.int .i64 (sn l j).pos.e) ∧ w.cell? ⟨b, o + j * 4 + 3, none⟩ = some (.int .i64 (sn l j).pos.i) := by
  obtain ⟨A, c, e, h1, h2, h3⟩ := h
  obtain ⟨b, o, rfl, hb, hc⟩ := h3 hn
  refine ⟨b, o, c, e, h1, h2, hb, fun j hj => ⟨?_, ?_, ?_, ?_⟩⟩
  · have := hc (j * 4 + 0) _ (flat_get snCells 4 (fun _ => rfl) l j 0 _ (sn_get hj) (by omega)); simpa using this
  · have := hc (j * 4 + 1) _ (flat_get snCells 4 (fun _ => rfl) l j 1 _ (sn_get hj) (by omega)); rw [← Nat.add_assoc] at this; exact this
  · have := hc (j * 4 + 2) _ (flat_get snCells 4 (fun _ => rfl) l j 2 _ (sn_get hj) (by omega)); rw [← Nat.add_assoc] at this; exact this
  · have := hc (j * 4 + 3) _ (flat_get snCells 4 (fun _ => rfl) l j 3 _ (sn_get hj) (by omega)); rw [← Nat.add_assoc] at this; exact this
/-- Sessions that rise. -/
def Rise (l : List Sn) : Prop := l.Pairwise (fun x y => x.s < y.s)
theorem Rise.keys {l : List Sn} (h : Rise l) : l.Pairwise (fun x y => x.s ≠ y.s) := h.imp (fun h => by omega)
theorem Rise.at_ {l : List Sn} (h : Rise l) {j : Nat} (hj : j + 1 < l.length) : (sn l j).s < (sn l (j + 1)).s := by
  have := (List.pairwise_iff_getElem.1 h) j (j + 1) (by omega) hj (by omega)
  simpa [sn, hj, show j < l.length by omega] using this
theorem note_fresh {l : List Sn} {j : Nat} (h : Rise l) (hj : j < l.length) : note (sn l j) (l.take j) = l.take (j + 1) := by
  have hf : (l.take j).find? (fun y => y.s == (sn l j).s) = none := by
    rw [List.find?_eq_none]
    intro x hx
    obtain ⟨i, hi, rfl⟩ := List.mem_iff_getElem.1 hx
    have hi2 : i < j := by simp at hi; omega
    have := (List.pairwise_iff_getElem.1 h) i j (by omega) hj hi2
    simp only [List.getElem_take]
    have e : sn l j = l[j] := by simp [sn, hj]
    rw [e]; simp; omega
  unfold note
  rw [hf]
  simp only [Option.isSome_none, Bool.false_eq_true, if_false]
  rw [List.take_add_one, sn_get hj]; rfl
def LoadRes (b mb : Nat) (lim : Int) (l : List Sn) (w : World) (e : Ending) (w' : World) : Prop := e = .returned (.bool true) ∧ TabAt w' b mb lim l ∧ Frm (fun c => c = mb) w w'

set_option maxRecDepth 100000 in
set_option maxHeartbeats 8000000 in
theorem Load_some (b mb : Nat) (lim : Int) (l0 l : List Sn) (pb po pc : Nat) (w : World) (h : TabAt w b mb lim l0) (hlim : (l.length : Int) ≤ lim) (hlim2 : 0 ≤ lim ∧ lim ≤ 1000) (hr : Rise l) (hlc : l.length ≤ pc) (hpc : pc ≤ maxLen) (hpb : pb < w.heap.size) (hpm : pb ≠ mb)
    (hc : ∀ j, j < l.length → w.cell? ⟨pb, po + j * 4, none⟩ = some (.int .i64 (sn l j).s) ∧ w.cell? ⟨pb, po + j * 4 + 1, none⟩ = some (.int .i64 (sn l j).r) ∧ w.cell? ⟨pb, po + j * 4 + 2, none⟩ = some (.int .i64 (sn l j).pos.e) ∧ w.cell? ⟨pb, po + j * 4 + 3, none⟩ = some (.int .i64 (sn l j).pos.i)) :
    Calls Try.prog 90 #[.pointer (some ⟨b, 0, none⟩), .slice (some ⟨pb, po, none⟩) l.length pc] w (LoadRes b mb lim l w) := by
  have H := Lib.hid h
  have HC := Lib.hid hc
  have HR := Lib.hid hr
  have hb := h.blk.lt
  obtain ⟨hl0, hl1⟩ := hlim2
  have hmx : max lim 0 = lim := by omega
  have hbm : b ≠ mb := h.blk.neMap h.map
  have c0 : World.cell? w ⟨b, 0, none⟩ = some (.int .i64 lim) := by rw [Blk.cell h.blk]; rfl
  have c1 : World.cell? w ⟨b, 1, none⟩ = some (.map (some mb)) := by rw [Blk.cell h.blk]; rfl
  clear h hc hr
  have d1 : decide (lim < (l.length : Int)) = false := decide_eq_false (by omega)
  go_enter Try.func90, Try.ntmps90
  go_wp2_with fail
  go_loopg [22] l.length (fun g v wr => ∃ k : Nat, k ≤ l.length ∧ v = .int .i64 k ∧ g = l.length - k ∧ Below w.heap.size w wr)
  case atStart => exact ⟨0, Nat.zero_le _, rfl, rfl, Below.refl _ _⟩
  case round =>
    obtain ⟨k, hk, rfl, rfl, hbel⟩ := hrel
    have HB := Lib.hid hbel
    have hsz := hbel.size
    have hbr : b < wr.heap.size := by omega
    by_cases hlt : k < l.length
    · cases k with
      | zero =>
        clear hbel c0 c1
        have d2 : decide ((0 : Int) < ((0 : Nat) : Int)) = false := by simp
        have d3 : decide ((0 : Nat) < 0) = false := by simp
        go_wp2_with fail
        go_quiet (fail)
        go_wp2_with fail
        go_roundg (l.length - 1)
        case measure => omega
        case rel => exact ⟨1, by omega, rfl, rfl, by (repeat' (first | with_reducible exact HB.out | with_reducible exact Below.refl _ _ | with_reducible refine below_drewN ?_ _ | with_reducible refine Below.drew ?_ | with_reducible refine Below.setCell ?_ (by first | exact Nat.le_refl _ | (simp; done) | (simp; omega) | omega) _ | with_reducible refine Below.alloc ?_ (by first | exact Nat.le_refl _ | (simp; done) | (simp; omega) | omega) _ | exact Below.refl _ _ | exact HB.out))⟩
      | succ k =>
        obtain ⟨a0, _, _, _⟩ := HC.out k (by omega)
        obtain ⟨e0, _, _, _⟩ := HC.out (k + 1) hlt
        rw [← hbel.cell (p := ⟨pb, po + k * 4, none⟩) hpb] at a0
        rw [← hbel.cell (p := ⟨pb, po + (k + 1) * 4, none⟩) hpb] at e0
        have hlt2 := Rise.at_ HR.out hlt
        obtain ⟨s1, hs1⟩ : ∃ x, (sn l k).s = x := ⟨_, rfl⟩
        obtain ⟨s2, hs2⟩ : ∃ x, (sn l (k + 1)).s = x := ⟨_, rfl⟩
        rw [hs1] at a0 hlt2
        rw [hs2] at e0 hlt2
        clear hs1 hs2 hbel c0 c1
        have d2 : decide (s2 ≤ s1) = false := decide_eq_false (by omega)
        have d3 : decide ((0 : Int) < ((k : Int) + 1)) = true := decide_eq_true (by omega)
        have d4 : ((k : Int) + 1 - 1) = k := by omega
        go_wp2_with fail
        go_quiet (fail)
        go_wp2_with fail
        go_roundg (l.length - (k + 2))
        case measure => omega
        case rel => exact ⟨k + 2, by omega, by go_num, rfl, by (repeat' (first | with_reducible exact HB.out | with_reducible exact Below.refl _ _ | with_reducible refine below_drewN ?_ _ | with_reducible refine Below.drew ?_ | with_reducible refine Below.setCell ?_ (by first | exact Nat.le_refl _ | (simp; done) | (simp; omega) | omega) _ | with_reducible refine Below.alloc ?_ (by first | exact Nat.le_refl _ | (simp; done) | (simp; omega) | omega) _ | exact Below.refl _ _ | exact HB.out))⟩
    · have : k = l.length := by omega
      subst this
      have CB := hbel.cell (p := ⟨b, 1, none⟩) hb
      rw [c1] at CB
      obtain ⟨o, hcl, hmp⟩ := run_clear_map (P := Try.prog) (t := 139) Try.underlying139 (H.out.map.frm (F := fun _ => False) (Frm.ofBelow hbel) (fun h => h))
      have HM := Lib.hid hmp
      clear hmp c0 c1 hbel
      go_wp2_with fail
      go_loopg [48] l.length (fun g v wx => ∃ k : Nat, k ≤ l.length ∧ v = .int .i64 k ∧ g = l.length - k ∧ TabAt wx b mb lim (l.take k) ∧ Frm (fun c => c = mb) w wx)
      case atStart =>
        refine ⟨0, Nat.zero_le _, rfl, rfl, ⟨?_, HM.out, List.Pairwise.nil⟩, (Frm.ofBelow HB.out).trans (frm_setBlock _ mb o) (fun i _ h => h)⟩
        exact ((H.out.blk.below HB.out).frm (frm_setBlock _ mb o) hbm)
      case round =>
        obtain ⟨k, hk, rfl, rfl, htab, hfr⟩ := hrel
        have HT := Lib.hid htab
        have HFR := Lib.hid hfr
        have hbr2 := htab.blk.lt
        have c1 : World.cell? wr ⟨b, 1, none⟩ = some (.map (some mb)) := by rw [Blk.cell htab.blk]; rfl
        have hszr := hfr.size
        by_cases hlt : k < l.length
        · obtain ⟨a0, a1, a2, a3⟩ := HC.out k hlt
          rw [← hfr.cell (p := ⟨pb, po + k * 4, none⟩) hpb hpm] at a0
          rw [← hfr.cell (p := ⟨pb, po + k * 4 + 1, none⟩) hpb hpm] at a1
          rw [← hfr.cell (p := ⟨pb, po + k * 4 + 2, none⟩) hpb hpm] at a2
          rw [← hfr.cell (p := ⟨pb, po + k * 4 + 3, none⟩) hpb hpm] at a3
          have hpb' : pb < wr.heap.size := by omega
          clear htab hfr
          obtain ⟨x, hx⟩ : ∃ x, sn l k = x := ⟨_, rfl⟩
          rw [hx] at a0 a1 a2 a3
          have HX := Lib.hid hx
          clear hx
          obtain ⟨o2, hup, hmp2⟩ := run_mapUpdate_int (P := Try.prog) (t := 139) Try.underlying139 Try.underlying3 (w := (wr.alloc (.cells #[.int .i64 x.s, .int .i64 x.r, .int .i64 x.pos.e, .int .i64 x.pos.i] 69)).drew) (b := mb) (l := sess (l.take k))
            (HT.out.map.frm (F := fun _ => False) ((Frm.refl _ _).alloc _).drew (fun h => h)) (sess_ints _) (by unfold sess; rw [List.map_map, List.pairwise_map]; exact HT.out.keys.imp (fun hab h => by injection h with _ h; exact hab h)) x.s (.agg (lastCells x))
          rw [sess_note] at hmp2
          unfold lastCells at hup
          have HM2 := Lib.hid hmp2
          clear hmp2
          go_wp2_with fail
          go_region
          all_goals
            go_wp2_with fail
            go_roundg (l.length - (k + 1))
            case measure => omega
            case rel =>
              refine ⟨k + 1, by omega, by go_num, rfl, ?_, ?_⟩
              · rw [← note_fresh HR.out hlt, HX.out]
                refine ⟨(((HT.out.blk.alloc _).drew).frm (frm_setBlock _ mb o2) hbm), HM2.out, keys_note HT.out.keys⟩
              · exact ((HFR.out.alloc _).drew).trans (frm_setBlock _ mb o2) (fun i _ h => h)
        · have : k = l.length := by omega
          subst this
          clear htab hfr
          go_wp2_with fail
          go_ret
          refine ⟨rfl, ?_, HFR.out⟩
          have := HT.out
          rwa [List.take_length] at this

set_option maxRecDepth 100000 in
set_option maxHeartbeats 8000000 in
theorem Load_none (b mb : Nat) (lim : Int) (l0 : List Sn) (A : Option Addr) (c : Nat) (w : World) (h : TabAt w b mb lim l0) (hlim2 : 0 ≤ lim ∧ lim ≤ 1000) :
    Calls Try.prog 90 #[.pointer (some ⟨b, 0, none⟩), .slice A 0 c] w (LoadRes b mb lim [] w) := by
  have H := Lib.hid h
  have hb := h.blk.lt
  obtain ⟨hl0, hl1⟩ := hlim2
  have hmx : max lim 0 = lim := by omega
  have hbm : b ≠ mb := h.blk.neMap h.map
  have c0 : World.cell? w ⟨b, 0, none⟩ = some (.int .i64 lim) := by rw [Blk.cell h.blk]; rfl
  have c1 : World.cell? w ⟨b, 1, none⟩ = some (.map (some mb)) := by rw [Blk.cell h.blk]; rfl
  obtain ⟨o, hcl, hmp⟩ := run_clear_map (P := Try.prog) (t := 139) Try.underlying139 h.map
  have HM := Lib.hid hmp
  clear h hmp
  have d1 : decide (lim < (0 : Int)) = false := decide_eq_false (by omega)
  go_enter Try.func90, Try.ntmps90
  go_wp2_with fail
  go_loopg [22] 0 (fun g v wr => v = .int .i64 0 ∧ wr = w ∧ g = 0)
  case atStart => exact ⟨rfl, rfl, rfl⟩
  case round =>
    obtain ⟨rfl, hwr, rfl⟩ := hrel
    subst hwr
    go_wp2_with fail
    go_loopg [48] 0 (fun g v wx => v = .int .i64 0 ∧ wx = setBlock wr mb o ∧ g = 0)
    case atStart => exact ⟨rfl, rfl, rfl⟩
    case round =>
      obtain ⟨rfl, hwr, rfl⟩ := hrel
      rename_i wr1 _ _ _ _ 
      go_wp2_with fail
      go_ret
      refine ⟨rfl, ?_, ?_⟩
      · exact ⟨H.out.blk.frm (frm_setBlock _ mb o) hbm, HM.out, List.Pairwise.nil⟩
      · exact frm_setBlock _ mb o

theorem Load_any (b mb : Nat) (lim : Int) (l0 l : List Sn) (v : Value) (w : World) (h : TabAt w b mb lim l0) (hlim : (l.length : Int) ≤ lim) (hlim2 : 0 ≤ lim ∧ lim ≤ 1000) (hr : Rise l) (hv : SlAt w v l.length (snsCells l)) (hm : ∀ A n c, v = .slice (some A) n c → 0 < n → A.block ≠ mb) :
    Calls Try.prog 90 #[.pointer (some ⟨b, 0, none⟩), v] w (LoadRes b mb lim l w) := by
  by_cases h0 : l.length = 0
  · have hl : l = [] := List.eq_nil_of_length_eq_zero h0
    subst hl
    obtain ⟨A, c, rfl, _⟩ := hv
    exact Load_none b mb lim l0 A c w h hlim2
  · obtain ⟨pb, po, c, rfl, h1, h2, h3, h4⟩ := sns_at hv (by omega)
    exact Load_some b mb lim l0 l pb po c w h hlim hlim2 hr h1 h2 h3 (hm _ _ _ rfl (by omega)) h4

end Go.Proofs.Ytedcdjlpogpgbaa

/- Layer 15: of, again: a fold out of a base and entries. -/
set_option linter.unusedVariables false
set_option linter.unusedSimpArgs false
namespace Go.Proofs.Ytedcdjlpogpgbaa
open Go.RowKit

def pr (l : List (ByteArray × Val)) (j : Nat) : ByteArray × Val := l.getD j (⟨#[]⟩, zeroVal)
theorem pr_get {l : List (ByteArray × Val)} {j : Nat} (h : j < l.length) : l[j]? = some (pr l j) := by simp [pr, h]
theorem prs_at {w : World} {v : Value} {l : List (ByteArray × Val)} (h : SlAt w v l.length (pairsCells l)) (hn : 0 < l.length) :
    ∃ b o c, v = .slice (some ⟨b, o, none⟩) l.length c ∧ l.length ≤ c ∧ c ≤ maxLen ∧ b < w.heap.size ∧ ∀ j, j < l.length → w.cell? ⟨b, o + j * 5, none⟩ = some (.string (pr l j).1) ∧ w.cell? ⟨b, o + j * 5 + 1, none⟩ = some (.int .i64 (pr l j).2.pos.e) ∧ w.cell? ⟨b, o + j * 5 + 2, none⟩ = some (.int .i64 (pr l j).2.pos.i) ∧ w.cell? ⟨b, o + j * 5 + 3, none⟩ = some (.bool (pr l j).2.th) ∧ w.cell? ⟨b, o + j * 5 + 4, none⟩ = some (.string (pr l j).2.t) := by
  obtain ⟨A, c, e, h1, h2, h3⟩ := h
  obtain ⟨b, o, rfl, hb, hc⟩ := h3 hn
  refine ⟨b, o, c, e, h1, h2, hb, fun j hj => ⟨?_, ?_, ?_, ?_, ?_⟩⟩
  · have := hc (j * 5 + 0) _ (flat_get pairCells 5 (fun _ => rfl) l j 0 _ (pr_get hj) (by omega)); simpa using this
  · have := hc (j * 5 + 1) _ (flat_get pairCells 5 (fun _ => rfl) l j 1 _ (pr_get hj) (by omega)); rw [← Nat.add_assoc] at this; exact this
  · have := hc (j * 5 + 2) _ (flat_get pairCells 5 (fun _ => rfl) l j 2 _ (pr_get hj) (by omega)); rw [← Nat.add_assoc] at this; exact this
  · have := hc (j * 5 + 3) _ (flat_get pairCells 5 (fun _ => rfl) l j 3 _ (pr_get hj) (by omega)); rw [← Nat.add_assoc] at this; exact this
  · have := hc (j * 5 + 4) _ (flat_get pairCells 5 (fun _ => rfl) l j 4 _ (pr_get hj) (by omega)); rw [← Nat.add_assoc] at this; exact this
theorem ins_end {key : ByteArray} {x : Val} : ∀ {l : List (ByteArray × Val)}, (∀ a ∈ l, lt a.1 key = true) → ins key x l = l ++ [(key, x)]
  | [], _ => rfl
  | (k, y) :: l, h => by
    have h1 : lt k key = true := h _ (List.mem_cons_self ..)
    simp only [ins]
    rw [if_neg (by rw [lt_asymm h1]; simp), if_pos h1, ins_end (fun a ha => h a (List.mem_cons_of_mem _ ha))]
    rfl
theorem ins_take {l : List (ByteArray × Val)} (h : Up l) {j : Nat} (hj : j < l.length) : ins (pr l j).1 (pr l j).2 (l.take j) = l.take (j + 1) := by
  rw [ins_end, List.take_add_one, pr_get hj]
  · rfl
  · intro a ha
    obtain ⟨i, hi, rfl⟩ := List.mem_iff_getElem.1 ha
    have hi2 : i < j := by simp at hi; omega
    have := (List.pairwise_iff_getElem.1 h) i j (by omega) hj hi2
    simp only [List.getElem_take]
    rw [show pr l j = l[j] by simp [pr, hj]]
    exact this

def snapVal (p : Pos) (pv sv : Value) : Array Value := #[.int .i64 p.e, .int .i64 p.i, pv, sv]
structure SnapOk (s : Snap) : Prop where
  up : Up s.ps
  rise : Rise s.ss
  few : s.ss.length ≤ 16
  lim : s.ps.length ≤ 1000000000000
def OfRes (s : Snap) (w : World) (e : Ending) (w' : World) : Prop :=
  ∃ kb sb mb t, e = .returned (.agg (foldVal s.pos kb sb)) ∧ FoldAt w' kb sb mb t s.ss ∧ t.list = s.ps ∧ w.heap.size ≤ kb ∧ w.heap.size ≤ sb ∧ w.heap.size ≤ mb ∧ (∀ c ∈ t.blocks, w.heap.size ≤ c) ∧ Below w.heap.size w w'
structure OfRel (s : Snap) (pv sv : Value) (w : World) (kb sb mb fb : Nat) (t : T) (k : Nat) (wr : World) : Prop where
  fold : FoldAt wr kb sb mb t []
  list : t.list = s.ps.take k
  new : ∀ c ∈ t.blocks, w.heap.size ≤ c
  fb : Blk wr fb (foldVal s.pos kb sb) 91
  box : Blk wr w.heap.size (snapVal s.pos pv sv) 40
  res : Blk wr (w.heap.size + 1) (#[.int .i64 0, .int .i64 0, .pointer none, .pointer none]) 91
  below : Below w.heap.size w wr

set_option maxRecDepth 100000 in
set_option maxHeartbeats 8000000 in
theorem of_any (s : Snap) (A B : Option Addr) (ca cb : Nat) (w : World) (hp : SlAt w (.slice A s.ps.length ca) s.ps.length (pairsCells s.ps)) (hs : SlAt w (.slice B s.ss.length cb) s.ss.length (snsCells s.ss)) (hok : SnapOk s) :
    Calls Try.prog 74 #[.agg (snapVal s.pos (.slice A s.ps.length ca) (.slice B s.ss.length cb))] w (OfRes s w) := by
  have HP := Lib.hid hp
  have HS := Lib.hid hs
  have HOK := Lib.hid hok
  have hlim := hok.lim
  clear hp hs hok
  unfold snapVal
  go_enter Try.func74, Try.ntmps74
  go_wp2_with fail
  refine (blank_any _).mono ?_
  rintro e w1 ⟨kb, sb, mb, rfl, hf, h1, h2, h3, hb⟩
  unfold foldVal
  have kx := (Blk.new' rfl rfl : Blk (w.alloc (.cells (snapVal s.pos (.slice A s.ps.length ca) (.slice B s.ss.length cb)) 40)) w.heap.size (snapVal s.pos (.slice A s.ps.length ca) (.slice B s.ss.length cb)) 40)
  have K1 : Blk w1 w.heap.size (snapVal s.pos (.slice A s.ps.length ca) (.slice B s.ss.length cb)) 40 := (kx.alloc _).below hb
  have R1 : Blk w1 (w.heap.size + 1) (#[.int .i64 0, .int .i64 0, .pointer none, .pointer none]) 91 := Blk.below (Blk.new' (by simp) rfl) hb
  have B1 : Below w.heap.size w w1 := (by (repeat' (first | with_reducible exact Below.refl _ _ | with_reducible refine below_drewN ?_ _ | with_reducible refine Below.drew ?_ | with_reducible refine Below.setCell ?_ (by first | exact Nat.le_refl _ | (simp; done) | (simp; omega) | omega) _ | with_reducible refine Below.alloc ?_ (by first | exact Nat.le_refl _ | (simp; done) | (simp; omega) | omega) _ | exact Below.refl _ _)) : Below w.heap.size w _).trans (hb.mono (by simp; omega))
  have k0 : World.cell? w1 ⟨w.heap.size, 0, none⟩ = some (.int .i64 s.pos.e) := by rw [Blk.cell K1]; rfl
  have k1 : World.cell? w1 ⟨w.heap.size, 1, none⟩ = some (.int .i64 s.pos.i) := by rw [Blk.cell K1]; rfl
  have k2 : World.cell? w1 ⟨w.heap.size, 2, none⟩ = some (.slice A s.ps.length ca) := by rw [Blk.cell K1]; rfl
  have k3 : World.cell? w1 ⟨w.heap.size, 3, none⟩ = some (.slice B s.ss.length cb) := by rw [Blk.cell K1]; rfl
  have hkl := K1.lt
  simp at h1 h2 h3
  have HF := Lib.hid hf
  have HK1 := Lib.hid K1
  have HR1 := Lib.hid R1
  have HB1 := Lib.hid B1
  clear hf hb K1 R1 B1 kx
  go_wp2_with fail
  go_loopg [13] s.ps.length (fun g v wr => ∃ k : Nat, k ≤ s.ps.length ∧ v = .int .i64 k ∧ g = s.ps.length - k ∧ ∃ t, OfRel s (.slice A s.ps.length ca) (.slice B s.ss.length cb) w kb sb mb w1.heap.size t k wr)
  case atStart =>
    refine ⟨0, Nat.zero_le _, rfl, rfl, .nil, ⟨HF.out.frm (F := fun _ => False) ((Frm.refl _ _).alloc _) (fun h => h) (fun _ _ h => h) (fun h => h) (fun h => h), rfl, fun c hc => by simp [T.blocks] at hc, Blk.new' rfl rfl, HK1.out.alloc _, HR1.out.alloc _, by (repeat' (first | with_reducible exact HB1.out | with_reducible exact Below.refl _ _ | with_reducible refine below_drewN ?_ _ | with_reducible refine Below.drew ?_ | with_reducible refine Below.setCell ?_ (by first | exact Nat.le_refl _ | (simp; done) | (simp; omega) | omega) _ | with_reducible refine Below.alloc ?_ (by first | exact Nat.le_refl _ | (simp; done) | (simp; omega) | omega) _ | exact Below.refl _ _ | exact HB1.out))⟩⟩
  case round =>
    obtain ⟨k, hk, rfl, rfl, t, hrel⟩ := hrel
    have HREL := Lib.hid hrel
    have hfl := hrel.fb.lt
    have hwl := hrel.below.size
    have f0 : World.cell? wr ⟨w1.heap.size, 0, none⟩ = some (.int .i64 s.pos.e) := by rw [Blk.cell hrel.fb]; rfl
    have f1 : World.cell? wr ⟨w1.heap.size, 1, none⟩ = some (.int .i64 s.pos.i) := by rw [Blk.cell hrel.fb]; rfl
    have f2 : World.cell? wr ⟨w1.heap.size, 2, none⟩ = some (.pointer (some ⟨kb, 0, none⟩)) := by rw [Blk.cell hrel.fb]; rfl
    have f3 : World.cell? wr ⟨w1.heap.size, 3, none⟩ = some (.pointer (some ⟨sb, 0, none⟩)) := by rw [Blk.cell hrel.fb]; rfl
    have x3 : World.cell? wr ⟨w.heap.size, 3, none⟩ = some (.slice B s.ss.length cb) := by rw [Blk.cell hrel.box]; rfl
    clear k0 k1 k2 k3
    by_cases hlt : k < s.ps.length
    · obtain ⟨pb, po, pc, hpe, hp1, hp2, hp3, hp4⟩ := prs_at HP.out (by omega)
      injection hpe with hA _ hc
      subst hA
      subst hc
      obtain ⟨a0, a1, a2, a3, a4⟩ := hp4 k hlt
      rw [← hrel.below.cell (p := ⟨pb, po + k * 5, none⟩) hp3] at a0
      rw [← hrel.below.cell (p := ⟨pb, po + k * 5 + 1, none⟩) hp3] at a1
      rw [← hrel.below.cell (p := ⟨pb, po + k * 5 + 2, none⟩) hp3] at a2
      rw [← hrel.below.cell (p := ⟨pb, po + k * 5 + 3, none⟩) hp3] at a3
      rw [← hrel.below.cell (p := ⟨pb, po + k * 5 + 4, none⟩) hp3] at a4
      have hpb' : pb < wr.heap.size := by omega
      obtain ⟨q, hq⟩ : ∃ q, pr s.ps k = q := ⟨_, rfl⟩
      rw [hq] at a0 a1 a2 a3 a4
      have HQ := Lib.hid hq
      clear hq hp4 hrel
      go_wp2_with fail
      refine (Set_any kb t q.1 q.2 _ (HREL.out.fold.keys.frm (F := fun _ => False) ((Frm.refl _ _).alloc _) (fun h => h) (fun _ _ h => h))).mono ?_
      rintro e w2 ⟨bb, t', rfl, hm, hl, hbk, hfr⟩
      have hfr1 : Frm (fun c => c = kb ∨ c ∈ t.blocks) wr w2 := (Frm.alloc (Frm.refl (fun c => c = kb ∨ c ∈ t.blocks) wr) _).trans hfr (fun i _ h => h)
      have HM := Lib.hid hm
      have HL := Lib.hid hl
      have HBK := Lib.hid hbk
      have HFR := Lib.hid hfr1
      clear hm hl hbk hfr hfr1 f0 f1 f2 f3 x3
      go_wp2_with fail
      go_roundg (s.ps.length - (k + 1))
      case measure => omega
      case rel =>
        obtain ⟨nk, hkb⟩ := HREL.out.fold.keys.blk
        have htr := HREL.out.fold.keys.tree
        refine ⟨k + 1, by omega, by go_num, rfl, t', ⟨⟨HM.out, HREL.out.fold.seen.frm HFR.out ?_ ?_⟩, ?_, ?_, HREL.out.fb.frm HFR.out ?_, HREL.out.box.frm HFR.out ?_, HREL.out.res.frm HFR.out ?_, ?_⟩⟩
        · exact fun h => h.elim (HREL.out.fold.seen.blk.ne hkb (by decide)) (HREL.out.fold.seen.blk.notTree htr (by decide))
        · exact fun h => h.elim (fun e => hkb.neMap HREL.out.fold.seen.map e.symm) (HREL.out.fold.seen.map.notTree htr)
        · rw [HL.out, HREL.out.list, ← ins_take HOK.out.up hlt, HQ.out]
        · intro c hc
          rcases HBK.out c hc with h | h
          · exact HREL.out.new c h
          · simp at h; omega
        · exact fun h => h.elim (HREL.out.fb.ne hkb (by decide)) (HREL.out.fb.notTree htr (by decide))
        · exact fun h => h.elim (HREL.out.box.ne hkb (by decide)) (HREL.out.box.notTree htr (by decide))
        · exact fun h => h.elim (HREL.out.res.ne hkb (by decide)) (HREL.out.res.notTree htr (by decide))
        · refine HREL.out.below.trans ⟨HFR.out.os, HFR.out.tape, HFR.out.output, HFR.out.size, fun i hi => HFR.out.block i (by omega) (fun h => ?_)⟩
          rcases h with h | h
          · omega
          · have := HREL.out.new i h; omega
    · have hkn : k = s.ps.length := by omega
      subst hkn
      clear hrel
      go_wp2_with fail
      refine (Load_any sb mb 16 [] s.ss _ _ HREL.out.fold.seen (by have := HOK.out.few; omega) (by omega) HOK.out.rise (HS.out.below HREL.out.below) ?_).mono ?_
      · intro A' n c he h0
        obtain ⟨pb, po, pc, hpe, _, _, hp3, _⟩ := sns_at HS.out (by injection he with _ hn _; omega)
        rw [hpe] at he
        injection he with he _ _
        injection he with he
        subst he
        show pb ≠ mb
        omega
      · rintro e w3 ⟨rfl, htab, hfr⟩
        have hne : ∀ c, (∃ cs t, Blk wr c cs t) → c ≠ mb := fun c ⟨cs, t, hc⟩ => hc.neMap HREL.out.fold.seen.map
        have F3 := HREL.out.fb.frm hfr (hne _ ⟨_, _, HREL.out.fb⟩)
        have R3 := HREL.out.res.frm hfr (hne _ ⟨_, _, HREL.out.res⟩)
        have M3 : MapAt w3 kb t := by
          obtain ⟨nk, hkb⟩ := HREL.out.fold.keys.blk
          exact HREL.out.fold.keys.frm hfr (hne _ ⟨_, _, hkb⟩) (fun c hc e => HREL.out.fold.seen.map.notTree HREL.out.fold.keys.tree (e ▸ hc))
        have hfl3 := F3.lt
        have hrl3 := R3.lt
        have f0 : World.cell? w3 ⟨w1.heap.size, 0, none⟩ = some (.int .i64 s.pos.e) := by rw [Blk.cell F3]; rfl
        have f1 : World.cell? w3 ⟨w1.heap.size, 1, none⟩ = some (.int .i64 s.pos.i) := by rw [Blk.cell F3]; rfl
        have f2 : World.cell? w3 ⟨w1.heap.size, 2, none⟩ = some (.pointer (some ⟨kb, 0, none⟩)) := by rw [Blk.cell F3]; rfl
        have f3 : World.cell? w3 ⟨w1.heap.size, 3, none⟩ = some (.pointer (some ⟨sb, 0, none⟩)) := by rw [Blk.cell F3]; rfl
        have r0 : World.cell? w3 ⟨w.heap.size + 1, 0, none⟩ = some (.int .i64 0) := by rw [Blk.cell R3]; rfl
        have r1 : World.cell? w3 ⟨w.heap.size + 1, 1, none⟩ = some (.int .i64 0) := by rw [Blk.cell R3]; rfl
        have r2 : World.cell? w3 ⟨w.heap.size + 1, 2, none⟩ = some (.pointer none) := by rw [Blk.cell R3]; rfl
        have r3 : World.cell? w3 ⟨w.heap.size + 1, 3, none⟩ = some (.pointer none) := by rw [Blk.cell R3]; rfl
        have y0 := Blk.free R3 0
        have y1 := Blk.free R3 1
        have y2 := Blk.free R3 2
        have y3 := Blk.free R3 3
        have HT3 := Lib.hid htab
        have HFR := Lib.hid hfr
        have HR3 := Lib.hid R3
        have HM3 := Lib.hid M3
        clear htab hfr R3 M3 F3 hne
        go_wp2_with fail
        refine ret_cell rfl rfl (loads_blk (T := 91) (cs := foldVal s.pos kb sb) fold_agg fold_size ?_ rfl) rfl ⟨kb, sb, mb, t, rfl, ⟨?_, ?_⟩, ?_, by omega, by omega, by omega, HREL.out.new, ?_⟩
        · exact (((HR3.out.set 0 _).set 1 _).set 2 _).set 3 _
        · refine MapAt.frm (F := fun c => c = w.heap.size + 1) HM3.out (by (repeat' (first | with_reducible exact Frm.refl _ _ | with_reducible refine Frm.drewN ?_ _ | with_reducible refine Frm.drew ?_ | with_reducible refine Frm.setCell ?_ (by first | exact Or.inl rfl | exact Or.inr (Nat.le_refl _) | (simp; done) | (simp; omega)) _ | with_reducible refine Frm.alloc ?_ _ | exact Frm.refl _ _))) ?_ ?_
          · obtain ⟨nk, hkb⟩ := HM3.out.blk
            exact hkb.ne HR3.out (by decide)
          · exact fun c hc e => HR3.out.notTree HM3.out.tree (by decide) (e ▸ hc)
        · refine TabAt.frm (F := fun c => c = w.heap.size + 1) HT3.out (by (repeat' (first | with_reducible exact Frm.refl _ _ | with_reducible refine Frm.drewN ?_ _ | with_reducible refine Frm.drew ?_ | with_reducible refine Frm.setCell ?_ (by first | exact Or.inl rfl | exact Or.inr (Nat.le_refl _) | (simp; done) | (simp; omega)) _ | with_reducible refine Frm.alloc ?_ _ | exact Frm.refl _ _))) ?_ ?_
          · exact HT3.out.blk.ne HR3.out (by decide)
          · exact fun e => HR3.out.neMap HT3.out.map e.symm
        · rw [HREL.out.list, List.take_length]
        · have h3 : Below w.heap.size w w3 := HREL.out.below.trans ⟨HFR.out.os, HFR.out.tape, HFR.out.output, HFR.out.size, fun i hi => HFR.out.block i (by omega) (by omega)⟩
          (repeat' (first | with_reducible exact h3 | with_reducible exact Below.refl _ _ | with_reducible refine below_drewN ?_ _ | with_reducible refine Below.drew ?_ | with_reducible refine Below.setCell ?_ (by first | exact Nat.le_refl _ | (simp; done) | (simp; omega) | omega) _ | with_reducible refine Below.alloc ?_ (by first | exact Nat.le_refl _ | (simp; done) | (simp; omega) | omega) _ | exact Below.refl _ _ | exact h3))

end Go.Proofs.Ytedcdjlpogpgbaa

/- Layer 15: checkWrite. -/
set_option linter.unusedVariables false
set_option linter.unusedSimpArgs false
namespace Go.Proofs.Ytedcdjlpogpgbaa
open Go.RowKit

attribute [local go_sem high] neq_pos eql_pos


set_option maxRecDepth 100000 in
set_option maxHeartbeats 8000000 in
theorem checkWrite_any (L : Lay) (s : St) (x : Ent) (w : World) (h : StAt w L s) (hp : 0 ≤ s.pos.i ∧ s.pos.i ≤ 512) (hx : -1000000000000 ≤ x.pos.i ∧ x.pos.i ≤ 1000000000000) :
    Calls Try.prog 60 #[.pointer (some ⟨L.b, 0, none⟩), .agg (entVal x)] w (IntRes (checkW s x) w) := by
  have H := Lib.hid h
  have hb := h.blk.lt
  have c1 : w.cell? ⟨L.b, 1, none⟩ = some (.int .i64 s.pos.i) := by rw [h.blk.cell]; rfl
  have c3 : w.cell? ⟨L.b, 3, none⟩ = some (.pointer (some ⟨L.sb, 0, none⟩)) := by rw [h.blk.cell]; rfl
  have c4 : w.cell? ⟨L.b, 4, none⟩ = some L.tv := by rw [h.blk.cell]; rfl
  have c10 : w.cell? ⟨L.b, 10, none⟩ = some (.bool s.closed) := by rw [h.blk.cell]; rfl
  clear h
  obtain ⟨hp1, hp2⟩ := hp
  obtain ⟨hx1, hx2⟩ := hx
  unfold entVal
  by_cases hc : s.closed = true
  · have HC := Lib.hid hc
    go_enter Try.func60, Try.ntmps60
    go_wp2_with fail
    go_ret
    exact ⟨by unfold checkW; rw [if_pos HC.out]; rfl, by (repeat' (first | with_reducible exact Below.refl _ _ | with_reducible refine below_drewN ?_ _ | with_reducible refine Below.drew ?_ | with_reducible refine Below.setCell ?_ (by first | exact Nat.le_refl _ | (simp; done) | (simp; omega) | omega) _ | with_reducible refine Below.alloc ?_ (by first | exact Nat.le_refl _ | (simp; done) | (simp; omega) | omega) _ | exact Below.refl _ _))⟩
  · have hc' : s.closed = false := by simpa using hc
    have HC := Lib.hid hc
    clear hc
    rw [hc'] at c10
    clear hc'
    by_cases hi : x.pos.i = s.pos.i + 1
    · have d1 : (x.pos.i != s.pos.i + 1) = false := by simp [hi]
      have HI := Lib.hid hi
      clear hi
      by_cases hl : 512 < x.pos.i
      · have d2 : decide (512 < x.pos.i) = true := by simpa using hl
        go_enter Try.func60, Try.ntmps60
        go_wp2_with fail
        go_quiet (fail)
        go_wp2_with fail
        go_ret
        exact ⟨by unfold checkW; rw [if_neg HC.out, if_neg (by rw [HI.out]; simp), if_pos hl]; rfl, by (repeat' (first | with_reducible exact Below.refl _ _ | with_reducible refine below_drewN ?_ _ | with_reducible refine Below.drew ?_ | with_reducible refine Below.setCell ?_ (by first | exact Nat.le_refl _ | (simp; done) | (simp; omega) | omega) _ | with_reducible refine Below.alloc ?_ (by first | exact Nat.le_refl _ | (simp; done) | (simp; omega) | omega) _ | exact Below.refl _ _))⟩
      · have d2 : decide (512 < x.pos.i) = false := by simpa using hl
        go_enter Try.func60, Try.ntmps60
        go_wp2_with fail
        go_quiet (fail)
        go_wp2_with fail
        obtain ⟨⟨pe, pi⟩, hpos⟩ : ∃ p, atB s.table x.pos.i = p := ⟨_, rfl⟩
        have HP := Lib.hid hpos
        clear hpos
        have hat : ∀ W : World, Below w.heap.size w W → Calls Try.prog 76 #[L.tv, .int .i64 x.pos.i] W fun e w' => e = .returned (.agg #[.int .i64 pe, .int .i64 pi]) ∧ Below W.heap.size W w' := by
          intro W hW
          have := At_any L.tv s.table x.pos.i W (own_sl (H.out.below hW).tab)
          rw [HP.out] at this
          exact this
        have HAT := Lib.hid hat
        clear hat
        obtain ⟨w0, hw0⟩ : ∃ w0 : World, w0 = w.alloc (.cells (entVal x) 35) := ⟨_, rfl⟩
        clear hw0 w0
        go_upto_region 7 with (fail)
        go_region_held3 (fun W => W.cell? ⟨L.b, 4, none⟩ = some L.tv ∧ W.cell? ⟨w.heap.size, 0, none⟩ = some (.int .i64 x.pos.e) ∧ W.cell? ⟨w.heap.size, 1, none⟩ = some (.int .i64 x.pos.i)) (first | go_keep)
          (first | (go_at_call 76; refine (HAT.out _ (by (repeat' (first | with_reducible exact Below.refl _ _ | with_reducible refine below_drewN ?_ _ | with_reducible refine Below.drew ?_ | with_reducible refine Below.setCell ?_ (by first | exact Nat.le_refl _ | (simp; done) | (simp; omega) | omega) _ | with_reducible refine Below.alloc ?_ (by first | exact Nat.le_refl _ | (simp; done) | (simp; omega) | omega) _ | exact Below.refl _ _)))).mono ?_; rintro e wc ⟨rfl, hb1⟩; (have hblk : Blk wc w.heap.size (entVal x) 35 := Blk.below (by ((repeat' (first | with_reducible exact Blk.new _ _ _ | with_reducible apply Blk.drewN | with_reducible apply Blk.drew | with_reducible apply Blk.set' | (with_reducible apply Blk.set_other (hp := by first | assumption | (simp; done) | (simp; omega) | omega)) | (with_reducible apply Blk.new'; focus (first | (simp; done) | (simp; omega))) | with_reducible apply Blk.alloc)) <;> rfl)) hb1); (have k0 : wc.cell? ⟨w.heap.size, 0, none⟩ = some (.int .i64 x.pos.e) := by rw [hblk.cell]; rfl); (have k1 : wc.cell? ⟨w.heap.size, 1, none⟩ = some (.int .i64 x.pos.i) := by rw [hblk.cell]; rfl); (have hbel : Below w.heap.size w wc := ((by (repeat' (first | with_reducible exact Below.refl _ _ | with_reducible refine below_drewN ?_ _ | with_reducible refine Below.drew ?_ | with_reducible refine Below.setCell ?_ (by first | exact Nat.le_refl _ | (simp; done) | (simp; omega) | omega) _ | with_reducible refine Below.alloc ?_ (by first | exact Nat.le_refl _ | (simp; done) | (simp; omega) | omega) _ | exact Below.refl _ _)) : Below w.heap.size w _).trans (hb1.mono (by simp)))); (have k4 : wc.cell? ⟨L.b, 4, none⟩ = some L.tv := by rw [hbel.cell (p := ⟨L.b, 4, none⟩) hb]; exact c4); (have HBL := Lib.hid hbel); (have HBK := Lib.hid hblk); clear hb1 hbel hblk))
        · have hbel := HBL.out
          have hblk := HBK.out
          clear HBL HBK k0 k1 k4
          have hsz := hblk.lt
          have hsz2 := hbel.size
          have q3 : wc.cell? ⟨L.b, 3, none⟩ = some (.pointer (some ⟨L.sb, 0, none⟩)) := by rw [hbel.cell (p := ⟨L.b, 3, none⟩) hb]; exact c3
          have k2 : wc.cell? ⟨w.heap.size, 2, none⟩ = some (.int .i64 x.s) := by rw [hblk.cell]; rfl
          have k3 : wc.cell? ⟨w.heap.size, 3, none⟩ = some (.int .i64 x.r) := by rw [hblk.cell]; rfl
          have k4 : wc.cell? ⟨w.heap.size, 4, none⟩ = some (.string x.k) := by rw [hblk.cell]; rfl
          have k5 : wc.cell? ⟨w.heap.size, 5, none⟩ = some (.bool x.d) := by rw [hblk.cell]; rfl
          have k6 : wc.cell? ⟨w.heap.size, 6, none⟩ = some (.string x.t) := by rw [hblk.cell]; rfl
          have HB := Lib.hid hbel
          have HK := Lib.hid hblk
          clear hbel hblk c1 c3 c4 c10
          have hnum : ∀ (n : Int) (W : World), Calls Try.prog 77 #[.int .i64 n] W fun e w' => e = .returned (.bool (numB n)) ∧ Below W.heap.size W w' := number_any
          have HN := Lib.hid hnum
          clear hnum
          cases hq : posEq x.pos.e x.pos.i pe pi with
          | false =>
            have HQ := Lib.hid hq
            clear hq
            go_wp2_with fail
            go_ret
            refine ⟨?_, HB.out⟩
            unfold checkW
            rw [if_neg HC.out, if_neg (by rw [HI.out]; simp), if_neg (by omega), HP.out, if_pos (by have := HQ.out; unfold posEq at this; simp at this ⊢; exact this)]
            rfl
          | true =>
            have HQ := Lib.hid hq
            clear hq
            have hfin : checkW s x = if numB x.s = false ∨ numB x.r = false ∨ (x.d = true ∧ x.t.toList ≠ []) then 1
                else if x.k.size < 1 ∨ 64 < x.k.size ∨ 1024 < x.t.size then 3
                else if (look 16 s.seen x.s x.r).1 = 2 ∨ (look 16 s.seen x.s x.r).1 = 3 then 13
                else if (look 16 s.seen x.s x.r).1 = 4 then 4 else 0 := by
              unfold checkW
              rw [if_neg HC.out, if_neg (by rw [HI.out]; simp), if_neg (by omega), HP.out, if_neg (by have := HQ.out; unfold posEq at this; simp at this ⊢; exact this)]
            have HF := Lib.hid hfin
            clear hfin
            go_wp2_with fail
            clear k2 k3 k4 k5 k6 q3
            refine (HN.out x.s _).mono ?_
            rintro e w2 ⟨rfl, hb2⟩
            have hk := HK.out.below hb2
            have k2 : World.cell? w2 ⟨w.heap.size, 2, none⟩ = some (.int .i64 x.s) := by rw [Blk.cell hk]; rfl
            have k3 : World.cell? w2 ⟨w.heap.size, 3, none⟩ = some (.int .i64 x.r) := by rw [Blk.cell hk]; rfl
            have k4 : World.cell? w2 ⟨w.heap.size, 4, none⟩ = some (.string x.k) := by rw [Blk.cell hk]; rfl
            have k5 : World.cell? w2 ⟨w.heap.size, 5, none⟩ = some (.bool x.d) := by rw [Blk.cell hk]; rfl
            have k6 : World.cell? w2 ⟨w.heap.size, 6, none⟩ = some (.string x.t) := by rw [Blk.cell hk]; rfl
            have HK2 := Lib.hid hk
            have HB2 := Lib.hid (HB.out.trans (hb2.mono hsz2))
            have hz2 := hk.lt
            clear hk hb2 hsz hsz2
            cases hs1 : numB x.s with
            | false =>
              have HS1 := Lib.hid hs1
              clear hs1
              go_wp2_with fail
              go_ret
              exact ⟨by rw [HF.out, HS1.out]; rfl, HB2.out⟩
            | true =>
              have HS1 := Lib.hid hs1
              clear hs1
              go_wp2_with fail
              clear k2 k3 k4 k5 k6
              refine (HN.out x.r _).mono ?_
              rintro e w3 ⟨rfl, hb3⟩
              have hk := HK2.out.below hb3
              have k2 : World.cell? w3 ⟨w.heap.size, 2, none⟩ = some (.int .i64 x.s) := by rw [Blk.cell hk]; rfl
              have k3 : World.cell? w3 ⟨w.heap.size, 3, none⟩ = some (.int .i64 x.r) := by rw [Blk.cell hk]; rfl
              have k4 : World.cell? w3 ⟨w.heap.size, 4, none⟩ = some (.string x.k) := by rw [Blk.cell hk]; rfl
              have k5 : World.cell? w3 ⟨w.heap.size, 5, none⟩ = some (.bool x.d) := by rw [Blk.cell hk]; rfl
              have k6 : World.cell? w3 ⟨w.heap.size, 6, none⟩ = some (.string x.t) := by rw [Blk.cell hk]; rfl
              have HB3 := Lib.hid (HB2.out.trans (hb3.mono (by have := HB2.out.size; omega)))
              have HK3 := Lib.hid hk
              have hz3 := hk.lt
              clear hk hb3
              cases hs2 : numB x.r with
              | false =>
                have HS2 := Lib.hid hs2
                clear hs2
                go_wp2_with fail
                go_ret
                exact ⟨by rw [HF.out, if_pos (.inr (.inl HS2.out))]; rfl, HB3.out⟩
              | true =>
                have HS2 := Lib.hid hs2
                clear hs2
                by_cases hdel : x.d = true ∧ x.t.toList ≠ []
                · have HD := Lib.hid hdel
                  obtain ⟨hd1, hd2⟩ := hdel
                  rw [hd1] at k5
                  have hd3 : x.t.toList.isEmpty = false := by simpa using hd2
                  have hd4 : (!x.t.toList.isEmpty) = true := by simpa using hd2
                  clear hd1 hd2
                  go_wp2_with fail
                  go_ret
                  exact ⟨by rw [HF.out, if_pos (.inr (.inr HD.out))]; rfl, HB3.out⟩
                · have HD := Lib.hid hdel
                  have hfin2 : checkW s x = if x.k.size < 1 ∨ 64 < x.k.size ∨ 1024 < x.t.size then 3
                      else if (look 16 s.seen x.s x.r).1 = 2 ∨ (look 16 s.seen x.s x.r).1 = 3 then 13
                      else if (look 16 s.seen x.s x.r).1 = 4 then 4 else 0 := by
                    rw [HF.out, HS1.out, HS2.out]; simp only [Bool.true_eq_false, false_or]; rw [if_neg HD.out]
                  have HF2 := Lib.hid hfin2
                  clear hfin2
                  have hd : x.d = false ∨ (x.d = true ∧ x.t.toList.isEmpty = true) := by
                    cases hxd : x.d with
                    | false => exact .inl rfl
                    | true => refine .inr ⟨rfl, ?_⟩; cases he : x.t.toList with | nil => rfl | cons a l => exact absurd ⟨hxd, by rw [he]; simp⟩ hdel
                  clear hdel
                  have hq3 : w3.cell? ⟨L.b, 3, none⟩ = some (.pointer (some ⟨L.sb, 0, none⟩)) := by rw [HB3.out.cell (p := ⟨L.b, 3, none⟩) hb, H.out.blk.cell]; rfl
                  have hlk : ∀ W : World, Below w3.heap.size w3 W → Calls Try.prog 52 #[.pointer (some ⟨L.sb, 0, none⟩), .int .i64 x.s, .int .i64 x.r] W fun e w' => e = .returned (.tuple #[.int .i64 (look 16 s.seen x.s x.r).1, .agg #[.int .i64 (look 16 s.seen x.s x.r).2.e, .int .i64 (look 16 s.seen x.s x.r).2.i]]) ∧ Below W.heap.size W w' :=
                    fun W hW => Look_any L.sb L.mb 16 s.seen x.s x.r W (H.out.below (HB3.out.trans (hW.mono (by have := HB3.out.size; omega)))).fold.seen
                  have HLK := Lib.hid hlk
                  clear hlk
                  rcases hd with hd | ⟨hd1, hd2⟩
                  case' inl => rw [hd] at k5; clear hd
                  case' inr => rw [hd1] at k5; clear hd1
                  all_goals
                    by_cases hsz1 : x.k.size < 1
                    · have d5 : decide (x.k.size < 1) = true := decide_eq_true hsz1
                      go_wp2_with fail
                      go_ret
                      exact ⟨by rw [HF2.out, if_pos (.inl hsz1)]; rfl, HB3.out⟩
                    · have d5 : decide (x.k.size < 1) = false := decide_eq_false hsz1
                      by_cases hsz2 : 64 < x.k.size
                      · have d6 : decide (64 < x.k.size) = true := decide_eq_true hsz2
                        go_wp2_with fail
                        go_ret
                        exact ⟨by rw [HF2.out, if_pos (.inr (.inl hsz2))]; rfl, HB3.out⟩
                      · have d6 : decide (64 < x.k.size) = false := decide_eq_false hsz2
                        by_cases hsz3 : 1024 < x.t.size
                        · have d7 : decide (1024 < x.t.size) = true := decide_eq_true hsz3
                          go_wp2_with fail
                          go_ret
                          exact ⟨by rw [HF2.out, if_pos (.inr (.inr hsz3))]; rfl, HB3.out⟩
                        · have d7 : decide (1024 < x.t.size) = false := decide_eq_false hsz3
                          have hfin3 : checkW s x = if (look 16 s.seen x.s x.r).1 = 2 ∨ (look 16 s.seen x.s x.r).1 = 3 then 13 else if (look 16 s.seen x.s x.r).1 = 4 then 4 else 0 := by
                            rw [HF2.out, if_neg (by omega)]
                          have HF3 := Lib.hid hfin3
                          clear hfin3
                          go_upto_region 13 with (fail)
                          have hbw3 : L.b < w3.heap.size := by have := HB3.out.size; omega
                          have ne1 := World.new_ne w3 _ hq3
                          have ne2 := World.new_ne w3 _ k2
                          go_region_held3 (fun W => W.cell? ⟨L.b, 3, none⟩ = some (.pointer (some ⟨L.sb, 0, none⟩)) ∧ W.cell? ⟨w.heap.size, 2, none⟩ = some (.int .i64 x.s) ∧ W.cell? ⟨w.heap.size, 3, none⟩ = some (.int .i64 x.r)) (first | go_keep)
                            (first | (go_at_call 52; refine (HLK.out _ (by (repeat' (first | with_reducible exact Below.refl _ _ | with_reducible refine below_drewN ?_ _ | with_reducible refine Below.drew ?_ | with_reducible refine Below.setCell ?_ (by first | exact Nat.le_refl _ | (simp; done) | (simp; omega) | omega) _ | with_reducible refine Below.alloc ?_ (by first | exact Nat.le_refl _ | (simp; done) | (simp; omega) | omega) _ | exact Below.refl _ _)))).mono ?_; rintro e w4 ⟨rfl, hb4⟩; (have hbel : Below w3.heap.size w3 w4 := ((by (repeat' (first | with_reducible exact Below.refl _ _ | with_reducible refine below_drewN ?_ _ | with_reducible refine Below.drew ?_ | with_reducible refine Below.setCell ?_ (by first | exact Nat.le_refl _ | (simp; done) | (simp; omega) | omega) _ | with_reducible refine Below.alloc ?_ (by first | exact Nat.le_refl _ | (simp; done) | (simp; omega) | omega) _ | exact Below.refl _ _)) : Below w3.heap.size w3 _).trans (hb4.mono (by simp)))); (have j3 : w4.cell? ⟨L.b, 3, none⟩ = some (.pointer (some ⟨L.sb, 0, none⟩)) := by rw [hbel.cell (p := ⟨L.b, 3, none⟩) hbw3]; exact hq3); (have j2 : w4.cell? ⟨w.heap.size, 2, none⟩ = some (.int .i64 x.s) := by rw [hbel.cell (p := ⟨w.heap.size, 2, none⟩) hz3]; exact k2); (have j4 : w4.cell? ⟨w.heap.size, 3, none⟩ = some (.int .i64 x.r) := by rw [hbel.cell (p := ⟨w.heap.size, 3, none⟩) hz3]; exact k3); (try (have z0 : w4.cell? ⟨w3.heap.size, 0, none⟩ = some (.int .i64 0) := by rw [hb4.cell (p := ⟨w3.heap.size, 0, none⟩) (by simp)]; simp)); (try (have z1 : w4.cell? ⟨w3.heap.size, 1, none⟩ = some (.int .i64 0) := by rw [hb4.cell (p := ⟨w3.heap.size, 1, none⟩) (by simp)]; simp)); (try (have y0 : w4.frozen? ⟨w3.heap.size, 0, none⟩ = false := by rw [hb4.frozen (p := ⟨w3.heap.size, 0, none⟩) (by simp)]; simp)); (try (have y1 : w4.frozen? ⟨w3.heap.size, 1, none⟩ = false := by rw [hb4.frozen (p := ⟨w3.heap.size, 1, none⟩) (by simp)]; simp)); (have hz4 := hbel.size); (have HB4 := Lib.hid hbel); clear hb4 hbel))
                          all_goals
                            clear hq3 k2 k3
                            have hle3 : w.heap.size ≤ w3.heap.size := HB3.out.size
                            by_cases l2 : (look 16 s.seen x.s x.r).1 = 2
                            · have e2 : ((look 16 s.seen x.s x.r).1 == 2) = true := by simpa using l2
                              have L2 := Lib.hid l2
                              clear l2
                              go_wp2_with fail
                              go_ret
                              exact ⟨by rw [HF3.out, if_pos (.inl L2.out)]; rfl, HB3.out.trans (Below.mono (B := w3.heap.size) (by (repeat' (first | with_reducible exact HB4.out | with_reducible exact Below.refl _ _ | with_reducible refine below_drewN ?_ _ | with_reducible refine Below.drew ?_ | with_reducible refine Below.setCell ?_ (by first | exact Nat.le_refl _ | (simp; done) | (simp; omega) | omega) _ | with_reducible refine Below.alloc ?_ (by first | exact Nat.le_refl _ | (simp; done) | (simp; omega) | omega) _ | exact Below.refl _ _ | exact HB4.out))) hle3)⟩
                            · have e2 : ((look 16 s.seen x.s x.r).1 == 2) = false := by simpa using l2
                              by_cases l3 : (look 16 s.seen x.s x.r).1 = 3
                              · have e3 : ((look 16 s.seen x.s x.r).1 == 3) = true := by simpa using l3
                                have L3 := Lib.hid l3
                                clear l2 l3
                                go_wp2_with fail
                                go_ret
                                exact ⟨by rw [HF3.out, if_pos (.inr L3.out)]; rfl, HB3.out.trans (Below.mono (B := w3.heap.size) (by (repeat' (first | with_reducible exact HB4.out | with_reducible exact Below.refl _ _ | with_reducible refine below_drewN ?_ _ | with_reducible refine Below.drew ?_ | with_reducible refine Below.setCell ?_ (by first | exact Nat.le_refl _ | (simp; done) | (simp; omega) | omega) _ | with_reducible refine Below.alloc ?_ (by first | exact Nat.le_refl _ | (simp; done) | (simp; omega) | omega) _ | exact Below.refl _ _ | exact HB4.out))) hle3)⟩
                              · have e3 : ((look 16 s.seen x.s x.r).1 == 3) = false := by simpa using l3
                                have L23 : Hid (¬ ((look 16 s.seen x.s x.r).1 = 2 ∨ (look 16 s.seen x.s x.r).1 = 3)) := fun h => h.elim l2 l3
                                by_cases l4 : (look 16 s.seen x.s x.r).1 = 4
                                · have e4 : ((look 16 s.seen x.s x.r).1 == 4) = true := by simpa using l4
                                  have L4 := Lib.hid l4
                                  clear l2 l3 l4
                                  go_wp2_with fail
                                  go_ret
                                  exact ⟨by rw [HF3.out, if_neg L23.out, if_pos L4.out]; rfl, HB3.out.trans (Below.mono (B := w3.heap.size) (by (repeat' (first | with_reducible exact HB4.out | with_reducible exact Below.refl _ _ | with_reducible refine below_drewN ?_ _ | with_reducible refine Below.drew ?_ | with_reducible refine Below.setCell ?_ (by first | exact Nat.le_refl _ | (simp; done) | (simp; omega) | omega) _ | with_reducible refine Below.alloc ?_ (by first | exact Nat.le_refl _ | (simp; done) | (simp; omega) | omega) _ | exact Below.refl _ _ | exact HB4.out))) hle3)⟩
                                · have e4 : ((look 16 s.seen x.s x.r).1 == 4) = false := by simpa using l4
                                  have L4 := Lib.hid l4
                                  clear l2 l3 l4
                                  go_wp2_with fail
                                  go_ret
                                  exact ⟨by rw [HF3.out, if_neg L23.out, if_neg L4.out]; rfl, HB3.out.trans (Below.mono (B := w3.heap.size) (by (repeat' (first | with_reducible exact HB4.out | with_reducible exact Below.refl _ _ | with_reducible refine below_drewN ?_ _ | with_reducible refine Below.drew ?_ | with_reducible refine Below.setCell ?_ (by first | exact Nat.le_refl _ | (simp; done) | (simp; omega) | omega) _ | with_reducible refine Below.alloc ?_ (by first | exact Nat.le_refl _ | (simp; done) | (simp; omega) | omega) _ | exact Below.refl _ _ | exact HB4.out))) hle3)⟩
    · have d1 : (x.pos.i != s.pos.i + 1) = true := by simpa using hi
      have HI := Lib.hid hi
      clear hi
      go_enter Try.func60, Try.ntmps60
      go_wp2_with fail
      go_quiet (fail)
      go_wp2_with fail
      go_ret
      exact ⟨by unfold checkW; rw [if_neg HC.out, if_pos HI.out]; rfl, by (repeat' (first | with_reducible exact Below.refl _ _ | with_reducible refine below_drewN ?_ _ | with_reducible refine Below.drew ?_ | with_reducible refine Below.setCell ?_ (by first | exact Nat.le_refl _ | (simp; done) | (simp; omega) | omega) _ | with_reducible refine Below.alloc ?_ (by first | exact Nat.le_refl _ | (simp; done) | (simp; omega) | omega) _ | exact Below.refl _ _))⟩

end Go.Proofs.Ytedcdjlpogpgbaa
