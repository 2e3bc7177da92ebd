/- Layer 4: tables of epochs as plain data and as slices; Right, is, At. -/
import Derived.Test.YtedcdjlpogpgbaaDedupe
set_option linter.unusedVariables false
set_option linter.unusedSimpArgs false
namespace Go.Proofs.Ytedcdjlpogpgbaa
open Go.RowKit

/-- A slice that can be read: n elements, whose cells are cs. -/
def SlAt (w : World) (v : Value) (n : Nat) (cs : List Value) : Prop :=
  ∃ A c, v = .slice A n c ∧ n ≤ c ∧ c ≤ maxLen ∧ (0 < n → ∃ b o, A = some ⟨b, o, none⟩ ∧ b < w.heap.size ∧ ∀ j u, cs[j]? = some u → w.cell? ⟨b, o + j, none⟩ = some u)
theorem SlAt.below {w w' : World} {v : Value} {n : Nat} {cs : List Value} (h : SlAt w v n cs) (f : Below w.heap.size w w') : SlAt w' v n cs := by
  obtain ⟨A, c, e, h1, h2, h3⟩ := h
  refine ⟨A, c, e, h1, h2, fun hn => ?_⟩
  obtain ⟨b, o, e2, hb, hc⟩ := h3 hn
  exact ⟨b, o, e2, by have := f.size; omega, fun j u hu => by rw [f.cell (p := ⟨b, o + j, none⟩) hb]; exact hc j u hu⟩

theorem flat_get {α : Type} (enc : α → List Value) (k : Nat) (hk : ∀ x, (enc x).length = k) : ∀ (l : List α) (j i : Nat) (x : α), l[j]? = some x → i < k → (l.flatMap enc)[j * k + i]? = (enc x)[i]?
  | [], j, i, x, h, _ => by simp at h
  | y :: l, 0, i, x, h, hi => by
    simp only [List.getElem?_cons_zero, Option.some.injEq] at h
    subst h
    rw [List.flatMap_cons, Nat.zero_mul, Nat.zero_add, List.getElem?_append_left (by rw [hk]; exact hi)]
  | y :: l, j + 1, i, x, h, hi => by
    rw [List.flatMap_cons, List.getElem?_append_right (by rw [hk, Nat.add_mul]; omega), hk, show (j + 1) * k + i - k = j * k + i from by rw [Nat.add_mul]; omega]
    exact flat_get enc k hk l j i x (by simpa using h) hi
theorem flat_length {α : Type} (enc : α → List Value) (k : Nat) (hk : ∀ x, (enc x).length = k) : ∀ l : List α, (l.flatMap enc).length = l.length * k
  | [] => by simp
  | y :: l => by rw [List.flatMap_cons, List.length_append, hk, flat_length enc k hk l, List.length_cons, Nat.add_mul]; omega

structure Ep where
  m : Int
  c : Int
  f : Bool
def epCells (e : Ep) : List Value := [.int .i64 e.m, .int .i64 e.c, .bool e.f]
def epsCells (t : List Ep) : List Value := t.flatMap epCells
def ep (t : List Ep) (j : Nat) : Ep := t.getD j ⟨0, 0, false⟩
theorem ep_get {t : List Ep} {j : Nat} (h : j < t.length) : t[j]? = some (ep t j) := by simp [ep, h]
theorem eps_at {w : World} {v : Value} {t : List Ep} (h : SlAt w v t.length (epsCells t)) (hn : 0 < t.length) :
    ∃ b o c, v = .slice (some ⟨b, o, none⟩) t.length c ∧ t.length ≤ c ∧ c ≤ maxLen ∧ b < w.heap.size ∧ ∀ j, j < t.length → w.cell? ⟨b, o + j * 3, none⟩ = some (.int .i64 (ep t j).m) ∧ w.cell? ⟨b, o + j * 3 + 1, none⟩ = some (.int .i64 (ep t j).c) ∧ w.cell? ⟨b, o + j * 3 + 2, none⟩ = some (.bool (ep t j).f) := by
  obtain ⟨A, c, e, h1, h2, h3⟩ := h
  obtain ⟨b, o, rfl, hb, hc⟩ := h3 hn
  refine ⟨b, o, c, e, h1, h2, hb, fun j hj => ⟨?_, ?_, ?_⟩⟩
  · have := hc (j * 3 + 0) _ (flat_get epCells 3 (fun _ => rfl) t j 0 _ (ep_get hj) (by omega)); simpa using this
  · have := hc (j * 3 + 1) _ (flat_get epCells 3 (fun _ => rfl) t j 1 _ (ep_get hj) (by omega)); rw [← Nat.add_assoc] at this; exact this
  · have := hc (j * 3 + 2) _ (flat_get epCells 3 (fun _ => rfl) t j 2 _ (ep_get hj) (by omega)); rw [← Nat.add_assoc] at this; exact this

def okEp (e : Ep) : Bool := decide (1 ≤ e.m) && decide (e.m ≤ 4) && decide (0 ≤ e.c) && decide (e.c ≤ 512)
def rightB (t : List Ep) : Bool := decide (1 ≤ t.length) && decide (t.length ≤ 64) && ((ep t 0).c == 0) && !(ep t 0).f && t.all okEp
def okDec (e : Ep) : Prop := 1 ≤ e.m ∧ e.m ≤ 4 ∧ 0 ≤ e.c ∧ e.c ≤ 512
theorem okEp_iff (e : Ep) : okEp e = true ↔ okDec e := by unfold okEp okDec; simp; omega
theorem rightB_iff (t : List Ep) : rightB t = true ↔ (1 ≤ t.length ∧ t.length ≤ 64 ∧ (ep t 0).c = 0 ∧ (ep t 0).f = false ∧ ∀ j, j < t.length → okDec (ep t j)) := by
  unfold rightB
  simp only [Bool.and_eq_true, decide_eq_true_eq, beq_iff_eq, Bool.not_eq_true', List.all_eq_true, okEp_iff]
  constructor
  · rintro ⟨⟨⟨⟨a, b⟩, c⟩, d⟩, e⟩
    exact ⟨a, b, c, d, fun j hj => e _ (List.mem_of_getElem? (ep_get hj))⟩
  · rintro ⟨a, b, c, d, e⟩
    refine ⟨⟨⟨⟨a, b⟩, c⟩, d⟩, fun x hx => ?_⟩
    obtain ⟨j, hj, rfl⟩ := List.mem_iff_getElem.1 hx
    have := e j hj
    rwa [show ep t j = t[j] by simp [ep, hj]] at this

set_option maxRecDepth 100000 in
set_option maxHeartbeats 2000000 in
theorem Right_empty (A : Option Addr) (c : Nat) (w : World) :
    Calls Try.prog 44 #[.slice A 0 c] w fun e w' => e = .returned (.bool false) ∧ Below w.heap.size w w' := by
  have d1 : decide ((0 : Int) < 1) = true := rfl
  go_enter Try.func44, Try.ntmps44
  go_wp2_with fail
  go_ret
  exact ⟨rfl, by (repeat' (first | with_reducible exact Below.refl _ _ | with_reducible refine below_drewN ?_ _ | with_reducible refine Below.drew ?_ | with_reducible refine Below.setCell ?_ (by first | exact Nat.le_refl _ | (simp; done) | (simp; omega) | omega) _ | with_reducible refine Below.alloc ?_ (by first | exact Nat.le_refl _ | (simp; done) | (simp; omega) | omega) _ | exact Below.refl _ _))⟩

set_option maxRecDepth 100000 in
set_option maxHeartbeats 2000000 in
theorem Right_long (b o c n : Nat) (w : World) (h : 64 < n) (c1 : Int) (f1 : Bool) (hc1 : w.cell? ⟨b, o + 1, none⟩ = some (.int .i64 c1)) (hc2 : w.cell? ⟨b, o + 2, none⟩ = some (.bool f1)) :
    Calls Try.prog 44 #[.slice (some ⟨b, o, none⟩) n c] w fun e w' => e = .returned (.bool false) ∧ Below w.heap.size w w' := by
  have d1 : decide (n < 1) = false := by simp; omega
  have d2 : decide (64 < n) = true := by simpa using h
  go_enter Try.func44, Try.ntmps44
  go_wp2_with fail
  go_ret
  exact ⟨rfl, by (repeat' (first | with_reducible exact Below.refl _ _ | with_reducible refine below_drewN ?_ _ | with_reducible refine Below.drew ?_ | with_reducible refine Below.setCell ?_ (by first | exact Nat.le_refl _ | (simp; done) | (simp; omega) | omega) _ | with_reducible refine Below.alloc ?_ (by first | exact Nat.le_refl _ | (simp; done) | (simp; omega) | omega) _ | exact Below.refl _ _))⟩

set_option maxRecDepth 100000 in
set_option maxHeartbeats 2000000 in
theorem Right_first (b o c n : Nat) (w : World) (hn : 1 ≤ n) (h : n ≤ 64) (c1 : Int) (f1 : Bool) (hc1 : w.cell? ⟨b, o + 1, none⟩ = some (.int .i64 c1)) (hc2 : w.cell? ⟨b, o + 2, none⟩ = some (.bool f1)) (hbad : c1 ≠ 0 ∨ f1 = true) :
    Calls Try.prog 44 #[.slice (some ⟨b, o, none⟩) n c] w fun e w' => e = .returned (.bool false) ∧ Below w.heap.size w w' := by
  have d1 : decide (n < 1) = false := by simp; omega
  have d2 : decide (64 < n) = false := by simpa using h
  by_cases h0 : c1 = 0
  · subst h0
    have hf : f1 = true := by simpa using hbad
    subst hf
    clear hbad
    go_enter Try.func44, Try.ntmps44
    go_wp2_with fail
    go_ret
    exact ⟨rfl, by (repeat' (first | with_reducible exact Below.refl _ _ | with_reducible refine below_drewN ?_ _ | with_reducible refine Below.drew ?_ | with_reducible refine Below.setCell ?_ (by first | exact Nat.le_refl _ | (simp; done) | (simp; omega) | omega) _ | with_reducible refine Below.alloc ?_ (by first | exact Nat.le_refl _ | (simp; done) | (simp; omega) | omega) _ | exact Below.refl _ _))⟩
  · have d3 : (c1 != 0) = true := by simpa using h0
    clear hbad h0
    go_enter Try.func44, Try.ntmps44
    go_wp2_with fail
    go_ret
    exact ⟨rfl, by (repeat' (first | with_reducible exact Below.refl _ _ | with_reducible refine below_drewN ?_ _ | with_reducible refine Below.drew ?_ | with_reducible refine Below.setCell ?_ (by first | exact Nat.le_refl _ | (simp; done) | (simp; omega) | omega) _ | with_reducible refine Below.alloc ?_ (by first | exact Nat.le_refl _ | (simp; done) | (simp; omega) | omega) _ | exact Below.refl _ _))⟩

set_option maxRecDepth 100000 in
set_option maxHeartbeats 4000000 in
theorem Right_loop (b o c : Nat) (t : List Ep) (w : World) (hn : 1 ≤ t.length) (h : t.length ≤ 64) (hb : b < w.heap.size) (hc : ∀ j, j < t.length → w.cell? ⟨b, o + j * 3, none⟩ = some (.int .i64 (ep t j).m) ∧ w.cell? ⟨b, o + j * 3 + 1, none⟩ = some (.int .i64 (ep t j).c) ∧ w.cell? ⟨b, o + j * 3 + 2, none⟩ = some (.bool (ep t j).f)) (h1 : (ep t 0).c = 0) (h2 : (ep t 0).f = false) :
    Calls Try.prog 44 #[.slice (some ⟨b, o, none⟩) t.length c] w fun e w' => e = .returned (.bool (rightB t)) ∧ Below w.heap.size w w' := by
  have d1 : decide (t.length < 1) = false := decide_eq_false (by omega)
  have d2 : decide (64 < t.length) = false := by simpa using h
  have hc1 : w.cell? ⟨b, o + 1, none⟩ = some (.int .i64 0) := by have := (hc 0 (by omega)).2.1; rw [h1] at this; simpa using this
  have hc2 : w.cell? ⟨b, o + 2, none⟩ = some (.bool false) := by have := (hc 0 (by omega)).2.2; rw [h2] at this; simpa using this
  have HC := Lib.hid hc
  have H1 := Lib.hid h1
  have H2 := Lib.hid h2
  clear hc h1 h2
  go_enter Try.func44, Try.ntmps44
  go_wp2_with fail
  clear hc1 hc2
  go_loopg [28] t.length (fun g v wr => ∃ k : Nat, k ≤ t.length ∧ v = .int .i64 k ∧ g = t.length - k ∧ (∀ j, j < k → okDec (ep t j)) ∧ Below w.heap.size w wr)
  case atStart => exact ⟨0, Nat.zero_le _, rfl, rfl, fun j hj => by omega, Below.refl _ _⟩
  case round =>
    obtain ⟨k, hk, rfl, rfl, hok, hbel⟩ := hrel
    have HO := Lib.hid hok
    have HB := Lib.hid hbel
    have hsz := hbel.size
    clear hok
    by_cases hlt : k < t.length
    · obtain ⟨a0, a1, a2⟩ := HC.out k hlt
      rw [← hbel.cell (p := ⟨b, o + k * 3, none⟩) hb] at a0
      rw [← hbel.cell (p := ⟨b, o + k * 3 + 1, none⟩) hb] at a1
      rw [← hbel.cell (p := ⟨b, o + k * 3 + 2, none⟩) hb] at a2
      have hb' : b < wr.heap.size := by have := hbel.size; omega
      clear hbel
      obtain ⟨e, he⟩ : ∃ e, ep t k = e := ⟨_, rfl⟩
      rw [he] at a0 a1 a2
      have HE := Lib.hid he
      clear he
      by_cases hbad : okDec e
      · obtain ⟨e1, e2, e3, e4⟩ := hbad
        have d3 : decide (e.m < 1) = false := by simpa using e1
        have d4 : decide (4 < e.m) = false := by simpa using e2
        have d5 : decide (e.c < 0) = false := by simpa using e3
        have d6 : decide (512 < e.c) = false := by simpa using e4
        go_wp2_with fail
        go_roundg (t.length - (k + 1))
        case measure => omega
        case rel =>
          refine ⟨k + 1, by omega, by go_num, rfl, fun j hj => ?_, by (repeat' (first | with_reducible exact HB.out | with_reducible exact Below.refl _ _ | with_reducible refine below_drewN ?_ _ | with_reducible refine Below.drew ?_ | with_reducible refine Below.setCell ?_ (by first | exact Nat.le_refl _ | (simp; done) | (simp; omega) | omega) _ | with_reducible refine Below.alloc ?_ (by first | exact Nat.le_refl _ | (simp; done) | (simp; omega) | omega) _ | exact Below.refl _ _ | exact HB.out))⟩
          by_cases hjk : j < k
          · exact HO.out j hjk
          · have : j = k := by omega
            rw [this, HE.out]; exact ⟨e1, e2, e3, e4⟩
      · have hfin : rightB t = false := by
          cases hr : rightB t with
          | false => rfl
          | true => exact absurd (HE.out ▸ ((rightB_iff t).1 hr).2.2.2.2 k hlt) hbad
        have HFIN := Lib.hid hfin
        have hcase : e.m < 1 ∨ (1 ≤ e.m ∧ 4 < e.m) ∨ (1 ≤ e.m ∧ e.m ≤ 4 ∧ e.c < 0) ∨ (1 ≤ e.m ∧ e.m ≤ 4 ∧ 0 ≤ e.c ∧ 512 < e.c) := by unfold okDec at hbad; omega
        clear hbad hfin
        rcases hcase with q | ⟨q1, q⟩ | ⟨q1, q2, q⟩ | ⟨q1, q2, q3, q⟩
        · have d3 : decide (e.m < 1) = true := by simpa using q
          go_wp2_with fail
          go_ret
          exact ⟨by rw [HFIN.out]; rfl, by (repeat' (first | with_reducible exact HB.out | with_reducible exact Below.refl _ _ | with_reducible refine below_drewN ?_ _ | with_reducible refine Below.drew ?_ | with_reducible refine Below.setCell ?_ (by first | exact Nat.le_refl _ | (simp; done) | (simp; omega) | omega) _ | with_reducible refine Below.alloc ?_ (by first | exact Nat.le_refl _ | (simp; done) | (simp; omega) | omega) _ | exact Below.refl _ _ | exact HB.out))⟩
        · have d3 : decide (e.m < 1) = false := by simpa using q1
          have d4 : decide (4 < e.m) = true := by simpa using q
          go_wp2_with fail
          go_ret
          exact ⟨by rw [HFIN.out]; rfl, by (repeat' (first | with_reducible exact HB.out | with_reducible exact Below.refl _ _ | with_reducible refine below_drewN ?_ _ | with_reducible refine Below.drew ?_ | with_reducible refine Below.setCell ?_ (by first | exact Nat.le_refl _ | (simp; done) | (simp; omega) | omega) _ | with_reducible refine Below.alloc ?_ (by first | exact Nat.le_refl _ | (simp; done) | (simp; omega) | omega) _ | exact Below.refl _ _ | exact HB.out))⟩
        · have d3 : decide (e.m < 1) = false := by simpa using q1
          have d4 : decide (4 < e.m) = false := by simpa using q2
          have d5 : decide (e.c < 0) = true := by simpa using q
          go_wp2_with fail
          go_ret
          exact ⟨by rw [HFIN.out]; rfl, by (repeat' (first | with_reducible exact HB.out | with_reducible exact Below.refl _ _ | with_reducible refine below_drewN ?_ _ | with_reducible refine Below.drew ?_ | with_reducible refine Below.setCell ?_ (by first | exact Nat.le_refl _ | (simp; done) | (simp; omega) | omega) _ | with_reducible refine Below.alloc ?_ (by first | exact Nat.le_refl _ | (simp; done) | (simp; omega) | omega) _ | exact Below.refl _ _ | exact HB.out))⟩
        · have d3 : decide (e.m < 1) = false := by simpa using q1
          have d4 : decide (4 < e.m) = false := by simpa using q2
          have d5 : decide (e.c < 0) = false := by simpa using q3
          have d6 : decide (512 < e.c) = true := by simpa using q
          go_wp2_with fail
          go_ret
          exact ⟨by rw [HFIN.out]; rfl, by (repeat' (first | with_reducible exact HB.out | with_reducible exact Below.refl _ _ | with_reducible refine below_drewN ?_ _ | with_reducible refine Below.drew ?_ | with_reducible refine Below.setCell ?_ (by first | exact Nat.le_refl _ | (simp; done) | (simp; omega) | omega) _ | with_reducible refine Below.alloc ?_ (by first | exact Nat.le_refl _ | (simp; done) | (simp; omega) | omega) _ | exact Below.refl _ _ | exact HB.out))⟩
    · have : k = t.length := by omega
      subst this
      go_wp2_with fail
      go_ret
      refine ⟨?_, by (repeat' (first | with_reducible exact HB.out | with_reducible exact Below.refl _ _ | with_reducible refine below_drewN ?_ _ | with_reducible refine Below.drew ?_ | with_reducible refine Below.setCell ?_ (by first | exact Nat.le_refl _ | (simp; done) | (simp; omega) | omega) _ | with_reducible refine Below.alloc ?_ (by first | exact Nat.le_refl _ | (simp; done) | (simp; omega) | omega) _ | exact Below.refl _ _ | exact HB.out))⟩
      rw [(rightB_iff t).2 ⟨by omega, h, H1.out, H2.out, HO.out⟩]; rfl

theorem Right_any (v : Value) (t : List Ep) (w : World) (ht : SlAt w v t.length (epsCells t)) :
    Calls Try.prog 44 #[v] w fun e w' => e = .returned (.bool (rightB t)) ∧ Below w.heap.size w w' := by
  by_cases h0 : t.length = 0
  · obtain ⟨A, c, rfl, _⟩ := ht
    rw [h0]
    have : rightB t = false := by unfold rightB; simp [h0]
    rw [this]
    exact Right_empty A c w
  · obtain ⟨b, o, c, rfl, h1, h2, hb, hc⟩ := eps_at ht (by omega)
    have c1 := (hc 0 (by omega)).2.1
    have c2 := (hc 0 (by omega)).2.2
    simp only [Nat.zero_mul, Nat.add_zero] at c1 c2
    by_cases h64 : 64 < t.length
    · have : rightB t = false := by
        cases hr : rightB t with
        | false => rfl
        | true => have := ((rightB_iff t).1 hr).2.1; omega
      rw [this]
      exact Right_long b o c _ w h64 _ _ c1 c2
    · by_cases hbad : (ep t 0).c ≠ 0 ∨ (ep t 0).f = true
      · have : rightB t = false := by
          cases hr : rightB t with
          | false => rfl
          | true =>
            obtain ⟨_, _, q1, q2, _⟩ := (rightB_iff t).1 hr
            rcases hbad with h | h
            · exact absurd q1 h
            · rw [q2] at h; cases h
        rw [this]
        exact Right_first b o c _ w (by omega) (by omega) _ _ c1 c2 hbad
      · simp only [not_or, Bool.not_eq_true, ne_eq, Decidable.not_not] at hbad
        exact Right_loop b o c t w (by omega) (by omega) hb hc hbad.1 hbad.2

def atGo (t : List Ep) (i : Int) : Nat → Pos
  | 0 => zeroPos
  | k + 1 => if (ep t k).c < i then ⟨(k : Int) + 1, i⟩ else atGo t i k
def atB (t : List Ep) (i : Int) : Pos := if rightB t = true ∧ 1 ≤ i ∧ i ≤ 512 then atGo t i t.length else zeroPos

set_option maxRecDepth 100000 in
set_option maxHeartbeats 2000000 in
theorem At_not (v : Value) (t : List Ep) (i : Int) (w : World) (ht : SlAt w v t.length (epsCells t)) (hno : ¬ (rightB t = true ∧ 1 ≤ i ∧ i ≤ 512)) :
    Calls Try.prog 76 #[v, .int .i64 i] w fun e w' => e = .returned (.agg (posCells zeroPos)) ∧ Below w.heap.size w w' := by
  have hc : rightB t = false ∨ (rightB t = true ∧ i < 1) ∨ (rightB t = true ∧ 1 ≤ i ∧ 512 < i) := by
    cases hr : rightB t with
    | false => exact .inl rfl
    | true =>
      by_cases a : 1 ≤ i
      · by_cases b : i ≤ 512
        · exact absurd ⟨hr, a, b⟩ hno
        · exact .inr (.inr ⟨rfl, a, by omega⟩)
      · exact .inr (.inl ⟨rfl, by omega⟩)
  clear hno
  have HT := Lib.hid ht
  clear ht
  go_enter Try.func76, Try.ntmps76
  go_wp2_with fail
  refine (Right_any v t _ (HT.out.below (by (repeat' (first | with_reducible exact Below.refl _ _ | with_reducible refine below_drewN ?_ _ | with_reducible refine Below.drew ?_ | with_reducible refine Below.setCell ?_ (by first | exact Nat.le_refl _ | (simp; done) | (simp; omega) | omega) _ | with_reducible refine Below.alloc ?_ (by first | exact Nat.le_refl _ | (simp; done) | (simp; omega) | omega) _ | exact Below.refl _ _))))).mono ?_
  rintro e w1 ⟨rfl, hb⟩
  have hz := (Blk.new w (posCells zeroPos) 33).below hb
  have hz1 := hz.lt
  have z0 : w1.cell? ⟨w.heap.size, 0, none⟩ = some (.int .i64 0) := by rw [hz.cell]; rfl
  have z1 : w1.cell? ⟨w.heap.size, 1, none⟩ = some (.int .i64 0) := by rw [hz.cell]; rfl
  have y0 := hz.free 0
  have y1 := hz.free 1
  have HB := Lib.hid (((Below.refl _ w).alloc (Nat.le_refl _) (.cells (posCells zeroPos) 33)).trans (hb.mono (by simp)))
  have HZ := Lib.hid hz
  clear hb hz
  rcases hc with q | ⟨q0, q⟩ | ⟨q0, q1, q⟩
  · go_wp2_with fail
    refine ret_cell rfl rfl (loads_blk (T := 33) (cs := posCells zeroPos) pos_agg pos_size ?_ rfl) rfl ⟨rfl, ?_⟩
    · ((repeat' (first | with_reducible exact HZ.out | with_reducible exact Blk.new _ _ _ | with_reducible apply Blk.drewN | with_reducible apply Blk.drew | with_reducible apply Blk.set' | (with_reducible apply Blk.set_other (hp := by first | assumption | (simp; done) | (simp; omega) | omega)) | (with_reducible apply Blk.new'; focus (first | (simp; done) | (simp; omega))) | with_reducible apply Blk.alloc | exact HZ.out)) <;> rfl)
    · (repeat' (first | with_reducible exact HB.out | with_reducible exact Below.refl _ _ | with_reducible refine below_drewN ?_ _ | with_reducible refine Below.drew ?_ | with_reducible refine Below.setCell ?_ (by first | exact Nat.le_refl _ | (simp; done) | (simp; omega) | omega) _ | with_reducible refine Below.alloc ?_ (by first | exact Nat.le_refl _ | (simp; done) | (simp; omega) | omega) _ | exact Below.refl _ _ | exact HB.out))
  · have d1 : decide (i < 1) = true := by simpa using q
    go_wp2_with fail
    refine ret_cell rfl rfl (loads_blk (T := 33) (cs := posCells zeroPos) pos_agg pos_size ?_ rfl) rfl ⟨rfl, ?_⟩
    · ((repeat' (first | with_reducible exact HZ.out | with_reducible exact Blk.new _ _ _ | with_reducible apply Blk.drewN | with_reducible apply Blk.drew | with_reducible apply Blk.set' | (with_reducible apply Blk.set_other (hp := by first | assumption | (simp; done) | (simp; omega) | omega)) | (with_reducible apply Blk.new'; focus (first | (simp; done) | (simp; omega))) | with_reducible apply Blk.alloc | exact HZ.out)) <;> rfl)
    · (repeat' (first | with_reducible exact HB.out | with_reducible exact Below.refl _ _ | with_reducible refine below_drewN ?_ _ | with_reducible refine Below.drew ?_ | with_reducible refine Below.setCell ?_ (by first | exact Nat.le_refl _ | (simp; done) | (simp; omega) | omega) _ | with_reducible refine Below.alloc ?_ (by first | exact Nat.le_refl _ | (simp; done) | (simp; omega) | omega) _ | exact Below.refl _ _ | exact HB.out))
  · have d1 : decide (i < 1) = false := by simpa using q1
    have d2 : decide (512 < i) = true := by simpa using q
    go_wp2_with fail
    refine ret_cell rfl rfl (loads_blk (T := 33) (cs := posCells zeroPos) pos_agg pos_size ?_ rfl) rfl ⟨rfl, ?_⟩
    · ((repeat' (first | with_reducible exact HZ.out | with_reducible exact Blk.new _ _ _ | with_reducible apply Blk.drewN | with_reducible apply Blk.drew | with_reducible apply Blk.set' | (with_reducible apply Blk.set_other (hp := by first | assumption | (simp; done) | (simp; omega) | omega)) | (with_reducible apply Blk.new'; focus (first | (simp; done) | (simp; omega))) | with_reducible apply Blk.alloc | exact HZ.out)) <;> rfl)
    · (repeat' (first | with_reducible exact HB.out | with_reducible exact Below.refl _ _ | with_reducible refine below_drewN ?_ _ | with_reducible refine Below.drew ?_ | with_reducible refine Below.setCell ?_ (by first | exact Nat.le_refl _ | (simp; done) | (simp; omega) | omega) _ | with_reducible refine Below.alloc ?_ (by first | exact Nat.le_refl _ | (simp; done) | (simp; omega) | omega) _ | exact Below.refl _ _ | exact HB.out))

set_option maxRecDepth 100000 in
set_option maxHeartbeats 2000000 in
theorem At_yes (v : Value) (t : List Ep) (i : Int) (w : World) (ht : SlAt w v t.length (epsCells t)) (hr : rightB t = true) (q1 : 1 ≤ i) (q2 : i ≤ 512) :
    Calls Try.prog 76 #[v, .int .i64 i] w fun e w' => e = .returned (.agg (posCells (atGo t i t.length))) ∧ Below w.heap.size w w' := by
  have HT := Lib.hid ht
  obtain ⟨hn, h64, _, _, _⟩ := (rightB_iff t).1 hr
  obtain ⟨b, o, c, rfl, _, _, hb, hc⟩ := eps_at ht (by omega)
  have HC := Lib.hid hc
  clear ht hc
  have d1 : decide (i < 1) = false := by simpa using q1
  have d2 : decide (512 < i) = false := by simpa using q2
  go_enter Try.func76, Try.ntmps76
  go_wp2_with fail
  refine (Right_any _ t _ (HT.out.below (by (repeat' (first | with_reducible exact Below.refl _ _ | with_reducible refine below_drewN ?_ _ | with_reducible refine Below.drew ?_ | with_reducible refine Below.setCell ?_ (by first | exact Nat.le_refl _ | (simp; done) | (simp; omega) | omega) _ | with_reducible refine Below.alloc ?_ (by first | exact Nat.le_refl _ | (simp; done) | (simp; omega) | omega) _ | exact Below.refl _ _))))).mono ?_
  rintro e w1 ⟨rfl, hb1⟩
  have hz := (Blk.new w (posCells zeroPos) 33).below hb1
  have HB := Lib.hid (((Below.refl _ w).alloc (Nat.le_refl _) (.cells (posCells zeroPos) 33)).trans (hb1.mono (by simp)))
  have HZ := Lib.hid hz
  clear hb1 hz
  rw [hr]
  clear hr
  go_wp2_with fail
  go_loopg [5] t.length (fun g v wr => ∃ k : Nat, k ≤ t.length ∧ v = .int .i64 ((k : Int) - 1) ∧ g = k ∧ atGo t i k = atGo t i t.length ∧ Blk wr w.heap.size (posCells zeroPos) 33 ∧ Below w.heap.size w wr)
  case atStart => exact ⟨t.length, Nat.le_refl _, rfl, rfl, rfl, HZ.out, HB.out⟩
  case round =>
    obtain ⟨k, hk, rfl, rfl, hat, hz, hbel⟩ := hrel
    have hsz := hbel.size
    have hz1 := hz.lt
    have z0 : wr.cell? ⟨w.heap.size, 0, none⟩ = some (.int .i64 0) := by rw [hz.cell]; rfl
    have z1 : wr.cell? ⟨w.heap.size, 1, none⟩ = some (.int .i64 0) := by rw [hz.cell]; rfl
    have y0 := hz.free 0
    have y1 := hz.free 1
    have HB := Lib.hid hbel
    have HZ := Lib.hid hz
    have HA := Lib.hid hat
    clear hbel hz hat
    cases gk with
    | zero =>
      have d3 : decide ((0 : Int) ≤ ((0 : Nat) : Int) - 1) = false := by simp
      go_wp2_with fail
      refine ret_cell rfl rfl (loads_blk (T := 33) (cs := posCells zeroPos) pos_agg pos_size ?_ rfl) rfl ⟨?_, ?_⟩
      · ((repeat' (first | with_reducible exact HZ.out | with_reducible exact Blk.new _ _ _ | with_reducible apply Blk.drewN | with_reducible apply Blk.drew | with_reducible apply Blk.set' | (with_reducible apply Blk.set_other (hp := by first | assumption | (simp; done) | (simp; omega) | omega)) | (with_reducible apply Blk.new'; focus (first | (simp; done) | (simp; omega))) | with_reducible apply Blk.alloc | exact HZ.out)) <;> rfl)
      · rw [← HA.out]; rfl
      · (repeat' (first | with_reducible exact HB.out | with_reducible exact Below.refl _ _ | with_reducible refine below_drewN ?_ _ | with_reducible refine Below.drew ?_ | with_reducible refine Below.setCell ?_ (by first | exact Nat.le_refl _ | (simp; done) | (simp; omega) | omega) _ | with_reducible refine Below.alloc ?_ (by first | exact Nat.le_refl _ | (simp; done) | (simp; omega) | omega) _ | exact Below.refl _ _ | exact HB.out))
    | succ k =>
      obtain ⟨a0, a1, a2⟩ := HC.out k (by omega)
      rw [← HB.out.cell (p := ⟨b, o + k * 3 + 1, none⟩) hb] at a1
      obtain ⟨e, he⟩ : ∃ e, (ep t k).c = e := ⟨_, rfl⟩
      rw [he] at a1
      have HE := Lib.hid he
      clear he a0 a2
      rw [show (((k + 1 : Nat) : Int) - 1) = (k : Int) from by omega]
      by_cases hlt : e < i
      · go_wp2_with fail
        refine ret_cell rfl rfl (loads_blk (T := 33) (cs := posCells ⟨(k : Int) + 1, i⟩) pos_agg pos_size ?_ rfl) rfl ⟨?_, ?_⟩
        · ((repeat' (first | with_reducible exact HZ.out | with_reducible exact Blk.new _ _ _ | with_reducible apply Blk.drewN | with_reducible apply Blk.drew | with_reducible apply Blk.set' | (with_reducible apply Blk.set_other (hp := by first | assumption | (simp; done) | (simp; omega) | omega)) | (with_reducible apply Blk.new'; focus (first | (simp; done) | (simp; omega))) | with_reducible apply Blk.alloc | exact HZ.out)) <;> rfl)
        · rw [← HA.out, show atGo t i (k + 1) = ⟨(k : Int) + 1, i⟩ by simp only [atGo]; rw [if_pos (by rw [HE.out]; exact hlt)]]
        · (repeat' (first | with_reducible exact HB.out | with_reducible exact Below.refl _ _ | with_reducible refine below_drewN ?_ _ | with_reducible refine Below.drew ?_ | with_reducible refine Below.setCell ?_ (by first | exact Nat.le_refl _ | (simp; done) | (simp; omega) | omega) _ | with_reducible refine Below.alloc ?_ (by first | exact Nat.le_refl _ | (simp; done) | (simp; omega) | omega) _ | exact Below.refl _ _ | exact HB.out))
      · go_wp2_with fail
        go_roundg k
        case measure => omega
        case rel =>
          refine ⟨k, by omega, rfl, rfl, ?_, HZ.out, HB.out⟩
          rw [← HA.out]; simp only [atGo]; rw [if_neg (by rw [HE.out]; omega)]

theorem At_any (v : Value) (t : List Ep) (i : Int) (w : World) (ht : SlAt w v t.length (epsCells t)) :
    Calls Try.prog 76 #[v, .int .i64 i] w fun e w' => e = .returned (.agg (posCells (atB t i))) ∧ Below w.heap.size w w' := by
  unfold atB
  by_cases h : rightB t = true ∧ 1 ≤ i ∧ i ≤ 512
  · rw [if_pos h]; exact At_yes v t i w ht h.1 h.2.1 h.2.2
  · rw [if_neg h]; exact At_not v t i w ht h

end Go.Proofs.Ytedcdjlpogpgbaa
