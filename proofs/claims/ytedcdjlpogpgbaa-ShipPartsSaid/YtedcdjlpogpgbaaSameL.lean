/- The references' comparisons, at equal lists (printed by samegen.py). -/
import Derived.Test.YtedcdjlpogpgbaaWords
set_option linter.unusedVariables false
set_option linter.unusedSimpArgs false
namespace Go.Proofs.Ytedcdjlpogpgbaa
open Go.RowKit

/-- An element of a slice, cell by cell. -/
theorem sl_elem {α : Type} (enc : α → List Value) (q : Nat) (hq : ∀ x, (enc x).length = q) {w : World} {A : Option Addr} {n c : Nat} {l : List α} (h : SlAt w (.slice A n c) n (l.flatMap enc)) (hn : 0 < n) :
    ∃ b o, A = some ⟨b, o, none⟩ ∧ b < w.heap.size ∧ ∀ i x, l[i]? = some x → ∀ j u, (enc x)[j]? = some u → w.cell? ⟨b, o + i * q + j, none⟩ = some u := by
  obtain ⟨A', c', hv, h1, h2, h3⟩ := h
  injection hv with e1 e2 e3
  subst e1; subst e3
  obtain ⟨b, o, e, hb, hc⟩ := h3 hn
  subst e
  refine ⟨b, o, rfl, hb, fun i x hi j u hj => ?_⟩
  have hjq : j < q := by rw [← hq x]; exact (List.getElem?_eq_some_iff.1 hj).1
  have := hc (i * q + j) u (by rw [flat_get enc q hq l i j x hi hjq]; exact hj)
  rw [Nat.add_assoc]; exact this
def TrueRes (w : World) (e : Ending) (w' : World) : Prop := e = .returned (.bool true) ∧ ∃ n, w' = w.drewN n
theorem eqIn_pair (k : ByteArray) (a b : Int) (th : Bool) (t : ByteArray) (n : Nat) (w : World) : (Op.equalIn (n + 4) 67 (.agg #[.string k, .int .i64 a, .int .i64 b, .bool th, .string t]) (.agg #[.string k, .int .i64 a, .int .i64 b, .bool th, .string t])).run Try.prog w = .ok true w := by
  rw [run_equalIn_struct w (n + 3) 67 _ _ (by kernel_rfl) (by kernel_rfl)]
  have hv : (Op.equalIn (n + 3) 46 (.agg #[.int .i64 a, .int .i64 b, .bool th, .string t]) (.agg #[.int .i64 a, .int .i64 b, .bool th, .string t])).run Try.prog w = .ok true w := by
    rw [run_equalIn_struct w (n + 2) 46 _ _ (by kernel_rfl) (by kernel_rfl)]
    simp [go_sem, eqIn_pos, posEq]
  simp [go_sem, hv]
theorem neq_pair (k : ByteArray) (a b : Int) (th : Bool) (t : ByteArray) (w : World) : (binOp .neq 67 (.agg #[.string k, .int .i64 a, .int .i64 b, .bool th, .string t]) (.agg #[.string k, .int .i64 a, .int .i64 b, .bool th, .string t])).run Try.prog w = .ok (.bool false) w := by
  rw [run_neq_struct, show (10000 : Nat) = 9996 + 4 from rfl, eqIn_pair]; rfl
theorem eqIn_seen (s r a b : Int) (n : Nat) (w : World) : (Op.equalIn (n + 3) 69 (.agg #[.int .i64 s, .int .i64 r, .int .i64 a, .int .i64 b]) (.agg #[.int .i64 s, .int .i64 r, .int .i64 a, .int .i64 b])).run Try.prog w = .ok true w := by
  rw [run_equalIn_struct w (n + 2) 69 _ _ (by kernel_rfl) (by kernel_rfl)]
  simp [go_sem, eqIn_pos, posEq]
theorem neq_seen (s r a b : Int) (w : World) : (binOp .neq 69 (.agg #[.int .i64 s, .int .i64 r, .int .i64 a, .int .i64 b]) (.agg #[.int .i64 s, .int .i64 r, .int .i64 a, .int .i64 b])).run Try.prog w = .ok (.bool false) w := by
  rw [run_neq_struct, show (10000 : Nat) = 9997 + 3 from rfl, eqIn_seen]; rfl
theorem eqIn_ep (m c : Int) (f : Bool) (n : Nat) (w : World) : (Op.equalIn (n + 2) 29 (.agg #[.int .i64 m, .int .i64 c, .bool f]) (.agg #[.int .i64 m, .int .i64 c, .bool f])).run Try.prog w = .ok true w := by
  rw [run_equalIn_struct w (n + 1) 29 _ _ (by kernel_rfl) (by kernel_rfl)]
  simp [go_sem]
theorem neq_ep (m c : Int) (f : Bool) (w : World) : (binOp .neq 29 (.agg #[.int .i64 m, .int .i64 c, .bool f]) (.agg #[.int .i64 m, .int .i64 c, .bool f])).run Try.prog w = .ok (.bool false) w := by
  rw [run_neq_struct, show (10000 : Nat) = 9998 + 2 from rfl, eqIn_ep]; rfl

attribute [local go_sem high] neq_pair
set_option maxRecDepth 100000 in
set_option maxHeartbeats 4000000 in
theorem SamePairs_eq (v u : Value) (l : List (ByteArray × Val)) (w : World) (hv : SlAt w v l.length (pairsCells l)) (hu : SlAt w u l.length (pairsCells l)) :
    Calls Try.prog 36 #[v, u] w (TrueRes w) := by
  obtain ⟨A, ca, rfl, ha1, ha2, _⟩ := id hv
  obtain ⟨B, cb, rfl, hb1, hb2, _⟩ := id hu
  obtain ⟨n, hn⟩ : ∃ n, l.length = n := ⟨_, rfl⟩
  rw [hn] at hv hu ha1 hb1 ⊢
  have HV := Lib.hid hv
  have HU := Lib.hid hu
  have HN := Lib.hid hn
  have hmax : n ≤ 9223372036854775807 := by unfold maxLen at ha2; omega
  clear hv hu hn
  go_enter Try.func36, Try.ntmps36
  go_wp2_with fail
  go_loopg [5] n (fun g i wr => ∃ k : Nat, k ≤ n ∧ i = .int .i64 (k : Int) ∧ g = n - k ∧ ∃ nq, wr = w.drewN nq)
  case atStart => exact ⟨0, Nat.zero_le _, rfl, rfl, 0, rfl⟩
  case round =>
    obtain ⟨i, hi, rfl, rfl, nq, rfl⟩ := hrel
    by_cases hlt : i < n
    · have d1 : decide ((i : Int) < (n : Int)) = true := by rw [decide_eq_true_eq]; omega
      obtain ⟨ab, ao, rfl, hab, hac⟩ := sl_elem pairCells 5 (fun _ => rfl) HV.out (by omega)
      obtain ⟨bb, bo, rfl, hbb, hbc⟩ := sl_elem pairCells 5 (fun _ => rfl) HU.out (by omega)
      obtain ⟨x, hx⟩ : ∃ x, l[i]? = some x := ⟨_, List.getElem?_eq_getElem (by have := HN.out; omega)⟩
      obtain ⟨k, ⟨⟨pe, pi⟩, th, t⟩⟩ := x
      have a0 : World.cell? w ⟨ab, ao + i * 5, none⟩ = _ := hac i _ hx 0 _ rfl
      have a1 : World.cell? w ⟨ab, ao + i * 5 + 1, none⟩ = _ := hac i _ hx 1 _ rfl
      have a2 : World.cell? w ⟨ab, ao + i * 5 + 2, none⟩ = _ := hac i _ hx 2 _ rfl
      have a3 : World.cell? w ⟨ab, ao + i * 5 + 3, none⟩ = _ := hac i _ hx 3 _ rfl
      have a4 : World.cell? w ⟨ab, ao + i * 5 + 4, none⟩ = _ := hac i _ hx 4 _ rfl
      have b0 : World.cell? w ⟨bb, bo + i * 5, none⟩ = _ := hbc i _ hx 0 _ rfl
      have b1 : World.cell? w ⟨bb, bo + i * 5 + 1, none⟩ = _ := hbc i _ hx 1 _ rfl
      have b2 : World.cell? w ⟨bb, bo + i * 5 + 2, none⟩ = _ := hbc i _ hx 2 _ rfl
      have b3 : World.cell? w ⟨bb, bo + i * 5 + 3, none⟩ = _ := hbc i _ hx 3 _ rfl
      have b4 : World.cell? w ⟨bb, bo + i * 5 + 4, none⟩ = _ := hbc i _ hx 4 _ rfl
      have q0 : (0 : Int) ≤ (i : Int) := by omega
      have q1 : (i : Int) < (n : Int) := by omega
      clear hac hbc hx
      go_upto_region 6 with (fail)
      go_quiet (fail)
      go_wp2_with fail
      go_roundg (n - (i + 1))
      case measure => omega
      case rel => exact ⟨i + 1, by omega, by go_num, rfl, _, rfl⟩
    · have d1 : decide ((i : Int) < (n : Int)) = false := by rw [decide_eq_false_iff_not]; omega
      go_wp2_with fail
      go_ret
      exact ⟨rfl, _, rfl⟩

attribute [local go_sem high] neq_seen
set_option maxRecDepth 100000 in
set_option maxHeartbeats 4000000 in
theorem SameSeen_eq (v u : Value) (l : List (Sn)) (w : World) (hv : SlAt w v l.length (snsCells l)) (hu : SlAt w u l.length (snsCells l)) :
    Calls Try.prog 37 #[v, u] w (TrueRes w) := by
  obtain ⟨A, ca, rfl, ha1, ha2, _⟩ := id hv
  obtain ⟨B, cb, rfl, hb1, hb2, _⟩ := id hu
  obtain ⟨n, hn⟩ : ∃ n, l.length = n := ⟨_, rfl⟩
  rw [hn] at hv hu ha1 hb1 ⊢
  have HV := Lib.hid hv
  have HU := Lib.hid hu
  have HN := Lib.hid hn
  have hmax : n ≤ 9223372036854775807 := by unfold maxLen at ha2; omega
  clear hv hu hn
  go_enter Try.func37, Try.ntmps37
  go_wp2_with fail
  go_loopg [5] n (fun g i wr => ∃ k : Nat, k ≤ n ∧ i = .int .i64 (k : Int) ∧ g = n - k ∧ ∃ nq, wr = w.drewN nq)
  case atStart => exact ⟨0, Nat.zero_le _, rfl, rfl, 0, rfl⟩
  case round =>
    obtain ⟨i, hi, rfl, rfl, nq, rfl⟩ := hrel
    by_cases hlt : i < n
    · have d1 : decide ((i : Int) < (n : Int)) = true := by rw [decide_eq_true_eq]; omega
      obtain ⟨ab, ao, rfl, hab, hac⟩ := sl_elem snCells 4 (fun _ => rfl) HV.out (by omega)
      obtain ⟨bb, bo, rfl, hbb, hbc⟩ := sl_elem snCells 4 (fun _ => rfl) HU.out (by omega)
      obtain ⟨x, hx⟩ : ∃ x, l[i]? = some x := ⟨_, List.getElem?_eq_getElem (by have := HN.out; omega)⟩
      obtain ⟨s, r, ⟨pe, pi⟩⟩ := x
      have a0 : World.cell? w ⟨ab, ao + i * 4, none⟩ = _ := hac i _ hx 0 _ rfl
      have a1 : World.cell? w ⟨ab, ao + i * 4 + 1, none⟩ = _ := hac i _ hx 1 _ rfl
      have a2 : World.cell? w ⟨ab, ao + i * 4 + 2, none⟩ = _ := hac i _ hx 2 _ rfl
      have a3 : World.cell? w ⟨ab, ao + i * 4 + 3, none⟩ = _ := hac i _ hx 3 _ rfl
      have b0 : World.cell? w ⟨bb, bo + i * 4, none⟩ = _ := hbc i _ hx 0 _ rfl
      have b1 : World.cell? w ⟨bb, bo + i * 4 + 1, none⟩ = _ := hbc i _ hx 1 _ rfl
      have b2 : World.cell? w ⟨bb, bo + i * 4 + 2, none⟩ = _ := hbc i _ hx 2 _ rfl
      have b3 : World.cell? w ⟨bb, bo + i * 4 + 3, none⟩ = _ := hbc i _ hx 3 _ rfl
      have q0 : (0 : Int) ≤ (i : Int) := by omega
      have q1 : (i : Int) < (n : Int) := by omega
      clear hac hbc hx
      go_upto_region 6 with (fail)
      go_quiet (fail)
      go_wp2_with fail
      go_roundg (n - (i + 1))
      case measure => omega
      case rel => exact ⟨i + 1, by omega, by go_num, rfl, _, rfl⟩
    · have d1 : decide ((i : Int) < (n : Int)) = false := by rw [decide_eq_false_iff_not]; omega
      go_wp2_with fail
      go_ret
      exact ⟨rfl, _, rfl⟩

attribute [local go_sem high] neq_ep
set_option maxRecDepth 100000 in
set_option maxHeartbeats 4000000 in
theorem SameTable_eq (v u : Value) (l : List (Ep)) (w : World) (hv : SlAt w v l.length (epsCells l)) (hu : SlAt w u l.length (epsCells l)) :
    Calls Try.prog 25 #[v, u] w (TrueRes w) := by
  obtain ⟨A, ca, rfl, ha1, ha2, _⟩ := id hv
  obtain ⟨B, cb, rfl, hb1, hb2, _⟩ := id hu
  obtain ⟨n, hn⟩ : ∃ n, l.length = n := ⟨_, rfl⟩
  rw [hn] at hv hu ha1 hb1 ⊢
  have HV := Lib.hid hv
  have HU := Lib.hid hu
  have HN := Lib.hid hn
  have hmax : n ≤ 9223372036854775807 := by unfold maxLen at ha2; omega
  clear hv hu hn
  go_enter Try.func25, Try.ntmps25
  go_wp2_with fail
  go_loopg [5] n (fun g i wr => ∃ k : Nat, k ≤ n ∧ i = .int .i64 (k : Int) ∧ g = n - k ∧ ∃ nq, wr = w.drewN nq)
  case atStart => exact ⟨0, Nat.zero_le _, rfl, rfl, 0, rfl⟩
  case round =>
    obtain ⟨i, hi, rfl, rfl, nq, rfl⟩ := hrel
    by_cases hlt : i < n
    · have d1 : decide ((i : Int) < (n : Int)) = true := by rw [decide_eq_true_eq]; omega
      obtain ⟨ab, ao, rfl, hab, hac⟩ := sl_elem epCells 3 (fun _ => rfl) HV.out (by omega)
      obtain ⟨bb, bo, rfl, hbb, hbc⟩ := sl_elem epCells 3 (fun _ => rfl) HU.out (by omega)
      obtain ⟨x, hx⟩ : ∃ x, l[i]? = some x := ⟨_, List.getElem?_eq_getElem (by have := HN.out; omega)⟩
      obtain ⟨m, c, f⟩ := x
      have a0 : World.cell? w ⟨ab, ao + i * 3, none⟩ = _ := hac i _ hx 0 _ rfl
      have a1 : World.cell? w ⟨ab, ao + i * 3 + 1, none⟩ = _ := hac i _ hx 1 _ rfl
      have a2 : World.cell? w ⟨ab, ao + i * 3 + 2, none⟩ = _ := hac i _ hx 2 _ rfl
      have b0 : World.cell? w ⟨bb, bo + i * 3, none⟩ = _ := hbc i _ hx 0 _ rfl
      have b1 : World.cell? w ⟨bb, bo + i * 3 + 1, none⟩ = _ := hbc i _ hx 1 _ rfl
      have b2 : World.cell? w ⟨bb, bo + i * 3 + 2, none⟩ = _ := hbc i _ hx 2 _ rfl
      have q0 : (0 : Int) ≤ (i : Int) := by omega
      have q1 : (i : Int) < (n : Int) := by omega
      clear hac hbc hx
      go_upto_region 6 with (fail)
      go_quiet (fail)
      go_wp2_with fail
      go_roundg (n - (i + 1))
      case measure => omega
      case rel => exact ⟨i + 1, by omega, by go_num, rfl, _, rfl⟩
    · have d1 : decide ((i : Int) < (n : Int)) = false := by rw [decide_eq_false_iff_not]; omega
      go_wp2_with fail
      go_ret
      exact ⟨rfl, _, rfl⟩

end Go.Proofs.Ytedcdjlpogpgbaa
