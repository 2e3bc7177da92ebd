/- Small words: a world by a name of its own; an empty slice. -/
import Derived.Test.YtedcdjlpogpgbaaEntries
set_option linter.unusedVariables false
set_option linter.unusedSimpArgs false
namespace Go.Proofs.Ytedcdjlpogpgbaa
open Go.RowKit

theorem wp_name {P : Program} {c : Code} {Q : Exit → Act → World → Prop} {a : Act} {W : World} (h : ∀ w1, w1 = W → c.wp P Q a w1) : c.wp P Q a W := h W rfl
theorem pr_info : (Try.prog.info? 67).map (fun i => (i.zero, i.size, i.bytes)) = some (some (.agg #[.string ⟨#[]⟩, .int .i64 0, .int .i64 0, .bool false, .string ⟨#[]⟩]), 5, 56) := by kernel_rfl
theorem se_info : (Try.prog.info? 69).map (fun i => (i.zero, i.size, i.bytes)) = some (some (.agg #[.int .i64 0, .int .i64 0, .int .i64 0, .int .i64 0]), 4, 32) := by kernel_rfl
theorem addr_add (b o j : Nat) : (⟨b, o, none⟩ : Addr).add j = ⟨b, o + j, none⟩ := by unfold Addr.add; split <;> simp_all
theorem sl_nil (w : World) : SlAt w (.slice none 0 0) 0 [] := ⟨none, 0, rfl, Nat.le_refl _, by unfold maxLen; omega, fun h => absurd h (by omega)⟩
theorem sl_no {w : World} {A : Option Addr} {c : Nat} (h : c ≤ maxLen) : SlAt w (.slice A 0 c) 0 [] := ⟨A, c, rfl, Nat.zero_le _, h, fun h => absurd h (by omega)⟩
/-- A part of a slice. -/
theorem sl_part {α : Type} (enc : α → List Value) (q : Nat) (hq : ∀ x, (enc x).length = q) {w : World} {b o n c k m c' : Nat} {l : List α} (h : SlAt w (.slice (some ⟨b, o, none⟩) n c) n (l.flatMap enc)) (hmn : k + m ≤ n) (hc : m ≤ c') (hc' : c' ≤ maxLen) :
    SlAt w (.slice (some ⟨b, o + k * q, none⟩) m c') m (((l.drop k).take m).flatMap enc) := by
  obtain ⟨A, c2, hv, h1, h2, h3⟩ := h
  injection hv with e1 e2 e3
  subst e1; subst e3
  refine ⟨_, c', rfl, hc, hc', fun hm => ?_⟩
  obtain ⟨b', o', e, hb, hcell⟩ := h3 (by omega)
  injection e with e
  injection e with e4 e5
  subst e4; subst e5
  refine ⟨b, o + k * q, rfl, hb, fun j u hu => ?_⟩
  rw [flat_take enc q hq, flat_drop enc q hq, List.getElem?_take] at hu
  split at hu
  · rw [List.getElem?_drop] at hu
    have := hcell _ u hu
    rw [Nat.add_assoc]; exact this
  · cases hu

end Go.Proofs.Ytedcdjlpogpgbaa
