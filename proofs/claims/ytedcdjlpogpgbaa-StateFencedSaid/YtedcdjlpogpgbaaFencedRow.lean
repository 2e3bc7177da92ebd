/- Whatever keys and whatever cut, StateFenced returns true, and the keys read behind the call as they read before; no condition. -/
import Derived.Test.YtedcdjlpogpgbaaFenced
import Derived.Test.YtedcdjlpogpgbaaOpen
set_option linter.unusedVariables false
set_option linter.unusedSimpArgs false
namespace Go.Proofs.Ytedcdjlpogpgbaa
open Go.ChangeShapes Go.WideShapes Go.ChangeAt Go.RowKit

set_option maxRecDepth 100000 in
theorem fenced_lifted (os : Os) (started : os.Started) (H : Type) (enc : TypeId × Value → H) :
    ReturnsInHanded {} Try.checked os 3 .any (Rows.stateFencedSpec.pre6 enc Try.prog Try.f3 Rows.stateFencedRow.domain false) (Rows.stateFencedSpec.post enc Try.prog Try.f3 false true false false) := by
  refine returnsInHanded_of_change (C := Try.checked) row_own started (by kernel_rfl) Try.func3
    (ChangeSpec.witness6 (enc := enc) (C := Try.checked) false ⟨#[], #[.slice none 0 0, .int .i64 0], []⟩ 8 (by kernel_rfl) (by kernel_rfl) (by kernel_rfl) (by kernel_rfl)) ?_
  intro W base args ds gs before hval0 hW hcnd _
  have hval : ∀ (j : Nat) t v, Try.f3.params[j]? = some t → args[j]? = some v → Value.okWide Try.prog W .any base t v := hval0
  have hW' := hW
  obtain ⟨p, q, hA0, hV, rfl, hfz, hnd⟩ := hW
  have hA : DataW.TrodAll enc Try.prog W 0 (fun _ => true) true Try.f3.params.toList args.toList ds p := hA0
  rw [Try.params3] at hA hval
  obtain ⟨v0, v1, d0, d1, p0, p1, rfl, rfl, rfl, h0, h1⟩ := trodAll_two hA
  obtain ⟨rfl, rfl⟩ := trodVars_none hV
  obtain ⟨a0, len, cap, rfl⟩ := okWide_slice Try.underlying22 (hval 0 22 v0 rfl rfl)
  obtain ⟨cut, rfl, rfl, rfl, wa⟩ := open_int Try.underlying3 (hval 1 3 v1 rfl rfl) h1
  clear hA0 hval0
  simp only [List.append_nil] at hW'
  have hlt : ∀ x ∈ p0, x.block < W.heap.size := fun x hx => hW'.lt x (by simp [hx])
  have h0k := h0
  obtain ⟨fuel, hf⟩ := h0
  have fin : ∀ (W' : World), Below W.heap.size W W' → Rows.stateFencedSpec.post enc Try.checked.prog Try.f3 false true false false W #[.slice a0 len cap, .int .i64 cut] (.bool true) W' := by
    intro W' hnx
    refine ⟨_, _, _, [], p0 ++ [], [], hW', ?_, ?_, rfl, hnx.frame _, fun h => by cases h⟩
    · exact trodAll_mk1 (shut_bool Try.underlying4 true)
    · exact trodAll_mk2 (Below.trod row_laid (by kernel_rfl) (of_decide_eq_true (by kernel_rfl)) h0k hnx hlt) (shut_int Try.underlying3 wa)
  have go : ∀ f : Nat → ByteArray, Strs a0 len f W.heap.size W → Calls Try.checked.prog 3 #[.slice a0 len cap, .int .i64 cut] W fun e W' => ∃ v, e = Ending.returned v ∧ Rows.stateFencedSpec.post enc Try.checked.prog Try.f3 false true false false W #[.slice a0 len cap, .int .i64 cut] v W' :=
    fun f hf => (Fenced_any a0 len cap f cut W hf).mono fun e W' ⟨he, hb⟩ => ⟨_, he, fin W' hb⟩
  rcases open_strings Try.underlying22 Try.underlying9 row_cells9 hf with ⟨hcs, hx⟩ | ⟨a, len', cap', ss, hcs, _, hl, hm, hz, hx, hcell, hws⟩
  · simp [Value.cells] at hcs
    obtain ⟨rfl, rfl, rfl⟩ := hcs
    exact go (fun _ => ⟨#[]⟩) (fun j hj => absurd hj (by omega))
  · simp [Value.cells] at hcs
    obtain ⟨rfl, rfl, rfl⟩ := hcs
    simp only [Prod.mk.injEq] at hx
    obtain ⟨rfl, rfl⟩ := hx
    simp only [if_true] at hz
    refine go (fun j => ss.getD j ByteArray.empty) (fun j hj => ?_)
    obtain ⟨b, off, spot⟩ := a
    have hspot : spot = none := by simpa [Addr.add] using World.cell?_spot (hcell 0 (by omega))
    subst hspot
    exact ⟨b, off, rfl, hlt (.cell b off) (MemPlace.mem_row.2 ⟨0, by omega, by simp⟩), by rw [← add_plain]; exact hcell j (by omega)⟩

theorem fenced_holds : Rows.StateFencedSaid :=
  OpenClaim.holds_of_wide 3 Try.f3 rfl rfl rfl rfl rfl rfl rfl ⟨rfl, rfl, rfl, rfl, rfl⟩ rfl rfl rfl rfl rfl (by kernel_rfl) Try.func3 (by kernel_rfl)
    (of_decide_eq_true (by kernel_rfl)) (by unfold Func.isWrapper; rw [if_neg (of_decide_eq_false (by kernel_rfl))]; exact ⟨rfl, rfl⟩)
    (fun os started H enc _ => fenced_lifted os started H enc)

#print axioms fenced_holds

end Go.Proofs.Ytedcdjlpogpgbaa
