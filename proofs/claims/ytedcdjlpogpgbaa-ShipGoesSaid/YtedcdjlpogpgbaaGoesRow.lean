/- Whatever keys, whatever first index and whatever most, ShipGoes returns true, and the keys read behind the call as they read before; no condition. -/
import Derived.Test.YtedcdjlpogpgbaaShipGoes
import Derived.Test.YtedcdjlpogpgbaaOpen
set_option linter.unusedVariables false
set_option linter.unusedSimpArgs false
namespace Go.Proofs.Ytedcdjlpogpgbaa
open Go.ChangeShapes Go.WideShapes Go.ChangeAt Go.RowKit

set_option maxRecDepth 100000 in
theorem log_row_lifted (os : Os) (started : os.Started) (H : Type) (enc : TypeId × Value → H) :
    ReturnsInHanded {} Try.checked os 9 .any (Rows.shipGoesSpec.pre6 enc Try.prog Try.f9 Rows.shipGoesRow.domain false) (Rows.shipGoesSpec.post enc Try.prog Try.f9 false true false false) := by
  refine returnsInHanded_of_change (C := Try.checked) row_own started (by kernel_rfl) Try.func9
    (ChangeSpec.witness6 (enc := enc) (C := Try.checked) false ⟨#[], #[.slice none 0 0, .int .i64 0, .int .i64 0], []⟩ 8 (by kernel_rfl) (by kernel_rfl) (by kernel_rfl) (by kernel_rfl)) ?_
  intro W base args ds gs before hval0 hW hcnd _
  have hval : ∀ (j : Nat) t v, Try.f9.params[j]? = some t → args[j]? = some v → Value.okWide Try.prog W .any base t v := hval0
  have hW' := hW
  obtain ⟨p, q, hA0, hV, rfl, hfz, hnd⟩ := hW
  have hA : DataW.TrodAll enc Try.prog W 0 (fun _ => true) true Try.f9.params.toList args.toList ds p := hA0
  rw [Try.params9] at hA hval
  obtain ⟨v0, v1, v2, d0, d1, d2, p0, p1, p2, rfl, rfl, rfl, h0, h1, h2⟩ := trodAll_three hA
  obtain ⟨rfl, rfl⟩ := trodVars_none hV
  obtain ⟨a0, len, cap, rfl⟩ := okWide_slice Try.underlying22 (hval 0 22 v0 rfl rfl)
  obtain ⟨from_, rfl, rfl, rfl, wa⟩ := open_int Try.underlying3 (hval 1 3 v1 rfl rfl) h1
  obtain ⟨most, rfl, rfl, rfl, wb⟩ := open_int Try.underlying3 (hval 2 3 v2 rfl rfl) h2
  clear hA0 hval0
  simp only [List.append_nil] at hW'
  have hlt : ∀ x ∈ p0, x.block < W.heap.size := fun x hx => hW'.lt x (by simp [hx])
  have h0k := h0
  obtain ⟨fuel, hf⟩ := h0
  have fin : ∀ (W' : World), Below W.heap.size W W' → Rows.shipGoesSpec.post enc Try.checked.prog Try.f9 false true false false W #[.slice a0 len cap, .int .i64 from_, .int .i64 most] (.bool true) W' := by
    intro W' hnx
    refine ⟨_, _, _, [], p0 ++ ([] ++ []), [], hW', ?_, ?_, rfl, hnx.frame _, fun h => by cases h⟩
    · exact trodAll_mk1 (shut_bool Try.underlying4 true)
    · exact trodAll_mk3 (Below.trod row_laid (by kernel_rfl) (of_decide_eq_true (by kernel_rfl)) h0k hnx hlt) (shut_int Try.underlying3 wa) (shut_int Try.underlying3 wb)
  have go : ∀ f : Nat → ByteArray, Strs a0 len f W.heap.size W → Calls Try.checked.prog 9 #[.slice a0 len cap, .int .i64 from_, .int .i64 most] W fun e W' => ∃ v, e = Ending.returned v ∧ Rows.shipGoesSpec.post enc Try.checked.prog Try.f9 false true false false W #[.slice a0 len cap, .int .i64 from_, .int .i64 most] v W' :=
    fun f hf => (Goes_any a0 len cap f from_ most W hf).mono fun e W' ⟨he, hb⟩ => ⟨_, he, fin W' hb⟩
  rcases open_strings Try.underlying22 Try.underlying9 row_cells9 hf with ⟨hcs, hx⟩ | ⟨a, len', cap', ss, hcs, _, hl, hm, hz, hx, hcell, hws⟩
  · simp [Value.cells] at hcs
    obtain ⟨rfl, rfl, rfl⟩ := hcs
    exact go (fun _ => ⟨#[]⟩) (fun j hj => absurd hj (by omega))
  · simp [Value.cells] at hcs
    obtain ⟨rfl, rfl, rfl⟩ := hcs
    simp only [Prod.mk.injEq] at hx
    obtain ⟨rfl, rfl⟩ := hx
    simp only [if_true] at hz
    refine go (fun j => ss.getD j ByteArray.empty) (fun j hj => ?_)
    obtain ⟨b, off, spot⟩ := a
    have hspot : spot = none := by simpa [Addr.add] using World.cell?_spot (hcell 0 (by omega))
    subst hspot
    exact ⟨b, off, rfl, hlt (.cell b off) (MemPlace.mem_row.2 ⟨0, by omega, by simp⟩), by rw [← add_plain]; exact hcell j (by omega)⟩

theorem goes_row_holds : Rows.ShipGoesSaid :=
  OpenClaim.holds_of_wide 9 Try.f9 rfl rfl rfl rfl rfl rfl rfl ⟨rfl, rfl, rfl, rfl, rfl⟩ rfl rfl rfl rfl rfl (by kernel_rfl) Try.func9 (by kernel_rfl)
    (of_decide_eq_true (by kernel_rfl)) (by unfold Func.isWrapper; rw [if_neg (of_decide_eq_false (by kernel_rfl))]; exact ⟨rfl, rfl⟩)
    (fun os started H enc _ => log_row_lifted os started H enc)

#print axioms goes_row_holds

end Go.Proofs.Ytedcdjlpogpgbaa
