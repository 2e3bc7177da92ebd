/- Whatever region, whatever epoch number and whatever snapshot, ShipParts returns true, and the snapshot reads behind the call as it read before; no condition. -/
import Derived.Test.YtedcdjlpogpgbaaShipParts
import Derived.Test.YtedcdjlpogpgbaaArgs
set_option linter.unusedVariables false
set_option linter.unusedSimpArgs false
namespace Go.Proofs.Ytedcdjlpogpgbaa
open Go.ChangeShapes Go.WideShapes Go.ChangeAt Go.RowKit

set_option maxRecDepth 100000 in
theorem parts_lifted (os : Os) (started : os.Started) (H : Type) (enc : TypeId × Value → H) :
    ReturnsInHanded {} Try.checked os 8 .any (Rows.shipPartsSpec.pre6 enc Try.prog Try.f8 Rows.shipPartsRow.domain false) (Rows.shipPartsSpec.post enc Try.prog Try.f8 false true false false) := by
  refine returnsInHanded_of_change (C := Try.checked) row_own started (by kernel_rfl) Try.func8
    (ChangeSpec.witness6 (enc := enc) (C := Try.checked) false ⟨#[], #[.int .i64 0, .int .i64 0, .agg #[.int .i64 0, .int .i64 0, .slice none 0 0, .slice none 0 0]], []⟩ 8 (by kernel_rfl) (by kernel_rfl) (by kernel_rfl) (by kernel_rfl)) ?_
  intro W base args ds gs before hval0 hW hcnd _
  have hval : ∀ (j : Nat) t v, Try.f8.params[j]? = some t → args[j]? = some v → Value.okWide Try.prog W .any base t v := hval0
  have hW' := hW
  obtain ⟨p, q, hA0, hV, rfl, hfz, hnd⟩ := hW
  have hA : DataW.TrodAll enc Try.prog W 0 (fun _ => true) true Try.f8.params.toList args.toList ds p := hA0
  rw [Try.params8] at hA hval
  obtain ⟨v0, v1, v2, d0, d1, d2, p0, p1, p2, rfl, rfl, rfl, h0, h1, h2⟩ := trodAll_three hA
  obtain ⟨rfl, rfl⟩ := trodVars_none hV
  obtain ⟨me, rfl, rfl, rfl, wa⟩ := open_int Try.underlying3 (hval 0 3 v0 rfl rfl) h0
  obtain ⟨cfg, rfl, rfl, rfl, wb⟩ := open_int Try.underlying3 (hval 1 3 v1 rfl rfl) h1
  obtain ⟨cs, rfl, hcs⟩ := okWide_struct Try.underlying40 (hval 2 40 v2 rfl rfl)
  clear hA0 hval0
  simp only [List.append_nil, List.nil_append] at hW'
  have hlt : ∀ x ∈ p2, x.block < W.heap.size := fun x hx => hW'.lt x (by simp [hx])
  have h2k := h2
  obtain ⟨fuel, hf⟩ := h2
  obtain ⟨d, hd, hG⟩ := at_snap hf
  have hcs2 : cs = snapVal d.pos d.pv d.sv := by
    apply Array.ext'
    simpa [Value.cells, SnapD.cells, snapVal] using hd
  subst hcs2
  have fin : ∀ (W' : World), Below W.heap.size W W' → Rows.shipPartsSpec.post enc Try.checked.prog Try.f8 false true false false W #[.int .i64 me, .int .i64 cfg, .agg (snapVal d.pos d.pv d.sv)] (.bool true) W' := by
    intro W' hnx
    refine ⟨_, _, _, [], [] ++ ([] ++ p2), [], hW', ?_, ?_, rfl, hnx.frame _, fun h => by cases h⟩
    · exact trodAll_mk1 (shut_bool Try.underlying4 true)
    · exact trodAll_mk3 (shut_int Try.underlying3 wa) (shut_int Try.underlying3 wb) (Below.trod row_laid (by kernel_rfl) (of_decide_eq_true (by kernel_rfl)) h2k hnx hlt)
  exact (ShipParts_any me cfg d.pos d.pv d.sv d.ps d.ss W hG.prs hG.sns).mono fun e W' ⟨he, hb⟩ => ⟨_, he, fin W' hb⟩

theorem parts_row_holds : Rows.ShipPartsSaid :=
  OpenClaim.holds_of_wide 8 Try.f8 rfl rfl rfl rfl rfl rfl rfl ⟨rfl, rfl, rfl, rfl, rfl⟩ rfl rfl rfl rfl rfl (by kernel_rfl) Try.func8 (by kernel_rfl)
    (of_decide_eq_true (by kernel_rfl)) (by unfold Func.isWrapper; rw [if_neg (of_decide_eq_false (by kernel_rfl))]; exact ⟨rfl, rfl⟩)
    (fun os started H enc _ => parts_lifted os started H enc)

#print axioms parts_row_holds

end Go.Proofs.Ytedcdjlpogpgbaa
