/- The statement InlineNumbers holds: whatever the arguments, the law returns true, and they read as they did; no conditions. -/
import Derived.Test.YthhbglkokpablaaGreatRows
import Derived.Test.YthhbglkokpablaaGreatV3
import Derived.Test.YthhbglkokpablaaGreatVJ
import Derived.WalkKit
import Derived.ProofKit
import Derived.OpenShut
import Derived.ChangeOld
import Derived.Below
import Derived.SizedLaws
namespace Go.Proofs.YthhbglkokpablaaGreat.inlineNumbers
open Go.ChangeShapes Go.WideShapes Go.ChangeAt Go.RowKit E
set_option linter.unusedVariables false
theorem own : ownKnob Tryz.prog.godebug = none := by kernel_rfl
theorem kids : Kids Tryz.prog (· < Tryz.prog.types.size) := kids_rows (by kernel_rfl) (by kernel_rfl)
theorem full : ∀ t e, t < Tryz.prog.types.size → Tryz.prog.underlying t = some (.slice e) → 0 < Tryz.prog.cellsOf e := slices_full_of _ (by kernel_rfl)
set_option maxRecDepth 100000 in
theorem lifted (os : Os) (started : os.Started) (H : Type) (enc : TypeId × Value → H) :
    ReturnsInHanded {} Tryz.checked os 3 .any (Rows.inlineNumbersSpec.pre6 enc Tryz.prog Tryz.f3 Rows.inlineNumbersRow.domain false) (Rows.inlineNumbersSpec.post enc Tryz.prog Tryz.f3 false true false false) := by
  refine returnsInHanded_of_change_sized (C := Tryz.checked) own started (by kernel_rfl) Tryz.func3
    (ChangeSpec.witness6 (enc := enc) (C := Tryz.checked) false ⟨#[], #[], []⟩ 8 (by kernel_rfl) (by kernel_rfl) (by kernel_rfl) (by kernel_rfl)) ?_
  intro W base args ds gs before hval0 hW hcnd hsz0 _
  have hval : ∀ (j : Nat) t v, Tryz.f3.params[j]? = some t → args[j]? = some v → Value.okWide Tryz.prog W .any base t v := hval0
  have hW' := hW
  obtain ⟨p, q, hA0, hV, rfl, hfz, hnd⟩ := hW
  have hA : DataW.TrodAll enc Tryz.prog W 0 (fun _ => true) true Tryz.f3.params.toList args.toList ds p := hA0
  rw [Tryz.params3] at hA hval hsz0
  obtain ⟨hargs, rfl, rfl⟩ := trodAll_nil hA
  obtain rfl : args = #[] := by cases args; simp_all
  obtain ⟨rfl, rfl⟩ := trodVars_none hV
  refine (SemCall.world (inlinenumbers []) W _ ?_).mono fun e W' ⟨he, bel⟩ => ?_
  · exact VRs.nil
  · subst he
    exact ⟨_, rfl, law_post kids full (by decide) rfl rfl Tryz.underlying4 hW' rfl bel⟩
theorem over : Rows.inlineNumbersRow.holds Tryz.pinned (OpenSpec.ofChange Rows.inlineNumbersSpec) :=
  OpenClaim.holds_of_wide 3 Tryz.f3 rfl rfl rfl rfl rfl rfl rfl ⟨rfl, rfl, rfl, rfl, rfl⟩ rfl rfl rfl rfl rfl (by kernel_rfl) Tryz.func3 (by kernel_rfl)
    (of_decide_eq_true (by kernel_rfl)) (by unfold Func.isWrapper; first | (rw [if_pos (by decide +kernel)]; kernel_rfl) | (rw [if_neg (by decide +kernel)]; exact ⟨rfl, rfl⟩))
    (fun os started H enc _ => lifted os started H enc)
theorem proved : Rows.InlineNumbersSaid := over
#print axioms proved
end Go.Proofs.YthhbglkokpablaaGreat.inlineNumbers
namespace Go.Proofs.YthhbglkokpablaaGreat
/-- The row, under a short name, for the claim. -/
theorem inlineNumbers_holds : Rows.InlineNumbersSaid := inlineNumbers.proved
end Go.Proofs.YthhbglkokpablaaGreat
