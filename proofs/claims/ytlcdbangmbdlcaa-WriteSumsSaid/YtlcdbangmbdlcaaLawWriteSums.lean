/- The statement WriteSums holds: whatever the arguments, the law returns true, and they read as they did; no conditions. -/
import Derived.Test.YtlcdbangmbdlcaaRows
import Derived.Test.YtlcdbangmbdlcaaZ4
import Derived.Test.YtlcdbangmbdlcaaZC
import Derived.WalkKit
import Derived.ProofKit
import Derived.OpenShut
import Derived.ChangeOld
import Derived.Below
import Derived.SizedLaws
namespace Go.Proofs.Ytlcdbangmbdlcaa.writeSums
open Go.ChangeShapes Go.WideShapes Go.ChangeAt Go.RowKit E
set_option linter.unusedVariables false
theorem own : ownKnob Try.prog.godebug = none := by kernel_rfl
theorem kids : Kids Try.prog (· < Try.prog.types.size) := kids_rows (by kernel_rfl) (by kernel_rfl)
theorem full : ∀ t e, t < Try.prog.types.size → Try.prog.underlying t = some (.slice e) → 0 < Try.prog.cellsOf e := slices_full_of _ (by kernel_rfl)
set_option maxRecDepth 100000 in
theorem lifted (os : Os) (started : os.Started) (H : Type) (enc : TypeId × Value → H) :
    ReturnsInHanded {} Try.checked os 3 .any (Rows.writeSumsSpec.pre6 enc Try.prog Try.f3 Rows.writeSumsRow.domain false) (Rows.writeSumsSpec.post enc Try.prog Try.f3 false true false false) := by
  refine returnsInHanded_of_change_sized (C := Try.checked) own started (by kernel_rfl) Try.func3
    (ChangeSpec.witness6 (enc := enc) (C := Try.checked) false ⟨#[], #[.slice none 0 0], []⟩ 8 (by kernel_rfl) (by kernel_rfl) (by kernel_rfl) (by kernel_rfl)) ?_
  intro W base args ds gs before hval0 hW hcnd hsz0 _
  have hval : ∀ (j : Nat) t v, Try.f3.params[j]? = some t → args[j]? = some v → Value.okWide Try.prog W .any base t v := hval0
  have hW' := hW
  obtain ⟨p, q, hA0, hV, rfl, hfz, hnd⟩ := hW
  have hA : DataW.TrodAll enc Try.prog W 0 (fun _ => true) true Try.f3.params.toList args.toList ds p := hA0
  rw [Try.params3] at hA hval hsz0
  obtain ⟨v0, vs0, d0, ds0, p0, q0, hargs, rfl, rfl, h0, r0⟩ := trodAll_cons hA
  obtain ⟨rfl, rfl, rfl⟩ := trodAll_nil r0
  obtain rfl : args = #[v0] := by cases args; simp_all
  obtain ⟨H0, M0, u0, a0, m0, i0, vr0, rd0⟩ := arg_row (n := 3) (t := 22) (by kernel_rfl) Try.underlying22 (hval 0 22 v0 rfl rfl) h0 (light_of hsz0 0 rfl rfl) (Img.nil _ W)
  obtain ⟨ls0, s0, y0⟩ := ints_of (e := 3) Try.underlying22 Try.underlying3 (by kernel_rfl) rd0
  obtain ⟨rfl, rfl⟩ := trodVars_none hV
  refine (SemCall.worldH (writesums u0 ls0 _ H0 (s0)) W i0 _ ?_).mono fun e W' ⟨he, bel⟩ => ?_
  · exact VRs.cons' (vr0) (VRs.nil)
  · subst he
    exact ⟨_, rfl, law_post kids full (by decide) rfl rfl Try.underlying4 hW' rfl bel⟩
theorem over : Rows.writeSumsRow.holds Try.pinned (OpenSpec.ofChange Rows.writeSumsSpec) :=
  OpenClaim.holds_of_wide 3 Try.f3 rfl rfl rfl rfl rfl rfl rfl ⟨rfl, rfl, rfl, rfl, rfl⟩ rfl rfl rfl rfl rfl (by kernel_rfl) Try.func3 (by kernel_rfl)
    (of_decide_eq_true (by kernel_rfl)) (by unfold Func.isWrapper; first | (rw [if_pos (by decide +kernel)]; kernel_rfl) | (rw [if_neg (by decide +kernel)]; exact ⟨rfl, rfl⟩))
    (fun os started H enc _ => lifted os started H enc)
theorem proved : Rows.WriteSumsSaid := over
#print axioms proved
end Go.Proofs.Ytlcdbangmbdlcaa.writeSums
namespace Go.Proofs.Ytlcdbangmbdlcaa
/-- The row, under a short name, for the claim. -/
theorem writeSums_holds : Rows.WriteSumsSaid := writeSums.proved
end Go.Proofs.Ytlcdbangmbdlcaa
