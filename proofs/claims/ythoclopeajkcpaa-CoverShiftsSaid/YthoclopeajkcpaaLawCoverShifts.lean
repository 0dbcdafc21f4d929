/- The statement CoverShifts holds: whatever the arguments, the law returns true, and they read as they did; no conditions. -/
import Derived.Test.YthoclopeajkcpaaRows
import Derived.Test.YthoclopeajkcpaaZ3
import Derived.Test.YthoclopeajkcpaaZE
import Derived.WalkKit
import Derived.ProofKit
import Derived.OpenShut
import Derived.ChangeOld
import Derived.Below
import Derived.SizedLaws
namespace Go.Proofs.Ythoclopeajkcpaa.coverShifts
open Go.ChangeShapes Go.WideShapes Go.ChangeAt Go.RowKit E
set_option linter.unusedVariables false
theorem own : ownKnob Try.prog.godebug = none := by kernel_rfl
theorem kids : Kids Try.prog (· < Try.prog.types.size) := kids_rows (by kernel_rfl) (by kernel_rfl)
theorem full : ∀ t e, t < Try.prog.types.size → Try.prog.underlying t = some (.slice e) → 0 < Try.prog.cellsOf e := slices_full_of _ (by kernel_rfl)
set_option maxRecDepth 100000 in
theorem lifted (os : Os) (started : os.Started) (H : Type) (enc : TypeId × Value → H) :
    ReturnsInHanded {} Try.checked os 12 .any (Rows.coverShiftsSpec.pre6 enc Try.prog Try.f12 Rows.coverShiftsRow.domain false) (Rows.coverShiftsSpec.post enc Try.prog Try.f12 false true false false) := by
  refine returnsInHanded_of_change_sized (C := Try.checked) own started (by kernel_rfl) Try.func12
    (ChangeSpec.witness6 (enc := enc) (C := Try.checked) false ⟨#[], #[.slice none 0 0, .int .i64 0, .int .i64 0, .int .i64 0, .int .i64 0, .int .i64 0], []⟩ 8 (by kernel_rfl) (by kernel_rfl) (by kernel_rfl) (by kernel_rfl)) ?_
  intro W base args ds gs before hval0 hW hcnd hsz0 _
  have hval : ∀ (j : Nat) t v, Try.f12.params[j]? = some t → args[j]? = some v → Value.okWide Try.prog W .any base t v := hval0
  have hW' := hW
  obtain ⟨p, q, hA0, hV, rfl, hfz, hnd⟩ := hW
  have hA : DataW.TrodAll enc Try.prog W 0 (fun _ => true) true Try.f12.params.toList args.toList ds p := hA0
  rw [Try.params12] at hA hval hsz0
  obtain ⟨v0, vs0, d0, ds0, p0, q0, hargs, rfl, rfl, h0, r0⟩ := trodAll_cons hA
  obtain ⟨v1, vs1, d1, ds1, p1, q1, rfl, rfl, rfl, h1, r1⟩ := trodAll_cons r0
  obtain ⟨v2, vs2, d2, ds2, p2, q2, rfl, rfl, rfl, h2, r2⟩ := trodAll_cons r1
  obtain ⟨v3, vs3, d3, ds3, p3, q3, rfl, rfl, rfl, h3, r3⟩ := trodAll_cons r2
  obtain ⟨v4, vs4, d4, ds4, p4, q4, rfl, rfl, rfl, h4, r4⟩ := trodAll_cons r3
  obtain ⟨v5, vs5, d5, ds5, p5, q5, rfl, rfl, rfl, h5, r5⟩ := trodAll_cons r4
  obtain ⟨rfl, rfl, rfl⟩ := trodAll_nil r5
  obtain rfl : args = #[v0, v1, v2, v3, v4, v5] := by cases args; simp_all
  obtain ⟨H0, M0, u0, a0, m0, i0, vr0, rd0⟩ := arg_row (n := 3) (t := 29) (by kernel_rfl) Try.underlying29 (hval 0 29 v0 rfl rfl) h0 (light_of hsz0 0 rfl rfl) (Img.nil _ W)
  obtain ⟨ls0, s0, _⟩ := ints_of (e := 3) Try.underlying29 Try.underlying3 (by kernel_rfl) rd0
  obtain ⟨x0, rfl, w0⟩ := open_num Try.underlying3 (hval 1 3 v1 rfl rfl) h1
  obtain ⟨x1, rfl, w1⟩ := open_num Try.underlying3 (hval 2 3 v2 rfl rfl) h2
  obtain ⟨x2, rfl, w2⟩ := open_num Try.underlying3 (hval 3 3 v3 rfl rfl) h3
  obtain ⟨x3, rfl, w3⟩ := open_num Try.underlying3 (hval 4 3 v4 rfl rfl) h4
  obtain ⟨x4, rfl, w4⟩ := open_num Try.underlying3 (hval 5 3 v5 rfl rfl) h5
  obtain ⟨rfl, rfl⟩ := trodVars_none hV
  refine (SemCall.worldH (cshifts u0 ls0 _ H0 s0 x0 x1 x2 x3 x4) W i0 _ ?_).mono fun e W' ⟨he, bel⟩ => ?_
  · exact VRs.cons' (vr0) (VRs.cons' (.int _ _) (VRs.cons' (.int _ _) (VRs.cons' (.int _ _) (VRs.cons' (.int _ _) (VRs.cons' (.int _ _) (VRs.nil))))))
  · subst he
    exact ⟨_, rfl, law_post kids full (by decide) rfl rfl Try.underlying4 hW' rfl bel⟩
theorem over : Rows.coverShiftsRow.holds Try.pinned (OpenSpec.ofChange Rows.coverShiftsSpec) :=
  OpenClaim.holds_of_wide 12 Try.f12 rfl rfl rfl rfl rfl rfl rfl ⟨rfl, rfl, rfl, rfl, rfl⟩ rfl rfl rfl rfl rfl (by kernel_rfl) Try.func12 (by kernel_rfl)
    (of_decide_eq_true (by kernel_rfl)) (by unfold Func.isWrapper; first | (rw [if_pos (by decide +kernel)]; kernel_rfl) | (rw [if_neg (by decide +kernel)]; exact ⟨rfl, rfl⟩))
    (fun os started H enc _ => lifted os started H enc)
theorem proved : Rows.CoverShiftsSaid := over
#print axioms proved
end Go.Proofs.Ythoclopeajkcpaa.coverShifts
namespace Go.Proofs.Ythoclopeajkcpaa
/-- The row, under a short name, for the claim. -/
theorem coverShifts_holds : Rows.CoverShiftsSaid := coverShifts.proved
end Go.Proofs.Ythoclopeajkcpaa
