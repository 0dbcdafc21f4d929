/- The statement CoverWhole holds: whatever the arguments, the law returns true, and they read as they did; no conditions. -/
import Derived.Test.YthoclopeajkcpaaRows
import Derived.Test.YthoclopeajkcpaaZ3
import Derived.Test.YthoclopeajkcpaaZE
import Derived.WalkKit
import Derived.ProofKit
import Derived.OpenShut
import Derived.ChangeOld
import Derived.Below
import Derived.SizedLaws
namespace Go.Proofs.Ythoclopeajkcpaa.coverWhole
open Go.ChangeShapes Go.WideShapes Go.ChangeAt Go.RowKit E
set_option linter.unusedVariables false
theorem own : ownKnob Try.prog.godebug = none := by kernel_rfl
theorem kids : Kids Try.prog (· < Try.prog.types.size) := kids_rows (by kernel_rfl) (by kernel_rfl)
theorem full : ∀ t e, t < Try.prog.types.size → Try.prog.underlying t = some (.slice e) → 0 < Try.prog.cellsOf e := slices_full_of _ (by kernel_rfl)
set_option maxRecDepth 100000 in
theorem lifted (os : Os) (started : os.Started) (H : Type) (enc : TypeId × Value → H) :
    ReturnsInHanded {} Try.checked os 10 .any (Rows.coverWholeSpec.pre6 enc Try.prog Try.f10 Rows.coverWholeRow.domain false) (Rows.coverWholeSpec.post enc Try.prog Try.f10 false true false false) := by
  refine returnsInHanded_of_change_sized (C := Try.checked) own started (by kernel_rfl) Try.func10
    (ChangeSpec.witness6 (enc := enc) (C := Try.checked) false ⟨#[], #[.agg #[.int .i64 0, .int .i64 0, .int .i64 0, .int .i64 0], .int .i64 0, .int .i64 0], []⟩ 8 (by kernel_rfl) (by kernel_rfl) (by kernel_rfl) (by kernel_rfl)) ?_
  intro W base args ds gs before hval0 hW hcnd hsz0 _
  have hval : ∀ (j : Nat) t v, Try.f10.params[j]? = some t → args[j]? = some v → Value.okWide Try.prog W .any base t v := hval0
  have hW' := hW
  obtain ⟨p, q, hA0, hV, rfl, hfz, hnd⟩ := hW
  have hA : DataW.TrodAll enc Try.prog W 0 (fun _ => true) true Try.f10.params.toList args.toList ds p := hA0
  rw [Try.params10] at hA hval hsz0
  obtain ⟨v0, vs0, d0, ds0, p0, q0, hargs, rfl, rfl, h0, r0⟩ := trodAll_cons hA
  obtain ⟨v1, vs1, d1, ds1, p1, q1, rfl, rfl, rfl, h1, r1⟩ := trodAll_cons r0
  obtain ⟨v2, vs2, d2, ds2, p2, q2, rfl, rfl, rfl, h2, r2⟩ := trodAll_cons r1
  obtain ⟨rfl, rfl, rfl⟩ := trodAll_nil r2
  obtain rfl : args = #[v0, v1, v2] := by cases args; simp_all
  obtain ⟨l0, rfl, f0⟩ := open_agg (n := 6) (t := 47) (ks := [.int .i64, .int .i64, .int .i64, .int .i64]) (by kernel_rfl) (by kernel_rfl) (hval 0 47 v0 rfl rfl) h0
  obtain ⟨x0, l0, rfl, w0, f0⟩ := fits_int f0
  obtain ⟨x1, l0, rfl, w1, f0⟩ := fits_int f0
  obtain ⟨x2, l0, rfl, w2, f0⟩ := fits_int f0
  obtain ⟨x3, l0, rfl, w3, f0⟩ := fits_int f0
  obtain rfl := fits_nil f0
  obtain ⟨x4, rfl, w4⟩ := open_num Try.underlying3 (hval 1 3 v1 rfl rfl) h1
  obtain ⟨x5, rfl, w5⟩ := open_num Try.underlying3 (hval 2 3 v2 rfl rfl) h2
  obtain ⟨rfl, rfl⟩ := trodVars_none hV
  refine (SemCall.world (cwhole ⟨x0, x1, x2, x3⟩ x4 x5 _) W _ ?_).mono fun e W' ⟨he, bel⟩ => ?_
  · exact .cons (agg_vr _ _ rfl) (.cons (.int _ _) (.cons (.int _ _) .nil))
  · subst he
    exact ⟨_, rfl, law_post kids full (by decide) rfl rfl Try.underlying4 hW' rfl bel⟩
theorem over : Rows.coverWholeRow.holds Try.pinned (OpenSpec.ofChange Rows.coverWholeSpec) :=
  OpenClaim.holds_of_wide 10 Try.f10 rfl rfl rfl rfl rfl rfl rfl ⟨rfl, rfl, rfl, rfl, rfl⟩ rfl rfl rfl rfl rfl (by kernel_rfl) Try.func10 (by kernel_rfl)
    (of_decide_eq_true (by kernel_rfl)) (by unfold Func.isWrapper; first | (rw [if_pos (by decide +kernel)]; kernel_rfl) | (rw [if_neg (by decide +kernel)]; exact ⟨rfl, rfl⟩))
    (fun os started H enc _ => lifted os started H enc)
theorem proved : Rows.CoverWholeSaid := over
#print axioms proved
end Go.Proofs.Ythoclopeajkcpaa.coverWhole
namespace Go.Proofs.Ythoclopeajkcpaa
/-- The row, under a short name, for the claim. -/
theorem coverWhole_holds : Rows.CoverWholeSaid := coverWhole.proved
end Go.Proofs.Ythoclopeajkcpaa
