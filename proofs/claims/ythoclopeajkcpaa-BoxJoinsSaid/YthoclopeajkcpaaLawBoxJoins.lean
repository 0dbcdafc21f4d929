/- The statement BoxJoins holds: whatever the arguments, the law returns true, and they read as they did; no conditions. -/
import Derived.Test.YthoclopeajkcpaaRows
import Derived.Test.YthoclopeajkcpaaZ3
import Derived.Test.YthoclopeajkcpaaZA
import Derived.WalkKit
import Derived.ProofKit
import Derived.OpenShut
import Derived.ChangeOld
import Derived.Below
import Derived.SizedLaws
namespace Go.Proofs.Ythoclopeajkcpaa.boxJoins
open Go.ChangeShapes Go.WideShapes Go.ChangeAt Go.RowKit E
set_option linter.unusedVariables false
theorem own : ownKnob Try.prog.godebug = none := by kernel_rfl
theorem kids : Kids Try.prog (· < Try.prog.types.size) := kids_rows (by kernel_rfl) (by kernel_rfl)
theorem full : ∀ t e, t < Try.prog.types.size → Try.prog.underlying t = some (.slice e) → 0 < Try.prog.cellsOf e := slices_full_of _ (by kernel_rfl)
set_option maxRecDepth 100000 in
theorem lifted (os : Os) (started : os.Started) (H : Type) (enc : TypeId × Value → H) :
    ReturnsInHanded {} Try.checked os 9 .any (Rows.boxJoinsSpec.pre6 enc Try.prog Try.f9 Rows.boxJoinsRow.domain false) (Rows.boxJoinsSpec.post enc Try.prog Try.f9 false true false false) := by
  refine returnsInHanded_of_change_sized (C := Try.checked) own started (by kernel_rfl) Try.func9
    (ChangeSpec.witness6 (enc := enc) (C := Try.checked) false ⟨#[], #[.agg #[.int .i64 0, .int .i64 0, .int .i64 0, .int .i64 0], .agg #[.int .i64 0, .int .i64 0, .int .i64 0, .int .i64 0], .int .i64 0, .int .i64 0, .slice none 0 0], []⟩ 8 (by kernel_rfl) (by kernel_rfl) (by kernel_rfl) (by kernel_rfl)) ?_
  intro W base args ds gs before hval0 hW hcnd hsz0 _
  have hval : ∀ (j : Nat) t v, Try.f9.params[j]? = some t → args[j]? = some v → Value.okWide Try.prog W .any base t v := hval0
  have hW' := hW
  obtain ⟨p, q, hA0, hV, rfl, hfz, hnd⟩ := hW
  have hA : DataW.TrodAll enc Try.prog W 0 (fun _ => true) true Try.f9.params.toList args.toList ds p := hA0
  rw [Try.params9] at hA hval
  obtain ⟨v0, vs0, d0, ds0, p0, q0, hargs, rfl, rfl, h0, r0⟩ := trodAll_cons hA
  obtain ⟨v1, vs1, d1, ds1, p1, q1, rfl, rfl, rfl, h1, r1⟩ := trodAll_cons r0
  obtain ⟨v2, vs2, d2, ds2, p2, q2, rfl, rfl, rfl, h2, r2⟩ := trodAll_cons r1
  obtain ⟨v3, vs3, d3, ds3, p3, q3, rfl, rfl, rfl, h3, r3⟩ := trodAll_cons r2
  obtain ⟨v4, vs4, d4, ds4, p4, q4, rfl, rfl, rfl, h4, r4⟩ := trodAll_cons r3
  obtain ⟨rfl, rfl, rfl⟩ := trodAll_nil r4
  obtain rfl : args = #[v0, v1, v2, v3, v4] := by cases args; simp_all
  obtain ⟨l0, rfl, f0⟩ := open_agg (n := 6) (t := 47) (ks := [.int .i64, .int .i64, .int .i64, .int .i64]) (by kernel_rfl) (by kernel_rfl) (hval 0 47 v0 rfl rfl) h0
  obtain ⟨x0, l0, rfl, w0, f0⟩ := fits_int f0
  obtain ⟨x1, l0, rfl, w1, f0⟩ := fits_int f0
  obtain ⟨x2, l0, rfl, w2, f0⟩ := fits_int f0
  obtain ⟨x3, l0, rfl, w3, f0⟩ := fits_int f0
  obtain rfl := fits_nil f0
  obtain ⟨l1, rfl, f1⟩ := open_agg (n := 6) (t := 47) (ks := [.int .i64, .int .i64, .int .i64, .int .i64]) (by kernel_rfl) (by kernel_rfl) (hval 1 47 v1 rfl rfl) h1
  obtain ⟨x4, l1, rfl, w4, f1⟩ := fits_int f1
  obtain ⟨x5, l1, rfl, w5, f1⟩ := fits_int f1
  obtain ⟨x6, l1, rfl, w6, f1⟩ := fits_int f1
  obtain ⟨x7, l1, rfl, w7, f1⟩ := fits_int f1
  obtain rfl := fits_nil f1
  obtain ⟨x8, rfl, w8⟩ := open_num Try.underlying3 (hval 2 3 v2 rfl rfl) h2
  obtain ⟨x9, rfl, w9⟩ := open_num Try.underlying3 (hval 3 3 v3 rfl rfl) h3
  obtain ⟨H4, M4, u4, a4, m4, i4, vr4, rd4⟩ := arg_row (n := 3) (t := 29) (by kernel_rfl) Try.underlying29 (hval 4 29 v4 rfl rfl) h4 (Img.nil _ W)
  obtain ⟨ls4, s4, _⟩ := ints_of (e := 3) Try.underlying29 Try.underlying3 (by kernel_rfl) rd4
  obtain ⟨rfl, rfl⟩ := trodVars_none hV
  refine (SemCall.worldH (bjoins ⟨x0, x1, x2, x3⟩ ⟨x4, x5, x6, x7⟩ x8 x9 u4 ls4 _ H4 (s4)) W i4 _ ?_).mono fun e W' ⟨he, bel⟩ => ?_
  · exact VRs.cons' (agg_vr _ _ rfl) (VRs.cons' (agg_vr _ _ rfl) (VRs.cons' (.int _ _) (VRs.cons' (.int _ _) (VRs.cons' (vr4) (VRs.nil)))))
  · subst he
    exact ⟨_, rfl, law_post kids full (by decide) rfl rfl Try.underlying4 hW' rfl bel⟩
theorem over : Rows.boxJoinsRow.holds Try.pinned (OpenSpec.ofChange Rows.boxJoinsSpec) :=
  OpenClaim.holds_of_wide 9 Try.f9 rfl rfl rfl rfl rfl rfl rfl ⟨rfl, rfl, rfl, rfl, rfl⟩ rfl rfl rfl rfl rfl (by kernel_rfl) Try.func9 (by kernel_rfl)
    (of_decide_eq_true (by kernel_rfl)) (by unfold Func.isWrapper; first | (rw [if_pos (by decide +kernel)]; kernel_rfl) | (rw [if_neg (by decide +kernel)]; exact ⟨rfl, rfl⟩))
    (fun os started H enc _ => lifted os started H enc)
theorem proved : Rows.BoxJoinsSaid := over
#print axioms proved
end Go.Proofs.Ythoclopeajkcpaa.boxJoins
namespace Go.Proofs.Ythoclopeajkcpaa
/-- The row, under a short name, for the claim. -/
theorem boxJoins_holds : Rows.BoxJoinsSaid := boxJoins.proved
end Go.Proofs.Ythoclopeajkcpaa
