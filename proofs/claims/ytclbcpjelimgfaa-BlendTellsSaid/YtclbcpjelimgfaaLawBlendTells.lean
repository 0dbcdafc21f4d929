/- BlendTells: the row. -/
import Derived.Test.YtclbcpjelimgfaaRows
import Derived.Test.YtclbcpjelimgfaaBlend3
import Derived.Test.YtclbcpjelimgfaaEO
import Derived.WalkKit
import Derived.ProofKit
import Derived.OpenShut
import Derived.ChangeOld
import Derived.Below
import Derived.SizedLaws
namespace Go.Proofs.Ytclbcpjelimgfaa.blendTells
open Go.ChangeShapes Go.WideShapes Go.ChangeAt Go.RowKit E
set_option linter.unusedVariables false
theorem own : ownKnob Try.prog.godebug = none := by kernel_rfl
theorem kids : Kids Try.prog (· < Try.prog.types.size) := kids_rows (by kernel_rfl) (by kernel_rfl)
theorem full : ∀ t e, t < Try.prog.types.size → Try.prog.underlying t = some (.slice e) → 0 < Try.prog.cellsOf e := slices_full_of _ (by kernel_rfl)
theorem px_vr (M : Mp) (a b c d : Int) : VR M (Blend.px a b c d) (.agg #[.int .u8 a, .int .u8 b, .int .u8 c, .int .u8 d]) := by
  refine .agg rfl (fun i h => ?_) (fun i h h' => ?_) <;>
  · have : i = 0 ∨ i = 1 ∨ i = 2 ∨ i = 3 := by simp at h; omega
    rcases this with rfl | rfl | rfl | rfl <;> first | exact .int _ _ | rfl
set_option maxRecDepth 100000 in
theorem lifted (os : Os) (started : os.Started) (H : Type) (enc : TypeId × Value → H) :
    ReturnsInHanded {} Try.checked os 4 .any (Rows.blendTellsSpec.pre6 enc Try.prog Try.f4 Rows.blendTellsRow.domain false) (Rows.blendTellsSpec.post enc Try.prog Try.f4 false true false false) := by
  refine returnsInHanded_of_change_sized (C := Try.checked) own started (by kernel_rfl) Try.func4
    (ChangeSpec.witness6 (enc := enc) (C := Try.checked) false ⟨#[], #[.agg #[.int .u8 0, .int .u8 0, .int .u8 0, .int .u8 0], .agg #[.int .u8 0, .int .u8 0, .int .u8 0, .int .u8 0], .agg #[.int .u8 0, .int .u8 0, .int .u8 0, .int .u8 0], .int .i64 0, .int .i64 0, .int .i64 0, .int .i64 0], []⟩ 8 (by kernel_rfl) (by kernel_rfl) (by kernel_rfl) (by kernel_rfl)) ?_
  intro W base args ds gs before hval0 hW hcnd hsz0 _
  have hval : ∀ (j : Nat) t v, Try.f4.params[j]? = some t → args[j]? = some v → Value.okWide Try.prog W .any base t v := hval0
  have hW' := hW
  obtain ⟨p, q, hA0, hV, rfl, hfz, hnd⟩ := hW
  have hA : DataW.TrodAll enc Try.prog W 0 (fun _ => true) true Try.f4.params.toList args.toList ds p := hA0
  rw [Try.params4] at hA hval
  obtain ⟨v0, vs0, d0, ds0, p0, q0, hargs, rfl, rfl, h0, r0⟩ := trodAll_cons hA
  obtain ⟨v1, vs1, d1, ds1, p1, q1, rfl, rfl, rfl, h1, r1⟩ := trodAll_cons r0
  obtain ⟨v2, vs2, d2, ds2, p2, q2, rfl, rfl, rfl, h2, r2⟩ := trodAll_cons r1
  obtain ⟨v3, vs3, d3, ds3, p3, q3, rfl, rfl, rfl, h3, r3⟩ := trodAll_cons r2
  obtain ⟨v4, vs4, d4, ds4, p4, q4, rfl, rfl, rfl, h4, r4⟩ := trodAll_cons r3
  obtain ⟨v5, vs5, d5, ds5, p5, q5, rfl, rfl, rfl, h5, r5⟩ := trodAll_cons r4
  obtain ⟨v6, vs6, d6, ds6, p6, q6, rfl, rfl, rfl, h6, r6⟩ := trodAll_cons r5
  obtain ⟨rfl, rfl, rfl⟩ := trodAll_nil r6
  obtain rfl : args = #[v0, v1, v2, v3, v4, v5, v6] := by cases args; simp_all
  obtain ⟨a0, b0, c0, e0, rfl, wa0, wb0, wc0, we0⟩ := open_four (P := Try.prog) (e := 5) (q := .u8) Try.underlying25 Try.underlying5 (by kernel_rfl) (by kernel_rfl) (hval 0 25 v0 rfl rfl) h0
  obtain ⟨a1, b1, c1, e1, rfl, wa1, wb1, wc1, we1⟩ := open_four (P := Try.prog) (e := 5) (q := .u8) Try.underlying25 Try.underlying5 (by kernel_rfl) (by kernel_rfl) (hval 1 25 v1 rfl rfl) h1
  obtain ⟨a2, b2, c2, e2, rfl, wa2, wb2, wc2, we2⟩ := open_four (P := Try.prog) (e := 5) (q := .u8) Try.underlying29 Try.underlying5 (by kernel_rfl) (by kernel_rfl) (hval 2 29 v2 rfl rfl) h2
  obtain ⟨a3, rfl, rfl, rfl, w3⟩ := open_int Try.underlying3 (hval 3 3 v3 rfl rfl) h3
  obtain ⟨a4, rfl, rfl, rfl, w4⟩ := open_int Try.underlying3 (hval 4 3 v4 rfl rfl) h4
  obtain ⟨a5, rfl, rfl, rfl, w5⟩ := open_int Try.underlying3 (hval 5 3 v5 rfl rfl) h5
  obtain ⟨a6, rfl, rfl, rfl, w6⟩ := open_int Try.underlying3 (hval 6 3 v6 rfl rfl) h6
  obtain ⟨rfl, rfl⟩ := trodVars_none hV
  refine (SemCall.world (Blend.tells a0 b0 c0 e0 a1 b1 c1 e1 a2 b2 c2 e2 a3 a4 a5 a6 (wf_u8 wa0) (wf_u8 wb0) (wf_u8 wc0) (wf_u8 we0) (wf_u8 wa1) (wf_u8 wb1) (wf_u8 wc1) (wf_u8 we1) (wf_u8 wa2) (wf_u8 wb2) (wf_u8 wc2) (wf_u8 we2) []) W _ ?_).mono fun e W' ⟨he, bel⟩ => ?_
  · exact .cons (px_vr _ _ _ _ _) (.cons (px_vr _ _ _ _ _) (.cons (px_vr _ _ _ _ _) (.cons (.int _ _) (.cons (.int _ _) (.cons (.int _ _) (.cons (.int _ _) .nil))))))
  · subst he
    exact ⟨_, rfl, law_post kids full (by decide) rfl rfl Try.underlying4 hW' rfl bel⟩
theorem over : Rows.blendTellsRow.holds Try.pinned (OpenSpec.ofChange Rows.blendTellsSpec) :=
  OpenClaim.holds_of_wide 4 Try.f4 rfl rfl rfl rfl rfl rfl rfl ⟨rfl, rfl, rfl, rfl, rfl⟩ rfl rfl rfl rfl rfl (by kernel_rfl) Try.func4 (by kernel_rfl)
    (of_decide_eq_true (by kernel_rfl)) (by unfold Func.isWrapper; first | (rw [if_pos (by decide +kernel)]; kernel_rfl) | (rw [if_neg (by decide +kernel)]; exact ⟨rfl, rfl⟩))
    (fun os started H enc _ => lifted os started H enc)
theorem proved : Rows.BlendTellsSaid := over
#print axioms proved
end Go.Proofs.Ytclbcpjelimgfaa.blendTells
namespace Go.Proofs.Ytclbcpjelimgfaa
/-- The row, under a short name, for the claim. -/
theorem blendTells_holds : Rows.BlendTellsSaid := blendTells.proved
end Go.Proofs.Ytclbcpjelimgfaa
