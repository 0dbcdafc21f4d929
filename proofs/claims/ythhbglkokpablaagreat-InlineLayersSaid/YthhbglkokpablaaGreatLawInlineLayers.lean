/- The statement InlineLayers holds: whatever the arguments, the law returns true, and they read as they did; no conditions. -/
import Derived.Test.YthhbglkokpablaaGreatRows
import Derived.Test.YthhbglkokpablaaGreatV4
import Derived.Test.YthhbglkokpablaaGreatVJ
import Derived.WalkKit
import Derived.ProofKit
import Derived.OpenShut
import Derived.ChangeOld
import Derived.Below
import Derived.SizedLaws
namespace Go.Proofs.YthhbglkokpablaaGreat.inlineLayers
open Go.ChangeShapes Go.WideShapes Go.ChangeAt Go.RowKit E
set_option linter.unusedVariables false
theorem own : ownKnob Tryz.prog.godebug = none := by kernel_rfl
theorem kids : Kids Tryz.prog (· < Tryz.prog.types.size) := kids_rows (by kernel_rfl) (by kernel_rfl)
theorem full : ∀ t e, t < Tryz.prog.types.size → Tryz.prog.underlying t = some (.slice e) → 0 < Tryz.prog.cellsOf e := slices_full_of _ (by kernel_rfl)
set_option maxRecDepth 100000 in
theorem lifted (os : Os) (started : os.Started) (H : Type) (enc : TypeId × Value → H) :
    ReturnsInHanded {} Tryz.checked os 5 .any (Rows.inlineLayersSpec.pre6 enc Tryz.prog Tryz.f5 Rows.inlineLayersRow.domain false) (Rows.inlineLayersSpec.post enc Tryz.prog Tryz.f5 false true false false) := by
  refine returnsInHanded_of_change_sized (C := Tryz.checked) own started (by kernel_rfl) Tryz.func5
    (ChangeSpec.witness6 (enc := enc) (C := Tryz.checked) false ⟨#[], #[.slice none 0 0, .slice none 0 0, .int .i64 0, .int .i64 0], []⟩ 8 (by kernel_rfl) (by kernel_rfl) (by kernel_rfl) (by kernel_rfl)) ?_
  intro W base args ds gs before hval0 hW hcnd hsz0 _
  have hval : ∀ (j : Nat) t v, Tryz.f5.params[j]? = some t → args[j]? = some v → Value.okWide Tryz.prog W .any base t v := hval0
  have hW' := hW
  obtain ⟨p, q, hA0, hV, rfl, hfz, hnd⟩ := hW
  have hA : DataW.TrodAll enc Tryz.prog W 0 (fun _ => true) true Tryz.f5.params.toList args.toList ds p := hA0
  rw [Tryz.params5] at hA hval hsz0
  obtain ⟨v0, vs0, d0, ds0, p0, q0, hargs, rfl, rfl, h0, r0⟩ := trodAll_cons hA
  obtain ⟨v1, vs1, d1, ds1, p1, q1, rfl, rfl, rfl, h1, r1⟩ := trodAll_cons r0
  obtain ⟨v2, vs2, d2, ds2, p2, q2, rfl, rfl, rfl, h2, r2⟩ := trodAll_cons r1
  obtain ⟨v3, vs3, d3, ds3, p3, q3, rfl, rfl, rfl, h3, r3⟩ := trodAll_cons r2
  obtain ⟨rfl, rfl, rfl⟩ := trodAll_nil r3
  obtain rfl : args = #[v0, v1, v2, v3] := by cases args; simp_all
  obtain ⟨H0, M0, u0, a0, m0, i0, vr0, rd0⟩ := arg_row (n := 3) (t := 27) (by kernel_rfl) Tryz.underlying27 (hval 0 27 v0 rfl rfl) h0 (light_of hsz0 0 rfl rfl) (Img.nil _ W)
  obtain ⟨ls0, s0, y0⟩ := ints_of (e := 3) Tryz.underlying27 Tryz.underlying3 (by kernel_rfl) rd0
  obtain ⟨H1, M1, u1, a1, m1, i1, vr1, rd1⟩ := arg_row (n := 3) (t := 29) (by kernel_rfl) Tryz.underlying29 (hval 1 29 v1 rfl rfl) h1 (light_of hsz0 1 rfl rfl) i0
  obtain ⟨ls1, s1⟩ := rd_bos (n := 1) rd1
  obtain ⟨x0, rfl, w0⟩ := open_num Tryz.underlying3 (hval 2 3 v2 rfl rfl) h2
  obtain ⟨x1, rfl, w1⟩ := open_num Tryz.underlying3 (hval 3 3 v3 rfl rfl) h3
  obtain ⟨rfl, rfl⟩ := trodVars_none hV
  refine (SemCall.worldH (inlinelayers u0 u1 ls0 ls1 _ x0 x1 H1 ((s0).ahead a1) (s1)) W i1 _ ?_).mono fun e W' ⟨he, bel⟩ => ?_
  · exact VRs.cons' ((vr0).mono m1) (VRs.cons' (vr1) (VRs.cons' (.int _ _) (VRs.cons' (.int _ _) (VRs.nil))))
  · subst he
    exact ⟨_, rfl, law_post kids full (by decide) rfl rfl Tryz.underlying4 hW' rfl bel⟩
theorem over : Rows.inlineLayersRow.holds Tryz.pinned (OpenSpec.ofChange Rows.inlineLayersSpec) :=
  OpenClaim.holds_of_wide 5 Tryz.f5 rfl rfl rfl rfl rfl rfl rfl ⟨rfl, rfl, rfl, rfl, rfl⟩ rfl rfl rfl rfl rfl (by kernel_rfl) Tryz.func5 (by kernel_rfl)
    (of_decide_eq_true (by kernel_rfl)) (by unfold Func.isWrapper; first | (rw [if_pos (by decide +kernel)]; kernel_rfl) | (rw [if_neg (by decide +kernel)]; exact ⟨rfl, rfl⟩))
    (fun os started H enc _ => lifted os started H enc)
theorem proved : Rows.InlineLayersSaid := over
#print axioms proved
end Go.Proofs.YthhbglkokpablaaGreat.inlineLayers
namespace Go.Proofs.YthhbglkokpablaaGreat
/-- The row, under a short name, for the claim. -/
theorem inlineLayers_holds : Rows.InlineLayersSaid := inlineLayers.proved
end Go.Proofs.YthhbglkokpablaaGreat
