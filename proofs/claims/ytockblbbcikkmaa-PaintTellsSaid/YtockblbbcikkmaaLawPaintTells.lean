/- The statement PaintTells holds: whatever the arguments, the law returns true, and they read as they did; no conditions. -/
import Derived.Test.YtockblbbcikkmaaRows
import Derived.Test.YtockblbbcikkmaaEV
import Derived.Test.YtockblbbcikkmaaPaint4
import Derived.WalkKit
import Derived.ProofKit
import Derived.OpenShut
import Derived.ChangeOld
import Derived.Below
import Derived.SizedLaws
namespace Go.Proofs.Ytockblbbcikkmaa.paintTells
open Go.ChangeShapes Go.WideShapes Go.ChangeAt Go.RowKit E
set_option linter.unusedVariables false
theorem own : ownKnob Try.prog.godebug = none := by kernel_rfl
theorem kids : Kids Try.prog (· < Try.prog.types.size) := kids_rows (by kernel_rfl) (by kernel_rfl)
theorem full : ∀ t e, t < Try.prog.types.size → Try.prog.underlying t = some (.slice e) → 0 < Try.prog.cellsOf e := slices_full_of _ (by kernel_rfl)
set_option maxRecDepth 100000 in
theorem lifted (os : Os) (started : os.Started) (H : Type) (enc : TypeId × Value → H) :
    ReturnsInHanded {} Try.checked os 16 .any (Rows.paintTellsSpec.pre6 enc Try.prog Try.f16 Rows.paintTellsRow.domain false) (Rows.paintTellsSpec.post enc Try.prog Try.f16 false true false false) := by
  refine returnsInHanded_of_change_sized (C := Try.checked) own started (by kernel_rfl) Try.func16
    (ChangeSpec.witness6 (enc := enc) (C := Try.checked) false ⟨#[], #[.slice none 0 0, .int .i64 0, .int .i64 0, .agg #[.int .i64 0, .int .i64 0, .int .i64 0, .int .i64 0, .int .i64 0, .int .i64 0], .agg #[.int .i64 0, .int .u8 0, .int .u8 0, .int .u8 0, .int .u8 0, .int .u8 0, .int .u8 0, .int .u8 0, .int .u8 0, .int .i64 0, .int .i64 0, .int .i64 0, .int .i64 0, .int .i64 0]], []⟩ 8 (by kernel_rfl) (by kernel_rfl) (by kernel_rfl) (by kernel_rfl)) ?_
  intro W base args ds gs before hval0 hW hcnd hsz0 _
  have hval : ∀ (j : Nat) t v, Try.f16.params[j]? = some t → args[j]? = some v → Value.okWide Try.prog W .any base t v := hval0
  have hW' := hW
  obtain ⟨p, q, hA0, hV, rfl, hfz, hnd⟩ := hW
  have hA : DataW.TrodAll enc Try.prog W 0 (fun _ => true) true Try.f16.params.toList args.toList ds p := hA0
  rw [Try.params16] at hA hval
  obtain ⟨v0, vs0, d0, ds0, p0, q0, hargs, rfl, rfl, h0, r0⟩ := trodAll_cons hA
  obtain ⟨v1, vs1, d1, ds1, p1, q1, rfl, rfl, rfl, h1, r1⟩ := trodAll_cons r0
  obtain ⟨v2, vs2, d2, ds2, p2, q2, rfl, rfl, rfl, h2, r2⟩ := trodAll_cons r1
  obtain ⟨v3, vs3, d3, ds3, p3, q3, rfl, rfl, rfl, h3, r3⟩ := trodAll_cons r2
  obtain ⟨v4, vs4, d4, ds4, p4, q4, rfl, rfl, rfl, h4, r4⟩ := trodAll_cons r3
  obtain ⟨rfl, rfl, rfl⟩ := trodAll_nil r4
  obtain rfl : args = #[v0, v1, v2, v3, v4] := by cases args; simp_all
  obtain ⟨H0, M0, u0, a0, m0, i0, vr0, rd0⟩ := arg_row (n := 3) (t := 44) (by kernel_rfl) Try.underlying44 (hval 0 44 v0 rfl rfl) h0 (Img.nil _ W)
  obtain ⟨ls0, s0, _⟩ := ints_of (e := 3) Try.underlying44 Try.underlying3 (by kernel_rfl) rd0
  obtain ⟨x0, rfl, w0⟩ := open_num Try.underlying3 (hval 1 3 v1 rfl rfl) h1
  obtain ⟨x1, rfl, w1⟩ := open_num Try.underlying3 (hval 2 3 v2 rfl rfl) h2
  obtain ⟨l3, rfl, f3⟩ := open_agg (n := 6) (t := 34) (ks := [.int .i64, .int .i64, .int .i64, .int .i64, .int .i64, .int .i64]) (by kernel_rfl) (by kernel_rfl) (hval 3 34 v3 rfl rfl) h3
  obtain ⟨x2, l3, rfl, w2, f3⟩ := fits_int f3
  obtain ⟨x3, l3, rfl, w3, f3⟩ := fits_int f3
  obtain ⟨x4, l3, rfl, w4, f3⟩ := fits_int f3
  obtain ⟨x5, l3, rfl, w5, f3⟩ := fits_int f3
  obtain ⟨x6, l3, rfl, w6, f3⟩ := fits_int f3
  obtain ⟨x7, l3, rfl, w7, f3⟩ := fits_int f3
  obtain rfl := fits_nil f3
  obtain ⟨l4, rfl, f4⟩ := open_agg (n := 6) (t := 48) (ks := [.int .i64, .int .u8, .int .u8, .int .u8, .int .u8, .int .u8, .int .u8, .int .u8, .int .u8, .int .i64, .int .i64, .int .i64, .int .i64, .int .i64]) (by kernel_rfl) (by kernel_rfl) (hval 4 48 v4 rfl rfl) h4
  obtain ⟨x8, l4, rfl, w8, f4⟩ := fits_int f4
  obtain ⟨x9, l4, rfl, w9, f4⟩ := fits_int f4
  obtain ⟨x10, l4, rfl, w10, f4⟩ := fits_int f4
  obtain ⟨x11, l4, rfl, w11, f4⟩ := fits_int f4
  obtain ⟨x12, l4, rfl, w12, f4⟩ := fits_int f4
  obtain ⟨x13, l4, rfl, w13, f4⟩ := fits_int f4
  obtain ⟨x14, l4, rfl, w14, f4⟩ := fits_int f4
  obtain ⟨x15, l4, rfl, w15, f4⟩ := fits_int f4
  obtain ⟨x16, l4, rfl, w16, f4⟩ := fits_int f4
  obtain ⟨x17, l4, rfl, w17, f4⟩ := fits_int f4
  obtain ⟨x18, l4, rfl, w18, f4⟩ := fits_int f4
  obtain ⟨x19, l4, rfl, w19, f4⟩ := fits_int f4
  obtain ⟨x20, l4, rfl, w20, f4⟩ := fits_int f4
  obtain ⟨x21, l4, rfl, w21, f4⟩ := fits_int f4
  obtain rfl := fits_nil f4
  obtain ⟨rfl, rfl⟩ := trodVars_none hV
  refine (SemCall.worldH (ptells u0 ls0 _ x0 x1 x2 x3 x4 x5 x6 x7 x8 x9 x10 x11 x12 x13 x14 x15 x16 x17 x18 x19 x20 x21  (wf_u8 w9) (wf_u8 w10) (wf_u8 w11) (wf_u8 w12) (wf_u8 w13) (wf_u8 w14) (wf_u8 w15) (wf_u8 w16)  (wf_i64 w0) (wf_i64 w1) H0 (s0)) W i0 _ ?_).mono fun e W' ⟨he, bel⟩ => ?_
  · exact VRs.cons' (vr0) (VRs.cons' (.int _ _) (VRs.cons' (.int _ _) (VRs.cons' (agg_vr _ _ rfl) (VRs.cons' (agg_vr _ _ rfl) (VRs.nil)))))
  · subst he
    exact ⟨_, rfl, law_post kids full (by decide) rfl rfl Try.underlying4 hW' rfl bel⟩
theorem over : Rows.paintTellsRow.holds Try.pinned (OpenSpec.ofChange Rows.paintTellsSpec) :=
  OpenClaim.holds_of_wide 16 Try.f16 rfl rfl rfl rfl rfl rfl rfl ⟨rfl, rfl, rfl, rfl, rfl⟩ rfl rfl rfl rfl rfl (by kernel_rfl) Try.func16 (by kernel_rfl)
    (of_decide_eq_true (by kernel_rfl)) (by unfold Func.isWrapper; first | (rw [if_pos (by decide +kernel)]; kernel_rfl) | (rw [if_neg (by decide +kernel)]; exact ⟨rfl, rfl⟩))
    (fun os started H enc _ => lifted os started H enc)
theorem proved : Rows.PaintTellsSaid := over
#print axioms proved
end Go.Proofs.Ytockblbbcikkmaa.paintTells
namespace Go.Proofs.Ytockblbbcikkmaa
/-- The row, under a short name, for the claim. -/
theorem paintTells_holds : Rows.PaintTellsSaid := paintTells.proved
end Go.Proofs.Ytockblbbcikkmaa
