/- The statement MatTells holds: whatever the arguments, the law returns true, and they read as they did; no conditions. -/
import Derived.Test.YtockblbbcikkmaaRows
import Derived.Test.YtockblbbcikkmaaEP
import Derived.Test.YtockblbbcikkmaaMat
import Derived.WalkKit
import Derived.ProofKit
import Derived.OpenShut
import Derived.ChangeOld
import Derived.Below
import Derived.SizedLaws
namespace Go.Proofs.Ytockblbbcikkmaa.matTells
open Go.ChangeShapes Go.WideShapes Go.ChangeAt Go.RowKit E
set_option linter.unusedVariables false
theorem own : ownKnob Try.prog.godebug = none := by kernel_rfl
theorem kids : Kids Try.prog (· < Try.prog.types.size) := kids_rows (by kernel_rfl) (by kernel_rfl)
theorem full : ∀ t e, t < Try.prog.types.size → Try.prog.underlying t = some (.slice e) → 0 < Try.prog.cellsOf e := slices_full_of _ (by kernel_rfl)
set_option maxRecDepth 100000 in
theorem lifted (os : Os) (started : os.Started) (H : Type) (enc : TypeId × Value → H) :
    ReturnsInHanded {} Try.checked os 12 .any (Rows.matTellsSpec.pre6 enc Try.prog Try.f12 Rows.matTellsRow.domain false) (Rows.matTellsSpec.post enc Try.prog Try.f12 false true false false) := by
  refine returnsInHanded_of_change_sized (C := Try.checked) own started (by kernel_rfl) Try.func12
    (ChangeSpec.witness6 (enc := enc) (C := Try.checked) false ⟨#[], #[.agg #[.int .i64 0, .int .i64 0, .int .i64 0, .int .i64 0, .int .i64 0, .int .i64 0], .agg #[.int .i64 0, .int .i64 0, .int .i64 0, .int .i64 0, .int .i64 0, .int .i64 0], .agg #[.int .i64 0, .int .i64 0], .int .i64 0, .int .i64 0, .int .i64 0, .int .i64 0, .int .i64 0, .int .i64 0, .int .i64 0], []⟩ 8 (by kernel_rfl) (by kernel_rfl) (by kernel_rfl) (by kernel_rfl)) ?_
  intro W base args ds gs before hval0 hW hcnd hsz0 _
  have hval : ∀ (j : Nat) t v, Try.f12.params[j]? = some t → args[j]? = some v → Value.okWide Try.prog W .any base t v := hval0
  have hW' := hW
  obtain ⟨p, q, hA0, hV, rfl, hfz, hnd⟩ := hW
  have hA : DataW.TrodAll enc Try.prog W 0 (fun _ => true) true Try.f12.params.toList args.toList ds p := hA0
  rw [Try.params12] at hA hval
  obtain ⟨v0, vs0, d0, ds0, p0, q0, hargs, rfl, rfl, h0, r0⟩ := trodAll_cons hA
  obtain ⟨v1, vs1, d1, ds1, p1, q1, rfl, rfl, rfl, h1, r1⟩ := trodAll_cons r0
  obtain ⟨v2, vs2, d2, ds2, p2, q2, rfl, rfl, rfl, h2, r2⟩ := trodAll_cons r1
  obtain ⟨v3, vs3, d3, ds3, p3, q3, rfl, rfl, rfl, h3, r3⟩ := trodAll_cons r2
  obtain ⟨v4, vs4, d4, ds4, p4, q4, rfl, rfl, rfl, h4, r4⟩ := trodAll_cons r3
  obtain ⟨v5, vs5, d5, ds5, p5, q5, rfl, rfl, rfl, h5, r5⟩ := trodAll_cons r4
  obtain ⟨v6, vs6, d6, ds6, p6, q6, rfl, rfl, rfl, h6, r6⟩ := trodAll_cons r5
  obtain ⟨v7, vs7, d7, ds7, p7, q7, rfl, rfl, rfl, h7, r7⟩ := trodAll_cons r6
  obtain ⟨v8, vs8, d8, ds8, p8, q8, rfl, rfl, rfl, h8, r8⟩ := trodAll_cons r7
  obtain ⟨v9, vs9, d9, ds9, p9, q9, rfl, rfl, rfl, h9, r9⟩ := trodAll_cons r8
  obtain ⟨rfl, rfl, rfl⟩ := trodAll_nil r9
  obtain rfl : args = #[v0, v1, v2, v3, v4, v5, v6, v7, v8, v9] := by cases args; simp_all
  obtain ⟨l0, rfl, f0⟩ := open_agg (n := 6) (t := 34) (ks := [.int .i64, .int .i64, .int .i64, .int .i64, .int .i64, .int .i64]) (by kernel_rfl) (by kernel_rfl) (hval 0 34 v0 rfl rfl) h0
  obtain ⟨x0, l0, rfl, w0, f0⟩ := fits_int f0
  obtain ⟨x1, l0, rfl, w1, f0⟩ := fits_int f0
  obtain ⟨x2, l0, rfl, w2, f0⟩ := fits_int f0
  obtain ⟨x3, l0, rfl, w3, f0⟩ := fits_int f0
  obtain ⟨x4, l0, rfl, w4, f0⟩ := fits_int f0
  obtain ⟨x5, l0, rfl, w5, f0⟩ := fits_int f0
  obtain rfl := fits_nil f0
  obtain ⟨l1, rfl, f1⟩ := open_agg (n := 6) (t := 34) (ks := [.int .i64, .int .i64, .int .i64, .int .i64, .int .i64, .int .i64]) (by kernel_rfl) (by kernel_rfl) (hval 1 34 v1 rfl rfl) h1
  obtain ⟨x6, l1, rfl, w6, f1⟩ := fits_int f1
  obtain ⟨x7, l1, rfl, w7, f1⟩ := fits_int f1
  obtain ⟨x8, l1, rfl, w8, f1⟩ := fits_int f1
  obtain ⟨x9, l1, rfl, w9, f1⟩ := fits_int f1
  obtain ⟨x10, l1, rfl, w10, f1⟩ := fits_int f1
  obtain ⟨x11, l1, rfl, w11, f1⟩ := fits_int f1
  obtain rfl := fits_nil f1
  obtain ⟨l2, rfl, f2⟩ := open_agg (n := 6) (t := 32) (ks := [.int .i64, .int .i64]) (by kernel_rfl) (by kernel_rfl) (hval 2 32 v2 rfl rfl) h2
  obtain ⟨x12, l2, rfl, w12, f2⟩ := fits_int f2
  obtain ⟨x13, l2, rfl, w13, f2⟩ := fits_int f2
  obtain rfl := fits_nil f2
  obtain ⟨x14, rfl, w14⟩ := open_num Try.underlying2 (hval 3 2 v3 rfl rfl) h3
  obtain ⟨x15, rfl, w15⟩ := open_num Try.underlying2 (hval 4 2 v4 rfl rfl) h4
  obtain ⟨x16, rfl, w16⟩ := open_num Try.underlying2 (hval 5 2 v5 rfl rfl) h5
  obtain ⟨x17, rfl, w17⟩ := open_num Try.underlying2 (hval 6 2 v6 rfl rfl) h6
  obtain ⟨x18, rfl, w18⟩ := open_num Try.underlying2 (hval 7 2 v7 rfl rfl) h7
  obtain ⟨x19, rfl, w19⟩ := open_num Try.underlying2 (hval 8 2 v8 rfl rfl) h8
  obtain ⟨x20, rfl, w20⟩ := open_num Try.underlying2 (hval 9 2 v9 rfl rfl) h9
  obtain ⟨rfl, rfl⟩ := trodVars_none hV
  refine (SemCall.world (mtells x0 x1 x2 x3 x4 x5 x6 x7 x8 x9 x10 x11 x12 x13 x14 x15 x16 x17 x18 x19 x20 []) W _ ?_).mono fun e W' ⟨he, bel⟩ => ?_
  · exact .cons (agg_vr _ _ rfl) (.cons (agg_vr _ _ rfl) (.cons (agg_vr _ _ rfl) (.cons (.int _ _) (.cons (.int _ _) (.cons (.int _ _) (.cons (.int _ _) (.cons (.int _ _) (.cons (.int _ _) (.cons (.int _ _) .nil)))))))))
  · subst he
    exact ⟨_, rfl, law_post kids full (by decide) rfl rfl Try.underlying4 hW' rfl bel⟩
theorem over : Rows.matTellsRow.holds Try.pinned (OpenSpec.ofChange Rows.matTellsSpec) :=
  OpenClaim.holds_of_wide 12 Try.f12 rfl rfl rfl rfl rfl rfl rfl ⟨rfl, rfl, rfl, rfl, rfl⟩ rfl rfl rfl rfl rfl (by kernel_rfl) Try.func12 (by kernel_rfl)
    (of_decide_eq_true (by kernel_rfl)) (by unfold Func.isWrapper; first | (rw [if_pos (by decide +kernel)]; kernel_rfl) | (rw [if_neg (by decide +kernel)]; exact ⟨rfl, rfl⟩))
    (fun os started H enc _ => lifted os started H enc)
theorem proved : Rows.MatTellsSaid := over
#print axioms proved
end Go.Proofs.Ytockblbbcikkmaa.matTells
namespace Go.Proofs.Ytockblbbcikkmaa
/-- The row, under a short name, for the claim. -/
theorem matTells_holds : Rows.MatTellsSaid := matTells.proved
end Go.Proofs.Ytockblbbcikkmaa
