/- The statement FlatWithin holds: whatever the arguments, the law returns true, and they read as they did; no conditions. -/
import Derived.Test.YthoclopeajkcpaaRows
import Derived.Test.YthoclopeajkcpaaEP
import Derived.Test.YthoclopeajkcpaaFlat4
import Derived.WalkKit
import Derived.ProofKit
import Derived.OpenShut
import Derived.ChangeOld
import Derived.Below
import Derived.SizedLaws
namespace Go.Proofs.Ythoclopeajkcpaa.flatWithin
open Go.ChangeShapes Go.WideShapes Go.ChangeAt Go.RowKit E
set_option linter.unusedVariables false
theorem own : ownKnob Try.prog.godebug = none := by kernel_rfl
theorem kids : Kids Try.prog (· < Try.prog.types.size) := kids_rows (by kernel_rfl) (by kernel_rfl)
theorem full : ∀ t e, t < Try.prog.types.size → Try.prog.underlying t = some (.slice e) → 0 < Try.prog.cellsOf e := slices_full_of _ (by kernel_rfl)
set_option maxRecDepth 100000 in
theorem lifted (os : Os) (started : os.Started) (H : Type) (enc : TypeId × Value → H) :
    ReturnsInHanded {} Try.checked os 3 .any (Rows.flatWithinSpec.pre6 enc Try.prog Try.f3 Rows.flatWithinRow.domain false) (Rows.flatWithinSpec.post enc Try.prog Try.f3 false true false false) := by
  refine returnsInHanded_of_change_sized (C := Try.checked) own started (by kernel_rfl) Try.func3
    (ChangeSpec.witness6 (enc := enc) (C := Try.checked) false ⟨#[], #[.agg #[.int .i64 0, .int .i64 0], .agg #[.int .i64 0, .int .i64 0], .agg #[.int .i64 0, .int .i64 0], .agg #[.int .i64 0, .int .i64 0]], []⟩ 8 (by kernel_rfl) (by kernel_rfl) (by kernel_rfl) (by kernel_rfl)) ?_
  intro W base args ds gs before hval0 hW hcnd hsz0 _
  have hval : ∀ (j : Nat) t v, Try.f3.params[j]? = some t → args[j]? = some v → Value.okWide Try.prog W .any base t v := hval0
  have hW' := hW
  obtain ⟨p, q, hA0, hV, rfl, hfz, hnd⟩ := hW
  have hA : DataW.TrodAll enc Try.prog W 0 (fun _ => true) true Try.f3.params.toList args.toList ds p := hA0
  rw [Try.params3] at hA hval
  obtain ⟨v0, vs0, d0, ds0, p0, q0, hargs, rfl, rfl, h0, r0⟩ := trodAll_cons hA
  obtain ⟨v1, vs1, d1, ds1, p1, q1, rfl, rfl, rfl, h1, r1⟩ := trodAll_cons r0
  obtain ⟨v2, vs2, d2, ds2, p2, q2, rfl, rfl, rfl, h2, r2⟩ := trodAll_cons r1
  obtain ⟨v3, vs3, d3, ds3, p3, q3, rfl, rfl, rfl, h3, r3⟩ := trodAll_cons r2
  obtain ⟨rfl, rfl, rfl⟩ := trodAll_nil r3
  obtain rfl : args = #[v0, v1, v2, v3] := by cases args; simp_all
  obtain ⟨l0, rfl, f0⟩ := open_agg (n := 6) (t := 23) (ks := [.int .i64, .int .i64]) (by kernel_rfl) (by kernel_rfl) (hval 0 23 v0 rfl rfl) h0
  obtain ⟨x0, l0, rfl, w0, f0⟩ := fits_int f0
  obtain ⟨x1, l0, rfl, w1, f0⟩ := fits_int f0
  obtain rfl := fits_nil f0
  obtain ⟨l1, rfl, f1⟩ := open_agg (n := 6) (t := 23) (ks := [.int .i64, .int .i64]) (by kernel_rfl) (by kernel_rfl) (hval 1 23 v1 rfl rfl) h1
  obtain ⟨x2, l1, rfl, w2, f1⟩ := fits_int f1
  obtain ⟨x3, l1, rfl, w3, f1⟩ := fits_int f1
  obtain rfl := fits_nil f1
  obtain ⟨l2, rfl, f2⟩ := open_agg (n := 6) (t := 23) (ks := [.int .i64, .int .i64]) (by kernel_rfl) (by kernel_rfl) (hval 2 23 v2 rfl rfl) h2
  obtain ⟨x4, l2, rfl, w4, f2⟩ := fits_int f2
  obtain ⟨x5, l2, rfl, w5, f2⟩ := fits_int f2
  obtain rfl := fits_nil f2
  obtain ⟨l3, rfl, f3⟩ := open_agg (n := 6) (t := 23) (ks := [.int .i64, .int .i64]) (by kernel_rfl) (by kernel_rfl) (hval 3 23 v3 rfl rfl) h3
  obtain ⟨x6, l3, rfl, w6, f3⟩ := fits_int f3
  obtain ⟨x7, l3, rfl, w7, f3⟩ := fits_int f3
  obtain rfl := fits_nil f3
  obtain ⟨rfl, rfl⟩ := trodVars_none hV
  refine (SemCall.world (fwithin (x0, x1) (x2, x3) (x4, x5) (x6, x7) []) W _ ?_).mono fun e W' ⟨he, bel⟩ => ?_
  · exact .cons (agg_vr _ _ rfl) (.cons (agg_vr _ _ rfl) (.cons (agg_vr _ _ rfl) (.cons (agg_vr _ _ rfl) .nil)))
  · subst he
    exact ⟨_, rfl, law_post kids full (by decide) rfl rfl Try.underlying4 hW' rfl bel⟩
theorem over : Rows.flatWithinRow.holds Try.pinned (OpenSpec.ofChange Rows.flatWithinSpec) :=
  OpenClaim.holds_of_wide 3 Try.f3 rfl rfl rfl rfl rfl rfl rfl ⟨rfl, rfl, rfl, rfl, rfl⟩ rfl rfl rfl rfl rfl (by kernel_rfl) Try.func3 (by kernel_rfl)
    (of_decide_eq_true (by kernel_rfl)) (by unfold Func.isWrapper; first | (rw [if_pos (by decide +kernel)]; kernel_rfl) | (rw [if_neg (by decide +kernel)]; exact ⟨rfl, rfl⟩))
    (fun os started H enc _ => lifted os started H enc)
theorem proved : Rows.FlatWithinSaid := over
#print axioms proved
end Go.Proofs.Ythoclopeajkcpaa.flatWithin
namespace Go.Proofs.Ythoclopeajkcpaa
/-- The row, under a short name, for the claim. -/
theorem flatWithin_holds : Rows.FlatWithinSaid := flatWithin.proved
end Go.Proofs.Ythoclopeajkcpaa
