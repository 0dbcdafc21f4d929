/- The statement MatChains holds: whatever the arguments, the law returns true, and they read as they did; no conditions. -/
import Derived.Test.YtockblbbcikkmaaRows
import Derived.Test.YtockblbbcikkmaaEP
import Derived.Test.YtockblbbcikkmaaMat2
import Derived.WalkKit
import Derived.ProofKit
import Derived.OpenShut
import Derived.ChangeOld
import Derived.Below
import Derived.SizedLaws
namespace Go.Proofs.Ytockblbbcikkmaa.matChains
open Go.ChangeShapes Go.WideShapes Go.ChangeAt Go.RowKit E
set_option linter.unusedVariables false
theorem own : ownKnob Try.prog.godebug = none := by kernel_rfl
theorem kids : Kids Try.prog (· < Try.prog.types.size) := kids_rows (by kernel_rfl) (by kernel_rfl)
theorem full : ∀ t e, t < Try.prog.types.size → Try.prog.underlying t = some (.slice e) → 0 < Try.prog.cellsOf e := slices_full_of _ (by kernel_rfl)
set_option maxRecDepth 100000 in
theorem lifted (os : Os) (started : os.Started) (H : Type) (enc : TypeId × Value → H) :
    ReturnsInHanded {} Try.checked os 10 .any (Rows.matChainsSpec.pre6 enc Try.prog Try.f10 Rows.matChainsRow.domain false) (Rows.matChainsSpec.post enc Try.prog Try.f10 false true false false) := by
  refine returnsInHanded_of_change_sized (C := Try.checked) own started (by kernel_rfl) Try.func10
    (ChangeSpec.witness6 (enc := enc) (C := Try.checked) false ⟨#[], #[.int .i64 0, .int .i64 0, .int .i64 0, .int .i64 0, .agg #[.int .i64 0, .int .i64 0]], []⟩ 8 (by kernel_rfl) (by kernel_rfl) (by kernel_rfl) (by kernel_rfl)) ?_
  intro W base args ds gs before hval0 hW hcnd hsz0 _
  have hval : ∀ (j : Nat) t v, Try.f10.params[j]? = some t → args[j]? = some v → Value.okWide Try.prog W .any base t v := hval0
  have hW' := hW
  obtain ⟨p, q, hA0, hV, rfl, hfz, hnd⟩ := hW
  have hA : DataW.TrodAll enc Try.prog W 0 (fun _ => true) true Try.f10.params.toList args.toList ds p := hA0
  rw [Try.params10] at hA hval
  obtain ⟨v0, vs0, d0, ds0, p0, q0, hargs, rfl, rfl, h0, r0⟩ := trodAll_cons hA
  obtain ⟨v1, vs1, d1, ds1, p1, q1, rfl, rfl, rfl, h1, r1⟩ := trodAll_cons r0
  obtain ⟨v2, vs2, d2, ds2, p2, q2, rfl, rfl, rfl, h2, r2⟩ := trodAll_cons r1
  obtain ⟨v3, vs3, d3, ds3, p3, q3, rfl, rfl, rfl, h3, r3⟩ := trodAll_cons r2
  obtain ⟨v4, vs4, d4, ds4, p4, q4, rfl, rfl, rfl, h4, r4⟩ := trodAll_cons r3
  obtain ⟨rfl, rfl, rfl⟩ := trodAll_nil r4
  obtain rfl : args = #[v0, v1, v2, v3, v4] := by cases args; simp_all
  obtain ⟨x0, rfl, w0⟩ := open_num Try.underlying2 (hval 0 2 v0 rfl rfl) h0
  obtain ⟨x1, rfl, w1⟩ := open_num Try.underlying2 (hval 1 2 v1 rfl rfl) h1
  obtain ⟨x2, rfl, w2⟩ := open_num Try.underlying2 (hval 2 2 v2 rfl rfl) h2
  obtain ⟨x3, rfl, w3⟩ := open_num Try.underlying2 (hval 3 2 v3 rfl rfl) h3
  obtain ⟨l4, rfl, f4⟩ := open_agg (n := 6) (t := 32) (ks := [.int .i64, .int .i64]) (by kernel_rfl) (by kernel_rfl) (hval 4 32 v4 rfl rfl) h4
  obtain ⟨x4, l4, rfl, w4, f4⟩ := fits_int f4
  obtain ⟨x5, l4, rfl, w5, f4⟩ := fits_int f4
  obtain rfl := fits_nil f4
  obtain ⟨rfl, rfl⟩ := trodVars_none hV
  refine (SemCall.world (mchains x0 x1 x2 x3 x4 x5 []) W _ ?_).mono fun e W' ⟨he, bel⟩ => ?_
  · exact .cons (.int _ _) (.cons (.int _ _) (.cons (.int _ _) (.cons (.int _ _) (.cons (agg_vr _ _ rfl) .nil))))
  · subst he
    exact ⟨_, rfl, law_post kids full (by decide) rfl rfl Try.underlying4 hW' rfl bel⟩
theorem over : Rows.matChainsRow.holds Try.pinned (OpenSpec.ofChange Rows.matChainsSpec) :=
  OpenClaim.holds_of_wide 10 Try.f10 rfl rfl rfl rfl rfl rfl rfl ⟨rfl, rfl, rfl, rfl, rfl⟩ rfl rfl rfl rfl rfl (by kernel_rfl) Try.func10 (by kernel_rfl)
    (of_decide_eq_true (by kernel_rfl)) (by unfold Func.isWrapper; first | (rw [if_pos (by decide +kernel)]; kernel_rfl) | (rw [if_neg (by decide +kernel)]; exact ⟨rfl, rfl⟩))
    (fun os started H enc _ => lifted os started H enc)
theorem proved : Rows.MatChainsSaid := over
#print axioms proved
end Go.Proofs.Ytockblbbcikkmaa.matChains
namespace Go.Proofs.Ytockblbbcikkmaa
/-- The row, under a short name, for the claim. -/
theorem matChains_holds : Rows.MatChainsSaid := matChains.proved
end Go.Proofs.Ytockblbbcikkmaa
