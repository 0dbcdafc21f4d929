/- Merged texts: Doc4 Doc5 Doc6 Doc7 Doc8 Ring Spec2. -/
import Derived.Test.YtlcdbangmbdlcaaZ6
/- Documents: the walks of what judges shapes. -/
namespace Go.Proofs.Ytlcdbangmbdlcaa
open Go Go.RowKit E
attribute [local irreducible] XRun XOps XCode XCal XLoop XQ SemCall
set_option linter.unusedSimpArgs false
set_option linter.unusedVariables false
abbrev shV (s : Sh) (vw vh vp vc vd vda vf vt : Value) : Value := .agg (shC s vw vh vp vc vd vda vf vt).toArray
set_option maxHeartbeats 4000000 in
theorem form_ (s : Sh) (vw vh vp vc vd vda vf vt : Value) (H : AH) (h : ShV H s vw vh vp vc vd vda vf vt) : SemCall Try.prog 62 [shV s vw vh vp vc vd vda vf vt] H (.bool (formB s)) H [] := by
  refine pure_of ?_ rfl
  obtain ⟨a1, e1, rfl⟩ := h.w.form
  obtain ⟨a2, e2, rfl⟩ := h.h.form
  obtain ⟨a3, e3, rfl⟩ := h.paths.form
  have k1 := fun L => keyR_ s.w _ (H ++ L) (h.w.old KyE.m (Old.app' H L))
  have k2 := fun L => keyR_ s.h _ (H ++ L) (h.h.old KyE.m (Old.app' H L))
  have k3 := fun L => pkeys_ s.paths _ (H ++ L) (h.paths.old PkE.m (Old.app' H L))
  obtain ⟨r, hr⟩ : ∃ r, formB s = r := ⟨_, rfl⟩
  rw [hr]
  unfold formB at hr
  by_cases f1 : s.form < 0
  · rw [if_pos (.inl f1)] at hr
    refine XCal.of hm Try.func62 rfl (fun xs w => Try.call62 xs w) Try.ntmps62 Try.results62 rfl ?_
    simp only [go_sem, Nat.reduceEqDiff, Nat.reduceAdd, Nat.reduceSub, Nat.reduceMul, Nat.reduceLT, Nat.reduceLeDiff, Int.reducePow, Int.reduceBEq, Int.reduceBNe, Int.reduceDiv, Int.reduceMod, Int.reduceEq, Int.reduceLT, Int.reduceLE, Int.reduceAdd, Int.reduceSub, Int.reduceMul, Int.reduceNeg, Int.reduceToNat, Int.reduceTDiv, Int.reduceTMod, ↓reduceIte, dt f1]
    rw [← hr]
  · by_cases f2 : 3 < s.form
    · rw [if_pos (.inr f2)] at hr
      refine XCal.of hm Try.func62 rfl (fun xs w => Try.call62 xs w) Try.ntmps62 Try.results62 rfl ?_
      simp only [go_sem, Nat.reduceEqDiff, Nat.reduceAdd, Nat.reduceSub, Nat.reduceMul, Nat.reduceLT, Nat.reduceLeDiff, Int.reducePow, Int.reduceBEq, Int.reduceBNe, Int.reduceDiv, Int.reduceMod, Int.reduceEq, Int.reduceLT, Int.reduceLE, Int.reduceAdd, Int.reduceSub, Int.reduceMul, Int.reduceNeg, Int.reduceToNat, Int.reduceTDiv, Int.reduceTMod, ↓reduceIte, df f1, dt f2]
      rw [← hr]
    · rw [if_neg (by omega)] at hr
      by_cases g : s.form = 2
      · by_cases n1 : s.n < 2
        · rw [if_pos (by omega)] at hr
          refine XCal.of hm Try.func62 rfl (fun xs w => Try.call62 xs w) Try.ntmps62 Try.results62 rfl ?_
          simp only [go_sem, Nat.reduceEqDiff, Nat.reduceAdd, Nat.reduceSub, Nat.reduceMul, Nat.reduceLT, Nat.reduceLeDiff, Int.reducePow, Int.reduceBEq, Int.reduceBNe, Int.reduceDiv, Int.reduceMod, Int.reduceEq, Int.reduceLT, Int.reduceLE, Int.reduceAdd, Int.reduceSub, Int.reduceMul, Int.reduceNeg, Int.reduceToNat, Int.reduceTDiv, Int.reduceTMod, ↓reduceIte, df f1, df f2, bt g, dt n1]
          rw [← hr]
        · by_cases n2 : 16 < s.n
          · rw [if_pos (by omega)] at hr
            refine XCal.of hm Try.func62 rfl (fun xs w => Try.call62 xs w) Try.ntmps62 Try.results62 rfl ?_
            simp only [go_sem, Nat.reduceEqDiff, Nat.reduceAdd, Nat.reduceSub, Nat.reduceMul, Nat.reduceLT, Nat.reduceLeDiff, Int.reducePow, Int.reduceBEq, Int.reduceBNe, Int.reduceDiv, Int.reduceMod, Int.reduceEq, Int.reduceLT, Int.reduceLE, Int.reduceAdd, Int.reduceSub, Int.reduceMul, Int.reduceNeg, Int.reduceToNat, Int.reduceTDiv, Int.reduceTMod, ↓reduceIte, df f1, df f2, bt g, df n1, dt n2]
            rw [← hr]
          · rw [if_neg (by omega), if_neg (by omega)] at hr
            rw [← hr]
            clear hr
            cases c1 : decide ((s.paths.length : Int) = 0) with
            | false =>
              have c1' : ((s.paths.length : Int) == 0) = decide ((s.paths.length : Int) = 0) := rfl
              rw [c1] at c1'
              refine XCal.of hm Try.func62 rfl (fun xs w => Try.call62 xs w) Try.ntmps62 Try.results62 rfl ?_
              simp only [go_sem, Nat.reduceEqDiff, Nat.reduceAdd, Nat.reduceSub, Nat.reduceMul, Nat.reduceLT, Nat.reduceLeDiff, Int.reducePow, Int.reduceBEq, Int.reduceBNe, Int.reduceDiv, Int.reduceMod, Int.reduceEq, Int.reduceLT, Int.reduceLE, Int.reduceAdd, Int.reduceSub, Int.reduceMul, Int.reduceNeg, Int.reduceToNat, Int.reduceTDiv, Int.reduceTMod, ↓reduceIte, df f1, df f2, bt g, nt g, df n1, df n2, bf (show ¬ s.form = 3 by omega), c1']
              repeat ((first | refine (k1 _).x ?_ | refine (k2 _).x ?_ | refine drawnF ?_ (by decide +kernel)); simp only [go_sem, Nat.reduceEqDiff, Nat.reduceAdd, Nat.reduceSub, Nat.reduceMul, Nat.reduceLT, Nat.reduceLeDiff, Int.reducePow, Int.reduceBEq, Int.reduceBNe, Int.reduceDiv, Int.reduceMod, Int.reduceEq, Int.reduceLT, Int.reduceLE, Int.reduceAdd, Int.reduceSub, Int.reduceMul, Int.reduceNeg, Int.reduceToNat, Int.reduceTDiv, Int.reduceTMod, ↓reduceIte, c1, c1'])
            | true =>
              cases c2 : keysB s.w with
              | false =>
                have c1' : ((s.paths.length : Int) == 0) = decide ((s.paths.length : Int) = 0) := rfl
                rw [c1] at c1'
                refine XCal.of hm Try.func62 rfl (fun xs w => Try.call62 xs w) Try.ntmps62 Try.results62 rfl ?_
                simp only [go_sem, Nat.reduceEqDiff, Nat.reduceAdd, Nat.reduceSub, Nat.reduceMul, Nat.reduceLT, Nat.reduceLeDiff, Int.reducePow, Int.reduceBEq, Int.reduceBNe, Int.reduceDiv, Int.reduceMod, Int.reduceEq, Int.reduceLT, Int.reduceLE, Int.reduceAdd, Int.reduceSub, Int.reduceMul, Int.reduceNeg, Int.reduceToNat, Int.reduceTDiv, Int.reduceTMod, ↓reduceIte, df f1, df f2, bt g, nt g, df n1, df n2, bf (show ¬ s.form = 3 by omega), c1']
                repeat ((first | refine (k1 _).x ?_ | refine (k2 _).x ?_ | refine drawnF ?_ (by decide +kernel)); simp only [go_sem, Nat.reduceEqDiff, Nat.reduceAdd, Nat.reduceSub, Nat.reduceMul, Nat.reduceLT, Nat.reduceLeDiff, Int.reducePow, Int.reduceBEq, Int.reduceBNe, Int.reduceDiv, Int.reduceMod, Int.reduceEq, Int.reduceLT, Int.reduceLE, Int.reduceAdd, Int.reduceSub, Int.reduceMul, Int.reduceNeg, Int.reduceToNat, Int.reduceTDiv, Int.reduceTMod, ↓reduceIte, c1, c2, c1'])
              | true =>
                have c1' : ((s.paths.length : Int) == 0) = decide ((s.paths.length : Int) = 0) := rfl
                rw [c1] at c1'
                refine XCal.of hm Try.func62 rfl (fun xs w => Try.call62 xs w) Try.ntmps62 Try.results62 rfl ?_
                simp only [go_sem, Nat.reduceEqDiff, Nat.reduceAdd, Nat.reduceSub, Nat.reduceMul, Nat.reduceLT, Nat.reduceLeDiff, Int.reducePow, Int.reduceBEq, Int.reduceBNe, Int.reduceDiv, Int.reduceMod, Int.reduceEq, Int.reduceLT, Int.reduceLE, Int.reduceAdd, Int.reduceSub, Int.reduceMul, Int.reduceNeg, Int.reduceToNat, Int.reduceTDiv, Int.reduceTMod, ↓reduceIte, df f1, df f2, bt g, nt g, df n1, df n2, bf (show ¬ s.form = 3 by omega), c1']
                repeat ((first | refine (k1 _).x ?_ | refine (k2 _).x ?_ | refine drawnF ?_ (by decide +kernel)); simp only [go_sem, Nat.reduceEqDiff, Nat.reduceAdd, Nat.reduceSub, Nat.reduceMul, Nat.reduceLT, Nat.reduceLeDiff, Int.reducePow, Int.reduceBEq, Int.reduceBNe, Int.reduceDiv, Int.reduceMod, Int.reduceEq, Int.reduceLT, Int.reduceLE, Int.reduceAdd, Int.reduceSub, Int.reduceMul, Int.reduceNeg, Int.reduceToNat, Int.reduceTDiv, Int.reduceTMod, ↓reduceIte, c1, c2, c1'])
      · by_cases n1 : s.n = 0
        · rw [if_neg (by omega)] at hr
          by_cases g3 : s.form = 3
          · rw [if_pos g3] at hr
            rw [← hr]
            clear hr
            cases c1 : decide ((s.w.length : Int) = 0) with
            | false =>
              have c1' : ((s.w.length : Int) == 0) = decide ((s.w.length : Int) = 0) := rfl
              have c2' : ((s.h.length : Int) == 0) = decide ((s.h.length : Int) = 0) := rfl
              simp only [c1] at c1' c2'
              refine XCal.of hm Try.func62 rfl (fun xs w => Try.call62 xs w) Try.ntmps62 Try.results62 rfl ?_
              simp only [go_sem, Nat.reduceEqDiff, Nat.reduceAdd, Nat.reduceSub, Nat.reduceMul, Nat.reduceLT, Nat.reduceLeDiff, Int.reducePow, Int.reduceBEq, Int.reduceBNe, Int.reduceDiv, Int.reduceMod, Int.reduceEq, Int.reduceLT, Int.reduceLE, Int.reduceAdd, Int.reduceSub, Int.reduceMul, Int.reduceNeg, Int.reduceToNat, Int.reduceTDiv, Int.reduceTMod, ↓reduceIte, df f1, df f2, bf g, nf g, nt n1, bt g3, c1', c2']
              repeat ((first | refine (k3 _).x ?_ | refine drawnF ?_ (by decide +kernel)); simp only [go_sem, Nat.reduceEqDiff, Nat.reduceAdd, Nat.reduceSub, Nat.reduceMul, Nat.reduceLT, Nat.reduceLeDiff, Int.reducePow, Int.reduceBEq, Int.reduceBNe, Int.reduceDiv, Int.reduceMod, Int.reduceEq, Int.reduceLT, Int.reduceLE, Int.reduceAdd, Int.reduceSub, Int.reduceMul, Int.reduceNeg, Int.reduceToNat, Int.reduceTDiv, Int.reduceTMod, ↓reduceIte, c1, c1', c2'])
            | true =>
              cases c2 : decide ((s.h.length : Int) = 0) with
              | false =>
                have c1' : ((s.w.length : Int) == 0) = decide ((s.w.length : Int) = 0) := rfl
                have c2' : ((s.h.length : Int) == 0) = decide ((s.h.length : Int) = 0) := rfl
                simp only [c1, c2] at c1' c2'
                refine XCal.of hm Try.func62 rfl (fun xs w => Try.call62 xs w) Try.ntmps62 Try.results62 rfl ?_
                simp only [go_sem, Nat.reduceEqDiff, Nat.reduceAdd, Nat.reduceSub, Nat.reduceMul, Nat.reduceLT, Nat.reduceLeDiff, Int.reducePow, Int.reduceBEq, Int.reduceBNe, Int.reduceDiv, Int.reduceMod, Int.reduceEq, Int.reduceLT, Int.reduceLE, Int.reduceAdd, Int.reduceSub, Int.reduceMul, Int.reduceNeg, Int.reduceToNat, Int.reduceTDiv, Int.reduceTMod, ↓reduceIte, df f1, df f2, bf g, nf g, nt n1, bt g3, c1', c2']
                repeat ((first | refine (k3 _).x ?_ | refine drawnF ?_ (by decide +kernel)); simp only [go_sem, Nat.reduceEqDiff, Nat.reduceAdd, Nat.reduceSub, Nat.reduceMul, Nat.reduceLT, Nat.reduceLeDiff, Int.reducePow, Int.reduceBEq, Int.reduceBNe, Int.reduceDiv, Int.reduceMod, Int.reduceEq, Int.reduceLT, Int.reduceLE, Int.reduceAdd, Int.reduceSub, Int.reduceMul, Int.reduceNeg, Int.reduceToNat, Int.reduceTDiv, Int.reduceTMod, ↓reduceIte, c1, c2, c1', c2'])
              | true =>
                have c1' : ((s.w.length : Int) == 0) = decide ((s.w.length : Int) = 0) := rfl
                have c2' : ((s.h.length : Int) == 0) = decide ((s.h.length : Int) = 0) := rfl
                simp only [c1, c2] at c1' c2'
                refine XCal.of hm Try.func62 rfl (fun xs w => Try.call62 xs w) Try.ntmps62 Try.results62 rfl ?_
                simp only [go_sem, Nat.reduceEqDiff, Nat.reduceAdd, Nat.reduceSub, Nat.reduceMul, Nat.reduceLT, Nat.reduceLeDiff, Int.reducePow, Int.reduceBEq, Int.reduceBNe, Int.reduceDiv, Int.reduceMod, Int.reduceEq, Int.reduceLT, Int.reduceLE, Int.reduceAdd, Int.reduceSub, Int.reduceMul, Int.reduceNeg, Int.reduceToNat, Int.reduceTDiv, Int.reduceTMod, ↓reduceIte, df f1, df f2, bf g, nf g, nt n1, bt g3, c1', c2']
                repeat ((first | refine (k3 _).x ?_ | refine drawnF ?_ (by decide +kernel)); simp only [go_sem, Nat.reduceEqDiff, Nat.reduceAdd, Nat.reduceSub, Nat.reduceMul, Nat.reduceLT, Nat.reduceLeDiff, Int.reducePow, Int.reduceBEq, Int.reduceBNe, Int.reduceDiv, Int.reduceMod, Int.reduceEq, Int.reduceLT, Int.reduceLE, Int.reduceAdd, Int.reduceSub, Int.reduceMul, Int.reduceNeg, Int.reduceToNat, Int.reduceTDiv, Int.reduceTMod, ↓reduceIte, c1, c2, c1', c2'])
          · rw [if_neg g3] at hr
            rw [← hr]
            clear hr
            cases c1 : decide ((s.paths.length : Int) = 0) with
            | false =>
              have c1' : ((s.paths.length : Int) == 0) = decide ((s.paths.length : Int) = 0) := rfl
              rw [c1] at c1'
              refine XCal.of hm Try.func62 rfl (fun xs w => Try.call62 xs w) Try.ntmps62 Try.results62 rfl ?_
              simp only [go_sem, Nat.reduceEqDiff, Nat.reduceAdd, Nat.reduceSub, Nat.reduceMul, Nat.reduceLT, Nat.reduceLeDiff, Int.reducePow, Int.reduceBEq, Int.reduceBNe, Int.reduceDiv, Int.reduceMod, Int.reduceEq, Int.reduceLT, Int.reduceLE, Int.reduceAdd, Int.reduceSub, Int.reduceMul, Int.reduceNeg, Int.reduceToNat, Int.reduceTDiv, Int.reduceTMod, ↓reduceIte, df f1, df f2, bf g, nf g, nt n1, bf g3, c1']
              repeat ((first | refine (k1 _).x ?_ | refine (k2 _).x ?_ | refine drawnF ?_ (by decide +kernel)); simp only [go_sem, Nat.reduceEqDiff, Nat.reduceAdd, Nat.reduceSub, Nat.reduceMul, Nat.reduceLT, Nat.reduceLeDiff, Int.reducePow, Int.reduceBEq, Int.reduceBNe, Int.reduceDiv, Int.reduceMod, Int.reduceEq, Int.reduceLT, Int.reduceLE, Int.reduceAdd, Int.reduceSub, Int.reduceMul, Int.reduceNeg, Int.reduceToNat, Int.reduceTDiv, Int.reduceTMod, ↓reduceIte, c1, c1'])
            | true =>
              cases c2 : keysB s.w with
              | false =>
                have c1' : ((s.paths.length : Int) == 0) = decide ((s.paths.length : Int) = 0) := rfl
                rw [c1] at c1'
                refine XCal.of hm Try.func62 rfl (fun xs w => Try.call62 xs w) Try.ntmps62 Try.results62 rfl ?_
                simp only [go_sem, Nat.reduceEqDiff, Nat.reduceAdd, Nat.reduceSub, Nat.reduceMul, Nat.reduceLT, Nat.reduceLeDiff, Int.reducePow, Int.reduceBEq, Int.reduceBNe, Int.reduceDiv, Int.reduceMod, Int.reduceEq, Int.reduceLT, Int.reduceLE, Int.reduceAdd, Int.reduceSub, Int.reduceMul, Int.reduceNeg, Int.reduceToNat, Int.reduceTDiv, Int.reduceTMod, ↓reduceIte, df f1, df f2, bf g, nf g, nt n1, bf g3, c1']
                repeat ((first | refine (k1 _).x ?_ | refine (k2 _).x ?_ | refine drawnF ?_ (by decide +kernel)); simp only [go_sem, Nat.reduceEqDiff, Nat.reduceAdd, Nat.reduceSub, Nat.reduceMul, Nat.reduceLT, Nat.reduceLeDiff, Int.reducePow, Int.reduceBEq, Int.reduceBNe, Int.reduceDiv, Int.reduceMod, Int.reduceEq, Int.reduceLT, Int.reduceLE, Int.reduceAdd, Int.reduceSub, Int.reduceMul, Int.reduceNeg, Int.reduceToNat, Int.reduceTDiv, Int.reduceTMod, ↓reduceIte, c1, c2, c1'])
              | true =>
                have c1' : ((s.paths.length : Int) == 0) = decide ((s.paths.length : Int) = 0) := rfl
                rw [c1] at c1'
                refine XCal.of hm Try.func62 rfl (fun xs w => Try.call62 xs w) Try.ntmps62 Try.results62 rfl ?_
                simp only [go_sem, Nat.reduceEqDiff, Nat.reduceAdd, Nat.reduceSub, Nat.reduceMul, Nat.reduceLT, Nat.reduceLeDiff, Int.reducePow, Int.reduceBEq, Int.reduceBNe, Int.reduceDiv, Int.reduceMod, Int.reduceEq, Int.reduceLT, Int.reduceLE, Int.reduceAdd, Int.reduceSub, Int.reduceMul, Int.reduceNeg, Int.reduceToNat, Int.reduceTDiv, Int.reduceTMod, ↓reduceIte, df f1, df f2, bf g, nf g, nt n1, bf g3, c1']
                repeat ((first | refine (k1 _).x ?_ | refine (k2 _).x ?_ | refine drawnF ?_ (by decide +kernel)); simp only [go_sem, Nat.reduceEqDiff, Nat.reduceAdd, Nat.reduceSub, Nat.reduceMul, Nat.reduceLT, Nat.reduceLeDiff, Int.reducePow, Int.reduceBEq, Int.reduceBNe, Int.reduceDiv, Int.reduceMod, Int.reduceEq, Int.reduceLT, Int.reduceLE, Int.reduceAdd, Int.reduceSub, Int.reduceMul, Int.reduceNeg, Int.reduceToNat, Int.reduceTDiv, Int.reduceTMod, ↓reduceIte, c1, c2, c1'])
        · rw [if_pos (by omega)] at hr
          refine XCal.of hm Try.func62 rfl (fun xs w => Try.call62 xs w) Try.ntmps62 Try.results62 rfl ?_
          simp only [go_sem, Nat.reduceEqDiff, Nat.reduceAdd, Nat.reduceSub, Nat.reduceMul, Nat.reduceLT, Nat.reduceLeDiff, Int.reducePow, Int.reduceBEq, Int.reduceBNe, Int.reduceDiv, Int.reduceMod, Int.reduceEq, Int.reduceLT, Int.reduceLE, Int.reduceAdd, Int.reduceSub, Int.reduceMul, Int.reduceNeg, Int.reduceToNat, Int.reduceTDiv, Int.reduceTMod, ↓reduceIte, df f1, df f2, bf g, nf g, nf n1]
          rw [← hr]
set_option maxHeartbeats 4000000 in
theorem shapeR_ (s : Sh) (vw vh vp vc vd vda vf vt : Value) (H : AH) (h : ShV H s vw vh vp vc vd vda vf vt) : SemCall Try.prog 50 [shV s vw vh vp vc vd vda vf vt] H (.bool (shapeB s)) H [] := by
  refine pure_of ?_ rfl
  have k1 := fun L => form_ s _ _ _ _ _ _ _ _ (H ++ L) (h.old (Old.app' H L))
  have k2 := fun L => hueR_ s.colors _ (H ++ L) (h.colors.old CkE.m (Old.app' H L))
  have k3 := fun L => keyR_ s.width _ (H ++ L) (h.width.old KyE.m (Old.app' H L))
  have k4 := fun L => keyR_ s.frm _ (H ++ L) (h.frm.old KyE.m (Old.app' H L))
  have k5 := fun L => keyR_ s.to _ (H ++ L) (h.to.old KyE.m (Old.app' H L))
  have k6 := fun L => dashR_ s.dash _ (H ++ L) (h.dash.old InE.m (Old.app' H L))
  have k7 := fun H => spaint_ s.paint H
  have R : ∀ x : Int, ((x == 0) = true ∧ (x == 0) = true) ∨ ((x == 0) = false ∧ (x == 1) = true) ∨ ((x == 0) = false ∧ (x == 1) = false) := fun x => by
    cases h1 : (x == 0) <;> cases h2 : (x == 1) <;> simp
  obtain ⟨a1, e1, rfl⟩ := h.colors.form
  obtain ⟨a2, e2, rfl⟩ := h.width.form
  obtain ⟨a3, e3, rfl⟩ := h.frm.form
  obtain ⟨a4, e4, rfl⟩ := h.to.form
  obtain ⟨a5, e5, rfl⟩ := h.dash.form
  obtain ⟨q, hq⟩ : ∃ q, shapeB s = q := ⟨_, rfl⟩
  rw [hq]
  unfold shapeB at hq
  generalize formB s = p1 at *
  generalize paintB s.paint = p2 at *
  generalize cksB s.colors = p3 at *
  generalize keysB s.width = p4 at *
  generalize keysB s.frm = p5 at *
  generalize keysB s.to = p6 at *
  generalize dashB s.dash = p7 at *
  cases p1 with
  | false =>
    simp only [Bool.false_and] at hq
    subst hq
    refine XCal.of hm Try.func50 rfl (fun xs w => Try.call50 xs w) Try.ntmps50 Try.results50 rfl ?_
    simp only [go_sem, Nat.reduceEqDiff, Nat.reduceAdd, Nat.reduceSub, Nat.reduceMul, Nat.reduceLT, Nat.reduceLeDiff, Int.reducePow, Int.reduceBEq, Int.reduceBNe, Int.reduceDiv, Int.reduceMod, Int.reduceEq, Int.reduceLT, Int.reduceLE, Int.reduceAdd, Int.reduceSub, Int.reduceMul, Int.reduceNeg, Int.reduceToNat, Int.reduceTDiv, Int.reduceTMod, ↓reduceIte]
    repeat ((first | refine (k1 _).x ?_ | refine drawnF ?_ (by decide +kernel)); simp only [go_sem, Nat.reduceEqDiff, Nat.reduceAdd, Nat.reduceSub, Nat.reduceMul, Nat.reduceLT, Nat.reduceLeDiff, Int.reducePow, Int.reduceBEq, Int.reduceBNe, Int.reduceDiv, Int.reduceMod, Int.reduceEq, Int.reduceLT, Int.reduceLE, Int.reduceAdd, Int.reduceSub, Int.reduceMul, Int.reduceNeg, Int.reduceToNat, Int.reduceTDiv, Int.reduceTMod, ↓reduceIte])
  | true =>
    rcases R s.rule with ⟨r, r'⟩ | ⟨r, r'⟩ | ⟨r, r'⟩
    case' inr.inr =>
      simp only [r, r', Bool.or_self, Bool.and_false, Bool.false_and] at hq
      subst hq
      refine XCal.of hm Try.func50 rfl (fun xs w => Try.call50 xs w) Try.ntmps50 Try.results50 rfl ?_
      simp only [go_sem, Nat.reduceEqDiff, Nat.reduceAdd, Nat.reduceSub, Nat.reduceMul, Nat.reduceLT, Nat.reduceLeDiff, Int.reducePow, Int.reduceBEq, Int.reduceBNe, Int.reduceDiv, Int.reduceMod, Int.reduceEq, Int.reduceLT, Int.reduceLE, Int.reduceAdd, Int.reduceSub, Int.reduceMul, Int.reduceNeg, Int.reduceToNat, Int.reduceTDiv, Int.reduceTMod, ↓reduceIte]
      repeat ((first | refine (k1 _).x ?_ | refine drawnF ?_ (by decide +kernel)); simp only [go_sem, Nat.reduceEqDiff, Nat.reduceAdd, Nat.reduceSub, Nat.reduceMul, Nat.reduceLT, Nat.reduceLeDiff, Int.reducePow, Int.reduceBEq, Int.reduceBNe, Int.reduceDiv, Int.reduceMod, Int.reduceEq, Int.reduceLT, Int.reduceLE, Int.reduceAdd, Int.reduceSub, Int.reduceMul, Int.reduceNeg, Int.reduceToNat, Int.reduceTDiv, Int.reduceTMod, ↓reduceIte, r, r'])
    all_goals
      cases h2 : p2 with
      | false =>
        first
        | (simp only [r, r', h2, Bool.true_and, Bool.and_true, Bool.false_and, Bool.and_false, Bool.true_or, Bool.false_or, Bool.or_false, Bool.or_true, Bool.or_self, Bool.and_self] at hq
           subst hq
           refine XCal.of hm Try.func50 rfl (fun xs w => Try.call50 xs w) Try.ntmps50 Try.results50 rfl ?_
           simp only [go_sem, Nat.reduceEqDiff, Nat.reduceAdd, Nat.reduceSub, Nat.reduceMul, Nat.reduceLT, Nat.reduceLeDiff, Int.reducePow, Int.reduceBEq, Int.reduceBNe, Int.reduceDiv, Int.reduceMod, Int.reduceEq, Int.reduceLT, Int.reduceLE, Int.reduceAdd, Int.reduceSub, Int.reduceMul, Int.reduceNeg, Int.reduceToNat, Int.reduceTDiv, Int.reduceTMod, ↓reduceIte]
           repeat ((first | refine (k1 _).x ?_ | refine (k2 _).x ?_ | refine (k3 _).x ?_ | refine (k4 _).x ?_ | refine (k5 _).x ?_ | refine (k6 _).x ?_ | refine (k7 _).x ?_ | refine drawnF ?_ (by decide +kernel)); simp only [go_sem, Nat.reduceEqDiff, Nat.reduceAdd, Nat.reduceSub, Nat.reduceMul, Nat.reduceLT, Nat.reduceLeDiff, Int.reducePow, Int.reduceBEq, Int.reduceBNe, Int.reduceDiv, Int.reduceMod, Int.reduceEq, Int.reduceLT, Int.reduceLE, Int.reduceAdd, Int.reduceSub, Int.reduceMul, Int.reduceNeg, Int.reduceToNat, Int.reduceTDiv, Int.reduceTMod, ↓reduceIte, r, r', h2])
           done)
        | (rcases R s.cap with ⟨c, c'⟩ | ⟨c, c'⟩ | ⟨c, c'⟩
           all_goals
             simp only [r, r', c, c', h2, Bool.true_and, Bool.and_true, Bool.false_and, Bool.and_false, Bool.true_or, Bool.false_or, Bool.or_false, Bool.or_true, Bool.or_self, Bool.and_self] at hq
             subst hq
             refine XCal.of hm Try.func50 rfl (fun xs w => Try.call50 xs w) Try.ntmps50 Try.results50 rfl ?_
             simp only [go_sem, Nat.reduceEqDiff, Nat.reduceAdd, Nat.reduceSub, Nat.reduceMul, Nat.reduceLT, Nat.reduceLeDiff, Int.reducePow, Int.reduceBEq, Int.reduceBNe, Int.reduceDiv, Int.reduceMod, Int.reduceEq, Int.reduceLT, Int.reduceLE, Int.reduceAdd, Int.reduceSub, Int.reduceMul, Int.reduceNeg, Int.reduceToNat, Int.reduceTDiv, Int.reduceTMod, ↓reduceIte]
             repeat ((first | refine (k1 _).x ?_ | refine (k2 _).x ?_ | refine (k3 _).x ?_ | refine (k4 _).x ?_ | refine (k5 _).x ?_ | refine (k6 _).x ?_ | refine (k7 _).x ?_ | refine drawnF ?_ (by decide +kernel)); simp only [go_sem, Nat.reduceEqDiff, Nat.reduceAdd, Nat.reduceSub, Nat.reduceMul, Nat.reduceLT, Nat.reduceLeDiff, Int.reducePow, Int.reduceBEq, Int.reduceBNe, Int.reduceDiv, Int.reduceMod, Int.reduceEq, Int.reduceLT, Int.reduceLE, Int.reduceAdd, Int.reduceSub, Int.reduceMul, Int.reduceNeg, Int.reduceToNat, Int.reduceTDiv, Int.reduceTMod, ↓reduceIte, r, r', c, c', h2]))
      | true =>
        cases h3 : p3 with
        | false =>
          first
          | (simp only [r, r', h2, h3, Bool.true_and, Bool.and_true, Bool.false_and, Bool.and_false, Bool.true_or, Bool.false_or, Bool.or_false, Bool.or_true, Bool.or_self, Bool.and_self] at hq
             subst hq
             refine XCal.of hm Try.func50 rfl (fun xs w => Try.call50 xs w) Try.ntmps50 Try.results50 rfl ?_
             simp only [go_sem, Nat.reduceEqDiff, Nat.reduceAdd, Nat.reduceSub, Nat.reduceMul, Nat.reduceLT, Nat.reduceLeDiff, Int.reducePow, Int.reduceBEq, Int.reduceBNe, Int.reduceDiv, Int.reduceMod, Int.reduceEq, Int.reduceLT, Int.reduceLE, Int.reduceAdd, Int.reduceSub, Int.reduceMul, Int.reduceNeg, Int.reduceToNat, Int.reduceTDiv, Int.reduceTMod, ↓reduceIte]
             repeat ((first | refine (k1 _).x ?_ | refine (k2 _).x ?_ | refine (k3 _).x ?_ | refine (k4 _).x ?_ | refine (k5 _).x ?_ | refine (k6 _).x ?_ | refine (k7 _).x ?_ | refine drawnF ?_ (by decide +kernel)); simp only [go_sem, Nat.reduceEqDiff, Nat.reduceAdd, Nat.reduceSub, Nat.reduceMul, Nat.reduceLT, Nat.reduceLeDiff, Int.reducePow, Int.reduceBEq, Int.reduceBNe, Int.reduceDiv, Int.reduceMod, Int.reduceEq, Int.reduceLT, Int.reduceLE, Int.reduceAdd, Int.reduceSub, Int.reduceMul, Int.reduceNeg, Int.reduceToNat, Int.reduceTDiv, Int.reduceTMod, ↓reduceIte, r, r', h2, h3])
             done)
          | (rcases R s.cap with ⟨c, c'⟩ | ⟨c, c'⟩ | ⟨c, c'⟩
             all_goals
               simp only [r, r', c, c', h2, h3, Bool.true_and, Bool.and_true, Bool.false_and, Bool.and_false, Bool.true_or, Bool.false_or, Bool.or_false, Bool.or_true, Bool.or_self, Bool.and_self] at hq
               subst hq
               refine XCal.of hm Try.func50 rfl (fun xs w => Try.call50 xs w) Try.ntmps50 Try.results50 rfl ?_
               simp only [go_sem, Nat.reduceEqDiff, Nat.reduceAdd, Nat.reduceSub, Nat.reduceMul, Nat.reduceLT, Nat.reduceLeDiff, Int.reducePow, Int.reduceBEq, Int.reduceBNe, Int.reduceDiv, Int.reduceMod, Int.reduceEq, Int.reduceLT, Int.reduceLE, Int.reduceAdd, Int.reduceSub, Int.reduceMul, Int.reduceNeg, Int.reduceToNat, Int.reduceTDiv, Int.reduceTMod, ↓reduceIte]
               repeat ((first | refine (k1 _).x ?_ | refine (k2 _).x ?_ | refine (k3 _).x ?_ | refine (k4 _).x ?_ | refine (k5 _).x ?_ | refine (k6 _).x ?_ | refine (k7 _).x ?_ | refine drawnF ?_ (by decide +kernel)); simp only [go_sem, Nat.reduceEqDiff, Nat.reduceAdd, Nat.reduceSub, Nat.reduceMul, Nat.reduceLT, Nat.reduceLeDiff, Int.reducePow, Int.reduceBEq, Int.reduceBNe, Int.reduceDiv, Int.reduceMod, Int.reduceEq, Int.reduceLT, Int.reduceLE, Int.reduceAdd, Int.reduceSub, Int.reduceMul, Int.reduceNeg, Int.reduceToNat, Int.reduceTDiv, Int.reduceTMod, ↓reduceIte, r, r', c, c', h2, h3]))
        | true =>
          cases h4 : p4 with
          | false =>
            first
            | (simp only [r, r', h2, h3, h4, Bool.true_and, Bool.and_true, Bool.false_and, Bool.and_false, Bool.true_or, Bool.false_or, Bool.or_false, Bool.or_true, Bool.or_self, Bool.and_self] at hq
               subst hq
               refine XCal.of hm Try.func50 rfl (fun xs w => Try.call50 xs w) Try.ntmps50 Try.results50 rfl ?_
               simp only [go_sem, Nat.reduceEqDiff, Nat.reduceAdd, Nat.reduceSub, Nat.reduceMul, Nat.reduceLT, Nat.reduceLeDiff, Int.reducePow, Int.reduceBEq, Int.reduceBNe, Int.reduceDiv, Int.reduceMod, Int.reduceEq, Int.reduceLT, Int.reduceLE, Int.reduceAdd, Int.reduceSub, Int.reduceMul, Int.reduceNeg, Int.reduceToNat, Int.reduceTDiv, Int.reduceTMod, ↓reduceIte]
               repeat ((first | refine (k1 _).x ?_ | refine (k2 _).x ?_ | refine (k3 _).x ?_ | refine (k4 _).x ?_ | refine (k5 _).x ?_ | refine (k6 _).x ?_ | refine (k7 _).x ?_ | refine drawnF ?_ (by decide +kernel)); simp only [go_sem, Nat.reduceEqDiff, Nat.reduceAdd, Nat.reduceSub, Nat.reduceMul, Nat.reduceLT, Nat.reduceLeDiff, Int.reducePow, Int.reduceBEq, Int.reduceBNe, Int.reduceDiv, Int.reduceMod, Int.reduceEq, Int.reduceLT, Int.reduceLE, Int.reduceAdd, Int.reduceSub, Int.reduceMul, Int.reduceNeg, Int.reduceToNat, Int.reduceTDiv, Int.reduceTMod, ↓reduceIte, r, r', h2, h3, h4])
               done)
            | (rcases R s.cap with ⟨c, c'⟩ | ⟨c, c'⟩ | ⟨c, c'⟩
               all_goals
                 simp only [r, r', c, c', h2, h3, h4, Bool.true_and, Bool.and_true, Bool.false_and, Bool.and_false, Bool.true_or, Bool.false_or, Bool.or_false, Bool.or_true, Bool.or_self, Bool.and_self] at hq
                 subst hq
                 refine XCal.of hm Try.func50 rfl (fun xs w => Try.call50 xs w) Try.ntmps50 Try.results50 rfl ?_
                 simp only [go_sem, Nat.reduceEqDiff, Nat.reduceAdd, Nat.reduceSub, Nat.reduceMul, Nat.reduceLT, Nat.reduceLeDiff, Int.reducePow, Int.reduceBEq, Int.reduceBNe, Int.reduceDiv, Int.reduceMod, Int.reduceEq, Int.reduceLT, Int.reduceLE, Int.reduceAdd, Int.reduceSub, Int.reduceMul, Int.reduceNeg, Int.reduceToNat, Int.reduceTDiv, Int.reduceTMod, ↓reduceIte]
                 repeat ((first | refine (k1 _).x ?_ | refine (k2 _).x ?_ | refine (k3 _).x ?_ | refine (k4 _).x ?_ | refine (k5 _).x ?_ | refine (k6 _).x ?_ | refine (k7 _).x ?_ | refine drawnF ?_ (by decide +kernel)); simp only [go_sem, Nat.reduceEqDiff, Nat.reduceAdd, Nat.reduceSub, Nat.reduceMul, Nat.reduceLT, Nat.reduceLeDiff, Int.reducePow, Int.reduceBEq, Int.reduceBNe, Int.reduceDiv, Int.reduceMod, Int.reduceEq, Int.reduceLT, Int.reduceLE, Int.reduceAdd, Int.reduceSub, Int.reduceMul, Int.reduceNeg, Int.reduceToNat, Int.reduceTDiv, Int.reduceTMod, ↓reduceIte, r, r', c, c', h2, h3, h4]))
          | true =>
            cases h5 : p5 with
            | false =>
              first
              | (simp only [r, r', h2, h3, h4, h5, Bool.true_and, Bool.and_true, Bool.false_and, Bool.and_false, Bool.true_or, Bool.false_or, Bool.or_false, Bool.or_true, Bool.or_self, Bool.and_self] at hq
                 subst hq
                 refine XCal.of hm Try.func50 rfl (fun xs w => Try.call50 xs w) Try.ntmps50 Try.results50 rfl ?_
                 simp only [go_sem, Nat.reduceEqDiff, Nat.reduceAdd, Nat.reduceSub, Nat.reduceMul, Nat.reduceLT, Nat.reduceLeDiff, Int.reducePow, Int.reduceBEq, Int.reduceBNe, Int.reduceDiv, Int.reduceMod, Int.reduceEq, Int.reduceLT, Int.reduceLE, Int.reduceAdd, Int.reduceSub, Int.reduceMul, Int.reduceNeg, Int.reduceToNat, Int.reduceTDiv, Int.reduceTMod, ↓reduceIte]
                 repeat ((first | refine (k1 _).x ?_ | refine (k2 _).x ?_ | refine (k3 _).x ?_ | refine (k4 _).x ?_ | refine (k5 _).x ?_ | refine (k6 _).x ?_ | refine (k7 _).x ?_ | refine drawnF ?_ (by decide +kernel)); simp only [go_sem, Nat.reduceEqDiff, Nat.reduceAdd, Nat.reduceSub, Nat.reduceMul, Nat.reduceLT, Nat.reduceLeDiff, Int.reducePow, Int.reduceBEq, Int.reduceBNe, Int.reduceDiv, Int.reduceMod, Int.reduceEq, Int.reduceLT, Int.reduceLE, Int.reduceAdd, Int.reduceSub, Int.reduceMul, Int.reduceNeg, Int.reduceToNat, Int.reduceTDiv, Int.reduceTMod, ↓reduceIte, r, r', h2, h3, h4, h5])
                 done)
              | (rcases R s.cap with ⟨c, c'⟩ | ⟨c, c'⟩ | ⟨c, c'⟩
                 all_goals
                   simp only [r, r', c, c', h2, h3, h4, h5, Bool.true_and, Bool.and_true, Bool.false_and, Bool.and_false, Bool.true_or, Bool.false_or, Bool.or_false, Bool.or_true, Bool.or_self, Bool.and_self] at hq
                   subst hq
                   refine XCal.of hm Try.func50 rfl (fun xs w => Try.call50 xs w) Try.ntmps50 Try.results50 rfl ?_
                   simp only [go_sem, Nat.reduceEqDiff, Nat.reduceAdd, Nat.reduceSub, Nat.reduceMul, Nat.reduceLT, Nat.reduceLeDiff, Int.reducePow, Int.reduceBEq, Int.reduceBNe, Int.reduceDiv, Int.reduceMod, Int.reduceEq, Int.reduceLT, Int.reduceLE, Int.reduceAdd, Int.reduceSub, Int.reduceMul, Int.reduceNeg, Int.reduceToNat, Int.reduceTDiv, Int.reduceTMod, ↓reduceIte]
                   repeat ((first | refine (k1 _).x ?_ | refine (k2 _).x ?_ | refine (k3 _).x ?_ | refine (k4 _).x ?_ | refine (k5 _).x ?_ | refine (k6 _).x ?_ | refine (k7 _).x ?_ | refine drawnF ?_ (by decide +kernel)); simp only [go_sem, Nat.reduceEqDiff, Nat.reduceAdd, Nat.reduceSub, Nat.reduceMul, Nat.reduceLT, Nat.reduceLeDiff, Int.reducePow, Int.reduceBEq, Int.reduceBNe, Int.reduceDiv, Int.reduceMod, Int.reduceEq, Int.reduceLT, Int.reduceLE, Int.reduceAdd, Int.reduceSub, Int.reduceMul, Int.reduceNeg, Int.reduceToNat, Int.reduceTDiv, Int.reduceTMod, ↓reduceIte, r, r', c, c', h2, h3, h4, h5]))
            | true =>
              cases h6 : p6 with
              | false =>
                first
                | (simp only [r, r', h2, h3, h4, h5, h6, Bool.true_and, Bool.and_true, Bool.false_and, Bool.and_false, Bool.true_or, Bool.false_or, Bool.or_false, Bool.or_true, Bool.or_self, Bool.and_self] at hq
                   subst hq
                   refine XCal.of hm Try.func50 rfl (fun xs w => Try.call50 xs w) Try.ntmps50 Try.results50 rfl ?_
                   simp only [go_sem, Nat.reduceEqDiff, Nat.reduceAdd, Nat.reduceSub, Nat.reduceMul, Nat.reduceLT, Nat.reduceLeDiff, Int.reducePow, Int.reduceBEq, Int.reduceBNe, Int.reduceDiv, Int.reduceMod, Int.reduceEq, Int.reduceLT, Int.reduceLE, Int.reduceAdd, Int.reduceSub, Int.reduceMul, Int.reduceNeg, Int.reduceToNat, Int.reduceTDiv, Int.reduceTMod, ↓reduceIte]
                   repeat ((first | refine (k1 _).x ?_ | refine (k2 _).x ?_ | refine (k3 _).x ?_ | refine (k4 _).x ?_ | refine (k5 _).x ?_ | refine (k6 _).x ?_ | refine (k7 _).x ?_ | refine drawnF ?_ (by decide +kernel)); simp only [go_sem, Nat.reduceEqDiff, Nat.reduceAdd, Nat.reduceSub, Nat.reduceMul, Nat.reduceLT, Nat.reduceLeDiff, Int.reducePow, Int.reduceBEq, Int.reduceBNe, Int.reduceDiv, Int.reduceMod, Int.reduceEq, Int.reduceLT, Int.reduceLE, Int.reduceAdd, Int.reduceSub, Int.reduceMul, Int.reduceNeg, Int.reduceToNat, Int.reduceTDiv, Int.reduceTMod, ↓reduceIte, r, r', h2, h3, h4, h5, h6])
                   done)
                | (rcases R s.cap with ⟨c, c'⟩ | ⟨c, c'⟩ | ⟨c, c'⟩
                   all_goals
                     simp only [r, r', c, c', h2, h3, h4, h5, h6, Bool.true_and, Bool.and_true, Bool.false_and, Bool.and_false, Bool.true_or, Bool.false_or, Bool.or_false, Bool.or_true, Bool.or_self, Bool.and_self] at hq
                     subst hq
                     refine XCal.of hm Try.func50 rfl (fun xs w => Try.call50 xs w) Try.ntmps50 Try.results50 rfl ?_
                     simp only [go_sem, Nat.reduceEqDiff, Nat.reduceAdd, Nat.reduceSub, Nat.reduceMul, Nat.reduceLT, Nat.reduceLeDiff, Int.reducePow, Int.reduceBEq, Int.reduceBNe, Int.reduceDiv, Int.reduceMod, Int.reduceEq, Int.reduceLT, Int.reduceLE, Int.reduceAdd, Int.reduceSub, Int.reduceMul, Int.reduceNeg, Int.reduceToNat, Int.reduceTDiv, Int.reduceTMod, ↓reduceIte]
                     repeat ((first | refine (k1 _).x ?_ | refine (k2 _).x ?_ | refine (k3 _).x ?_ | refine (k4 _).x ?_ | refine (k5 _).x ?_ | refine (k6 _).x ?_ | refine (k7 _).x ?_ | refine drawnF ?_ (by decide +kernel)); simp only [go_sem, Nat.reduceEqDiff, Nat.reduceAdd, Nat.reduceSub, Nat.reduceMul, Nat.reduceLT, Nat.reduceLeDiff, Int.reducePow, Int.reduceBEq, Int.reduceBNe, Int.reduceDiv, Int.reduceMod, Int.reduceEq, Int.reduceLT, Int.reduceLE, Int.reduceAdd, Int.reduceSub, Int.reduceMul, Int.reduceNeg, Int.reduceToNat, Int.reduceTDiv, Int.reduceTMod, ↓reduceIte, r, r', c, c', h2, h3, h4, h5, h6]))
              | true =>
                first
                | (simp only [r, r', h2, h3, h4, h5, h6, Bool.true_and, Bool.and_true, Bool.false_and, Bool.and_false, Bool.true_or, Bool.false_or, Bool.or_false, Bool.or_true, Bool.or_self, Bool.and_self] at hq
                   subst hq
                   refine XCal.of hm Try.func50 rfl (fun xs w => Try.call50 xs w) Try.ntmps50 Try.results50 rfl ?_
                   simp only [go_sem, Nat.reduceEqDiff, Nat.reduceAdd, Nat.reduceSub, Nat.reduceMul, Nat.reduceLT, Nat.reduceLeDiff, Int.reducePow, Int.reduceBEq, Int.reduceBNe, Int.reduceDiv, Int.reduceMod, Int.reduceEq, Int.reduceLT, Int.reduceLE, Int.reduceAdd, Int.reduceSub, Int.reduceMul, Int.reduceNeg, Int.reduceToNat, Int.reduceTDiv, Int.reduceTMod, ↓reduceIte]
                   repeat ((first | refine (k1 _).x ?_ | refine (k2 _).x ?_ | refine (k3 _).x ?_ | refine (k4 _).x ?_ | refine (k5 _).x ?_ | refine (k6 _).x ?_ | refine (k7 _).x ?_ | refine drawnF ?_ (by decide +kernel)); simp only [go_sem, Nat.reduceEqDiff, Nat.reduceAdd, Nat.reduceSub, Nat.reduceMul, Nat.reduceLT, Nat.reduceLeDiff, Int.reducePow, Int.reduceBEq, Int.reduceBNe, Int.reduceDiv, Int.reduceMod, Int.reduceEq, Int.reduceLT, Int.reduceLE, Int.reduceAdd, Int.reduceSub, Int.reduceMul, Int.reduceNeg, Int.reduceToNat, Int.reduceTDiv, Int.reduceTMod, ↓reduceIte, r, r', h2, h3, h4, h5, h6])
                   done)
                | (rcases R s.cap with ⟨c, c'⟩ | ⟨c, c'⟩ | ⟨c, c'⟩
                   all_goals
                     simp only [r, r', c, c', h2, h3, h4, h5, h6, Bool.true_and, Bool.and_true, Bool.false_and, Bool.and_false, Bool.true_or, Bool.false_or, Bool.or_false, Bool.or_true, Bool.or_self, Bool.and_self] at hq
                     subst hq
                     refine XCal.of hm Try.func50 rfl (fun xs w => Try.call50 xs w) Try.ntmps50 Try.results50 rfl ?_
                     simp only [go_sem, Nat.reduceEqDiff, Nat.reduceAdd, Nat.reduceSub, Nat.reduceMul, Nat.reduceLT, Nat.reduceLeDiff, Int.reducePow, Int.reduceBEq, Int.reduceBNe, Int.reduceDiv, Int.reduceMod, Int.reduceEq, Int.reduceLT, Int.reduceLE, Int.reduceAdd, Int.reduceSub, Int.reduceMul, Int.reduceNeg, Int.reduceToNat, Int.reduceTDiv, Int.reduceTMod, ↓reduceIte]
                     repeat ((first | refine (k1 _).x ?_ | refine (k2 _).x ?_ | refine (k3 _).x ?_ | refine (k4 _).x ?_ | refine (k5 _).x ?_ | refine (k6 _).x ?_ | refine (k7 _).x ?_ | refine drawnF ?_ (by decide +kernel)); simp only [go_sem, Nat.reduceEqDiff, Nat.reduceAdd, Nat.reduceSub, Nat.reduceMul, Nat.reduceLT, Nat.reduceLeDiff, Int.reducePow, Int.reduceBEq, Int.reduceBNe, Int.reduceDiv, Int.reduceMod, Int.reduceEq, Int.reduceLT, Int.reduceLE, Int.reduceAdd, Int.reduceSub, Int.reduceMul, Int.reduceNeg, Int.reduceToNat, Int.reduceTDiv, Int.reduceTMod, ↓reduceIte, r, r', c, c', h2, h3, h4, h5, h6]))
end Go.Proofs.Ytlcdbangmbdlcaa
/- Documents: the walks of what compares rows. -/
namespace Go.Proofs.Ytlcdbangmbdlcaa
open Go Go.RowKit E
attribute [local irreducible] XRun XOps XCode XCal XLoop XQ SemCall
set_option linter.unusedSimpArgs false
set_option linter.unusedVariables false
theorem eqG_len {α : Type} {q : α → α → Bool} : ∀ {l m : List α}, ¬ l.length = m.length → eqG q l m = false
  | [], [], h => absurd rfl h
  | [], y :: t, _ => rfl
  | x :: s, [], _ => rfl
  | x :: s, y :: t, h => by rw [eqG, eqG_len (fun e => h (by simp [e])), Bool.and_false]
def PtE (_ : AH) (c : List Value) (p : Pt) : Prop := c = [.int .i64 p.1, .int .i64 p.2]
theorem PtE.m : Mono PtE := fun _ _ _ _ _ h => h
theorem Pts.row {K : AH} {v : Value} {l : List Pt} (h : Pts K v l) : RowOf 2 PtE K v l := by
  rcases h with h | ⟨b, g, rest, rw_, h1, h2, h3⟩
  · exact .inl h
  · have e : ptC l = (l.map fun (p : Pt) => [Value.int .i64 p.1, Value.int .i64 p.2]).flatten := by unfold ptC; rw [List.flatMap_def]
    refine .inr ⟨b, g, rest, rw_, l.map fun (p : Pt) => [Value.int .i64 p.1, Value.int .i64 p.2], h1, by rw [← e]; exact h2, by simp, h3, fun i x hx => ⟨_, by rw [List.getElem?_map, hx]; rfl, rfl, rfl⟩⟩
set_option maxHeartbeats 4000000 in
theorem eqKy_ (l m : List Ky) (v w : Value) (H : AH) (h : RowOf 7 KyE H v l) (h' : RowOf 7 KyE H w m) : SemCall Try.prog 58 [v, w] H (.bool (eqG kyQ l m)) H [] := by
  refine pure_of ?_ rfl
  have hlen := h.len
  obtain ⟨va, ve, hv⟩ := h.form
  subst hv
  obtain ⟨wa, we, hw⟩ := h'.form
  subst hw
  refine XCal.of hm Try.func58 rfl (fun xs w => Try.call58 xs w) Try.ntmps58 Try.results58 rfl ?_
  by_cases hl : (l.length : Int) = (m.length : Int)
  · simp only [go_sem, Nat.reduceEqDiff, Nat.reduceAdd, Nat.reduceSub, Nat.reduceMul, Nat.reduceLT, Nat.reduceLeDiff, Int.reducePow, Int.reduceBEq, Int.reduceBNe, Int.reduceDiv, Int.reduceMod, Int.reduceEq, Int.reduceLT, Int.reduceLE, Int.reduceAdd, Int.reduceSub, Int.reduceMul, Int.reduceNeg, Int.reduceToNat, Int.reduceTDiv, Int.reduceTMod, ↓reduceIte, nt hl]
    refine keep (fun k T H' D => H = H' ∧ D = [] ∧ T 0 = .slice va l.length ve ∧ T 1 = .slice wa m.length we ∧ T 12 = .int .i64 (l.length : Int) ∧ ∃ i : Nat, i + k = l.length ∧ T 13 = .int .i64 (i : Int) ∧ eqG kyQ (l.drop i) (m.drop i) = eqG kyQ l m) l.length ⟨rfl, rfl, rfl, rfl, rfl, 0, by omega, rfl, rfl⟩ ?_
    rintro k T H' D ⟨rfl, rfl, h0, h1, h12, i, hi, h13, hr⟩
    by_cases hk : i < l.length
    · obtain ⟨x, hx⟩ : ∃ x, l[i]? = some x := ⟨_, List.getElem?_eq_getElem hk⟩
      obtain ⟨y, hy⟩ : ∃ y, m[i]? = some y := ⟨_, List.getElem?_eq_getElem (by omega)⟩
      obtain ⟨b, g, cells, rw_, c, hve, hb, hc, hcl, hle, hld, hgt⟩ := h.at hx
      have hc : c = kyC x := hc
      subst hc
      obtain ⟨b', g', cells', rw', c', hwe, hb', hc', hcl', hle', hld', hgt'⟩ := h'.at hy
      have hc' : c' = kyC y := hc'
      subst hc'
      rw [hve] at h0
      rw [hwe] at h1
      rw [drop_at hx, drop_at hy, eqG] at hr
      have w1 : IntKind.i64.wrap ((i : Int) + 1) = ((i + 1 : Nat) : Int) := by rw [wi (by omega) (by omega)]; rfl
      have q0 : (0 : Int) ≤ (i : Int) := by omega
      have q1 : (i : Int) < (l.length : Int) := by omega
      have q2 : (i : Int) < (m.length : Int) := by omega
      cases hq : kyQ x y with
      | true =>
        rw [hq, Bool.true_and] at hr
        unfold kyQ at hq
        simp only [go_sem, Nat.reduceEqDiff, Nat.reduceAdd, Nat.reduceSub, Nat.reduceMul, Nat.reduceLT, Nat.reduceLeDiff, Int.reducePow, Int.reduceBEq, Int.reduceBNe, Int.reduceDiv, Int.reduceMod, Int.reduceEq, Int.reduceLT, Int.reduceLE, Int.reduceAdd, Int.reduceSub, Int.reduceMul, Int.reduceNeg, Int.reduceToNat, Int.reduceTDiv, Int.reduceTMod, ↓reduceIte, h0, h1, h12, h13, dt q1]
        repeat ((first | refine drawnF ?_ (by decide +kernel)); simp only [go_sem, Nat.reduceEqDiff, Nat.reduceAdd, Nat.reduceSub, Nat.reduceMul, Nat.reduceLT, Nat.reduceLeDiff, Int.reducePow, Int.reduceBEq, Int.reduceBNe, Int.reduceDiv, Int.reduceMod, Int.reduceEq, Int.reduceLT, Int.reduceLE, Int.reduceAdd, Int.reduceSub, Int.reduceMul, Int.reduceNeg, Int.reduceToNat, Int.reduceTDiv, Int.reduceTMod, ↓reduceIte, h0, h1, h12, h13, q0, q1, q2, Int.toNat_natCast, Nat.zero_add, hb, hb', hld, hld', hq, w1, bne])
        exact ⟨k - 1, by omega, hve.symm, hwe.symm, i + 1, by omega, rfl, hr⟩
      | false =>
        rw [hq, Bool.false_and] at hr
        unfold kyQ at hq
        simp only [go_sem, Nat.reduceEqDiff, Nat.reduceAdd, Nat.reduceSub, Nat.reduceMul, Nat.reduceLT, Nat.reduceLeDiff, Int.reducePow, Int.reduceBEq, Int.reduceBNe, Int.reduceDiv, Int.reduceMod, Int.reduceEq, Int.reduceLT, Int.reduceLE, Int.reduceAdd, Int.reduceSub, Int.reduceMul, Int.reduceNeg, Int.reduceToNat, Int.reduceTDiv, Int.reduceTMod, ↓reduceIte, h0, h1, h12, h13, dt q1]
        repeat ((first | refine drawnF ?_ (by decide +kernel)); simp only [go_sem, Nat.reduceEqDiff, Nat.reduceAdd, Nat.reduceSub, Nat.reduceMul, Nat.reduceLT, Nat.reduceLeDiff, Int.reducePow, Int.reduceBEq, Int.reduceBNe, Int.reduceDiv, Int.reduceMod, Int.reduceEq, Int.reduceLT, Int.reduceLE, Int.reduceAdd, Int.reduceSub, Int.reduceMul, Int.reduceNeg, Int.reduceToNat, Int.reduceTDiv, Int.reduceTMod, ↓reduceIte, h0, h1, h12, h13, q0, q1, q2, Int.toNat_natCast, Nat.zero_add, hb, hb', hld, hld', hq, w1, bne])
        rw [← hr]
    · rw [List.drop_eq_nil_of_le (by omega), List.drop_eq_nil_of_le (by omega)] at hr
      simp only [go_sem, Nat.reduceEqDiff, Nat.reduceAdd, Nat.reduceSub, Nat.reduceMul, Nat.reduceLT, Nat.reduceLeDiff, Int.reducePow, Int.reduceBEq, Int.reduceBNe, Int.reduceDiv, Int.reduceMod, Int.reduceEq, Int.reduceLT, Int.reduceLE, Int.reduceAdd, Int.reduceSub, Int.reduceMul, Int.reduceNeg, Int.reduceToNat, Int.reduceTDiv, Int.reduceTMod, ↓reduceIte, h0, h1, h12, h13, df (show ¬ (i : Int) < (l.length : Int) by omega)]
      rw [← hr]; rfl
  · rw [eqG_len (by omega)]
    simp only [go_sem, Nat.reduceEqDiff, Nat.reduceAdd, Nat.reduceSub, Nat.reduceMul, Nat.reduceLT, Nat.reduceLeDiff, Int.reducePow, Int.reduceBEq, Int.reduceBNe, Int.reduceDiv, Int.reduceMod, Int.reduceEq, Int.reduceLT, Int.reduceLE, Int.reduceAdd, Int.reduceSub, Int.reduceMul, Int.reduceNeg, Int.reduceToNat, Int.reduceTDiv, Int.reduceTMod, ↓reduceIte, nf hl]
set_option maxHeartbeats 4000000 in
theorem eqPt_ (l m : List Pt) (v w : Value) (H : AH) (h : RowOf 2 PtE H v l) (h' : RowOf 2 PtE H w m) : SemCall Try.prog 77 [v, w] H (.bool (eqG ptQ l m)) H [] := by
  refine pure_of ?_ rfl
  have hlen := h.len
  obtain ⟨va, ve, hv⟩ := h.form
  subst hv
  obtain ⟨wa, we, hw⟩ := h'.form
  subst hw
  refine XCal.of hm Try.func77 rfl (fun xs w => Try.call77 xs w) Try.ntmps77 Try.results77 rfl ?_
  by_cases hl : (l.length : Int) = (m.length : Int)
  · simp only [go_sem, Nat.reduceEqDiff, Nat.reduceAdd, Nat.reduceSub, Nat.reduceMul, Nat.reduceLT, Nat.reduceLeDiff, Int.reducePow, Int.reduceBEq, Int.reduceBNe, Int.reduceDiv, Int.reduceMod, Int.reduceEq, Int.reduceLT, Int.reduceLE, Int.reduceAdd, Int.reduceSub, Int.reduceMul, Int.reduceNeg, Int.reduceToNat, Int.reduceTDiv, Int.reduceTMod, ↓reduceIte, nt hl]
    refine keep (fun k T H' D => H = H' ∧ D = [] ∧ T 0 = .slice va l.length ve ∧ T 1 = .slice wa m.length we ∧ T 12 = .int .i64 (l.length : Int) ∧ ∃ i : Nat, i + k = l.length ∧ T 13 = .int .i64 (i : Int) ∧ eqG ptQ (l.drop i) (m.drop i) = eqG ptQ l m) l.length ⟨rfl, rfl, rfl, rfl, rfl, 0, by omega, rfl, rfl⟩ ?_
    rintro k T H' D ⟨rfl, rfl, h0, h1, h12, i, hi, h13, hr⟩
    by_cases hk : i < l.length
    · obtain ⟨x, hx⟩ : ∃ x, l[i]? = some x := ⟨_, List.getElem?_eq_getElem hk⟩
      obtain ⟨y, hy⟩ : ∃ y, m[i]? = some y := ⟨_, List.getElem?_eq_getElem (by omega)⟩
      obtain ⟨b, g, cells, rw_, c, hve, hb, hc, hcl, hle, hld, hgt⟩ := h.at hx
      have hc : c = [.int .i64 x.1, .int .i64 x.2] := hc
      subst hc
      obtain ⟨b', g', cells', rw', c', hwe, hb', hc', hcl', hle', hld', hgt'⟩ := h'.at hy
      have hc' : c' = [.int .i64 y.1, .int .i64 y.2] := hc'
      subst hc'
      rw [hve] at h0
      rw [hwe] at h1
      rw [drop_at hx, drop_at hy, eqG] at hr
      have w1 : IntKind.i64.wrap ((i : Int) + 1) = ((i + 1 : Nat) : Int) := by rw [wi (by omega) (by omega)]; rfl
      have q0 : (0 : Int) ≤ (i : Int) := by omega
      have q1 : (i : Int) < (l.length : Int) := by omega
      have q2 : (i : Int) < (m.length : Int) := by omega
      cases hq : ptQ x y with
      | true =>
        rw [hq, Bool.true_and] at hr
        unfold ptQ at hq
        simp only [go_sem, Nat.reduceEqDiff, Nat.reduceAdd, Nat.reduceSub, Nat.reduceMul, Nat.reduceLT, Nat.reduceLeDiff, Int.reducePow, Int.reduceBEq, Int.reduceBNe, Int.reduceDiv, Int.reduceMod, Int.reduceEq, Int.reduceLT, Int.reduceLE, Int.reduceAdd, Int.reduceSub, Int.reduceMul, Int.reduceNeg, Int.reduceToNat, Int.reduceTDiv, Int.reduceTMod, ↓reduceIte, h0, h1, h12, h13, dt q1]
        repeat ((first | refine drawnF ?_ (by decide +kernel)); simp only [go_sem, Nat.reduceEqDiff, Nat.reduceAdd, Nat.reduceSub, Nat.reduceMul, Nat.reduceLT, Nat.reduceLeDiff, Int.reducePow, Int.reduceBEq, Int.reduceBNe, Int.reduceDiv, Int.reduceMod, Int.reduceEq, Int.reduceLT, Int.reduceLE, Int.reduceAdd, Int.reduceSub, Int.reduceMul, Int.reduceNeg, Int.reduceToNat, Int.reduceTDiv, Int.reduceTMod, ↓reduceIte, h0, h1, h12, h13, q0, q1, q2, Int.toNat_natCast, Nat.zero_add, hb, hb', hld, hld', hq, w1, bne])
        exact ⟨k - 1, by omega, hve.symm, hwe.symm, i + 1, by omega, rfl, hr⟩
      | false =>
        rw [hq, Bool.false_and] at hr
        unfold ptQ at hq
        simp only [go_sem, Nat.reduceEqDiff, Nat.reduceAdd, Nat.reduceSub, Nat.reduceMul, Nat.reduceLT, Nat.reduceLeDiff, Int.reducePow, Int.reduceBEq, Int.reduceBNe, Int.reduceDiv, Int.reduceMod, Int.reduceEq, Int.reduceLT, Int.reduceLE, Int.reduceAdd, Int.reduceSub, Int.reduceMul, Int.reduceNeg, Int.reduceToNat, Int.reduceTDiv, Int.reduceTMod, ↓reduceIte, h0, h1, h12, h13, dt q1]
        repeat ((first | refine drawnF ?_ (by decide +kernel)); simp only [go_sem, Nat.reduceEqDiff, Nat.reduceAdd, Nat.reduceSub, Nat.reduceMul, Nat.reduceLT, Nat.reduceLeDiff, Int.reducePow, Int.reduceBEq, Int.reduceBNe, Int.reduceDiv, Int.reduceMod, Int.reduceEq, Int.reduceLT, Int.reduceLE, Int.reduceAdd, Int.reduceSub, Int.reduceMul, Int.reduceNeg, Int.reduceToNat, Int.reduceTDiv, Int.reduceTMod, ↓reduceIte, h0, h1, h12, h13, q0, q1, q2, Int.toNat_natCast, Nat.zero_add, hb, hb', hld, hld', hq, w1, bne])
        rw [← hr]
    · rw [List.drop_eq_nil_of_le (by omega), List.drop_eq_nil_of_le (by omega)] at hr
      simp only [go_sem, Nat.reduceEqDiff, Nat.reduceAdd, Nat.reduceSub, Nat.reduceMul, Nat.reduceLT, Nat.reduceLeDiff, Int.reducePow, Int.reduceBEq, Int.reduceBNe, Int.reduceDiv, Int.reduceMod, Int.reduceEq, Int.reduceLT, Int.reduceLE, Int.reduceAdd, Int.reduceSub, Int.reduceMul, Int.reduceNeg, Int.reduceToNat, Int.reduceTDiv, Int.reduceTMod, ↓reduceIte, h0, h1, h12, h13, df (show ¬ (i : Int) < (l.length : Int) by omega)]
      rw [← hr]; rfl
  · rw [eqG_len (by omega)]
    simp only [go_sem, Nat.reduceEqDiff, Nat.reduceAdd, Nat.reduceSub, Nat.reduceMul, Nat.reduceLT, Nat.reduceLeDiff, Int.reducePow, Int.reduceBEq, Int.reduceBNe, Int.reduceDiv, Int.reduceMod, Int.reduceEq, Int.reduceLT, Int.reduceLE, Int.reduceAdd, Int.reduceSub, Int.reduceMul, Int.reduceNeg, Int.reduceToNat, Int.reduceTDiv, Int.reduceTMod, ↓reduceIte, nf hl]
set_option maxHeartbeats 4000000 in
theorem eqCk_ (l m : List Ck) (v w : Value) (H : AH) (h : RowOf 10 CkE H v l) (h' : RowOf 10 CkE H w m) : SemCall Try.prog 60 [v, w] H (.bool (eqG ckQ l m)) H [] := by
  refine pure_of ?_ rfl
  have hlen := h.len
  obtain ⟨va, ve, hv⟩ := h.form
  subst hv
  obtain ⟨wa, we, hw⟩ := h'.form
  subst hw
  refine XCal.of hm Try.func60 rfl (fun xs w => Try.call60 xs w) Try.ntmps60 Try.results60 rfl ?_
  by_cases hl : (l.length : Int) = (m.length : Int)
  · simp only [go_sem, Nat.reduceEqDiff, Nat.reduceAdd, Nat.reduceSub, Nat.reduceMul, Nat.reduceLT, Nat.reduceLeDiff, Int.reducePow, Int.reduceBEq, Int.reduceBNe, Int.reduceDiv, Int.reduceMod, Int.reduceEq, Int.reduceLT, Int.reduceLE, Int.reduceAdd, Int.reduceSub, Int.reduceMul, Int.reduceNeg, Int.reduceToNat, Int.reduceTDiv, Int.reduceTMod, ↓reduceIte, nt hl]
    refine keep (fun k T H' D => H = H' ∧ D = [] ∧ T 0 = .slice va l.length ve ∧ T 1 = .slice wa m.length we ∧ T 12 = .int .i64 (l.length : Int) ∧ ∃ i : Nat, i + k = l.length ∧ T 13 = .int .i64 (i : Int) ∧ eqG ckQ (l.drop i) (m.drop i) = eqG ckQ l m) l.length ⟨rfl, rfl, rfl, rfl, rfl, 0, by omega, rfl, rfl⟩ ?_
    rintro k T H' D ⟨rfl, rfl, h0, h1, h12, i, hi, h13, hr⟩
    by_cases hk : i < l.length
    · obtain ⟨x, hx⟩ : ∃ x, l[i]? = some x := ⟨_, List.getElem?_eq_getElem hk⟩
      obtain ⟨y, hy⟩ : ∃ y, m[i]? = some y := ⟨_, List.getElem?_eq_getElem (by omega)⟩
      obtain ⟨b, g, cells, rw_, c, hve, hb, hc, hcl, hle, hld, hgt⟩ := h.at hx
      have hc : c = ckC x := hc
      subst hc
      obtain ⟨b', g', cells', rw', c', hwe, hb', hc', hcl', hle', hld', hgt'⟩ := h'.at hy
      have hc' : c' = ckC y := hc'
      subst hc'
      rw [hve] at h0
      rw [hwe] at h1
      rw [drop_at hx, drop_at hy, eqG] at hr
      have w1 : IntKind.i64.wrap ((i : Int) + 1) = ((i + 1 : Nat) : Int) := by rw [wi (by omega) (by omega)]; rfl
      have q0 : (0 : Int) ≤ (i : Int) := by omega
      have q1 : (i : Int) < (l.length : Int) := by omega
      have q2 : (i : Int) < (m.length : Int) := by omega
      cases hq : ckQ x y with
      | true =>
        rw [hq, Bool.true_and] at hr
        unfold ckQ at hq
        simp only [go_sem, Nat.reduceEqDiff, Nat.reduceAdd, Nat.reduceSub, Nat.reduceMul, Nat.reduceLT, Nat.reduceLeDiff, Int.reducePow, Int.reduceBEq, Int.reduceBNe, Int.reduceDiv, Int.reduceMod, Int.reduceEq, Int.reduceLT, Int.reduceLE, Int.reduceAdd, Int.reduceSub, Int.reduceMul, Int.reduceNeg, Int.reduceToNat, Int.reduceTDiv, Int.reduceTMod, ↓reduceIte, h0, h1, h12, h13, dt q1]
        repeat ((first | refine drawnF ?_ (by decide +kernel)); simp only [go_sem, Nat.reduceEqDiff, Nat.reduceAdd, Nat.reduceSub, Nat.reduceMul, Nat.reduceLT, Nat.reduceLeDiff, Int.reducePow, Int.reduceBEq, Int.reduceBNe, Int.reduceDiv, Int.reduceMod, Int.reduceEq, Int.reduceLT, Int.reduceLE, Int.reduceAdd, Int.reduceSub, Int.reduceMul, Int.reduceNeg, Int.reduceToNat, Int.reduceTDiv, Int.reduceTMod, ↓reduceIte, h0, h1, h12, h13, q0, q1, q2, Int.toNat_natCast, Nat.zero_add, hb, hb', hld, hld', hq, w1, bne])
        exact ⟨k - 1, by omega, hve.symm, hwe.symm, i + 1, by omega, rfl, hr⟩
      | false =>
        rw [hq, Bool.false_and] at hr
        unfold ckQ at hq
        simp only [go_sem, Nat.reduceEqDiff, Nat.reduceAdd, Nat.reduceSub, Nat.reduceMul, Nat.reduceLT, Nat.reduceLeDiff, Int.reducePow, Int.reduceBEq, Int.reduceBNe, Int.reduceDiv, Int.reduceMod, Int.reduceEq, Int.reduceLT, Int.reduceLE, Int.reduceAdd, Int.reduceSub, Int.reduceMul, Int.reduceNeg, Int.reduceToNat, Int.reduceTDiv, Int.reduceTMod, ↓reduceIte, h0, h1, h12, h13, dt q1]
        repeat ((first | refine drawnF ?_ (by decide +kernel)); simp only [go_sem, Nat.reduceEqDiff, Nat.reduceAdd, Nat.reduceSub, Nat.reduceMul, Nat.reduceLT, Nat.reduceLeDiff, Int.reducePow, Int.reduceBEq, Int.reduceBNe, Int.reduceDiv, Int.reduceMod, Int.reduceEq, Int.reduceLT, Int.reduceLE, Int.reduceAdd, Int.reduceSub, Int.reduceMul, Int.reduceNeg, Int.reduceToNat, Int.reduceTDiv, Int.reduceTMod, ↓reduceIte, h0, h1, h12, h13, q0, q1, q2, Int.toNat_natCast, Nat.zero_add, hb, hb', hld, hld', hq, w1, bne])
        rw [← hr]
    · rw [List.drop_eq_nil_of_le (by omega), List.drop_eq_nil_of_le (by omega)] at hr
      simp only [go_sem, Nat.reduceEqDiff, Nat.reduceAdd, Nat.reduceSub, Nat.reduceMul, Nat.reduceLT, Nat.reduceLeDiff, Int.reducePow, Int.reduceBEq, Int.reduceBNe, Int.reduceDiv, Int.reduceMod, Int.reduceEq, Int.reduceLT, Int.reduceLE, Int.reduceAdd, Int.reduceSub, Int.reduceMul, Int.reduceNeg, Int.reduceToNat, Int.reduceTDiv, Int.reduceTMod, ↓reduceIte, h0, h1, h12, h13, df (show ¬ (i : Int) < (l.length : Int) by omega)]
      rw [← hr]; rfl
  · rw [eqG_len (by omega)]
    simp only [go_sem, Nat.reduceEqDiff, Nat.reduceAdd, Nat.reduceSub, Nat.reduceMul, Nat.reduceLT, Nat.reduceLeDiff, Int.reducePow, Int.reduceBEq, Int.reduceBNe, Int.reduceDiv, Int.reduceMod, Int.reduceEq, Int.reduceLT, Int.reduceLE, Int.reduceAdd, Int.reduceSub, Int.reduceMul, Int.reduceNeg, Int.reduceToNat, Int.reduceTDiv, Int.reduceTMod, ↓reduceIte, nf hl]
set_option maxHeartbeats 4000000 in
theorem eqIn_ (l m : List Int) (v w : Value) (H : AH) (h : RowOf 1 InE H v l) (h' : RowOf 1 InE H w m) : SemCall Try.prog 61 [v, w] H (.bool (eqG inQ l m)) H [] := by
  refine pure_of ?_ rfl
  have hlen := h.len
  obtain ⟨va, ve, hv⟩ := h.form
  subst hv
  obtain ⟨wa, we, hw⟩ := h'.form
  subst hw
  refine XCal.of hm Try.func61 rfl (fun xs w => Try.call61 xs w) Try.ntmps61 Try.results61 rfl ?_
  by_cases hl : (l.length : Int) = (m.length : Int)
  · simp only [go_sem, Nat.reduceEqDiff, Nat.reduceAdd, Nat.reduceSub, Nat.reduceMul, Nat.reduceLT, Nat.reduceLeDiff, Int.reducePow, Int.reduceBEq, Int.reduceBNe, Int.reduceDiv, Int.reduceMod, Int.reduceEq, Int.reduceLT, Int.reduceLE, Int.reduceAdd, Int.reduceSub, Int.reduceMul, Int.reduceNeg, Int.reduceToNat, Int.reduceTDiv, Int.reduceTMod, ↓reduceIte, nt hl]
    refine keep (fun k T H' D => H = H' ∧ D = [] ∧ T 0 = .slice va l.length ve ∧ T 1 = .slice wa m.length we ∧ T 12 = .int .i64 (l.length : Int) ∧ ∃ i : Nat, i + k = l.length ∧ T 13 = .int .i64 (i : Int) ∧ eqG inQ (l.drop i) (m.drop i) = eqG inQ l m) l.length ⟨rfl, rfl, rfl, rfl, rfl, 0, by omega, rfl, rfl⟩ ?_
    rintro k T H' D ⟨rfl, rfl, h0, h1, h12, i, hi, h13, hr⟩
    by_cases hk : i < l.length
    · obtain ⟨x, hx⟩ : ∃ x, l[i]? = some x := ⟨_, List.getElem?_eq_getElem hk⟩
      obtain ⟨y, hy⟩ : ∃ y, m[i]? = some y := ⟨_, List.getElem?_eq_getElem (by omega)⟩
      obtain ⟨b, g, cells, rw_, c, hve, hb, hc, hcl, hle, hld, hgt⟩ := h.at hx
      have hc : c = [.int .i64 x] := hc
      subst hc
      obtain ⟨b', g', cells', rw', c', hwe, hb', hc', hcl', hle', hld', hgt'⟩ := h'.at hy
      have hc' : c' = [.int .i64 y] := hc'
      subst hc'
      have hg := hgt 0 (by omega)
      have hg' := hgt' 0 (by omega)
      rw [Nat.mul_one, Nat.add_zero] at hg hg'
      have hg : cells[i]? = some (.int .i64 x) := hg
      have hg' : cells'[i]? = some (.int .i64 y) := hg'
      rw [hve] at h0
      rw [hwe] at h1
      rw [drop_at hx, drop_at hy, eqG] at hr
      have w1 : IntKind.i64.wrap ((i : Int) + 1) = ((i + 1 : Nat) : Int) := by rw [wi (by omega) (by omega)]; rfl
      have q0 : (0 : Int) ≤ (i : Int) := by omega
      have q1 : (i : Int) < (l.length : Int) := by omega
      have q2 : (i : Int) < (m.length : Int) := by omega
      cases hq : inQ x y with
      | true =>
        rw [hq, Bool.true_and] at hr
        unfold inQ at hq
        simp only [go_sem, Nat.reduceEqDiff, Nat.reduceAdd, Nat.reduceSub, Nat.reduceMul, Nat.reduceLT, Nat.reduceLeDiff, Int.reducePow, Int.reduceBEq, Int.reduceBNe, Int.reduceDiv, Int.reduceMod, Int.reduceEq, Int.reduceLT, Int.reduceLE, Int.reduceAdd, Int.reduceSub, Int.reduceMul, Int.reduceNeg, Int.reduceToNat, Int.reduceTDiv, Int.reduceTMod, ↓reduceIte, h0, h1, h12, h13, dt q1]
        repeat ((first | refine drawnF ?_ (by decide +kernel)); simp only [go_sem, Nat.reduceEqDiff, Nat.reduceAdd, Nat.reduceSub, Nat.reduceMul, Nat.reduceLT, Nat.reduceLeDiff, Int.reducePow, Int.reduceBEq, Int.reduceBNe, Int.reduceDiv, Int.reduceMod, Int.reduceEq, Int.reduceLT, Int.reduceLE, Int.reduceAdd, Int.reduceSub, Int.reduceMul, Int.reduceNeg, Int.reduceToNat, Int.reduceTDiv, Int.reduceTMod, ↓reduceIte, h0, h1, h12, h13, q0, q1, q2, Int.toNat_natCast, Nat.zero_add, hb, hb', hg, hg', Nat.mul_one, hq, w1, bne])
        exact ⟨k - 1, by omega, hve.symm, hwe.symm, i + 1, by omega, rfl, hr⟩
      | false =>
        rw [hq, Bool.false_and] at hr
        unfold inQ at hq
        simp only [go_sem, Nat.reduceEqDiff, Nat.reduceAdd, Nat.reduceSub, Nat.reduceMul, Nat.reduceLT, Nat.reduceLeDiff, Int.reducePow, Int.reduceBEq, Int.reduceBNe, Int.reduceDiv, Int.reduceMod, Int.reduceEq, Int.reduceLT, Int.reduceLE, Int.reduceAdd, Int.reduceSub, Int.reduceMul, Int.reduceNeg, Int.reduceToNat, Int.reduceTDiv, Int.reduceTMod, ↓reduceIte, h0, h1, h12, h13, dt q1]
        repeat ((first | refine drawnF ?_ (by decide +kernel)); simp only [go_sem, Nat.reduceEqDiff, Nat.reduceAdd, Nat.reduceSub, Nat.reduceMul, Nat.reduceLT, Nat.reduceLeDiff, Int.reducePow, Int.reduceBEq, Int.reduceBNe, Int.reduceDiv, Int.reduceMod, Int.reduceEq, Int.reduceLT, Int.reduceLE, Int.reduceAdd, Int.reduceSub, Int.reduceMul, Int.reduceNeg, Int.reduceToNat, Int.reduceTDiv, Int.reduceTMod, ↓reduceIte, h0, h1, h12, h13, q0, q1, q2, Int.toNat_natCast, Nat.zero_add, hb, hb', hg, hg', Nat.mul_one, hq, w1, bne])
        rw [← hr]
    · rw [List.drop_eq_nil_of_le (by omega), List.drop_eq_nil_of_le (by omega)] at hr
      simp only [go_sem, Nat.reduceEqDiff, Nat.reduceAdd, Nat.reduceSub, Nat.reduceMul, Nat.reduceLT, Nat.reduceLeDiff, Int.reducePow, Int.reduceBEq, Int.reduceBNe, Int.reduceDiv, Int.reduceMod, Int.reduceEq, Int.reduceLT, Int.reduceLE, Int.reduceAdd, Int.reduceSub, Int.reduceMul, Int.reduceNeg, Int.reduceToNat, Int.reduceTDiv, Int.reduceTMod, ↓reduceIte, h0, h1, h12, h13, df (show ¬ (i : Int) < (l.length : Int) by omega)]
      rw [← hr]; rfl
  · rw [eqG_len (by omega)]
    simp only [go_sem, Nat.reduceEqDiff, Nat.reduceAdd, Nat.reduceSub, Nat.reduceMul, Nat.reduceLT, Nat.reduceLeDiff, Int.reducePow, Int.reduceBEq, Int.reduceBNe, Int.reduceDiv, Int.reduceMod, Int.reduceEq, Int.reduceLT, Int.reduceLE, Int.reduceAdd, Int.reduceSub, Int.reduceMul, Int.reduceNeg, Int.reduceToNat, Int.reduceTDiv, Int.reduceTMod, ↓reduceIte, nf hl]
end Go.Proofs.Ytlcdbangmbdlcaa
/- Documents: the walks of what compares shapes. -/
namespace Go.Proofs.Ytlcdbangmbdlcaa
open Go Go.RowKit E
/-- One piece of code, then the rest, from what the piece leaves alone. -/
theorem xcut {P : Program} {sz n0 : Nat} {T : Env} {H : AH} {D : List Nat} {Q : KC} {a b : Code} (R : Env → AH → List Nat → Prop) (h1 : @XCode P sz n0 a T H D ⟨fun o T' H' D' => o = .norm ∧ R T' H' D'⟩) (h2 : ∀ T' H' D', R T' H' D' → XCode P sz n0 b T' H' D') : XCode P sz n0 (.seq a b) T H D := by
  show WCode P sz n0 a T H D _
  refine WCode.mono h1 fun o T' H' D' ⟨ho, r⟩ => ?_
  subst ho
  exact h2 T' H' D' r
attribute [local irreducible] XRun XOps XCode XCal XLoop XQ SemCall
set_option linter.unusedSimpArgs false
set_option linter.unusedVariables false
theorem psame_ (p q : PL) (pv qv : Value) (H : AH) (hp : Pts H pv p.2) (hq : Pts H qv q.2) : SemCall Try.prog 71 [.agg [.bool p.1, pv].toArray, .agg [.bool q.1, qv].toArray] H (.bool (plQ p q)) H [] := by
  refine pure_of ?_ rfl
  have k1 := fun L => eqPt_ p.2 q.2 pv qv (H ++ L) (hp.app L).row (hq.app L).row
  unfold plQ
  cases h : (p.1 == q.1)
  all_goals
    refine XCal.of hm Try.func71 rfl (fun xs w => Try.call71 xs w) Try.ntmps71 Try.results71 rfl ?_
    simp only [go_sem, Nat.reduceEqDiff, Nat.reduceAdd, Nat.reduceSub, Nat.reduceMul, Nat.reduceLT, Nat.reduceLeDiff, Int.reducePow, Int.reduceBEq, Int.reduceBNe, Int.reduceDiv, Int.reduceMod, Int.reduceEq, Int.reduceLT, Int.reduceLE, Int.reduceAdd, Int.reduceSub, Int.reduceMul, Int.reduceNeg, Int.reduceToNat, Int.reduceTDiv, Int.reduceTMod, ↓reduceIte, h]
    repeat ((first | refine (k1 _).x ?_ | refine drawnF ?_ (by decide +kernel)); simp only [go_sem, Nat.reduceEqDiff, Nat.reduceAdd, Nat.reduceSub, Nat.reduceMul, Nat.reduceLT, Nat.reduceLeDiff, Int.reducePow, Int.reduceBEq, Int.reduceBNe, Int.reduceDiv, Int.reduceMod, Int.reduceEq, Int.reduceLT, Int.reduceLE, Int.reduceAdd, Int.reduceSub, Int.reduceMul, Int.reduceNeg, Int.reduceToNat, Int.reduceTDiv, Int.reduceTMod, ↓reduceIte, h])
abbrev pkV (x : Pk) (pv : Value) : Value := .agg [.int .i64 x.t, .bool x.p.1, pv, .int .i64 x.how, .int .i64 x.e.x1, .int .i64 x.e.y1, .int .i64 x.e.x2, .int .i64 x.e.y2].toArray
theorem spaths1_ (x y : Pk) (pv qv : Value) (H : AH) (hp : Pts H pv x.p.2) (hq : Pts H qv y.p.2) : SemCall Try.prog 70 [pkV x pv, pkV y qv] H (.bool (pkQ x y)) H [] := by
  refine pure_of ?_ rfl
  have k1 := fun L => psame_ x.p y.p pv qv (H ++ L) (hp.app L) (hq.app L)
  unfold pkQ
  cases h1 : (x.t == y.t) with
  | false =>
    try unfold ezQ at h3
    refine XCal.of hm Try.func70 rfl (fun xs w => Try.call70 xs w) Try.ntmps70 Try.results70 rfl ?_
    simp only [go_sem, Nat.reduceEqDiff, Nat.reduceAdd, Nat.reduceSub, Nat.reduceMul, Nat.reduceLT, Nat.reduceLeDiff, Int.reducePow, Int.reduceBEq, Int.reduceBNe, Int.reduceDiv, Int.reduceMod, Int.reduceEq, Int.reduceLT, Int.reduceLE, Int.reduceAdd, Int.reduceSub, Int.reduceMul, Int.reduceNeg, Int.reduceToNat, Int.reduceTDiv, Int.reduceTMod, ↓reduceIte, h1]
    repeat ((first | refine (k1 _).x ?_ | refine drawnF ?_ (by decide +kernel)); simp only [go_sem, Nat.reduceEqDiff, Nat.reduceAdd, Nat.reduceSub, Nat.reduceMul, Nat.reduceLT, Nat.reduceLeDiff, Int.reducePow, Int.reduceBEq, Int.reduceBNe, Int.reduceDiv, Int.reduceMod, Int.reduceEq, Int.reduceLT, Int.reduceLE, Int.reduceAdd, Int.reduceSub, Int.reduceMul, Int.reduceNeg, Int.reduceToNat, Int.reduceTDiv, Int.reduceTMod, ↓reduceIte, h1])
  | true =>
    cases h2 : (x.how == y.how) with
    | false =>
      try unfold ezQ at h3
      refine XCal.of hm Try.func70 rfl (fun xs w => Try.call70 xs w) Try.ntmps70 Try.results70 rfl ?_
      simp only [go_sem, Nat.reduceEqDiff, Nat.reduceAdd, Nat.reduceSub, Nat.reduceMul, Nat.reduceLT, Nat.reduceLeDiff, Int.reducePow, Int.reduceBEq, Int.reduceBNe, Int.reduceDiv, Int.reduceMod, Int.reduceEq, Int.reduceLT, Int.reduceLE, Int.reduceAdd, Int.reduceSub, Int.reduceMul, Int.reduceNeg, Int.reduceToNat, Int.reduceTDiv, Int.reduceTMod, ↓reduceIte, h1, h2]
      repeat ((first | refine (k1 _).x ?_ | refine drawnF ?_ (by decide +kernel)); simp only [go_sem, Nat.reduceEqDiff, Nat.reduceAdd, Nat.reduceSub, Nat.reduceMul, Nat.reduceLT, Nat.reduceLeDiff, Int.reducePow, Int.reduceBEq, Int.reduceBNe, Int.reduceDiv, Int.reduceMod, Int.reduceEq, Int.reduceLT, Int.reduceLE, Int.reduceAdd, Int.reduceSub, Int.reduceMul, Int.reduceNeg, Int.reduceToNat, Int.reduceTDiv, Int.reduceTMod, ↓reduceIte, h1, h2])
    | true =>
      cases h3 : ezQ x.e y.e with
      | false =>
        try unfold ezQ at h3
        refine XCal.of hm Try.func70 rfl (fun xs w => Try.call70 xs w) Try.ntmps70 Try.results70 rfl ?_
        simp only [go_sem, Nat.reduceEqDiff, Nat.reduceAdd, Nat.reduceSub, Nat.reduceMul, Nat.reduceLT, Nat.reduceLeDiff, Int.reducePow, Int.reduceBEq, Int.reduceBNe, Int.reduceDiv, Int.reduceMod, Int.reduceEq, Int.reduceLT, Int.reduceLE, Int.reduceAdd, Int.reduceSub, Int.reduceMul, Int.reduceNeg, Int.reduceToNat, Int.reduceTDiv, Int.reduceTMod, ↓reduceIte, h1, h2, h3]
        repeat ((first | refine (k1 _).x ?_ | refine drawnF ?_ (by decide +kernel)); simp only [go_sem, Nat.reduceEqDiff, Nat.reduceAdd, Nat.reduceSub, Nat.reduceMul, Nat.reduceLT, Nat.reduceLeDiff, Int.reducePow, Int.reduceBEq, Int.reduceBNe, Int.reduceDiv, Int.reduceMod, Int.reduceEq, Int.reduceLT, Int.reduceLE, Int.reduceAdd, Int.reduceSub, Int.reduceMul, Int.reduceNeg, Int.reduceToNat, Int.reduceTDiv, Int.reduceTMod, ↓reduceIte, h1, h2, h3])
      | true =>
        try unfold ezQ at h3
        refine XCal.of hm Try.func70 rfl (fun xs w => Try.call70 xs w) Try.ntmps70 Try.results70 rfl ?_
        simp only [go_sem, Nat.reduceEqDiff, Nat.reduceAdd, Nat.reduceSub, Nat.reduceMul, Nat.reduceLT, Nat.reduceLeDiff, Int.reducePow, Int.reduceBEq, Int.reduceBNe, Int.reduceDiv, Int.reduceMod, Int.reduceEq, Int.reduceLT, Int.reduceLE, Int.reduceAdd, Int.reduceSub, Int.reduceMul, Int.reduceNeg, Int.reduceToNat, Int.reduceTDiv, Int.reduceTMod, ↓reduceIte, h1, h2, h3]
        repeat ((first | refine (k1 _).x ?_ | refine drawnF ?_ (by decide +kernel)); simp only [go_sem, Nat.reduceEqDiff, Nat.reduceAdd, Nat.reduceSub, Nat.reduceMul, Nat.reduceLT, Nat.reduceLeDiff, Int.reducePow, Int.reduceBEq, Int.reduceBNe, Int.reduceDiv, Int.reduceMod, Int.reduceEq, Int.reduceLT, Int.reduceLE, Int.reduceAdd, Int.reduceSub, Int.reduceMul, Int.reduceNeg, Int.reduceToNat, Int.reduceTDiv, Int.reduceTMod, ↓reduceIte, h1, h2, h3])
set_option maxHeartbeats 4000000 in
theorem eqPk_ (l m : List Pk) (v w : Value) (H : AH) (h : Pks H v l) (h' : Pks H w m) : SemCall Try.prog 69 [v, w, .func (.func 70) [].toArray [].toArray] H (.bool (eqG pkQ l m)) H [] := by
  refine pure_of ?_ rfl
  have hlen := h.len
  obtain ⟨va, ve, hv⟩ := h.form
  subst hv
  obtain ⟨wa, we, hw⟩ := h'.form
  subst hw
  refine XCal.of hm Try.func69 rfl (fun xs w => Try.call69 xs w) Try.ntmps69 Try.results69 rfl ?_
  by_cases hl : (l.length : Int) = (m.length : Int)
  · simp only [go_sem, Nat.reduceEqDiff, Nat.reduceAdd, Nat.reduceSub, Nat.reduceMul, Nat.reduceLT, Nat.reduceLeDiff, Int.reducePow, Int.reduceBEq, Int.reduceBNe, Int.reduceDiv, Int.reduceMod, Int.reduceEq, Int.reduceLT, Int.reduceLE, Int.reduceAdd, Int.reduceSub, Int.reduceMul, Int.reduceNeg, Int.reduceToNat, Int.reduceTDiv, Int.reduceTMod, ↓reduceIte, nt hl]
    refine keep (fun k T K D => D = [] ∧ Old H K ∧ H.length ≤ K.length ∧ T 1 = .slice wa m.length we ∧ T 2 = .func (.func 70) [].toArray [].toArray ∧ T 15 = .slice va l.length ve ∧ T 16 = .int .i64 (l.length : Int) ∧ ∃ i : Nat, i + k = l.length ∧ T 17 = .int .i64 (i : Int) ∧ eqG pkQ (l.drop i) (m.drop i) = eqG pkQ l m) l.length ⟨rfl, Old.refl _, by omega, rfl, rfl, rfl, rfl, 0, by omega, rfl, rfl⟩ ?_
    rintro k T K D ⟨rfl, hold, hKl, h1, h2, h15, h16, i, hi, h17, hr⟩
    have kd : ∀ n, decide (K.length + n < H.length) = false := fun n => df (by omega)
    have kd0 : decide (K.length < H.length) = false := df (by omega)
    by_cases hk : i < l.length
    · obtain ⟨x, hx⟩ : ∃ x, l[i]? = some x := ⟨_, List.getElem?_eq_getElem hk⟩
      obtain ⟨y, hy⟩ : ∃ y, m[i]? = some y := ⟨_, List.getElem?_eq_getElem (by omega)⟩
      obtain ⟨b, g, cells, rw_, c, hve, hb, ⟨pv, hc, hp⟩, hcl, hle, hld, hgt⟩ := h.at hx
      subst hc
      obtain ⟨b', g', cells', rw', c', hwe, hb', ⟨qv, hc', hq⟩, hcl', hle', hld', hgt'⟩ := h'.at hy
      subst hc'
      have kb := hold _ _ hb
      have kb' := hold _ _ hb'
      rw [hve] at h15
      rw [hwe] at h1
      rw [drop_at hx, drop_at hy, eqG] at hr
      have w1 : IntKind.i64.wrap ((i : Int) + 1) = ((i + 1 : Nat) : Int) := by rw [wi (by omega) (by omega)]; rfl
      have q0 : (0 : Int) ≤ (i : Int) := by omega
      have q1 : (i : Int) < (l.length : Int) := by omega
      have q2 : (i : Int) < (m.length : Int) := by omega
      have k1 := fun L => spaths1_ x y pv qv (K ++ L) ((hp.old hold).app L) ((hq.old hold).app L)
      cases hq : pkQ x y with
      | true =>
        rw [hq, Bool.true_and] at hr
        simp only [go_sem, Nat.reduceEqDiff, Nat.reduceAdd, Nat.reduceSub, Nat.reduceMul, Nat.reduceLT, Nat.reduceLeDiff, Int.reducePow, Int.reduceBEq, Int.reduceBNe, Int.reduceDiv, Int.reduceMod, Int.reduceEq, Int.reduceLT, Int.reduceLE, Int.reduceAdd, Int.reduceSub, Int.reduceMul, Int.reduceNeg, Int.reduceToNat, Int.reduceTDiv, Int.reduceTMod, ↓reduceIte, h1, h2, h15, h16, h17, dt q1, q0, q1, q2, Int.toNat_natCast, Nat.zero_add, kb, kb', old_get kb', hld, hld', kd, kd0]
        refine (k1 _).x ?_
        simp only [go_sem, Nat.reduceEqDiff, Nat.reduceAdd, Nat.reduceSub, Nat.reduceMul, Nat.reduceLT, Nat.reduceLeDiff, Int.reducePow, Int.reduceBEq, Int.reduceBNe, Int.reduceDiv, Int.reduceMod, Int.reduceEq, Int.reduceLT, Int.reduceLE, Int.reduceAdd, Int.reduceSub, Int.reduceMul, Int.reduceNeg, Int.reduceToNat, Int.reduceTDiv, Int.reduceTMod, ↓reduceIte, h1, h2, h15, h16, h17, hq, w1, kd, kd0]
        exact ⟨k - 1, by omega, hold.app _, by omega, hwe.symm, hve.symm, i + 1, by omega, rfl, hr⟩
      | false =>
        rw [hq, Bool.false_and] at hr
        simp only [go_sem, Nat.reduceEqDiff, Nat.reduceAdd, Nat.reduceSub, Nat.reduceMul, Nat.reduceLT, Nat.reduceLeDiff, Int.reducePow, Int.reduceBEq, Int.reduceBNe, Int.reduceDiv, Int.reduceMod, Int.reduceEq, Int.reduceLT, Int.reduceLE, Int.reduceAdd, Int.reduceSub, Int.reduceMul, Int.reduceNeg, Int.reduceToNat, Int.reduceTDiv, Int.reduceTMod, ↓reduceIte, h1, h2, h15, h16, h17, dt q1, q0, q1, q2, Int.toNat_natCast, Nat.zero_add, kb, kb', old_get kb', hld, hld', kd, kd0]
        refine (k1 _).x ?_
        simp only [go_sem, Nat.reduceEqDiff, Nat.reduceAdd, Nat.reduceSub, Nat.reduceMul, Nat.reduceLT, Nat.reduceLeDiff, Int.reducePow, Int.reduceBEq, Int.reduceBNe, Int.reduceDiv, Int.reduceMod, Int.reduceEq, Int.reduceLT, Int.reduceLE, Int.reduceAdd, Int.reduceSub, Int.reduceMul, Int.reduceNeg, Int.reduceToNat, Int.reduceTDiv, Int.reduceTMod, ↓reduceIte, h1, h2, h15, h16, h17, hq, w1, kd, kd0]
        rw [← hr]
    · rw [List.drop_eq_nil_of_le (by omega), List.drop_eq_nil_of_le (by omega)] at hr
      simp only [go_sem, Nat.reduceEqDiff, Nat.reduceAdd, Nat.reduceSub, Nat.reduceMul, Nat.reduceLT, Nat.reduceLeDiff, Int.reducePow, Int.reduceBEq, Int.reduceBNe, Int.reduceDiv, Int.reduceMod, Int.reduceEq, Int.reduceLT, Int.reduceLE, Int.reduceAdd, Int.reduceSub, Int.reduceMul, Int.reduceNeg, Int.reduceToNat, Int.reduceTDiv, Int.reduceTMod, ↓reduceIte, h1, h2, h15, h16, h17, df (show ¬ (i : Int) < (l.length : Int) by omega)]
      rw [← hr]; rfl
  · rw [eqG_len (by omega)]
    simp only [go_sem, Nat.reduceEqDiff, Nat.reduceAdd, Nat.reduceSub, Nat.reduceMul, Nat.reduceLT, Nat.reduceLeDiff, Int.reducePow, Int.reduceBEq, Int.reduceBNe, Int.reduceDiv, Int.reduceMod, Int.reduceEq, Int.reduceLT, Int.reduceLE, Int.reduceAdd, Int.reduceSub, Int.reduceMul, Int.reduceNeg, Int.reduceToNat, Int.reduceTDiv, Int.reduceTMod, ↓reduceIte, nf hl]
theorem spaths_ (l m : List Pk) (v w : Value) (H : AH) (h : Pks H v l) (h' : Pks H w m) : SemCall Try.prog 59 [v, w] H (.bool (eqG pkQ l m)) H [] := by
  refine pure_of ?_ rfl
  refine XCal.of hm Try.func59 rfl (fun xs w => Try.call59 xs w) Try.ntmps59 Try.results59 rfl ?_
  simp only [go_sem, Nat.reduceEqDiff, Nat.reduceAdd, Nat.reduceSub, Nat.reduceMul, Nat.reduceLT, Nat.reduceLeDiff, Int.reducePow, Int.reduceBEq, Int.reduceBNe, Int.reduceDiv, Int.reduceMod, Int.reduceEq, Int.reduceLT, Int.reduceLE, Int.reduceAdd, Int.reduceSub, Int.reduceMul, Int.reduceNeg, Int.reduceToNat, Int.reduceTDiv, Int.reduceTMod, ↓reduceIte]
  repeat ((first | refine (eqPk_ l m v w _ h h').x ?_ | refine drawnF ?_ (by decide +kernel)); simp only [go_sem, Nat.reduceEqDiff, Nat.reduceAdd, Nat.reduceSub, Nat.reduceMul, Nat.reduceLT, Nat.reduceLeDiff, Int.reducePow, Int.reduceBEq, Int.reduceBNe, Int.reduceDiv, Int.reduceMod, Int.reduceEq, Int.reduceLT, Int.reduceLE, Int.reduceAdd, Int.reduceSub, Int.reduceMul, Int.reduceNeg, Int.reduceToNat, Int.reduceTDiv, Int.reduceTMod, ↓reduceIte])
end Go.Proofs.Ytlcdbangmbdlcaa
/- Documents: the walk of what compares shapes. -/
namespace Go.Proofs.Ytlcdbangmbdlcaa
open Go Go.RowKit E
attribute [local irreducible] XRun XOps XCode XCal XLoop XQ SemCall
set_option linter.unusedSimpArgs false
set_option linter.unusedVariables false
set_option maxHeartbeats 4000000 in
theorem sshape_ (x y : Sh) (v0 v1 v2 v3 v4 v5 v6 v7 w0 w1 w2 w3 w4 w5 w6 w7 : Value) (H : AH) (h : ShV H x v0 v1 v2 v3 v4 v5 v6 v7) (h' : ShV H y w0 w1 w2 w3 w4 w5 w6 w7) : SemCall Try.prog 49 [shV x v0 v1 v2 v3 v4 v5 v6 v7, shV y w0 w1 w2 w3 w4 w5 w6 w7] H (.bool (shQ x y)) H [] := by
  refine pure_of ?_ rfl
  generalize hL : H ++ [(⟨shC x v0 v1 v2 v3 v4 v5 v6 v7, 0, true⟩ : Blk), ⟨shC y w0 w1 w2 w3 w4 w5 w6 w7, 0, true⟩] = L at *
  have g0 : L[H.length]? = some ⟨shC x v0 v1 v2 v3 v4 v5 v6 v7, 0, true⟩ := by rw [← hL, hget_app0]; rfl
  have g1 : L[H.length + 1]? = some ⟨shC y w0 w1 w2 w3 w4 w5 w6 w7, 0, true⟩ := by rw [← hL, hget_app]; rfl
  have o : Old H L := by rw [← hL]; exact Old.app' _ _
  have k1 := eqKy_ x.w y.w v0 w0 L (h.w.old KyE.m o) (h'.w.old KyE.m o)
  have k2 := eqKy_ x.h y.h v1 w1 L (h.h.old KyE.m o) (h'.h.old KyE.m o)
  have k3 := spaths_ x.paths y.paths v2 w2 L (h.paths.old PkE.m o) (h'.paths.old PkE.m o)
  have k4 := eqCk_ x.colors y.colors v3 w3 L (h.colors.old CkE.m o) (h'.colors.old CkE.m o)
  have k5 := eqKy_ x.width y.width v4 w4 L (h.width.old KyE.m o) (h'.width.old KyE.m o)
  have k6 := eqIn_ x.dash y.dash v5 w5 L (h.dash.old InE.m o) (h'.dash.old InE.m o)
  have k7 := eqKy_ x.frm y.frm v6 w6 L (h.frm.old KyE.m o) (h'.frm.old KyE.m o)
  have k8 := eqKy_ x.to y.to v7 w7 L (h.to.old KyE.m o) (h'.to.old KyE.m o)
  clear h h' o
  refine XCal.of hm Try.func49 rfl (fun xs w => Try.call49 xs w) Try.ntmps49 Try.results49 rfl ?_
  refine xcut (fun T K D => D = [] ∧ K = L ∧ T 2 = ap H.length 0 0 ∧ T 3 = ap (H.length + 1) 0 0) ?_ ?_
  · simp only [go_sem, Nat.reduceEqDiff, Nat.reduceAdd, Nat.reduceSub, Nat.reduceMul, Nat.reduceLT, Nat.reduceLeDiff, Int.reducePow, Int.reduceBEq, Int.reduceBNe, Int.reduceDiv, Int.reduceMod, Int.reduceEq, Int.reduceLT, Int.reduceLE, Int.reduceAdd, Int.reduceSub, Int.reduceMul, Int.reduceNeg, Int.reduceToNat, Int.reduceTDiv, Int.reduceTMod, ↓reduceIte, ← hL]
  · rintro T K D ⟨rfl, rfl, t2, t3⟩
    refine xcut (fun T' K' D => D = [] ∧ K' = K ∧ T' 2 = ap H.length 0 0 ∧ T' 3 = ap (H.length + 1) 0 0 ∧ T' 5 = .bool (shP x y)) ?_ ?_
    · obtain ⟨q, hq⟩ : ∃ q, shP x y = q := ⟨_, rfl⟩
      rw [hq]
      unfold shP at hq
      cases h1 : (x.form == y.form) with
      | false =>
        simp only [h1, Bool.true_and, Bool.and_true, Bool.false_and, Bool.and_false] at hq
        subst hq
        try unfold pntQ at h5
        try unfold c4Q at h7
        simp only [go_sem, Nat.reduceEqDiff, Nat.reduceAdd, Nat.reduceSub, Nat.reduceMul, Nat.reduceLT, Nat.reduceLeDiff, Int.reducePow, Int.reduceBEq, Int.reduceBNe, Int.reduceDiv, Int.reduceMod, Int.reduceEq, Int.reduceLT, Int.reduceLE, Int.reduceAdd, Int.reduceSub, Int.reduceMul, Int.reduceNeg, Int.reduceToNat, Int.reduceTDiv, Int.reduceTMod, ↓reduceIte, t2, t3, g0, g1, h1]
      | true =>
        cases h2 : (x.n == y.n) with
        | false =>
          simp only [h1, h2, Bool.true_and, Bool.and_true, Bool.false_and, Bool.and_false] at hq
          subst hq
          try unfold pntQ at h5
          try unfold c4Q at h7
          simp only [go_sem, Nat.reduceEqDiff, Nat.reduceAdd, Nat.reduceSub, Nat.reduceMul, Nat.reduceLT, Nat.reduceLeDiff, Int.reducePow, Int.reduceBEq, Int.reduceBNe, Int.reduceDiv, Int.reduceMod, Int.reduceEq, Int.reduceLT, Int.reduceLE, Int.reduceAdd, Int.reduceSub, Int.reduceMul, Int.reduceNeg, Int.reduceToNat, Int.reduceTDiv, Int.reduceTMod, ↓reduceIte, t2, t3, g0, g1, h1, h2]
        | true =>
          cases h3 : (x.fill == y.fill) with
          | false =>
            simp only [h1, h2, h3, Bool.true_and, Bool.and_true, Bool.false_and, Bool.and_false] at hq
            subst hq
            try unfold pntQ at h5
            try unfold c4Q at h7
            simp only [go_sem, Nat.reduceEqDiff, Nat.reduceAdd, Nat.reduceSub, Nat.reduceMul, Nat.reduceLT, Nat.reduceLeDiff, Int.reducePow, Int.reduceBEq, Int.reduceBNe, Int.reduceDiv, Int.reduceMod, Int.reduceEq, Int.reduceLT, Int.reduceLE, Int.reduceAdd, Int.reduceSub, Int.reduceMul, Int.reduceNeg, Int.reduceToNat, Int.reduceTDiv, Int.reduceTMod, ↓reduceIte, t2, t3, g0, g1, h1, h2, h3]
          | true =>
            cases h4 : (x.rule == y.rule) with
            | false =>
              simp only [h1, h2, h3, h4, Bool.true_and, Bool.and_true, Bool.false_and, Bool.and_false] at hq
              subst hq
              try unfold pntQ at h5
              try unfold c4Q at h7
              simp only [go_sem, Nat.reduceEqDiff, Nat.reduceAdd, Nat.reduceSub, Nat.reduceMul, Nat.reduceLT, Nat.reduceLeDiff, Int.reducePow, Int.reduceBEq, Int.reduceBNe, Int.reduceDiv, Int.reduceMod, Int.reduceEq, Int.reduceLT, Int.reduceLE, Int.reduceAdd, Int.reduceSub, Int.reduceMul, Int.reduceNeg, Int.reduceToNat, Int.reduceTDiv, Int.reduceTMod, ↓reduceIte, t2, t3, g0, g1, h1, h2, h3, h4]
            | true =>
              cases h5 : pntQ x.paint y.paint with
              | false =>
                simp only [h1, h2, h3, h4, h5, Bool.true_and, Bool.and_true, Bool.false_and, Bool.and_false] at hq
                subst hq
                try unfold pntQ at h5
                try unfold c4Q at h7
                simp only [go_sem, Nat.reduceEqDiff, Nat.reduceAdd, Nat.reduceSub, Nat.reduceMul, Nat.reduceLT, Nat.reduceLeDiff, Int.reducePow, Int.reduceBEq, Int.reduceBNe, Int.reduceDiv, Int.reduceMod, Int.reduceEq, Int.reduceLT, Int.reduceLE, Int.reduceAdd, Int.reduceSub, Int.reduceMul, Int.reduceNeg, Int.reduceToNat, Int.reduceTDiv, Int.reduceTMod, ↓reduceIte, t2, t3, g0, g1, h1, h2, h3, h4, h5]
              | true =>
                cases h6 : (x.stroke == y.stroke) with
                | false =>
                  simp only [h1, h2, h3, h4, h5, h6, Bool.true_and, Bool.and_true, Bool.false_and, Bool.and_false] at hq
                  subst hq
                  try unfold pntQ at h5
                  try unfold c4Q at h7
                  simp only [go_sem, Nat.reduceEqDiff, Nat.reduceAdd, Nat.reduceSub, Nat.reduceMul, Nat.reduceLT, Nat.reduceLeDiff, Int.reducePow, Int.reduceBEq, Int.reduceBNe, Int.reduceDiv, Int.reduceMod, Int.reduceEq, Int.reduceLT, Int.reduceLE, Int.reduceAdd, Int.reduceSub, Int.reduceMul, Int.reduceNeg, Int.reduceToNat, Int.reduceTDiv, Int.reduceTMod, ↓reduceIte, t2, t3, g0, g1, h1, h2, h3, h4, h5, h6]
                | true =>
                  cases h7 : c4Q x.line y.line with
                  | false =>
                    simp only [h1, h2, h3, h4, h5, h6, h7, Bool.true_and, Bool.and_true, Bool.false_and, Bool.and_false] at hq
                    subst hq
                    try unfold pntQ at h5
                    try unfold c4Q at h7
                    simp only [go_sem, Nat.reduceEqDiff, Nat.reduceAdd, Nat.reduceSub, Nat.reduceMul, Nat.reduceLT, Nat.reduceLeDiff, Int.reducePow, Int.reduceBEq, Int.reduceBNe, Int.reduceDiv, Int.reduceMod, Int.reduceEq, Int.reduceLT, Int.reduceLE, Int.reduceAdd, Int.reduceSub, Int.reduceMul, Int.reduceNeg, Int.reduceToNat, Int.reduceTDiv, Int.reduceTMod, ↓reduceIte, t2, t3, g0, g1, h1, h2, h3, h4, h5, h6, h7]
                  | true =>
                    simp only [h1, h2, h3, h4, h5, h6, h7, Bool.true_and, Bool.and_true, Bool.false_and, Bool.and_false] at hq
                    subst hq
                    try unfold pntQ at h5
                    try unfold c4Q at h7
                    simp only [go_sem, Nat.reduceEqDiff, Nat.reduceAdd, Nat.reduceSub, Nat.reduceMul, Nat.reduceLT, Nat.reduceLeDiff, Int.reducePow, Int.reduceBEq, Int.reduceBNe, Int.reduceDiv, Int.reduceMod, Int.reduceEq, Int.reduceLT, Int.reduceLE, Int.reduceAdd, Int.reduceSub, Int.reduceMul, Int.reduceNeg, Int.reduceToNat, Int.reduceTDiv, Int.reduceTMod, ↓reduceIte, t2, t3, g0, g1, h1, h2, h3, h4, h5, h6, h7]
    · rintro T' K' D ⟨rfl, rfl, t2, t3, t5⟩
      refine xcut (fun T' K'' D => D = [] ∧ K'' = K' ∧ T' 2 = ap H.length 0 0 ∧ T' 3 = ap (H.length + 1) 0 0 ∧ T' 5 = .bool (shP x y) ∧ T' 6 = .bool (shK x y)) ?_ ?_
      · obtain ⟨q, hq⟩ : ∃ q, shK x y = q := ⟨_, rfl⟩
        rw [hq]
        unfold shK at hq
        cases h1 : eqG kyQ x.w y.w with
        | false =>
          simp only [h1, Bool.true_and, Bool.and_true, Bool.false_and, Bool.and_false] at hq
          subst hq
          simp only [go_sem, Nat.reduceEqDiff, Nat.reduceAdd, Nat.reduceSub, Nat.reduceMul, Nat.reduceLT, Nat.reduceLeDiff, Int.reducePow, Int.reduceBEq, Int.reduceBNe, Int.reduceDiv, Int.reduceMod, Int.reduceEq, Int.reduceLT, Int.reduceLE, Int.reduceAdd, Int.reduceSub, Int.reduceMul, Int.reduceNeg, Int.reduceToNat, Int.reduceTDiv, Int.reduceTMod, ↓reduceIte, t2, t3, t5, g0, g1, h1]
          repeat ((first | refine (k1).x ?_ | refine (k2).x ?_ | refine (k5).x ?_ | refine (k7).x ?_ | refine (k8).x ?_ | refine drawnF ?_ (by decide +kernel)); simp only [go_sem, Nat.reduceEqDiff, Nat.reduceAdd, Nat.reduceSub, Nat.reduceMul, Nat.reduceLT, Nat.reduceLeDiff, Int.reducePow, Int.reduceBEq, Int.reduceBNe, Int.reduceDiv, Int.reduceMod, Int.reduceEq, Int.reduceLT, Int.reduceLE, Int.reduceAdd, Int.reduceSub, Int.reduceMul, Int.reduceNeg, Int.reduceToNat, Int.reduceTDiv, Int.reduceTMod, ↓reduceIte, t2, t3, t5, g0, g1, h1])
        | true =>
          cases h2 : eqG kyQ x.h y.h with
          | false =>
            simp only [h1, h2, Bool.true_and, Bool.and_true, Bool.false_and, Bool.and_false] at hq
            subst hq
            simp only [go_sem, Nat.reduceEqDiff, Nat.reduceAdd, Nat.reduceSub, Nat.reduceMul, Nat.reduceLT, Nat.reduceLeDiff, Int.reducePow, Int.reduceBEq, Int.reduceBNe, Int.reduceDiv, Int.reduceMod, Int.reduceEq, Int.reduceLT, Int.reduceLE, Int.reduceAdd, Int.reduceSub, Int.reduceMul, Int.reduceNeg, Int.reduceToNat, Int.reduceTDiv, Int.reduceTMod, ↓reduceIte, t2, t3, t5, g0, g1, h1, h2]
            repeat ((first | refine (k1).x ?_ | refine (k2).x ?_ | refine (k5).x ?_ | refine (k7).x ?_ | refine (k8).x ?_ | refine drawnF ?_ (by decide +kernel)); simp only [go_sem, Nat.reduceEqDiff, Nat.reduceAdd, Nat.reduceSub, Nat.reduceMul, Nat.reduceLT, Nat.reduceLeDiff, Int.reducePow, Int.reduceBEq, Int.reduceBNe, Int.reduceDiv, Int.reduceMod, Int.reduceEq, Int.reduceLT, Int.reduceLE, Int.reduceAdd, Int.reduceSub, Int.reduceMul, Int.reduceNeg, Int.reduceToNat, Int.reduceTDiv, Int.reduceTMod, ↓reduceIte, t2, t3, t5, g0, g1, h1, h2])
          | true =>
            cases h3 : eqG kyQ x.width y.width with
            | false =>
              simp only [h1, h2, h3, Bool.true_and, Bool.and_true, Bool.false_and, Bool.and_false] at hq
              subst hq
              simp only [go_sem, Nat.reduceEqDiff, Nat.reduceAdd, Nat.reduceSub, Nat.reduceMul, Nat.reduceLT, Nat.reduceLeDiff, Int.reducePow, Int.reduceBEq, Int.reduceBNe, Int.reduceDiv, Int.reduceMod, Int.reduceEq, Int.reduceLT, Int.reduceLE, Int.reduceAdd, Int.reduceSub, Int.reduceMul, Int.reduceNeg, Int.reduceToNat, Int.reduceTDiv, Int.reduceTMod, ↓reduceIte, t2, t3, t5, g0, g1, h1, h2, h3]
              repeat ((first | refine (k1).x ?_ | refine (k2).x ?_ | refine (k5).x ?_ | refine (k7).x ?_ | refine (k8).x ?_ | refine drawnF ?_ (by decide +kernel)); simp only [go_sem, Nat.reduceEqDiff, Nat.reduceAdd, Nat.reduceSub, Nat.reduceMul, Nat.reduceLT, Nat.reduceLeDiff, Int.reducePow, Int.reduceBEq, Int.reduceBNe, Int.reduceDiv, Int.reduceMod, Int.reduceEq, Int.reduceLT, Int.reduceLE, Int.reduceAdd, Int.reduceSub, Int.reduceMul, Int.reduceNeg, Int.reduceToNat, Int.reduceTDiv, Int.reduceTMod, ↓reduceIte, t2, t3, t5, g0, g1, h1, h2, h3])
            | true =>
              cases h4 : eqG kyQ x.frm y.frm with
              | false =>
                simp only [h1, h2, h3, h4, Bool.true_and, Bool.and_true, Bool.false_and, Bool.and_false] at hq
                subst hq
                simp only [go_sem, Nat.reduceEqDiff, Nat.reduceAdd, Nat.reduceSub, Nat.reduceMul, Nat.reduceLT, Nat.reduceLeDiff, Int.reducePow, Int.reduceBEq, Int.reduceBNe, Int.reduceDiv, Int.reduceMod, Int.reduceEq, Int.reduceLT, Int.reduceLE, Int.reduceAdd, Int.reduceSub, Int.reduceMul, Int.reduceNeg, Int.reduceToNat, Int.reduceTDiv, Int.reduceTMod, ↓reduceIte, t2, t3, t5, g0, g1, h1, h2, h3, h4]
                repeat ((first | refine (k1).x ?_ | refine (k2).x ?_ | refine (k5).x ?_ | refine (k7).x ?_ | refine (k8).x ?_ | refine drawnF ?_ (by decide +kernel)); simp only [go_sem, Nat.reduceEqDiff, Nat.reduceAdd, Nat.reduceSub, Nat.reduceMul, Nat.reduceLT, Nat.reduceLeDiff, Int.reducePow, Int.reduceBEq, Int.reduceBNe, Int.reduceDiv, Int.reduceMod, Int.reduceEq, Int.reduceLT, Int.reduceLE, Int.reduceAdd, Int.reduceSub, Int.reduceMul, Int.reduceNeg, Int.reduceToNat, Int.reduceTDiv, Int.reduceTMod, ↓reduceIte, t2, t3, t5, g0, g1, h1, h2, h3, h4])
              | true =>
                simp only [h1, h2, h3, h4, Bool.true_and, Bool.and_true, Bool.false_and, Bool.and_false] at hq
                subst hq
                simp only [go_sem, Nat.reduceEqDiff, Nat.reduceAdd, Nat.reduceSub, Nat.reduceMul, Nat.reduceLT, Nat.reduceLeDiff, Int.reducePow, Int.reduceBEq, Int.reduceBNe, Int.reduceDiv, Int.reduceMod, Int.reduceEq, Int.reduceLT, Int.reduceLE, Int.reduceAdd, Int.reduceSub, Int.reduceMul, Int.reduceNeg, Int.reduceToNat, Int.reduceTDiv, Int.reduceTMod, ↓reduceIte, t2, t3, t5, g0, g1, h1, h2, h3, h4]
                repeat ((first | refine (k1).x ?_ | refine (k2).x ?_ | refine (k5).x ?_ | refine (k7).x ?_ | refine (k8).x ?_ | refine drawnF ?_ (by decide +kernel)); simp only [go_sem, Nat.reduceEqDiff, Nat.reduceAdd, Nat.reduceSub, Nat.reduceMul, Nat.reduceLT, Nat.reduceLeDiff, Int.reducePow, Int.reduceBEq, Int.reduceBNe, Int.reduceDiv, Int.reduceMod, Int.reduceEq, Int.reduceLT, Int.reduceLE, Int.reduceAdd, Int.reduceSub, Int.reduceMul, Int.reduceNeg, Int.reduceToNat, Int.reduceTDiv, Int.reduceTMod, ↓reduceIte, t2, t3, t5, g0, g1, h1, h2, h3, h4])
      · rintro T' K'' D ⟨rfl, rfl, t2, t3, t5, t6⟩
        obtain ⟨q, hq⟩ : ∃ q, shQ x y = q := ⟨_, rfl⟩
        rw [hq]
        unfold shQ at hq
        cases h1 : shP x y with
        | false =>
          simp only [h1, Bool.true_and, Bool.and_true, Bool.false_and, Bool.and_false] at hq
          subst hq
          simp only [go_sem, Nat.reduceEqDiff, Nat.reduceAdd, Nat.reduceSub, Nat.reduceMul, Nat.reduceLT, Nat.reduceLeDiff, Int.reducePow, Int.reduceBEq, Int.reduceBNe, Int.reduceDiv, Int.reduceMod, Int.reduceEq, Int.reduceLT, Int.reduceLE, Int.reduceAdd, Int.reduceSub, Int.reduceMul, Int.reduceNeg, Int.reduceToNat, Int.reduceTDiv, Int.reduceTMod, ↓reduceIte, t2, t3, t5, t6, g0, g1, h1]
          repeat ((first | refine (k3).x ?_ | refine (k4).x ?_ | refine (k6).x ?_ | refine drawnF ?_ (by decide +kernel)); simp only [go_sem, Nat.reduceEqDiff, Nat.reduceAdd, Nat.reduceSub, Nat.reduceMul, Nat.reduceLT, Nat.reduceLeDiff, Int.reducePow, Int.reduceBEq, Int.reduceBNe, Int.reduceDiv, Int.reduceMod, Int.reduceEq, Int.reduceLT, Int.reduceLE, Int.reduceAdd, Int.reduceSub, Int.reduceMul, Int.reduceNeg, Int.reduceToNat, Int.reduceTDiv, Int.reduceTMod, ↓reduceIte, t2, t3, t5, t6, g0, g1, h1])
        | true =>
          cases h2 : shK x y with
          | false =>
            simp only [h1, h2, Bool.true_and, Bool.and_true, Bool.false_and, Bool.and_false] at hq
            subst hq
            simp only [go_sem, Nat.reduceEqDiff, Nat.reduceAdd, Nat.reduceSub, Nat.reduceMul, Nat.reduceLT, Nat.reduceLeDiff, Int.reducePow, Int.reduceBEq, Int.reduceBNe, Int.reduceDiv, Int.reduceMod, Int.reduceEq, Int.reduceLT, Int.reduceLE, Int.reduceAdd, Int.reduceSub, Int.reduceMul, Int.reduceNeg, Int.reduceToNat, Int.reduceTDiv, Int.reduceTMod, ↓reduceIte, t2, t3, t5, t6, g0, g1, h1, h2]
            repeat ((first | refine (k3).x ?_ | refine (k4).x ?_ | refine (k6).x ?_ | refine drawnF ?_ (by decide +kernel)); simp only [go_sem, Nat.reduceEqDiff, Nat.reduceAdd, Nat.reduceSub, Nat.reduceMul, Nat.reduceLT, Nat.reduceLeDiff, Int.reducePow, Int.reduceBEq, Int.reduceBNe, Int.reduceDiv, Int.reduceMod, Int.reduceEq, Int.reduceLT, Int.reduceLE, Int.reduceAdd, Int.reduceSub, Int.reduceMul, Int.reduceNeg, Int.reduceToNat, Int.reduceTDiv, Int.reduceTMod, ↓reduceIte, t2, t3, t5, t6, g0, g1, h1, h2])
          | true =>
            cases h3 : eqG pkQ x.paths y.paths with
            | false =>
              simp only [h1, h2, h3, Bool.true_and, Bool.and_true, Bool.false_and, Bool.and_false] at hq
              subst hq
              simp only [go_sem, Nat.reduceEqDiff, Nat.reduceAdd, Nat.reduceSub, Nat.reduceMul, Nat.reduceLT, Nat.reduceLeDiff, Int.reducePow, Int.reduceBEq, Int.reduceBNe, Int.reduceDiv, Int.reduceMod, Int.reduceEq, Int.reduceLT, Int.reduceLE, Int.reduceAdd, Int.reduceSub, Int.reduceMul, Int.reduceNeg, Int.reduceToNat, Int.reduceTDiv, Int.reduceTMod, ↓reduceIte, t2, t3, t5, t6, g0, g1, h1, h2, h3]
              repeat ((first | refine (k3).x ?_ | refine (k4).x ?_ | refine (k6).x ?_ | refine drawnF ?_ (by decide +kernel)); simp only [go_sem, Nat.reduceEqDiff, Nat.reduceAdd, Nat.reduceSub, Nat.reduceMul, Nat.reduceLT, Nat.reduceLeDiff, Int.reducePow, Int.reduceBEq, Int.reduceBNe, Int.reduceDiv, Int.reduceMod, Int.reduceEq, Int.reduceLT, Int.reduceLE, Int.reduceAdd, Int.reduceSub, Int.reduceMul, Int.reduceNeg, Int.reduceToNat, Int.reduceTDiv, Int.reduceTMod, ↓reduceIte, t2, t3, t5, t6, g0, g1, h1, h2, h3])
            | true =>
              cases h4 : eqG ckQ x.colors y.colors with
              | false =>
                simp only [h1, h2, h3, h4, Bool.true_and, Bool.and_true, Bool.false_and, Bool.and_false] at hq
                subst hq
                simp only [go_sem, Nat.reduceEqDiff, Nat.reduceAdd, Nat.reduceSub, Nat.reduceMul, Nat.reduceLT, Nat.reduceLeDiff, Int.reducePow, Int.reduceBEq, Int.reduceBNe, Int.reduceDiv, Int.reduceMod, Int.reduceEq, Int.reduceLT, Int.reduceLE, Int.reduceAdd, Int.reduceSub, Int.reduceMul, Int.reduceNeg, Int.reduceToNat, Int.reduceTDiv, Int.reduceTMod, ↓reduceIte, t2, t3, t5, t6, g0, g1, h1, h2, h3, h4]
                repeat ((first | refine (k3).x ?_ | refine (k4).x ?_ | refine (k6).x ?_ | refine drawnF ?_ (by decide +kernel)); simp only [go_sem, Nat.reduceEqDiff, Nat.reduceAdd, Nat.reduceSub, Nat.reduceMul, Nat.reduceLT, Nat.reduceLeDiff, Int.reducePow, Int.reduceBEq, Int.reduceBNe, Int.reduceDiv, Int.reduceMod, Int.reduceEq, Int.reduceLT, Int.reduceLE, Int.reduceAdd, Int.reduceSub, Int.reduceMul, Int.reduceNeg, Int.reduceToNat, Int.reduceTDiv, Int.reduceTMod, ↓reduceIte, t2, t3, t5, t6, g0, g1, h1, h2, h3, h4])
              | true =>
                simp only [h1, h2, h3, h4, Bool.true_and, Bool.and_true, Bool.false_and, Bool.and_false] at hq
                subst hq
                simp only [go_sem, Nat.reduceEqDiff, Nat.reduceAdd, Nat.reduceSub, Nat.reduceMul, Nat.reduceLT, Nat.reduceLeDiff, Int.reducePow, Int.reduceBEq, Int.reduceBNe, Int.reduceDiv, Int.reduceMod, Int.reduceEq, Int.reduceLT, Int.reduceLE, Int.reduceAdd, Int.reduceSub, Int.reduceMul, Int.reduceNeg, Int.reduceToNat, Int.reduceTDiv, Int.reduceTMod, ↓reduceIte, t2, t3, t5, t6, g0, g1, h1, h2, h3, h4]
                repeat ((first | refine (k3).x ?_ | refine (k4).x ?_ | refine (k6).x ?_ | refine drawnF ?_ (by decide +kernel)); simp only [go_sem, Nat.reduceEqDiff, Nat.reduceAdd, Nat.reduceSub, Nat.reduceMul, Nat.reduceLT, Nat.reduceLeDiff, Int.reducePow, Int.reduceBEq, Int.reduceBNe, Int.reduceDiv, Int.reduceMod, Int.reduceEq, Int.reduceLT, Int.reduceLE, Int.reduceAdd, Int.reduceSub, Int.reduceMul, Int.reduceNeg, Int.reduceToNat, Int.reduceTDiv, Int.reduceTMod, ↓reduceIte, t2, t3, t5, t6, g0, g1, h1, h2, h3, h4])
end Go.Proofs.Ytlcdbangmbdlcaa
/- Documents: the walk of what judges a layer. -/
namespace Go.Proofs.Ytlcdbangmbdlcaa
open Go Go.RowKit E
attribute [local irreducible] XRun XOps XCode XCal XLoop XQ SemCall
set_option linter.unusedSimpArgs false
set_option linter.unusedVariables false
abbrev lyVs (l : Ly) (v0 v1 v2 v3 v4 v5 v6 v7 v8 pm vw vh vp vc vd vda vf vt : Value) : List Value := lyC l v0 v1 v2 v3 v4 v5 v6 v7 v8 pm (shC l.shape vw vh vp vc vd vda vf vt)
def KsE (K : AH) (c : List Value) (l : List Ky) : Prop := ∃ v, c = [v] ∧ Kys K v l
theorem KsE.m : Mono KsE := RowOf.mono KyE.m
theorem keysR_ (l : Ly) (v0 v1 v2 v3 v4 v5 v6 v7 v8 pm vw vh vp vc vd vda vf vt : Value) (H : AH) (h : LyV H l v0 v1 v2 v3 v4 v5 v6 v7 v8 pm) : Cal Try.prog 46 [.agg (lyVs l v0 v1 v2 v3 v4 v5 v6 v7 v8 pm vw vh vp vc vd vda vf vt).toArray] H fun v' H' W => W = [] ∧ (∃ L, H' = H ++ L) ∧ RowOf 1 KsE H' v' l.keys := by
  refine adds_of ?_
  obtain ⟨a0, e0, rfl⟩ := h.x.form
  obtain ⟨a1, e1, rfl⟩ := h.y.form
  obtain ⟨a2, e2, rfl⟩ := h.ax.form
  obtain ⟨a3, e3, rfl⟩ := h.ay.form
  obtain ⟨a4, e4, rfl⟩ := h.sx.form
  obtain ⟨a5, e5, rfl⟩ := h.sy.form
  obtain ⟨a6, e6, rfl⟩ := h.turn.form
  obtain ⟨a7, e7, rfl⟩ := h.opac.form
  obtain ⟨a8, e8, rfl⟩ := h.remap.form
  refine XCal.of hm Try.func46 rfl (fun xs w => Try.call46 xs w) Try.ntmps46 Try.results46 rfl ?_
  simp only [go_sem, Nat.reduceEqDiff, Nat.reduceAdd, Nat.reduceSub, Nat.reduceMul, Nat.reduceLT, Nat.reduceLeDiff, Int.reducePow, Int.reduceBEq, Int.reduceBNe, Int.reduceDiv, Int.reduceMod, Int.reduceEq, Int.reduceLT, Int.reduceLE, Int.reduceAdd, Int.reduceSub, Int.reduceMul, Int.reduceNeg, Int.reduceToNat, Int.reduceTDiv, Int.reduceTMod, ↓reduceIte]
  refine .inr ⟨H.length + 1, 0, [], true, [[.slice a0 l.x.length e0], [.slice a1 l.y.length e1], [.slice a2 l.ax.length e2], [.slice a3 l.ay.length e3], [.slice a4 l.sx.length e4], [.slice a5 l.sy.length e5], [.slice a6 l.turn.length e6], [.slice a7 l.opac.length e7], [.slice a8 l.remap.length e8]], rfl, by rw [hget_app]; rfl, rfl, by simp [Ly.keys], fun i x hx => ?_⟩
  have o := fun L => Old.app' H L
  match i, hx with
  | 0, hx => simp [Ly.keys] at hx; subst hx; exact ⟨_, rfl, rfl, _, rfl, h.x.old KyE.m (o _)⟩
  | 1, hx => simp [Ly.keys] at hx; subst hx; exact ⟨_, rfl, rfl, _, rfl, h.y.old KyE.m (o _)⟩
  | 2, hx => simp [Ly.keys] at hx; subst hx; exact ⟨_, rfl, rfl, _, rfl, h.ax.old KyE.m (o _)⟩
  | 3, hx => simp [Ly.keys] at hx; subst hx; exact ⟨_, rfl, rfl, _, rfl, h.ay.old KyE.m (o _)⟩
  | 4, hx => simp [Ly.keys] at hx; subst hx; exact ⟨_, rfl, rfl, _, rfl, h.sx.old KyE.m (o _)⟩
  | 5, hx => simp [Ly.keys] at hx; subst hx; exact ⟨_, rfl, rfl, _, rfl, h.sy.old KyE.m (o _)⟩
  | 6, hx => simp [Ly.keys] at hx; subst hx; exact ⟨_, rfl, rfl, _, rfl, h.turn.old KyE.m (o _)⟩
  | 7, hx => simp [Ly.keys] at hx; subst hx; exact ⟨_, rfl, rfl, _, rfl, h.opac.old KyE.m (o _)⟩
  | 8, hx => simp [Ly.keys] at hx; subst hx; exact ⟨_, rfl, rfl, _, rfl, h.remap.old KyE.m (o _)⟩
  | i + 9, hx => simp [Ly.keys] at hx
theorem layer1_ (l : List Ky) (v : Value) (H : AH) (h : Kys H v l) : SemCall Try.prog 47 [v] H (.bool (!keysB l)) H [] := by
  refine pure_of ?_ rfl
  refine XCal.of hm Try.func47 rfl (fun xs w => Try.call47 xs w) Try.ntmps47 Try.results47 rfl ?_
  simp only [go_sem, Nat.reduceEqDiff, Nat.reduceAdd, Nat.reduceSub, Nat.reduceMul, Nat.reduceLT, Nat.reduceLeDiff, Int.reducePow, Int.reduceBEq, Int.reduceBNe, Int.reduceDiv, Int.reduceMod, Int.reduceEq, Int.reduceLT, Int.reduceLE, Int.reduceAdd, Int.reduceSub, Int.reduceMul, Int.reduceNeg, Int.reduceToNat, Int.reduceTDiv, Int.reduceTMod, ↓reduceIte]
  repeat ((first | refine (keyR_ l v _ h).x ?_ | refine drawnF ?_ (by decide +kernel)); simp only [go_sem, Nat.reduceEqDiff, Nat.reduceAdd, Nat.reduceSub, Nat.reduceMul, Nat.reduceLT, Nat.reduceLeDiff, Int.reducePow, Int.reduceBEq, Int.reduceBNe, Int.reduceDiv, Int.reduceMod, Int.reduceEq, Int.reduceLT, Int.reduceLE, Int.reduceAdd, Int.reduceSub, Int.reduceMul, Int.reduceNeg, Int.reduceToNat, Int.reduceTDiv, Int.reduceTMod, ↓reduceIte])
theorem kIndex_ (l : List (List Ky)) (v : Value) (H : AH) (h : RowOf 1 KsE H v l) : SemCall Try.prog 56 [v, .func (.func 47) [].toArray [].toArray] H (.int .i64 (idxG (fun k => !keysB k) l 0)) H [] := by
  refine pure_of ?_ rfl
  have hlen := h.len
  obtain ⟨va, ve, hv⟩ := h.form
  subst hv
  refine XCal.of hm Try.func56 rfl (fun xs w => Try.call56 xs w) Try.ntmps56 Try.results56 rfl ?_
  simp only [go_sem, Nat.reduceEqDiff, Nat.reduceAdd, Nat.reduceSub, Nat.reduceMul, Nat.reduceLT, Nat.reduceLeDiff, Int.reducePow, Int.reduceBEq, Int.reduceBNe, Int.reduceDiv, Int.reduceMod, Int.reduceEq, Int.reduceLT, Int.reduceLE, Int.reduceAdd, Int.reduceSub, Int.reduceMul, Int.reduceNeg, Int.reduceToNat, Int.reduceTDiv, Int.reduceTMod, ↓reduceIte]
  refine keep (fun k T H' D => H = H' ∧ D = [] ∧ T 0 = .slice va l.length ve ∧ T 1 = .func (.func 47) [].toArray [].toArray ∧ T 7 = .int .i64 (l.length : Int) ∧ ∃ i : Nat, i + k = l.length ∧ T 8 = .int .i64 (i : Int) ∧ idxG (fun k => !keysB k) (l.drop i) i = idxG (fun k => !keysB k) l 0) l.length ⟨rfl, rfl, rfl, rfl, rfl, 0, by omega, rfl, rfl⟩ ?_
  rintro k T H' D ⟨rfl, rfl, h0, h1, h7, i, hi, h8, hr⟩
  by_cases hk : i < l.length
  · obtain ⟨x, hx⟩ : ∃ x, l[i]? = some x := ⟨_, List.getElem?_eq_getElem hk⟩
    obtain ⟨b, g, cells, rw_, c, hve, hb, ⟨kv, hc, hkv⟩, hcl, hle, hld, hgt⟩ := h.at hx
    subst hc
    have hg := hgt 0 (by omega)
    rw [Nat.mul_one, Nat.add_zero] at hg
    have hg : cells[i]? = some kv := hg
    rw [hve] at h0
    rw [drop_at hx, idxG] at hr
    have w1 : IntKind.i64.wrap ((i : Int) + 1) = ((i + 1 : Nat) : Int) := by rw [wi (by omega) (by omega)]; rfl
    have c1 := layer1_ x kv H hkv
    cases hd : (!keysB x) with
    | true =>
      rw [hd] at c1
      rw [if_pos hd] at hr
      simp only [go_sem, Nat.reduceEqDiff, Nat.reduceAdd, Nat.reduceSub, Nat.reduceMul, Nat.reduceLT, Nat.reduceLeDiff, Int.reducePow, Int.reduceBEq, Int.reduceBNe, Int.reduceDiv, Int.reduceMod, Int.reduceEq, Int.reduceLT, Int.reduceLE, Int.reduceAdd, Int.reduceSub, Int.reduceMul, Int.reduceNeg, Int.reduceToNat, Int.reduceTDiv, Int.reduceTMod, ↓reduceIte, h0, h1, h7, h8, dt (show (i : Int) < (l.length : Int) by omega), hb, show (0 : Int) ≤ (i : Int) by omega, show (i : Int) < (l.length : Int) by omega, Int.toNat_natCast, Nat.zero_add, Nat.mul_one, hg]
      refine c1.x ?_
      simp only [go_sem, Nat.reduceEqDiff, Nat.reduceAdd, Nat.reduceSub, Nat.reduceMul, Nat.reduceLT, Nat.reduceLeDiff, Int.reducePow, Int.reduceBEq, Int.reduceBNe, Int.reduceDiv, Int.reduceMod, Int.reduceEq, Int.reduceLT, Int.reduceLE, Int.reduceAdd, Int.reduceSub, Int.reduceMul, Int.reduceNeg, Int.reduceToNat, Int.reduceTDiv, Int.reduceTMod, ↓reduceIte, h0, h1, h7, h8]
      rw [← hr]
    | false =>
      rw [hd] at c1
      rw [if_neg (by rw [hd]; decide)] at hr
      simp only [go_sem, Nat.reduceEqDiff, Nat.reduceAdd, Nat.reduceSub, Nat.reduceMul, Nat.reduceLT, Nat.reduceLeDiff, Int.reducePow, Int.reduceBEq, Int.reduceBNe, Int.reduceDiv, Int.reduceMod, Int.reduceEq, Int.reduceLT, Int.reduceLE, Int.reduceAdd, Int.reduceSub, Int.reduceMul, Int.reduceNeg, Int.reduceToNat, Int.reduceTDiv, Int.reduceTMod, ↓reduceIte, h0, h1, h7, h8, dt (show (i : Int) < (l.length : Int) by omega), hb, show (0 : Int) ≤ (i : Int) by omega, show (i : Int) < (l.length : Int) by omega, Int.toNat_natCast, Nat.zero_add, Nat.mul_one, hg]
      refine c1.x ?_
      simp only [go_sem, Nat.reduceEqDiff, Nat.reduceAdd, Nat.reduceSub, Nat.reduceMul, Nat.reduceLT, Nat.reduceLeDiff, Int.reducePow, Int.reduceBEq, Int.reduceBNe, Int.reduceDiv, Int.reduceMod, Int.reduceEq, Int.reduceLT, Int.reduceLE, Int.reduceAdd, Int.reduceSub, Int.reduceMul, Int.reduceNeg, Int.reduceToNat, Int.reduceTDiv, Int.reduceTMod, ↓reduceIte, h0, h1, h7, h8, w1]
      exact ⟨k - 1, by omega, hve.symm, i + 1, by omega, rfl, hr⟩
  · rw [List.drop_eq_nil_of_le (by omega)] at hr
    simp only [go_sem, Nat.reduceEqDiff, Nat.reduceAdd, Nat.reduceSub, Nat.reduceMul, Nat.reduceLT, Nat.reduceLeDiff, Int.reducePow, Int.reduceBEq, Int.reduceBNe, Int.reduceDiv, Int.reduceMod, Int.reduceEq, Int.reduceLT, Int.reduceLE, Int.reduceAdd, Int.reduceSub, Int.reduceMul, Int.reduceNeg, Int.reduceToNat, Int.reduceTDiv, Int.reduceTMod, ↓reduceIte, h0, h1, h7, h8, df (show ¬ (i : Int) < (l.length : Int) by omega)]
    rw [← hr]; rfl
theorem any_not : ∀ (l : List (List Ky)), (l.any fun k => !keysB k) = !l.all keysB
  | [] => rfl
  | x :: t => by rw [List.any_cons, List.all_cons, any_not t, Bool.not_and]
theorem kContains_ (l : List (List Ky)) (v : Value) (H : AH) (h : RowOf 1 KsE H v l) : SemCall Try.prog 45 [v, .func (.func 47) [].toArray [].toArray] H (.bool (!l.all keysB)) H [] := by
  refine pure_of ?_ rfl
  refine XCal.of hm Try.func45 rfl (fun xs w => Try.call45 xs w) Try.ntmps45 Try.results45 rfl ?_
  simp only [go_sem, Nat.reduceEqDiff, Nat.reduceAdd, Nat.reduceSub, Nat.reduceMul, Nat.reduceLT, Nat.reduceLeDiff, Int.reducePow, Int.reduceBEq, Int.reduceBNe, Int.reduceDiv, Int.reduceMod, Int.reduceEq, Int.reduceLT, Int.reduceLE, Int.reduceAdd, Int.reduceSub, Int.reduceMul, Int.reduceNeg, Int.reduceToNat, Int.reduceTDiv, Int.reduceTMod, ↓reduceIte]
  repeat ((first | refine (kIndex_ l v _ h).x ?_ | refine drawnF ?_ (by decide +kernel)); simp only [go_sem, Nat.reduceEqDiff, Nat.reduceAdd, Nat.reduceSub, Nat.reduceMul, Nat.reduceLT, Nat.reduceLeDiff, Int.reducePow, Int.reduceBEq, Int.reduceBNe, Int.reduceDiv, Int.reduceMod, Int.reduceEq, Int.reduceLT, Int.reduceLE, Int.reduceAdd, Int.reduceSub, Int.reduceMul, Int.reduceNeg, Int.reduceToNat, Int.reduceTDiv, Int.reduceTMod, ↓reduceIte, idxG_ge, any_not])
theorem tick_ (t : Int) (H : AH) : SemCall Try.prog 20 [.int .i64 t] H (.bool (tickB t)) H [] := by
  refine pure_of ?_ rfl
  unfold tickB
  cases h1 : decide (-1073741824 ≤ t) with
  | false =>
    refine XCal.of hm Try.func20 rfl (fun xs w => Try.call20 xs w) Try.ntmps20 Try.results20 rfl ?_
    simp only [go_sem, Nat.reduceEqDiff, Nat.reduceAdd, Nat.reduceSub, Nat.reduceMul, Nat.reduceLT, Nat.reduceLeDiff, Int.reducePow, Int.reduceBEq, Int.reduceBNe, Int.reduceDiv, Int.reduceMod, Int.reduceEq, Int.reduceLT, Int.reduceLE, Int.reduceAdd, Int.reduceSub, Int.reduceMul, Int.reduceNeg, Int.reduceToNat, Int.reduceTDiv, Int.reduceTMod, ↓reduceIte, h1]
  | true =>
    refine XCal.of hm Try.func20 rfl (fun xs w => Try.call20 xs w) Try.ntmps20 Try.results20 rfl ?_
    simp only [go_sem, Nat.reduceEqDiff, Nat.reduceAdd, Nat.reduceSub, Nat.reduceMul, Nat.reduceLT, Nat.reduceLeDiff, Int.reducePow, Int.reduceBEq, Int.reduceBNe, Int.reduceDiv, Int.reduceMod, Int.reduceEq, Int.reduceLT, Int.reduceLE, Int.reduceAdd, Int.reduceSub, Int.reduceMul, Int.reduceNeg, Int.reduceToNat, Int.reduceTDiv, Int.reduceTMod, ↓reduceIte, h1]
theorem dthere_ (n many : Int) (H : AH) : SemCall Try.prog 35 [.int .i64 n, .int .i64 many] H (.bool (decide (0 ≤ n) && decide (n < many))) H [] := by
  refine pure_of ?_ rfl
  cases h1 : decide (0 ≤ n) with
  | false =>
    refine XCal.of hm Try.func35 rfl (fun xs w => Try.call35 xs w) Try.ntmps35 Try.results35 rfl ?_
    simp only [go_sem, Nat.reduceEqDiff, Nat.reduceAdd, Nat.reduceSub, Nat.reduceMul, Nat.reduceLT, Nat.reduceLeDiff, Int.reducePow, Int.reduceBEq, Int.reduceBNe, Int.reduceDiv, Int.reduceMod, Int.reduceEq, Int.reduceLT, Int.reduceLE, Int.reduceAdd, Int.reduceSub, Int.reduceMul, Int.reduceNeg, Int.reduceToNat, Int.reduceTDiv, Int.reduceTMod, ↓reduceIte, h1]
  | true =>
    refine XCal.of hm Try.func35 rfl (fun xs w => Try.call35 xs w) Try.ntmps35 Try.results35 rfl ?_
    simp only [go_sem, Nat.reduceEqDiff, Nat.reduceAdd, Nat.reduceSub, Nat.reduceMul, Nat.reduceLT, Nat.reduceLeDiff, Int.reducePow, Int.reduceBEq, Int.reduceBNe, Int.reduceDiv, Int.reduceMod, Int.reduceEq, Int.reduceLT, Int.reduceLE, Int.reduceAdd, Int.reduceSub, Int.reduceMul, Int.reduceNeg, Int.reduceToNat, Int.reduceTDiv, Int.reduceTMod, ↓reduceIte, h1]
def kindB (l : Ly) : Bool := ((l.kind == 0) || (l.kind == 1)) && decide (0 ≤ l.matte) && decide (l.matte ≤ 2)
def timeB (l : Ly) : Bool := tickB l.in_ && tickB l.out && tickB l.start && decide (l.in_ < l.out)
theorem ShV.zero (K : AH) : ShV K sh00 (.slice none 0 0) (.slice none 0 0) (.slice none 0 0) (.slice none 0 0) (.slice none 0 0) (.slice none 0 0) (.slice none 0 0) (.slice none 0 0) :=
  ⟨RowOf.none, RowOf.none, RowOf.none, RowOf.none, RowOf.none, RowOf.none, RowOf.none, RowOf.none⟩
theorem shape_paint {s : Sh} (h : shapeB s = true) : paintB s.paint = true := by
  unfold shapeB at h
  simp only [Bool.and_eq_true] at h
  exact h.1.1.1.1.1.1.2
set_option maxHeartbeats 4000000 in
theorem layer_ (l : Ly) (v0 v1 v2 v3 v4 v5 v6 v7 v8 pm vw vh vp vc vd vda vf vt : Value) (H : AH) (h : LyV H l v0 v1 v2 v3 v4 v5 v6 v7 v8 pm) (hs : ShV H l.shape vw vh vp vc vd vda vf vt) : SemCall Try.prog 33 [.agg (lyVs l v0 v1 v2 v3 v4 v5 v6 v7 v8 pm vw vh vp vc vd vda vf vt).toArray] H (.bool (layerB l)) H [] := by
  refine pure_of ?_ rfl
  obtain ⟨pa, pe, hpm⟩ := h.mask.form
  subst hpm
  obtain ⟨ra, re, hrm⟩ := h.remap.form
  subst hrm
  generalize hL : H ++ [(⟨lyVs l v0 v1 v2 v3 v4 v5 v6 v7 (.slice ra l.remap.length re) (.slice pa l.mask.2.length pe) vw vh vp vc vd vda vf vt, 0, true⟩ : Blk)] = L at *
  have g0 : L[H.length]? = some ⟨lyVs l v0 v1 v2 v3 v4 v5 v6 v7 (.slice ra l.remap.length re) (.slice pa l.mask.2.length pe) vw vh vp vc vd vda vf vt, 0, true⟩ := by rw [← hL, hget_app0]; rfl
  have o : Old H L := by rw [← hL]; exact Old.app' _ _
  have hLl : H.length ≤ L.length := by rw [← hL]; simp
  have h := h.old o
  have hs := hs.old o
  have m1 := right_ l.mask.1 l.mask.2 _ L h.mask
  have m2 := empty_ l.mask.1 l.mask.2 _ L h.mask
  refine XCal.of hm Try.func33 rfl (fun xs w => Try.call33 xs w) Try.ntmps33 Try.results33 rfl ?_
  refine xcut (fun T K D => D = [] ∧ K = L ∧ T 1 = ap H.length 0 0) ?_ ?_
  · simp only [go_sem, Nat.reduceEqDiff, Nat.reduceAdd, Nat.reduceSub, Nat.reduceMul, Nat.reduceLT, Nat.reduceLeDiff, Int.reducePow, Int.reduceBEq, Int.reduceBNe, Int.reduceDiv, Int.reduceMod, Int.reduceEq, Int.reduceLT, Int.reduceLE, Int.reduceAdd, Int.reduceSub, Int.reduceMul, Int.reduceNeg, Int.reduceToNat, Int.reduceTDiv, Int.reduceTMod, ↓reduceIte, ← hL]
  · rintro T K D ⟨rfl, rfl, t1⟩
    refine xcut (fun T' K' D => D = [] ∧ K' = K ∧ T' 1 = ap H.length 0 0 ∧ T' 3 = .bool (kindB l)) ?_ ?_
    · unfold kindB
      by_cases k0 : l.kind = 0
      · skip
        cases h1 : decide (0 ≤ l.matte) with
        | false =>
          simp only [go_sem, Nat.reduceEqDiff, Nat.reduceAdd, Nat.reduceSub, Nat.reduceMul, Nat.reduceLT, Nat.reduceLeDiff, Int.reducePow, Int.reduceBEq, Int.reduceBNe, Int.reduceDiv, Int.reduceMod, Int.reduceEq, Int.reduceLT, Int.reduceLE, Int.reduceAdd, Int.reduceSub, Int.reduceMul, Int.reduceNeg, Int.reduceToNat, Int.reduceTDiv, Int.reduceTMod, ↓reduceIte, t1, g0, bt k0, Bool.true_or, Bool.true_and, h1]
        | true =>
          simp only [go_sem, Nat.reduceEqDiff, Nat.reduceAdd, Nat.reduceSub, Nat.reduceMul, Nat.reduceLT, Nat.reduceLeDiff, Int.reducePow, Int.reduceBEq, Int.reduceBNe, Int.reduceDiv, Int.reduceMod, Int.reduceEq, Int.reduceLT, Int.reduceLE, Int.reduceAdd, Int.reduceSub, Int.reduceMul, Int.reduceNeg, Int.reduceToNat, Int.reduceTDiv, Int.reduceTMod, ↓reduceIte, t1, g0, bt k0, Bool.true_or, Bool.true_and, h1]
      · cases k1 : (l.kind == 1)
        · simp only [go_sem, Nat.reduceEqDiff, Nat.reduceAdd, Nat.reduceSub, Nat.reduceMul, Nat.reduceLT, Nat.reduceLeDiff, Int.reducePow, Int.reduceBEq, Int.reduceBNe, Int.reduceDiv, Int.reduceMod, Int.reduceEq, Int.reduceLT, Int.reduceLE, Int.reduceAdd, Int.reduceSub, Int.reduceMul, Int.reduceNeg, Int.reduceToNat, Int.reduceTDiv, Int.reduceTMod, ↓reduceIte, t1, g0, bf k0, k1, Bool.or_self, Bool.false_and]
        · skip
          cases h1 : decide (0 ≤ l.matte) with
          | false =>
            simp only [go_sem, Nat.reduceEqDiff, Nat.reduceAdd, Nat.reduceSub, Nat.reduceMul, Nat.reduceLT, Nat.reduceLeDiff, Int.reducePow, Int.reduceBEq, Int.reduceBNe, Int.reduceDiv, Int.reduceMod, Int.reduceEq, Int.reduceLT, Int.reduceLE, Int.reduceAdd, Int.reduceSub, Int.reduceMul, Int.reduceNeg, Int.reduceToNat, Int.reduceTDiv, Int.reduceTMod, ↓reduceIte, t1, g0, bf k0, k1, Bool.false_or, Bool.true_and, h1]
          | true =>
            simp only [go_sem, Nat.reduceEqDiff, Nat.reduceAdd, Nat.reduceSub, Nat.reduceMul, Nat.reduceLT, Nat.reduceLeDiff, Int.reducePow, Int.reduceBEq, Int.reduceBNe, Int.reduceDiv, Int.reduceMod, Int.reduceEq, Int.reduceLT, Int.reduceLE, Int.reduceAdd, Int.reduceSub, Int.reduceMul, Int.reduceNeg, Int.reduceToNat, Int.reduceTDiv, Int.reduceTMod, ↓reduceIte, t1, g0, bf k0, k1, Bool.false_or, Bool.true_and, h1]
    · rintro T' K' D ⟨rfl, rfl, t1, t3⟩
      refine xcut (fun T' K'' D => D = [] ∧ K'' = K' ∧ T' 1 = ap H.length 0 0 ∧ T' 3 = .bool (kindB l) ∧ T' 4 = .bool (timeB l)) ?_ ?_
      · unfold timeB
        cases h1 : tickB l.in_ with
        | false =>
          simp only [go_sem, Nat.reduceEqDiff, Nat.reduceAdd, Nat.reduceSub, Nat.reduceMul, Nat.reduceLT, Nat.reduceLeDiff, Int.reducePow, Int.reduceBEq, Int.reduceBNe, Int.reduceDiv, Int.reduceMod, Int.reduceEq, Int.reduceLT, Int.reduceLE, Int.reduceAdd, Int.reduceSub, Int.reduceMul, Int.reduceNeg, Int.reduceToNat, Int.reduceTDiv, Int.reduceTMod, ↓reduceIte, t1, t3, g0, h1]
          repeat ((first | refine (tick_ _ _).x ?_ | refine drawnF ?_ (by decide +kernel)); simp only [go_sem, Nat.reduceEqDiff, Nat.reduceAdd, Nat.reduceSub, Nat.reduceMul, Nat.reduceLT, Nat.reduceLeDiff, Int.reducePow, Int.reduceBEq, Int.reduceBNe, Int.reduceDiv, Int.reduceMod, Int.reduceEq, Int.reduceLT, Int.reduceLE, Int.reduceAdd, Int.reduceSub, Int.reduceMul, Int.reduceNeg, Int.reduceToNat, Int.reduceTDiv, Int.reduceTMod, ↓reduceIte, t1, t3, g0, h1])
        | true =>
          cases h2 : tickB l.out with
          | false =>
            simp only [go_sem, Nat.reduceEqDiff, Nat.reduceAdd, Nat.reduceSub, Nat.reduceMul, Nat.reduceLT, Nat.reduceLeDiff, Int.reducePow, Int.reduceBEq, Int.reduceBNe, Int.reduceDiv, Int.reduceMod, Int.reduceEq, Int.reduceLT, Int.reduceLE, Int.reduceAdd, Int.reduceSub, Int.reduceMul, Int.reduceNeg, Int.reduceToNat, Int.reduceTDiv, Int.reduceTMod, ↓reduceIte, t1, t3, g0, h1, h2]
            repeat ((first | refine (tick_ _ _).x ?_ | refine drawnF ?_ (by decide +kernel)); simp only [go_sem, Nat.reduceEqDiff, Nat.reduceAdd, Nat.reduceSub, Nat.reduceMul, Nat.reduceLT, Nat.reduceLeDiff, Int.reducePow, Int.reduceBEq, Int.reduceBNe, Int.reduceDiv, Int.reduceMod, Int.reduceEq, Int.reduceLT, Int.reduceLE, Int.reduceAdd, Int.reduceSub, Int.reduceMul, Int.reduceNeg, Int.reduceToNat, Int.reduceTDiv, Int.reduceTMod, ↓reduceIte, t1, t3, g0, h1, h2])
          | true =>
            cases h3 : tickB l.start with
            | false =>
              simp only [go_sem, Nat.reduceEqDiff, Nat.reduceAdd, Nat.reduceSub, Nat.reduceMul, Nat.reduceLT, Nat.reduceLeDiff, Int.reducePow, Int.reduceBEq, Int.reduceBNe, Int.reduceDiv, Int.reduceMod, Int.reduceEq, Int.reduceLT, Int.reduceLE, Int.reduceAdd, Int.reduceSub, Int.reduceMul, Int.reduceNeg, Int.reduceToNat, Int.reduceTDiv, Int.reduceTMod, ↓reduceIte, t1, t3, g0, h1, h2, h3]
              repeat ((first | refine (tick_ _ _).x ?_ | refine drawnF ?_ (by decide +kernel)); simp only [go_sem, Nat.reduceEqDiff, Nat.reduceAdd, Nat.reduceSub, Nat.reduceMul, Nat.reduceLT, Nat.reduceLeDiff, Int.reducePow, Int.reduceBEq, Int.reduceBNe, Int.reduceDiv, Int.reduceMod, Int.reduceEq, Int.reduceLT, Int.reduceLE, Int.reduceAdd, Int.reduceSub, Int.reduceMul, Int.reduceNeg, Int.reduceToNat, Int.reduceTDiv, Int.reduceTMod, ↓reduceIte, t1, t3, g0, h1, h2, h3])
            | true =>
              simp only [go_sem, Nat.reduceEqDiff, Nat.reduceAdd, Nat.reduceSub, Nat.reduceMul, Nat.reduceLT, Nat.reduceLeDiff, Int.reducePow, Int.reduceBEq, Int.reduceBNe, Int.reduceDiv, Int.reduceMod, Int.reduceEq, Int.reduceLT, Int.reduceLE, Int.reduceAdd, Int.reduceSub, Int.reduceMul, Int.reduceNeg, Int.reduceToNat, Int.reduceTDiv, Int.reduceTMod, ↓reduceIte, t1, t3, g0, h1, h2, h3]
              repeat ((first | refine (tick_ _ _).x ?_ | refine drawnF ?_ (by decide +kernel)); simp only [go_sem, Nat.reduceEqDiff, Nat.reduceAdd, Nat.reduceSub, Nat.reduceMul, Nat.reduceLT, Nat.reduceLeDiff, Int.reducePow, Int.reduceBEq, Int.reduceBNe, Int.reduceDiv, Int.reduceMod, Int.reduceEq, Int.reduceLT, Int.reduceLE, Int.reduceAdd, Int.reduceSub, Int.reduceMul, Int.reduceNeg, Int.reduceToNat, Int.reduceTDiv, Int.reduceTMod, ↓reduceIte, t1, t3, g0, h1, h2, h3])
      · rintro T' K'' D ⟨rfl, rfl, t1, t3, t4⟩
        refine xcut (fun T' K' D => D = [] ∧ K' = K'' ∧ T' 1 = ap H.length 0 0 ∧ T' 3 = .bool (kindB l) ∧ T' 4 = .bool (timeB l) ∧ T' 5 = .bool (maskB l.mask)) ?_ ?_
        · unfold maskB
          have e0 : ((l.mask.2.length : Int) == 0) = decide ((l.mask.2.length : Int) = 0) := rfl
          rw [e0] at m2
          cases h1 : rightB l.mask.1 l.mask.2 with
          | false =>
            simp only [go_sem, Nat.reduceEqDiff, Nat.reduceAdd, Nat.reduceSub, Nat.reduceMul, Nat.reduceLT, Nat.reduceLeDiff, Int.reducePow, Int.reduceBEq, Int.reduceBNe, Int.reduceDiv, Int.reduceMod, Int.reduceEq, Int.reduceLT, Int.reduceLE, Int.reduceAdd, Int.reduceSub, Int.reduceMul, Int.reduceNeg, Int.reduceToNat, Int.reduceTDiv, Int.reduceTMod, ↓reduceIte, t1, t3, t4, g0, h1]
            repeat ((first | refine (m1).x ?_ | refine (m2).x ?_ | refine drawnF ?_ (by decide +kernel)); simp only [go_sem, Nat.reduceEqDiff, Nat.reduceAdd, Nat.reduceSub, Nat.reduceMul, Nat.reduceLT, Nat.reduceLeDiff, Int.reducePow, Int.reduceBEq, Int.reduceBNe, Int.reduceDiv, Int.reduceMod, Int.reduceEq, Int.reduceLT, Int.reduceLE, Int.reduceAdd, Int.reduceSub, Int.reduceMul, Int.reduceNeg, Int.reduceToNat, Int.reduceTDiv, Int.reduceTMod, ↓reduceIte, t1, t3, t4, g0, h1, Bool.true_or, Bool.false_or])
          | true =>
            cases h2 : decide ((l.mask.2.length : Int) = 0) with
            | false =>
              simp only [go_sem, Nat.reduceEqDiff, Nat.reduceAdd, Nat.reduceSub, Nat.reduceMul, Nat.reduceLT, Nat.reduceLeDiff, Int.reducePow, Int.reduceBEq, Int.reduceBNe, Int.reduceDiv, Int.reduceMod, Int.reduceEq, Int.reduceLT, Int.reduceLE, Int.reduceAdd, Int.reduceSub, Int.reduceMul, Int.reduceNeg, Int.reduceToNat, Int.reduceTDiv, Int.reduceTMod, ↓reduceIte, t1, t3, t4, g0, h1, h2]
              repeat ((first | refine (m1).x ?_ | refine (m2).x ?_ | refine drawnF ?_ (by decide +kernel)); simp only [go_sem, Nat.reduceEqDiff, Nat.reduceAdd, Nat.reduceSub, Nat.reduceMul, Nat.reduceLT, Nat.reduceLeDiff, Int.reducePow, Int.reduceBEq, Int.reduceBNe, Int.reduceDiv, Int.reduceMod, Int.reduceEq, Int.reduceLT, Int.reduceLE, Int.reduceAdd, Int.reduceSub, Int.reduceMul, Int.reduceNeg, Int.reduceToNat, Int.reduceTDiv, Int.reduceTMod, ↓reduceIte, t1, t3, t4, g0, h1, h2, Bool.true_or, Bool.false_or])
            | true =>
              simp only [go_sem, Nat.reduceEqDiff, Nat.reduceAdd, Nat.reduceSub, Nat.reduceMul, Nat.reduceLT, Nat.reduceLeDiff, Int.reducePow, Int.reduceBEq, Int.reduceBNe, Int.reduceDiv, Int.reduceMod, Int.reduceEq, Int.reduceLT, Int.reduceLE, Int.reduceAdd, Int.reduceSub, Int.reduceMul, Int.reduceNeg, Int.reduceToNat, Int.reduceTDiv, Int.reduceTMod, ↓reduceIte, t1, t3, t4, g0, h1, h2]
              repeat ((first | refine (m1).x ?_ | refine (m2).x ?_ | refine drawnF ?_ (by decide +kernel)); simp only [go_sem, Nat.reduceEqDiff, Nat.reduceAdd, Nat.reduceSub, Nat.reduceMul, Nat.reduceLT, Nat.reduceLeDiff, Int.reducePow, Int.reduceBEq, Int.reduceBNe, Int.reduceDiv, Int.reduceMod, Int.reduceEq, Int.reduceLT, Int.reduceLE, Int.reduceAdd, Int.reduceSub, Int.reduceMul, Int.reduceNeg, Int.reduceToNat, Int.reduceTDiv, Int.reduceTMod, ↓reduceIte, t1, t3, t4, g0, h1, h2, Bool.true_or, Bool.false_or])
        · rintro T' K' D ⟨rfl, rfl, t1, t3, t4, t5⟩
          have kd : ∀ n, decide (K'.length + n < H.length) = false := fun n => df (by omega)
          have kd0 : decide (K'.length < H.length) = false := df (by omega)
          obtain ⟨q, hq⟩ : ∃ q, layerB l = q := ⟨_, rfl⟩
          rw [hq]
          have hq : (kindB l && timeB l && maskB l.mask && l.keys.all keysB && (if l.kind = 1 then bareB l.shape else (l.comp == 0) && decide ((l.remap.length : Int) = 0) && shapeB l.shape)) = q := hq
          cases h1 : kindB l with
          | false =>
            rw [h1] at hq t3
            simp only [Bool.false_and] at hq
            subst hq
            simp only [go_sem, Nat.reduceEqDiff, Nat.reduceAdd, Nat.reduceSub, Nat.reduceMul, Nat.reduceLT, Nat.reduceLeDiff, Int.reducePow, Int.reduceBEq, Int.reduceBNe, Int.reduceDiv, Int.reduceMod, Int.reduceEq, Int.reduceLT, Int.reduceLE, Int.reduceAdd, Int.reduceSub, Int.reduceMul, Int.reduceNeg, Int.reduceToNat, Int.reduceTDiv, Int.reduceTMod, ↓reduceIte, t1, t3, t4, t5]
          | true =>
            cases h2 : timeB l with
            | false =>
              rw [h1, h2] at hq
              rw [h1] at t3
              rw [h2] at t4
              simp only [Bool.false_and, Bool.and_false] at hq
              subst hq
              simp only [go_sem, Nat.reduceEqDiff, Nat.reduceAdd, Nat.reduceSub, Nat.reduceMul, Nat.reduceLT, Nat.reduceLeDiff, Int.reducePow, Int.reduceBEq, Int.reduceBNe, Int.reduceDiv, Int.reduceMod, Int.reduceEq, Int.reduceLT, Int.reduceLE, Int.reduceAdd, Int.reduceSub, Int.reduceMul, Int.reduceNeg, Int.reduceToNat, Int.reduceTDiv, Int.reduceTMod, ↓reduceIte, t1, t3, t4, t5]
            | true =>
              cases h3 : maskB l.mask with
              | false =>
                rw [h1, h2, h3] at hq
                rw [h1] at t3
                rw [h2] at t4
                rw [h3] at t5
                simp only [Bool.false_and, Bool.and_false] at hq
                subst hq
                simp only [go_sem, Nat.reduceEqDiff, Nat.reduceAdd, Nat.reduceSub, Nat.reduceMul, Nat.reduceLT, Nat.reduceLeDiff, Int.reducePow, Int.reduceBEq, Int.reduceBNe, Int.reduceDiv, Int.reduceMod, Int.reduceEq, Int.reduceLT, Int.reduceLE, Int.reduceAdd, Int.reduceSub, Int.reduceMul, Int.reduceNeg, Int.reduceToNat, Int.reduceTDiv, Int.reduceTMod, ↓reduceIte, t1, t3, t4, t5]
              | true =>
                rw [h1, h2, h3] at hq
                rw [h1] at t3
                rw [h2] at t4
                rw [h3] at t5
                simp only [Bool.true_and] at hq
                simp only [go_sem, Nat.reduceEqDiff, Nat.reduceAdd, Nat.reduceSub, Nat.reduceMul, Nat.reduceLT, Nat.reduceLeDiff, Int.reducePow, Int.reduceBEq, Int.reduceBNe, Int.reduceDiv, Int.reduceMod, Int.reduceEq, Int.reduceLT, Int.reduceLE, Int.reduceAdd, Int.reduceSub, Int.reduceMul, Int.reduceNeg, Int.reduceToNat, Int.reduceTDiv, Int.reduceTMod, ↓reduceIte, t1, t3, t4, t5, g0]
                refine (keysR_ l _ _ _ _ _ _ _ _ _ _ _ _ _ _ _ _ _ _ K' h).x ?_
                rintro v H1 W1 ⟨rfl, ⟨M, rfl⟩, hR⟩
                have hRl : H.length ≤ (K' ++ M).length := by simp; omega
                have o2 : Old K' (K' ++ M) := Old.app' _ _
                have h := h.old o2
                have hs := hs.old o2
                have g0 := o2 _ _ g0
                clear m1 m2 o hL kd kd0
                generalize K' ++ M = K2 at *
                have kd : ∀ n, decide (K2.length + n < H.length) = false := fun n => df (by omega)
                have kd0 : decide (K2.length < H.length) = false := df (by omega)
                simp only [go_sem, Nat.reduceEqDiff, Nat.reduceAdd, Nat.reduceSub, Nat.reduceMul, Nat.reduceLT, Nat.reduceLeDiff, Int.reducePow, Int.reduceBEq, Int.reduceBNe, Int.reduceDiv, Int.reduceMod, Int.reduceEq, Int.reduceLT, Int.reduceLE, Int.reduceAdd, Int.reduceSub, Int.reduceMul, Int.reduceNeg, Int.reduceToNat, Int.reduceTDiv, Int.reduceTMod, ↓reduceIte, t1, t3, t4, t5]
                refine (kContains_ l.keys v K2 hR).x ?_
                cases h4 : l.keys.all keysB with
                | false =>
                  rw [h4] at hq
                  simp only [Bool.false_and] at hq
                  subst hq
                  simp only [go_sem, Nat.reduceEqDiff, Nat.reduceAdd, Nat.reduceSub, Nat.reduceMul, Nat.reduceLT, Nat.reduceLeDiff, Int.reducePow, Int.reduceBEq, Int.reduceBNe, Int.reduceDiv, Int.reduceMod, Int.reduceEq, Int.reduceLT, Int.reduceLE, Int.reduceAdd, Int.reduceSub, Int.reduceMul, Int.reduceNeg, Int.reduceToNat, Int.reduceTDiv, Int.reduceTMod, ↓reduceIte, t1, t3, t4, t5]
                | true =>
                  rw [h4] at hq
                  simp only [Bool.true_and] at hq
                  by_cases hk : l.kind = 1
                  · rw [if_pos hk] at hq
                    simp only [go_sem, Nat.reduceEqDiff, Nat.reduceAdd, Nat.reduceSub, Nat.reduceMul, Nat.reduceLT, Nat.reduceLeDiff, Int.reducePow, Int.reduceBEq, Int.reduceBNe, Int.reduceDiv, Int.reduceMod, Int.reduceEq, Int.reduceLT, Int.reduceLE, Int.reduceAdd, Int.reduceSub, Int.reduceMul, Int.reduceNeg, Int.reduceToNat, Int.reduceTDiv, Int.reduceTMod, ↓reduceIte, t1, t3, t4, t5, g0, bt hk]
                    refine (sshape_ l.shape sh00 vw vh vp vc vd vda vf vt _ _ _ _ _ _ _ _ K2 hs (ShV.zero K2)).x ?_
                    have hq : shQ l.shape sh00 = q := hq
                    rw [hq]
                    simp only [go_sem, Nat.reduceEqDiff, Nat.reduceAdd, Nat.reduceSub, Nat.reduceMul, Nat.reduceLT, Nat.reduceLeDiff, Int.reducePow, Int.reduceBEq, Int.reduceBNe, Int.reduceDiv, Int.reduceMod, Int.reduceEq, Int.reduceLT, Int.reduceLE, Int.reduceAdd, Int.reduceSub, Int.reduceMul, Int.reduceNeg, Int.reduceToNat, Int.reduceTDiv, Int.reduceTMod, ↓reduceIte]
                  · rw [if_neg hk] at hq
                    have c1 := shapeR_ l.shape vw vh vp vc vd vda vf vt K2 hs
                    have c2 := ppaint_ l.shape.paint K2
                    have e0 : ((l.remap.length : Int) == 0) = decide ((l.remap.length : Int) = 0) := rfl
                    by_cases hc : l.comp = 0
                    · rw [bt hc, Bool.true_and] at hq
                      cases h5 : decide ((l.remap.length : Int) = 0) with
                      | false =>
                        rw [h5] at hq e0
                        simp only [Bool.false_and] at hq
                        subst hq
                        simp only [go_sem, Nat.reduceEqDiff, Nat.reduceAdd, Nat.reduceSub, Nat.reduceMul, Nat.reduceLT, Nat.reduceLeDiff, Int.reducePow, Int.reduceBEq, Int.reduceBNe, Int.reduceDiv, Int.reduceMod, Int.reduceEq, Int.reduceLT, Int.reduceLE, Int.reduceAdd, Int.reduceSub, Int.reduceMul, Int.reduceNeg, Int.reduceToNat, Int.reduceTDiv, Int.reduceTMod, ↓reduceIte, t1, t3, t4, t5, g0, bf hk, bt hc, e0]
                      | true =>
                        rw [h5] at hq e0
                        simp only [Bool.true_and] at hq
                        simp only [go_sem, Nat.reduceEqDiff, Nat.reduceAdd, Nat.reduceSub, Nat.reduceMul, Nat.reduceLT, Nat.reduceLeDiff, Int.reducePow, Int.reduceBEq, Int.reduceBNe, Int.reduceDiv, Int.reduceMod, Int.reduceEq, Int.reduceLT, Int.reduceLE, Int.reduceAdd, Int.reduceSub, Int.reduceMul, Int.reduceNeg, Int.reduceToNat, Int.reduceTDiv, Int.reduceTMod, ↓reduceIte, t1, t3, t4, t5, g0, bf hk, bt hc, e0]
                        refine c1.x ?_
                        cases h6 : shapeB l.shape with
                        | false =>
                          rw [h6] at hq
                          subst hq
                          simp only [go_sem, Nat.reduceEqDiff, Nat.reduceAdd, Nat.reduceSub, Nat.reduceMul, Nat.reduceLT, Nat.reduceLeDiff, Int.reducePow, Int.reduceBEq, Int.reduceBNe, Int.reduceDiv, Int.reduceMod, Int.reduceEq, Int.reduceLT, Int.reduceLE, Int.reduceAdd, Int.reduceSub, Int.reduceMul, Int.reduceNeg, Int.reduceToNat, Int.reduceTDiv, Int.reduceTMod, ↓reduceIte, t1, t3, t4, t5, g0]
                        | true =>
                          rw [h6] at hq
                          rw [shape_paint h6] at c2
                          subst hq
                          simp only [go_sem, Nat.reduceEqDiff, Nat.reduceAdd, Nat.reduceSub, Nat.reduceMul, Nat.reduceLT, Nat.reduceLeDiff, Int.reducePow, Int.reduceBEq, Int.reduceBNe, Int.reduceDiv, Int.reduceMod, Int.reduceEq, Int.reduceLT, Int.reduceLE, Int.reduceAdd, Int.reduceSub, Int.reduceMul, Int.reduceNeg, Int.reduceToNat, Int.reduceTDiv, Int.reduceTMod, ↓reduceIte, t1, t3, t4, t5, g0]
                          repeat ((first | refine (c2).x ?_ | refine drawnF ?_ (by decide +kernel)); simp only [go_sem, Nat.reduceEqDiff, Nat.reduceAdd, Nat.reduceSub, Nat.reduceMul, Nat.reduceLT, Nat.reduceLeDiff, Int.reducePow, Int.reduceBEq, Int.reduceBNe, Int.reduceDiv, Int.reduceMod, Int.reduceEq, Int.reduceLT, Int.reduceLE, Int.reduceAdd, Int.reduceSub, Int.reduceMul, Int.reduceNeg, Int.reduceToNat, Int.reduceTDiv, Int.reduceTMod, ↓reduceIte])
                    · rw [bf hc] at hq
                      simp only [Bool.false_and] at hq
                      subst hq
                      simp only [go_sem, Nat.reduceEqDiff, Nat.reduceAdd, Nat.reduceSub, Nat.reduceMul, Nat.reduceLT, Nat.reduceLeDiff, Int.reducePow, Int.reduceBEq, Int.reduceBNe, Int.reduceDiv, Int.reduceMod, Int.reduceEq, Int.reduceLT, Int.reduceLE, Int.reduceAdd, Int.reduceSub, Int.reduceMul, Int.reduceNeg, Int.reduceToNat, Int.reduceTDiv, Int.reduceTMod, ↓reduceIte, t1, t3, t4, t5, g0, bf hk, bf hc]
end Go.Proofs.Ytlcdbangmbdlcaa
/- Parents that lead back: a plain law. -/
namespace Go.Proofs.Ytlcdbangmbdlcaa
open Go Go.RowKit E
set_option linter.unusedSimpArgs false
set_option linter.unusedVariables false
theorem ilt_ge (a b : Int) : a < b ∨ b ≤ a := by omega
/-- The k-th parent. -/
def chn (ps : List Int) (i : Int) : Nat → Int
  | 0 => i
  | k + 1 => if 0 ≤ chn ps i k then (ps[(chn ps i k).toNat]?).getD (-1) else chn ps i k
theorem chn_add (ps : List Int) (i : Int) (a : Nat) : ∀ b, chn ps i (a + b) = chn ps (chn ps i a) b
  | 0 => rfl
  | b + 1 => by rw [← Nat.add_assoc, chn, chn, chn_add ps i a b]
theorem chn_neg {ps : List Int} {i : Int} (h : i < 0) : ∀ k, chn ps i k = i
  | 0 => rfl
  | k + 1 => by rw [chn, chn_neg h k, if_neg (by omega)]
/-- Whether the way from k comes back. -/
def ringAt (ps : List Int) (k : Int) : Prop := ∃ m, 1 ≤ m ∧ m ≤ ps.length ∧ chn ps k m = k
end Go.Proofs.Ytlcdbangmbdlcaa
/- Documents: what may be, on: where layers stand, how many nodes, how deep. -/
namespace Go.Proofs.Ytlcdbangmbdlcaa
open Go Go.RowKit E
set_option linter.unusedSimpArgs false
set_option linter.unusedVariables false
def Ly.parents (c : List Ly) : List Int := c.map (·.parent)
def ringGo (ps : List Int) (k : Int) : Nat → Int → Bool
  | 0, _ => false
  | n + 1, a => if a = k then true else if 0 ≤ a ∧ a < ps.length then ringGo ps k n ((ps[a.toNat]?).getD (-1)) else false
def ringsB (ps : List Int) (k : Nat) : Bool := ringGo ps k ps.length ((ps[k]?).getD (-1))
theorem ringGo_iff (ps : List Int) (k : Int) (hk : 0 ≤ k ∧ k < ps.length) : ∀ (n : Nat) (a : Int), ringGo ps k n a = true ↔ ∃ m, m < n ∧ chn ps a m = k
  | 0, a => by simp [ringGo]
  | n + 1, a => by
    rw [ringGo]
    by_cases h : a = k
    · rw [if_pos h]; exact ⟨fun _ => ⟨0, by omega, h⟩, fun _ => rfl⟩
    · rw [if_neg h]
      have e : 0 ≤ a → ∀ m, chn ps a (m + 1) = chn ps ((ps[a.toNat]?).getD (-1)) m := fun h0 m => by
        rw [Nat.add_comm, chn_add]
        show chn ps (if 0 ≤ a then _ else _) m = _
        rw [if_pos h0]; rfl
      by_cases h2 : 0 ≤ a ∧ a < ps.length
      · rw [if_pos h2, ringGo_iff ps k hk n]
        constructor
        · rintro ⟨m, h3, h4⟩; exact ⟨m + 1, by omega, by rw [e h2.1]; exact h4⟩
        · rintro ⟨m, h3, h4⟩
          cases m with
          | zero => exact absurd h4 h
          | succ m => exact ⟨m, by omega, by rw [← e h2.1]; exact h4⟩
      · rw [if_neg h2]
        constructor
        · intro h3; cases h3
        · rintro ⟨m, h3, h4⟩
          rcases ilt_ge a 0 with hlt | hge
          · rw [chn_neg hlt] at h4; exact absurd h4 h
          · cases m with
            | zero => exact absurd h4 h
            | succ m =>
              rw [e hge, List.getElem?_eq_none (by omega)] at h4
              have : chn ps (-1) m = k := h4
              rw [chn_neg (by omega)] at this; omega
theorem ringsB_iff (ps : List Int) (k : Nat) (hk : k < ps.length) : ringsB ps k = true ↔ ringAt ps k := by
  unfold ringsB ringAt
  rw [ringGo_iff ps k (by omega)]
  have e : ∀ m, chn ps k (m + 1) = chn ps ((ps[k]?).getD (-1)) m := fun m => by
    rw [Nat.add_comm, chn_add]
    show chn ps (if 0 ≤ (k : Int) then _ else _) m = _
    rw [if_pos (by omega)]; rfl
  constructor
  · rintro ⟨m, h1, h2⟩; exact ⟨m + 1, by omega, by omega, by rw [e]; exact h2⟩
  · rintro ⟨m, h1, h2, h3⟩
    refine ⟨m - 1, by omega, ?_⟩
    rw [← e, show m - 1 + 1 = m by omega]; exact h3
def treeB (cs : List (List Ly)) (n k : Nat) (c : List Ly) (l : Ly) : Bool :=
  !(((l.parent != -1) && !(decide (0 ≤ l.parent) && decide (l.parent < (c.length : Int)))) || ringsB (Ly.parents c) k) &&
  !((l.matte != 0) && (((k : Int) == 0) || (((c[k - 1]?).elim 0 (·.matte)) != 0))) &&
  (!(l.kind == 1) || ((decide (0 ≤ l.comp) && decide (l.comp < (cs.length : Int))) && decide ((n : Int) < l.comp)))
def lysE (cs : List (List Ly)) (n : Nat) (c : List Ly) : Nat → List Ly → Int
  | _, [] => 0
  | k, l :: t => if layerB l = false then 14 else if treeB cs n k c l = false then 15 else lysE cs n c (k + 1) t
def cosE (cs : List (List Ly)) : Nat → List (List Ly) → Int
  | _, [] => 0
  | n, c :: t => if ¬ lysE cs n c 0 c = 0 then lysE cs n c 0 c else cosE cs (n + 1) t
/-- Something of each comp, from the c-th on, of what comps behind have. -/
def cntGo (f : Int → Ly → Int → Int) (z : Int) : Nat → List (List Ly) → List Int
  | _, [] => []
  | c, ls :: rest => ls.foldl (fun n l => f n l (if l.kind = 1 ∧ (c : Int) < l.comp ∧ l.comp < c + 1 + rest.length then (((cntGo f z (c + 1) rest)[(l.comp - (c + 1)).toNat]?).getD 0) else 0)) z :: cntGo f z (c + 1) rest
def mnI (a b : Int) : Int := if b < a then b else a
def mxI (a b : Int) : Int := if a < b then b else a
def nodF (n : Int) (l : Ly) (inner : Int) : Int := mnI (if l.kind = 0 then n + 2 else if l.kind = 1 then n + (1 + inner) else n) 257
def depF (n : Int) (_ : Ly) (inner : Int) : Int := mxI n (1 + inner)
def nodesE (cs : List (List Ly)) (c : Int) : Int := if (decide (0 ≤ c) && decide (c < (cs.length : Int))) = true then ((cntGo nodF 0 0 cs)[c.toNat]?).getD 0 else 0
def deepE (cs : List (List Ly)) (c : Int) : Int := if (decide (0 ≤ c) && decide (c < (cs.length : Int))) = true then ((cntGo depF 1 0 cs)[c.toNat]?).getD 0 else 0
def sizeB (cs : List (List Ly)) : Bool := decide ((cs.length : Int) < 1) || decide (8 < (cs.length : Int)) || cs.any fun c => decide (16 < (c.length : Int))
def rightE (d : Dc) : Int :=
  if sizeB d.comps = true then 23
  else if (!tickB d.in_ || !tickB d.out || decide (d.out ≤ d.in_)) = true then 1
  else if ¬ cosE d.comps 0 d.comps = 0 then cosE d.comps 0 d.comps
  else if 4 < deepE d.comps 0 ∨ 256 < nodesE d.comps 0 then 24 else 0
end Go.Proofs.Ytlcdbangmbdlcaa
