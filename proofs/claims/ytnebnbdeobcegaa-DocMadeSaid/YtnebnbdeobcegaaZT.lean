/- Merged texts: DocD DocE. -/
import Derived.Test.YtnebnbdeobcegaaZR
/- Documents: the walks of what compares documents. -/
namespace Go.Proofs.Ytnebnbdeobcegaa
open Go Go.RowKit E
attribute [local irreducible] XRun XOps XCode XCal XLoop XQ SemCall
set_option linter.unusedSimpArgs false
set_option linter.unusedVariables false
def lyP (x y : Ly) : Bool := (x.kind == y.kind) && (x.parent == y.parent) && (x.comp == y.comp) && (x.matte == y.matte) && (x.in_ == y.in_) && (x.out == y.out) && (x.start == y.start)
def lyQ (x y : Ly) : Bool := lyP x y && eqG (eqG kyQ) x.keys y.keys && plQ x.mask y.mask && shQ x.shape y.shape
def dcQ (x y : Dc) : Bool := (x.in_ == y.in_) && (x.out == y.out) && eqG (eqG lyQ) x.comps y.comps
set_option maxHeartbeats 4000000 in
theorem eqKs_ (l m : List (List Ky)) (v w : Value) (H : AH) (h : RowOf 1 KsE H v l) (h' : RowOf 1 KsE H w m) : SemCall Try.prog 45 [v, w, .func (.func 47) [].toArray [].toArray] H (.bool (eqG (eqG kyQ) l m)) H [] := by
  refine pure_of ?_ rfl
  have hlen := h.len
  obtain ⟨va, ve, hv⟩ := h.form
  subst hv
  obtain ⟨wa, we, hw⟩ := h'.form
  subst hw
  refine XCal.of hm Try.func45 rfl (fun xs w => Try.call45 xs w) Try.ntmps45 Try.results45 rfl ?_
  by_cases hl : (l.length : Int) = (m.length : Int)
  · simp only [go_sem, Nat.reduceEqDiff, Nat.reduceAdd, Nat.reduceSub, Nat.reduceMul, Nat.reduceLT, Nat.reduceLeDiff, Int.reducePow, Int.reduceBEq, Int.reduceBNe, Int.reduceDiv, Int.reduceMod, Int.reduceEq, Int.reduceLT, Int.reduceLE, Int.reduceAdd, Int.reduceSub, Int.reduceMul, Int.reduceNeg, Int.reduceToNat, Int.reduceTDiv, Int.reduceTMod, ↓reduceIte, nt hl]
    refine keep (fun k T K D => D = [] ∧ Old H K ∧ H.length ≤ K.length ∧ T 1 = .slice wa m.length we ∧ T 2 = .func (.func 47) [].toArray [].toArray ∧ T 15 = .slice va l.length ve ∧ T 16 = .int .i64 (l.length : Int) ∧ ∃ i : Nat, i + k = l.length ∧ T 17 = .int .i64 (i : Int) ∧ eqG (eqG kyQ) (l.drop i) (m.drop i) = eqG (eqG kyQ) l m) l.length ⟨rfl, Old.refl _, by omega, rfl, rfl, rfl, rfl, 0, by omega, rfl, rfl⟩ ?_
    rintro k T K D ⟨rfl, hold, hKl, h1, h2, h15, h16, i, hi, h17, hr⟩
    have kd : ∀ n, decide (K.length + n < H.length) = false := fun n => df (by omega)
    have kd0 : decide (K.length < H.length) = false := df (by omega)
    by_cases hk : i < l.length
    · obtain ⟨x, hx⟩ : ∃ x, l[i]? = some x := ⟨_, List.getElem?_eq_getElem hk⟩
      obtain ⟨y, hy⟩ : ∃ y, m[i]? = some y := ⟨_, List.getElem?_eq_getElem (by omega)⟩
      obtain ⟨b, g, cells, rw_, c, hve, hb, hE, hcl, hle, hld, hgt⟩ := h.at hx
      obtain ⟨kv, rfl, hkv⟩ := hE
      obtain ⟨b', g', cells', rw', c', hwe, hb', hE', hcl', hle', hld', hgt'⟩ := h'.at hy
      obtain ⟨kw, rfl, hkw⟩ := hE'
      have kb := hold _ _ hb
      have kb' := hold _ _ hb'
      have hg := hgt 0 (by omega)
      have hg' := hgt' 0 (by omega)
      rw [Nat.mul_one, Nat.add_zero] at hg hg'
      have hg : cells[i]? = some kv := hg
      have hg' : cells'[i]? = some kw := hg'
      rw [hve] at h15
      rw [hwe] at h1
      rw [drop_at hx, drop_at hy, eqG] at hr
      have w1 : IntKind.i64.wrap ((i : Int) + 1) = ((i + 1 : Nat) : Int) := by rw [wi (by omega) (by omega)]; rfl
      have q0 : (0 : Int) ≤ (i : Int) := by omega
      have q1 : (i : Int) < (l.length : Int) := by omega
      have q2 : (i : Int) < (m.length : Int) := by omega
      have k1 := eqKy_ x y kv kw K (hkv.old KyE.m hold) (hkw.old KyE.m hold)
      cases hq : (eqG kyQ) x y with
      | true =>
        rw [hq, Bool.true_and] at hr
        rw [hq] at k1
        simp only [go_sem, Nat.reduceEqDiff, Nat.reduceAdd, Nat.reduceSub, Nat.reduceMul, Nat.reduceLT, Nat.reduceLeDiff, Int.reducePow, Int.reduceBEq, Int.reduceBNe, Int.reduceDiv, Int.reduceMod, Int.reduceEq, Int.reduceLT, Int.reduceLE, Int.reduceAdd, Int.reduceSub, Int.reduceMul, Int.reduceNeg, Int.reduceToNat, Int.reduceTDiv, Int.reduceTMod, ↓reduceIte, h1, h2, h15, h16, h17, dt q1, q0, q1, q2, Int.toNat_natCast, Nat.zero_add, kb, kb', hg, hg', Nat.mul_one, kd, kd0]
        refine k1.x ?_
        simp only [go_sem, Nat.reduceEqDiff, Nat.reduceAdd, Nat.reduceSub, Nat.reduceMul, Nat.reduceLT, Nat.reduceLeDiff, Int.reducePow, Int.reduceBEq, Int.reduceBNe, Int.reduceDiv, Int.reduceMod, Int.reduceEq, Int.reduceLT, Int.reduceLE, Int.reduceAdd, Int.reduceSub, Int.reduceMul, Int.reduceNeg, Int.reduceToNat, Int.reduceTDiv, Int.reduceTMod, ↓reduceIte, h1, h2, h15, h16, h17, w1, kd, kd0]
        exact ⟨k - 1, by omega, hold, by omega, hwe.symm, hve.symm, i + 1, by omega, rfl, hr⟩
      | false =>
        rw [hq, Bool.false_and] at hr
        rw [hq] at k1
        simp only [go_sem, Nat.reduceEqDiff, Nat.reduceAdd, Nat.reduceSub, Nat.reduceMul, Nat.reduceLT, Nat.reduceLeDiff, Int.reducePow, Int.reduceBEq, Int.reduceBNe, Int.reduceDiv, Int.reduceMod, Int.reduceEq, Int.reduceLT, Int.reduceLE, Int.reduceAdd, Int.reduceSub, Int.reduceMul, Int.reduceNeg, Int.reduceToNat, Int.reduceTDiv, Int.reduceTMod, ↓reduceIte, h1, h2, h15, h16, h17, dt q1, q0, q1, q2, Int.toNat_natCast, Nat.zero_add, kb, kb', hg, hg', Nat.mul_one, kd, kd0]
        refine k1.x ?_
        simp only [go_sem, Nat.reduceEqDiff, Nat.reduceAdd, Nat.reduceSub, Nat.reduceMul, Nat.reduceLT, Nat.reduceLeDiff, Int.reducePow, Int.reduceBEq, Int.reduceBNe, Int.reduceDiv, Int.reduceMod, Int.reduceEq, Int.reduceLT, Int.reduceLE, Int.reduceAdd, Int.reduceSub, Int.reduceMul, Int.reduceNeg, Int.reduceToNat, Int.reduceTDiv, Int.reduceTMod, ↓reduceIte, h1, h2, h15, h16, h17, w1, kd, kd0]
        rw [← hr]
    · rw [List.drop_eq_nil_of_le (by omega), List.drop_eq_nil_of_le (by omega)] at hr
      simp only [go_sem, Nat.reduceEqDiff, Nat.reduceAdd, Nat.reduceSub, Nat.reduceMul, Nat.reduceLT, Nat.reduceLeDiff, Int.reducePow, Int.reduceBEq, Int.reduceBNe, Int.reduceDiv, Int.reduceMod, Int.reduceEq, Int.reduceLT, Int.reduceLE, Int.reduceAdd, Int.reduceSub, Int.reduceMul, Int.reduceNeg, Int.reduceToNat, Int.reduceTDiv, Int.reduceTMod, ↓reduceIte, h1, h2, h15, h16, h17, df (show ¬ (i : Int) < (l.length : Int) by omega)]
      rw [← hr]; rfl
  · rw [eqG_len (by omega)]
    simp only [go_sem, Nat.reduceEqDiff, Nat.reduceAdd, Nat.reduceSub, Nat.reduceMul, Nat.reduceLT, Nat.reduceLeDiff, Int.reducePow, Int.reduceBEq, Int.reduceBNe, Int.reduceDiv, Int.reduceMod, Int.reduceEq, Int.reduceLT, Int.reduceLE, Int.reduceAdd, Int.reduceSub, Int.reduceMul, Int.reduceNeg, Int.reduceToNat, Int.reduceTDiv, Int.reduceTMod, ↓reduceIte, nf hl]
theorem unkeys (l : Ly) : l.keys = [l.x, l.y, l.ax, l.ay, l.sx, l.sy, l.turn, l.opac, l.remap] := rfl
set_option maxHeartbeats 4000000 in
theorem slayer_ (x y : Ly) (v0 v1 v2 v3 v4 v5 v6 v7 v8 pm vw vh vp vc vd vda vf vt w0 w1 w2 w3 w4 w5 w6 w7 w8 qm ww wh wp wc wd wda wf wt : Value) (H : AH) (h : LyV H x v0 v1 v2 v3 v4 v5 v6 v7 v8 pm) (hs : ShV H x.shape vw vh vp vc vd vda vf vt) (h' : LyV H y w0 w1 w2 w3 w4 w5 w6 w7 w8 qm) (hs' : ShV H y.shape ww wh wp wc wd wda wf wt) :
    SemCall Try.prog 24 [.agg (lyVs x v0 v1 v2 v3 v4 v5 v6 v7 v8 pm vw vh vp vc vd vda vf vt).toArray, .agg (lyVs y w0 w1 w2 w3 w4 w5 w6 w7 w8 qm ww wh wp wc wd wda wf wt).toArray] H (.bool (lyQ x y)) H [] := by
  refine pure_of ?_ rfl
  generalize hL : H ++ [(⟨lyVs x v0 v1 v2 v3 v4 v5 v6 v7 v8 pm vw vh vp vc vd vda vf vt, 0, true⟩ : Blk), ⟨lyVs y w0 w1 w2 w3 w4 w5 w6 w7 w8 qm ww wh wp wc wd wda wf wt, 0, true⟩] = L at *
  have g0 : L[H.length]? = some ⟨lyVs x v0 v1 v2 v3 v4 v5 v6 v7 v8 pm vw vh vp vc vd vda vf vt, 0, true⟩ := by rw [← hL, hget_app0]; rfl
  have g1 : L[H.length + 1]? = some ⟨lyVs y w0 w1 w2 w3 w4 w5 w6 w7 w8 qm ww wh wp wc wd wda wf wt, 0, true⟩ := by rw [← hL, hget_app]; rfl
  have o : Old H L := by rw [← hL]; exact Old.app' _ _
  have hLl : H.length ≤ L.length := by rw [← hL]; simp
  have h := h.old o
  have hs := hs.old o
  have h' := h'.old o
  have hs' := hs'.old o
  obtain ⟨q, hq⟩ : ∃ q, lyQ x y = q := ⟨_, rfl⟩
  rw [hq]
  unfold lyQ at hq
  refine XCal.of hm Try.func24 rfl (fun xs w => Try.call24 xs w) Try.ntmps24 Try.results24 rfl ?_
  refine xcut (fun T K D => D = [] ∧ K = L ∧ T 2 = ap H.length 0 0 ∧ T 3 = ap (H.length + 1) 0 0) ?_ ?_
  · simp only [go_sem, Nat.reduceEqDiff, Nat.reduceAdd, Nat.reduceSub, Nat.reduceMul, Nat.reduceLT, Nat.reduceLeDiff, Int.reducePow, Int.reduceBEq, Int.reduceBNe, Int.reduceDiv, Int.reduceMod, Int.reduceEq, Int.reduceLT, Int.reduceLE, Int.reduceAdd, Int.reduceSub, Int.reduceMul, Int.reduceNeg, Int.reduceToNat, Int.reduceTDiv, Int.reduceTMod, ↓reduceIte, ← hL]
  · rintro T K D ⟨rfl, rfl, t2, t3⟩
    refine xcut (fun T' K' D => D = [] ∧ K' = K ∧ T' 2 = ap H.length 0 0 ∧ T' 3 = ap (H.length + 1) 0 0 ∧ T' 5 = .bool (lyP x y)) ?_ ?_
    · clear hq
      obtain ⟨q, hq⟩ : ∃ q, lyP x y = q := ⟨_, rfl⟩
      rw [hq]
      unfold lyP at hq
      cases h1 : (x.kind == y.kind) with
      | false =>
        simp only [h1, Bool.true_and, Bool.and_true, Bool.false_and, Bool.and_false] at hq
        subst hq
        simp only [go_sem, Nat.reduceEqDiff, Nat.reduceAdd, Nat.reduceSub, Nat.reduceMul, Nat.reduceLT, Nat.reduceLeDiff, Int.reducePow, Int.reduceBEq, Int.reduceBNe, Int.reduceDiv, Int.reduceMod, Int.reduceEq, Int.reduceLT, Int.reduceLE, Int.reduceAdd, Int.reduceSub, Int.reduceMul, Int.reduceNeg, Int.reduceToNat, Int.reduceTDiv, Int.reduceTMod, ↓reduceIte, t2, t3, g0, g1, h1]
      | true =>
        cases h2 : (x.parent == y.parent) with
        | false =>
          simp only [h1, h2, Bool.true_and, Bool.and_true, Bool.false_and, Bool.and_false] at hq
          subst hq
          simp only [go_sem, Nat.reduceEqDiff, Nat.reduceAdd, Nat.reduceSub, Nat.reduceMul, Nat.reduceLT, Nat.reduceLeDiff, Int.reducePow, Int.reduceBEq, Int.reduceBNe, Int.reduceDiv, Int.reduceMod, Int.reduceEq, Int.reduceLT, Int.reduceLE, Int.reduceAdd, Int.reduceSub, Int.reduceMul, Int.reduceNeg, Int.reduceToNat, Int.reduceTDiv, Int.reduceTMod, ↓reduceIte, t2, t3, g0, g1, h1, h2]
        | true =>
          cases h3 : (x.comp == y.comp) with
          | false =>
            simp only [h1, h2, h3, Bool.true_and, Bool.and_true, Bool.false_and, Bool.and_false] at hq
            subst hq
            simp only [go_sem, Nat.reduceEqDiff, Nat.reduceAdd, Nat.reduceSub, Nat.reduceMul, Nat.reduceLT, Nat.reduceLeDiff, Int.reducePow, Int.reduceBEq, Int.reduceBNe, Int.reduceDiv, Int.reduceMod, Int.reduceEq, Int.reduceLT, Int.reduceLE, Int.reduceAdd, Int.reduceSub, Int.reduceMul, Int.reduceNeg, Int.reduceToNat, Int.reduceTDiv, Int.reduceTMod, ↓reduceIte, t2, t3, g0, g1, h1, h2, h3]
          | true =>
            cases h4 : (x.matte == y.matte) with
            | false =>
              simp only [h1, h2, h3, h4, Bool.true_and, Bool.and_true, Bool.false_and, Bool.and_false] at hq
              subst hq
              simp only [go_sem, Nat.reduceEqDiff, Nat.reduceAdd, Nat.reduceSub, Nat.reduceMul, Nat.reduceLT, Nat.reduceLeDiff, Int.reducePow, Int.reduceBEq, Int.reduceBNe, Int.reduceDiv, Int.reduceMod, Int.reduceEq, Int.reduceLT, Int.reduceLE, Int.reduceAdd, Int.reduceSub, Int.reduceMul, Int.reduceNeg, Int.reduceToNat, Int.reduceTDiv, Int.reduceTMod, ↓reduceIte, t2, t3, g0, g1, h1, h2, h3, h4]
            | true =>
              cases h5 : (x.in_ == y.in_) with
              | false =>
                simp only [h1, h2, h3, h4, h5, Bool.true_and, Bool.and_true, Bool.false_and, Bool.and_false] at hq
                subst hq
                simp only [go_sem, Nat.reduceEqDiff, Nat.reduceAdd, Nat.reduceSub, Nat.reduceMul, Nat.reduceLT, Nat.reduceLeDiff, Int.reducePow, Int.reduceBEq, Int.reduceBNe, Int.reduceDiv, Int.reduceMod, Int.reduceEq, Int.reduceLT, Int.reduceLE, Int.reduceAdd, Int.reduceSub, Int.reduceMul, Int.reduceNeg, Int.reduceToNat, Int.reduceTDiv, Int.reduceTMod, ↓reduceIte, t2, t3, g0, g1, h1, h2, h3, h4, h5]
              | true =>
                cases h6 : (x.out == y.out) with
                | false =>
                  simp only [h1, h2, h3, h4, h5, h6, Bool.true_and, Bool.and_true, Bool.false_and, Bool.and_false] at hq
                  subst hq
                  simp only [go_sem, Nat.reduceEqDiff, Nat.reduceAdd, Nat.reduceSub, Nat.reduceMul, Nat.reduceLT, Nat.reduceLeDiff, Int.reducePow, Int.reduceBEq, Int.reduceBNe, Int.reduceDiv, Int.reduceMod, Int.reduceEq, Int.reduceLT, Int.reduceLE, Int.reduceAdd, Int.reduceSub, Int.reduceMul, Int.reduceNeg, Int.reduceToNat, Int.reduceTDiv, Int.reduceTMod, ↓reduceIte, t2, t3, g0, g1, h1, h2, h3, h4, h5, h6]
                | true =>
                  simp only [h1, h2, h3, h4, h5, h6, Bool.true_and, Bool.and_true, Bool.false_and, Bool.and_false] at hq
                  subst hq
                  simp only [go_sem, Nat.reduceEqDiff, Nat.reduceAdd, Nat.reduceSub, Nat.reduceMul, Nat.reduceLT, Nat.reduceLeDiff, Int.reducePow, Int.reduceBEq, Int.reduceBNe, Int.reduceDiv, Int.reduceMod, Int.reduceEq, Int.reduceLT, Int.reduceLE, Int.reduceAdd, Int.reduceSub, Int.reduceMul, Int.reduceNeg, Int.reduceToNat, Int.reduceTDiv, Int.reduceTMod, ↓reduceIte, t2, t3, g0, g1, h1, h2, h3, h4, h5, h6]
    · rintro T' K' D ⟨rfl, rfl, t2, t3, t5⟩
      cases h1 : lyP x y with
      | false =>
        rw [h1] at t5 hq
        simp only [Bool.false_and] at hq
        subst hq
        simp only [go_sem, Nat.reduceEqDiff, Nat.reduceAdd, Nat.reduceSub, Nat.reduceMul, Nat.reduceLT, Nat.reduceLeDiff, Int.reducePow, Int.reduceBEq, Int.reduceBNe, Int.reduceDiv, Int.reduceMod, Int.reduceEq, Int.reduceLT, Int.reduceLE, Int.reduceAdd, Int.reduceSub, Int.reduceMul, Int.reduceNeg, Int.reduceToNat, Int.reduceTDiv, Int.reduceTMod, ↓reduceIte, t2, t3, t5, g0, g1]
        repeat ((first | refine drawnF ?_ (by decide +kernel) | refine drawnU [(3, 4)] (by decide +kernel) ?_); simp only [go_sem, Nat.reduceEqDiff, Nat.reduceAdd, Nat.reduceSub, Nat.reduceMul, Nat.reduceLT, Nat.reduceLeDiff, Int.reducePow, Int.reduceBEq, Int.reduceBNe, Int.reduceDiv, Int.reduceMod, Int.reduceEq, Int.reduceLT, Int.reduceLE, Int.reduceAdd, Int.reduceSub, Int.reduceMul, Int.reduceNeg, Int.reduceToNat, Int.reduceTDiv, Int.reduceTMod, ↓reduceIte, t2, t3, t5, g0, g1])
      | true =>
        rw [h1, Bool.true_and] at hq
        rw [h1] at t5
        simp only [go_sem, Nat.reduceEqDiff, Nat.reduceAdd, Nat.reduceSub, Nat.reduceMul, Nat.reduceLT, Nat.reduceLeDiff, Int.reducePow, Int.reduceBEq, Int.reduceBNe, Int.reduceDiv, Int.reduceMod, Int.reduceEq, Int.reduceLT, Int.reduceLE, Int.reduceAdd, Int.reduceSub, Int.reduceMul, Int.reduceNeg, Int.reduceToNat, Int.reduceTDiv, Int.reduceTMod, ↓reduceIte, t2, t3, t5, g0, g1]
        refine drawnF ?_ (by decide +kernel)
        simp only [go_sem, Nat.reduceEqDiff, Nat.reduceAdd, Nat.reduceSub, Nat.reduceMul, Nat.reduceLT, Nat.reduceLeDiff, Int.reducePow, Int.reduceBEq, Int.reduceBNe, Int.reduceDiv, Int.reduceMod, Int.reduceEq, Int.reduceLT, Int.reduceLE, Int.reduceAdd, Int.reduceSub, Int.reduceMul, Int.reduceNeg, Int.reduceToNat, Int.reduceTDiv, Int.reduceTMod, ↓reduceIte, t2, t3, t5, g0, g1]
        refine (keysR_ x _ _ _ _ _ _ _ _ _ _ _ _ _ _ _ _ _ _ K' h).x ?_
        rintro v H1 W1 ⟨rfl, ⟨M, rfl⟩, hR⟩
        have o2 : Old K' (K' ++ M) := Old.app' _ _
        simp only [go_sem, Nat.reduceEqDiff, Nat.reduceAdd, Nat.reduceSub, Nat.reduceMul, Nat.reduceLT, Nat.reduceLeDiff, Int.reducePow, Int.reduceBEq, Int.reduceBNe, Int.reduceDiv, Int.reduceMod, Int.reduceEq, Int.reduceLT, Int.reduceLE, Int.reduceAdd, Int.reduceSub, Int.reduceMul, Int.reduceNeg, Int.reduceToNat, Int.reduceTDiv, Int.reduceTMod, ↓reduceIte, t2, t3, t5, old_get g0, old_get g1]
        refine (keysR_ y _ _ _ _ _ _ _ _ _ _ _ _ _ _ _ _ _ _ _ (h'.old o2)).x ?_
        rintro w H1 W1 ⟨rfl, ⟨M', rfl⟩, hR'⟩
        have o3 : Old (K' ++ M) (K' ++ M ++ M') := Old.app' _ _
        have hR := hR.old KsE.m o3
        have o4 := o2.trans o3
        have g0 := o4 _ _ g0
        have g1 := o4 _ _ g1
        have h := h.old o4
        have h' := h'.old o4
        have hs := hs.old o4
        have hs' := hs'.old o4
        have k1 := eqKs_ _ _ _ _ _ hR hR'
        have k2 := psame_ x.mask y.mask pm qm _ h.mask h'.mask
        have k3 := sshape_ x.shape y.shape vw vh vp vc vd vda vf vt ww wh wp wc wd wda wf wt _ hs hs'
        clear o o2 o3 o4 hL
        simp only [go_sem, Nat.reduceEqDiff, Nat.reduceAdd, Nat.reduceSub, Nat.reduceMul, Nat.reduceLT, Nat.reduceLeDiff, Int.reducePow, Int.reduceBEq, Int.reduceBNe, Int.reduceDiv, Int.reduceMod, Int.reduceEq, Int.reduceLT, Int.reduceLE, Int.reduceAdd, Int.reduceSub, Int.reduceMul, Int.reduceNeg, Int.reduceToNat, Int.reduceTDiv, Int.reduceTMod, ↓reduceIte, List.append_assoc]
        rw [List.append_assoc] at k1 k2 k3 g0 g1
        generalize K' ++ (M ++ M') = K2 at *
        cases h2 : eqG (eqG kyQ) x.keys y.keys with
        | false =>
          rw [h2] at k1 hq
          simp only [Bool.false_and] at hq
          subst hq
          refine k1.x ?_
          simp only [go_sem, Nat.reduceEqDiff, Nat.reduceAdd, Nat.reduceSub, Nat.reduceMul, Nat.reduceLT, Nat.reduceLeDiff, Int.reducePow, Int.reduceBEq, Int.reduceBNe, Int.reduceDiv, Int.reduceMod, Int.reduceEq, Int.reduceLT, Int.reduceLE, Int.reduceAdd, Int.reduceSub, Int.reduceMul, Int.reduceNeg, Int.reduceToNat, Int.reduceTDiv, Int.reduceTMod, ↓reduceIte, t2, t3, t5, g0, g1]
        | true =>
          rw [h2] at k1 hq
          rw [Bool.true_and] at hq
          refine k1.x ?_
          cases h3 : plQ x.mask y.mask with
          | false =>
            rw [h3] at k2 hq
            simp only [Bool.false_and] at hq
            subst hq
            simp only [go_sem, Nat.reduceEqDiff, Nat.reduceAdd, Nat.reduceSub, Nat.reduceMul, Nat.reduceLT, Nat.reduceLeDiff, Int.reducePow, Int.reduceBEq, Int.reduceBNe, Int.reduceDiv, Int.reduceMod, Int.reduceEq, Int.reduceLT, Int.reduceLE, Int.reduceAdd, Int.reduceSub, Int.reduceMul, Int.reduceNeg, Int.reduceToNat, Int.reduceTDiv, Int.reduceTMod, ↓reduceIte, t2, t3, t5, g0, g1]
            refine k2.x ?_
            simp only [go_sem, Nat.reduceEqDiff, Nat.reduceAdd, Nat.reduceSub, Nat.reduceMul, Nat.reduceLT, Nat.reduceLeDiff, Int.reducePow, Int.reduceBEq, Int.reduceBNe, Int.reduceDiv, Int.reduceMod, Int.reduceEq, Int.reduceLT, Int.reduceLE, Int.reduceAdd, Int.reduceSub, Int.reduceMul, Int.reduceNeg, Int.reduceToNat, Int.reduceTDiv, Int.reduceTMod, ↓reduceIte, t2, t3, t5, g0, g1]
          | true =>
            rw [h3] at k2 hq
            rw [Bool.true_and] at hq
            rw [hq] at k3
            simp only [go_sem, Nat.reduceEqDiff, Nat.reduceAdd, Nat.reduceSub, Nat.reduceMul, Nat.reduceLT, Nat.reduceLeDiff, Int.reducePow, Int.reduceBEq, Int.reduceBNe, Int.reduceDiv, Int.reduceMod, Int.reduceEq, Int.reduceLT, Int.reduceLE, Int.reduceAdd, Int.reduceSub, Int.reduceMul, Int.reduceNeg, Int.reduceToNat, Int.reduceTDiv, Int.reduceTMod, ↓reduceIte, t2, t3, t5, g0, g1]
            refine k2.x ?_
            simp only [go_sem, Nat.reduceEqDiff, Nat.reduceAdd, Nat.reduceSub, Nat.reduceMul, Nat.reduceLT, Nat.reduceLeDiff, Int.reducePow, Int.reduceBEq, Int.reduceBNe, Int.reduceDiv, Int.reduceMod, Int.reduceEq, Int.reduceLT, Int.reduceLE, Int.reduceAdd, Int.reduceSub, Int.reduceMul, Int.reduceNeg, Int.reduceToNat, Int.reduceTDiv, Int.reduceTMod, ↓reduceIte, t2, t3, t5, g0, g1]
            refine k3.x ?_
            simp only [go_sem, Nat.reduceEqDiff, Nat.reduceAdd, Nat.reduceSub, Nat.reduceMul, Nat.reduceLT, Nat.reduceLeDiff, Int.reducePow, Int.reduceBEq, Int.reduceBNe, Int.reduceDiv, Int.reduceMod, Int.reduceEq, Int.reduceLT, Int.reduceLE, Int.reduceAdd, Int.reduceSub, Int.reduceMul, Int.reduceNeg, Int.reduceToNat, Int.reduceTDiv, Int.reduceTMod, ↓reduceIte, t2, t3, t5, g0, g1]
set_option maxHeartbeats 4000000 in
theorem eqLy_ (l m : List Ly) (v w : Value) (H : AH) (h : RowOf 50 LyE H v l) (h' : RowOf 50 LyE H w m) : SemCall Try.prog 23 [v, w, .func (.func 24) [].toArray [].toArray] H (.bool (eqG lyQ l m)) H [] := by
  refine pure_of ?_ rfl
  have hlen := h.len
  obtain ⟨va, ve, hv⟩ := h.form
  subst hv
  obtain ⟨wa, we, hw⟩ := h'.form
  subst hw
  refine XCal.of hm Try.func23 rfl (fun xs w => Try.call23 xs w) Try.ntmps23 Try.results23 rfl ?_
  by_cases hl : (l.length : Int) = (m.length : Int)
  · simp only [go_sem, Nat.reduceEqDiff, Nat.reduceAdd, Nat.reduceSub, Nat.reduceMul, Nat.reduceLT, Nat.reduceLeDiff, Int.reducePow, Int.reduceBEq, Int.reduceBNe, Int.reduceDiv, Int.reduceMod, Int.reduceEq, Int.reduceLT, Int.reduceLE, Int.reduceAdd, Int.reduceSub, Int.reduceMul, Int.reduceNeg, Int.reduceToNat, Int.reduceTDiv, Int.reduceTMod, ↓reduceIte, nt hl]
    refine keep (fun k T K D => D = [] ∧ Old H K ∧ H.length ≤ K.length ∧ T 1 = .slice wa m.length we ∧ T 2 = .func (.func 24) [].toArray [].toArray ∧ T 15 = .slice va l.length ve ∧ T 16 = .int .i64 (l.length : Int) ∧ ∃ i : Nat, i + k = l.length ∧ T 17 = .int .i64 (i : Int) ∧ eqG lyQ (l.drop i) (m.drop i) = eqG lyQ l m) l.length ⟨rfl, Old.refl _, by omega, rfl, rfl, rfl, rfl, 0, by omega, rfl, rfl⟩ ?_
    rintro k T K D ⟨rfl, hold, hKl, h1, h2, h15, h16, i, hi, h17, hr⟩
    have kd : ∀ n, decide (K.length + n < H.length) = false := fun n => df (by omega)
    have kd0 : decide (K.length < H.length) = false := df (by omega)
    by_cases hk : i < l.length
    · obtain ⟨x, hx⟩ : ∃ x, l[i]? = some x := ⟨_, List.getElem?_eq_getElem hk⟩
      obtain ⟨y, hy⟩ : ∃ y, m[i]? = some y := ⟨_, List.getElem?_eq_getElem (by omega)⟩
      obtain ⟨b, g, cells, rw_, c, hve, hb, hE, hcl, hle, hld, hgt⟩ := h.at hx
      obtain ⟨v0, v1, v2, v3, v4, v5, v6, v7, v8, pm, vw, vh, vp, vc, vd, vda, vf, vt, rfl, hLV, hSV⟩ := hE
      obtain ⟨b', g', cells', rw', c', hwe, hb', hE', hcl', hle', hld', hgt'⟩ := h'.at hy
      obtain ⟨w0, w1, w2, w3, w4, w5, w6, w7, w8, qm, ww, wh, wp, wc, wd, wda, wf, wt, rfl, hLV', hSV'⟩ := hE'
      have kb := hold _ _ hb
      have kb' := hold _ _ hb'
      rw [hve] at h15
      rw [hwe] at h1
      rw [drop_at hx, drop_at hy, eqG] at hr
      have i1 : IntKind.i64.wrap ((i : Int) + 1) = ((i + 1 : Nat) : Int) := by rw [wi (by omega) (by omega)]; rfl
      have q0 : (0 : Int) ≤ (i : Int) := by omega
      have q1 : (i : Int) < (l.length : Int) := by omega
      have q2 : (i : Int) < (m.length : Int) := by omega
      have k1 := fun L => slayer_ x y v0 v1 v2 v3 v4 v5 v6 v7 v8 pm vw vh vp vc vd vda vf vt w0 w1 w2 w3 w4 w5 w6 w7 w8 qm ww wh wp wc wd wda wf wt (K ++ L) (hLV.old (hold.app L)) (hSV.old (hold.app L)) (hLV'.old (hold.app L)) (hSV'.old (hold.app L))
      cases hq : lyQ x y with
      | true =>
        rw [hq, Bool.true_and] at hr
        rw [hq] at k1
        simp only [go_sem, Nat.reduceEqDiff, Nat.reduceAdd, Nat.reduceSub, Nat.reduceMul, Nat.reduceLT, Nat.reduceLeDiff, Int.reducePow, Int.reduceBEq, Int.reduceBNe, Int.reduceDiv, Int.reduceMod, Int.reduceEq, Int.reduceLT, Int.reduceLE, Int.reduceAdd, Int.reduceSub, Int.reduceMul, Int.reduceNeg, Int.reduceToNat, Int.reduceTDiv, Int.reduceTMod, ↓reduceIte, h1, h2, h15, h16, h17, dt q1, q0, q1, q2, Int.toNat_natCast, Nat.zero_add, kb, kb', old_get kb', hld, hld', kd, kd0]
        refine (k1 _).x ?_
        simp only [go_sem, Nat.reduceEqDiff, Nat.reduceAdd, Nat.reduceSub, Nat.reduceMul, Nat.reduceLT, Nat.reduceLeDiff, Int.reducePow, Int.reduceBEq, Int.reduceBNe, Int.reduceDiv, Int.reduceMod, Int.reduceEq, Int.reduceLT, Int.reduceLE, Int.reduceAdd, Int.reduceSub, Int.reduceMul, Int.reduceNeg, Int.reduceToNat, Int.reduceTDiv, Int.reduceTMod, ↓reduceIte, h1, h2, h15, h16, h17, i1, kd, kd0]
        exact ⟨k - 1, by omega, hold.app _, by omega, hwe.symm, hve.symm, i + 1, by omega, rfl, hr⟩
      | false =>
        rw [hq, Bool.false_and] at hr
        rw [hq] at k1
        simp only [go_sem, Nat.reduceEqDiff, Nat.reduceAdd, Nat.reduceSub, Nat.reduceMul, Nat.reduceLT, Nat.reduceLeDiff, Int.reducePow, Int.reduceBEq, Int.reduceBNe, Int.reduceDiv, Int.reduceMod, Int.reduceEq, Int.reduceLT, Int.reduceLE, Int.reduceAdd, Int.reduceSub, Int.reduceMul, Int.reduceNeg, Int.reduceToNat, Int.reduceTDiv, Int.reduceTMod, ↓reduceIte, h1, h2, h15, h16, h17, dt q1, q0, q1, q2, Int.toNat_natCast, Nat.zero_add, kb, kb', old_get kb', hld, hld', kd, kd0]
        refine (k1 _).x ?_
        simp only [go_sem, Nat.reduceEqDiff, Nat.reduceAdd, Nat.reduceSub, Nat.reduceMul, Nat.reduceLT, Nat.reduceLeDiff, Int.reducePow, Int.reduceBEq, Int.reduceBNe, Int.reduceDiv, Int.reduceMod, Int.reduceEq, Int.reduceLT, Int.reduceLE, Int.reduceAdd, Int.reduceSub, Int.reduceMul, Int.reduceNeg, Int.reduceToNat, Int.reduceTDiv, Int.reduceTMod, ↓reduceIte, h1, h2, h15, h16, h17, i1, kd, kd0]
        rw [← hr]
    · rw [List.drop_eq_nil_of_le (by omega), List.drop_eq_nil_of_le (by omega)] at hr
      simp only [go_sem, Nat.reduceEqDiff, Nat.reduceAdd, Nat.reduceSub, Nat.reduceMul, Nat.reduceLT, Nat.reduceLeDiff, Int.reducePow, Int.reduceBEq, Int.reduceBNe, Int.reduceDiv, Int.reduceMod, Int.reduceEq, Int.reduceLT, Int.reduceLE, Int.reduceAdd, Int.reduceSub, Int.reduceMul, Int.reduceNeg, Int.reduceToNat, Int.reduceTDiv, Int.reduceTMod, ↓reduceIte, h1, h2, h15, h16, h17, df (show ¬ (i : Int) < (l.length : Int) by omega)]
      rw [← hr]; rfl
  · rw [eqG_len (by omega)]
    simp only [go_sem, Nat.reduceEqDiff, Nat.reduceAdd, Nat.reduceSub, Nat.reduceMul, Nat.reduceLT, Nat.reduceLeDiff, Int.reducePow, Int.reduceBEq, Int.reduceBNe, Int.reduceDiv, Int.reduceMod, Int.reduceEq, Int.reduceLT, Int.reduceLE, Int.reduceAdd, Int.reduceSub, Int.reduceMul, Int.reduceNeg, Int.reduceToNat, Int.reduceTDiv, Int.reduceTMod, ↓reduceIte, nf hl]
theorem same1_ (l m : List Ly) (v w : Value) (H : AH) (h : Lys H v l) (h' : Lys H w m) : SemCall Try.prog 22 [.agg [v].toArray, .agg [w].toArray] H (.bool (eqG lyQ l m)) H [] := by
  refine pure_of ?_ rfl
  obtain ⟨va, ve, hv⟩ := h.form
  subst hv
  obtain ⟨wa, we, hw⟩ := h'.form
  subst hw
  have k1 := fun L => eqLy_ l m _ _ (H ++ L) (h.old LyE.m (Old.app' H L)) (h'.old LyE.m (Old.app' H L))
  refine XCal.of hm Try.func22 rfl (fun xs w => Try.call22 xs w) Try.ntmps22 Try.results22 rfl ?_
  simp only [go_sem, Nat.reduceEqDiff, Nat.reduceAdd, Nat.reduceSub, Nat.reduceMul, Nat.reduceLT, Nat.reduceLeDiff, Int.reducePow, Int.reduceBEq, Int.reduceBNe, Int.reduceDiv, Int.reduceMod, Int.reduceEq, Int.reduceLT, Int.reduceLE, Int.reduceAdd, Int.reduceSub, Int.reduceMul, Int.reduceNeg, Int.reduceToNat, Int.reduceTDiv, Int.reduceTMod, ↓reduceIte]
  repeat ((first | refine (k1 _).x ?_ | refine drawnF ?_ (by decide +kernel)); simp only [go_sem, Nat.reduceEqDiff, Nat.reduceAdd, Nat.reduceSub, Nat.reduceMul, Nat.reduceLT, Nat.reduceLeDiff, Int.reducePow, Int.reduceBEq, Int.reduceBNe, Int.reduceDiv, Int.reduceMod, Int.reduceEq, Int.reduceLT, Int.reduceLE, Int.reduceAdd, Int.reduceSub, Int.reduceMul, Int.reduceNeg, Int.reduceToNat, Int.reduceTDiv, Int.reduceTMod, ↓reduceIte])
set_option maxHeartbeats 4000000 in
theorem eqCo_ (l m : List (List Ly)) (v w : Value) (H : AH) (h : RowOf 1 CoE H v l) (h' : RowOf 1 CoE H w m) : SemCall Try.prog 21 [v, w, .func (.func 22) [].toArray [].toArray] H (.bool (eqG (eqG lyQ) l m)) H [] := by
  refine pure_of ?_ rfl
  have hlen := h.len
  obtain ⟨va, ve, hv⟩ := h.form
  subst hv
  obtain ⟨wa, we, hw⟩ := h'.form
  subst hw
  refine XCal.of hm Try.func21 rfl (fun xs w => Try.call21 xs w) Try.ntmps21 Try.results21 rfl ?_
  by_cases hl : (l.length : Int) = (m.length : Int)
  · simp only [go_sem, Nat.reduceEqDiff, Nat.reduceAdd, Nat.reduceSub, Nat.reduceMul, Nat.reduceLT, Nat.reduceLeDiff, Int.reducePow, Int.reduceBEq, Int.reduceBNe, Int.reduceDiv, Int.reduceMod, Int.reduceEq, Int.reduceLT, Int.reduceLE, Int.reduceAdd, Int.reduceSub, Int.reduceMul, Int.reduceNeg, Int.reduceToNat, Int.reduceTDiv, Int.reduceTMod, ↓reduceIte, nt hl]
    refine keep (fun k T K D => D = [] ∧ Old H K ∧ H.length ≤ K.length ∧ T 1 = .slice wa m.length we ∧ T 2 = .func (.func 22) [].toArray [].toArray ∧ T 15 = .slice va l.length ve ∧ T 16 = .int .i64 (l.length : Int) ∧ ∃ i : Nat, i + k = l.length ∧ T 17 = .int .i64 (i : Int) ∧ eqG (eqG lyQ) (l.drop i) (m.drop i) = eqG (eqG lyQ) l m) l.length ⟨rfl, Old.refl _, by omega, rfl, rfl, rfl, rfl, 0, by omega, rfl, rfl⟩ ?_
    rintro k T K D ⟨rfl, hold, hKl, h1, h2, h15, h16, i, hi, h17, hr⟩
    have kd : ∀ n, decide (K.length + n < H.length) = false := fun n => df (by omega)
    have kd0 : decide (K.length < H.length) = false := df (by omega)
    by_cases hk : i < l.length
    · obtain ⟨x, hx⟩ : ∃ x, l[i]? = some x := ⟨_, List.getElem?_eq_getElem hk⟩
      obtain ⟨y, hy⟩ : ∃ y, m[i]? = some y := ⟨_, List.getElem?_eq_getElem (by omega)⟩
      obtain ⟨b, g, cells, rw_, c, hve, hb, hE, hcl, hle, hld, hgt⟩ := h.at hx
      obtain ⟨kv, rfl, hkv⟩ := hE
      obtain ⟨b', g', cells', rw', c', hwe, hb', hE', hcl', hle', hld', hgt'⟩ := h'.at hy
      obtain ⟨kw, rfl, hkw⟩ := hE'
      have kb := hold _ _ hb
      have kb' := hold _ _ hb'
      rw [hve] at h15
      rw [hwe] at h1
      rw [drop_at hx, drop_at hy, eqG] at hr
      have w1 : IntKind.i64.wrap ((i : Int) + 1) = ((i + 1 : Nat) : Int) := by rw [wi (by omega) (by omega)]; rfl
      have q0 : (0 : Int) ≤ (i : Int) := by omega
      have q1 : (i : Int) < (l.length : Int) := by omega
      have q2 : (i : Int) < (m.length : Int) := by omega
      have k1 := fun L => same1_ x y kv kw (K ++ L) (hkv.old LyE.m (hold.app L)) (hkw.old LyE.m (hold.app L))
      cases hq : (eqG lyQ) x y with
      | true =>
        rw [hq, Bool.true_and] at hr
        rw [hq] at k1
        simp only [go_sem, Nat.reduceEqDiff, Nat.reduceAdd, Nat.reduceSub, Nat.reduceMul, Nat.reduceLT, Nat.reduceLeDiff, Int.reducePow, Int.reduceBEq, Int.reduceBNe, Int.reduceDiv, Int.reduceMod, Int.reduceEq, Int.reduceLT, Int.reduceLE, Int.reduceAdd, Int.reduceSub, Int.reduceMul, Int.reduceNeg, Int.reduceToNat, Int.reduceTDiv, Int.reduceTMod, ↓reduceIte, h1, h2, h15, h16, h17, dt q1, q0, q1, q2, Int.toNat_natCast, Nat.zero_add, kb, kb', old_get kb', hld, hld', kd, kd0]
        refine (k1 _).x ?_
        simp only [go_sem, Nat.reduceEqDiff, Nat.reduceAdd, Nat.reduceSub, Nat.reduceMul, Nat.reduceLT, Nat.reduceLeDiff, Int.reducePow, Int.reduceBEq, Int.reduceBNe, Int.reduceDiv, Int.reduceMod, Int.reduceEq, Int.reduceLT, Int.reduceLE, Int.reduceAdd, Int.reduceSub, Int.reduceMul, Int.reduceNeg, Int.reduceToNat, Int.reduceTDiv, Int.reduceTMod, ↓reduceIte, h1, h2, h15, h16, h17, w1, kd, kd0]
        exact ⟨k - 1, by omega, hold.app _, by omega, hwe.symm, hve.symm, i + 1, by omega, rfl, hr⟩
      | false =>
        rw [hq, Bool.false_and] at hr
        rw [hq] at k1
        simp only [go_sem, Nat.reduceEqDiff, Nat.reduceAdd, Nat.reduceSub, Nat.reduceMul, Nat.reduceLT, Nat.reduceLeDiff, Int.reducePow, Int.reduceBEq, Int.reduceBNe, Int.reduceDiv, Int.reduceMod, Int.reduceEq, Int.reduceLT, Int.reduceLE, Int.reduceAdd, Int.reduceSub, Int.reduceMul, Int.reduceNeg, Int.reduceToNat, Int.reduceTDiv, Int.reduceTMod, ↓reduceIte, h1, h2, h15, h16, h17, dt q1, q0, q1, q2, Int.toNat_natCast, Nat.zero_add, kb, kb', old_get kb', hld, hld', kd, kd0]
        refine (k1 _).x ?_
        simp only [go_sem, Nat.reduceEqDiff, Nat.reduceAdd, Nat.reduceSub, Nat.reduceMul, Nat.reduceLT, Nat.reduceLeDiff, Int.reducePow, Int.reduceBEq, Int.reduceBNe, Int.reduceDiv, Int.reduceMod, Int.reduceEq, Int.reduceLT, Int.reduceLE, Int.reduceAdd, Int.reduceSub, Int.reduceMul, Int.reduceNeg, Int.reduceToNat, Int.reduceTDiv, Int.reduceTMod, ↓reduceIte, h1, h2, h15, h16, h17, w1, kd, kd0]
        rw [← hr]
    · rw [List.drop_eq_nil_of_le (by omega), List.drop_eq_nil_of_le (by omega)] at hr
      simp only [go_sem, Nat.reduceEqDiff, Nat.reduceAdd, Nat.reduceSub, Nat.reduceMul, Nat.reduceLT, Nat.reduceLeDiff, Int.reducePow, Int.reduceBEq, Int.reduceBNe, Int.reduceDiv, Int.reduceMod, Int.reduceEq, Int.reduceLT, Int.reduceLE, Int.reduceAdd, Int.reduceSub, Int.reduceMul, Int.reduceNeg, Int.reduceToNat, Int.reduceTDiv, Int.reduceTMod, ↓reduceIte, h1, h2, h15, h16, h17, df (show ¬ (i : Int) < (l.length : Int) by omega)]
      rw [← hr]; rfl
  · rw [eqG_len (by omega)]
    simp only [go_sem, Nat.reduceEqDiff, Nat.reduceAdd, Nat.reduceSub, Nat.reduceMul, Nat.reduceLT, Nat.reduceLeDiff, Int.reducePow, Int.reduceBEq, Int.reduceBNe, Int.reduceDiv, Int.reduceMod, Int.reduceEq, Int.reduceLT, Int.reduceLE, Int.reduceAdd, Int.reduceSub, Int.reduceMul, Int.reduceNeg, Int.reduceToNat, Int.reduceTDiv, Int.reduceTMod, ↓reduceIte, nf hl]
theorem dsame_ (x y : Dc) (v w : Value) (H : AH) (h : Cos H v x.comps) (h' : Cos H w y.comps) : SemCall Try.prog 10 [dcV x v, dcV y w] H (.bool (dcQ x y)) H [] := by
  refine pure_of ?_ rfl
  obtain ⟨va, ve, hv⟩ := h.form
  subst hv
  obtain ⟨wa, we, hw⟩ := h'.form
  subst hw
  have k1 := fun L => eqCo_ x.comps y.comps _ _ (H ++ L) (h.old CoE.m (Old.app' H L)) (h'.old CoE.m (Old.app' H L))
  unfold dcQ
  cases h1 : (x.in_ == y.in_) with
  | false =>
    refine XCal.of hm Try.func10 rfl (fun xs w => Try.call10 xs w) Try.ntmps10 Try.results10 rfl ?_
    simp only [go_sem, Nat.reduceEqDiff, Nat.reduceAdd, Nat.reduceSub, Nat.reduceMul, Nat.reduceLT, Nat.reduceLeDiff, Int.reducePow, Int.reduceBEq, Int.reduceBNe, Int.reduceDiv, Int.reduceMod, Int.reduceEq, Int.reduceLT, Int.reduceLE, Int.reduceAdd, Int.reduceSub, Int.reduceMul, Int.reduceNeg, Int.reduceToNat, Int.reduceTDiv, Int.reduceTMod, ↓reduceIte, h1]
    repeat ((first | refine (k1 _).x ?_ | refine drawnF ?_ (by decide +kernel)); simp only [go_sem, Nat.reduceEqDiff, Nat.reduceAdd, Nat.reduceSub, Nat.reduceMul, Nat.reduceLT, Nat.reduceLeDiff, Int.reducePow, Int.reduceBEq, Int.reduceBNe, Int.reduceDiv, Int.reduceMod, Int.reduceEq, Int.reduceLT, Int.reduceLE, Int.reduceAdd, Int.reduceSub, Int.reduceMul, Int.reduceNeg, Int.reduceToNat, Int.reduceTDiv, Int.reduceTMod, ↓reduceIte, h1])
  | true =>
    cases h2 : (x.out == y.out) with
    | false =>
      refine XCal.of hm Try.func10 rfl (fun xs w => Try.call10 xs w) Try.ntmps10 Try.results10 rfl ?_
      simp only [go_sem, Nat.reduceEqDiff, Nat.reduceAdd, Nat.reduceSub, Nat.reduceMul, Nat.reduceLT, Nat.reduceLeDiff, Int.reducePow, Int.reduceBEq, Int.reduceBNe, Int.reduceDiv, Int.reduceMod, Int.reduceEq, Int.reduceLT, Int.reduceLE, Int.reduceAdd, Int.reduceSub, Int.reduceMul, Int.reduceNeg, Int.reduceToNat, Int.reduceTDiv, Int.reduceTMod, ↓reduceIte, h1, h2]
      repeat ((first | refine (k1 _).x ?_ | refine drawnF ?_ (by decide +kernel)); simp only [go_sem, Nat.reduceEqDiff, Nat.reduceAdd, Nat.reduceSub, Nat.reduceMul, Nat.reduceLT, Nat.reduceLeDiff, Int.reducePow, Int.reduceBEq, Int.reduceBNe, Int.reduceDiv, Int.reduceMod, Int.reduceEq, Int.reduceLT, Int.reduceLE, Int.reduceAdd, Int.reduceSub, Int.reduceMul, Int.reduceNeg, Int.reduceToNat, Int.reduceTDiv, Int.reduceTMod, ↓reduceIte, h1, h2])
    | true =>
      refine XCal.of hm Try.func10 rfl (fun xs w => Try.call10 xs w) Try.ntmps10 Try.results10 rfl ?_
      simp only [go_sem, Nat.reduceEqDiff, Nat.reduceAdd, Nat.reduceSub, Nat.reduceMul, Nat.reduceLT, Nat.reduceLeDiff, Int.reducePow, Int.reduceBEq, Int.reduceBNe, Int.reduceDiv, Int.reduceMod, Int.reduceEq, Int.reduceLT, Int.reduceLE, Int.reduceAdd, Int.reduceSub, Int.reduceMul, Int.reduceNeg, Int.reduceToNat, Int.reduceTDiv, Int.reduceTMod, ↓reduceIte, h1, h2]
      repeat ((first | refine (k1 _).x ?_ | refine drawnF ?_ (by decide +kernel)); simp only [go_sem, Nat.reduceEqDiff, Nat.reduceAdd, Nat.reduceSub, Nat.reduceMul, Nat.reduceLT, Nat.reduceLeDiff, Int.reducePow, Int.reduceBEq, Int.reduceBNe, Int.reduceDiv, Int.reduceMod, Int.reduceEq, Int.reduceLT, Int.reduceLE, Int.reduceAdd, Int.reduceSub, Int.reduceMul, Int.reduceNeg, Int.reduceToNat, Int.reduceTDiv, Int.reduceTMod, ↓reduceIte, h1, h2])
end Go.Proofs.Ytnebnbdeobcegaa
/- Documents: the walk of some runs. -/
namespace Go.Proofs.Ytnebnbdeobcegaa
open Go Go.RowKit E
attribute [local irreducible] XRun XOps XCode XCal XLoop XQ SemCall
set_option linter.unusedSimpArgs false
set_option linter.unusedVariables false
theorem RowOf.one {α : Type} {s : Nat} {E : AH → List Value → α → Prop} {K : AH} {b g : Nat} {rw_ : Bool} {c : List Value} {x : α} (hb : K[b]? = some ⟨c, g, rw_⟩) (hc : c.length = s) (hE : E K c x) : RowOf s E K (sl b 0 g 1 s) [x] :=
  .inr ⟨b, g, [], rw_, [c], rfl, by simpa using hb, rfl, by simp, fun i y hy => by
    cases i with
    | zero => simp at hy; subst hy; exact ⟨c, rfl, hc, hE⟩
    | succ i => simp at hy⟩
/-- A layer that is nothing but its parent and its end. -/
def lyD (p o : Int) : Ly := ⟨0, p, 0, 0, 0, o, 0, [], [], [], [], [], [], [], [], [], (false, []), sh00⟩
theorem lyD_E (p o : Int) (K : AH) : LyE K (lyVs (lyD p o) (.slice none 0 0) (.slice none 0 0) (.slice none 0 0) (.slice none 0 0) (.slice none 0 0) (.slice none 0 0) (.slice none 0 0) (.slice none 0 0) (.slice none 0 0) (.slice none 0 0) (.slice none 0 0) (.slice none 0 0) (.slice none 0 0) (.slice none 0 0) (.slice none 0 0) (.slice none 0 0) (.slice none 0 0) (.slice none 0 0)) (lyD p o) :=
  ⟨_, _, _, _, _, _, _, _, _, _, _, _, _, _, _, _, _, _, rfl, ⟨RowOf.none, RowOf.none, RowOf.none, RowOf.none, RowOf.none, RowOf.none, RowOf.none, RowOf.none, RowOf.none, .inl ⟨rfl, .inr rfl⟩⟩, ShV.zero K⟩
theorem dk1 : rightE ⟨0, 0, []⟩ = 23 := by decide +kernel
theorem dk2 : rightE ⟨0, 1, [[]]⟩ = 0 := by decide +kernel
theorem dk3 : rightE ⟨0, 1, [[lyD 0 1]]⟩ = 15 := by decide +kernel
theorem dk4 : nodesE [[lyD 0 1]] 0 = 2 := by decide +kernel
theorem dk5 : deepE [[]] 0 = 1 := by decide +kernel
theorem dk6 : deepE [[]] 1 = 0 := by decide +kernel
theorem dk7 : dcQ ⟨0, 1, [[]]⟩ ⟨0, 1, [[]]⟩ = true := by decide +kernel
theorem dk8 : dcQ ⟨0, 1, [[]]⟩ ⟨0, 1, [[lyD 0 1]]⟩ = false := by decide +kernel
set_option maxHeartbeats 4000000 in
theorem dknown_ (H : AH) : SemCall Try.prog 8 [] H (.bool true) H [] := by
  refine pure_of ?_ rfl
  have hL : ∃ L, L = H ++ [(⟨[.slice none 0 0], 0, true⟩ : Blk), ⟨[.int .i64 0, .int .i64 1, sl H.length 0 0 1 1], 0, true⟩, ⟨lyVs (lyD 0 1) (.slice none 0 0) (.slice none 0 0) (.slice none 0 0) (.slice none 0 0) (.slice none 0 0) (.slice none 0 0) (.slice none 0 0) (.slice none 0 0) (.slice none 0 0) (.slice none 0 0) (.slice none 0 0) (.slice none 0 0) (.slice none 0 0) (.slice none 0 0) (.slice none 0 0) (.slice none 0 0) (.slice none 0 0) (.slice none 0 0), 0, true⟩, ⟨[sl (H.length + 2) 0 0 1 50], 0, true⟩, ⟨[.int .i64 0, .int .i64 1, sl (H.length + 3) 0 0 1 1], 0, true⟩] := ⟨_, rfl⟩
  obtain ⟨L, hL⟩ := hL
  have C1 : Cos L (sl H.length 0 0 1 1) [[]] := RowOf.one (c := [.slice none 0 0]) (by rw [hL, hget_app0]; rfl) rfl ⟨_, rfl, RowOf.none⟩
  have C2 : Cos L (sl (H.length + 3) 0 0 1 1) [[lyD 0 1]] := RowOf.one (c := [sl (H.length + 2) 0 0 1 50]) (by rw [hL, hget_app]; rfl) rfl ⟨_, rfl, RowOf.one (by rw [hL, hget_app]; rfl) rfl (lyD_E 0 1 L)⟩
  have c1 := dright_ ⟨0, 0, []⟩ (.slice none 0 0) L RowOf.none
  have c2 := dright_ ⟨0, 1, [[]]⟩ _ L C1
  have c3 := dright_ ⟨0, 1, [[lyD 0 1]]⟩ _ L C2
  have c4 := nodes_ ⟨0, 1, [[lyD 0 1]]⟩ _ 0 L C2 (by decide)
  have c5 := deep_ ⟨0, 1, [[]]⟩ _ 0 L C1 (by decide)
  have c6 := deep_ ⟨0, 1, [[]]⟩ _ 1 L C1 (by decide)
  have c7 := dsame_ ⟨0, 1, [[]]⟩ ⟨0, 1, [[]]⟩ _ _ L C1 C1
  have c8 := dsame_ ⟨0, 1, [[]]⟩ ⟨0, 1, [[lyD 0 1]]⟩ _ _ L C1 C2
  rw [dk1] at c1
  rw [dk2] at c2
  rw [dk3] at c3
  have d4 : nodesE (Dc.comps ⟨0, 1, [[lyD 0 1]]⟩) 0 = 2 := dk4
  have d5 : deepE (Dc.comps ⟨0, 1, [[]]⟩) 0 = 1 := dk5
  have d6 : deepE (Dc.comps ⟨0, 1, [[]]⟩) 1 = 0 := dk6
  rw [d4] at c4
  rw [d5] at c5
  rw [d6] at c6
  rw [dk7] at c7
  rw [dk8] at c8
  subst hL
  refine XCal.of hm Try.func8 rfl (fun xs w => Try.call8 xs w) Try.ntmps8 Try.results8 rfl ?_
  simp only [go_sem, Nat.reduceEqDiff, Nat.reduceAdd, Nat.reduceSub, Nat.reduceMul, Nat.reduceLT, Nat.reduceLeDiff, Int.reducePow, Int.reduceBEq, Int.reduceBNe, Int.reduceDiv, Int.reduceMod, Int.reduceEq, Int.reduceLT, Int.reduceLE, Int.reduceAdd, Int.reduceSub, Int.reduceMul, Int.reduceNeg, Int.reduceToNat, Int.reduceTDiv, Int.reduceTMod, ↓reduceIte]
  repeat ((first | refine (c1).x ?_ | refine (c2).x ?_ | refine (c3).x ?_ | refine (c4).x ?_ | refine (c5).x ?_ | refine (c6).x ?_ | refine (c7).x ?_ | refine (c8).x ?_ | refine drawnF ?_ (by decide +kernel)); simp only [go_sem, Nat.reduceEqDiff, Nat.reduceAdd, Nat.reduceSub, Nat.reduceMul, Nat.reduceLT, Nat.reduceLeDiff, Int.reducePow, Int.reduceBEq, Int.reduceBNe, Int.reduceDiv, Int.reduceMod, Int.reduceEq, Int.reduceLT, Int.reduceLE, Int.reduceAdd, Int.reduceSub, Int.reduceMul, Int.reduceNeg, Int.reduceToNat, Int.reduceTDiv, Int.reduceTMod, ↓reduceIte, hget_app0, hget_app])
end Go.Proofs.Ytnebnbdeobcegaa
