/- Merged texts: DocD DocE DocW DocX. -/
import Derived.Test.YtnebnbdeobcegaaGreatZR
/- Documents: the walks of what compares documents. -/
namespace Go.Proofs.YtnebnbdeobcegaaGreat
open Go Go.RowKit E
attribute [local irreducible] XRun XOps XCode XCal XLoop XQ SemCall
set_option linter.unusedSimpArgs false
set_option linter.unusedVariables false
def lyP (x y : Ly) : Bool := (x.kind == y.kind) && (x.parent == y.parent) && (x.comp == y.comp) && (x.matte == y.matte) && (x.in_ == y.in_) && (x.out == y.out) && (x.start == y.start)
def lyQ (x y : Ly) : Bool := lyP x y && eqG (eqG kyQ) x.keys y.keys && plQ x.mask y.mask && shQ x.shape y.shape
def dcQ (x y : Dc) : Bool := (x.in_ == y.in_) && (x.out == y.out) && eqG (eqG lyQ) x.comps y.comps
set_option maxHeartbeats 4000000 in
theorem eqKs_ (l m : List (List Ky)) (v w : Value) (H : AH) (h : RowOf 1 KsE H v l) (h' : RowOf 1 KsE H w m) : SemCall Tryz.prog 65 [v, w, .func (.func 66) [].toArray [].toArray] H (.bool (eqG (eqG kyQ) l m)) H [] := by
  refine pure_of ?_ rfl
  have hlen := h.len
  obtain ⟨va, ve, hv⟩ := h.form
  subst hv
  obtain ⟨wa, we, hw⟩ := h'.form
  subst hw
  refine XCal.of hm Tryz.func65 rfl (fun xs w => Tryz.call65 xs w) Tryz.ntmps65 Tryz.results65 rfl ?_
  by_cases hl : (l.length : Int) = (m.length : Int)
  · (refine sg (nt hl) ?_; try exact ⟨⟩)
    refine keep (fun k T K D => D = [] ∧ Old H K ∧ H.length ≤ K.length ∧ T 1 = .slice wa m.length we ∧ T 2 = .func (.func 66) [].toArray [].toArray ∧ T 15 = .slice va l.length ve ∧ T 16 = .int .i64 (l.length : Int) ∧ ∃ i : Nat, i + k = l.length ∧ T 17 = .int .i64 (i : Int) ∧ eqG (eqG kyQ) (l.drop i) (m.drop i) = eqG (eqG kyQ) l m) l.length ⟨rfl, Old.refl _, by omega, rfl, rfl, rfl, rfl, 0, by omega, rfl, rfl⟩ ?_
    rintro k T K D ⟨rfl, hold, hKl, h1, h2, h15, h16, i, hi, h17, hr⟩
    have kd : ∀ n, decide (K.length + n < H.length) = false := fun n => df (by omega)
    have kd0 : decide (K.length < H.length) = false := df (by omega)
    by_cases hk : i < l.length
    · obtain ⟨x, hx⟩ : ∃ x, l[i]? = some x := ⟨_, List.getElem?_eq_getElem hk⟩
      obtain ⟨y, hy⟩ : ∃ y, m[i]? = some y := ⟨_, List.getElem?_eq_getElem (by omega)⟩
      obtain ⟨b, g, cells, rw_, c, hve, hb, hE, hcl, hle, hld, hgt⟩ := h.at hx
      obtain ⟨kv, rfl, hkv⟩ := hE
      obtain ⟨b', g', cells', rw', c', hwe, hb', hE', hcl', hle', hld', hgt'⟩ := h'.at hy
      obtain ⟨kw, rfl, hkw⟩ := hE'
      have kb := hold _ _ hb
      have kb' := hold _ _ hb'
      have hg := hgt 0 (by omega)
      have hg' := hgt' 0 (by omega)
      rw [Nat.mul_one, Nat.add_zero] at hg hg'
      have hg : cells[i]? = some kv := hg
      have hg' : cells'[i]? = some kw := hg'
      rw [hve] at h15
      rw [hwe] at h1
      rw [drop_at hx, drop_at hy, eqG] at hr
      have w1 : IntKind.i64.wrap ((i : Int) + 1) = ((i + 1 : Nat) : Int) := by rw [wi (by omega) (by omega)]; rfl
      have q0 : (0 : Int) ≤ (i : Int) := by omega
      have q1 : (i : Int) < (l.length : Int) := by omega
      have q2 : (i : Int) < (m.length : Int) := by omega
      have k1 := eqKy_ x y kv kw K (hkv.old KyE.m hold) (hkw.old KyE.m hold)
      cases hq : (eqG kyQ) x y with
      | true =>
        rw [hq, Bool.true_and] at hr
        rw [hq] at k1
        (refine sg (et h1 (et h2 (et h15 (et h16 (et h17 (et (dt q1) (et q0 (et q1 (et q2 (et Int.toNat_natCast (et Nat.zero_add (et kb (et kb' (et hg (et hg' (et Nat.mul_one (et kd kd0))))))))))))))))) ?_; try exact ⟨⟩)
        refine k1.x ?_
        (refine sg (et h1 (et h2 (et h15 (et h16 (et h17 (et w1 (et kd kd0))))))) ?_; try exact ⟨⟩)
        exact ⟨k - 1, by omega, hold, by omega, hwe.symm, hve.symm, i + 1, by omega, rfl, hr⟩
      | false =>
        rw [hq, Bool.false_and] at hr
        rw [hq] at k1
        (refine sg (et h1 (et h2 (et h15 (et h16 (et h17 (et (dt q1) (et q0 (et q1 (et q2 (et Int.toNat_natCast (et Nat.zero_add (et kb (et kb' (et hg (et hg' (et Nat.mul_one (et kd kd0))))))))))))))))) ?_; try exact ⟨⟩)
        refine k1.x ?_
        (refine sg (et h1 (et h2 (et h15 (et h16 (et h17 (et w1 (et kd kd0))))))) ?_; try exact ⟨⟩)
        rw [← hr]
    · rw [List.drop_eq_nil_of_le (by omega), List.drop_eq_nil_of_le (by omega)] at hr
      (refine sg (et h1 (et h2 (et h15 (et h16 (et h17 (df (show ¬ (i : Int) < (l.length : Int) by omega))))))) ?_; try exact ⟨⟩)
      rw [← hr]; rfl
  · rw [eqG_len (by omega)]
    (refine sg (nf hl) ?_; try exact ⟨⟩)
set_option maxHeartbeats 4000000 in
theorem slayer_ (x y : Ly) (v0 v1 v2 v3 v4 v5 v6 v7 v8 pm vw vh vp vc vd vda vf vt w0 w1 w2 w3 w4 w5 w6 w7 w8 qm ww wh wp wc wd wda wf wt : Value) (H : AH) (h : LyV H x v0 v1 v2 v3 v4 v5 v6 v7 v8 pm) (hs : ShV H x.shape vw vh vp vc vd vda vf vt) (h' : LyV H y w0 w1 w2 w3 w4 w5 w6 w7 w8 qm) (hs' : ShV H y.shape ww wh wp wc wd wda wf wt) :
    SemCall Tryz.prog 33 [.agg (lyVs x v0 v1 v2 v3 v4 v5 v6 v7 v8 pm vw vh vp vc vd vda vf vt).toArray, .agg (lyVs y w0 w1 w2 w3 w4 w5 w6 w7 w8 qm ww wh wp wc wd wda wf wt).toArray] H (.bool (lyQ x y)) H [] := by
  refine pure_of ?_ rfl
  generalize hL : H ++ [(⟨lyVs x v0 v1 v2 v3 v4 v5 v6 v7 v8 pm vw vh vp vc vd vda vf vt, 0, true⟩ : Blk), ⟨lyVs y w0 w1 w2 w3 w4 w5 w6 w7 w8 qm ww wh wp wc wd wda wf wt, 0, true⟩] = L at *
  have g0 : L[H.length]? = some ⟨lyVs x v0 v1 v2 v3 v4 v5 v6 v7 v8 pm vw vh vp vc vd vda vf vt, 0, true⟩ := by rw [← hL, hget_app0]; rfl
  have g1 : L[H.length + 1]? = some ⟨lyVs y w0 w1 w2 w3 w4 w5 w6 w7 w8 qm ww wh wp wc wd wda wf wt, 0, true⟩ := by rw [← hL, hget_app]; rfl
  have o : Old H L := by rw [← hL]; exact Old.app' _ _
  have hLl : H.length ≤ L.length := by rw [← hL]; simp
  have h := h.old o
  have hs := hs.old o
  have h' := h'.old o
  have hs' := hs'.old o
  obtain ⟨q, hq⟩ : ∃ q, lyQ x y = q := ⟨_, rfl⟩
  rw [hq]
  unfold lyQ at hq
  refine XCal.of hm Tryz.func33 rfl (fun xs w => Tryz.call33 xs w) Tryz.ntmps33 Tryz.results33 rfl ?_
  refine xcut (fun T K D => D = [] ∧ K = L ∧ T 2 = ap H.length 0 0 ∧ T 3 = ap (H.length + 1) 0 0) ?_ ?_
  · simp only [go_sem, Nat.reduceEqDiff, Nat.reduceAdd, Nat.reduceSub, Nat.reduceMul, Nat.reduceLT, Nat.reduceLeDiff, Int.reducePow, Int.reduceBEq, Int.reduceBNe, Int.reduceDiv, Int.reduceMod, Int.reduceEq, Int.reduceLT, Int.reduceLE, Int.reduceAdd, Int.reduceSub, Int.reduceMul, Int.reduceNeg, Int.reduceToNat, Int.reduceTDiv, Int.reduceTMod, ↓reduceIte, ← hL]
  · rintro T K D ⟨rfl, rfl, t2, t3⟩
    refine xcut (fun T' K' D => D = [] ∧ K' = K ∧ T' 2 = ap H.length 0 0 ∧ T' 3 = ap (H.length + 1) 0 0 ∧ T' 5 = .bool (lyP x y)) ?_ ?_
    · clear hq
      obtain ⟨q, hq⟩ : ∃ q, lyP x y = q := ⟨_, rfl⟩
      rw [hq]
      unfold lyP at hq
      cases h1 : (x.kind == y.kind) with
      | false =>
        simp only [h1, Bool.true_and, Bool.and_true, Bool.false_and, Bool.and_false] at hq
        subst hq
        (refine sg (et t2 (et t3 (et g0 (et g1 h1)))) ?_; try exact ⟨⟩)
      | true =>
        cases h2 : (x.parent == y.parent) with
        | false =>
          simp only [h1, h2, Bool.true_and, Bool.and_true, Bool.false_and, Bool.and_false] at hq
          subst hq
          (refine sg (et t2 (et t3 (et g0 (et g1 (et h1 h2))))) ?_; try exact ⟨⟩)
        | true =>
          cases h3 : (x.comp == y.comp) with
          | false =>
            simp only [h1, h2, h3, Bool.true_and, Bool.and_true, Bool.false_and, Bool.and_false] at hq
            subst hq
            (refine sg (et t2 (et t3 (et g0 (et g1 (et h1 (et h2 h3)))))) ?_; try exact ⟨⟩)
          | true =>
            cases h4 : (x.matte == y.matte) with
            | false =>
              simp only [h1, h2, h3, h4, Bool.true_and, Bool.and_true, Bool.false_and, Bool.and_false] at hq
              subst hq
              (refine sg (et t2 (et t3 (et g0 (et g1 (et h1 (et h2 (et h3 h4))))))) ?_; try exact ⟨⟩)
            | true =>
              cases h5 : (x.in_ == y.in_) with
              | false =>
                simp only [h1, h2, h3, h4, h5, Bool.true_and, Bool.and_true, Bool.false_and, Bool.and_false] at hq
                subst hq
                (refine sg (et t2 (et t3 (et g0 (et g1 (et h1 (et h2 (et h3 (et h4 h5)))))))) ?_; try exact ⟨⟩)
              | true =>
                cases h6 : (x.out == y.out) with
                | false =>
                  simp only [h1, h2, h3, h4, h5, h6, Bool.true_and, Bool.and_true, Bool.false_and, Bool.and_false] at hq
                  subst hq
                  (refine sg (et t2 (et t3 (et g0 (et g1 (et h1 (et h2 (et h3 (et h4 (et h5 h6))))))))) ?_; try exact ⟨⟩)
                | true =>
                  simp only [h1, h2, h3, h4, h5, h6, Bool.true_and, Bool.and_true, Bool.false_and, Bool.and_false] at hq
                  subst hq
                  (refine sg (et t2 (et t3 (et g0 (et g1 (et h1 (et h2 (et h3 (et h4 (et h5 h6))))))))) ?_; try exact ⟨⟩)
    · rintro T' K' D ⟨rfl, rfl, t2, t3, t5⟩
      cases h1 : lyP x y with
      | false =>
        rw [h1] at t5 hq
        simp only [Bool.false_and] at hq
        subst hq
        (refine sg (et t2 (et t3 (et t5 (et g0 g1)))) ?_; try exact ⟨⟩)
        repeat ((first | refine drawnF ?_ (by decide +kernel) | refine drawnU [(3, 4)] (by decide +kernel) ?_); (refine sg (et t2 (et t3 (et t5 (et g0 g1)))) ?_; try exact ⟨⟩))
      | true =>
        rw [h1, Bool.true_and] at hq
        rw [h1] at t5
        (refine sg (et t2 (et t3 (et t5 (et g0 g1)))) ?_; try exact ⟨⟩)
        refine drawnF ?_ (by decide +kernel)
        (refine sg (et t2 (et t3 (et t5 (et g0 g1)))) ?_; try exact ⟨⟩)
        refine (keysR_ x _ _ _ _ _ _ _ _ _ _ _ _ _ _ _ _ _ _ K' h).x ?_
        rintro v H1 W1 ⟨rfl, ⟨M, rfl⟩, hR⟩
        have o2 : Old K' (K' ++ M) := Old.app' _ _
        (refine sg (et t2 (et t3 (et t5 (et (old_get g0) (old_get g1))))) ?_; try exact ⟨⟩)
        refine (keysR_ y _ _ _ _ _ _ _ _ _ _ _ _ _ _ _ _ _ _ _ (h'.old o2)).x ?_
        rintro w H1 W1 ⟨rfl, ⟨M', rfl⟩, hR'⟩
        have o3 : Old (K' ++ M) (K' ++ M ++ M') := Old.app' _ _
        have hR := hR.old KsE.m o3
        have o4 := o2.trans o3
        have g0 := o4 _ _ g0
        have g1 := o4 _ _ g1
        have h := h.old o4
        have h' := h'.old o4
        have hs := hs.old o4
        have hs' := hs'.old o4
        have k1 := eqKs_ _ _ _ _ _ hR hR'
        have k2 := psame_ x.mask y.mask pm qm _ h.mask h'.mask
        have k3 := sshape_ x.shape y.shape vw vh vp vc vd vda vf vt ww wh wp wc wd wda wf wt _ hs hs'
        clear o o2 o3 o4 hL
        simp only [go_sem, Nat.reduceEqDiff, Nat.reduceAdd, Nat.reduceSub, Nat.reduceMul, Nat.reduceLT, Nat.reduceLeDiff, Int.reducePow, Int.reduceBEq, Int.reduceBNe, Int.reduceDiv, Int.reduceMod, Int.reduceEq, Int.reduceLT, Int.reduceLE, Int.reduceAdd, Int.reduceSub, Int.reduceMul, Int.reduceNeg, Int.reduceToNat, Int.reduceTDiv, Int.reduceTMod, ↓reduceIte, List.append_assoc]
        rw [List.append_assoc] at k1 k2 k3 g0 g1
        generalize K' ++ (M ++ M') = K2 at *
        cases h2 : eqG (eqG kyQ) x.keys y.keys with
        | false =>
          rw [h2] at k1 hq
          simp only [Bool.false_and] at hq
          subst hq
          refine k1.x ?_
          (refine sg (et t2 (et t3 (et t5 (et g0 g1)))) ?_; try exact ⟨⟩)
        | true =>
          rw [h2] at k1 hq
          rw [Bool.true_and] at hq
          refine k1.x ?_
          cases h3 : plQ x.mask y.mask with
          | false =>
            rw [h3] at k2 hq
            simp only [Bool.false_and] at hq
            subst hq
            (refine sg (et t2 (et t3 (et t5 (et g0 g1)))) ?_; try exact ⟨⟩)
            refine k2.x ?_
            (refine sg (et t2 (et t3 (et t5 (et g0 g1)))) ?_; try exact ⟨⟩)
          | true =>
            rw [h3] at k2 hq
            rw [Bool.true_and] at hq
            rw [hq] at k3
            (refine sg (et t2 (et t3 (et t5 (et g0 g1)))) ?_; try exact ⟨⟩)
            refine k2.x ?_
            (refine sg (et t2 (et t3 (et t5 (et g0 g1)))) ?_; try exact ⟨⟩)
            refine k3.x ?_
            (refine sg (et t2 (et t3 (et t5 (et g0 g1)))) ?_; try exact ⟨⟩)
set_option maxHeartbeats 4000000 in
theorem eqLy_ (l m : List Ly) (v w : Value) (H : AH) (h : RowOf 50 LyE H v l) (h' : RowOf 50 LyE H w m) : SemCall Tryz.prog 32 [v, w, .func (.func 33) [].toArray [].toArray] H (.bool (eqG lyQ l m)) H [] := by
  refine pure_of ?_ rfl
  have hlen := h.len
  obtain ⟨va, ve, hv⟩ := h.form
  subst hv
  obtain ⟨wa, we, hw⟩ := h'.form
  subst hw
  refine XCal.of hm Tryz.func32 rfl (fun xs w => Tryz.call32 xs w) Tryz.ntmps32 Tryz.results32 rfl ?_
  by_cases hl : (l.length : Int) = (m.length : Int)
  · (refine sg (nt hl) ?_; try exact ⟨⟩)
    refine keep (fun k T K D => D = [] ∧ Old H K ∧ H.length ≤ K.length ∧ T 1 = .slice wa m.length we ∧ T 2 = .func (.func 33) [].toArray [].toArray ∧ T 15 = .slice va l.length ve ∧ T 16 = .int .i64 (l.length : Int) ∧ ∃ i : Nat, i + k = l.length ∧ T 17 = .int .i64 (i : Int) ∧ eqG lyQ (l.drop i) (m.drop i) = eqG lyQ l m) l.length ⟨rfl, Old.refl _, by omega, rfl, rfl, rfl, rfl, 0, by omega, rfl, rfl⟩ ?_
    rintro k T K D ⟨rfl, hold, hKl, h1, h2, h15, h16, i, hi, h17, hr⟩
    have kd : ∀ n, decide (K.length + n < H.length) = false := fun n => df (by omega)
    have kd0 : decide (K.length < H.length) = false := df (by omega)
    by_cases hk : i < l.length
    · obtain ⟨x, hx⟩ : ∃ x, l[i]? = some x := ⟨_, List.getElem?_eq_getElem hk⟩
      obtain ⟨y, hy⟩ : ∃ y, m[i]? = some y := ⟨_, List.getElem?_eq_getElem (by omega)⟩
      obtain ⟨b, g, cells, rw_, c, hve, hb, hE, hcl, hle, hld, hgt⟩ := h.at hx
      obtain ⟨v0, v1, v2, v3, v4, v5, v6, v7, v8, pm, vw, vh, vp, vc, vd, vda, vf, vt, rfl, hLV, hSV⟩ := hE
      obtain ⟨b', g', cells', rw', c', hwe, hb', hE', hcl', hle', hld', hgt'⟩ := h'.at hy
      obtain ⟨w0, w1, w2, w3, w4, w5, w6, w7, w8, qm, ww, wh, wp, wc, wd, wda, wf, wt, rfl, hLV', hSV'⟩ := hE'
      have kb := hold _ _ hb
      have kb' := hold _ _ hb'
      rw [hve] at h15
      rw [hwe] at h1
      rw [drop_at hx, drop_at hy, eqG] at hr
      have i1 : IntKind.i64.wrap ((i : Int) + 1) = ((i + 1 : Nat) : Int) := by rw [wi (by omega) (by omega)]; rfl
      have q0 : (0 : Int) ≤ (i : Int) := by omega
      have q1 : (i : Int) < (l.length : Int) := by omega
      have q2 : (i : Int) < (m.length : Int) := by omega
      have k1 := fun L => slayer_ x y v0 v1 v2 v3 v4 v5 v6 v7 v8 pm vw vh vp vc vd vda vf vt w0 w1 w2 w3 w4 w5 w6 w7 w8 qm ww wh wp wc wd wda wf wt (K ++ L) (hLV.old (hold.app L)) (hSV.old (hold.app L)) (hLV'.old (hold.app L)) (hSV'.old (hold.app L))
      cases hq : lyQ x y with
      | true =>
        rw [hq, Bool.true_and] at hr
        rw [hq] at k1
        (refine sg (et h1 (et h2 (et h15 (et h16 (et h17 (et (dt q1) (et q0 (et q1 (et q2 (et Int.toNat_natCast (et Nat.zero_add (et kb (et kb' (et (old_get kb') (et hld (et hld' (et kd kd0))))))))))))))))) ?_; try exact ⟨⟩)
        refine (k1 _).x ?_
        (refine sg (et h1 (et h2 (et h15 (et h16 (et h17 (et i1 (et kd kd0))))))) ?_; try exact ⟨⟩)
        exact ⟨k - 1, by omega, hold.app _, by omega, hwe.symm, hve.symm, i + 1, by omega, rfl, hr⟩
      | false =>
        rw [hq, Bool.false_and] at hr
        rw [hq] at k1
        (refine sg (et h1 (et h2 (et h15 (et h16 (et h17 (et (dt q1) (et q0 (et q1 (et q2 (et Int.toNat_natCast (et Nat.zero_add (et kb (et kb' (et (old_get kb') (et hld (et hld' (et kd kd0))))))))))))))))) ?_; try exact ⟨⟩)
        refine (k1 _).x ?_
        (refine sg (et h1 (et h2 (et h15 (et h16 (et h17 (et i1 (et kd kd0))))))) ?_; try exact ⟨⟩)
        rw [← hr]
    · rw [List.drop_eq_nil_of_le (by omega), List.drop_eq_nil_of_le (by omega)] at hr
      (refine sg (et h1 (et h2 (et h15 (et h16 (et h17 (df (show ¬ (i : Int) < (l.length : Int) by omega))))))) ?_; try exact ⟨⟩)
      rw [← hr]; rfl
  · rw [eqG_len (by omega)]
    (refine sg (nf hl) ?_; try exact ⟨⟩)
theorem same1_ (l m : List Ly) (v w : Value) (H : AH) (h : Lys H v l) (h' : Lys H w m) : SemCall Tryz.prog 31 [.agg [v].toArray, .agg [w].toArray] H (.bool (eqG lyQ l m)) H [] := by
  refine pure_of ?_ rfl
  obtain ⟨va, ve, hv⟩ := h.form
  subst hv
  obtain ⟨wa, we, hw⟩ := h'.form
  subst hw
  have k1 := fun L => eqLy_ l m _ _ (H ++ L) (h.old LyE.m (Old.app' H L)) (h'.old LyE.m (Old.app' H L))
  refine XCal.of hm Tryz.func31 rfl (fun xs w => Tryz.call31 xs w) Tryz.ntmps31 Tryz.results31 rfl ?_
  (refine sg trivial ?_; try exact ⟨⟩)
  repeat ((first | refine (k1 _).x ?_ | refine drawnF ?_ (by decide +kernel)); (refine sg trivial ?_; try exact ⟨⟩))
set_option maxHeartbeats 4000000 in
theorem eqCo_ (l m : List (List Ly)) (v w : Value) (H : AH) (h : RowOf 1 CoE H v l) (h' : RowOf 1 CoE H w m) : SemCall Tryz.prog 30 [v, w, .func (.func 31) [].toArray [].toArray] H (.bool (eqG (eqG lyQ) l m)) H [] := by
  refine pure_of ?_ rfl
  have hlen := h.len
  obtain ⟨va, ve, hv⟩ := h.form
  subst hv
  obtain ⟨wa, we, hw⟩ := h'.form
  subst hw
  refine XCal.of hm Tryz.func30 rfl (fun xs w => Tryz.call30 xs w) Tryz.ntmps30 Tryz.results30 rfl ?_
  by_cases hl : (l.length : Int) = (m.length : Int)
  · (refine sg (nt hl) ?_; try exact ⟨⟩)
    refine keep (fun k T K D => D = [] ∧ Old H K ∧ H.length ≤ K.length ∧ T 1 = .slice wa m.length we ∧ T 2 = .func (.func 31) [].toArray [].toArray ∧ T 15 = .slice va l.length ve ∧ T 16 = .int .i64 (l.length : Int) ∧ ∃ i : Nat, i + k = l.length ∧ T 17 = .int .i64 (i : Int) ∧ eqG (eqG lyQ) (l.drop i) (m.drop i) = eqG (eqG lyQ) l m) l.length ⟨rfl, Old.refl _, by omega, rfl, rfl, rfl, rfl, 0, by omega, rfl, rfl⟩ ?_
    rintro k T K D ⟨rfl, hold, hKl, h1, h2, h15, h16, i, hi, h17, hr⟩
    have kd : ∀ n, decide (K.length + n < H.length) = false := fun n => df (by omega)
    have kd0 : decide (K.length < H.length) = false := df (by omega)
    by_cases hk : i < l.length
    · obtain ⟨x, hx⟩ : ∃ x, l[i]? = some x := ⟨_, List.getElem?_eq_getElem hk⟩
      obtain ⟨y, hy⟩ : ∃ y, m[i]? = some y := ⟨_, List.getElem?_eq_getElem (by omega)⟩
      obtain ⟨b, g, cells, rw_, c, hve, hb, hE, hcl, hle, hld, hgt⟩ := h.at hx
      obtain ⟨kv, rfl, hkv⟩ := hE
      obtain ⟨b', g', cells', rw', c', hwe, hb', hE', hcl', hle', hld', hgt'⟩ := h'.at hy
      obtain ⟨kw, rfl, hkw⟩ := hE'
      have kb := hold _ _ hb
      have kb' := hold _ _ hb'
      rw [hve] at h15
      rw [hwe] at h1
      rw [drop_at hx, drop_at hy, eqG] at hr
      have w1 : IntKind.i64.wrap ((i : Int) + 1) = ((i + 1 : Nat) : Int) := by rw [wi (by omega) (by omega)]; rfl
      have q0 : (0 : Int) ≤ (i : Int) := by omega
      have q1 : (i : Int) < (l.length : Int) := by omega
      have q2 : (i : Int) < (m.length : Int) := by omega
      have k1 := fun L => same1_ x y kv kw (K ++ L) (hkv.old LyE.m (hold.app L)) (hkw.old LyE.m (hold.app L))
      cases hq : (eqG lyQ) x y with
      | true =>
        rw [hq, Bool.true_and] at hr
        rw [hq] at k1
        (refine sg (et h1 (et h2 (et h15 (et h16 (et h17 (et (dt q1) (et q0 (et q1 (et q2 (et Int.toNat_natCast (et Nat.zero_add (et kb (et kb' (et (old_get kb') (et hld (et hld' (et kd kd0))))))))))))))))) ?_; try exact ⟨⟩)
        refine (k1 _).x ?_
        (refine sg (et h1 (et h2 (et h15 (et h16 (et h17 (et w1 (et kd kd0))))))) ?_; try exact ⟨⟩)
        exact ⟨k - 1, by omega, hold.app _, by omega, hwe.symm, hve.symm, i + 1, by omega, rfl, hr⟩
      | false =>
        rw [hq, Bool.false_and] at hr
        rw [hq] at k1
        (refine sg (et h1 (et h2 (et h15 (et h16 (et h17 (et (dt q1) (et q0 (et q1 (et q2 (et Int.toNat_natCast (et Nat.zero_add (et kb (et kb' (et (old_get kb') (et hld (et hld' (et kd kd0))))))))))))))))) ?_; try exact ⟨⟩)
        refine (k1 _).x ?_
        (refine sg (et h1 (et h2 (et h15 (et h16 (et h17 (et w1 (et kd kd0))))))) ?_; try exact ⟨⟩)
        rw [← hr]
    · rw [List.drop_eq_nil_of_le (by omega), List.drop_eq_nil_of_le (by omega)] at hr
      (refine sg (et h1 (et h2 (et h15 (et h16 (et h17 (df (show ¬ (i : Int) < (l.length : Int) by omega))))))) ?_; try exact ⟨⟩)
      rw [← hr]; rfl
  · rw [eqG_len (by omega)]
    (refine sg (nf hl) ?_; try exact ⟨⟩)
theorem dsame_ (x y : Dc) (v w : Value) (H : AH) (h : Cos H v x.comps) (h' : Cos H w y.comps) : SemCall Tryz.prog 12 [dcV x v, dcV y w] H (.bool (dcQ x y)) H [] := by
  refine pure_of ?_ rfl
  obtain ⟨va, ve, hv⟩ := h.form
  subst hv
  obtain ⟨wa, we, hw⟩ := h'.form
  subst hw
  have k1 := fun L => eqCo_ x.comps y.comps _ _ (H ++ L) (h.old CoE.m (Old.app' H L)) (h'.old CoE.m (Old.app' H L))
  unfold dcQ
  cases h1 : (x.in_ == y.in_) with
  | false =>
    refine XCal.of hm Tryz.func12 rfl (fun xs w => Tryz.call12 xs w) Tryz.ntmps12 Tryz.results12 rfl ?_
    (refine sg h1 ?_; try exact ⟨⟩)
    repeat ((first | refine (k1 _).x ?_ | refine drawnF ?_ (by decide +kernel)); (refine sg h1 ?_; try exact ⟨⟩))
  | true =>
    cases h2 : (x.out == y.out) with
    | false =>
      refine XCal.of hm Tryz.func12 rfl (fun xs w => Tryz.call12 xs w) Tryz.ntmps12 Tryz.results12 rfl ?_
      (refine sg (et h1 h2) ?_; try exact ⟨⟩)
      repeat ((first | refine (k1 _).x ?_ | refine drawnF ?_ (by decide +kernel)); (refine sg (et h1 h2) ?_; try exact ⟨⟩))
    | true =>
      refine XCal.of hm Tryz.func12 rfl (fun xs w => Tryz.call12 xs w) Tryz.ntmps12 Tryz.results12 rfl ?_
      (refine sg (et h1 h2) ?_; try exact ⟨⟩)
      repeat ((first | refine (k1 _).x ?_ | refine drawnF ?_ (by decide +kernel)); (refine sg (et h1 h2) ?_; try exact ⟨⟩))
end Go.Proofs.YtnebnbdeobcegaaGreat
/- Documents: the walk of some runs. -/
namespace Go.Proofs.YtnebnbdeobcegaaGreat
open Go Go.RowKit E
attribute [local irreducible] XRun XOps XCode XCal XLoop XQ SemCall
set_option linter.unusedSimpArgs false
set_option linter.unusedVariables false
theorem RowOf.one {α : Type} {s : Nat} {E : AH → List Value → α → Prop} {K : AH} {b g : Nat} {rw_ : Bool} {c : List Value} {x : α} (hb : K[b]? = some ⟨c, g, rw_⟩) (hc : c.length = s) (hE : E K c x) : RowOf s E K (sl b 0 g 1 s) [x] :=
  .inr ⟨b, g, [], rw_, [c], rfl, by simpa using hb, rfl, by simp, fun i y hy => by
    cases i with
    | zero => simp at hy; subst hy; exact ⟨c, rfl, hc, hE⟩
    | succ i => simp at hy⟩
/-- A layer that is nothing but its parent and its end. -/
def lyD (p o : Int) : Ly := ⟨0, p, 0, 0, 0, o, 0, [], [], [], [], [], [], [], [], [], (false, []), sh00⟩
theorem lyD_E (p o : Int) (K : AH) : LyE K (lyVs (lyD p o) (.slice none 0 0) (.slice none 0 0) (.slice none 0 0) (.slice none 0 0) (.slice none 0 0) (.slice none 0 0) (.slice none 0 0) (.slice none 0 0) (.slice none 0 0) (.slice none 0 0) (.slice none 0 0) (.slice none 0 0) (.slice none 0 0) (.slice none 0 0) (.slice none 0 0) (.slice none 0 0) (.slice none 0 0) (.slice none 0 0)) (lyD p o) :=
  ⟨_, _, _, _, _, _, _, _, _, _, _, _, _, _, _, _, _, _, rfl, ⟨RowOf.none, RowOf.none, RowOf.none, RowOf.none, RowOf.none, RowOf.none, RowOf.none, RowOf.none, RowOf.none, .inl ⟨rfl, .inr rfl⟩⟩, ShV.zero K⟩
theorem dk1 : rightE ⟨0, 0, []⟩ = 23 := by decide +kernel
theorem dk2 : rightE ⟨0, 1, [[]]⟩ = 0 := by decide +kernel
theorem dk3 : rightE ⟨0, 1, [[lyD 0 1]]⟩ = 15 := by decide +kernel
theorem dk4 : nodesE [[lyD 0 1]] 0 = 2 := by decide +kernel
theorem dk5 : deepE [[]] 0 = 1 := by decide +kernel
theorem dk6 : deepE [[]] 1 = 0 := by decide +kernel
theorem dk7 : dcQ ⟨0, 1, [[]]⟩ ⟨0, 1, [[]]⟩ = true := by decide +kernel
theorem dk8 : dcQ ⟨0, 1, [[]]⟩ ⟨0, 1, [[lyD 0 1]]⟩ = false := by decide +kernel
set_option maxHeartbeats 4000000 in
theorem dknown_ (H : AH) : SemCall Tryz.prog 9 [] H (.bool true) H [] := by
  refine pure_of ?_ rfl
  have hL : ∃ L, L = H ++ [(⟨[.slice none 0 0], 0, true⟩ : Blk), ⟨[.int .i64 0, .int .i64 1, sl H.length 0 0 1 1], 0, true⟩, ⟨lyVs (lyD 0 1) (.slice none 0 0) (.slice none 0 0) (.slice none 0 0) (.slice none 0 0) (.slice none 0 0) (.slice none 0 0) (.slice none 0 0) (.slice none 0 0) (.slice none 0 0) (.slice none 0 0) (.slice none 0 0) (.slice none 0 0) (.slice none 0 0) (.slice none 0 0) (.slice none 0 0) (.slice none 0 0) (.slice none 0 0) (.slice none 0 0), 0, true⟩, ⟨[sl (H.length + 2) 0 0 1 50], 0, true⟩, ⟨[.int .i64 0, .int .i64 1, sl (H.length + 3) 0 0 1 1], 0, true⟩] := ⟨_, rfl⟩
  obtain ⟨L, hL⟩ := hL
  have C1 : Cos L (sl H.length 0 0 1 1) [[]] := RowOf.one (c := [.slice none 0 0]) (by rw [hL, hget_app0]; rfl) rfl ⟨_, rfl, RowOf.none⟩
  have C2 : Cos L (sl (H.length + 3) 0 0 1 1) [[lyD 0 1]] := RowOf.one (c := [sl (H.length + 2) 0 0 1 50]) (by rw [hL, hget_app]; rfl) rfl ⟨_, rfl, RowOf.one (by rw [hL, hget_app]; rfl) rfl (lyD_E 0 1 L)⟩
  have c1 := dright_ ⟨0, 0, []⟩ (.slice none 0 0) L RowOf.none
  have c2 := dright_ ⟨0, 1, [[]]⟩ _ L C1
  have c3 := dright_ ⟨0, 1, [[lyD 0 1]]⟩ _ L C2
  have c4 := nodes_ ⟨0, 1, [[lyD 0 1]]⟩ _ 0 L C2 (by decide)
  have c5 := deep_ ⟨0, 1, [[]]⟩ _ 0 L C1 (by decide)
  have c6 := deep_ ⟨0, 1, [[]]⟩ _ 1 L C1 (by decide)
  have c7 := dsame_ ⟨0, 1, [[]]⟩ ⟨0, 1, [[]]⟩ _ _ L C1 C1
  have c8 := dsame_ ⟨0, 1, [[]]⟩ ⟨0, 1, [[lyD 0 1]]⟩ _ _ L C1 C2
  rw [dk1] at c1
  rw [dk2] at c2
  rw [dk3] at c3
  have d4 : nodesE (Dc.comps ⟨0, 1, [[lyD 0 1]]⟩) 0 = 2 := dk4
  have d5 : deepE (Dc.comps ⟨0, 1, [[]]⟩) 0 = 1 := dk5
  have d6 : deepE (Dc.comps ⟨0, 1, [[]]⟩) 1 = 0 := dk6
  rw [d4] at c4
  rw [d5] at c5
  rw [d6] at c6
  rw [dk7] at c7
  rw [dk8] at c8
  subst hL
  refine XCal.of hm Tryz.func9 rfl (fun xs w => Tryz.call9 xs w) Tryz.ntmps9 Tryz.results9 rfl ?_
  (refine sg trivial ?_; try exact ⟨⟩)
  repeat ((first | refine (c1).x ?_ | refine (c2).x ?_ | refine (c3).x ?_ | refine (c4).x ?_ | refine (c5).x ?_ | refine (c6).x ?_ | refine (c7).x ?_ | refine (c8).x ?_ | refine drawnF ?_ (by decide +kernel)); (refine sg (et hget_app0 hget_app) ?_; try exact ⟨⟩))
end Go.Proofs.YtnebnbdeobcegaaGreat
/- Documents: the walks of what the document's own answer compares. -/
namespace Go.Proofs.YtnebnbdeobcegaaGreat
open Go Go.RowKit E
attribute [local irreducible] XRun XOps XCode XCal XLoop XQ SemCall
set_option linter.unusedSimpArgs false
set_option linter.unusedVariables false
set_option maxHeartbeats 4000000 in
theorem rskeys_ (l m : List Ky) (v w : Value) (H : AH) (h : RowOf 7 KyE H v l) (h' : RowOf 7 KyE H w m) : SemCall Tryz.prog 37 [v, w] H (.bool (eqG kyQ l m)) H [] := by
  refine pure_of ?_ rfl
  have hlen := h.len
  obtain ⟨va, ve, hv⟩ := h.form
  subst hv
  obtain ⟨wa, we, hw⟩ := h'.form
  subst hw
  refine XCal.of hm Tryz.func37 rfl (fun xs w => Tryz.call37 xs w) Tryz.ntmps37 Tryz.results37 rfl ?_
  by_cases hl : (l.length : Int) = (m.length : Int)
  · (refine sg (nt hl) ?_; try exact ⟨⟩)
    refine keep (fun k T H' D => H = H' ∧ D = [] ∧ T 0 = .slice va l.length ve ∧ T 1 = .slice wa m.length we ∧ ∃ i : Nat, i + k = l.length ∧ T 12 = .int .i64 (l.length : Int) ∧ T 13 = .int .i64 (i : Int) ∧ eqG kyQ (l.drop i) (m.drop i) = eqG kyQ l m) l.length ⟨rfl, rfl, rfl, rfl, 0, by omega, rfl, rfl, rfl⟩ ?_
    rintro k T H' D ⟨rfl, rfl, h0, h1, i, hi, h12, h13, hr⟩
    by_cases hk : i < l.length
    · obtain ⟨x, hx⟩ : ∃ x, l[i]? = some x := ⟨_, List.getElem?_eq_getElem hk⟩
      obtain ⟨y, hy⟩ : ∃ y, m[i]? = some y := ⟨_, List.getElem?_eq_getElem (by omega)⟩
      obtain ⟨b, g, cells, rw_, c, hve, hb, hc, hcl, hle, hld, hgt⟩ := h.at hx
      have hc : c = kyC x := hc
      subst hc
      obtain ⟨b', g', cells', rw', c', hwe, hb', hc', hcl', hle', hld', hgt'⟩ := h'.at hy
      have hc' : c' = kyC y := hc'
      subst hc'
      rw [hve] at h0
      rw [hwe] at h1
      rw [drop_at hx, drop_at hy, eqG] at hr
      have w1 : IntKind.i64.wrap ((i : Int) + 1) = ((i + 1 : Nat) : Int) := by rw [wi (by omega) (by omega)]; rfl
      have q0 : (0 : Int) ≤ (i : Int) := by omega
      have q1 : (i : Int) < (l.length : Int) := by omega
      have q2 : (i : Int) < (m.length : Int) := by omega
      cases hq : kyQ x y with
      | true =>
        rw [hq, Bool.true_and] at hr
        unfold kyQ at hq
        (refine sg (et h0 (et h1 (et h12 (et h13 (dt q1))))) ?_; try exact ⟨⟩)
        repeat ((first | refine drawnF ?_ (by decide +kernel)); simp only [go_sem, Nat.reduceEqDiff, Nat.reduceAdd, Nat.reduceSub, Nat.reduceMul, Nat.reduceLT, Nat.reduceLeDiff, Int.reducePow, Int.reduceBEq, Int.reduceBNe, Int.reduceDiv, Int.reduceMod, Int.reduceEq, Int.reduceLT, Int.reduceLE, Int.reduceAdd, Int.reduceSub, Int.reduceMul, Int.reduceNeg, Int.reduceToNat, Int.reduceTDiv, Int.reduceTMod, ↓reduceIte, h0, h1, h12, h13, q0, q1, q2, Int.toNat_natCast, Nat.zero_add, hb, hb', hld, hld', hq, w1, bne])
        exact ⟨k - 1, by omega, hve.symm, hwe.symm, i + 1, by omega, rfl, hr⟩
      | false =>
        rw [hq, Bool.false_and] at hr
        unfold kyQ at hq
        (refine sg (et h0 (et h1 (et h12 (et h13 (dt q1))))) ?_; try exact ⟨⟩)
        repeat ((first | refine drawnF ?_ (by decide +kernel)); simp only [go_sem, Nat.reduceEqDiff, Nat.reduceAdd, Nat.reduceSub, Nat.reduceMul, Nat.reduceLT, Nat.reduceLeDiff, Int.reducePow, Int.reduceBEq, Int.reduceBNe, Int.reduceDiv, Int.reduceMod, Int.reduceEq, Int.reduceLT, Int.reduceLE, Int.reduceAdd, Int.reduceSub, Int.reduceMul, Int.reduceNeg, Int.reduceToNat, Int.reduceTDiv, Int.reduceTMod, ↓reduceIte, h0, h1, h12, h13, q0, q1, q2, Int.toNat_natCast, Nat.zero_add, hb, hb', hld, hld', hq, w1, bne])
        rw [← hr]
    · rw [List.drop_eq_nil_of_le (by omega), List.drop_eq_nil_of_le (by omega)] at hr
      (refine sg (et h0 (et h1 (et h12 (et h13 (df (show ¬ (i : Int) < (l.length : Int) by omega)))))) ?_; try exact ⟨⟩)
      rw [← hr]; rfl
  · rw [eqG_len (by omega)]
    (refine sg (nf hl) ?_; try exact ⟨⟩)
set_option maxHeartbeats 4000000 in
theorem rpts_ (l m : List Pt) (v w : Value) (H : AH) (h : RowOf 2 PtE H v l) (h' : RowOf 2 PtE H w m) : SemCall Tryz.prog 68 [v, w] H (.bool (eqG ptQ l m)) H [] := by
  refine pure_of ?_ rfl
  have hlen := h.len
  obtain ⟨va, ve, hv⟩ := h.form
  subst hv
  obtain ⟨wa, we, hw⟩ := h'.form
  subst hw
  refine XCal.of hm Tryz.func68 rfl (fun xs w => Tryz.call68 xs w) Tryz.ntmps68 Tryz.results68 rfl ?_
  by_cases hl : (l.length : Int) = (m.length : Int)
  · (refine sg (nt hl) ?_; try exact ⟨⟩)
    refine keep (fun k T H' D => H = H' ∧ D = [] ∧ T 0 = .slice va l.length ve ∧ T 1 = .slice wa m.length we ∧ ∃ i : Nat, i + k = l.length ∧ T 5 = .int .i64 (i : Int) ∧ eqG ptQ (l.drop i) (m.drop i) = eqG ptQ l m) l.length ⟨rfl, rfl, rfl, rfl, 0, by omega, rfl, rfl⟩ ?_
    rintro k T H' D ⟨rfl, rfl, h0, h1, i, hi, h13, hr⟩
    by_cases hk : i < l.length
    · obtain ⟨x, hx⟩ : ∃ x, l[i]? = some x := ⟨_, List.getElem?_eq_getElem hk⟩
      obtain ⟨y, hy⟩ : ∃ y, m[i]? = some y := ⟨_, List.getElem?_eq_getElem (by omega)⟩
      obtain ⟨b, g, cells, rw_, c, hve, hb, hc, hcl, hle, hld, hgt⟩ := h.at hx
      have hc : c = [.int .i64 x.1, .int .i64 x.2] := hc
      subst hc
      obtain ⟨b', g', cells', rw', c', hwe, hb', hc', hcl', hle', hld', hgt'⟩ := h'.at hy
      have hc' : c' = [.int .i64 y.1, .int .i64 y.2] := hc'
      subst hc'
      rw [hve] at h0
      rw [hwe] at h1
      rw [drop_at hx, drop_at hy, eqG] at hr
      have w1 : IntKind.i64.wrap ((i : Int) + 1) = ((i + 1 : Nat) : Int) := by rw [wi (by omega) (by omega)]; rfl
      have q0 : (0 : Int) ≤ (i : Int) := by omega
      have q1 : (i : Int) < (l.length : Int) := by omega
      have q2 : (i : Int) < (m.length : Int) := by omega
      cases hq : ptQ x y with
      | true =>
        rw [hq, Bool.true_and] at hr
        unfold ptQ at hq
        (refine sg (et h0 (et h1 (et h13 (dt q1)))) ?_; try exact ⟨⟩)
        repeat ((first | refine drawnF ?_ (by decide +kernel)); simp only [go_sem, Nat.reduceEqDiff, Nat.reduceAdd, Nat.reduceSub, Nat.reduceMul, Nat.reduceLT, Nat.reduceLeDiff, Int.reducePow, Int.reduceBEq, Int.reduceBNe, Int.reduceDiv, Int.reduceMod, Int.reduceEq, Int.reduceLT, Int.reduceLE, Int.reduceAdd, Int.reduceSub, Int.reduceMul, Int.reduceNeg, Int.reduceToNat, Int.reduceTDiv, Int.reduceTMod, ↓reduceIte, h0, h1, h13, q0, q1, q2, Int.toNat_natCast, Nat.zero_add, hb, hb', hld, hld', hq, w1, bne])
        exact ⟨k - 1, by omega, hve.symm, hwe.symm, i + 1, by omega, rfl, hr⟩
      | false =>
        rw [hq, Bool.false_and] at hr
        unfold ptQ at hq
        (refine sg (et h0 (et h1 (et h13 (dt q1)))) ?_; try exact ⟨⟩)
        repeat ((first | refine drawnF ?_ (by decide +kernel)); simp only [go_sem, Nat.reduceEqDiff, Nat.reduceAdd, Nat.reduceSub, Nat.reduceMul, Nat.reduceLT, Nat.reduceLeDiff, Int.reducePow, Int.reduceBEq, Int.reduceBNe, Int.reduceDiv, Int.reduceMod, Int.reduceEq, Int.reduceLT, Int.reduceLE, Int.reduceAdd, Int.reduceSub, Int.reduceMul, Int.reduceNeg, Int.reduceToNat, Int.reduceTDiv, Int.reduceTMod, ↓reduceIte, h0, h1, h13, q0, q1, q2, Int.toNat_natCast, Nat.zero_add, hb, hb', hld, hld', hq, w1, bne])
        rw [← hr]
    · rw [List.drop_eq_nil_of_le (by omega), List.drop_eq_nil_of_le (by omega)] at hr
      (refine sg (et h0 (et h1 (et h13 (df (show ¬ (i : Int) < (l.length : Int) by omega))))) ?_; try exact ⟨⟩)
      rw [← hr]; rfl
  · rw [eqG_len (by omega)]
    (refine sg (nf hl) ?_; try exact ⟨⟩)
theorem rpsame_ (p q : PL) (pv qv : Value) (H : AH) (hp : Pts H pv p.2) (hq : Pts H qv q.2) : SemCall Tryz.prog 34 [.agg [.bool p.1, pv].toArray, .agg [.bool q.1, qv].toArray] H (.bool (plQ p q)) H [] := by
  refine pure_of ?_ rfl
  have k1 := fun L => rpts_ p.2 q.2 pv qv (H ++ L) (hp.app L).row (hq.app L).row
  unfold plQ
  cases h : (p.1 == q.1)
  all_goals
    refine XCal.of hm Tryz.func34 rfl (fun xs w => Tryz.call34 xs w) Tryz.ntmps34 Tryz.results34 rfl ?_
    (refine sg h ?_; try exact ⟨⟩)
    repeat ((first | refine (k1 _).x ?_ | refine drawnF ?_ (by decide +kernel)); (refine sg h ?_; try exact ⟨⟩))
/-- What of a shape is compared last. -/
def shR (x y : Sh) : Bool := (x.form == y.form) && ((x.n == y.n) && (eqG kyQ x.w y.w && (eqG kyQ x.h y.h && ((x.fill == y.fill) && ((x.rule == y.rule) && (pntQ x.paint y.paint && ((x.stroke == y.stroke) && (eqG kyQ x.width y.width && (c4Q x.line y.line && ((x.cap == y.cap) && (eqG kyQ x.frm y.frm && eqG kyQ x.to y.to)))))))))))
theorem shQ_R (x y : Sh) : shQ x y = (eqG pkQ x.paths y.paths && (eqG ckQ x.colors y.colors && (eqG inQ x.dash y.dash && shR x y))) := by
  unfold shQ shP shK shR
  rw [Bool.eq_iff_iff]
  simp only [Bool.and_eq_true]
  constructor
  · rintro ⟨⟨⟨⟨⟨⟨⟨⟨⟨⟨⟨a1, a2⟩, a3⟩, a4⟩, a5⟩, a6⟩, a7⟩, a8⟩, ⟨⟨⟨b1, b2⟩, b3⟩, b4⟩, b5⟩, c1⟩, c2⟩, c3⟩
    exact ⟨c1, c2, c3, a1, a2, b1, b2, a3, a4, a5, a6, b3, a7, a8, b4, b5⟩
  · rintro ⟨c1, c2, c3, a1, a2, b1, b2, a3, a4, a5, a6, b3, a7, a8, b4, b5⟩
    exact ⟨⟨⟨⟨⟨⟨⟨⟨⟨⟨⟨a1, a2⟩, a3⟩, a4⟩, a5⟩, a6⟩, a7⟩, a8⟩, ⟨⟨⟨b1, b2⟩, b3⟩, b4⟩, b5⟩, c1⟩, c2⟩, c3⟩
set_option maxRecDepth 100000 in
set_option maxHeartbeats 8000000 in
theorem rsshape_ (x y : Sh) (v0 v1 v2 v3 v4 v5 v6 v7 w0 w1 w2 w3 w4 w5 w6 w7 : Value) (H : AH) (h : ShV H x v0 v1 v2 v3 v4 v5 v6 v7) (h' : ShV H y w0 w1 w2 w3 w4 w5 w6 w7) : SemCall Tryz.prog 35 [shV x v0 v1 v2 v3 v4 v5 v6 v7, shV y w0 w1 w2 w3 w4 w5 w6 w7] H (.bool (shQ x y)) H [] := by
  refine pure_of ?_ rfl
  obtain ⟨q, hq⟩ : ∃ q, shQ x y = q := ⟨_, rfl⟩
  rw [hq]
  rw [shQ_R] at hq
  obtain ⟨pa, pe, e2⟩ := h.paths.form
  obtain ⟨ca, ce, e3⟩ := h.colors.form
  obtain ⟨da, de, e5⟩ := h.dash.form
  obtain ⟨pa', pe', f2⟩ := h'.paths.form
  obtain ⟨ca', ce', f3⟩ := h'.colors.form
  obtain ⟨da', de', f5⟩ := h'.dash.form
  have lp := h.paths.len
  have lc := h.colors.len
  have ld := h.dash.len
  subst e2 e3 e5 f2 f3 f5
  by_cases m1 : (x.paths.length : Int) = (y.paths.length : Int)
  case neg =>
    rw [eqG_len (by omega), Bool.false_and] at hq
    subst hq
    refine XCal.of hm Tryz.func35 rfl (fun xs w => Tryz.call35 xs w) Tryz.ntmps35 Tryz.results35 rfl ?_
    (refine sg (nf m1) ?_; try exact ⟨⟩)
  by_cases m2 : (x.colors.length : Int) = (y.colors.length : Int)
  case neg =>
    rw [eqG_len (l := x.colors) (by omega), Bool.false_and, Bool.and_false] at hq
    subst hq
    refine XCal.of hm Tryz.func35 rfl (fun xs w => Tryz.call35 xs w) Tryz.ntmps35 Tryz.results35 rfl ?_
    (refine sg (et (nt m1) (nf m2)) ?_; try exact ⟨⟩)
  by_cases m3 : (x.dash.length : Int) = (y.dash.length : Int)
  case neg =>
    rw [eqG_len (l := x.dash) (by omega), Bool.false_and, Bool.and_false, Bool.and_false] at hq
    subst hq
    refine XCal.of hm Tryz.func35 rfl (fun xs w => Tryz.call35 xs w) Tryz.ntmps35 Tryz.results35 rfl ?_
    (refine sg (et (nt m1) (et (nt m2) (nf m3))) ?_; try exact ⟨⟩)
  refine XCal.of hm Tryz.func35 rfl (fun xs w => Tryz.call35 xs w) Tryz.ntmps35 Tryz.results35 rfl ?_
  (refine sg (et (nt m1) (et (nt m2) (nt m3))) ?_; try exact ⟨⟩)
  refine keep (fun r T K D => D = [] ∧ ∃ i : Nat, i + r = x.paths.length ∧ Old H K ∧ H.length + 2 ≤ K.length ∧ K[H.length]? = some ⟨shC x v0 v1 (.slice pa x.paths.length pe) (.slice ca x.colors.length ce) v4 (.slice da x.dash.length de) v6 v7, 0, true⟩ ∧ K[H.length + 1]? = some ⟨shC y w0 w1 (.slice pa' y.paths.length pe') (.slice ca' y.colors.length ce') w4 (.slice da' y.dash.length de') w6 w7, 0, true⟩ ∧ T 2 = ap H.length 0 0 ∧ T 3 = ap (H.length + 1) 0 0 ∧ T 37 = .int .i64 (x.paths.length : Int) ∧ T 38 = .int .i64 (i : Int) ∧ (eqG pkQ (x.paths.drop i) (y.paths.drop i) && (eqG ckQ x.colors y.colors && (eqG inQ x.dash y.dash && shR x y))) = q) x.paths.length
    ⟨rfl, 0, by omega, Old.app' _ _, by simp, by rw [hget_app0]; rfl, by rw [hget_app]; rfl, by (refine sg trivial ?_; try exact ⟨⟩), by (refine sg trivial ?_; try exact ⟨⟩), by (refine sg trivial ?_; try exact ⟨⟩), by (refine sg trivial ?_; try exact ⟨⟩) <;> rfl, hq⟩ ?_
  clear hq
  rintro r T K D ⟨rfl, i, hir, hold, hKl, g0, g1, t2, t3, t37, t38, hr⟩
  have kd : ∀ n, decide (K.length + n < H.length) = false := fun n => df (by omega)
  have kd0 : decide (K.length < H.length) = false := df (by omega)
  by_cases hi : i < x.paths.length
  · obtain ⟨a, hx⟩ : ∃ a, x.paths[i]? = some a := ⟨_, List.getElem?_eq_getElem hi⟩
    obtain ⟨e, hy⟩ : ∃ e, y.paths[i]? = some e := ⟨_, List.getElem?_eq_getElem (by omega)⟩
    obtain ⟨b, g, cells, rw_, c, hve, hb, ⟨pv, hc, hp⟩, hcl, hle, hld, hgt⟩ := h.paths.at hx
    subst hc
    obtain ⟨b', g', cells', rw', c', hwe, hb', ⟨qv, hc', hp'⟩, hcl', hle', hld', hgt'⟩ := h'.paths.at hy
    subst hc'
    have kb := hold _ _ hb
    have kb' := hold _ _ hb'
    have g0' := g0
    have g1' := g1
    rw [hve] at g0'
    rw [hwe] at g1'
    rw [drop_at hx, drop_at hy, eqG] at hr
    have i1 : IntKind.i64.wrap ((i : Int) + 1) = ((i + 1 : Nat) : Int) := by rw [wi (by omega) (by omega)]; rfl
    have q0 : (0 : Int) ≤ (i : Int) := by omega
    have q1 : (i : Int) < (x.paths.length : Int) := by omega
    have q2 : (i : Int) < (y.paths.length : Int) := by omega
    have k1 := fun L => rpsame_ a.p e.p pv qv (K ++ L) ((hp.old hold).app L) ((hp'.old hold).app L)
    have bl := (List.getElem?_eq_some_iff.1 hb).1
    have bl' := (List.getElem?_eq_some_iff.1 hb').1
    have n1 : (K.length = H.length) = False := eq_false (by omega)
    have n2 : (K.length = H.length + 1) = False := eq_false (by omega)
    have n3 : (K.length = b) = False := eq_false (by omega)
    have n4 : (K.length = b') = False := eq_false (by omega)
    have n5 : (K.length + 1 = H.length) = False := eq_false (by omega)
    have n6 : (K.length + 1 = H.length + 1) = False := eq_false (by omega)
    have n7 : (K.length + 1 = b) = False := eq_false (by omega)
    have n8 : (K.length + 1 = b') = False := eq_false (by omega)
    rw [show pkQ a e = ((a.t == e.t) && ((a.how == e.how) && (ezQ a.e e.e && plQ a.p e.p))) by unfold pkQ; simp only [Bool.and_assoc]] at hr
    generalize plQ a.p e.p = P4 at *
    cases h1 : (a.t == e.t) with
    | false =>
      simp only [h1, Bool.true_and, Bool.false_and] at hr
      try unfold ezQ at h3
      (refine sg (et t2 (et t3 (et t37 (et t38 (dt q1))))) ?_; try exact ⟨⟩)
      repeat ((first | refine (k1 _).x ?_ | refine drawnF ?_ (by decide +kernel) | refine drawnU [(5, 12), (6, 12), (7, 12), (8, 12), (9, 12)] (by decide +kernel) ?_); simp only [go_sem, Nat.reduceEqDiff, Nat.reduceAdd, Nat.reduceSub, Nat.reduceMul, Nat.reduceLT, Nat.reduceLeDiff, Int.reducePow, Int.reduceBEq, Int.reduceBNe, Int.reduceDiv, Int.reduceMod, Int.reduceEq, Int.reduceLT, Int.reduceLE, Int.reduceAdd, Int.reduceSub, Int.reduceMul, Int.reduceNeg, Int.reduceToNat, Int.reduceTDiv, Int.reduceTMod, ↓reduceIte, t2, t3, t37, t38, q0, q1, q2, Int.toNat_natCast, Nat.zero_add, g0', g1', kb, kb', old_get kb', hld, hld', kd, kd0, bne, i1, n1, n2, n3, n4, n5, n6, n7, n8, h1])
      first | (subst hr; done) | (rw [← hr]; done) | exact ⟨r - 1, by omega, i + 1, by omega, hold.app _, by omega, old_get g0 _, old_get g1 _, rfl, hr⟩
    | true =>
      cases h2 : (a.how == e.how) with
      | false =>
        simp only [h1, h2, Bool.true_and, Bool.false_and] at hr
        try unfold ezQ at h3
        (refine sg (et t2 (et t3 (et t37 (et t38 (dt q1))))) ?_; try exact ⟨⟩)
        repeat ((first | refine (k1 _).x ?_ | refine drawnF ?_ (by decide +kernel) | refine drawnU [(5, 12), (6, 12), (7, 12), (8, 12), (9, 12)] (by decide +kernel) ?_); simp only [go_sem, Nat.reduceEqDiff, Nat.reduceAdd, Nat.reduceSub, Nat.reduceMul, Nat.reduceLT, Nat.reduceLeDiff, Int.reducePow, Int.reduceBEq, Int.reduceBNe, Int.reduceDiv, Int.reduceMod, Int.reduceEq, Int.reduceLT, Int.reduceLE, Int.reduceAdd, Int.reduceSub, Int.reduceMul, Int.reduceNeg, Int.reduceToNat, Int.reduceTDiv, Int.reduceTMod, ↓reduceIte, t2, t3, t37, t38, q0, q1, q2, Int.toNat_natCast, Nat.zero_add, g0', g1', kb, kb', old_get kb', hld, hld', kd, kd0, bne, i1, n1, n2, n3, n4, n5, n6, n7, n8, h1, h2])
        first | (subst hr; done) | (rw [← hr]; done) | exact ⟨r - 1, by omega, i + 1, by omega, hold.app _, by omega, old_get g0 _, old_get g1 _, rfl, hr⟩
      | true =>
        cases h3 : ezQ a.e e.e with
        | false =>
          simp only [h1, h2, h3, Bool.true_and, Bool.false_and] at hr
          try unfold ezQ at h3
          (refine sg (et t2 (et t3 (et t37 (et t38 (dt q1))))) ?_; try exact ⟨⟩)
          repeat ((first | refine (k1 _).x ?_ | refine drawnF ?_ (by decide +kernel) | refine drawnU [(5, 12), (6, 12), (7, 12), (8, 12), (9, 12)] (by decide +kernel) ?_); simp only [go_sem, Nat.reduceEqDiff, Nat.reduceAdd, Nat.reduceSub, Nat.reduceMul, Nat.reduceLT, Nat.reduceLeDiff, Int.reducePow, Int.reduceBEq, Int.reduceBNe, Int.reduceDiv, Int.reduceMod, Int.reduceEq, Int.reduceLT, Int.reduceLE, Int.reduceAdd, Int.reduceSub, Int.reduceMul, Int.reduceNeg, Int.reduceToNat, Int.reduceTDiv, Int.reduceTMod, ↓reduceIte, t2, t3, t37, t38, q0, q1, q2, Int.toNat_natCast, Nat.zero_add, g0', g1', kb, kb', old_get kb', hld, hld', kd, kd0, bne, i1, n1, n2, n3, n4, n5, n6, n7, n8, h1, h2, h3])
          first | (subst hr; done) | (rw [← hr]; done) | exact ⟨r - 1, by omega, i + 1, by omega, hold.app _, by omega, old_get g0 _, old_get g1 _, rfl, hr⟩
        | true =>
          cases h4 : P4 with
          | false =>
            simp only [h1, h2, h3, h4, Bool.true_and, Bool.false_and] at hr
            try unfold ezQ at h3
            (refine sg (et t2 (et t3 (et t37 (et t38 (dt q1))))) ?_; try exact ⟨⟩)
            repeat ((first | refine (k1 _).x ?_ | refine drawnF ?_ (by decide +kernel) | refine drawnU [(5, 12), (6, 12), (7, 12), (8, 12), (9, 12)] (by decide +kernel) ?_); simp only [go_sem, Nat.reduceEqDiff, Nat.reduceAdd, Nat.reduceSub, Nat.reduceMul, Nat.reduceLT, Nat.reduceLeDiff, Int.reducePow, Int.reduceBEq, Int.reduceBNe, Int.reduceDiv, Int.reduceMod, Int.reduceEq, Int.reduceLT, Int.reduceLE, Int.reduceAdd, Int.reduceSub, Int.reduceMul, Int.reduceNeg, Int.reduceToNat, Int.reduceTDiv, Int.reduceTMod, ↓reduceIte, t2, t3, t37, t38, q0, q1, q2, Int.toNat_natCast, Nat.zero_add, g0', g1', kb, kb', old_get kb', hld, hld', kd, kd0, bne, i1, n1, n2, n3, n4, n5, n6, n7, n8, h1, h2, h3, h4])
            first | (subst hr; done) | (rw [← hr]; done) | exact ⟨r - 1, by omega, i + 1, by omega, hold.app _, by omega, old_get g0 _, old_get g1 _, rfl, hr⟩
          | true =>
            simp only [h1, h2, h3, h4, Bool.true_and, Bool.false_and] at hr
            try unfold ezQ at h3
            (refine sg (et t2 (et t3 (et t37 (et t38 (dt q1))))) ?_; try exact ⟨⟩)
            repeat ((first | refine (k1 _).x ?_ | refine drawnF ?_ (by decide +kernel) | refine drawnU [(5, 12), (6, 12), (7, 12), (8, 12), (9, 12)] (by decide +kernel) ?_); simp only [go_sem, Nat.reduceEqDiff, Nat.reduceAdd, Nat.reduceSub, Nat.reduceMul, Nat.reduceLT, Nat.reduceLeDiff, Int.reducePow, Int.reduceBEq, Int.reduceBNe, Int.reduceDiv, Int.reduceMod, Int.reduceEq, Int.reduceLT, Int.reduceLE, Int.reduceAdd, Int.reduceSub, Int.reduceMul, Int.reduceNeg, Int.reduceToNat, Int.reduceTDiv, Int.reduceTMod, ↓reduceIte, t2, t3, t37, t38, q0, q1, q2, Int.toNat_natCast, Nat.zero_add, g0', g1', kb, kb', old_get kb', hld, hld', kd, kd0, bne, i1, n1, n2, n3, n4, n5, n6, n7, n8, h1, h2, h3, h4])
            first | (subst hr; done) | (rw [← hr]; done) | exact ⟨r - 1, by omega, i + 1, by omega, hold.app _, by omega, old_get g0 _, old_get g1 _, rfl, hr⟩
  · rw [List.drop_eq_nil_of_le (by omega), List.drop_eq_nil_of_le (by omega)] at hr
    have hr : (true && (eqG ckQ x.colors y.colors && (eqG inQ x.dash y.dash && shR x y))) = q := hr
    rw [Bool.true_and] at hr
    have nl : df (show ¬ (i : Int) < (x.paths.length : Int) by omega) = df (show ¬ (i : Int) < (x.paths.length : Int) by omega) := rfl
    (refine sg (et t2 (et t3 (et t37 (et t38 (et (df (show ¬ (i : Int) < (x.paths.length : Int) by omega)) g0))))) ?_; try exact ⟨⟩)
    clear nl
    refine keep (fun r T J D => D = [] ∧ J = K ∧ ∃ i : Nat, i + r = x.colors.length ∧ T 2 = ap H.length 0 0 ∧ T 3 = ap (H.length + 1) 0 0 ∧ T 81 = .int .i64 (x.colors.length : Int) ∧ T 82 = .int .i64 (i : Int) ∧ (eqG ckQ (x.colors.drop i) (y.colors.drop i) && (eqG inQ x.dash y.dash && shR x y)) = q) x.colors.length
      ⟨rfl, rfl, 0, by omega, by (refine sg t2 ?_; try exact ⟨⟩), by (refine sg t3 ?_; try exact ⟨⟩), by (refine sg trivial ?_; try exact ⟨⟩), by (refine sg trivial ?_; try exact ⟨⟩) <;> rfl, hr⟩ ?_
    clear hr t2 t3 t37 t38 hir hi i
    rintro r T J D ⟨rfl, rfl, i, hir, t2, t3, t81, t82, hr⟩
    by_cases hi : i < x.colors.length
    · obtain ⟨a, hx⟩ : ∃ a, x.colors[i]? = some a := ⟨_, List.getElem?_eq_getElem hi⟩
      obtain ⟨e, hy⟩ : ∃ e, y.colors[i]? = some e := ⟨_, List.getElem?_eq_getElem (by omega)⟩
      obtain ⟨b, g, cells, rw_, c, hve, hb, hc, hcl, hle, hld, hgt⟩ := h.colors.at hx
      have hc : c = ckC a := hc
      subst hc
      obtain ⟨b', g', cells', rw', c', hwe, hb', hc', hcl', hle', hld', hgt'⟩ := h'.colors.at hy
      have hc' : c' = ckC e := hc'
      subst hc'
      have kb := hold _ _ hb
      have kb' := hold _ _ hb'
      rw [drop_at hx, drop_at hy, eqG] at hr
      have g0' := g0
      have g1' := g1
      rw [hve] at g0'
      rw [hwe] at g1'
      have i1 : IntKind.i64.wrap ((i : Int) + 1) = ((i + 1 : Nat) : Int) := by rw [wi (by omega) (by omega)]; rfl
      have q0 : (0 : Int) ≤ (i : Int) := by omega
      have q1 : (i : Int) < (x.colors.length : Int) := by omega
      have q2 : (i : Int) < (y.colors.length : Int) := by omega
      cases h1 : ckQ a e
      all_goals
        simp only [h1, Bool.true_and, Bool.false_and] at hr
        unfold ckQ at h1
        (refine sg (et t2 (et t3 (et t81 (et t82 (dt q1))))) ?_; try exact ⟨⟩)
        repeat ((first | refine drawnF ?_ (by decide +kernel) | refine drawnU [(5, 12), (6, 12), (7, 12), (8, 12), (9, 12)] (by decide +kernel) ?_); simp only [go_sem, Nat.reduceEqDiff, Nat.reduceAdd, Nat.reduceSub, Nat.reduceMul, Nat.reduceLT, Nat.reduceLeDiff, Int.reducePow, Int.reduceBEq, Int.reduceBNe, Int.reduceDiv, Int.reduceMod, Int.reduceEq, Int.reduceLT, Int.reduceLE, Int.reduceAdd, Int.reduceSub, Int.reduceMul, Int.reduceNeg, Int.reduceToNat, Int.reduceTDiv, Int.reduceTMod, ↓reduceIte, t2, t3, t81, t82, q0, q1, q2, Int.toNat_natCast, Nat.zero_add, g0', g1', kb, kb', hld, hld', kd, kd0, bne, i1, h1])
        first | (subst hr; done) | (rw [← hr]; done) | exact ⟨r - 1, by omega, i + 1, by omega, rfl, hr⟩
    · rw [List.drop_eq_nil_of_le (by omega), List.drop_eq_nil_of_le (by omega)] at hr
      have hr : (true && (eqG inQ x.dash y.dash && shR x y)) = q := hr
      rw [Bool.true_and] at hr
      (refine sg (et t2 (et t3 (et t81 (et t82 (et (df (show ¬ (i : Int) < (x.colors.length : Int) by omega)) g0))))) ?_; try exact ⟨⟩)
      refine keep (fun r T K' D => D = [] ∧ K' = J ∧ ∃ i : Nat, i + r = x.dash.length ∧ T 2 = ap H.length 0 0 ∧ T 3 = ap (H.length + 1) 0 0 ∧ T 99 = .int .i64 (x.dash.length : Int) ∧ T 100 = .int .i64 (i : Int) ∧ (eqG inQ (x.dash.drop i) (y.dash.drop i) && shR x y) = q) x.dash.length
        ⟨rfl, rfl, 0, by omega, by (refine sg t2 ?_; try exact ⟨⟩), by (refine sg t3 ?_; try exact ⟨⟩), by (refine sg trivial ?_; try exact ⟨⟩), by (refine sg trivial ?_; try exact ⟨⟩) <;> rfl, hr⟩ ?_
      clear hr t2 t3 t81 t82 hir hi i
      rintro r T K' D ⟨rfl, rfl, i, hir, t2, t3, t99, t100, hr⟩
      by_cases hi : i < x.dash.length
      · obtain ⟨a, hx⟩ : ∃ a, x.dash[i]? = some a := ⟨_, List.getElem?_eq_getElem hi⟩
        obtain ⟨e, hy⟩ : ∃ e, y.dash[i]? = some e := ⟨_, List.getElem?_eq_getElem (by omega)⟩
        obtain ⟨b, g, cells, rw_, c, hve, hb, hc, hcl, hle, hld, hgt⟩ := h.dash.at hx
        have hc : c = [.int .i64 a] := hc
        subst hc
        obtain ⟨b', g', cells', rw', c', hwe, hb', hc', hcl', hle', hld', hgt'⟩ := h'.dash.at hy
        have hc' : c' = [.int .i64 e] := hc'
        subst hc'
        have kb := hold _ _ hb
        have kb' := hold _ _ hb'
        have hg := hgt 0 (by omega)
        have hg' := hgt' 0 (by omega)
        rw [Nat.mul_one, Nat.add_zero] at hg hg'
        have hg : cells[i]? = some (.int .i64 a) := hg
        have hg' : cells'[i]? = some (.int .i64 e) := hg'
        rw [drop_at hx, drop_at hy, eqG] at hr
        have g0' := g0
        have g1' := g1
        rw [hve] at g0'
        rw [hwe] at g1'
        have i1 : IntKind.i64.wrap ((i : Int) + 1) = ((i + 1 : Nat) : Int) := by rw [wi (by omega) (by omega)]; rfl
        have q0 : (0 : Int) ≤ (i : Int) := by omega
        have q1 : (i : Int) < (x.dash.length : Int) := by omega
        have q2 : (i : Int) < (y.dash.length : Int) := by omega
        cases h1 : inQ a e
        all_goals
          simp only [h1, Bool.true_and, Bool.false_and] at hr
          unfold inQ at h1
          (refine sg (et t2 (et t3 (et t99 (et t100 (dt q1))))) ?_; try exact ⟨⟩)
          repeat ((first | refine drawnF ?_ (by decide +kernel) | refine drawnU [(5, 12), (6, 12), (7, 12), (8, 12), (9, 12)] (by decide +kernel) ?_); simp only [go_sem, Nat.reduceEqDiff, Nat.reduceAdd, Nat.reduceSub, Nat.reduceMul, Nat.reduceLT, Nat.reduceLeDiff, Int.reducePow, Int.reduceBEq, Int.reduceBNe, Int.reduceDiv, Int.reduceMod, Int.reduceEq, Int.reduceLT, Int.reduceLE, Int.reduceAdd, Int.reduceSub, Int.reduceMul, Int.reduceNeg, Int.reduceToNat, Int.reduceTDiv, Int.reduceTMod, ↓reduceIte, t2, t3, t99, t100, q0, q1, q2, Int.toNat_natCast, Nat.zero_add, Nat.mul_one, g0', g1', kb, kb', hg, hg', kd, kd0, bne, i1, h1])
          first | (subst hr; done) | (rw [← hr]; done) | exact ⟨r - 1, by omega, i + 1, by omega, rfl, hr⟩
      · rw [List.drop_eq_nil_of_le (by omega), List.drop_eq_nil_of_le (by omega)] at hr
        have hr : (true && shR x y) = q := hr
        rw [Bool.true_and] at hr
        have c1 := rskeys_ x.w y.w v0 w0 K' (h.w.old KyE.m hold) (h'.w.old KyE.m hold)
        have c2 := rskeys_ x.h y.h v1 w1 K' (h.h.old KyE.m hold) (h'.h.old KyE.m hold)
        have c3 := rskeys_ x.width y.width v4 w4 K' (h.width.old KyE.m hold) (h'.width.old KyE.m hold)
        have c4 := rskeys_ x.frm y.frm v6 w6 K' (h.frm.old KyE.m hold) (h'.frm.old KyE.m hold)
        have c5 := rskeys_ x.to y.to v7 w7 K' (h.to.old KyE.m hold) (h'.to.old KyE.m hold)
        unfold shR at hr
        generalize eqG kyQ x.w y.w = p1 at *
        generalize eqG kyQ x.h y.h = p2 at *
        generalize eqG kyQ x.width y.width = p3 at *
        generalize eqG kyQ x.frm y.frm = p4 at *
        generalize eqG kyQ x.to y.to = p5 at *
        cases h1 : (x.form == y.form) with
        | false =>
          simp only [h1, Bool.true_and, Bool.false_and] at hr
          try unfold pntQ at h7
          try unfold c4Q at h10
          subst hr
          simp (maxSteps := 1000000) only [go_sem, Nat.reduceEqDiff, Nat.reduceAdd, Nat.reduceSub, Nat.reduceMul, Nat.reduceLT, Nat.reduceLeDiff, Int.reducePow, Int.reduceBEq, Int.reduceBNe, Int.reduceDiv, Int.reduceMod, Int.reduceEq, Int.reduceLT, Int.reduceLE, Int.reduceAdd, Int.reduceSub, Int.reduceMul, Int.reduceNeg, Int.reduceToNat, Int.reduceTDiv, Int.reduceTMod, ↓reduceIte, t2, t3, t99, t100, df (show ¬ (i : Int) < (x.dash.length : Int) by omega), g0, g1, h1]
          repeat ((first | refine (c1).x ?_ | refine (c2).x ?_ | refine (c3).x ?_ | refine (c4).x ?_ | refine (c5).x ?_ | refine drawnF ?_ (by decide +kernel) | refine drawnU [(5, 12), (6, 12), (7, 12), (8, 12), (9, 12)] (by decide +kernel) ?_); simp (maxSteps := 1000000) only [go_sem, Nat.reduceEqDiff, Nat.reduceAdd, Nat.reduceSub, Nat.reduceMul, Nat.reduceLT, Nat.reduceLeDiff, Int.reducePow, Int.reduceBEq, Int.reduceBNe, Int.reduceDiv, Int.reduceMod, Int.reduceEq, Int.reduceLT, Int.reduceLE, Int.reduceAdd, Int.reduceSub, Int.reduceMul, Int.reduceNeg, Int.reduceToNat, Int.reduceTDiv, Int.reduceTMod, ↓reduceIte, t2, t3, g0, g1, h1])
        | true =>
          cases h2 : (x.n == y.n) with
          | false =>
            simp only [h1, h2, Bool.true_and, Bool.false_and] at hr
            try unfold pntQ at h7
            try unfold c4Q at h10
            subst hr
            simp (maxSteps := 1000000) only [go_sem, Nat.reduceEqDiff, Nat.reduceAdd, Nat.reduceSub, Nat.reduceMul, Nat.reduceLT, Nat.reduceLeDiff, Int.reducePow, Int.reduceBEq, Int.reduceBNe, Int.reduceDiv, Int.reduceMod, Int.reduceEq, Int.reduceLT, Int.reduceLE, Int.reduceAdd, Int.reduceSub, Int.reduceMul, Int.reduceNeg, Int.reduceToNat, Int.reduceTDiv, Int.reduceTMod, ↓reduceIte, t2, t3, t99, t100, df (show ¬ (i : Int) < (x.dash.length : Int) by omega), g0, g1, h1, h2]
            repeat ((first | refine (c1).x ?_ | refine (c2).x ?_ | refine (c3).x ?_ | refine (c4).x ?_ | refine (c5).x ?_ | refine drawnF ?_ (by decide +kernel) | refine drawnU [(5, 12), (6, 12), (7, 12), (8, 12), (9, 12)] (by decide +kernel) ?_); simp (maxSteps := 1000000) only [go_sem, Nat.reduceEqDiff, Nat.reduceAdd, Nat.reduceSub, Nat.reduceMul, Nat.reduceLT, Nat.reduceLeDiff, Int.reducePow, Int.reduceBEq, Int.reduceBNe, Int.reduceDiv, Int.reduceMod, Int.reduceEq, Int.reduceLT, Int.reduceLE, Int.reduceAdd, Int.reduceSub, Int.reduceMul, Int.reduceNeg, Int.reduceToNat, Int.reduceTDiv, Int.reduceTMod, ↓reduceIte, t2, t3, g0, g1, h1, h2])
          | true =>
            cases h3 : p1 with
            | false =>
              simp only [h1, h2, h3, Bool.true_and, Bool.false_and] at hr
              try unfold pntQ at h7
              try unfold c4Q at h10
              subst hr
              simp (maxSteps := 1000000) only [go_sem, Nat.reduceEqDiff, Nat.reduceAdd, Nat.reduceSub, Nat.reduceMul, Nat.reduceLT, Nat.reduceLeDiff, Int.reducePow, Int.reduceBEq, Int.reduceBNe, Int.reduceDiv, Int.reduceMod, Int.reduceEq, Int.reduceLT, Int.reduceLE, Int.reduceAdd, Int.reduceSub, Int.reduceMul, Int.reduceNeg, Int.reduceToNat, Int.reduceTDiv, Int.reduceTMod, ↓reduceIte, t2, t3, t99, t100, df (show ¬ (i : Int) < (x.dash.length : Int) by omega), g0, g1, h1, h2, h3]
              repeat ((first | refine (c1).x ?_ | refine (c2).x ?_ | refine (c3).x ?_ | refine (c4).x ?_ | refine (c5).x ?_ | refine drawnF ?_ (by decide +kernel) | refine drawnU [(5, 12), (6, 12), (7, 12), (8, 12), (9, 12)] (by decide +kernel) ?_); simp (maxSteps := 1000000) only [go_sem, Nat.reduceEqDiff, Nat.reduceAdd, Nat.reduceSub, Nat.reduceMul, Nat.reduceLT, Nat.reduceLeDiff, Int.reducePow, Int.reduceBEq, Int.reduceBNe, Int.reduceDiv, Int.reduceMod, Int.reduceEq, Int.reduceLT, Int.reduceLE, Int.reduceAdd, Int.reduceSub, Int.reduceMul, Int.reduceNeg, Int.reduceToNat, Int.reduceTDiv, Int.reduceTMod, ↓reduceIte, t2, t3, g0, g1, h1, h2, h3])
            | true =>
              cases h4 : p2 with
              | false =>
                simp only [h1, h2, h3, h4, Bool.true_and, Bool.false_and] at hr
                try unfold pntQ at h7
                try unfold c4Q at h10
                subst hr
                simp (maxSteps := 1000000) only [go_sem, Nat.reduceEqDiff, Nat.reduceAdd, Nat.reduceSub, Nat.reduceMul, Nat.reduceLT, Nat.reduceLeDiff, Int.reducePow, Int.reduceBEq, Int.reduceBNe, Int.reduceDiv, Int.reduceMod, Int.reduceEq, Int.reduceLT, Int.reduceLE, Int.reduceAdd, Int.reduceSub, Int.reduceMul, Int.reduceNeg, Int.reduceToNat, Int.reduceTDiv, Int.reduceTMod, ↓reduceIte, t2, t3, t99, t100, df (show ¬ (i : Int) < (x.dash.length : Int) by omega), g0, g1, h1, h2, h3, h4]
                repeat ((first | refine (c1).x ?_ | refine (c2).x ?_ | refine (c3).x ?_ | refine (c4).x ?_ | refine (c5).x ?_ | refine drawnF ?_ (by decide +kernel) | refine drawnU [(5, 12), (6, 12), (7, 12), (8, 12), (9, 12)] (by decide +kernel) ?_); simp (maxSteps := 1000000) only [go_sem, Nat.reduceEqDiff, Nat.reduceAdd, Nat.reduceSub, Nat.reduceMul, Nat.reduceLT, Nat.reduceLeDiff, Int.reducePow, Int.reduceBEq, Int.reduceBNe, Int.reduceDiv, Int.reduceMod, Int.reduceEq, Int.reduceLT, Int.reduceLE, Int.reduceAdd, Int.reduceSub, Int.reduceMul, Int.reduceNeg, Int.reduceToNat, Int.reduceTDiv, Int.reduceTMod, ↓reduceIte, t2, t3, g0, g1, h1, h2, h3, h4])
              | true =>
                cases h5 : (x.fill == y.fill) with
                | false =>
                  simp only [h1, h2, h3, h4, h5, Bool.true_and, Bool.false_and] at hr
                  try unfold pntQ at h7
                  try unfold c4Q at h10
                  subst hr
                  simp (maxSteps := 1000000) only [go_sem, Nat.reduceEqDiff, Nat.reduceAdd, Nat.reduceSub, Nat.reduceMul, Nat.reduceLT, Nat.reduceLeDiff, Int.reducePow, Int.reduceBEq, Int.reduceBNe, Int.reduceDiv, Int.reduceMod, Int.reduceEq, Int.reduceLT, Int.reduceLE, Int.reduceAdd, Int.reduceSub, Int.reduceMul, Int.reduceNeg, Int.reduceToNat, Int.reduceTDiv, Int.reduceTMod, ↓reduceIte, t2, t3, t99, t100, df (show ¬ (i : Int) < (x.dash.length : Int) by omega), g0, g1, h1, h2, h3, h4, h5]
                  repeat ((first | refine (c1).x ?_ | refine (c2).x ?_ | refine (c3).x ?_ | refine (c4).x ?_ | refine (c5).x ?_ | refine drawnF ?_ (by decide +kernel) | refine drawnU [(5, 12), (6, 12), (7, 12), (8, 12), (9, 12)] (by decide +kernel) ?_); simp (maxSteps := 1000000) only [go_sem, Nat.reduceEqDiff, Nat.reduceAdd, Nat.reduceSub, Nat.reduceMul, Nat.reduceLT, Nat.reduceLeDiff, Int.reducePow, Int.reduceBEq, Int.reduceBNe, Int.reduceDiv, Int.reduceMod, Int.reduceEq, Int.reduceLT, Int.reduceLE, Int.reduceAdd, Int.reduceSub, Int.reduceMul, Int.reduceNeg, Int.reduceToNat, Int.reduceTDiv, Int.reduceTMod, ↓reduceIte, t2, t3, g0, g1, h1, h2, h3, h4, h5])
                | true =>
                  cases h6 : (x.rule == y.rule) with
                  | false =>
                    simp only [h1, h2, h3, h4, h5, h6, Bool.true_and, Bool.false_and] at hr
                    try unfold pntQ at h7
                    try unfold c4Q at h10
                    subst hr
                    simp (maxSteps := 1000000) only [go_sem, Nat.reduceEqDiff, Nat.reduceAdd, Nat.reduceSub, Nat.reduceMul, Nat.reduceLT, Nat.reduceLeDiff, Int.reducePow, Int.reduceBEq, Int.reduceBNe, Int.reduceDiv, Int.reduceMod, Int.reduceEq, Int.reduceLT, Int.reduceLE, Int.reduceAdd, Int.reduceSub, Int.reduceMul, Int.reduceNeg, Int.reduceToNat, Int.reduceTDiv, Int.reduceTMod, ↓reduceIte, t2, t3, t99, t100, df (show ¬ (i : Int) < (x.dash.length : Int) by omega), g0, g1, h1, h2, h3, h4, h5, h6]
                    repeat ((first | refine (c1).x ?_ | refine (c2).x ?_ | refine (c3).x ?_ | refine (c4).x ?_ | refine (c5).x ?_ | refine drawnF ?_ (by decide +kernel) | refine drawnU [(5, 12), (6, 12), (7, 12), (8, 12), (9, 12)] (by decide +kernel) ?_); simp (maxSteps := 1000000) only [go_sem, Nat.reduceEqDiff, Nat.reduceAdd, Nat.reduceSub, Nat.reduceMul, Nat.reduceLT, Nat.reduceLeDiff, Int.reducePow, Int.reduceBEq, Int.reduceBNe, Int.reduceDiv, Int.reduceMod, Int.reduceEq, Int.reduceLT, Int.reduceLE, Int.reduceAdd, Int.reduceSub, Int.reduceMul, Int.reduceNeg, Int.reduceToNat, Int.reduceTDiv, Int.reduceTMod, ↓reduceIte, t2, t3, g0, g1, h1, h2, h3, h4, h5, h6])
                  | true =>
                    cases h7 : pntQ x.paint y.paint with
                    | false =>
                      simp only [h1, h2, h3, h4, h5, h6, h7, Bool.true_and, Bool.false_and] at hr
                      try unfold pntQ at h7
                      try unfold c4Q at h10
                      subst hr
                      simp (maxSteps := 1000000) only [go_sem, Nat.reduceEqDiff, Nat.reduceAdd, Nat.reduceSub, Nat.reduceMul, Nat.reduceLT, Nat.reduceLeDiff, Int.reducePow, Int.reduceBEq, Int.reduceBNe, Int.reduceDiv, Int.reduceMod, Int.reduceEq, Int.reduceLT, Int.reduceLE, Int.reduceAdd, Int.reduceSub, Int.reduceMul, Int.reduceNeg, Int.reduceToNat, Int.reduceTDiv, Int.reduceTMod, ↓reduceIte, t2, t3, t99, t100, df (show ¬ (i : Int) < (x.dash.length : Int) by omega), g0, g1, h1, h2, h3, h4, h5, h6, h7]
                      repeat ((first | refine (c1).x ?_ | refine (c2).x ?_ | refine (c3).x ?_ | refine (c4).x ?_ | refine (c5).x ?_ | refine drawnF ?_ (by decide +kernel) | refine drawnU [(5, 12), (6, 12), (7, 12), (8, 12), (9, 12)] (by decide +kernel) ?_); simp (maxSteps := 1000000) only [go_sem, Nat.reduceEqDiff, Nat.reduceAdd, Nat.reduceSub, Nat.reduceMul, Nat.reduceLT, Nat.reduceLeDiff, Int.reducePow, Int.reduceBEq, Int.reduceBNe, Int.reduceDiv, Int.reduceMod, Int.reduceEq, Int.reduceLT, Int.reduceLE, Int.reduceAdd, Int.reduceSub, Int.reduceMul, Int.reduceNeg, Int.reduceToNat, Int.reduceTDiv, Int.reduceTMod, ↓reduceIte, t2, t3, g0, g1, h1, h2, h3, h4, h5, h6, h7])
                    | true =>
                      cases h8 : (x.stroke == y.stroke) with
                      | false =>
                        simp only [h1, h2, h3, h4, h5, h6, h7, h8, Bool.true_and, Bool.false_and] at hr
                        try unfold pntQ at h7
                        try unfold c4Q at h10
                        subst hr
                        simp (maxSteps := 1000000) only [go_sem, Nat.reduceEqDiff, Nat.reduceAdd, Nat.reduceSub, Nat.reduceMul, Nat.reduceLT, Nat.reduceLeDiff, Int.reducePow, Int.reduceBEq, Int.reduceBNe, Int.reduceDiv, Int.reduceMod, Int.reduceEq, Int.reduceLT, Int.reduceLE, Int.reduceAdd, Int.reduceSub, Int.reduceMul, Int.reduceNeg, Int.reduceToNat, Int.reduceTDiv, Int.reduceTMod, ↓reduceIte, t2, t3, t99, t100, df (show ¬ (i : Int) < (x.dash.length : Int) by omega), g0, g1, h1, h2, h3, h4, h5, h6, h7, h8]
                        repeat ((first | refine (c1).x ?_ | refine (c2).x ?_ | refine (c3).x ?_ | refine (c4).x ?_ | refine (c5).x ?_ | refine drawnF ?_ (by decide +kernel) | refine drawnU [(5, 12), (6, 12), (7, 12), (8, 12), (9, 12)] (by decide +kernel) ?_); simp (maxSteps := 1000000) only [go_sem, Nat.reduceEqDiff, Nat.reduceAdd, Nat.reduceSub, Nat.reduceMul, Nat.reduceLT, Nat.reduceLeDiff, Int.reducePow, Int.reduceBEq, Int.reduceBNe, Int.reduceDiv, Int.reduceMod, Int.reduceEq, Int.reduceLT, Int.reduceLE, Int.reduceAdd, Int.reduceSub, Int.reduceMul, Int.reduceNeg, Int.reduceToNat, Int.reduceTDiv, Int.reduceTMod, ↓reduceIte, t2, t3, g0, g1, h1, h2, h3, h4, h5, h6, h7, h8])
                      | true =>
                        cases h9 : p3 with
                        | false =>
                          simp only [h1, h2, h3, h4, h5, h6, h7, h8, h9, Bool.true_and, Bool.false_and] at hr
                          try unfold pntQ at h7
                          try unfold c4Q at h10
                          subst hr
                          simp (maxSteps := 1000000) only [go_sem, Nat.reduceEqDiff, Nat.reduceAdd, Nat.reduceSub, Nat.reduceMul, Nat.reduceLT, Nat.reduceLeDiff, Int.reducePow, Int.reduceBEq, Int.reduceBNe, Int.reduceDiv, Int.reduceMod, Int.reduceEq, Int.reduceLT, Int.reduceLE, Int.reduceAdd, Int.reduceSub, Int.reduceMul, Int.reduceNeg, Int.reduceToNat, Int.reduceTDiv, Int.reduceTMod, ↓reduceIte, t2, t3, t99, t100, df (show ¬ (i : Int) < (x.dash.length : Int) by omega), g0, g1, h1, h2, h3, h4, h5, h6, h7, h8, h9]
                          repeat ((first | refine (c1).x ?_ | refine (c2).x ?_ | refine (c3).x ?_ | refine (c4).x ?_ | refine (c5).x ?_ | refine drawnF ?_ (by decide +kernel) | refine drawnU [(5, 12), (6, 12), (7, 12), (8, 12), (9, 12)] (by decide +kernel) ?_); simp (maxSteps := 1000000) only [go_sem, Nat.reduceEqDiff, Nat.reduceAdd, Nat.reduceSub, Nat.reduceMul, Nat.reduceLT, Nat.reduceLeDiff, Int.reducePow, Int.reduceBEq, Int.reduceBNe, Int.reduceDiv, Int.reduceMod, Int.reduceEq, Int.reduceLT, Int.reduceLE, Int.reduceAdd, Int.reduceSub, Int.reduceMul, Int.reduceNeg, Int.reduceToNat, Int.reduceTDiv, Int.reduceTMod, ↓reduceIte, t2, t3, g0, g1, h1, h2, h3, h4, h5, h6, h7, h8, h9])
                        | true =>
                          cases h10 : c4Q x.line y.line with
                          | false =>
                            simp only [h1, h2, h3, h4, h5, h6, h7, h8, h9, h10, Bool.true_and, Bool.false_and] at hr
                            try unfold pntQ at h7
                            try unfold c4Q at h10
                            subst hr
                            simp (maxSteps := 1000000) only [go_sem, Nat.reduceEqDiff, Nat.reduceAdd, Nat.reduceSub, Nat.reduceMul, Nat.reduceLT, Nat.reduceLeDiff, Int.reducePow, Int.reduceBEq, Int.reduceBNe, Int.reduceDiv, Int.reduceMod, Int.reduceEq, Int.reduceLT, Int.reduceLE, Int.reduceAdd, Int.reduceSub, Int.reduceMul, Int.reduceNeg, Int.reduceToNat, Int.reduceTDiv, Int.reduceTMod, ↓reduceIte, t2, t3, t99, t100, df (show ¬ (i : Int) < (x.dash.length : Int) by omega), g0, g1, h1, h2, h3, h4, h5, h6, h7, h8, h9, h10]
                            repeat ((first | refine (c1).x ?_ | refine (c2).x ?_ | refine (c3).x ?_ | refine (c4).x ?_ | refine (c5).x ?_ | refine drawnF ?_ (by decide +kernel) | refine drawnU [(5, 12), (6, 12), (7, 12), (8, 12), (9, 12)] (by decide +kernel) ?_); simp (maxSteps := 1000000) only [go_sem, Nat.reduceEqDiff, Nat.reduceAdd, Nat.reduceSub, Nat.reduceMul, Nat.reduceLT, Nat.reduceLeDiff, Int.reducePow, Int.reduceBEq, Int.reduceBNe, Int.reduceDiv, Int.reduceMod, Int.reduceEq, Int.reduceLT, Int.reduceLE, Int.reduceAdd, Int.reduceSub, Int.reduceMul, Int.reduceNeg, Int.reduceToNat, Int.reduceTDiv, Int.reduceTMod, ↓reduceIte, t2, t3, g0, g1, h1, h2, h3, h4, h5, h6, h7, h8, h9, h10])
                          | true =>
                            cases h11 : (x.cap == y.cap) with
                            | false =>
                              simp only [h1, h2, h3, h4, h5, h6, h7, h8, h9, h10, h11, Bool.true_and, Bool.false_and] at hr
                              try unfold pntQ at h7
                              try unfold c4Q at h10
                              subst hr
                              simp (maxSteps := 1000000) only [go_sem, Nat.reduceEqDiff, Nat.reduceAdd, Nat.reduceSub, Nat.reduceMul, Nat.reduceLT, Nat.reduceLeDiff, Int.reducePow, Int.reduceBEq, Int.reduceBNe, Int.reduceDiv, Int.reduceMod, Int.reduceEq, Int.reduceLT, Int.reduceLE, Int.reduceAdd, Int.reduceSub, Int.reduceMul, Int.reduceNeg, Int.reduceToNat, Int.reduceTDiv, Int.reduceTMod, ↓reduceIte, t2, t3, t99, t100, df (show ¬ (i : Int) < (x.dash.length : Int) by omega), g0, g1, h1, h2, h3, h4, h5, h6, h7, h8, h9, h10, h11]
                              repeat ((first | refine (c1).x ?_ | refine (c2).x ?_ | refine (c3).x ?_ | refine (c4).x ?_ | refine (c5).x ?_ | refine drawnF ?_ (by decide +kernel) | refine drawnU [(5, 12), (6, 12), (7, 12), (8, 12), (9, 12)] (by decide +kernel) ?_); simp (maxSteps := 1000000) only [go_sem, Nat.reduceEqDiff, Nat.reduceAdd, Nat.reduceSub, Nat.reduceMul, Nat.reduceLT, Nat.reduceLeDiff, Int.reducePow, Int.reduceBEq, Int.reduceBNe, Int.reduceDiv, Int.reduceMod, Int.reduceEq, Int.reduceLT, Int.reduceLE, Int.reduceAdd, Int.reduceSub, Int.reduceMul, Int.reduceNeg, Int.reduceToNat, Int.reduceTDiv, Int.reduceTMod, ↓reduceIte, t2, t3, g0, g1, h1, h2, h3, h4, h5, h6, h7, h8, h9, h10, h11])
                            | true =>
                              cases h12 : p4 with
                              | false =>
                                simp only [h1, h2, h3, h4, h5, h6, h7, h8, h9, h10, h11, h12, Bool.true_and, Bool.false_and] at hr
                                try unfold pntQ at h7
                                try unfold c4Q at h10
                                subst hr
                                simp (maxSteps := 1000000) only [go_sem, Nat.reduceEqDiff, Nat.reduceAdd, Nat.reduceSub, Nat.reduceMul, Nat.reduceLT, Nat.reduceLeDiff, Int.reducePow, Int.reduceBEq, Int.reduceBNe, Int.reduceDiv, Int.reduceMod, Int.reduceEq, Int.reduceLT, Int.reduceLE, Int.reduceAdd, Int.reduceSub, Int.reduceMul, Int.reduceNeg, Int.reduceToNat, Int.reduceTDiv, Int.reduceTMod, ↓reduceIte, t2, t3, t99, t100, df (show ¬ (i : Int) < (x.dash.length : Int) by omega), g0, g1, h1, h2, h3, h4, h5, h6, h7, h8, h9, h10, h11, h12]
                                repeat ((first | refine (c1).x ?_ | refine (c2).x ?_ | refine (c3).x ?_ | refine (c4).x ?_ | refine (c5).x ?_ | refine drawnF ?_ (by decide +kernel) | refine drawnU [(5, 12), (6, 12), (7, 12), (8, 12), (9, 12)] (by decide +kernel) ?_); simp (maxSteps := 1000000) only [go_sem, Nat.reduceEqDiff, Nat.reduceAdd, Nat.reduceSub, Nat.reduceMul, Nat.reduceLT, Nat.reduceLeDiff, Int.reducePow, Int.reduceBEq, Int.reduceBNe, Int.reduceDiv, Int.reduceMod, Int.reduceEq, Int.reduceLT, Int.reduceLE, Int.reduceAdd, Int.reduceSub, Int.reduceMul, Int.reduceNeg, Int.reduceToNat, Int.reduceTDiv, Int.reduceTMod, ↓reduceIte, t2, t3, g0, g1, h1, h2, h3, h4, h5, h6, h7, h8, h9, h10, h11, h12])
                              | true =>
                                cases h13 : p5 with
                                | false =>
                                  simp only [h1, h2, h3, h4, h5, h6, h7, h8, h9, h10, h11, h12, h13, Bool.true_and, Bool.false_and] at hr
                                  try unfold pntQ at h7
                                  try unfold c4Q at h10
                                  subst hr
                                  simp (maxSteps := 1000000) only [go_sem, Nat.reduceEqDiff, Nat.reduceAdd, Nat.reduceSub, Nat.reduceMul, Nat.reduceLT, Nat.reduceLeDiff, Int.reducePow, Int.reduceBEq, Int.reduceBNe, Int.reduceDiv, Int.reduceMod, Int.reduceEq, Int.reduceLT, Int.reduceLE, Int.reduceAdd, Int.reduceSub, Int.reduceMul, Int.reduceNeg, Int.reduceToNat, Int.reduceTDiv, Int.reduceTMod, ↓reduceIte, t2, t3, t99, t100, df (show ¬ (i : Int) < (x.dash.length : Int) by omega), g0, g1, h1, h2, h3, h4, h5, h6, h7, h8, h9, h10, h11, h12, h13]
                                  repeat ((first | refine (c1).x ?_ | refine (c2).x ?_ | refine (c3).x ?_ | refine (c4).x ?_ | refine (c5).x ?_ | refine drawnF ?_ (by decide +kernel) | refine drawnU [(5, 12), (6, 12), (7, 12), (8, 12), (9, 12)] (by decide +kernel) ?_); simp (maxSteps := 1000000) only [go_sem, Nat.reduceEqDiff, Nat.reduceAdd, Nat.reduceSub, Nat.reduceMul, Nat.reduceLT, Nat.reduceLeDiff, Int.reducePow, Int.reduceBEq, Int.reduceBNe, Int.reduceDiv, Int.reduceMod, Int.reduceEq, Int.reduceLT, Int.reduceLE, Int.reduceAdd, Int.reduceSub, Int.reduceMul, Int.reduceNeg, Int.reduceToNat, Int.reduceTDiv, Int.reduceTMod, ↓reduceIte, t2, t3, g0, g1, h1, h2, h3, h4, h5, h6, h7, h8, h9, h10, h11, h12, h13])
                                | true =>
                                  simp only [h1, h2, h3, h4, h5, h6, h7, h8, h9, h10, h11, h12, h13, Bool.true_and, Bool.false_and] at hr
                                  try unfold pntQ at h7
                                  try unfold c4Q at h10
                                  subst hr
                                  simp (maxSteps := 1000000) only [go_sem, Nat.reduceEqDiff, Nat.reduceAdd, Nat.reduceSub, Nat.reduceMul, Nat.reduceLT, Nat.reduceLeDiff, Int.reducePow, Int.reduceBEq, Int.reduceBNe, Int.reduceDiv, Int.reduceMod, Int.reduceEq, Int.reduceLT, Int.reduceLE, Int.reduceAdd, Int.reduceSub, Int.reduceMul, Int.reduceNeg, Int.reduceToNat, Int.reduceTDiv, Int.reduceTMod, ↓reduceIte, t2, t3, t99, t100, df (show ¬ (i : Int) < (x.dash.length : Int) by omega), g0, g1, h1, h2, h3, h4, h5, h6, h7, h8, h9, h10, h11, h12, h13]
                                  repeat ((first | refine (c1).x ?_ | refine (c2).x ?_ | refine (c3).x ?_ | refine (c4).x ?_ | refine (c5).x ?_ | refine drawnF ?_ (by decide +kernel) | refine drawnU [(5, 12), (6, 12), (7, 12), (8, 12), (9, 12)] (by decide +kernel) ?_); simp (maxSteps := 1000000) only [go_sem, Nat.reduceEqDiff, Nat.reduceAdd, Nat.reduceSub, Nat.reduceMul, Nat.reduceLT, Nat.reduceLeDiff, Int.reducePow, Int.reduceBEq, Int.reduceBNe, Int.reduceDiv, Int.reduceMod, Int.reduceEq, Int.reduceLT, Int.reduceLE, Int.reduceAdd, Int.reduceSub, Int.reduceMul, Int.reduceNeg, Int.reduceToNat, Int.reduceTDiv, Int.reduceTMod, ↓reduceIte, t2, t3, g0, g1, h1, h2, h3, h4, h5, h6, h7, h8, h9, h10, h11, h12, h13])
end Go.Proofs.YtnebnbdeobcegaaGreat
/- Documents: the walk of mutoscoperef18.Same. -/
namespace Go.Proofs.YtnebnbdeobcegaaGreat
open Go Go.RowKit E
theorem xcutC {P : Program} {sz n0 : Nat} {T : Env} {H : AH} {D : List Nat} {q : WPost} {c b : Code} (R : Env → AH → List Nat → Prop) (h1 : @XCode P sz n0 c T H D ⟨fun o T' H' D' => o = .norm ∧ R T' H' D'⟩) (h2 : ∀ T' H' D', R T' H' D' → @XCode P sz n0 b T' H' D' ⟨q⟩) : @XCode P sz n0 c T H D ⟨WSeq (fun T H D Q => WCode P sz n0 b T H D Q) q⟩ := by
  show WCode P sz n0 c T H D _
  refine WCode.mono h1 fun o T' H' D' ⟨ho, r⟩ => ?_
  subst ho
  exact h2 T' H' D' r
attribute [local irreducible] XRun XOps XCode XCal XLoop XQ SemCall
set_option linter.unusedSimpArgs false
set_option linter.unusedVariables false
theorem rkeysR_ (l : Ly) (v0 v1 v2 v3 v4 v5 v6 v7 v8 pm vw vh vp vc vd vda vf vt : Value) (H : AH) (h : LyV H l v0 v1 v2 v3 v4 v5 v6 v7 v8 pm) : Cal Tryz.prog 36 [.agg (lyVs l v0 v1 v2 v3 v4 v5 v6 v7 v8 pm vw vh vp vc vd vda vf vt).toArray] H fun v' H' W => W = [] ∧ (∃ L, H' = H ++ L) ∧ RowOf 1 KsE H' v' l.keys := by
  refine adds_of ?_
  obtain ⟨a0, e0, rfl⟩ := h.x.form
  obtain ⟨a1, e1, rfl⟩ := h.y.form
  obtain ⟨a2, e2, rfl⟩ := h.ax.form
  obtain ⟨a3, e3, rfl⟩ := h.ay.form
  obtain ⟨a4, e4, rfl⟩ := h.sx.form
  obtain ⟨a5, e5, rfl⟩ := h.sy.form
  obtain ⟨a6, e6, rfl⟩ := h.turn.form
  obtain ⟨a7, e7, rfl⟩ := h.opac.form
  obtain ⟨a8, e8, rfl⟩ := h.remap.form
  refine XCal.of hm Tryz.func36 rfl (fun xs w => Tryz.call36 xs w) Tryz.ntmps36 Tryz.results36 rfl ?_
  (refine sg trivial ?_; try exact ⟨⟩)
  refine .inr ⟨H.length + 1, 0, [], true, [[.slice a0 l.x.length e0], [.slice a1 l.y.length e1], [.slice a2 l.ax.length e2], [.slice a3 l.ay.length e3], [.slice a4 l.sx.length e4], [.slice a5 l.sy.length e5], [.slice a6 l.turn.length e6], [.slice a7 l.opac.length e7], [.slice a8 l.remap.length e8]], rfl, by rw [hget_app]; rfl, rfl, by simp [Ly.keys], fun i x hx => ?_⟩
  have o := fun L => Old.app' H L
  match i, hx with
  | 0, hx => simp [Ly.keys] at hx; subst hx; exact ⟨_, rfl, rfl, _, rfl, h.x.old KyE.m (o _)⟩
  | 1, hx => simp [Ly.keys] at hx; subst hx; exact ⟨_, rfl, rfl, _, rfl, h.y.old KyE.m (o _)⟩
  | 2, hx => simp [Ly.keys] at hx; subst hx; exact ⟨_, rfl, rfl, _, rfl, h.ax.old KyE.m (o _)⟩
  | 3, hx => simp [Ly.keys] at hx; subst hx; exact ⟨_, rfl, rfl, _, rfl, h.ay.old KyE.m (o _)⟩
  | 4, hx => simp [Ly.keys] at hx; subst hx; exact ⟨_, rfl, rfl, _, rfl, h.sx.old KyE.m (o _)⟩
  | 5, hx => simp [Ly.keys] at hx; subst hx; exact ⟨_, rfl, rfl, _, rfl, h.sy.old KyE.m (o _)⟩
  | 6, hx => simp [Ly.keys] at hx; subst hx; exact ⟨_, rfl, rfl, _, rfl, h.turn.old KyE.m (o _)⟩
  | 7, hx => simp [Ly.keys] at hx; subst hx; exact ⟨_, rfl, rfl, _, rfl, h.opac.old KyE.m (o _)⟩
  | 8, hx => simp [Ly.keys] at hx; subst hx; exact ⟨_, rfl, rfl, _, rfl, h.remap.old KyE.m (o _)⟩
  | i + 9, hx => simp [Ly.keys] at hx

def lyR (x y : Ly) : Bool := (x.kind == y.kind) && ((x.parent == y.parent) && ((x.comp == y.comp) && ((x.matte == y.matte) && ((x.in_ == y.in_) && ((x.out == y.out) && ((x.start == y.start) && (plQ x.mask y.mask && shQ x.shape y.shape)))))))
theorem lyQ_R (x y : Ly) : lyQ x y = (lyR x y && eqG (eqG kyQ) x.keys y.keys) := by
  unfold lyQ lyP lyR
  rw [Bool.eq_iff_iff]
  simp only [Bool.and_eq_true]
  constructor
  · rintro ⟨⟨⟨⟨⟨⟨⟨⟨⟨a1, a2⟩, a3⟩, a4⟩, a5⟩, a6⟩, a7⟩, b⟩, c⟩, d⟩
    exact ⟨⟨a1, a2, a3, a4, a5, a6, a7, c, d⟩, b⟩
  · rintro ⟨⟨a1, a2, a3, a4, a5, a6, a7, c, d⟩, b⟩
    exact ⟨⟨⟨⟨⟨⟨⟨⟨⟨a1, a2⟩, a3⟩, a4⟩, a5⟩, a6⟩, a7⟩, b⟩, c⟩, d⟩
set_option maxRecDepth 100000 in
set_option maxHeartbeats 8000000 in
theorem rdsame_ (x y : Dc) (v w : Value) (H : AH) (h : Cos H v x.comps) (h' : Cos H w y.comps) : SemCall Tryz.prog 13 [dcV x v, dcV y w] H (.bool (dcQ x y)) H [] := by
  refine pure_of ?_ rfl
  obtain ⟨q, hq⟩ : ∃ q, dcQ x y = q := ⟨_, rfl⟩
  rw [hq]
  unfold dcQ at hq
  obtain ⟨va, ve, hv⟩ := h.form
  subst hv
  obtain ⟨wa, we, hw⟩ := h'.form
  subst hw
  have lh := h.len
  cases h1 : (x.in_ == y.in_)
  case false =>
    rw [h1, Bool.false_and, Bool.false_and] at hq
    subst hq
    refine XCal.of hm Tryz.func13 rfl (fun xs w => Tryz.call13 xs w) Tryz.ntmps13 Tryz.results13 rfl ?_
    simp only [go_sem, Nat.reduceEqDiff, Nat.reduceAdd, Nat.reduceSub, Nat.reduceMul, Nat.reduceLT, Nat.reduceLeDiff, Int.reducePow, Int.reduceBEq, Int.reduceBNe, Int.reduceDiv, Int.reduceMod, Int.reduceEq, Int.reduceLT, Int.reduceLE, Int.reduceAdd, Int.reduceSub, Int.reduceMul, Int.reduceNeg, Int.reduceToNat, Int.reduceTDiv, Int.reduceTMod, ↓reduceIte, h1, bne]
  cases h2 : (x.out == y.out)
  case false =>
    rw [h2, Bool.and_false, Bool.false_and] at hq
    subst hq
    refine XCal.of hm Tryz.func13 rfl (fun xs w => Tryz.call13 xs w) Tryz.ntmps13 Tryz.results13 rfl ?_
    simp only [go_sem, Nat.reduceEqDiff, Nat.reduceAdd, Nat.reduceSub, Nat.reduceMul, Nat.reduceLT, Nat.reduceLeDiff, Int.reducePow, Int.reduceBEq, Int.reduceBNe, Int.reduceDiv, Int.reduceMod, Int.reduceEq, Int.reduceLT, Int.reduceLE, Int.reduceAdd, Int.reduceSub, Int.reduceMul, Int.reduceNeg, Int.reduceToNat, Int.reduceTDiv, Int.reduceTMod, ↓reduceIte, h1, h2, bne]
  rw [h1, h2, Bool.true_and, Bool.true_and] at hq
  by_cases m1 : (x.comps.length : Int) = (y.comps.length : Int)
  case neg =>
    rw [eqG_len (by omega)] at hq
    subst hq
    refine XCal.of hm Tryz.func13 rfl (fun xs w => Tryz.call13 xs w) Tryz.ntmps13 Tryz.results13 rfl ?_
    simp only [go_sem, Nat.reduceEqDiff, Nat.reduceAdd, Nat.reduceSub, Nat.reduceMul, Nat.reduceLT, Nat.reduceLeDiff, Int.reducePow, Int.reduceBEq, Int.reduceBNe, Int.reduceDiv, Int.reduceMod, Int.reduceEq, Int.reduceLT, Int.reduceLE, Int.reduceAdd, Int.reduceSub, Int.reduceMul, Int.reduceNeg, Int.reduceToNat, Int.reduceTDiv, Int.reduceTMod, ↓reduceIte, h1, h2, bne, bf m1]
  refine XCal.of hm Tryz.func13 rfl (fun xs w => Tryz.call13 xs w) Tryz.ntmps13 Tryz.results13 rfl ?_
  simp only [go_sem, Nat.reduceEqDiff, Nat.reduceAdd, Nat.reduceSub, Nat.reduceMul, Nat.reduceLT, Nat.reduceLeDiff, Int.reducePow, Int.reduceBEq, Int.reduceBNe, Int.reduceDiv, Int.reduceMod, Int.reduceEq, Int.reduceLT, Int.reduceLE, Int.reduceAdd, Int.reduceSub, Int.reduceMul, Int.reduceNeg, Int.reduceToNat, Int.reduceTDiv, Int.reduceTMod, ↓reduceIte, h1, h2, bne, bt m1]
  refine keep (fun r T K D => D = [] ∧ ∃ i : Nat, i + r = x.comps.length ∧ Old H K ∧ H.length + 2 ≤ K.length ∧ K[H.length]? = some ⟨[.int .i64 x.in_, .int .i64 x.out, .slice va x.comps.length ve], 0, true⟩ ∧ K[H.length + 1]? = some ⟨[.int .i64 y.in_, .int .i64 y.out, .slice wa y.comps.length we], 0, true⟩ ∧ T 2 = ap H.length 0 0 ∧ T 3 = ap (H.length + 1) 0 0 ∧ T 35 = .int .i64 (x.comps.length : Int) ∧ T 36 = .int .i64 (i : Int) ∧ eqG (eqG lyQ) (x.comps.drop i) (y.comps.drop i) = q) x.comps.length
    ⟨rfl, 0, by omega, Old.app' _ _, by simp, by rw [hget_app0]; rfl, by rw [hget_app]; rfl, by (refine sg trivial ?_; try exact ⟨⟩), by (refine sg trivial ?_; try exact ⟨⟩), by (refine sg trivial ?_; try exact ⟨⟩), by (refine sg trivial ?_; try exact ⟨⟩) <;> rfl, hq⟩ ?_
  clear hq h1 h2
  rintro r T K D ⟨rfl, i, hir, hold, hKl, g0, g1, t2, t3, t35, t36, hr⟩
  have kd : ∀ n, decide (K.length + n < H.length) = false := fun n => df (by omega)
  have kd0 : decide (K.length < H.length) = false := df (by omega)
  by_cases hi : i < x.comps.length
  case neg =>
    rw [List.drop_eq_nil_of_le (by omega), List.drop_eq_nil_of_le (by omega)] at hr
    (refine sg (et t2 (et t3 (et t35 (et t36 (df (show ¬ (i : Int) < (x.comps.length : Int) by omega)))))) ?_; try exact ⟨⟩)
    rw [← hr]; rfl
  obtain ⟨c, hx⟩ : ∃ c, x.comps[i]? = some c := ⟨_, List.getElem?_eq_getElem hi⟩
  obtain ⟨e, hy⟩ : ∃ e, y.comps[i]? = some e := ⟨_, List.getElem?_eq_getElem (by omega)⟩
  obtain ⟨b, g, cells, rw_, cc, hve, hb, ⟨lv, hc, hlv⟩, hcl, hle, hld, hgt⟩ := h.at hx
  subst hc
  obtain ⟨b', g', cells', rw', cc', hwe, hb', ⟨lw, hc', hlw⟩, hcl', hle', hld', hgt'⟩ := h'.at hy
  subst hc'
  obtain ⟨la, le, hlf⟩ := hlv.form
  subst hlf
  obtain ⟨ma, me, hmf⟩ := hlw.form
  subst hmf
  have lc := hlv.len
  have kb := hold _ _ hb
  have kb' := hold _ _ hb'
  have hg := hgt 0 (by omega)
  have hg' := hgt' 0 (by omega)
  rw [Nat.mul_one, Nat.add_zero] at hg hg'
  have hg : cells[i]? = some (.slice la c.length le) := hg
  have hg' : cells'[i]? = some (.slice ma e.length me) := hg'
  have g0 := g0
  have g1 := g1
  rw [hve] at g0
  rw [hwe] at g1
  rw [drop_at hx, drop_at hy, eqG] at hr
  have i1 : IntKind.i64.wrap ((i : Int) + 1) = ((i + 1 : Nat) : Int) := by rw [wi (by omega) (by omega)]; rfl
  have q0 : (0 : Int) ≤ (i : Int) := by omega
  have q1 : (i : Int) < (x.comps.length : Int) := by omega
  have q2 : (i : Int) < (y.comps.length : Int) := by omega
  by_cases m2 : (c.length : Int) = (e.length : Int)
  case neg =>
    rw [eqG_len (l := c) (by omega), Bool.false_and] at hr
    subst hr
    (refine sg (et t2 (et t3 (et t35 (et t36 (dt q1))))) ?_; try exact ⟨⟩)
    repeat ((first | refine drawnF ?_ (by decide +kernel) | refine drawnU [(9, 20), (10, 20), (11, 20), (12, 20), (13, 20), (14, 20), (15, 20), (16, 20), (17, 20)] (by decide +kernel) ?_ | refine drawnU [(1, 2)] (by decide +kernel) ?_); (refine sg (et t2 (et t3 (et t35 (et t36 (et q0 (et q1 (et q2 (et Int.toNat_natCast (et Nat.zero_add (et Nat.mul_one (et Nat.add_zero (et g0 (et g1 (et kb (et kb' (et hg (et hg' (et kd (et kd0 (nf m2)))))))))))))))))))) ?_; try exact ⟨⟩))
  (refine sg (et t2 (et t3 (et t35 (et t36 (dt q1))))) ?_; try exact ⟨⟩)
  repeat ((first | refine drawnF ?_ (by decide +kernel) | refine drawnU [(9, 20), (10, 20), (11, 20), (12, 20), (13, 20), (14, 20), (15, 20), (16, 20), (17, 20)] (by decide +kernel) ?_ | refine drawnU [(1, 2)] (by decide +kernel) ?_); (refine sg (et t2 (et t3 (et t35 (et t36 (et q0 (et q1 (et q2 (et Int.toNat_natCast (et Nat.zero_add (et Nat.mul_one (et Nat.add_zero (et g0 (et g1 (et kb (et kb' (et hg (et hg' (et kd (et kd0 (nt m2)))))))))))))))))))) ?_; try exact ⟨⟩))
  refine keep (fun r T K' D => D = [] ∧ ∃ j : Nat, j + r = c.length ∧ Old K K' ∧ K.length ≤ K'.length ∧ T 2 = ap H.length 0 0 ∧ T 3 = ap (H.length + 1) 0 0 ∧ T 35 = .int .i64 (x.comps.length : Int) ∧ T 36 = .int .i64 (i : Int) ∧ T 5 = .int .i64 (i : Int) ∧ T 60 = .int .i64 (c.length : Int) ∧ T 61 = .int .i64 (j : Int) ∧ (eqG lyQ (c.drop j) (e.drop j) && eqG (eqG lyQ) (x.comps.drop (i + 1)) (y.comps.drop (i + 1))) = q) c.length
    ⟨rfl, 0, by omega, Old.refl _, by omega, by (refine sg t2 ?_; try exact ⟨⟩), by (refine sg t3 ?_; try exact ⟨⟩), by (refine sg t35 ?_; try exact ⟨⟩), by (refine sg t36 ?_; try exact ⟨⟩), by (refine sg trivial ?_; try exact ⟨⟩), by (refine sg trivial ?_; try exact ⟨⟩), by (refine sg trivial ?_; try exact ⟨⟩) <;> rfl, hr⟩ ?_
  clear hr t2 t3 t35 t36
  rintro r2 T K' D ⟨rfl, j, hjr, hold2, hKl2, t2, t3, t35, t36, t5, t60, t61, hr⟩
  have g0 := hold2 _ _ g0
  have g1 := hold2 _ _ g1
  have kb := hold2 _ _ kb
  have kb' := hold2 _ _ kb'
  have kd : ∀ n, decide (K'.length + n < H.length) = false := fun n => df (by omega)
  have kd0 : decide (K'.length < H.length) = false := df (by omega)
  have hO := hold.trans hold2
  by_cases hj : j < c.length
  case neg =>
    rw [List.drop_eq_nil_of_le (by omega), List.drop_eq_nil_of_le (by omega)] at hr
    have hr : (true && eqG (eqG lyQ) (x.comps.drop (i + 1)) (y.comps.drop (i + 1))) = q := hr
    rw [Bool.true_and] at hr
    rw [← hve] at g0
    rw [← hwe] at g1
    (refine sg (et t2 (et t3 (et t35 (et t36 (et t5 (et t60 (et t61 (et (df (show ¬ (j : Int) < (c.length : Int) by omega)) i1)))))))) ?_; try exact ⟨⟩)
    exact ⟨r - 1, by omega, i + 1, by omega, hO, by omega, g0, g1, rfl, hr⟩
  obtain ⟨a, hxj⟩ : ∃ a, c[j]? = some a := ⟨_, List.getElem?_eq_getElem hj⟩
  obtain ⟨f, hyj⟩ : ∃ f, e[j]? = some f := ⟨_, List.getElem?_eq_getElem (by omega)⟩
  obtain ⟨b2, g2, cells2, rw2, c2, hve2, hb2, ⟨v0, v1, v2, v3, v4, v5, v6, v7, v8, pm, vw, vh, vp, vc, vd, vda, vf, vt, rfl, hLV, hSV⟩, hcl2, hle2, hld2, hgt2⟩ := hlv.at hxj
  obtain ⟨b3, g3, cells3, rw3, c3, hwe3, hb3, ⟨w0, w1, w2, w3, w4, w5, w6, w7, w8, qm, ww, wh, wp, wc, wd, wda, wf, wt, rfl, hLW, hSW⟩, hcl3, hle3, hld3, hgt3⟩ := hlw.at hyj
  rw [hve2] at hg
  rw [hwe3] at hg'
  have kb2 := hO _ _ hb2
  have kb3 := hO _ _ hb3
  rw [drop_at hxj, drop_at hyj, eqG, lyQ_R] at hr
  have j1 : IntKind.i64.wrap ((j : Int) + 1) = ((j + 1 : Nat) : Int) := by rw [wi (by omega) (by omega)]; rfl
  have p0 : (0 : Int) ≤ (j : Int) := by omega
  have p1 : (j : Int) < (c.length : Int) := by omega
  have p2 : (j : Int) < (e.length : Int) := by omega
  obtain ⟨R, hR⟩ : ∃ R, (eqG lyQ (c.drop (j + 1)) (e.drop (j + 1)) && eqG (eqG lyQ) (x.comps.drop (i + 1)) (y.comps.drop (i + 1))) = R := ⟨_, rfl⟩
  rw [Bool.and_assoc, hR, Bool.and_assoc] at hr
  have b2l := (List.getElem?_eq_some_iff.1 hb2).1
  have b3l := (List.getElem?_eq_some_iff.1 hb3).1
  have bl := (List.getElem?_eq_some_iff.1 hb).1
  have bl' := (List.getElem?_eq_some_iff.1 hb').1
  have nn : ∀ z, z < H.length + 2 → (K'.length = z) = False ∧ (K'.length + 1 = z) = False := fun z hz => ⟨eq_false (by omega), eq_false (by omega)⟩
  (refine sg (et t2 (et t3 (et t35 (et t36 (et t5 (et t60 (et t61 (dt p1)))))))) ?_; try exact ⟨⟩)
  refine xcutC (fun T K2 D => D = [] ∧ K2 = K' ++ [⟨lyVs a v0 v1 v2 v3 v4 v5 v6 v7 v8 pm vw vh vp vc vd vda vf vt, 0, true⟩, ⟨lyVs f w0 w1 w2 w3 w4 w5 w6 w7 w8 qm ww wh wp wc wd wda wf wt, 0, true⟩] ∧ T 2 = ap H.length 0 0 ∧ T 3 = ap (H.length + 1) 0 0 ∧ T 35 = .int .i64 (x.comps.length : Int) ∧ T 36 = .int .i64 (i : Int) ∧ T 5 = .int .i64 (i : Int) ∧ T 60 = .int .i64 (c.length : Int) ∧ T 61 = .int .i64 (j : Int) ∧ T 7 = ap K'.length 0 0 ∧ T 8 = ap (K'.length + 1) 0 0) ?_ ?_
  · first | refine drawnF ?_ (by decide +kernel) | refine drawnU [(9, 20), (10, 20), (11, 20), (12, 20), (13, 20), (14, 20), (15, 20), (16, 20), (17, 20)] (by decide +kernel) ?_
    (refine sg (et t2 (et t3 (et t35 (et t36 (et t5 (et t60 (et t61 (et q0 (et q1 (et q2 (et p0 (et p1 (et p2 (et Int.toNat_natCast (et Nat.zero_add (et Nat.mul_one (et Nat.add_zero (et g0 (et g1 (et kb (et kb' (et hg (et hg' (et kb2 (et kb3 (et (old_get kb3) (et hld2 (et hld3 (et kd (et kd0 (et ((nn _ (show b < H.length + 2 by omega)).1) (et ((nn _ (show b < H.length + 2 by omega)).2) (et ((nn _ (show b' < H.length + 2 by omega)).1) (et ((nn _ (show b' < H.length + 2 by omega)).2) (et ((nn _ (show b2 < H.length + 2 by omega)).1) (et ((nn _ (show b2 < H.length + 2 by omega)).2) (et ((nn _ (show b3 < H.length + 2 by omega)).1) (et ((nn _ (show b3 < H.length + 2 by omega)).2) (et ((nn _ (show H.length < H.length + 2 by omega)).1) (et ((nn _ (show H.length < H.length + 2 by omega)).2) (et ((nn _ (show H.length + 1 < H.length + 2 by omega)).1) ((nn _ (show H.length + 1 < H.length + 2 by omega)).2)))))))))))))))))))))))))))))))))))))))))) ?_; try exact ⟨⟩)
  clear t2 t3 t35 t36 t5 t60 t61 nn
  rintro T K2 D ⟨rfl, hK2, t2, t3, t35, t36, t5, t60, t61, t7, t8⟩
  have o2 : Old K' K2 := by rw [hK2]; exact Old.app' _ _
  have k0 : K2[K'.length]? = some ⟨lyVs a v0 v1 v2 v3 v4 v5 v6 v7 v8 pm vw vh vp vc vd vda vf vt, 0, true⟩ := by rw [hK2, hget_app0]; rfl
  have k1 : K2[K'.length + 1]? = some ⟨lyVs f w0 w1 w2 w3 w4 w5 w6 w7 w8 qm ww wh wp wc wd wda wf wt, 0, true⟩ := by rw [hK2, hget_app]; rfl
  have hl2 : K'.length + 2 = K2.length := by rw [hK2]; simp
  clear hK2
  have hO2 := hO.trans o2
  have c2 := rpsame_ a.mask f.mask pm qm K2 ((hLV.old hO2).mask) ((hLW.old hO2).mask)
  have c3 := rsshape_ a.shape f.shape vw vh vp vc vd vda vf vt ww wh wp wc wd wda wf wt K2 (hSV.old hO2) (hSW.old hO2)
  obtain ⟨P, hP⟩ : ∃ P, lyR a f = P := ⟨_, rfl⟩
  rw [hP] at hr
  refine wcode_cut (fun T J D => D = [] ∧ J = K2 ∧ T 2 = ap H.length 0 0 ∧ T 3 = ap (H.length + 1) 0 0 ∧ T 35 = .int .i64 (x.comps.length : Int) ∧ T 36 = .int .i64 (i : Int) ∧ T 5 = .int .i64 (i : Int) ∧ T 60 = .int .i64 (c.length : Int) ∧ T 61 = .int .i64 (j : Int) ∧ T 7 = ap K'.length 0 0 ∧ T 8 = ap (K'.length + 1) 0 0 ∧ P = true) ?_ ?_
  · unfold lyR at hP
    generalize plQ a.mask f.mask = P1 at *
    generalize shQ a.shape f.shape = P2 at *
    cases h1 : (a.kind == f.kind) with
    | false =>
      simp only [h1, Bool.true_and, Bool.and_true, Bool.false_and, Bool.and_false] at hP
      subst hP
      simp only [Bool.true_and, Bool.false_and] at hr
      try subst hr
      simp (maxSteps := 1000000) only [go_sem, Nat.reduceEqDiff, Nat.reduceAdd, Nat.reduceSub, Nat.reduceMul, Nat.reduceLT, Nat.reduceLeDiff, Int.reducePow, Int.reduceBEq, Int.reduceBNe, Int.reduceDiv, Int.reduceMod, Int.reduceEq, Int.reduceLT, Int.reduceLE, Int.reduceAdd, Int.reduceSub, Int.reduceMul, Int.reduceNeg, Int.reduceToNat, Int.reduceTDiv, Int.reduceTMod, ↓reduceIte, t2, t3, t35, t36, t5, t60, t61, t7, t8, k0, k1, bne, h1]
      repeat ((first | refine (c2).x ?_ | refine (c3).x ?_ | refine drawnF ?_ (by decide +kernel) | refine drawnU [(9, 20), (10, 20), (11, 20), (12, 20), (13, 20), (14, 20), (15, 20), (16, 20), (17, 20)] (by decide +kernel) ?_ | refine drawnU [(1, 2)] (by decide +kernel) ?_); simp (maxSteps := 1000000) only [go_sem, Nat.reduceEqDiff, Nat.reduceAdd, Nat.reduceSub, Nat.reduceMul, Nat.reduceLT, Nat.reduceLeDiff, Int.reducePow, Int.reduceBEq, Int.reduceBNe, Int.reduceDiv, Int.reduceMod, Int.reduceEq, Int.reduceLT, Int.reduceLE, Int.reduceAdd, Int.reduceSub, Int.reduceMul, Int.reduceNeg, Int.reduceToNat, Int.reduceTDiv, Int.reduceTMod, ↓reduceIte, t2, t3, t35, t36, t5, t60, t61, t7, t8, k0, k1, bne, h1])
    | true =>
      cases h2 : (a.parent == f.parent) with
      | false =>
        simp only [h1, h2, Bool.true_and, Bool.and_true, Bool.false_and, Bool.and_false] at hP
        subst hP
        simp only [Bool.true_and, Bool.false_and] at hr
        try subst hr
        simp (maxSteps := 1000000) only [go_sem, Nat.reduceEqDiff, Nat.reduceAdd, Nat.reduceSub, Nat.reduceMul, Nat.reduceLT, Nat.reduceLeDiff, Int.reducePow, Int.reduceBEq, Int.reduceBNe, Int.reduceDiv, Int.reduceMod, Int.reduceEq, Int.reduceLT, Int.reduceLE, Int.reduceAdd, Int.reduceSub, Int.reduceMul, Int.reduceNeg, Int.reduceToNat, Int.reduceTDiv, Int.reduceTMod, ↓reduceIte, t2, t3, t35, t36, t5, t60, t61, t7, t8, k0, k1, bne, h1, h2]
        repeat ((first | refine (c2).x ?_ | refine (c3).x ?_ | refine drawnF ?_ (by decide +kernel) | refine drawnU [(9, 20), (10, 20), (11, 20), (12, 20), (13, 20), (14, 20), (15, 20), (16, 20), (17, 20)] (by decide +kernel) ?_ | refine drawnU [(1, 2)] (by decide +kernel) ?_); simp (maxSteps := 1000000) only [go_sem, Nat.reduceEqDiff, Nat.reduceAdd, Nat.reduceSub, Nat.reduceMul, Nat.reduceLT, Nat.reduceLeDiff, Int.reducePow, Int.reduceBEq, Int.reduceBNe, Int.reduceDiv, Int.reduceMod, Int.reduceEq, Int.reduceLT, Int.reduceLE, Int.reduceAdd, Int.reduceSub, Int.reduceMul, Int.reduceNeg, Int.reduceToNat, Int.reduceTDiv, Int.reduceTMod, ↓reduceIte, t2, t3, t35, t36, t5, t60, t61, t7, t8, k0, k1, bne, h1, h2])
      | true =>
        cases h3 : (a.comp == f.comp) with
        | false =>
          simp only [h1, h2, h3, Bool.true_and, Bool.and_true, Bool.false_and, Bool.and_false] at hP
          subst hP
          simp only [Bool.true_and, Bool.false_and] at hr
          try subst hr
          simp (maxSteps := 1000000) only [go_sem, Nat.reduceEqDiff, Nat.reduceAdd, Nat.reduceSub, Nat.reduceMul, Nat.reduceLT, Nat.reduceLeDiff, Int.reducePow, Int.reduceBEq, Int.reduceBNe, Int.reduceDiv, Int.reduceMod, Int.reduceEq, Int.reduceLT, Int.reduceLE, Int.reduceAdd, Int.reduceSub, Int.reduceMul, Int.reduceNeg, Int.reduceToNat, Int.reduceTDiv, Int.reduceTMod, ↓reduceIte, t2, t3, t35, t36, t5, t60, t61, t7, t8, k0, k1, bne, h1, h2, h3]
          repeat ((first | refine (c2).x ?_ | refine (c3).x ?_ | refine drawnF ?_ (by decide +kernel) | refine drawnU [(9, 20), (10, 20), (11, 20), (12, 20), (13, 20), (14, 20), (15, 20), (16, 20), (17, 20)] (by decide +kernel) ?_ | refine drawnU [(1, 2)] (by decide +kernel) ?_); simp (maxSteps := 1000000) only [go_sem, Nat.reduceEqDiff, Nat.reduceAdd, Nat.reduceSub, Nat.reduceMul, Nat.reduceLT, Nat.reduceLeDiff, Int.reducePow, Int.reduceBEq, Int.reduceBNe, Int.reduceDiv, Int.reduceMod, Int.reduceEq, Int.reduceLT, Int.reduceLE, Int.reduceAdd, Int.reduceSub, Int.reduceMul, Int.reduceNeg, Int.reduceToNat, Int.reduceTDiv, Int.reduceTMod, ↓reduceIte, t2, t3, t35, t36, t5, t60, t61, t7, t8, k0, k1, bne, h1, h2, h3])
        | true =>
          cases h4 : (a.matte == f.matte) with
          | false =>
            simp only [h1, h2, h3, h4, Bool.true_and, Bool.and_true, Bool.false_and, Bool.and_false] at hP
            subst hP
            simp only [Bool.true_and, Bool.false_and] at hr
            try subst hr
            simp (maxSteps := 1000000) only [go_sem, Nat.reduceEqDiff, Nat.reduceAdd, Nat.reduceSub, Nat.reduceMul, Nat.reduceLT, Nat.reduceLeDiff, Int.reducePow, Int.reduceBEq, Int.reduceBNe, Int.reduceDiv, Int.reduceMod, Int.reduceEq, Int.reduceLT, Int.reduceLE, Int.reduceAdd, Int.reduceSub, Int.reduceMul, Int.reduceNeg, Int.reduceToNat, Int.reduceTDiv, Int.reduceTMod, ↓reduceIte, t2, t3, t35, t36, t5, t60, t61, t7, t8, k0, k1, bne, h1, h2, h3, h4]
            repeat ((first | refine (c2).x ?_ | refine (c3).x ?_ | refine drawnF ?_ (by decide +kernel) | refine drawnU [(9, 20), (10, 20), (11, 20), (12, 20), (13, 20), (14, 20), (15, 20), (16, 20), (17, 20)] (by decide +kernel) ?_ | refine drawnU [(1, 2)] (by decide +kernel) ?_); simp (maxSteps := 1000000) only [go_sem, Nat.reduceEqDiff, Nat.reduceAdd, Nat.reduceSub, Nat.reduceMul, Nat.reduceLT, Nat.reduceLeDiff, Int.reducePow, Int.reduceBEq, Int.reduceBNe, Int.reduceDiv, Int.reduceMod, Int.reduceEq, Int.reduceLT, Int.reduceLE, Int.reduceAdd, Int.reduceSub, Int.reduceMul, Int.reduceNeg, Int.reduceToNat, Int.reduceTDiv, Int.reduceTMod, ↓reduceIte, t2, t3, t35, t36, t5, t60, t61, t7, t8, k0, k1, bne, h1, h2, h3, h4])
          | true =>
            cases h5 : (a.in_ == f.in_) with
            | false =>
              simp only [h1, h2, h3, h4, h5, Bool.true_and, Bool.and_true, Bool.false_and, Bool.and_false] at hP
              subst hP
              simp only [Bool.true_and, Bool.false_and] at hr
              try subst hr
              simp (maxSteps := 1000000) only [go_sem, Nat.reduceEqDiff, Nat.reduceAdd, Nat.reduceSub, Nat.reduceMul, Nat.reduceLT, Nat.reduceLeDiff, Int.reducePow, Int.reduceBEq, Int.reduceBNe, Int.reduceDiv, Int.reduceMod, Int.reduceEq, Int.reduceLT, Int.reduceLE, Int.reduceAdd, Int.reduceSub, Int.reduceMul, Int.reduceNeg, Int.reduceToNat, Int.reduceTDiv, Int.reduceTMod, ↓reduceIte, t2, t3, t35, t36, t5, t60, t61, t7, t8, k0, k1, bne, h1, h2, h3, h4, h5]
              repeat ((first | refine (c2).x ?_ | refine (c3).x ?_ | refine drawnF ?_ (by decide +kernel) | refine drawnU [(9, 20), (10, 20), (11, 20), (12, 20), (13, 20), (14, 20), (15, 20), (16, 20), (17, 20)] (by decide +kernel) ?_ | refine drawnU [(1, 2)] (by decide +kernel) ?_); simp (maxSteps := 1000000) only [go_sem, Nat.reduceEqDiff, Nat.reduceAdd, Nat.reduceSub, Nat.reduceMul, Nat.reduceLT, Nat.reduceLeDiff, Int.reducePow, Int.reduceBEq, Int.reduceBNe, Int.reduceDiv, Int.reduceMod, Int.reduceEq, Int.reduceLT, Int.reduceLE, Int.reduceAdd, Int.reduceSub, Int.reduceMul, Int.reduceNeg, Int.reduceToNat, Int.reduceTDiv, Int.reduceTMod, ↓reduceIte, t2, t3, t35, t36, t5, t60, t61, t7, t8, k0, k1, bne, h1, h2, h3, h4, h5])
            | true =>
              cases h6 : (a.out == f.out) with
              | false =>
                simp only [h1, h2, h3, h4, h5, h6, Bool.true_and, Bool.and_true, Bool.false_and, Bool.and_false] at hP
                subst hP
                simp only [Bool.true_and, Bool.false_and] at hr
                try subst hr
                simp (maxSteps := 1000000) only [go_sem, Nat.reduceEqDiff, Nat.reduceAdd, Nat.reduceSub, Nat.reduceMul, Nat.reduceLT, Nat.reduceLeDiff, Int.reducePow, Int.reduceBEq, Int.reduceBNe, Int.reduceDiv, Int.reduceMod, Int.reduceEq, Int.reduceLT, Int.reduceLE, Int.reduceAdd, Int.reduceSub, Int.reduceMul, Int.reduceNeg, Int.reduceToNat, Int.reduceTDiv, Int.reduceTMod, ↓reduceIte, t2, t3, t35, t36, t5, t60, t61, t7, t8, k0, k1, bne, h1, h2, h3, h4, h5, h6]
                repeat ((first | refine (c2).x ?_ | refine (c3).x ?_ | refine drawnF ?_ (by decide +kernel) | refine drawnU [(9, 20), (10, 20), (11, 20), (12, 20), (13, 20), (14, 20), (15, 20), (16, 20), (17, 20)] (by decide +kernel) ?_ | refine drawnU [(1, 2)] (by decide +kernel) ?_); simp (maxSteps := 1000000) only [go_sem, Nat.reduceEqDiff, Nat.reduceAdd, Nat.reduceSub, Nat.reduceMul, Nat.reduceLT, Nat.reduceLeDiff, Int.reducePow, Int.reduceBEq, Int.reduceBNe, Int.reduceDiv, Int.reduceMod, Int.reduceEq, Int.reduceLT, Int.reduceLE, Int.reduceAdd, Int.reduceSub, Int.reduceMul, Int.reduceNeg, Int.reduceToNat, Int.reduceTDiv, Int.reduceTMod, ↓reduceIte, t2, t3, t35, t36, t5, t60, t61, t7, t8, k0, k1, bne, h1, h2, h3, h4, h5, h6])
              | true =>
                cases h7 : (a.start == f.start) with
                | false =>
                  simp only [h1, h2, h3, h4, h5, h6, h7, Bool.true_and, Bool.and_true, Bool.false_and, Bool.and_false] at hP
                  subst hP
                  simp only [Bool.true_and, Bool.false_and] at hr
                  try subst hr
                  simp (maxSteps := 1000000) only [go_sem, Nat.reduceEqDiff, Nat.reduceAdd, Nat.reduceSub, Nat.reduceMul, Nat.reduceLT, Nat.reduceLeDiff, Int.reducePow, Int.reduceBEq, Int.reduceBNe, Int.reduceDiv, Int.reduceMod, Int.reduceEq, Int.reduceLT, Int.reduceLE, Int.reduceAdd, Int.reduceSub, Int.reduceMul, Int.reduceNeg, Int.reduceToNat, Int.reduceTDiv, Int.reduceTMod, ↓reduceIte, t2, t3, t35, t36, t5, t60, t61, t7, t8, k0, k1, bne, h1, h2, h3, h4, h5, h6, h7]
                  repeat ((first | refine (c2).x ?_ | refine (c3).x ?_ | refine drawnF ?_ (by decide +kernel) | refine drawnU [(9, 20), (10, 20), (11, 20), (12, 20), (13, 20), (14, 20), (15, 20), (16, 20), (17, 20)] (by decide +kernel) ?_ | refine drawnU [(1, 2)] (by decide +kernel) ?_); simp (maxSteps := 1000000) only [go_sem, Nat.reduceEqDiff, Nat.reduceAdd, Nat.reduceSub, Nat.reduceMul, Nat.reduceLT, Nat.reduceLeDiff, Int.reducePow, Int.reduceBEq, Int.reduceBNe, Int.reduceDiv, Int.reduceMod, Int.reduceEq, Int.reduceLT, Int.reduceLE, Int.reduceAdd, Int.reduceSub, Int.reduceMul, Int.reduceNeg, Int.reduceToNat, Int.reduceTDiv, Int.reduceTMod, ↓reduceIte, t2, t3, t35, t36, t5, t60, t61, t7, t8, k0, k1, bne, h1, h2, h3, h4, h5, h6, h7])
                | true =>
                  cases h8 : P1 with
                  | false =>
                    simp only [h1, h2, h3, h4, h5, h6, h7, h8, Bool.true_and, Bool.and_true, Bool.false_and, Bool.and_false] at hP
                    subst hP
                    simp only [Bool.true_and, Bool.false_and] at hr
                    try subst hr
                    simp (maxSteps := 1000000) only [go_sem, Nat.reduceEqDiff, Nat.reduceAdd, Nat.reduceSub, Nat.reduceMul, Nat.reduceLT, Nat.reduceLeDiff, Int.reducePow, Int.reduceBEq, Int.reduceBNe, Int.reduceDiv, Int.reduceMod, Int.reduceEq, Int.reduceLT, Int.reduceLE, Int.reduceAdd, Int.reduceSub, Int.reduceMul, Int.reduceNeg, Int.reduceToNat, Int.reduceTDiv, Int.reduceTMod, ↓reduceIte, t2, t3, t35, t36, t5, t60, t61, t7, t8, k0, k1, bne, h1, h2, h3, h4, h5, h6, h7, h8]
                    repeat ((first | refine (c2).x ?_ | refine (c3).x ?_ | refine drawnF ?_ (by decide +kernel) | refine drawnU [(9, 20), (10, 20), (11, 20), (12, 20), (13, 20), (14, 20), (15, 20), (16, 20), (17, 20)] (by decide +kernel) ?_ | refine drawnU [(1, 2)] (by decide +kernel) ?_); simp (maxSteps := 1000000) only [go_sem, Nat.reduceEqDiff, Nat.reduceAdd, Nat.reduceSub, Nat.reduceMul, Nat.reduceLT, Nat.reduceLeDiff, Int.reducePow, Int.reduceBEq, Int.reduceBNe, Int.reduceDiv, Int.reduceMod, Int.reduceEq, Int.reduceLT, Int.reduceLE, Int.reduceAdd, Int.reduceSub, Int.reduceMul, Int.reduceNeg, Int.reduceToNat, Int.reduceTDiv, Int.reduceTMod, ↓reduceIte, t2, t3, t35, t36, t5, t60, t61, t7, t8, k0, k1, bne, h1, h2, h3, h4, h5, h6, h7, h8])
                  | true =>
                    cases h9 : P2 with
                    | false =>
                      simp only [h1, h2, h3, h4, h5, h6, h7, h8, h9, Bool.true_and, Bool.and_true, Bool.false_and, Bool.and_false] at hP
                      subst hP
                      simp only [Bool.true_and, Bool.false_and] at hr
                      try subst hr
                      simp (maxSteps := 1000000) only [go_sem, Nat.reduceEqDiff, Nat.reduceAdd, Nat.reduceSub, Nat.reduceMul, Nat.reduceLT, Nat.reduceLeDiff, Int.reducePow, Int.reduceBEq, Int.reduceBNe, Int.reduceDiv, Int.reduceMod, Int.reduceEq, Int.reduceLT, Int.reduceLE, Int.reduceAdd, Int.reduceSub, Int.reduceMul, Int.reduceNeg, Int.reduceToNat, Int.reduceTDiv, Int.reduceTMod, ↓reduceIte, t2, t3, t35, t36, t5, t60, t61, t7, t8, k0, k1, bne, h1, h2, h3, h4, h5, h6, h7, h8, h9]
                      repeat ((first | refine (c2).x ?_ | refine (c3).x ?_ | refine drawnF ?_ (by decide +kernel) | refine drawnU [(9, 20), (10, 20), (11, 20), (12, 20), (13, 20), (14, 20), (15, 20), (16, 20), (17, 20)] (by decide +kernel) ?_ | refine drawnU [(1, 2)] (by decide +kernel) ?_); simp (maxSteps := 1000000) only [go_sem, Nat.reduceEqDiff, Nat.reduceAdd, Nat.reduceSub, Nat.reduceMul, Nat.reduceLT, Nat.reduceLeDiff, Int.reducePow, Int.reduceBEq, Int.reduceBNe, Int.reduceDiv, Int.reduceMod, Int.reduceEq, Int.reduceLT, Int.reduceLE, Int.reduceAdd, Int.reduceSub, Int.reduceMul, Int.reduceNeg, Int.reduceToNat, Int.reduceTDiv, Int.reduceTMod, ↓reduceIte, t2, t3, t35, t36, t5, t60, t61, t7, t8, k0, k1, bne, h1, h2, h3, h4, h5, h6, h7, h8, h9])
                    | true =>
                      simp only [h1, h2, h3, h4, h5, h6, h7, h8, h9, Bool.true_and, Bool.and_true, Bool.false_and, Bool.and_false] at hP
                      subst hP
                      simp only [Bool.true_and, Bool.false_and] at hr
                      try subst hr
                      simp (maxSteps := 1000000) only [go_sem, Nat.reduceEqDiff, Nat.reduceAdd, Nat.reduceSub, Nat.reduceMul, Nat.reduceLT, Nat.reduceLeDiff, Int.reducePow, Int.reduceBEq, Int.reduceBNe, Int.reduceDiv, Int.reduceMod, Int.reduceEq, Int.reduceLT, Int.reduceLE, Int.reduceAdd, Int.reduceSub, Int.reduceMul, Int.reduceNeg, Int.reduceToNat, Int.reduceTDiv, Int.reduceTMod, ↓reduceIte, t2, t3, t35, t36, t5, t60, t61, t7, t8, k0, k1, bne, h1, h2, h3, h4, h5, h6, h7, h8, h9]
                      repeat ((first | refine (c2).x ?_ | refine (c3).x ?_ | refine drawnF ?_ (by decide +kernel) | refine drawnU [(9, 20), (10, 20), (11, 20), (12, 20), (13, 20), (14, 20), (15, 20), (16, 20), (17, 20)] (by decide +kernel) ?_ | refine drawnU [(1, 2)] (by decide +kernel) ?_); simp (maxSteps := 1000000) only [go_sem, Nat.reduceEqDiff, Nat.reduceAdd, Nat.reduceSub, Nat.reduceMul, Nat.reduceLT, Nat.reduceLeDiff, Int.reducePow, Int.reduceBEq, Int.reduceBNe, Int.reduceDiv, Int.reduceMod, Int.reduceEq, Int.reduceLT, Int.reduceLE, Int.reduceAdd, Int.reduceSub, Int.reduceMul, Int.reduceNeg, Int.reduceToNat, Int.reduceTDiv, Int.reduceTMod, ↓reduceIte, t2, t3, t35, t36, t5, t60, t61, t7, t8, k0, k1, bne, h1, h2, h3, h4, h5, h6, h7, h8, h9])
  clear t2 t3 t35 t36 t5 t60 t61 t7 t8 c2 c3
  rintro T J D ⟨rfl, rfl, t2, t3, t35, t36, t5, t60, t61, t7, t8, hPt⟩
  rw [hPt, Bool.true_and] at hr
  (refine sg trivial ?_; try exact ⟨⟩)
  have hdr : True := trivial
  first | refine drawnF ?_ (by decide +kernel) | refine drawnU [(1, 2)] (by decide +kernel) ?_
  (refine sg (et t2 (et t3 (et t35 (et t36 (et t5 (et t60 (et t61 (et t7 (et t8 (et k0 k1)))))))))) ?_; try exact ⟨⟩)
  refine (rkeysR_ a v0 v1 v2 v3 v4 v5 v6 v7 v8 pm vw vh vp vc vd vda vf vt J (hLV.old hO2)).x ?_
  rintro v H1 W1 ⟨rfl, ⟨M, rfl⟩, hRa⟩
  have o3 : Old J (J ++ M) := Old.app' _ _
  (refine sg (et t2 (et t3 (et t35 (et t36 (et t5 (et t60 (et t61 (et t7 (et t8 (et (old_get k0) (old_get k1))))))))))) ?_; try exact ⟨⟩)
  refine (rkeysR_ f w0 w1 w2 w3 w4 w5 w6 w7 w8 qm ww wh wp wc wd wda wf wt _ ((hLW.old hO2).old o3)).x ?_
  rintro w H1 W1 ⟨rfl, ⟨M', rfl⟩, hRb⟩
  have o4 : Old (J ++ M) (J ++ M ++ M') := Old.app' _ _
  have hRa := hRa.old KsE.m o4
  have hO5 : Old K (J ++ M ++ M') := ((hold2.trans o2).trans o3).trans o4
  have hl5 : K.length ≤ (J ++ M ++ M').length := by rw [List.length_append, List.length_append]; omega
  obtain ⟨ra, re, hrf⟩ := hRa.form
  subst hrf
  obtain ⟨sa, se, hsf⟩ := hRb.form
  subst hsf
  have ll : a.keys.length = 9 := rfl
  have lm : f.keys.length = 9 := rfl
  rw [ll] at hRa
  rw [lm] at hRb
  (refine sg (et ll lm) ?_; try exact ⟨⟩)
  generalize J ++ M ++ M' = V at *
  refine keep (fun r T K' D => D = [] ∧ K' = V ∧ ∃ n : Nat, n + r = 9 ∧ T 2 = ap H.length 0 0 ∧ T 3 = ap (H.length + 1) 0 0 ∧ T 35 = .int .i64 (x.comps.length : Int) ∧ T 36 = .int .i64 (i : Int) ∧ T 5 = .int .i64 (i : Int) ∧ T 60 = .int .i64 (c.length : Int) ∧ T 61 = .int .i64 (j : Int) ∧ T 9 = .slice ra 9 re ∧ T 10 = .slice sa 9 se ∧ T 150 = .int .i64 9 ∧ T 151 = .int .i64 (n : Int) ∧ (eqG (eqG kyQ) (a.keys.drop n) (f.keys.drop n) && R) = q) 9
    ⟨rfl, rfl, 0, by omega, by (refine sg t2 ?_; try exact ⟨⟩), by (refine sg t3 ?_; try exact ⟨⟩), by (refine sg t35 ?_; try exact ⟨⟩), by (refine sg t36 ?_; try exact ⟨⟩), by (refine sg t5 ?_; try exact ⟨⟩), by (refine sg t60 ?_; try exact ⟨⟩), by (refine sg t61 ?_; try exact ⟨⟩), by (refine sg trivial ?_; try exact ⟨⟩), by (refine sg trivial ?_; try exact ⟨⟩), by (refine sg trivial ?_; try exact ⟨⟩), by (refine sg trivial ?_; try exact ⟨⟩) <;> rfl, hr⟩ ?_
  clear hr t2 t3 t35 t36 t5 t60 t61 t7 t8
  rintro r3 T K3 D ⟨rfl, rfl, n, hnr, t2, t3, t35, t36, t5, t60, t61, t9, t10, t150, t151, hr⟩
  by_cases hn : n < 9
  case neg =>
    rw [List.drop_eq_nil_of_le (by omega), List.drop_eq_nil_of_le (by omega)] at hr
    have hr : (true && R) = q := hr
    rw [Bool.true_and] at hr
    (refine sg (et t2 (et t3 (et t35 (et t36 (et t5 (et t60 (et t61 (et t9 (et t10 (et t150 (et t151 (et (df (show ¬ (n : Int) < 9 by omega)) j1)))))))))))) ?_; try exact ⟨⟩)
    exact ⟨r2 - 1, by omega, j + 1, by omega, hO5, hl5, rfl, by rw [hR]; exact hr⟩
  obtain ⟨ka, hka⟩ : ∃ ka, a.keys[n]? = some ka := ⟨_, List.getElem?_eq_getElem (by omega)⟩
  obtain ⟨kf, hkf⟩ : ∃ kf, f.keys[n]? = some kf := ⟨_, List.getElem?_eq_getElem (by omega)⟩
  obtain ⟨b5, g5, cells5, rw5, c5, hve5, hb5, ⟨kv, hc5, hkv⟩, hcl5, hle5, hld5, hgt5⟩ := hRa.at hka
  subst hc5
  obtain ⟨b6, g6, cells6, rw6, c6, hve6, hb6, ⟨kw, hc6, hkw⟩, hcl6, hle6, hld6, hgt6⟩ := hRb.at hkf
  subst hc6
  have hg5 := hgt5 0 (by omega)
  have hg6 := hgt6 0 (by omega)
  rw [Nat.mul_one, Nat.add_zero] at hg5 hg6
  have hg5 : cells5[n]? = some kv := hg5
  have hg6 : cells6[n]? = some kw := hg6
  rw [hve5] at t9
  rw [hve6] at t10
  rw [ll] at t9
  rw [lm] at t10
  rw [drop_at hka, drop_at hkf, eqG] at hr
  have n1 : IntKind.i64.wrap ((n : Int) + 1) = ((n + 1 : Nat) : Int) := by rw [wi (by omega) (by omega)]; rfl
  have z0 : (0 : Int) ≤ (n : Int) := by omega
  have z1 : (n : Int) < 9 := by omega
  have z2 : (n : Int) < ((9 : Nat) : Int) := by omega
  have c1 := rskeys_ ka kf kv kw K3 hkv hkw
  cases h1 : eqG kyQ ka kf
  all_goals
    rw [h1] at c1
    simp only [h1, Bool.true_and, Bool.false_and] at hr
    (refine sg (et t2 (et t3 (et t35 (et t36 (et t5 (et t60 (et t61 (et t9 (et t10 (et t150 (et t151 (dt z1)))))))))))) ?_; try exact ⟨⟩)
    repeat ((first | refine (c1).x ?_ | refine drawnF ?_ (by decide +kernel) | refine drawnU [(9, 20), (10, 20), (11, 20), (12, 20), (13, 20), (14, 20), (15, 20), (16, 20), (17, 20)] (by decide +kernel) ?_ | refine drawnU [(1, 2)] (by decide +kernel) ?_); (refine sg (et t2 (et t3 (et t35 (et t36 (et t5 (et t60 (et t61 (et t9 (et t10 (et t150 (et t151 (et z0 (et z1 (et z2 (et Int.toNat_natCast (et Nat.zero_add (et Nat.mul_one (et hb5 (et hb6 (et hg5 (et hg6 n1))))))))))))))))))))) ?_; try exact ⟨⟩))
    first | (subst hr; done) | (rw [← hr]; done) | exact ⟨r3 - 1, by omega, n + 1, by omega, hve5.symm, hve6.symm, rfl, hr⟩
end Go.Proofs.YtnebnbdeobcegaaGreat
