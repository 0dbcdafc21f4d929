/- Merged texts: Ref4 Ref5 Ref6 DocH DocI. -/
import Derived.Test.YtnebnbdeobcegaaGreatZU
/- Documents: the walks of what the document's own answer judges: where layers stand. -/
namespace Go.Proofs.YtnebnbdeobcegaaGreat
open Go Go.RowKit E
attribute [local irreducible] XRun XOps XCode XCal XLoop XQ SemCall
set_option linter.unusedSimpArgs false
set_option linter.unusedVariables false
theorem ringsB_own {ps : List Int} {k : Nat} (hk : ps[k]? = some (k : Int)) : ringsB ps k = true := by
  have hl := (List.getElem?_eq_some_iff.1 hk).1
  unfold ringsB
  rw [hk]
  obtain ⟨n, hn⟩ : ∃ n, ps.length = n + 1 := ⟨ps.length - 1, by omega⟩
  rw [hn]
  show ringGo ps k (n + 1) k = true
  rw [ringGo, if_pos rfl]
def treeA (c : List Ly) (k : Nat) (l : Ly) : Bool := decide (-1 ≤ l.parent) && (decide (l.parent < (c.length : Int)) && !(l.parent == (k : Int)))
theorem treeB_A {cs : List (List Ly)} {n k : Nat} {c : List Ly} {l : Ly} (hk : c[k]? = some l) (h : treeA c k l = false) : treeB cs n k c l = false := by
  unfold treeA at h
  unfold treeB
  by_cases e1 : l.parent = (k : Int)
  · rw [ringsB_own (by rw [parents_at hk, e1]), Bool.or_true]; rfl
  · rw [bf e1, Bool.not_false, Bool.and_true] at h
    have : (((l.parent != -1) && !(decide (0 ≤ l.parent) && decide (l.parent < (c.length : Int)))) = true) := by
      by_cases e2 : -1 ≤ l.parent
      · rw [dt e2, Bool.true_and] at h
        have e3 := of_decide_eq_false h
        rw [nf (show ¬ l.parent = -1 by omega), df e3, Bool.and_false]; rfl
      · rw [nf (show ¬ l.parent = -1 by omega), df (show ¬ 0 ≤ l.parent by omega), Bool.false_and]; rfl
    rw [this]; rfl
theorem treeB_ring {cs : List (List Ly)} {n k : Nat} {c : List Ly} {l : Ly} (h : ringsB (Ly.parents c) k = true) : treeB cs n k c l = false := by
  unfold treeB
  rw [h, Bool.or_true]; rfl
theorem treeB_R {cs : List (List Ly)} {n k : Nat} {c : List Ly} {l : Ly} (h : treeA c k l = true) (hr : ringsB (Ly.parents c) k = false) : treeB cs n k c l = (!((l.matte != 0) && (((k : Int) == 0) || (((c[k - 1]?).elim 0 (·.matte)) != 0))) && (!(l.kind == 1) || (decide ((n : Int) < l.comp) && decide (l.comp < (cs.length : Int))))) := by
  unfold treeA at h
  simp only [Bool.and_eq_true, decide_eq_true_eq] at h
  unfold treeB
  have e1 : ((l.parent != -1) && !(decide (0 ≤ l.parent) && decide (l.parent < (c.length : Int)))) = false := by
    by_cases e : l.parent = -1
    · rw [nt e]; rfl
    · rw [dt (show 0 ≤ l.parent by omega), dt h.2.1]; simp
  rw [e1, hr]
  have e2 : ((decide (0 ≤ l.comp) && decide (l.comp < (cs.length : Int))) && decide ((n : Int) < l.comp)) = (decide ((n : Int) < l.comp) && decide (l.comp < (cs.length : Int))) := by
    by_cases e : (n : Int) < l.comp
    · rw [dt e, dt (show 0 ≤ l.comp by omega)]; simp
    · rw [df e]; simp
  rw [e2]; rfl
set_option maxRecDepth 100000 in
set_option maxHeartbeats 8000000 in
theorem rtree18_ (d : Dc) (v : Value) (n k : Nat) (c : List Ly) (l : Ly) (hn : d.comps[n]? = some c) (hk : c[k]? = some l) (H : AH) (h : Cos H v d.comps) : SemCall Tryz.prog 29 [dcV d v, .int .i64 (n : Int), .int .i64 (k : Int)] H (.bool (treeB d.comps n k c l)) H [] := by
  refine pure_of ?_ rfl
  have hlen := h.len
  have hnl := (List.getElem?_eq_some_iff.1 hn).1
  have hkl := (List.getElem?_eq_some_iff.1 hk).1
  obtain ⟨b, g, cells, rw_, cs, hve, hb, ⟨w, rfl, hw⟩, hcl, hle, hld, hgt⟩ := h.at hn
  have hwlen := hw.len
  subst hve
  obtain ⟨b2, g2, cells2, rw2, cs2, hwe, hb2, hLy, hcl2, hle2, hld2, hgt2⟩ := hw.at hk
  obtain ⟨v0, v1, v2, v3, v4, v5, v6, v7, v8, pm, vw, vh, vp, vc, vd, vda, vf, vt, rfl, hLV, hSV⟩ := hLy
  subst hwe
  have hg := hgt 0 (by omega)
  rw [Nat.mul_one, Nat.add_zero] at hg
  have hg : cells[n]? = some (sl b2 0 g2 c.length 50) := hg
  obtain ⟨Q, hQ⟩ : ∃ Q, treeB d.comps n k c l = Q := ⟨_, rfl⟩
  rw [hQ]
  have q0 : ∀ n : Nat, (0 : Int) ≤ (n : Int) := fun n => by omega
  have q1 : (n : Int) < (d.comps.length : Int) := by omega
  have q2 : (k : Int) < (c.length : Int) := by omega
  have hbl := (List.getElem?_eq_some_iff.1 hb).1
  have hbl2 := (List.getElem?_eq_some_iff.1 hb2).1
  refine XCal.of hm Tryz.func29 rfl (fun xs w => Tryz.call29 xs w) Tryz.ntmps29 Tryz.results29 rfl ?_
  refine wcode_cut (fun T K D => D = [] ∧ Old H K ∧ T 1 = .int .i64 (n : Int) ∧ T 2 = .int .i64 (k : Int) ∧ T 3 = ap H.length 0 0 ∧ K[H.length]? = some ⟨[.int .i64 d.in_, .int .i64 d.out, sl b 0 g d.comps.length 1], 0, true⟩ ∧ H.length + 1 ≤ K.length) ?_ ?_
  · (refine sg trivial ?_; try exact ⟨⟩)
    exact ⟨Old.app' _ _, Nat.le_refl _⟩
  rintro T K D ⟨rfl, o, t1, t2, t3, g0, hKl⟩
  have kd : ∀ n, decide (K.length + n < H.length) = false := fun n => df (by omega)
  have kd0 : decide (K.length < H.length) = false := df (by omega)
  have kb := o _ _ hb
  have kb2 := o _ _ hb2
  have hK' : ∀ X : Blk, (K ++ [X])[K.length]? = some X := fun X => by rw [hget_app0]; rfl
  have hO' : ∀ X : Blk, Old K (K ++ [X]) := fun X => Old.app' _ _
  refine wcode_cut (fun T K2 D => D = [] ∧ K = K2 ∧ T 1 = .int .i64 (n : Int) ∧ T 2 = .int .i64 (k : Int) ∧ T 3 = ap H.length 0 0 ∧ T 7 = sl b2 0 g2 c.length 50) ?_ ?_
  · (refine sg (et t1 (et t2 (et t3 (et g0 (et q0 (et q1 (et Int.toNat_natCast (et Nat.zero_add (et Nat.add_zero (et Nat.mul_one (et kb hg))))))))))) ?_; try exact ⟨⟩)
  clear t1 t2 t3
  rintro T K2 D ⟨rfl, rfl, t1, t2, t3, t7⟩
  refine wcode_cut (fun T K2 D => D = [] ∧ K = K2 ∧ T 1 = .int .i64 (n : Int) ∧ T 2 = .int .i64 (k : Int) ∧ T 3 = ap H.length 0 0 ∧ T 7 = sl b2 0 g2 c.length 50 ∧ T 8 = .int .i64 (c.length : Int)) ?_ ?_
  · (refine sg (et t1 (et t2 (et t3 t7))) ?_; try exact ⟨⟩)
  clear t1 t2 t3 t7
  rintro T K2 D ⟨rfl, rfl, t1, t2, t3, t7, t8⟩
  refine wcode_cut (fun T K2 D => D = [] ∧ K2 = K ++ [⟨lyVs l v0 v1 v2 v3 v4 v5 v6 v7 v8 pm vw vh vp vc vd vda vf vt, 0, true⟩] ∧ T 1 = .int .i64 (n : Int) ∧ T 2 = .int .i64 (k : Int) ∧ T 3 = ap H.length 0 0 ∧ T 7 = sl b2 0 g2 c.length 50 ∧ T 8 = .int .i64 (c.length : Int) ∧ T 9 = ap K.length 0 0) ?_ ?_
  · (refine sg (et t1 (et t2 (et t3 (et t7 (et t8 (et q0 (et q2 (et Int.toNat_natCast (et Nat.zero_add (et kb2 (et hld2 kd0))))))))))) ?_; try exact ⟨⟩)
  clear t1 t2 t3 t7 t8
  rintro T V D ⟨rfl, hV, t1, t2, t3, t7, t8, t9⟩
  have k9 := hK' ⟨lyVs l v0 v1 v2 v3 v4 v5 v6 v7 v8 pm vw vh vp vc vd vda vf vt, 0, true⟩
  have o9 := hO' ⟨lyVs l v0 v1 v2 v3 v4 v5 v6 v7 v8 pm vw vh vp vc vd vda vf vt, 0, true⟩
  rw [← hV] at k9 o9
  have g0 := o9 _ _ g0
  have kb := o9 _ _ kb
  have kb2 := o9 _ _ kb2
  clear hK' hO' hV
  refine wcode_cut (fun T K2 D => D = [] ∧ V = K2 ∧ T 1 = .int .i64 (n : Int) ∧ T 2 = .int .i64 (k : Int) ∧ T 3 = ap H.length 0 0 ∧ T 7 = sl b2 0 g2 c.length 50 ∧ T 8 = .int .i64 (c.length : Int) ∧ T 9 = ap K.length 0 0 ∧ treeA c k l = true) ?_ ?_
  · cases hA : treeA c k l
    · have := treeB_A (cs := d.comps) (n := n) hk hA
      rw [this] at hQ
      subst hQ
      unfold treeA at hA
      by_cases e1 : l.parent < -1
      · (refine sg (et t1 (et t2 (et t3 (et t7 (et t8 (et t9 (et k9 (dt e1)))))))) ?_; try exact ⟨⟩)
      · rw [dt (show -1 ≤ l.parent by omega), Bool.true_and] at hA
        by_cases e2 : (c.length : Int) ≤ l.parent
        · (refine sg (et t1 (et t2 (et t3 (et t7 (et t8 (et t9 (et k9 (et (df e1) (dt e2))))))))) ?_; try exact ⟨⟩)
        · rw [dt (show l.parent < (c.length : Int) by omega), Bool.true_and] at hA
          have e3 : l.parent = (k : Int) := by simpa using hA
          (refine sg (et t1 (et t2 (et t3 (et t7 (et t8 (et t9 (et k9 (et (df e1) (et (df e2) (bt e3)))))))))) ?_; try exact ⟨⟩)
    · unfold treeA at hA
      simp only [Bool.and_eq_true, decide_eq_true_eq, Bool.not_eq_true', beq_eq_false_iff_ne, ne_eq] at hA
      obtain ⟨e1, e2, e3⟩ := hA
      (refine sg (et t1 (et t2 (et t3 (et t7 (et t8 (et t9 (et k9 (et (df (show ¬ l.parent < -1 by omega)) (et (df (show ¬ (c.length : Int) ≤ l.parent by omega)) (bf e3)))))))))) ?_; try exact ⟨⟩)
  clear t1 t2 t3 t7 t8 t9
  rintro T K2 D ⟨rfl, rfl, t1, t2, t3, t7, t8, t9, hA⟩
  have hrB : ringsB (Ly.parents c) k = ringGo (Ly.parents c) k c.length l.parent := by unfold ringsB; rw [parents_at hk, parents_len]; rfl
  refine wcode_cut (fun T K2 D => D = [] ∧ V = K2 ∧ T 1 = .int .i64 (n : Int) ∧ T 2 = .int .i64 (k : Int) ∧ T 3 = ap H.length 0 0 ∧ T 7 = sl b2 0 g2 c.length 50 ∧ T 8 = .int .i64 (c.length : Int) ∧ T 9 = ap K.length 0 0 ∧ T 10 = .int .i64 (k : Int)) ?_ ?_
  · (refine sg (et t1 (et t2 (et t3 (et t7 (et t8 t9))))) ?_; try exact ⟨⟩)
  clear t1 t2 t3 t7 t8 t9
  rintro T K2 D ⟨rfl, rfl, t1, t2, t3, t7, t8, t9, t10⟩
  refine wcode_cut (fun T K2 D => D = [] ∧ V = K2 ∧ T 1 = .int .i64 (n : Int) ∧ T 2 = .int .i64 (k : Int) ∧ T 3 = ap H.length 0 0 ∧ T 7 = sl b2 0 g2 c.length 50 ∧ T 8 = .int .i64 (c.length : Int) ∧ T 9 = ap K.length 0 0 ∧ ringsB (Ly.parents c) k = false) ?_ ?_
  · (refine sg (et t1 (et t2 (et t3 (et t7 (et t8 (et t9 t10)))))) ?_; try exact ⟨⟩)
    refine keep (fun r T K2 D => D = [] ∧ V = K2 ∧ T 1 = .int .i64 (n : Int) ∧ T 2 = .int .i64 (k : Int) ∧ T 3 = ap H.length 0 0 ∧ T 7 = sl b2 0 g2 c.length 50 ∧ T 8 = .int .i64 (c.length : Int) ∧ T 9 = ap K.length 0 0 ∧ ∃ (i m : Nat) (y : Ly), i + r = c.length ∧ c[m]? = some y ∧ T 10 = .int .i64 (m : Int) ∧ T 11 = .int .i64 (i : Int) ∧ ringsB (Ly.parents c) k = ringGo (Ly.parents c) k r y.parent) c.length
      ⟨rfl, rfl, by (refine sg t1 ?_; try exact ⟨⟩), by (refine sg t2 ?_; try exact ⟨⟩), by (refine sg t3 ?_; try exact ⟨⟩), by (refine sg t7 ?_; try exact ⟨⟩), by (refine sg t8 ?_; try exact ⟨⟩), by (refine sg t9 ?_; try exact ⟨⟩), 0, k, l, by omega, hk, by (refine sg t10 ?_; try exact ⟨⟩), by (refine sg trivial ?_; try exact ⟨⟩) <;> rfl, hrB⟩ ?_
    clear t1 t2 t3 t7 t8 t9 t10
    rintro r T K2 D ⟨rfl, rfl, t1, t2, t3, t7, t8, t9, i, m, y, hir, hmy, t10, t11, hr⟩
    by_cases hi : i < c.length
    · obtain ⟨r', rfl⟩ : ∃ r', r = r' + 1 := ⟨r - 1, by omega⟩
      have hml := (List.getElem?_eq_some_iff.1 hmy).1
      obtain ⟨b', g', cells', rw', hve', hb', hcp', _⟩ := lys_cell hw hmy
      cases hve'
      rw [hb2] at hb'
      cases hb'
      have q3 : (m : Int) < (c.length : Int) := by omega
      have w1 : IntKind.i64.wrap ((i : Int) + 1) = ((i + 1 : Nat) : Int) := by rw [wi (by omega) (by omega)]; rfl
      rw [ringGo, parents_len] at hr
      by_cases a1 : y.parent < 0
      · rw [if_neg (by omega), if_neg (by omega)] at hr
        (refine sg (et t1 (et t2 (et t3 (et t7 (et t8 (et t9 (et t10 (et t11 (et (dt (show (i : Int) < (c.length : Int) by omega)) (et q0 (et q3 (et Int.toNat_natCast (et Nat.zero_add (et kb2 (et hcp' (et (dt a1) (show ((0 : Nat) == 1) = false from rfl))))))))))))))))) ?_; try exact ⟨⟩)
        exact hr
      · by_cases a2 : (c.length : Int) ≤ y.parent
        · rw [if_neg (by omega), if_neg (by omega)] at hr
          (refine sg (et t1 (et t2 (et t3 (et t7 (et t8 (et t9 (et t10 (et t11 (et (dt (show (i : Int) < (c.length : Int) by omega)) (et q0 (et q3 (et Int.toNat_natCast (et Nat.zero_add (et kb2 (et hcp' (et (df a1) (et (dt a2) (show ((0 : Nat) == 1) = false from rfl)))))))))))))))))) ?_; try exact ⟨⟩)
          exact hr
        · by_cases a3 : y.parent = (k : Int)
          · rw [if_pos a3] at hr
            rw [treeB_ring hr] at hQ
            subst hQ
            (refine sg (et t1 (et t2 (et t3 (et t7 (et t8 (et t9 (et t10 (et t11 (et (dt (show (i : Int) < (c.length : Int) by omega)) (et q0 (et q3 (et Int.toNat_natCast (et Nat.zero_add (et kb2 (et hcp' (et (df a1) (et (df a2) (bt a3)))))))))))))))))) ?_; try exact ⟨⟩)
          · rw [if_neg a3, if_pos (by omega)] at hr
            obtain ⟨m', hm'⟩ : ∃ m' : Nat, y.parent = (m' : Int) := ⟨y.parent.toNat, by omega⟩
            obtain ⟨y', hy'⟩ : ∃ y', c[m']? = some y' := ⟨_, List.getElem?_eq_getElem (by omega)⟩
            rw [hm', Int.toNat_natCast, parents_at hy'] at hr
            (refine sg (et t1 (et t2 (et t3 (et t7 (et t8 (et t9 (et t10 (et t11 (et (dt (show (i : Int) < (c.length : Int) by omega)) (et q0 (et q3 (et Int.toNat_natCast (et Nat.zero_add (et kb2 (et hcp' (et (df a1) (et (df a2) (et (bf a3) w1)))))))))))))))))) ?_; try exact ⟨⟩)
            exact ⟨r', by omega, i + 1, m', y', by omega, hy', by rw [hm'], rfl, hr⟩
    · have hr0 : r = 0 := by omega
      subst hr0
      (refine sg (et t1 (et t2 (et t3 (et t7 (et t8 (et t9 (et t10 (et t11 (df (show ¬ (i : Int) < (c.length : Int) by omega)))))))))) ?_; try exact ⟨⟩)
      exact hr
  clear t1 t2 t3 t7 t8 t9 t10
  rintro T K2 D ⟨rfl, rfl, t1, t2, t3, t7, t8, t9, hR⟩
  rw [treeB_R hA hR] at hQ
  refine wcode_cut (fun T K2 D => D = [] ∧ V = K2 ∧ T 1 = .int .i64 (n : Int) ∧ T 2 = .int .i64 (k : Int) ∧ T 3 = ap H.length 0 0 ∧ T 9 = ap K.length 0 0 ∧ (!(l.kind == 1) || (decide ((n : Int) < l.comp) && decide (l.comp < (d.comps.length : Int)))) = Q) ?_ ?_
  · generalize (!(l.kind == 1) || (decide ((n : Int) < l.comp) && decide (l.comp < (d.comps.length : Int)))) = R at *
    by_cases m0 : l.matte = 0
    · rw [nt m0, Bool.false_and, Bool.not_false, Bool.true_and] at hQ
      (refine sg (et t1 (et t2 (et t3 (et t7 (et t8 (et t9 (et k9 (et (nt m0) hQ)))))))) ?_; try exact ⟨⟩)
    · rw [nf m0, Bool.true_and] at hQ
      by_cases k0 : k = 0
      · rw [bt (show (k : Int) = 0 by omega), Bool.true_or, Bool.not_true, Bool.false_and] at hQ
        subst hQ
        (refine sg (et t1 (et t2 (et t3 (et t7 (et t8 (et t9 (et k9 (et (nf m0) (bt (show (k : Int) = 0 by omega)))))))))) ?_; try exact ⟨⟩)
      · obtain ⟨y, hy⟩ : ∃ y, c[k - 1]? = some y := ⟨_, List.getElem?_eq_getElem (by omega)⟩
        obtain ⟨b', g', cells', rw', hve', hb', _, hcm⟩ := lys_cell hw hy
        cases hve'
        rw [hb2] at hb'
        cases hb'
        rw [bf (show ¬ (k : Int) = 0 by omega), Bool.false_or, hy] at hQ
        have wm : IntKind.i64.wrap ((k : Int) - 1) = ((k - 1 : Nat) : Int) := by rw [wi (by omega) (by omega)]; omega
        have q3 : ((k - 1 : Nat) : Int) < (c.length : Int) := by omega
        have hQ : (!(y.matte != 0) && R) = Q := hQ
        cases hy0 : (y.matte != 0)
        all_goals
          rw [hy0] at hQ
          simp only [Bool.not_true, Bool.not_false, Bool.true_and, Bool.false_and] at hQ
          try subst hQ
          (refine sg (et t1 (et t2 (et t3 (et t7 (et t8 (et t9 (et k9 (et (nf m0) (et (bf (show ¬ (k : Int) = 0 by omega)) (et wm (et q0 (et q3 (et Int.toNat_natCast (et Nat.zero_add (et kb2 (et hcm hy0)))))))))))))))) ?_; try exact ⟨⟩)
  clear t1 t2 t3 t7 t8 t9 hQ
  rintro T K2 D ⟨rfl, rfl, t1, t2, t3, t9, hQ⟩
  by_cases kk : l.kind = 1
  · rw [bt kk, Bool.not_true, Bool.false_or] at hQ
    cases h1 : decide ((n : Int) < l.comp) with
    | false =>
      simp only [h1, Bool.true_and, Bool.false_and] at hQ
      subst hQ
      (refine sg (et t1 (et t2 (et t3 (et t9 (et k9 (et g0 (et (nt kk) h1))))))) ?_; try exact ⟨⟩)
    | true =>
      cases h2 : decide (l.comp < (d.comps.length : Int)) with
      | false =>
        simp only [h1, h2, Bool.true_and, Bool.false_and] at hQ
        subst hQ
        (refine sg (et t1 (et t2 (et t3 (et t9 (et k9 (et g0 (et (nt kk) (et h1 h2)))))))) ?_; try exact ⟨⟩)
      | true =>
        simp only [h1, h2, Bool.true_and, Bool.false_and] at hQ
        subst hQ
        (refine sg (et t1 (et t2 (et t3 (et t9 (et k9 (et g0 (et (nt kk) (et h1 h2)))))))) ?_; try exact ⟨⟩)
  · rw [bf kk] at hQ
    have hQ : true = Q := by rw [← hQ]; rfl
    subst hQ
    (refine sg (et t1 (et t2 (et t3 (et t9 (et k9 (et g0 (nf kk))))))) ?_; try exact ⟨⟩)
end Go.Proofs.YtnebnbdeobcegaaGreat
/- Documents: the walks of what the document's own answer counts. -/
namespace Go.Proofs.YtnebnbdeobcegaaGreat
open Go Go.RowKit E
attribute [local irreducible] XRun XOps XCode XCal XLoop XQ SemCall
set_option linter.unusedSimpArgs false
set_option linter.unusedVariables false
/-- Where the two rows of numbers are that are reckoned. -/
structure SzK (H K : AH) (dc : List Value) (c1 c2 : List Int) : Prop where
  old : Old H K
  len : H.length + 3 ≤ K.length
  doc : K[H.length]? = some ⟨dc, 0, true⟩
  a : K[H.length + 1]? = some ⟨intC c1, 0, true⟩
  b : K[H.length + 2]? = some ⟨intC c2, 0, true⟩
theorem SzK.app {H K : AH} {dc : List Value} {c1 c2 : List Int} (h : SzK H K dc c1 c2) (L : AH) : SzK H (K ++ L) dc c1 c2 :=
  ⟨h.old.app L, by have := h.len; rw [List.length_append]; omega, old_get h.doc L, old_get h.a L, old_get h.b L⟩
theorem SzK.setA {H K : AH} {dc : List Value} {c1 c2 : List Int} (h : SzK H K dc c1 c2) (e : List Int) : SzK H (K.set (H.length + 1) ⟨intC e, 0, true⟩) dc e c2 := by
  have hl := h.len
  refine ⟨fun c k hk => ?_, by rw [List.length_set]; exact hl, by rw [List.getElem?_set_ne (by omega)]; exact h.doc, List.getElem?_set_self (by omega), by rw [List.getElem?_set_ne (by omega)]; exact h.b⟩
  have := (List.getElem?_eq_some_iff.1 hk).1
  rw [List.getElem?_set_ne (by omega)]; exact h.old _ _ hk
theorem SzK.setB {H K : AH} {dc : List Value} {c1 c2 : List Int} (h : SzK H K dc c1 c2) (e : List Int) : SzK H (K.set (H.length + 2) ⟨intC e, 0, true⟩) dc c1 e := by
  have hl := h.len
  refine ⟨fun c k hk => ?_, by rw [List.length_set]; exact hl, by rw [List.getElem?_set_ne (by omega)]; exact h.doc, by rw [List.getElem?_set_ne (by omega)]; exact h.a, List.getElem?_set_self (by omega)⟩
  have := (List.getElem?_eq_some_iff.1 hk).1
  rw [List.getElem?_set_ne (by omega)]; exact h.old _ _ hk
theorem set_own {α : Type} {l : List α} {i : Nat} {x : α} (h : l[i]? = some x) : l.set i x = l := by
  obtain ⟨hi, rfl⟩ := List.getElem?_eq_some_iff.1 h
  exact List.set_getElem_self hi
set_option maxRecDepth 100000 in
set_option maxHeartbeats 8000000 in
theorem rsizes_ (d : Dc) (v : Value) (H : AH) (h : Cos H v d.comps) (hN : d.comps.length ≤ 1000) :
    Cal Tryz.prog 45 [dcV d v] H fun v' H' W => W = [] ∧ (∃ L, H' = H ++ L) ∧ ∃ b1 b2, v' = .tuple #[sl b1 0 0 d.comps.length 1, sl b2 0 0 d.comps.length 1] ∧ H'[b1]? = some ⟨intC (cntGo nodF 0 0 d.comps), 0, true⟩ ∧ H'[b2]? = some ⟨intC (cntGo depF 1 0 d.comps), 0, true⟩ := by
  refine adds_of ?_
  obtain ⟨va, ve, hv⟩ := h.form
  subst hv
  have w0 : IntKind.i64.wrap ((d.comps.length : Int) - 1) = (d.comps.length : Int) - 1 := wi (by omega) (by omega)
  have kdH : ∀ n, decide (H.length + n < H.length) = false := fun n => df (by omega)
  have kdH0 : decide (H.length < H.length) = false := df (by omega)
  refine XCal.of hm Tryz.func45 rfl (fun xs w => Tryz.call45 xs w) Tryz.ntmps45 Tryz.results45 rfl ?_
  (refine sg (et (damkI d.comps.length hN) w0) ?_; try exact ⟨⟩)
  first | refine drawnF ?_ (by decide +kernel) | refine drawnU [] (by decide +kernel) ?_
  (refine sg (et (damkI d.comps.length hN) (et w0 (et kdH kdH0))) ?_; try exact ⟨⟩)
  refine keep (fun r T K D => D = [] ∧ r ≤ d.comps.length ∧ ∃ c1 c2 : List Int, c1.length = d.comps.length ∧ c2.length = d.comps.length ∧ c1.drop r = cntGo nodF 0 r (d.comps.drop r) ∧ c2.drop r = cntGo depF 1 r (d.comps.drop r) ∧ (∀ j, j < r → c1[j]? = some 0 ∧ c2[j]? = some 0) ∧ SzK H K [.int .i64 d.in_, .int .i64 d.out, .slice va d.comps.length ve] c1 c2 ∧ T 1 = ap H.length 0 0 ∧ T 4 = sl (H.length + 1) 0 0 d.comps.length 1 ∧ T 5 = sl (H.length + 2) 0 0 d.comps.length 1 ∧ T 6 = .int .i64 ((r : Int) - 1)) d.comps.length
    ⟨by (refine sg (et kdH kdH0) ?_; try exact ⟨⟩), Nat.le_refl _, List.replicate d.comps.length 0, List.replicate d.comps.length 0, by simp, by simp, by rw [List.drop_eq_nil_of_le (by simp), List.drop_eq_nil_of_le (by omega)]; rfl, by rw [List.drop_eq_nil_of_le (by simp), List.drop_eq_nil_of_le (by omega)]; rfl, (fun j hj => ⟨by simp [List.getElem?_replicate, hj], by simp [List.getElem?_replicate, hj]⟩), ⟨Old.app' _ _, by simp, by rw [hget_app0]; rfl, by rw [hget_app]; rfl, by rw [hget_app]; rfl⟩, by (refine sg trivial ?_; try exact ⟨⟩), by (refine sg trivial ?_; try exact ⟨⟩), by (refine sg trivial ?_; try exact ⟨⟩), by (refine sg trivial ?_; try exact ⟨⟩) <;> rfl⟩ ?_
  rintro r T K D ⟨rfl, hrl, c1, c2, hc1, hc2, hd1, hd2, hz, hS, t1, t4, t5, t6⟩
  have hSl := hS.len
  have kd : ∀ n, decide (K.length + n < H.length) = false := fun n => df (by omega)
  have kd0 : decide (K.length < H.length) = false := df (by omega)
  by_cases hr0 : r = 0
  · subst hr0
    rw [List.drop_zero, List.drop_zero] at hd1 hd2
    subst hd1 hd2
    (refine sg (et t1 (et t4 (et t5 (et t6 (df (show ¬ (0 : Int) ≤ ((0 : Nat) : Int) - 1 by omega)))))) ?_; try exact ⟨⟩)
    exact ⟨_, _, rfl, hS.a, hS.b⟩
  obtain ⟨c, rfl⟩ : ∃ c, r = c + 1 := ⟨r - 1, by omega⟩
  have e8 : (((c + 1 : Nat) : Int) - 1) = (c : Int) := by omega
  rw [e8] at t6
  obtain ⟨ls, hls⟩ : ∃ ls, d.comps[c]? = some ls := ⟨_, List.getElem?_eq_getElem (by omega)⟩
  obtain ⟨b, g, cells, rw_, cs, hve, hb, ⟨w, rfl, hw⟩, hcl1, hle, hld, hgt⟩ := h.at hls
  have hwlen := hw.len
  obtain ⟨wa, we, hwf⟩ := hw.form
  subst hwf
  have kb := hS.old _ _ hb
  have kg := hS.doc
  rw [hve] at kg
  have hg := hgt 0 (by omega)
  rw [Nat.mul_one, Nat.add_zero] at hg
  have hg : cells[c]? = some (.slice wa ls.length we) := hg
  have q0 : ∀ n : Nat, (0 : Int) ≤ (n : Int) := fun n => by omega
  have q1 : (c : Int) < (d.comps.length : Int) := by omega
  have wc : IntKind.i64.wrap ((c : Int) - 1) = (c : Int) - 1 := wi (by omega) (by omega)
  have hrest : (d.comps.drop (c + 1)).length = d.comps.length - (c + 1) := List.length_drop ..
  have hb1 := cntGo_b (cb_nod d.comps.length) (d.comps.drop (c + 1)) (c + 1) (by omega)
  have hb2 := cntGo_b (cb_dep d.comps.length hN) (d.comps.drop (c + 1)) (c + 1) (by omega)
  obtain ⟨z1, z2⟩ := hz c (by omega)
  (refine sg (et t1 (et t4 (et t5 (et t6 (et (dt (show (0 : Int) ≤ (c : Int) by omega)) (et kg (et q0 (et q1 (et Int.toNat_natCast (et Nat.zero_add (et Nat.mul_one (et Nat.add_zero (et kb hg))))))))))))) ?_; try exact ⟨⟩)
  refine keep (fun r' T K' D => D = [] ∧ ∃ (k : Nat) (n m : Int), k + r' = ls.length ∧ 0 ≤ n ∧ n ≤ 257 ∧ 0 ≤ m ∧ m ≤ 1000 ∧ ls.foldl (fun n l => nodF n l (innF (cntGo nodF 0 (c + 1) (d.comps.drop (c + 1))) c (d.comps.drop (c + 1)).length l)) 0 = (ls.drop k).foldl (fun n l => nodF n l (innF (cntGo nodF 0 (c + 1) (d.comps.drop (c + 1))) c (d.comps.drop (c + 1)).length l)) n ∧ ls.foldl (fun n l => depF n l (innF (cntGo depF 1 (c + 1) (d.comps.drop (c + 1))) c (d.comps.drop (c + 1)).length l)) 1 = (ls.drop k).foldl (fun n l => depF n l (innF (cntGo depF 1 (c + 1) (d.comps.drop (c + 1))) c (d.comps.drop (c + 1)).length l)) (m + 1) ∧
      SzK H K' [.int .i64 d.in_, .int .i64 d.out, .slice va d.comps.length ve] (c1.set c n) (c2.set c m) ∧ T 1 = ap H.length 0 0 ∧ T 4 = sl (H.length + 1) 0 0 d.comps.length 1 ∧ T 5 = sl (H.length + 2) 0 0 d.comps.length 1 ∧ T 6 = .int .i64 (c : Int) ∧ T 31 = .slice wa ls.length we ∧ T 32 = .int .i64 (ls.length : Int) ∧ T 33 = .int .i64 (k : Int)) ls.length
    ⟨rfl, 0, 0, 0, by omega, by omega, by omega, by omega, by omega, rfl, rfl, by rw [set_own z1, set_own z2]; exact hS, by (refine sg t1 ?_; try exact ⟨⟩), by (refine sg t4 ?_; try exact ⟨⟩), by (refine sg t5 ?_; try exact ⟨⟩), by (refine sg t6 ?_; try exact ⟨⟩), by (refine sg trivial ?_; try exact ⟨⟩), by (refine sg trivial ?_; try exact ⟨⟩), by (refine sg trivial ?_; try exact ⟨⟩) <;> rfl⟩ ?_
  clear t1 t4 t5 t6 kd kd0 kb kg hS hSl
  rintro r' T K' D ⟨rfl, k, n, m, hkr, n0, n1, m0, m1, hf1, hf2, hS, t1, t4, t5, t6, t31, t32, t33⟩
  have hSl := hS.len
  have kd : ∀ n, decide (K'.length + n < H.length) = false := fun n => df (by omega)
  have kd0 : decide (K'.length < H.length) = false := df (by omega)
  have dka : decide (H.length + 1 < H.length) = false := df (by omega)
  have dkb : decide (H.length + 2 < H.length) = false := df (by omega)
  have A1 : ∀ (J : AH) (u v : Int) b' g', ast J (some ⟨intC (c1.set c u), g', true⟩) (some [.int .i64 v]) (some 1) b' c g' = some (J.set b' ⟨intC (c1.set c v), g', true⟩, b') := fun J u v b' g' => by
    rw [dint_ast J (c1.set c u) (by rw [List.length_set]; omega) v b' g', List.set_set]
  have B1 : ∀ (J : AH) (u v : Int) b' g', ast J (some ⟨intC (c2.set c u), g', true⟩) (some [.int .i64 v]) (some 1) b' c g' = some (J.set b' ⟨intC (c2.set c v), g', true⟩, b') := fun J u v b' g' => by
    rw [dint_ast J (c2.set c u) (by rw [List.length_set]; omega) v b' g', List.set_set]
  have L2 : ∀ u : Int, (intC (c1.set c u))[c]? = some (.int .i64 u) := fun u => dint_get (List.getElem?_set_self (by omega))
  have M2 : ∀ u : Int, (intC (c2.set c u))[c]? = some (.int .i64 u) := fun u => dint_get (List.getElem?_set_self (by omega))
  by_cases hk : k < ls.length
  case neg =>
    rw [List.drop_eq_nil_of_le (show ls.length ≤ k by omega)] at hf1 hf2
    have hf1 : ls.foldl (fun n l => nodF n l (innF (cntGo nodF 0 (c + 1) (d.comps.drop (c + 1))) c (d.comps.drop (c + 1)).length l)) 0 = n := hf1
    have hf2 : ls.foldl (fun n l => depF n l (innF (cntGo depF 1 (c + 1) (d.comps.drop (c + 1))) c (d.comps.drop (c + 1)).length l)) 1 = m + 1 := hf2
    have wm : IntKind.i64.wrap (m + 1) = m + 1 := wi (by omega) (by omega)
    have hS2 := hS.setB (c2.set c (m + 1))
    (refine sg (et t1 (et t4 (et t5 (et t6 (et t31 (et t32 (et t33 (et (df (show ¬ (k : Int) < (ls.length : Int) by omega)) (et q0 (et q1 (et Int.toNat_natCast (et Nat.zero_add (et Nat.mul_one (et hS.b (et M2 (et B1 (et wm (et dkb wc)))))))))))))))))) ?_; try exact ⟨⟩)
    refine ⟨c, by omega, by omega, c1.set c n, c2.set c (m + 1), by simpa using hc1, by simpa using hc2, ?_, ?_, fun j hj => ?_, hS2, rfl⟩
    · rw [drop_at hls, cntGo_cons, hf1, ← hd1]
      refine List.ext_getElem? fun j => ?_
      rw [List.getElem?_drop]
      cases j with
      | zero => rw [Nat.add_zero, List.getElem?_set_self (by omega)]; rfl
      | succ j => rw [List.getElem?_set_ne (by omega), List.getElem?_cons_succ, List.getElem?_drop]; congr 1; omega
    · rw [drop_at hls, cntGo_cons, hf2, ← hd2]
      refine List.ext_getElem? fun j => ?_
      rw [List.getElem?_drop]
      cases j with
      | zero => rw [Nat.add_zero, List.getElem?_set_self (by omega)]; rfl
      | succ j => rw [List.getElem?_set_ne (by omega), List.getElem?_cons_succ, List.getElem?_drop]; congr 1; omega
    · rw [List.getElem?_set_ne (by omega), List.getElem?_set_ne (by omega)]; exact hz j (by omega)
  obtain ⟨l, hl'⟩ : ∃ l, ls[k]? = some l := ⟨_, List.getElem?_eq_getElem hk⟩
  obtain ⟨b2, g2, cells2, rw2, cs2, hwe, hb2', hLy, hcl2, hle2, hld2, hgt2⟩ := hw.at hl'
  obtain ⟨v0, v1, v2, v3, v4, v5, v6, v7, v8, pm, vw, vh, vp, vc, vd, vda, vf, vt, rfl, hLV, hSV⟩ := hLy
  have kb2 := hS.old _ _ hb2'
  rw [drop_at hl', List.foldl_cons] at hf1 hf2
  rw [hwe] at t31
  have q2 : (k : Int) < (ls.length : Int) := by omega
  have w2 : IntKind.i64.wrap ((k : Int) + 1) = ((k + 1 : Nat) : Int) := by rw [wi (by omega) (by omega)]; rfl
  have hib1 := innF_b hb1 (by omega) c (d.comps.drop (c + 1)).length l
  have hib2 := innF_b hb2 (by omega) c (d.comps.drop (c + 1)).length l
  have e1 : l.kind = 1 ∧ (c : Int) < l.comp ∧ l.comp < (d.comps.length : Int) → ∃ x : Nat, l.comp = (x : Int) ∧ (∀ u, (c1.set c u)[x]? = some (innF (cntGo nodF 0 (c + 1) (d.comps.drop (c + 1))) c (d.comps.drop (c + 1)).length l)) ∧ (∀ u, (c2.set c u)[x]? = some (innF (cntGo depF 1 (c + 1) (d.comps.drop (c + 1))) c (d.comps.drop (c + 1)).length l)) := fun ⟨x1, x2, x3⟩ => by
    obtain ⟨x, hx⟩ : ∃ x : Nat, l.comp = (x : Int) := ⟨l.comp.toNat, by omega⟩
    refine ⟨x, hx, fun u => ?_, fun u => ?_⟩
    · rw [List.getElem?_set_ne (by omega)]
      have e2 : c1[x]? = (cntGo nodF 0 (c + 1) (d.comps.drop (c + 1)))[x - (c + 1)]? := by
        rw [← hd1, List.getElem?_drop]; congr 1; omega
      have hlt : x - (c + 1) < (cntGo nodF 0 (c + 1) (d.comps.drop (c + 1))).length := by rw [cntGo_len, hrest]; omega
      rw [e2]
      unfold innF
      rw [if_pos ⟨x1, x2, by omega⟩, show (l.comp - ((c : Int) + 1)).toNat = x - (c + 1) by omega, List.getElem?_eq_getElem hlt]; rfl
    · rw [List.getElem?_set_ne (by omega)]
      have e2 : c2[x]? = (cntGo depF 1 (c + 1) (d.comps.drop (c + 1)))[x - (c + 1)]? := by
        rw [← hd2, List.getElem?_drop]; congr 1; omega
      have hlt : x - (c + 1) < (cntGo depF 1 (c + 1) (d.comps.drop (c + 1))).length := by rw [cntGo_len, hrest]; omega
      rw [e2]
      unfold innF
      rw [if_pos ⟨x1, x2, by omega⟩, show (l.comp - ((c : Int) + 1)).toNat = x - (c + 1) by omega, List.getElem?_eq_getElem hlt]; rfl
  have e3 : ∀ r, ¬ (l.kind = 1 ∧ (c : Int) < l.comp ∧ l.comp < (d.comps.length : Int)) → innF r c (d.comps.drop (c + 1)).length l = 0 := fun r hne => by
    unfold innF
    rw [if_neg (fun hh => hne ⟨hh.1, hh.2.1, by omega⟩)]
  have e31 := e3 (cntGo nodF 0 (c + 1) (d.comps.drop (c + 1)))
  have e32 := e3 (cntGo depF 1 (c + 1) (d.comps.drop (c + 1)))
  clear e3
  generalize innF (cntGo nodF 0 (c + 1) (d.comps.drop (c + 1))) c (d.comps.drop (c + 1)).length l = i1 at *
  generalize innF (cntGo depF 1 (c + 1) (d.comps.drop (c + 1))) c (d.comps.drop (c + 1)).length l = i2 at *
  have hi2 : i2 ≤ 1000 := by
    have h : i2 ≤ ((d.comps.drop (c + 1)).length : Int) := hib2.2
    omega
  have hi1 : i1 ≤ 257 := hib1.2
  have i10 := hib1.1
  have i20 := hib2.1
  have hV := hS.app [⟨lyVs l v0 v1 v2 v3 v4 v5 v6 v7 v8 pm vw vh vp vc vd vda vf vt, 0, true⟩]
  have k8 : (K' ++ [(⟨lyVs l v0 v1 v2 v3 v4 v5 v6 v7 v8 pm vw vh vp vc vd vda vf vt, 0, true⟩ : Blk)])[K'.length]? = some ⟨lyVs l v0 v1 v2 v3 v4 v5 v6 v7 v8 pm vw vh vp vc vd vda vf vt, 0, true⟩ := by rw [hget_app0]; rfl
  have hVl := hV.len
  have nk : (K'.length = H.length + 1) = False := eq_false (by omega)
  have F1 : ∀ X, ((K' ++ [(⟨lyVs l v0 v1 v2 v3 v4 v5 v6 v7 v8 pm vw vh vp vc vd vda vf vt, 0, true⟩ : Blk)]).set (H.length + 1) X)[H.length + 1]? = some X := fun X => List.getElem?_set_self (by omega)
  have F2 : ∀ X, ((K' ++ [(⟨lyVs l v0 v1 v2 v3 v4 v5 v6 v7 v8 pm vw vh vp vc vd vda vf vt, 0, true⟩ : Blk)]).set (H.length + 1) X)[H.length + 2]? = some ⟨intC (c2.set c m), 0, true⟩ := fun X => by rw [List.getElem?_set_ne (by omega)]; exact hV.b
  have F3 : ∀ X, ((K' ++ [(⟨lyVs l v0 v1 v2 v3 v4 v5 v6 v7 v8 pm vw vh vp vc vd vda vf vt, 0, true⟩ : Blk)]).set (H.length + 1) X)[H.length]? = some ⟨[.int .i64 d.in_, .int .i64 d.out, .slice va d.comps.length ve], 0, true⟩ := fun X => by rw [List.getElem?_set_ne (by omega)]; exact hV.doc
  have F4 : ∀ X, ((K' ++ [(⟨lyVs l v0 v1 v2 v3 v4 v5 v6 v7 v8 pm vw vh vp vc vd vda vf vt, 0, true⟩ : Blk)]).set (H.length + 1) X)[K'.length]? = some ⟨lyVs l v0 v1 v2 v3 v4 v5 v6 v7 v8 pm vw vh vp vc vd vda vf vt, 0, true⟩ := fun X => by rw [List.getElem?_set_ne (by omega)]; exact k8
  have F5 : ∀ X Y, (((K' ++ [(⟨lyVs l v0 v1 v2 v3 v4 v5 v6 v7 v8 pm vw vh vp vc vd vda vf vt, 0, true⟩ : Blk)]).set (H.length + 1) X).set (H.length + 2) Y)[H.length + 1]? = some X := fun X Y => by rw [List.getElem?_set_ne (by omega)]; exact F1 X
  have ga := hV.a
  have gb := hV.b
  have gd := hV.doc
  have wn1 : IntKind.i64.wrap (n + 1) = n + 1 := wi (by omega) (by omega)
  have wn2 : IntKind.i64.wrap (n + 2) = n + 2 := wi (by omega) (by omega)
  have wn3 : IntKind.i64.wrap (n + 1 + i1) = n + (1 + i1) := by rw [wi (by omega) (by omega)]; omega
  have bnd : 0 ≤ nodF n l i1 ∧ nodF n l i1 ≤ 257 := by
    unfold nodF mnI
    have : 0 ≤ (if l.kind = 0 then n + 2 else if l.kind = 1 then n + (1 + i1) else n) := by
      split
      · omega
      · split <;> omega
    split <;> omega
  by_cases x1 : l.kind = 1
  · have eN : nodF n l i1 = if 257 < n + (1 + i1) then 257 else n + (1 + i1) := by unfold nodF mnI; rw [if_neg (show ¬ l.kind = 0 by omega), if_pos x1]
    by_cases hin : (c : Int) < l.comp ∧ l.comp < (d.comps.length : Int)
    · obtain ⟨x2, x3⟩ := hin
      obtain ⟨x, hx, hl1, hl2⟩ := e1 ⟨x1, x2, x3⟩
      have L3 := fun u => dint_get (hl1 u)
      have M3 := fun u => dint_get (hl2 u)
      have xt : l.comp.toNat = x := by omega
      have x0 : 0 ≤ l.comp := by omega
      have eD : depF (m + 1) l i2 = (if m < i2 then i2 else m) + 1 := by
        unfold depF mxI
        by_cases hh : m < i2
        · rw [if_pos hh, if_pos (by omega)]; omega
        · rw [if_neg hh, if_neg (by omega)]
      have bD : 0 ≤ (if m < i2 then i2 else m) ∧ (if m < i2 then i2 else m) ≤ 1000 := by split <;> omega
      rw [eD] at hf2
      rw [eN] at hf1 bnd
      (refine sg (et t1 (et t4 (et t5 (et t6 (et t31 (et t32 (et t33 (et (dt q2) (et q0 (et q2 (et Int.toNat_natCast (et Nat.zero_add (et kb2 (et hld2 (et kd (et kd0 (et k8 (et (bt x1) (et (dt x2) (et (dt x3) (et gd (et ga (et q1 (et Nat.mul_one (et L2 (et wn1 (et A1 (et dka F4)))))))))))))))))))))))))))) ?_; try exact ⟨⟩)
      repeat ((first | refine drawnF ?_ (by decide +kernel)); simp only [go_sem, Nat.reduceEqDiff, Nat.reduceAdd, Nat.reduceSub, Nat.reduceMul, Nat.reduceLT, Nat.reduceLeDiff, Int.reducePow, Int.reduceBEq, Int.reduceBNe, Int.reduceDiv, Int.reduceMod, Int.reduceEq, Int.reduceLT, Int.reduceLE, Int.reduceAdd, Int.reduceSub, Int.reduceMul, Int.reduceNeg, Int.reduceToNat, Int.reduceTDiv, Int.reduceTMod, ↓reduceIte, t1, t4, t5, t6, t31, t32, t33, q0, q1, x0, x3, xt, Int.toNat_natCast, Nat.zero_add, Nat.mul_one, L2, L3, M2, M3, wn3, A1, B1, dka, dkb, F1, F2, F4, F5, List.set_set, w2])
      exact ⟨r' - 1, by omega, k + 1, _, _, by omega, bnd.1, bnd.2, bD.1, bD.2, hf1, hf2, ((hV.setA _).setB _).setA _, hwe.symm, rfl⟩
    · have z1 := e31 (fun hh => hin hh.2)
      have z2 := e32 (fun hh => hin hh.2)
      subst z1 z2
      have eD : depF (m + 1) l 0 = m + 1 := by unfold depF mxI; rw [if_neg (by omega)]
      rw [eD] at hf2
      rw [eN, show n + (1 + 0) = n + 1 by omega] at hf1 bnd
      by_cases x2 : (c : Int) < l.comp
      · have x3 : ¬ l.comp < (d.comps.length : Int) := fun e => hin ⟨x2, e⟩
        simp only [go_sem, Nat.reduceEqDiff, Nat.reduceAdd, Nat.reduceSub, Nat.reduceMul, Nat.reduceLT, Nat.reduceLeDiff, Int.reducePow, Int.reduceBEq, Int.reduceBNe, Int.reduceDiv, Int.reduceMod, Int.reduceEq, Int.reduceLT, Int.reduceLE, Int.reduceAdd, Int.reduceSub, Int.reduceMul, Int.reduceNeg, Int.reduceToNat, Int.reduceTDiv, Int.reduceTMod, ↓reduceIte, t1, t4, t5, t6, t31, t32, t33, dt q2, q0, q2, Int.toNat_natCast, Nat.zero_add, kb2, hld2, kd, kd0, k8, bt x1, dt x2, df x3, gd, ga, q1, Nat.mul_one, L2, wn1, A1, dka, F1, List.set_set, w2]
        exact ⟨r' - 1, by omega, k + 1, _, m, by omega, bnd.1, bnd.2, m0, m1, hf1, hf2, hV.setA _, hwe.symm, rfl⟩
      · simp only [go_sem, Nat.reduceEqDiff, Nat.reduceAdd, Nat.reduceSub, Nat.reduceMul, Nat.reduceLT, Nat.reduceLeDiff, Int.reducePow, Int.reduceBEq, Int.reduceBNe, Int.reduceDiv, Int.reduceMod, Int.reduceEq, Int.reduceLT, Int.reduceLE, Int.reduceAdd, Int.reduceSub, Int.reduceMul, Int.reduceNeg, Int.reduceToNat, Int.reduceTDiv, Int.reduceTMod, ↓reduceIte, t1, t4, t5, t6, t31, t32, t33, dt q2, q0, q2, Int.toNat_natCast, Nat.zero_add, kb2, hld2, kd, kd0, k8, bt x1, df x2, gd, ga, q1, Nat.mul_one, L2, wn1, A1, dka, F1, List.set_set, w2]
        exact ⟨r' - 1, by omega, k + 1, _, m, by omega, bnd.1, bnd.2, m0, m1, hf1, hf2, hV.setA _, hwe.symm, rfl⟩
  · have eD : depF (m + 1) l 0 = m + 1 := by unfold depF mxI; rw [if_neg (by omega)]
    rw [e32 (fun hh => x1 hh.1), eD] at hf2
    by_cases y1 : l.kind = 0
    · have eN : nodF n l i1 = if 257 < n + 2 then 257 else n + 2 := by unfold nodF mnI; rw [if_pos y1]
      rw [eN] at hf1 bnd
      simp only [go_sem, Nat.reduceEqDiff, Nat.reduceAdd, Nat.reduceSub, Nat.reduceMul, Nat.reduceLT, Nat.reduceLeDiff, Int.reducePow, Int.reduceBEq, Int.reduceBNe, Int.reduceDiv, Int.reduceMod, Int.reduceEq, Int.reduceLT, Int.reduceLE, Int.reduceAdd, Int.reduceSub, Int.reduceMul, Int.reduceNeg, Int.reduceToNat, Int.reduceTDiv, Int.reduceTMod, ↓reduceIte, t1, t4, t5, t6, t31, t32, t33, dt q2, q0, q2, Int.toNat_natCast, Nat.zero_add, kb2, hld2, kd, kd0, k8, bf x1, bt y1, gd, ga, q1, Nat.mul_one, L2, wn2, A1, dka, F1, List.set_set, w2]
      exact ⟨r' - 1, by omega, k + 1, _, m, by omega, bnd.1, bnd.2, m0, m1, hf1, hf2, hV.setA _, hwe.symm, rfl⟩
    · have eN : nodF n l i1 = if 257 < n then 257 else n := by unfold nodF mnI; rw [if_neg y1, if_neg x1]
      rw [eN] at hf1 bnd
      simp only [go_sem, Nat.reduceEqDiff, Nat.reduceAdd, Nat.reduceSub, Nat.reduceMul, Nat.reduceLT, Nat.reduceLeDiff, Int.reducePow, Int.reduceBEq, Int.reduceBNe, Int.reduceDiv, Int.reduceMod, Int.reduceEq, Int.reduceLT, Int.reduceLE, Int.reduceAdd, Int.reduceSub, Int.reduceMul, Int.reduceNeg, Int.reduceToNat, Int.reduceTDiv, Int.reduceTMod, ↓reduceIte, t1, t4, t5, t6, t31, t32, t33, dt q2, q0, q2, Int.toNat_natCast, Nat.zero_add, kb2, hld2, kd, kd0, k8, bf x1, bf y1, gd, ga, q1, Nat.mul_one, L2, A1, dka, F1, List.set_set, w2]
      exact ⟨r' - 1, by omega, k + 1, _, m, by omega, bnd.1, bnd.2, m0, m1, hf1, hf2, hV.setA _, hwe.symm, rfl⟩
theorem rnodes_ (d : Dc) (v : Value) (c : Int) (H : AH) (h : Cos H v d.comps) (hN : d.comps.length ≤ 1000) : SemCall Tryz.prog 17 [dcV d v, .int .i64 c] H (.int .i64 (nodesE d.comps c)) H [] := by
  refine pure_of ?_ rfl
  obtain ⟨va, ve, hv⟩ := h.form
  subst hv
  unfold nodesE
  by_cases c0 : c < 0
  · rw [df (show ¬ 0 ≤ c by omega), Bool.false_and, if_neg (by decide)]
    refine XCal.of hm Tryz.func17 rfl (fun xs w => Tryz.call17 xs w) Tryz.ntmps17 Tryz.results17 rfl ?_
    (refine sg (dt c0) ?_; try exact ⟨⟩)
  by_cases c1 : (d.comps.length : Int) ≤ c
  · rw [df (show ¬ c < (d.comps.length : Int) by omega), Bool.and_false, if_neg (by decide)]
    refine XCal.of hm Tryz.func17 rfl (fun xs w => Tryz.call17 xs w) Tryz.ntmps17 Tryz.results17 rfl ?_
    (refine sg (et (df c0) (dt c1)) ?_; try exact ⟨⟩)
  obtain ⟨m, rfl⟩ : ∃ m : Nat, c = (m : Int) := ⟨c.toNat, by omega⟩
  rw [dt (show 0 ≤ (m : Int) by omega), dt (show (m : Int) < (d.comps.length : Int) by omega), Bool.and_self, if_pos rfl]
  refine XCal.of hm Tryz.func17 rfl (fun xs w => Tryz.call17 xs w) Tryz.ntmps17 Tryz.results17 rfl ?_
  (refine sg (et (df c0) (df c1)) ?_; try exact ⟨⟩)
  refine (rsizes_ d _ _ (h.old CoE.m (Old.app' _ _)) hN).x ?_
  rintro v' H1 W1 ⟨rfl, ⟨L, rfl⟩, b1, b2, rfl, hb1, hb2⟩
  obtain ⟨x, hx⟩ : ∃ x, (cntGo nodF 0 0 d.comps)[m]? = some x := ⟨_, List.getElem?_eq_getElem (by rw [cntGo_len]; omega)⟩
  rw [Int.toNat_natCast, hx]
  have hg := dint_get hx
  (refine sg (et (show (0 : Int) ≤ (m : Int) by omega) (et (show (m : Int) < (d.comps.length : Int) by omega) (et Int.toNat_natCast (et Nat.zero_add (et Nat.mul_one (et hb1 hg)))))) ?_; try exact ⟨⟩)
  first | done | rfl
theorem rdeep_ (d : Dc) (v : Value) (c : Int) (H : AH) (h : Cos H v d.comps) (hN : d.comps.length ≤ 1000) : SemCall Tryz.prog 19 [dcV d v, .int .i64 c] H (.int .i64 (deepE d.comps c)) H [] := by
  refine pure_of ?_ rfl
  obtain ⟨va, ve, hv⟩ := h.form
  subst hv
  unfold deepE
  by_cases c0 : c < 0
  · rw [df (show ¬ 0 ≤ c by omega), Bool.false_and, if_neg (by decide)]
    refine XCal.of hm Tryz.func19 rfl (fun xs w => Tryz.call19 xs w) Tryz.ntmps19 Tryz.results19 rfl ?_
    (refine sg (dt c0) ?_; try exact ⟨⟩)
  by_cases c1 : (d.comps.length : Int) ≤ c
  · rw [df (show ¬ c < (d.comps.length : Int) by omega), Bool.and_false, if_neg (by decide)]
    refine XCal.of hm Tryz.func19 rfl (fun xs w => Tryz.call19 xs w) Tryz.ntmps19 Tryz.results19 rfl ?_
    (refine sg (et (df c0) (dt c1)) ?_; try exact ⟨⟩)
  obtain ⟨m, rfl⟩ : ∃ m : Nat, c = (m : Int) := ⟨c.toNat, by omega⟩
  rw [dt (show 0 ≤ (m : Int) by omega), dt (show (m : Int) < (d.comps.length : Int) by omega), Bool.and_self, if_pos rfl]
  refine XCal.of hm Tryz.func19 rfl (fun xs w => Tryz.call19 xs w) Tryz.ntmps19 Tryz.results19 rfl ?_
  (refine sg (et (df c0) (df c1)) ?_; try exact ⟨⟩)
  refine (rsizes_ d _ _ (h.old CoE.m (Old.app' _ _)) hN).x ?_
  rintro v' H1 W1 ⟨rfl, ⟨L, rfl⟩, b1, b2, rfl, hb1, hb2⟩
  obtain ⟨x, hx⟩ : ∃ x, (cntGo depF 1 0 d.comps)[m]? = some x := ⟨_, List.getElem?_eq_getElem (by rw [cntGo_len]; omega)⟩
  rw [Int.toNat_natCast, hx]
  have hg := dint_get hx
  (refine sg (et (show (0 : Int) ≤ (m : Int) by omega) (et (show (m : Int) < (d.comps.length : Int) by omega) (et Int.toNat_natCast (et Nat.zero_add (et Nat.mul_one (et hb2 hg)))))) ?_; try exact ⟨⟩)
  first | done | rfl
end Go.Proofs.YtnebnbdeobcegaaGreat
/- Documents: the walk of what the document's own answer judges: the whole. -/
namespace Go.Proofs.YtnebnbdeobcegaaGreat
open Go Go.RowKit E
attribute [local irreducible] XRun XOps XCode XCal XLoop XQ SemCall
set_option linter.unusedSimpArgs false
set_option linter.unusedVariables false
def orE (a b : Int) : Int := if ¬ a = 0 then a else b
theorem orE_assoc (a b c : Int) : orE (orE a b) c = orE a (orE b c) := by
  unfold orE
  by_cases h : a = 0
  · subst h; simp
  · rw [if_pos h, if_pos h, if_pos h]
theorem orE_z (b : Int) : orE 0 b = b := by unfold orE; rw [if_neg (fun x => x rfl)]
theorem orE_p {a : Int} (h : ¬ a = 0) (b : Int) : orE a b = a := by unfold orE; rw [if_pos h]
theorem cosE_cons (cs : List (List Ly)) (n : Nat) (c : List Ly) (t : List (List Ly)) : cosE cs n (c :: t) = orE (lysE cs n c 0 c) (cosE cs (n + 1) t) := rfl
def DcM (d : Dc) : Prop := ∀ c ∈ d.comps, ∀ l ∈ c, LyM l
set_option maxRecDepth 100000 in
set_option maxHeartbeats 8000000 in
theorem rright18_ (d : Dc) (v : Value) (H : AH) (h : Cos H v d.comps) (hz : DcM d) : SemCall Tryz.prog 11 [dcV d v] H (.int .i64 (rightE d)) H [] := by
  refine pure_of ?_ rfl
  obtain ⟨va, ve, hv⟩ := h.form
  subst hv
  obtain ⟨q, hq⟩ : ∃ q, rightE d = q := ⟨_, rfl⟩
  rw [hq]
  unfold rightE sizeB at hq
  by_cases n1 : (d.comps.length : Int) < 1
  · rw [dt n1, Bool.true_or, Bool.true_or, if_pos rfl] at hq
    subst hq
    refine XCal.of hm Tryz.func11 rfl (fun xs w => Tryz.call11 xs w) Tryz.ntmps11 Tryz.results11 rfl ?_
    (refine sg (dt n1) ?_; try exact ⟨⟩)
  by_cases n2 : 8 < (d.comps.length : Int)
  · rw [dt n2, Bool.or_true, Bool.true_or, if_pos rfl] at hq
    subst hq
    refine XCal.of hm Tryz.func11 rfl (fun xs w => Tryz.call11 xs w) Tryz.ntmps11 Tryz.results11 rfl ?_
    (refine sg (et (df n1) (dt n2)) ?_; try exact ⟨⟩)
  rw [df n1, df n2, Bool.false_or, Bool.false_or] at hq
  refine XCal.of hm Tryz.func11 rfl (fun xs w => Tryz.call11 xs w) Tryz.ntmps11 Tryz.results11 rfl ?_
  (refine sg (et (df n1) (df n2)) ?_; try exact ⟨⟩)
  obtain ⟨R, hR⟩ : ∃ R, (if (!tickB d.in_ || !tickB d.out || decide (d.out ≤ d.in_)) = true then (1 : Int) else if ¬ cosE d.comps 0 d.comps = 0 then cosE d.comps 0 d.comps else if 4 < deepE d.comps 0 ∨ 256 < nodesE d.comps 0 then 24 else 0) = R := ⟨_, rfl⟩
  rw [hR] at hq
  refine keep (fun r T K D => D = [] ∧ ∃ i : Nat, i + r = d.comps.length ∧ Old H K ∧ H.length + 1 ≤ K.length ∧ K[H.length]? = some ⟨[.int .i64 d.in_, .int .i64 d.out, .slice va d.comps.length ve], 0, true⟩ ∧ T 1 = ap H.length 0 0 ∧ T 20 = .slice va d.comps.length ve ∧ T 21 = .int .i64 (d.comps.length : Int) ∧ T 22 = .int .i64 (i : Int) ∧ (if ((d.comps.drop i).any fun c => decide (16 < (c.length : Int))) = true then 23 else R) = q) d.comps.length
    ⟨rfl, 0, by omega, Old.app' _ _, by simp, by rw [hget_app0]; rfl, by (refine sg trivial ?_; try exact ⟨⟩), by (refine sg trivial ?_; try exact ⟨⟩), by (refine sg trivial ?_; try exact ⟨⟩), by (refine sg trivial ?_; try exact ⟨⟩) <;> rfl, hq⟩ ?_
  clear hq
  rintro r T K D ⟨rfl, i, hir, o, hKl, g0, t1, t20, t21, t22, hq⟩
  have kd : ∀ n, decide (K.length + n < H.length) = false := fun n => df (by omega)
  have kd0 : decide (K.length < H.length) = false := df (by omega)
  by_cases hi : i < d.comps.length
  · obtain ⟨c, hx⟩ : ∃ c, d.comps[i]? = some c := ⟨_, List.getElem?_eq_getElem hi⟩
    obtain ⟨b, g, cells, rw_, cc, hve, hb, ⟨lv, hc, hlv⟩, hcl, hle, hld, hgt⟩ := h.at hx
    subst hc
    obtain ⟨la, le, hlf⟩ := hlv.form
    subst hlf
    have kb := o _ _ hb
    rw [hve] at t20
    rw [drop_at hx, List.any_cons] at hq
    have i1 : IntKind.i64.wrap ((i : Int) + 1) = ((i + 1 : Nat) : Int) := by rw [wi (by omega) (by omega)]; rfl
    have q0 : (0 : Int) ≤ (i : Int) := by omega
    have q1 : (i : Int) < (d.comps.length : Int) := by omega
    by_cases m1 : 16 < (c.length : Int)
    · rw [dt m1, Bool.true_or, if_pos rfl] at hq
      subst hq
      (refine sg (et t1 (et t20 (et t21 (et t22 (et (dt q1) (et q0 (et q1 (et Int.toNat_natCast (et Nat.zero_add (et kb (et hld (et kd (et kd0 (dt m1)))))))))))))) ?_; try exact ⟨⟩)
    · rw [df m1, Bool.false_or] at hq
      (refine sg (et t1 (et t20 (et t21 (et t22 (et (dt q1) (et q0 (et q1 (et Int.toNat_natCast (et Nat.zero_add (et kb (et hld (et kd (et kd0 (et (df m1) i1)))))))))))))) ?_; try exact ⟨⟩)
      exact ⟨r - 1, by omega, i + 1, by omega, o.app _, by omega, old_get g0 _, hve.symm, rfl, hq⟩
  rw [List.drop_eq_nil_of_le (by omega)] at hq
  have hq : R = q := hq
  subst hq
  have k1 := fun H => rtick18_ d.in_ H
  have k2 := fun H => rtick18_ d.out H
  have m3 : decide (d.out ≤ d.in_) = !decide (d.in_ < d.out) := by
    by_cases e : d.in_ < d.out
    · rw [dt e, df (show ¬ d.out ≤ d.in_ by omega)]; rfl
    · rw [df e, dt (show d.out ≤ d.in_ by omega)]; rfl
  generalize tickB d.in_ = p1 at *
  generalize tickB d.out = p2 at *
  cases p1
  case false =>
    rw [Bool.not_false, Bool.true_or, Bool.true_or, if_pos rfl] at hR
    subst hR
    (refine sg (et t1 (et t20 (et t21 (et t22 (et (df (show ¬ (i : Int) < (d.comps.length : Int) by omega)) g0))))) ?_; try exact ⟨⟩)
    repeat ((first | refine (k1 _).x ?_ | refine drawnF ?_ (by decide +kernel)); (refine sg (et t1 g0) ?_; try exact ⟨⟩))
  cases p2
  case false =>
    rw [Bool.not_true, Bool.not_false, Bool.false_or, Bool.true_or, if_pos rfl] at hR
    subst hR
    (refine sg (et t1 (et t20 (et t21 (et t22 (et (df (show ¬ (i : Int) < (d.comps.length : Int) by omega)) g0))))) ?_; try exact ⟨⟩)
    repeat ((first | refine (k1 _).x ?_ | refine (k2 _).x ?_ | refine drawnF ?_ (by decide +kernel)); (refine sg (et t1 g0) ?_; try exact ⟨⟩))
  by_cases m4 : d.out ≤ d.in_
  case pos =>
    rw [dt m4, Bool.or_true, if_pos rfl] at hR
    subst hR
    (refine sg (et t1 (et t20 (et t21 (et t22 (et (df (show ¬ (i : Int) < (d.comps.length : Int) by omega)) g0))))) ?_; try exact ⟨⟩)
    repeat ((first | refine (k1 _).x ?_ | refine (k2 _).x ?_ | refine drawnF ?_ (by decide +kernel)); (refine sg (et t1 (et g0 (dt m4))) ?_; try exact ⟨⟩))
  rw [Bool.not_true, df m4, Bool.or_self, Bool.or_self, if_neg (by decide)] at hR
  have hR : orE (cosE d.comps 0 d.comps) (if 4 < deepE d.comps 0 ∨ 256 < nodesE d.comps 0 then 24 else 0) = R := hR
  (refine sg (et t1 (et t20 (et t21 (et t22 (et (df (show ¬ (i : Int) < (d.comps.length : Int) by omega)) g0))))) ?_; try exact ⟨⟩)
  repeat ((first | refine (k1 _).x ?_ | refine (k2 _).x ?_ | refine drawnF ?_ (by decide +kernel)); (refine sg (et t1 (et g0 (df m4))) ?_; try exact ⟨⟩))
  obtain ⟨Z, hZ⟩ : ∃ Z, (if 4 < deepE d.comps 0 ∨ 256 < nodesE d.comps 0 then (24 : Int) else 0) = Z := ⟨_, rfl⟩
  rw [hZ] at hR
  refine keep (fun r T K D => D = [] ∧ ∃ i : Nat, i + r = d.comps.length ∧ Old H K ∧ H.length + 1 ≤ K.length ∧ K[H.length]? = some ⟨[.int .i64 d.in_, .int .i64 d.out, .slice va d.comps.length ve], 0, true⟩ ∧ T 1 = ap H.length 0 0 ∧ T 49 = .slice va d.comps.length ve ∧ T 50 = .int .i64 (d.comps.length : Int) ∧ T 51 = .int .i64 (i : Int) ∧ orE (cosE d.comps i (d.comps.drop i)) Z = R) d.comps.length
    ⟨rfl, 0, by omega, o, by omega, g0, by (refine sg t1 ?_; try exact ⟨⟩), by (refine sg trivial ?_; try exact ⟨⟩), by (refine sg trivial ?_; try exact ⟨⟩), by (refine sg trivial ?_; try exact ⟨⟩) <;> rfl, hR⟩ ?_
  clear hR t1 t20 t21 t22 g0 kd kd0 o hKl hir hi i
  rintro r T K D ⟨rfl, i, hir, o, hKl, g0, t1, t49, t50, t51, hR⟩
  have kd : ∀ n, decide (K.length + n < H.length) = false := fun n => df (by omega)
  have kd0 : decide (K.length < H.length) = false := df (by omega)
  by_cases hi : i < d.comps.length
  case neg =>
    rw [List.drop_eq_nil_of_le (by omega)] at hR
    have hR : orE 0 Z = R := hR
    rw [orE_z] at hR
    subst hR
    have c1 := rdeep_ d _ 0 K (h.old CoE.m o) (by omega)
    have c2 := rnodes_ d _ 0 K (h.old CoE.m o) (by omega)
    by_cases e1 : 4 < deepE d.comps 0
    · rw [if_pos (.inl e1)] at hZ
      subst hZ
      (refine sg (et t1 (et t49 (et t50 (et t51 (et (df (show ¬ (i : Int) < (d.comps.length : Int) by omega)) g0))))) ?_; try exact ⟨⟩)
      repeat ((first | refine (c1).x ?_ | refine (c2).x ?_ | refine drawnF ?_ (by decide +kernel)); (refine sg (et t1 (et g0 (dt e1))) ?_; try exact ⟨⟩))
    · by_cases e2 : 256 < nodesE d.comps 0
      · rw [if_pos (.inr e2)] at hZ
        subst hZ
        (refine sg (et t1 (et t49 (et t50 (et t51 (et (df (show ¬ (i : Int) < (d.comps.length : Int) by omega)) g0))))) ?_; try exact ⟨⟩)
        repeat ((first | refine (c1).x ?_ | refine (c2).x ?_ | refine drawnF ?_ (by decide +kernel)); (refine sg (et t1 (et g0 (et (df e1) (dt e2)))) ?_; try exact ⟨⟩))
      · rw [if_neg (by omega)] at hZ
        subst hZ
        (refine sg (et t1 (et t49 (et t50 (et t51 (et (df (show ¬ (i : Int) < (d.comps.length : Int) by omega)) g0))))) ?_; try exact ⟨⟩)
        repeat ((first | refine (c1).x ?_ | refine (c2).x ?_ | refine drawnF ?_ (by decide +kernel)); (refine sg (et t1 (et g0 (et (df e1) (df e2)))) ?_; try exact ⟨⟩))
  obtain ⟨c, hx⟩ : ∃ c, d.comps[i]? = some c := ⟨_, List.getElem?_eq_getElem hi⟩
  obtain ⟨b, g, cells, rw_, cc, hve, hb, ⟨lv, hc, hlv⟩, hcl, hle, hld, hgt⟩ := h.at hx
  subst hc
  obtain ⟨la, le, hlf⟩ := hlv.form
  subst hlf
  have hcl' := hlv.len
  have kb := o _ _ hb
  have t49' := t49
  rw [hve] at t49
  rw [drop_at hx, cosE_cons, orE_assoc] at hR
  have i1 : IntKind.i64.wrap ((i : Int) + 1) = ((i + 1 : Nat) : Int) := by rw [wi (by omega) (by omega)]; rfl
  have q0 : (0 : Int) ≤ (i : Int) := by omega
  have q1 : (i : Int) < (d.comps.length : Int) := by omega
  obtain ⟨Y, hY⟩ : ∃ Y, orE (cosE d.comps (i + 1) (d.comps.drop (i + 1))) Z = Y := ⟨_, rfl⟩
  rw [hY] at hR
  (refine sg (et t1 (et t49 (et t50 (et t51 (et (dt q1) (et q0 (et q1 (et Int.toNat_natCast (et Nat.zero_add (et kb (et hld (et kd kd0)))))))))))) ?_; try exact ⟨⟩)
  refine keep (fun r2 T K' D => D = [] ∧ ∃ k : Nat, k + r2 = c.length ∧ Old H K' ∧ H.length + 1 ≤ K'.length ∧ K'[H.length]? = some ⟨[.int .i64 d.in_, .int .i64 d.out, .slice va d.comps.length ve], 0, true⟩ ∧ T 1 = ap H.length 0 0 ∧ T 49 = .slice va d.comps.length ve ∧ T 50 = .int .i64 (d.comps.length : Int) ∧ T 51 = .int .i64 (i : Int) ∧ T 5 = .int .i64 (i : Int) ∧ T 57 = .slice la c.length le ∧ T 58 = .int .i64 (c.length : Int) ∧ T 59 = .int .i64 (k : Int) ∧ orE (lysE d.comps i c k (c.drop k)) Y = R) c.length
    ⟨rfl, 0, by omega, o.app _, by rw [List.length_append]; omega, old_get g0 _, by (refine sg t1 ?_; try exact ⟨⟩), by (refine sg t49' ?_; try exact ⟨⟩), by (refine sg t50 ?_; try exact ⟨⟩), by (refine sg t51 ?_; try exact ⟨⟩), by (refine sg trivial ?_; try exact ⟨⟩), by (refine sg trivial ?_; try exact ⟨⟩), by (refine sg trivial ?_; try exact ⟨⟩), by (refine sg trivial ?_; try exact ⟨⟩) <;> rfl, hR⟩ ?_
  clear hR t1 t49 t49' t50 t51 g0 kd kd0 kb
  rintro r2 T K' D ⟨rfl, k, hkr, o2, hKl2, g0, t1, t49, t50, t51, t5, t57, t58, t59, hR⟩
  have kd : ∀ n, decide (K'.length + n < H.length) = false := fun n => df (by omega)
  have kd0 : decide (K'.length < H.length) = false := df (by omega)
  by_cases hk : k < c.length
  case neg =>
    rw [List.drop_eq_nil_of_le (by omega)] at hR
    have hR : orE 0 Y = R := hR
    rw [orE_z] at hR
    subst hR
    (refine sg (et t1 (et t49 (et t50 (et t51 (et t5 (et t57 (et t58 (et t59 (et (df (show ¬ (k : Int) < (c.length : Int) by omega)) i1))))))))) ?_; try exact ⟨⟩)
    exact ⟨r - 1, by omega, i + 1, by omega, o2, by omega, g0, rfl, hY⟩
  obtain ⟨l, hkl⟩ : ∃ l, c[k]? = some l := ⟨_, List.getElem?_eq_getElem hk⟩
  obtain ⟨b2, g2, cells2, rw2, c2, hve2, hb2, ⟨v0, v1, v2, v3, v4, v5, v6, v7, v8, pm, vw, vh, vp, vc, vd, vda, vf, vt, rfl, hLV, hSV⟩, hcl2, hle2, hld2, hgt2⟩ := hlv.at hkl
  have kb2 := o2 _ _ hb2
  have hml := hz c (List.mem_of_getElem? hx) l (List.mem_of_getElem? hkl)
  rw [hve2] at t57
  rw [drop_at hkl] at hR
  simp only [lysE] at hR
  have j1 : IntKind.i64.wrap ((k : Int) + 1) = ((k + 1 : Nat) : Int) := by rw [wi (by omega) (by omega)]; rfl
  have p0 : (0 : Int) ≤ (k : Int) := by omega
  have p1 : (k : Int) < (c.length : Int) := by omega
  have k1 := rlayer18_ l v0 v1 v2 v3 v4 v5 v6 v7 v8 pm vw vh vp vc vd vda vf vt _ (hLV.old (o2.app [⟨lyVs l v0 v1 v2 v3 v4 v5 v6 v7 v8 pm vw vh vp vc vd vda vf vt, 0, true⟩])) (hSV.old (o2.app _)) hml
  have k2 := rtree18_ d (.slice va d.comps.length ve) i k c l hx hkl _ (h.old CoE.m (o2.app [⟨lyVs l v0 v1 v2 v3 v4 v5 v6 v7 v8 pm vw vh vp vc vd vda vf vt, 0, true⟩]))
  have g8 := old_get g0 [⟨lyVs l v0 v1 v2 v3 v4 v5 v6 v7 v8 pm vw vh vp vc vd vda vf vt, 0, true⟩]
  cases h1 : layerB l
  case false =>
    rw [h1, if_pos rfl, orE_p (by decide)] at hR
    subst hR
    rw [h1] at k1
    (refine sg (et t1 (et t49 (et t50 (et t51 (et t5 (et t57 (et t58 (et t59 (et (dt p1) (et p0 (et p1 (et Int.toNat_natCast (et Nat.zero_add (et kb2 (et hld2 (et kd kd0)))))))))))))))) ?_; try exact ⟨⟩)
    repeat ((first | refine (k1).x ?_ | refine drawnF ?_ (by decide +kernel)); (refine sg (et t1 (et t5 (et g8 (et kd kd0)))) ?_; try exact ⟨⟩))
  rw [h1, if_neg (by decide)] at hR
  rw [h1] at k1
  cases h2 : treeB d.comps i k c l
  case false =>
    rw [h2, if_pos rfl, orE_p (by decide)] at hR
    subst hR
    rw [h2] at k2
    (refine sg (et t1 (et t49 (et t50 (et t51 (et t5 (et t57 (et t58 (et t59 (et (dt p1) (et p0 (et p1 (et Int.toNat_natCast (et Nat.zero_add (et kb2 (et hld2 (et kd kd0)))))))))))))))) ?_; try exact ⟨⟩)
    repeat ((first | refine (k1).x ?_ | refine (k2).x ?_ | refine drawnF ?_ (by decide +kernel)); (refine sg (et t1 (et t5 (et g8 (et kd kd0)))) ?_; try exact ⟨⟩))
  rw [h2, if_neg (by decide)] at hR
  rw [h2] at k2
  (refine sg (et t1 (et t49 (et t50 (et t51 (et t5 (et t57 (et t58 (et t59 (et (dt p1) (et p0 (et p1 (et Int.toNat_natCast (et Nat.zero_add (et kb2 (et hld2 (et kd kd0)))))))))))))))) ?_; try exact ⟨⟩)
  repeat ((first | refine (k1).x ?_ | refine (k2).x ?_ | refine drawnF ?_ (by decide +kernel)); (refine sg (et t1 (et t49 (et t50 (et t51 (et t5 (et t57 (et t58 (et t59 (et g8 (et kd (et kd0 j1))))))))))) ?_; try exact ⟨⟩))
  exact ⟨r2 - 1, by omega, k + 1, by omega, o2.app _, by omega, hve2.symm, rfl, hR⟩
end Go.Proofs.YtnebnbdeobcegaaGreat
/- Documents of a tape: the walks of eases, ways, colours, paints. -/
namespace Go.Proofs.YtnebnbdeobcegaaGreat
open Go Go.RowKit E
attribute [local irreducible] XRun XOps XCode XCal XLoop XQ SemCall
set_option linter.unusedSimpArgs false
set_option linter.unusedVariables false
theorem kease_ (H : AH) {tb g : Nat} {lv : Value} {ls : List Int} (h : TapeAt H tb g lv ls) :
    Cal Tryz.prog 101 [ap tb 0 g] H fun v H' W' => ∃ r : Ez × Int, (easeB r.1 = true ∧ 0 ≤ r.2 ∧ r.2 ≤ ls.length) ∧ v = ezV r.1 ∧ H' = H.set tb (tblk lv g r.2) ∧ W' = [tb] := by
  have htb := h.lt
  have hi0 := h.1
  have hb := (h.2).choose_spec.2.2
  refine none_of _ _ tb _ htb ?_ (fun r _ => rfl) (fun r _ => tape_ren hi0 _ _ _)
  refine XCal.of hm Tryz.func101 rfl (fun xs w => Tryz.call101 xs w) Tryz.ntmps101 Tryz.results101 rfl ?_
  (refine sg trivial ?_; try exact ⟨⟩)
  refine (next_ 65537 (by omega) _ (h.app _)).x ?_
  rintro v H1 W1 ⟨⟨x1, a1⟩, ⟨b1, b2, a0, a2⟩, rfl, rfl, rfl⟩
  (refine sg (et (decide_eq_true htb) (et (old_set hb) (et (old_sset hb) (old_sget hb)))) ?_; try exact ⟨⟩)
  refine (number_ (-1) 1 (by omega) (by omega) (by omega) _ ((tape_set h ⟨a0, a2⟩).app _)).x ?_
  rintro v H1 W1 ⟨⟨y1, c1⟩, ⟨d1, d2, c0, c2⟩, rfl, rfl, rfl⟩
  (refine sg (et (decide_eq_true htb) (et (old_set hb) (et (old_sset hb) (old_sget hb)))) ?_; try exact ⟨⟩)
  refine (next_ 65537 (by omega) _ ((tape_set h ⟨c0, c2⟩).app _)).x ?_
  rintro v H1 W1 ⟨⟨x2, e1⟩, ⟨f1, f2, e0, e2⟩, rfl, rfl, rfl⟩
  (refine sg (et (decide_eq_true htb) (et (old_set hb) (et (old_sset hb) (old_sget hb)))) ?_; try exact ⟨⟩)
  refine (number_ 0 2 (by omega) (by omega) (by omega) _ ((tape_set h ⟨e0, e2⟩).app _)).x ?_
  rintro v H1 W1 ⟨⟨y2, g1⟩, ⟨i1, i2, g0, g2⟩, rfl, rfl, rfl⟩
  (refine sg (et (decide_eq_true htb) (et (old_set hb) (et (old_sset hb) (old_sget hb)))) ?_; try exact ⟨⟩)
  have b1 : 0 ≤ x1 := b1
  have b2 : x1 < 65537 := b2
  have d1 : -1 * 65536 ≤ y1 := d1
  have d2 : y1 < 1 * 65536 + 65536 := d2
  have f1 : 0 ≤ x2 := f1
  have f2 : x2 < 65537 := f2
  have i1 : 0 * 65536 ≤ y2 := i1
  have i2 : y2 < 2 * 65536 + 65536 := i2
  refine ⟨fun x => by simp, (⟨x1, y1, x2, y2⟩, g1), ⟨?_, g0, g2⟩, rfl, rfl⟩
  unfold easeB
  simp only
  rw [dt (show 0 ≤ x1 by omega), dt (show x1 ≤ 65536 by omega), dt (show 0 ≤ x2 by omega), dt (show x2 ≤ 65536 by omega), dt (show -131072 ≤ y1 by omega), dt (show y1 ≤ 196608 by omega), dt (show -131072 ≤ y2 by omega), dt (show y2 ≤ 196608 by omega)]; rfl
theorem khow_ (H : AH) {tb g : Nat} {lv : Value} {ls : List Int} (h : TapeAt H tb g lv ls) :
    Cal Tryz.prog 69 [ap tb 0 g] H fun v H' W' => ∃ r : (Int × Ez) × Int, (howB r.1.1 r.1.2 = true ∧ 0 ≤ r.2 ∧ r.2 ≤ ls.length) ∧ v = .tuple [.int .i64 r.1.1, ezV r.1.2].toArray ∧ H' = H.set tb (tblk lv g r.2) ∧ W' = [tb] := by
  have htb := h.lt
  have hi0 := h.1
  have hb := (h.2).choose_spec.2.2
  refine none_of _ _ tb _ htb ?_ (fun r _ => rfl) (fun r _ => tape_ren hi0 _ _ _)
  refine XCal.of hm Tryz.func69 rfl (fun xs w => Tryz.call69 xs w) Tryz.ntmps69 Tryz.results69 rfl ?_
  (refine sg trivial ?_; try exact ⟨⟩)
  refine (next_ 4 (by omega) _ (h.app _)).x ?_
  rintro v H1 W1 ⟨⟨q, a1⟩, ⟨b1, b2, a0, a2⟩, rfl, rfl, rfl⟩
  by_cases q0 : q = 0
  · (refine sg (et (bt q0) (et (decide_eq_true htb) (et (old_set hb) (et (old_sset hb) (old_sget hb))))) ?_; try exact ⟨⟩)
    exact ⟨SameW.rfl', ((0, ez00), a1), ⟨rfl, a0, a2⟩, rfl, rfl⟩
  · by_cases q1 : q = 1
    · (refine sg (et (bf q0) (et (bt q1) (et (decide_eq_true htb) (et (old_set hb) (et (old_sset hb) (old_sget hb)))))) ?_; try exact ⟨⟩)
      refine (kease_ _ ((tape_set h ⟨a0, a2⟩).app _)).x ?_
      rintro v H1 W1 ⟨⟨e, c1⟩, ⟨he, c0, c2⟩, rfl, rfl, rfl⟩
      (refine sg (et (decide_eq_true htb) (et (old_set hb) (et (old_sset hb) (old_sget hb)))) ?_; try exact ⟨⟩)
      exact ⟨fun x => by simp, ((2, e), c1), ⟨he, c0, c2⟩, rfl, rfl⟩
    · (refine sg (et (bf q0) (et (bf q1) (et (decide_eq_true htb) (et (old_set hb) (et (old_sset hb) (old_sget hb)))))) ?_; try exact ⟨⟩)
      exact ⟨SameW.rfl', ((1, ez00), a1), ⟨rfl, a0, a2⟩, rfl, rfl⟩
theorem kcolor_ (H : AH) {tb g : Nat} {lv : Value} {ls : List Int} (h : TapeAt H tb g lv ls) :
    Cal Tryz.prog 72 [ap tb 0 g] H fun v H' W' => ∃ r : C4 × Int, (True ∧ 0 ≤ r.2 ∧ r.2 ≤ ls.length) ∧ v = .agg (c4C r.1).toArray ∧ H' = H.set tb (tblk lv g r.2) ∧ W' = [tb] := by
  have htb := h.lt
  have hi0 := h.1
  have hb := (h.2).choose_spec.2.2
  refine none_of _ _ tb _ htb ?_ (fun r _ => rfl) (fun r _ => tape_ren hi0 _ _ _)
  refine XCal.of hm Tryz.func72 rfl (fun xs w => Tryz.call72 xs w) Tryz.ntmps72 Tryz.results72 rfl ?_
  (refine sg trivial ?_; try exact ⟨⟩)
  refine (next_ 256 (by omega) _ (h.app _)).x ?_
  rintro v H1 W1 ⟨⟨x1, a1⟩, ⟨b1, b2, a0, a2⟩, rfl, rfl, rfl⟩
  (refine sg (et (decide_eq_true htb) (et (old_set hb) (et (old_sset hb) (old_sget hb)))) ?_; try exact ⟨⟩)
  refine (next_ 256 (by omega) _ ((tape_set h ⟨a0, a2⟩).app _)).x ?_
  rintro v H1 W1 ⟨⟨x2, c1⟩, ⟨d1, d2, c0, c2⟩, rfl, rfl, rfl⟩
  (refine sg (et (decide_eq_true htb) (et (old_set hb) (et (old_sset hb) (old_sget hb)))) ?_; try exact ⟨⟩)
  refine (next_ 256 (by omega) _ ((tape_set h ⟨c0, c2⟩).app _)).x ?_
  rintro v H1 W1 ⟨⟨x3, e1⟩, ⟨f1, f2, e0, e2⟩, rfl, rfl, rfl⟩
  (refine sg (et (decide_eq_true htb) (et (old_set hb) (et (old_sset hb) (old_sget hb)))) ?_; try exact ⟨⟩)
  refine (next_ 256 (by omega) _ ((tape_set h ⟨e0, e2⟩).app _)).x ?_
  rintro v H1 W1 ⟨⟨x4, g1⟩, ⟨i1, i2, g0, g2⟩, rfl, rfl, rfl⟩
  (refine sg (et (decide_eq_true htb) (et (old_set hb) (et (old_sset hb) (old_sget hb)))) ?_; try exact ⟨⟩)
  refine (next_ 4 (by omega) _ ((tape_set h ⟨g0, g2⟩).app _)).x ?_
  rintro v H1 W1 ⟨⟨q, j1⟩, ⟨k1, k2, j0, j2⟩, rfl, rfl, rfl⟩
  have k1 : 0 ≤ q := k1
  have k2 : q < 4 := k2
  obtain rfl | rfl | rfl | rfl : q = 0 ∨ q = 1 ∨ q = 2 ∨ q = 3 := by omega
  · simp only [go_sem, Nat.reduceEqDiff, Nat.reduceAdd, Nat.reduceSub, Nat.reduceMul, Nat.reduceLT, Nat.reduceLeDiff, Int.reducePow, Int.reduceBEq, Int.reduceBNe, Int.reduceDiv, Int.reduceMod, Int.reduceEq, Int.reduceLT, Int.reduceLE, Int.reduceAdd, Int.reduceSub, Int.reduceMul, Int.reduceNeg, Int.reduceToNat, Int.reduceTDiv, Int.reduceTMod, ↓reduceIte, decide_eq_true htb, old_set hb, old_sset hb, old_sget hb, Int.reduceToNat]
    exact ⟨fun x => by simp, (⟨IntKind.u8.wrap x1, IntKind.u8.wrap x2, IntKind.u8.wrap x3, 255⟩, j1), ⟨j0, j2⟩, rfl, rfl⟩
  · simp only [go_sem, Nat.reduceEqDiff, Nat.reduceAdd, Nat.reduceSub, Nat.reduceMul, Nat.reduceLT, Nat.reduceLeDiff, Int.reducePow, Int.reduceBEq, Int.reduceBNe, Int.reduceDiv, Int.reduceMod, Int.reduceEq, Int.reduceLT, Int.reduceLE, Int.reduceAdd, Int.reduceSub, Int.reduceMul, Int.reduceNeg, Int.reduceToNat, Int.reduceTDiv, Int.reduceTMod, ↓reduceIte, decide_eq_true htb, old_set hb, old_sset hb, old_sget hb, Int.reduceToNat]
    exact ⟨fun x => by simp, (⟨IntKind.u8.wrap x1, IntKind.u8.wrap x2, IntKind.u8.wrap x3, 255⟩, j1), ⟨j0, j2⟩, rfl, rfl⟩
  · simp only [go_sem, Nat.reduceEqDiff, Nat.reduceAdd, Nat.reduceSub, Nat.reduceMul, Nat.reduceLT, Nat.reduceLeDiff, Int.reducePow, Int.reduceBEq, Int.reduceBNe, Int.reduceDiv, Int.reduceMod, Int.reduceEq, Int.reduceLT, Int.reduceLE, Int.reduceAdd, Int.reduceSub, Int.reduceMul, Int.reduceNeg, Int.reduceToNat, Int.reduceTDiv, Int.reduceTMod, ↓reduceIte, decide_eq_true htb, old_set hb, old_sset hb, old_sget hb, Int.reduceToNat]
    exact ⟨fun x => by simp, (⟨IntKind.u8.wrap x1, IntKind.u8.wrap x2, IntKind.u8.wrap x3, 128⟩, j1), ⟨j0, j2⟩, rfl, rfl⟩
  · simp only [go_sem, Nat.reduceEqDiff, Nat.reduceAdd, Nat.reduceSub, Nat.reduceMul, Nat.reduceLT, Nat.reduceLeDiff, Int.reducePow, Int.reduceBEq, Int.reduceBNe, Int.reduceDiv, Int.reduceMod, Int.reduceEq, Int.reduceLT, Int.reduceLE, Int.reduceAdd, Int.reduceSub, Int.reduceMul, Int.reduceNeg, Int.reduceToNat, Int.reduceTDiv, Int.reduceTMod, ↓reduceIte, decide_eq_true htb, old_set hb, old_sset hb, old_sget hb, Int.reduceToNat]
    exact ⟨fun x => by simp, (⟨IntKind.u8.wrap x1, IntKind.u8.wrap x2, IntKind.u8.wrap x3, IntKind.u8.wrap x4⟩, j1), ⟨j0, j2⟩, rfl, rfl⟩
theorem near_sm {x : Int} (h : -67108864 ≤ x ∧ x ≤ 67108864) : nearB x = true := by unfold nearB; rw [dt h.1, dt h.2]; rfl
theorem kpaint_ (H : AH) {tb g : Nat} {lv : Value} {ls : List Int} (h : TapeAt H tb g lv ls) :
    Cal Tryz.prog 71 [ap tb 0 g] H fun v H' W' => ∃ r : Pnt × Int, (paintB r.1 = true ∧ 0 ≤ r.2 ∧ r.2 ≤ ls.length) ∧ v = pntV r.1 ∧ H' = H.set tb (tblk lv g r.2) ∧ W' = [tb] := by
  have htb := h.lt
  have hi0 := h.1
  have hb := (h.2).choose_spec.2.2
  refine none_of _ _ tb _ htb ?_ (fun r _ => rfl) (fun r _ => tape_ren hi0 _ _ _)
  refine XCal.of hm Tryz.func71 rfl (fun xs w => Tryz.call71 xs w) Tryz.ntmps71 Tryz.results71 rfl ?_
  (refine sg trivial ?_; try exact ⟨⟩)
  refine (next_ 3 (by omega) _ (h.app _)).x ?_
  rintro v H1 W1 ⟨⟨kd, a1⟩, ⟨b1, b2, a0, a2⟩, rfl, rfl, rfl⟩
  have b1 : 0 ≤ kd := b1
  have b2 : kd < 3 := b2
  (refine sg (et (decide_eq_true htb) (et (old_set hb) (et (old_sset hb) (old_sget hb)))) ?_; try exact ⟨⟩)
  refine (kcolor_ _ ((tape_set h ⟨a0, a2⟩).app _)).x ?_
  rintro v H1 W1 ⟨⟨ca, c1⟩, ⟨_, c0, c2⟩, rfl, rfl, rfl⟩
  (refine sg (et (decide_eq_true htb) (et (old_set hb) (et (old_sset hb) (old_sget hb)))) ?_; try exact ⟨⟩)
  refine (kcolor_ _ ((tape_set h ⟨c0, c2⟩).app _)).x ?_
  rintro v H1 W1 ⟨⟨cb, e1⟩, ⟨_, e0, e2⟩, rfl, rfl, rfl⟩
  by_cases k0 : kd = 0
  · (refine sg (et (decide_eq_true htb) (et (old_set hb) (et (old_sset hb) (et (old_sget hb) (nt k0))))) ?_; try exact ⟨⟩)
    refine ⟨fun x => by simp, (⟨kd, ca, cb, (0, 0), (0, 0), 0⟩, e1), ⟨?_, e0, e2⟩, rfl, rfl⟩
    unfold paintB
    simp only
    rw [dt (show 0 ≤ kd by omega), dt (show kd ≤ 2 by omega)]; rfl
  · (refine sg (et (decide_eq_true htb) (et (old_set hb) (et (old_sset hb) (et (old_sget hb) (nf k0))))) ?_; try exact ⟨⟩)
    refine (point_ (-4) 12 (by omega) (by omega) (by omega) _ ((tape_set h ⟨e0, e2⟩).app _)).x ?_
    rintro v H1 W1 ⟨⟨p, f1⟩, ⟨i1, i2, f0, f2⟩, rfl, rfl, rfl⟩
    (refine sg (et (decide_eq_true htb) (et (old_set hb) (et (old_sset hb) (old_sget hb)))) ?_; try exact ⟨⟩)
    refine (point_ (-4) 12 (by omega) (by omega) (by omega) _ ((tape_set h ⟨f0, f2⟩).app _)).x ?_
    rintro v H1 W1 ⟨⟨q, j1⟩, ⟨l1, l2, j0, j2⟩, rfl, rfl, rfl⟩
    (refine sg (et (decide_eq_true htb) (et (old_set hb) (et (old_sset hb) (old_sget hb)))) ?_; try exact ⟨⟩)
    refine (number_ 0 12 (by omega) (by omega) (by omega) _ ((tape_set h ⟨j0, j2⟩).app _)).x ?_
    rintro v H1 W1 ⟨⟨rr, m1⟩, ⟨n1, n2, m0, m2⟩, rfl, rfl, rfl⟩
    (refine sg (et (decide_eq_true htb) (et (old_set hb) (et (old_sset hb) (old_sget hb)))) ?_; try exact ⟨⟩)
    refine ⟨fun x => by simp, (⟨kd, ca, cb, p, q, rr⟩, m1), ⟨?_, m0, m2⟩, rfl, rfl⟩
    have i1 : -4 * 65536 ≤ p.1 ∧ p.1 < 12 * 65536 + 65536 := i1
    have i2 : -4 * 65536 ≤ p.2 ∧ p.2 < 12 * 65536 + 65536 := i2
    have l1 : -4 * 65536 ≤ q.1 ∧ q.1 < 12 * 65536 + 65536 := l1
    have l2 : -4 * 65536 ≤ q.2 ∧ q.2 < 12 * 65536 + 65536 := l2
    have n1 : 0 * 65536 ≤ rr := n1
    have n2 : rr < 12 * 65536 + 65536 := n2
    unfold paintB
    simp only
    rw [dt (show 0 ≤ kd by omega), dt (show kd ≤ 2 by omega), near_sm (by omega), near_sm (by omega), near_sm (by omega), near_sm (by omega), near_sm (by omega)]; rfl
end Go.Proofs.YtnebnbdeobcegaaGreat
/- Documents of a tape: the walk of keys. -/
namespace Go.Proofs.YtnebnbdeobcegaaGreat
open Go Go.RowKit E
attribute [local irreducible] XRun XOps XCode XCal XLoop XQ SemCall
set_option linter.unusedSimpArgs false
set_option linter.unusedVariables false
theorem keysGo_snoc {k : Ky} (ht : tickB k.t = true) (hh : howB k.how k.e = true) (hv : nearB k.v = true) : ∀ {l : List Ky} {f : Bool} {a : Int}, keysGo f a l = true → (∀ x ∈ l, x.t < k.t) → (f = true ∨ a < k.t) → keysGo f a (l ++ [k]) = true
  | [], f, a, _, _, h => by
    show (kstB f a k.t k.how k.e && nearB k.v && true) = true
    unfold kstB
    have : (f || decide (a < k.t)) = true := by rcases h with h | h; · rw [h]; rfl
                                                · rw [dt h, Bool.or_true]
    rw [ht, hh, hv, this]; rfl
  | x :: t, f, a, h, hl, _ => by
    rw [List.cons_append, keysGo]
    simp only [keysGo, Bool.and_eq_true] at h
    rw [h.1.1, h.1.2, keysGo_snoc ht hh hv h.2 (fun y hy => hl y (by simp [hy])) (.inr (hl x (by simp)))]; rfl
theorem tick_sm {t : Int} (h : -1073741824 ≤ t ∧ t ≤ 1073741824) : tickB t = true := by unfold tickB; rw [dt h.1, dt h.2]; rfl
/-- Rows of keys that a tape makes. -/
structure KW (l : List Ky) (n : Nat) : Prop where
  go : keysGo true 0 l = true
  len : l.length ≤ n
  low : ∀ x ∈ l, x.t < 60
theorem KW.keys {l : List Ky} {n : Nat} (h : KW l n) (hn : n ≤ 32) : keysB l = true := by
  unfold keysB; rw [h.go, dt (show (l.length : Int) ≤ 32 by have := h.len; omega)]; rfl
theorem Ints.olx {H J : AH} {t : Nat} {lv : Value} {ls : List Int} (h : Ints H t lv ls) (o : Olx t H J) : Ints J t lv ls := by
  rcases h with h | ⟨b, g, rest, rw_, h1, h2, h3, h4⟩
  · exact .inl h
  · exact .inr ⟨b, g, rest, rw_, h1, h2, o _ _ h2 h3, h4⟩
/-- What a tape's walk leaves: old blocks stand, but for the tape's own; things may have been added. -/
structure TpS (H K : AH) (tb g : Nat) (lv : Value) (ls : List Int) : Prop where
  base : TapeAt H tb g lv ls
  old : Olx tb H K
  len : H.length ≤ K.length
  tape : TapeAt K tb g lv ls
theorem TpS.refl {H : AH} {tb g : Nat} {lv : Value} {ls : List Int} (h : TapeAt H tb g lv ls) : TpS H H tb g lv ls := ⟨h, Olx.refl _ _, Nat.le_refl _, h⟩
theorem TpS.lt {H K : AH} {tb g : Nat} {lv : Value} {ls : List Int} (h : TpS H K tb g lv ls) : tb < H.length := h.base.lt
theorem TpS.step {H K : AH} {tb g : Nat} {lv : Value} {ls : List Int} (h : TpS H K tb g lv ls) {a : Int} (h1 : 0 ≤ a) (h2 : a ≤ ls.length) : TpS H (K.set tb (tblk lv g a)) tb g lv ls :=
  ⟨h.base, h.old.trans (Olx.set0 _ _ _), by have := h.len; simpa using this, h.tape.set h1 h2⟩
theorem TpS.app {H K : AH} {tb g : Nat} {lv : Value} {ls : List Int} (h : TpS H K tb g lv ls) (L : AH) : TpS H (K ++ L) tb g lv ls :=
  ⟨h.base, h.old.app L, by have := h.len; rw [List.length_append]; omega, h.tape.app L⟩
theorem TpS.trans {H K J : AH} {tb g : Nat} {lv : Value} {ls : List Int} (h : TpS H K tb g lv ls) (h' : TpS K J tb g lv ls) : TpS H J tb g lv ls :=
  ⟨h.base, h.old.trans h'.old, Nat.le_trans h.len h'.len, h'.tape⟩
theorem TpS.bo {H K J : AH} {tb g bo : Nat} {lv : Value} {ls : List Int} (h : TpS H K tb g lv ls) (hb : H.length ≤ bo) (o : Olx bo K J) (hl : K.length ≤ J.length) : TpS H J tb g lv ls := by
  have ho := h.old.bo hb o
  obtain ⟨_, a, h2, h3, h4⟩ := h.tape
  exact ⟨h.base, ho, Nat.le_trans h.len hl, Ints.olx h.base.1 ho, a, h2, h3, o _ _ (by have := h.lt; omega) h4⟩
set_option maxHeartbeats 4000000 in
theorem kkeys_ (lo hi : Int) (h0 : -1000 ≤ lo) (h1 : lo ≤ hi) (h2 : hi ≤ 1000) (H : AH) {tb g : Nat} {lv : Value} {ls : List Int} (h : TapeAt H tb g lv ls) :
    Cal Tryz.prog 40 [ap tb 0 g, .int .i64 lo, .int .i64 hi] H fun v H' W => SameW W [tb] ∧ TpS H H' tb g lv ls ∧ ∃ l, MkRow 7 KyE H.length H' v l ∧ KW l 3 := by
  have htb := h.lt
  have dtb : decide (tb < H.length) = true := dt htb
  have hT := TpS.refl h
  refine of_x ?_
  refine XCal.of hm Tryz.func40 rfl (fun xs w => Tryz.call40 xs w) Tryz.ntmps40 Tryz.results40 rfl ?_
  (refine sg trivial ?_; try exact ⟨⟩)
  refine (next_ 6 (by omega) _ h).x ?_
  rintro v H1 W1 ⟨⟨A0, a1⟩, ⟨A1, A2, a0, a2⟩, rfl, rfl, rfl⟩
  have A1 : 0 ≤ A0 := A1
  have A2 : A0 < 6 := A2
  have hT := hT.step (a := a1) a0 a2
  generalize H.set tb (tblk lv g a1) = K0 at *
  (refine sg dtb ?_; try exact ⟨⟩)
  refine (next_ 4 (by omega) _ hT.tape).x ?_
  rintro v H1 W1 ⟨⟨q, b1⟩, ⟨q0, q1, b0, b2⟩, rfl, rfl, rfl⟩
  have q0 : 0 ≤ q := q0
  have q1 : q < 4 := q1
  have hT := hT.step (a := b1) b0 b2
  generalize K0.set tb (tblk lv g b1) = K0' at *
  obtain ⟨nq, rfl⟩ : ∃ n : Nat, q = (n : Int) := ⟨q.toNat, by omega⟩
  (refine sg dtb ?_; try exact ⟨⟩)
  refine keep (fun k T K D => SameW D [tb] ∧ T 0 = ap tb 0 g ∧ T 1 = .int .i64 lo ∧ T 2 = .int .i64 hi ∧ T 9 = .int .i64 (k : Int) ∧ TpS H K tb g lv ls ∧ ∃ (l : List Ky) (A : Int), T 8 = .int .i64 A ∧ l.length + k = nq ∧ MkRow 7 KyE H.length K (T 7) l ∧ keysGo true 0 l = true ∧ (∀ x ∈ l, x.t < A) ∧ 0 ≤ A ∧ A ≤ 5 + 8 * (l.length : Int)) nq
    ⟨fun x => by simp, by (refine sg trivial ?_; try exact ⟨⟩), by (refine sg trivial ?_; try exact ⟨⟩), by (refine sg trivial ?_; try exact ⟨⟩), by (refine sg trivial ?_; try exact ⟨⟩), hT, [], A0, by (refine sg trivial ?_; try exact ⟨⟩), by simp, .inl ⟨rfl, by (refine sg trivial ?_; try exact ⟨⟩) <;> rfl⟩, rfl, (fun x hx => by cases hx), A1, by simp; omega⟩ ?_
  clear hT
  rintro k T K D ⟨hD, t0, t1, t2, t9, hT, l, A, t8, hlk, hM, hgo, hlow, hA0, hA1⟩
  by_cases hk : 0 < k
  · have w1 : IntKind.i64.wrap ((k : Int) - 1) = ((k - 1 : Nat) : Int) := by rw [wi (by omega) (by omega)]; omega
    generalize ht7 : T 7 = v7 at *
    (refine sg (et t0 (et t1 (et t2 (et t8 (et t9 (dt (show (0 : Int) < (k : Int) by omega))))))) ?_; try exact ⟨⟩)
    refine (number_ lo hi h1 (by omega) (by omega) _ hT.tape).x ?_
    rintro v H1 W1 ⟨⟨nn, c1⟩, ⟨n0, n1, c0, c2⟩, rfl, rfl, rfl⟩
    have n0 : lo * 65536 ≤ nn := n0
    have n1 : nn < hi * 65536 + 65536 := n1
    have hM := hM.olt (Olx.set0 tb K (tblk lv g c1)) htb
    have hT := hT.step (a := c1) c0 c2
    generalize K.set tb (tblk lv g c1) = K1 at *
    have kd : ∀ n, decide (K1.length + n < H.length) = false := fun n => df (by have := hT.len; omega)
    have kd0 : decide (K1.length < H.length) = false := df (by have := hT.len; omega)
    (refine sg (et t0 (et t1 (et t2 (et t8 (et t9 (et dtb (et kd kd0))))))) ?_; try exact ⟨⟩)
    refine (khow_ _ (hT.tape.app _)).x ?_
    rintro v H1 W1 ⟨⟨⟨hw, e⟩, d1⟩, ⟨hh, d0, d2⟩, rfl, rfl, rfl⟩
    have hh : howB hw e = true := hh
    rw [old_set (hT.tape.2).choose_spec.2.2]
    have hM := hM.olt (Olx.set0 tb K1 (tblk lv g d1)) htb
    have hT := hT.step (a := d1) d0 d2
    have hl2 : K1.length = (K1.set tb (tblk lv g d1)).length := by simp
    rw [hl2] at kd kd0 ⊢
    generalize K1.set tb (tblk lv g d1) = K2 at *
    clear hl2
    have hnew : keysGo true 0 (l ++ [⟨A, nn, hw, e⟩]) = true := keysGo_snoc (tick_sm (by simp only; omega)) hh (near_sm (by simp only; omega)) hgo hlow (.inl rfl)
    have hll : ((l ++ [(⟨A, nn, hw, e⟩ : Ky)]).length : Int) = l.length + 1 := by simp
    have w2 : IntKind.i64.wrap (A + 1) = A + 1 := wi (by omega) (by omega)
    have hD1 : SameW (D ++ [tb] ++ [tb]) [tb] := snoc (snoc hD)
    rcases hM with ⟨rfl, rfl⟩ | ⟨bo, go, cs, hbo, rfl, hkb, hcs, hel⟩
    · (refine sg (et t0 (et t1 (et t2 (et t8 (et t9 (et dtb (et kd (et kd0 ht7)))))))) ?_; try exact ⟨⟩)
      have hT3 := hT.app [⟨kyC ⟨A, nn, hw, e⟩, 0, true⟩, ⟨kyC ⟨A, nn, hw, e⟩, 0, true⟩, ⟨kyC ⟨A, nn, hw, e⟩, 0, true⟩]
      have hM3 : MkRow 7 KyE H.length (K2 ++ [⟨kyC ⟨A, nn, hw, e⟩, 0, true⟩, ⟨kyC ⟨A, nn, hw, e⟩, 0, true⟩, ⟨kyC ⟨A, nn, hw, e⟩, 0, true⟩]) (sl (K2.length + 2) 0 0 1 7) [⟨A, nn, hw, e⟩] :=
        MkRow.first (c := kyC ⟨A, nn, hw, e⟩) (fun J _ => rfl) rfl (by rw [hget_app]; rfl) (by have := hT.len; omega)
      refine (next_ 8 (by omega) _ hT3.tape).x ?_
      rintro v H1 W1 ⟨⟨x, f1⟩, ⟨x0, x1, f0, f2⟩, rfl, rfl, rfl⟩
      have x0 : 0 ≤ x := x0
      have x1 : x < 8 := x1
      have hT3 := hT3.step (a := f1) f0 f2
      have hM3 := hM3.olt (Olx.set0 tb _ (tblk lv g f1)) htb
      have w3 : IntKind.i64.wrap (A + 1 + x) = A + 1 + x := wi (by simp at hA1; omega) (by simp at hA1; omega)
      (refine sg (et t0 (et t1 (et t2 (et t8 (et t9 (et dtb (et kd (et kd0 (et w1 (et w2 w3)))))))))) ?_; try exact ⟨⟩)
      exact ⟨k - 1, by omega, snoc hD1, rfl, hT3, [⟨A, nn, hw, e⟩], A + 1 + x, rfl, by simp at hlk ⊢; omega, hM3, hnew, (fun y hy => by rw [List.mem_singleton.1 hy]; show A < _; omega), by omega, by simp at hA1 ⊢; omega⟩
    · have hlb := (List.getElem?_eq_some_iff.1 hkb).1
      have hfl := flatten_len (RowOf.all hcs hel)
      rw [hcs] at hfl
      have db0 : decide (bo < H.length) = false := df (by omega)
      have hsm : (l.length + 1) * 56 - 140737488355328 = 0 := Nat.sub_eq_zero_of_le (Nat.le_trans (Nat.mul_le_mul_right 56 (show l.length + 1 ≤ 11 by omega)) (by decide))
      have hsm2 : l.length + 1 - 140737488355328 = 0 := Nat.sub_eq_zero_of_le (Nat.le_trans (show l.length + 1 ≤ 11 by omega) (by decide))
      (refine sg (et t0 (et t1 (et t2 (et t8 (et t9 (et dtb (et kd (et kd0 (et ht7 (et (old_get hkb) (et (old_set hkb) (et hfl (et hsm (et hsm2 db0)))))))))))))) ?_; try exact ⟨⟩)
      have hT3 := (hT.bo hbo (Olx.set1 bo K2 [⟨kyC ⟨A, nn, hw, e⟩, 0, true⟩, ⟨kyC ⟨A, nn, hw, e⟩, 0, true⟩] ⟨cs.flatten ++ kyC ⟨A, nn, hw, e⟩, go + 1, true⟩) (by simp))
      have hM3 := MkRow.next (E := KyE) (n0 := H.length) (K := K2) (J := K2.set bo ⟨cs.flatten ++ kyC ⟨A, nn, hw, e⟩, go + 1, true⟩ ++ [⟨kyC ⟨A, nn, hw, e⟩, 0, true⟩, ⟨kyC ⟨A, nn, hw, e⟩, 0, true⟩]) (g' := go + 1) (x := ⟨A, nn, hw, e⟩) (c := kyC ⟨A, nn, hw, e⟩) hbo hcs hel (Olx.set1 _ _ _ _) (fun J _ => rfl) rfl (old_sget hkb _ _)
      refine (next_ 8 (by omega) _ hT3.tape).x ?_
      rintro v H1 W1 ⟨⟨x, f1⟩, ⟨x0, x1, f0, f2⟩, rfl, rfl, rfl⟩
      have x0 : 0 ≤ x := x0
      have x1 : x < 8 := x1
      have hT3 := hT3.step (a := f1) f0 f2
      have hM3 := hM3.olt (Olx.set0 tb _ (tblk lv g f1)) htb
      have w3 : IntKind.i64.wrap (A + 1 + x) = A + 1 + x := wi (by omega) (by omega)
      (refine sg (et t0 (et t1 (et t2 (et t8 (et t9 (et dtb (et kd (et kd0 (et db0 (et w1 (et w2 w3))))))))))) ?_; try exact ⟨⟩)
      exact ⟨k - 1, by omega, snoc hD1, rfl, hT3, l ++ [⟨A, nn, hw, e⟩], A + 1 + x, rfl, by rw [List.length_append]; show l.length + 1 + _ = nq; omega, hM3, hnew, (fun y hy => by
        rcases List.mem_append.1 hy with hy | hy
        · have := hlow y hy; omega
        · rw [List.mem_singleton.1 hy]; show A < _; omega), by omega, by omega⟩
  · have hk0 : k = 0 := by omega
    subst hk0
    (refine sg (et t0 (et t1 (et t2 (et t8 (et t9 (df (show ¬ (0 : Int) < ((0 : Nat) : Int) by omega))))))) ?_; try exact ⟨⟩)
    exact ⟨hD, hT, l, hM, hgo, by omega, fun y hy => by have := hlow y hy; omega⟩
end Go.Proofs.YtnebnbdeobcegaaGreat
