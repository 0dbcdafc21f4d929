/- Merged texts: Ref6 DocE DocH DocI Flat5. -/
import Derived.Test.YtlcdbangmbdlcaaGreatZA
/- Documents: the walk of what the document's own answer judges: the whole. -/
namespace Go.Proofs.YtlcdbangmbdlcaaGreat
open Go Go.RowKit E
attribute [local irreducible] XRun XOps XCode XCal XLoop XQ SemCall
set_option linter.unusedSimpArgs false
set_option linter.unusedVariables false
def orE (a b : Int) : Int := if ¬ a = 0 then a else b
theorem orE_assoc (a b c : Int) : orE (orE a b) c = orE a (orE b c) := by
  unfold orE
  by_cases h : a = 0
  · subst h; simp
  · rw [if_pos h, if_pos h, if_pos h]
theorem orE_z (b : Int) : orE 0 b = b := by unfold orE; rw [if_neg (fun x => x rfl)]
theorem orE_p {a : Int} (h : ¬ a = 0) (b : Int) : orE a b = a := by unfold orE; rw [if_pos h]
theorem cosE_cons (cs : List (List Ly)) (n : Nat) (c : List Ly) (t : List (List Ly)) : cosE cs n (c :: t) = orE (lysE cs n c 0 c) (cosE cs (n + 1) t) := rfl
def DcM (d : Dc) : Prop := ∀ c ∈ d.comps, ∀ l ∈ c, LyM l
set_option maxRecDepth 100000 in
set_option maxHeartbeats 8000000 in
theorem rright18_ (d : Dc) (v : Value) (H : AH) (h : Cos H v d.comps) (hz : DcM d) : SemCall Tryz.prog 21 [dcV d v] H (.int .i64 (rightE d)) H [] := by
  refine pure_of ?_ rfl
  obtain ⟨va, ve, hv⟩ := h.form
  subst hv
  obtain ⟨q, hq⟩ : ∃ q, rightE d = q := ⟨_, rfl⟩
  rw [hq]
  unfold rightE sizeB at hq
  by_cases n1 : (d.comps.length : Int) < 1
  · rw [dt n1, Bool.true_or, Bool.true_or, if_pos rfl] at hq
    subst hq
    refine XCal.of hm Tryz.func21 rfl (fun xs w => Tryz.call21 xs w) Tryz.ntmps21 Tryz.results21 rfl ?_
    (refine sg (dt n1) ?_; try exact ⟨⟩)
  by_cases n2 : 8 < (d.comps.length : Int)
  · rw [dt n2, Bool.or_true, Bool.true_or, if_pos rfl] at hq
    subst hq
    refine XCal.of hm Tryz.func21 rfl (fun xs w => Tryz.call21 xs w) Tryz.ntmps21 Tryz.results21 rfl ?_
    (refine sg (et (df n1) (dt n2)) ?_; try exact ⟨⟩)
  rw [df n1, df n2, Bool.false_or, Bool.false_or] at hq
  refine XCal.of hm Tryz.func21 rfl (fun xs w => Tryz.call21 xs w) Tryz.ntmps21 Tryz.results21 rfl ?_
  (refine sg (et (df n1) (df n2)) ?_; try exact ⟨⟩)
  obtain ⟨R, hR⟩ : ∃ R, (if (!tickB d.in_ || !tickB d.out || decide (d.out ≤ d.in_)) = true then (1 : Int) else if ¬ cosE d.comps 0 d.comps = 0 then cosE d.comps 0 d.comps else if 4 < deepE d.comps 0 ∨ 256 < nodesE d.comps 0 then 24 else 0) = R := ⟨_, rfl⟩
  rw [hR] at hq
  refine keep (fun r T K D => D = [] ∧ ∃ i : Nat, i + r = d.comps.length ∧ Old H K ∧ H.length + 1 ≤ K.length ∧ K[H.length]? = some ⟨[.int .i64 d.in_, .int .i64 d.out, .slice va d.comps.length ve], 0, true⟩ ∧ T 1 = ap H.length 0 0 ∧ T 20 = .slice va d.comps.length ve ∧ T 21 = .int .i64 (d.comps.length : Int) ∧ T 22 = .int .i64 (i : Int) ∧ (if ((d.comps.drop i).any fun c => decide (16 < (c.length : Int))) = true then 23 else R) = q) d.comps.length
    ⟨rfl, 0, by omega, Old.app' _ _, by simp, by rw [hget_app0]; rfl, by (refine sg trivial ?_; try exact ⟨⟩), by (refine sg trivial ?_; try exact ⟨⟩), by (refine sg trivial ?_; try exact ⟨⟩), by (refine sg trivial ?_; try exact ⟨⟩) <;> rfl, hq⟩ ?_
  clear hq
  rintro r T K D ⟨rfl, i, hir, o, hKl, g0, t1, t20, t21, t22, hq⟩
  have kd : ∀ n, decide (K.length + n < H.length) = false := fun n => df (by omega)
  have kd0 : decide (K.length < H.length) = false := df (by omega)
  by_cases hi : i < d.comps.length
  · obtain ⟨c, hx⟩ : ∃ c, d.comps[i]? = some c := ⟨_, List.getElem?_eq_getElem hi⟩
    obtain ⟨b, g, cells, rw_, cc, hve, hb, ⟨lv, hc, hlv⟩, hcl, hle, hld, hgt⟩ := h.at hx
    subst hc
    obtain ⟨la, le, hlf⟩ := hlv.form
    subst hlf
    have kb := o _ _ hb
    rw [hve] at t20
    rw [drop_at hx, List.any_cons] at hq
    have i1 : IntKind.i64.wrap ((i : Int) + 1) = ((i + 1 : Nat) : Int) := by rw [wi (by omega) (by omega)]; rfl
    have q0 : (0 : Int) ≤ (i : Int) := by omega
    have q1 : (i : Int) < (d.comps.length : Int) := by omega
    by_cases m1 : 16 < (c.length : Int)
    · rw [dt m1, Bool.true_or, if_pos rfl] at hq
      subst hq
      (refine sg (et t1 (et t20 (et t21 (et t22 (et (dt q1) (et q0 (et q1 (et Int.toNat_natCast (et Nat.zero_add (et kb (et hld (et kd (et kd0 (dt m1)))))))))))))) ?_; try exact ⟨⟩)
    · rw [df m1, Bool.false_or] at hq
      (refine sg (et t1 (et t20 (et t21 (et t22 (et (dt q1) (et q0 (et q1 (et Int.toNat_natCast (et Nat.zero_add (et kb (et hld (et kd (et kd0 (et (df m1) i1)))))))))))))) ?_; try exact ⟨⟩)
      exact ⟨r - 1, by omega, i + 1, by omega, o.app _, by omega, old_get g0 _, hve.symm, rfl, hq⟩
  rw [List.drop_eq_nil_of_le (by omega)] at hq
  have hq : R = q := hq
  subst hq
  have k1 := fun H => rtick18_ d.in_ H
  have k2 := fun H => rtick18_ d.out H
  have m3 : decide (d.out ≤ d.in_) = !decide (d.in_ < d.out) := by
    by_cases e : d.in_ < d.out
    · rw [dt e, df (show ¬ d.out ≤ d.in_ by omega)]; rfl
    · rw [df e, dt (show d.out ≤ d.in_ by omega)]; rfl
  generalize tickB d.in_ = p1 at *
  generalize tickB d.out = p2 at *
  cases p1
  case false =>
    rw [Bool.not_false, Bool.true_or, Bool.true_or, if_pos rfl] at hR
    subst hR
    (refine sg (et t1 (et t20 (et t21 (et t22 (et (df (show ¬ (i : Int) < (d.comps.length : Int) by omega)) g0))))) ?_; try exact ⟨⟩)
    repeat ((first | refine (k1 _).x ?_ | refine drawnF ?_ (by decide +kernel)); (refine sg (et t1 g0) ?_; try exact ⟨⟩))
  cases p2
  case false =>
    rw [Bool.not_true, Bool.not_false, Bool.false_or, Bool.true_or, if_pos rfl] at hR
    subst hR
    (refine sg (et t1 (et t20 (et t21 (et t22 (et (df (show ¬ (i : Int) < (d.comps.length : Int) by omega)) g0))))) ?_; try exact ⟨⟩)
    repeat ((first | refine (k1 _).x ?_ | refine (k2 _).x ?_ | refine drawnF ?_ (by decide +kernel)); (refine sg (et t1 g0) ?_; try exact ⟨⟩))
  by_cases m4 : d.out ≤ d.in_
  case pos =>
    rw [dt m4, Bool.or_true, if_pos rfl] at hR
    subst hR
    (refine sg (et t1 (et t20 (et t21 (et t22 (et (df (show ¬ (i : Int) < (d.comps.length : Int) by omega)) g0))))) ?_; try exact ⟨⟩)
    repeat ((first | refine (k1 _).x ?_ | refine (k2 _).x ?_ | refine drawnF ?_ (by decide +kernel)); (refine sg (et t1 (et g0 (dt m4))) ?_; try exact ⟨⟩))
  rw [Bool.not_true, df m4, Bool.or_self, Bool.or_self, if_neg (by decide)] at hR
  have hR : orE (cosE d.comps 0 d.comps) (if 4 < deepE d.comps 0 ∨ 256 < nodesE d.comps 0 then 24 else 0) = R := hR
  (refine sg (et t1 (et t20 (et t21 (et t22 (et (df (show ¬ (i : Int) < (d.comps.length : Int) by omega)) g0))))) ?_; try exact ⟨⟩)
  repeat ((first | refine (k1 _).x ?_ | refine (k2 _).x ?_ | refine drawnF ?_ (by decide +kernel)); (refine sg (et t1 (et g0 (df m4))) ?_; try exact ⟨⟩))
  obtain ⟨Z, hZ⟩ : ∃ Z, (if 4 < deepE d.comps 0 ∨ 256 < nodesE d.comps 0 then (24 : Int) else 0) = Z := ⟨_, rfl⟩
  rw [hZ] at hR
  refine keep (fun r T K D => D = [] ∧ ∃ i : Nat, i + r = d.comps.length ∧ Old H K ∧ H.length + 1 ≤ K.length ∧ K[H.length]? = some ⟨[.int .i64 d.in_, .int .i64 d.out, .slice va d.comps.length ve], 0, true⟩ ∧ T 1 = ap H.length 0 0 ∧ T 49 = .slice va d.comps.length ve ∧ T 50 = .int .i64 (d.comps.length : Int) ∧ T 51 = .int .i64 (i : Int) ∧ orE (cosE d.comps i (d.comps.drop i)) Z = R) d.comps.length
    ⟨rfl, 0, by omega, o, by omega, g0, by (refine sg t1 ?_; try exact ⟨⟩), by (refine sg trivial ?_; try exact ⟨⟩), by (refine sg trivial ?_; try exact ⟨⟩), by (refine sg trivial ?_; try exact ⟨⟩) <;> rfl, hR⟩ ?_
  clear hR t1 t20 t21 t22 g0 kd kd0 o hKl hir hi i
  rintro r T K D ⟨rfl, i, hir, o, hKl, g0, t1, t49, t50, t51, hR⟩
  have kd : ∀ n, decide (K.length + n < H.length) = false := fun n => df (by omega)
  have kd0 : decide (K.length < H.length) = false := df (by omega)
  by_cases hi : i < d.comps.length
  case neg =>
    rw [List.drop_eq_nil_of_le (by omega)] at hR
    have hR : orE 0 Z = R := hR
    rw [orE_z] at hR
    subst hR
    have c1 := rdeep_ d _ 0 K (h.old CoE.m o) (by omega)
    have c2 := rnodes_ d _ 0 K (h.old CoE.m o) (by omega)
    by_cases e1 : 4 < deepE d.comps 0
    · rw [if_pos (.inl e1)] at hZ
      subst hZ
      (refine sg (et t1 (et t49 (et t50 (et t51 (et (df (show ¬ (i : Int) < (d.comps.length : Int) by omega)) g0))))) ?_; try exact ⟨⟩)
      repeat ((first | refine (c1).x ?_ | refine (c2).x ?_ | refine drawnF ?_ (by decide +kernel)); (refine sg (et t1 (et g0 (dt e1))) ?_; try exact ⟨⟩))
    · by_cases e2 : 256 < nodesE d.comps 0
      · rw [if_pos (.inr e2)] at hZ
        subst hZ
        (refine sg (et t1 (et t49 (et t50 (et t51 (et (df (show ¬ (i : Int) < (d.comps.length : Int) by omega)) g0))))) ?_; try exact ⟨⟩)
        repeat ((first | refine (c1).x ?_ | refine (c2).x ?_ | refine drawnF ?_ (by decide +kernel)); (refine sg (et t1 (et g0 (et (df e1) (dt e2)))) ?_; try exact ⟨⟩))
      · rw [if_neg (by omega)] at hZ
        subst hZ
        (refine sg (et t1 (et t49 (et t50 (et t51 (et (df (show ¬ (i : Int) < (d.comps.length : Int) by omega)) g0))))) ?_; try exact ⟨⟩)
        repeat ((first | refine (c1).x ?_ | refine (c2).x ?_ | refine drawnF ?_ (by decide +kernel)); (refine sg (et t1 (et g0 (et (df e1) (df e2)))) ?_; try exact ⟨⟩))
  obtain ⟨c, hx⟩ : ∃ c, d.comps[i]? = some c := ⟨_, List.getElem?_eq_getElem hi⟩
  obtain ⟨b, g, cells, rw_, cc, hve, hb, ⟨lv, hc, hlv⟩, hcl, hle, hld, hgt⟩ := h.at hx
  subst hc
  obtain ⟨la, le, hlf⟩ := hlv.form
  subst hlf
  have hcl' := hlv.len
  have kb := o _ _ hb
  have t49' := t49
  rw [hve] at t49
  rw [drop_at hx, cosE_cons, orE_assoc] at hR
  have i1 : IntKind.i64.wrap ((i : Int) + 1) = ((i + 1 : Nat) : Int) := by rw [wi (by omega) (by omega)]; rfl
  have q0 : (0 : Int) ≤ (i : Int) := by omega
  have q1 : (i : Int) < (d.comps.length : Int) := by omega
  obtain ⟨Y, hY⟩ : ∃ Y, orE (cosE d.comps (i + 1) (d.comps.drop (i + 1))) Z = Y := ⟨_, rfl⟩
  rw [hY] at hR
  (refine sg (et t1 (et t49 (et t50 (et t51 (et (dt q1) (et q0 (et q1 (et Int.toNat_natCast (et Nat.zero_add (et kb (et hld (et kd kd0)))))))))))) ?_; try exact ⟨⟩)
  refine keep (fun r2 T K' D => D = [] ∧ ∃ k : Nat, k + r2 = c.length ∧ Old H K' ∧ H.length + 1 ≤ K'.length ∧ K'[H.length]? = some ⟨[.int .i64 d.in_, .int .i64 d.out, .slice va d.comps.length ve], 0, true⟩ ∧ T 1 = ap H.length 0 0 ∧ T 49 = .slice va d.comps.length ve ∧ T 50 = .int .i64 (d.comps.length : Int) ∧ T 51 = .int .i64 (i : Int) ∧ T 5 = .int .i64 (i : Int) ∧ T 57 = .slice la c.length le ∧ T 58 = .int .i64 (c.length : Int) ∧ T 59 = .int .i64 (k : Int) ∧ orE (lysE d.comps i c k (c.drop k)) Y = R) c.length
    ⟨rfl, 0, by omega, o.app _, by rw [List.length_append]; omega, old_get g0 _, by (refine sg t1 ?_; try exact ⟨⟩), by (refine sg t49' ?_; try exact ⟨⟩), by (refine sg t50 ?_; try exact ⟨⟩), by (refine sg t51 ?_; try exact ⟨⟩), by (refine sg trivial ?_; try exact ⟨⟩), by (refine sg trivial ?_; try exact ⟨⟩), by (refine sg trivial ?_; try exact ⟨⟩), by (refine sg trivial ?_; try exact ⟨⟩) <;> rfl, hR⟩ ?_
  clear hR t1 t49 t49' t50 t51 g0 kd kd0 kb
  rintro r2 T K' D ⟨rfl, k, hkr, o2, hKl2, g0, t1, t49, t50, t51, t5, t57, t58, t59, hR⟩
  have kd : ∀ n, decide (K'.length + n < H.length) = false := fun n => df (by omega)
  have kd0 : decide (K'.length < H.length) = false := df (by omega)
  by_cases hk : k < c.length
  case neg =>
    rw [List.drop_eq_nil_of_le (by omega)] at hR
    have hR : orE 0 Y = R := hR
    rw [orE_z] at hR
    subst hR
    (refine sg (et t1 (et t49 (et t50 (et t51 (et t5 (et t57 (et t58 (et t59 (et (df (show ¬ (k : Int) < (c.length : Int) by omega)) i1))))))))) ?_; try exact ⟨⟩)
    exact ⟨r - 1, by omega, i + 1, by omega, o2, by omega, g0, rfl, hY⟩
  obtain ⟨l, hkl⟩ : ∃ l, c[k]? = some l := ⟨_, List.getElem?_eq_getElem hk⟩
  obtain ⟨b2, g2, cells2, rw2, c2, hve2, hb2, ⟨v0, v1, v2, v3, v4, v5, v6, v7, v8, pm, vw, vh, vp, vc, vd, vda, vf, vt, rfl, hLV, hSV⟩, hcl2, hle2, hld2, hgt2⟩ := hlv.at hkl
  have kb2 := o2 _ _ hb2
  have hml := hz c (List.mem_of_getElem? hx) l (List.mem_of_getElem? hkl)
  rw [hve2] at t57
  rw [drop_at hkl] at hR
  simp only [lysE] at hR
  have j1 : IntKind.i64.wrap ((k : Int) + 1) = ((k + 1 : Nat) : Int) := by rw [wi (by omega) (by omega)]; rfl
  have p0 : (0 : Int) ≤ (k : Int) := by omega
  have p1 : (k : Int) < (c.length : Int) := by omega
  have k1 := rlayer18_ l v0 v1 v2 v3 v4 v5 v6 v7 v8 pm vw vh vp vc vd vda vf vt _ (hLV.old (o2.app [⟨lyVs l v0 v1 v2 v3 v4 v5 v6 v7 v8 pm vw vh vp vc vd vda vf vt, 0, true⟩])) (hSV.old (o2.app _)) hml
  have k2 := rtree18_ d (.slice va d.comps.length ve) i k c l hx hkl _ (h.old CoE.m (o2.app [⟨lyVs l v0 v1 v2 v3 v4 v5 v6 v7 v8 pm vw vh vp vc vd vda vf vt, 0, true⟩]))
  have g8 := old_get g0 [⟨lyVs l v0 v1 v2 v3 v4 v5 v6 v7 v8 pm vw vh vp vc vd vda vf vt, 0, true⟩]
  cases h1 : layerB l
  case false =>
    rw [h1, if_pos rfl, orE_p (by decide)] at hR
    subst hR
    rw [h1] at k1
    (refine sg (et t1 (et t49 (et t50 (et t51 (et t5 (et t57 (et t58 (et t59 (et (dt p1) (et p0 (et p1 (et Int.toNat_natCast (et Nat.zero_add (et kb2 (et hld2 (et kd kd0)))))))))))))))) ?_; try exact ⟨⟩)
    repeat ((first | refine (k1).x ?_ | refine drawnF ?_ (by decide +kernel)); (refine sg (et t1 (et t5 (et g8 (et kd kd0)))) ?_; try exact ⟨⟩))
  rw [h1, if_neg (by decide)] at hR
  rw [h1] at k1
  cases h2 : treeB d.comps i k c l
  case false =>
    rw [h2, if_pos rfl, orE_p (by decide)] at hR
    subst hR
    rw [h2] at k2
    (refine sg (et t1 (et t49 (et t50 (et t51 (et t5 (et t57 (et t58 (et t59 (et (dt p1) (et p0 (et p1 (et Int.toNat_natCast (et Nat.zero_add (et kb2 (et hld2 (et kd kd0)))))))))))))))) ?_; try exact ⟨⟩)
    repeat ((first | refine (k1).x ?_ | refine (k2).x ?_ | refine drawnF ?_ (by decide +kernel)); (refine sg (et t1 (et t5 (et g8 (et kd kd0)))) ?_; try exact ⟨⟩))
  rw [h2, if_neg (by decide)] at hR
  rw [h2] at k2
  (refine sg (et t1 (et t49 (et t50 (et t51 (et t5 (et t57 (et t58 (et t59 (et (dt p1) (et p0 (et p1 (et Int.toNat_natCast (et Nat.zero_add (et kb2 (et hld2 (et kd kd0)))))))))))))))) ?_; try exact ⟨⟩)
  repeat ((first | refine (k1).x ?_ | refine (k2).x ?_ | refine drawnF ?_ (by decide +kernel)); (refine sg (et t1 (et t49 (et t50 (et t51 (et t5 (et t57 (et t58 (et t59 (et g8 (et kd (et kd0 j1))))))))))) ?_; try exact ⟨⟩))
  exact ⟨r2 - 1, by omega, k + 1, by omega, o2.app _, by omega, hve2.symm, rfl, hR⟩
end Go.Proofs.YtlcdbangmbdlcaaGreat
/- Documents: the walk of some runs. -/
namespace Go.Proofs.YtlcdbangmbdlcaaGreat
open Go Go.RowKit E
attribute [local irreducible] XRun XOps XCode XCal XLoop XQ SemCall
set_option linter.unusedSimpArgs false
set_option linter.unusedVariables false
theorem RowOf.one {α : Type} {s : Nat} {E : AH → List Value → α → Prop} {K : AH} {b g : Nat} {rw_ : Bool} {c : List Value} {x : α} (hb : K[b]? = some ⟨c, g, rw_⟩) (hc : c.length = s) (hE : E K c x) : RowOf s E K (sl b 0 g 1 s) [x] :=
  .inr ⟨b, g, [], rw_, [c], rfl, by simpa using hb, rfl, by simp, fun i y hy => by
    cases i with
    | zero => simp at hy; subst hy; exact ⟨c, rfl, hc, hE⟩
    | succ i => simp at hy⟩
/-- A layer that is nothing but its parent and its end. -/
def lyD (p o : Int) : Ly := ⟨0, p, 0, 0, 0, o, 0, [], [], [], [], [], [], [], [], [], (false, []), sh00⟩
theorem dk1 : rightE ⟨0, 0, []⟩ = 23 := by decide +kernel
theorem dk2 : rightE ⟨0, 1, [[]]⟩ = 0 := by decide +kernel
end Go.Proofs.YtlcdbangmbdlcaaGreat
/- Documents of a tape: the walks of eases, ways, colours, paints. -/
namespace Go.Proofs.YtlcdbangmbdlcaaGreat
open Go Go.RowKit E
attribute [local irreducible] XRun XOps XCode XCal XLoop XQ SemCall
set_option linter.unusedSimpArgs false
set_option linter.unusedVariables false
theorem kease_ (H : AH) {tb g : Nat} {lv : Value} {ls : List Int} (h : TapeAt H tb g lv ls) :
    Cal Tryz.prog 72 [ap tb 0 g] H fun v H' W' => ∃ r : Ez × Int, (easeB r.1 = true ∧ 0 ≤ r.2 ∧ r.2 ≤ ls.length) ∧ v = ezV r.1 ∧ H' = H.set tb (tblk lv g r.2) ∧ W' = [tb] := by
  have htb := h.lt
  have hi0 := h.1
  have hb := (h.2).choose_spec.2.2
  refine none_of _ _ tb _ htb ?_ (fun r _ => rfl) (fun r _ => tape_ren hi0 _ _ _)
  refine XCal.of hm Tryz.func72 rfl (fun xs w => Tryz.call72 xs w) Tryz.ntmps72 Tryz.results72 rfl ?_
  (refine sg trivial ?_; try exact ⟨⟩)
  refine (next_ 65537 (by omega) _ (h.app _)).x ?_
  rintro v H1 W1 ⟨⟨x1, a1⟩, ⟨b1, b2, a0, a2⟩, rfl, rfl, rfl⟩
  (refine sg (et (decide_eq_true htb) (et (old_set hb) (et (old_sset hb) (old_sget hb)))) ?_; try exact ⟨⟩)
  refine (number_ (-1) 1 (by omega) (by omega) (by omega) _ ((tape_set h ⟨a0, a2⟩).app _)).x ?_
  rintro v H1 W1 ⟨⟨y1, c1⟩, ⟨d1, d2, c0, c2⟩, rfl, rfl, rfl⟩
  (refine sg (et (decide_eq_true htb) (et (old_set hb) (et (old_sset hb) (old_sget hb)))) ?_; try exact ⟨⟩)
  refine (next_ 65537 (by omega) _ ((tape_set h ⟨c0, c2⟩).app _)).x ?_
  rintro v H1 W1 ⟨⟨x2, e1⟩, ⟨f1, f2, e0, e2⟩, rfl, rfl, rfl⟩
  (refine sg (et (decide_eq_true htb) (et (old_set hb) (et (old_sset hb) (old_sget hb)))) ?_; try exact ⟨⟩)
  refine (number_ 0 2 (by omega) (by omega) (by omega) _ ((tape_set h ⟨e0, e2⟩).app _)).x ?_
  rintro v H1 W1 ⟨⟨y2, g1⟩, ⟨i1, i2, g0, g2⟩, rfl, rfl, rfl⟩
  (refine sg (et (decide_eq_true htb) (et (old_set hb) (et (old_sset hb) (old_sget hb)))) ?_; try exact ⟨⟩)
  have b1 : 0 ≤ x1 := b1
  have b2 : x1 < 65537 := b2
  have d1 : -1 * 65536 ≤ y1 := d1
  have d2 : y1 < 1 * 65536 + 65536 := d2
  have f1 : 0 ≤ x2 := f1
  have f2 : x2 < 65537 := f2
  have i1 : 0 * 65536 ≤ y2 := i1
  have i2 : y2 < 2 * 65536 + 65536 := i2
  refine ⟨fun x => by simp, (⟨x1, y1, x2, y2⟩, g1), ⟨?_, g0, g2⟩, rfl, rfl⟩
  unfold easeB
  simp only
  rw [dt (show 0 ≤ x1 by omega), dt (show x1 ≤ 65536 by omega), dt (show 0 ≤ x2 by omega), dt (show x2 ≤ 65536 by omega), dt (show -131072 ≤ y1 by omega), dt (show y1 ≤ 196608 by omega), dt (show -131072 ≤ y2 by omega), dt (show y2 ≤ 196608 by omega)]; rfl
theorem khow_ (H : AH) {tb g : Nat} {lv : Value} {ls : List Int} (h : TapeAt H tb g lv ls) :
    Cal Tryz.prog 49 [ap tb 0 g] H fun v H' W' => ∃ r : (Int × Ez) × Int, (howB r.1.1 r.1.2 = true ∧ 0 ≤ r.2 ∧ r.2 ≤ ls.length) ∧ v = .tuple [.int .i64 r.1.1, ezV r.1.2].toArray ∧ H' = H.set tb (tblk lv g r.2) ∧ W' = [tb] := by
  have htb := h.lt
  have hi0 := h.1
  have hb := (h.2).choose_spec.2.2
  refine none_of _ _ tb _ htb ?_ (fun r _ => rfl) (fun r _ => tape_ren hi0 _ _ _)
  refine XCal.of hm Tryz.func49 rfl (fun xs w => Tryz.call49 xs w) Tryz.ntmps49 Tryz.results49 rfl ?_
  (refine sg trivial ?_; try exact ⟨⟩)
  refine (next_ 4 (by omega) _ (h.app _)).x ?_
  rintro v H1 W1 ⟨⟨q, a1⟩, ⟨b1, b2, a0, a2⟩, rfl, rfl, rfl⟩
  by_cases q0 : q = 0
  · (refine sg (et (bt q0) (et (decide_eq_true htb) (et (old_set hb) (et (old_sset hb) (old_sget hb))))) ?_; try exact ⟨⟩)
    exact ⟨SameW.rfl', ((0, ez00), a1), ⟨rfl, a0, a2⟩, rfl, rfl⟩
  · by_cases q1 : q = 1
    · (refine sg (et (bf q0) (et (bt q1) (et (decide_eq_true htb) (et (old_set hb) (et (old_sset hb) (old_sget hb)))))) ?_; try exact ⟨⟩)
      refine (kease_ _ ((tape_set h ⟨a0, a2⟩).app _)).x ?_
      rintro v H1 W1 ⟨⟨e, c1⟩, ⟨he, c0, c2⟩, rfl, rfl, rfl⟩
      (refine sg (et (decide_eq_true htb) (et (old_set hb) (et (old_sset hb) (old_sget hb)))) ?_; try exact ⟨⟩)
      exact ⟨fun x => by simp, ((2, e), c1), ⟨he, c0, c2⟩, rfl, rfl⟩
    · (refine sg (et (bf q0) (et (bf q1) (et (decide_eq_true htb) (et (old_set hb) (et (old_sset hb) (old_sget hb)))))) ?_; try exact ⟨⟩)
      exact ⟨SameW.rfl', ((1, ez00), a1), ⟨rfl, a0, a2⟩, rfl, rfl⟩
theorem kcolor_ (H : AH) {tb g : Nat} {lv : Value} {ls : List Int} (h : TapeAt H tb g lv ls) :
    Cal Tryz.prog 52 [ap tb 0 g] H fun v H' W' => ∃ r : C4 × Int, (True ∧ 0 ≤ r.2 ∧ r.2 ≤ ls.length) ∧ v = .agg (c4C r.1).toArray ∧ H' = H.set tb (tblk lv g r.2) ∧ W' = [tb] := by
  have htb := h.lt
  have hi0 := h.1
  have hb := (h.2).choose_spec.2.2
  refine none_of _ _ tb _ htb ?_ (fun r _ => rfl) (fun r _ => tape_ren hi0 _ _ _)
  refine XCal.of hm Tryz.func52 rfl (fun xs w => Tryz.call52 xs w) Tryz.ntmps52 Tryz.results52 rfl ?_
  (refine sg trivial ?_; try exact ⟨⟩)
  refine (next_ 256 (by omega) _ (h.app _)).x ?_
  rintro v H1 W1 ⟨⟨x1, a1⟩, ⟨b1, b2, a0, a2⟩, rfl, rfl, rfl⟩
  (refine sg (et (decide_eq_true htb) (et (old_set hb) (et (old_sset hb) (old_sget hb)))) ?_; try exact ⟨⟩)
  refine (next_ 256 (by omega) _ ((tape_set h ⟨a0, a2⟩).app _)).x ?_
  rintro v H1 W1 ⟨⟨x2, c1⟩, ⟨d1, d2, c0, c2⟩, rfl, rfl, rfl⟩
  (refine sg (et (decide_eq_true htb) (et (old_set hb) (et (old_sset hb) (old_sget hb)))) ?_; try exact ⟨⟩)
  refine (next_ 256 (by omega) _ ((tape_set h ⟨c0, c2⟩).app _)).x ?_
  rintro v H1 W1 ⟨⟨x3, e1⟩, ⟨f1, f2, e0, e2⟩, rfl, rfl, rfl⟩
  (refine sg (et (decide_eq_true htb) (et (old_set hb) (et (old_sset hb) (old_sget hb)))) ?_; try exact ⟨⟩)
  refine (next_ 256 (by omega) _ ((tape_set h ⟨e0, e2⟩).app _)).x ?_
  rintro v H1 W1 ⟨⟨x4, g1⟩, ⟨i1, i2, g0, g2⟩, rfl, rfl, rfl⟩
  (refine sg (et (decide_eq_true htb) (et (old_set hb) (et (old_sset hb) (old_sget hb)))) ?_; try exact ⟨⟩)
  refine (next_ 4 (by omega) _ ((tape_set h ⟨g0, g2⟩).app _)).x ?_
  rintro v H1 W1 ⟨⟨q, j1⟩, ⟨k1, k2, j0, j2⟩, rfl, rfl, rfl⟩
  have k1 : 0 ≤ q := k1
  have k2 : q < 4 := k2
  obtain rfl | rfl | rfl | rfl : q = 0 ∨ q = 1 ∨ q = 2 ∨ q = 3 := by omega
  · simp only [go_sem, Nat.reduceEqDiff, Nat.reduceAdd, Nat.reduceSub, Nat.reduceMul, Nat.reduceLT, Nat.reduceLeDiff, Int.reducePow, Int.reduceBEq, Int.reduceBNe, Int.reduceDiv, Int.reduceMod, Int.reduceEq, Int.reduceLT, Int.reduceLE, Int.reduceAdd, Int.reduceSub, Int.reduceMul, Int.reduceNeg, Int.reduceToNat, Int.reduceTDiv, Int.reduceTMod, ↓reduceIte, decide_eq_true htb, old_set hb, old_sset hb, old_sget hb, Int.reduceToNat]
    exact ⟨fun x => by simp, (⟨IntKind.u8.wrap x1, IntKind.u8.wrap x2, IntKind.u8.wrap x3, 255⟩, j1), ⟨j0, j2⟩, rfl, rfl⟩
  · simp only [go_sem, Nat.reduceEqDiff, Nat.reduceAdd, Nat.reduceSub, Nat.reduceMul, Nat.reduceLT, Nat.reduceLeDiff, Int.reducePow, Int.reduceBEq, Int.reduceBNe, Int.reduceDiv, Int.reduceMod, Int.reduceEq, Int.reduceLT, Int.reduceLE, Int.reduceAdd, Int.reduceSub, Int.reduceMul, Int.reduceNeg, Int.reduceToNat, Int.reduceTDiv, Int.reduceTMod, ↓reduceIte, decide_eq_true htb, old_set hb, old_sset hb, old_sget hb, Int.reduceToNat]
    exact ⟨fun x => by simp, (⟨IntKind.u8.wrap x1, IntKind.u8.wrap x2, IntKind.u8.wrap x3, 255⟩, j1), ⟨j0, j2⟩, rfl, rfl⟩
  · simp only [go_sem, Nat.reduceEqDiff, Nat.reduceAdd, Nat.reduceSub, Nat.reduceMul, Nat.reduceLT, Nat.reduceLeDiff, Int.reducePow, Int.reduceBEq, Int.reduceBNe, Int.reduceDiv, Int.reduceMod, Int.reduceEq, Int.reduceLT, Int.reduceLE, Int.reduceAdd, Int.reduceSub, Int.reduceMul, Int.reduceNeg, Int.reduceToNat, Int.reduceTDiv, Int.reduceTMod, ↓reduceIte, decide_eq_true htb, old_set hb, old_sset hb, old_sget hb, Int.reduceToNat]
    exact ⟨fun x => by simp, (⟨IntKind.u8.wrap x1, IntKind.u8.wrap x2, IntKind.u8.wrap x3, 128⟩, j1), ⟨j0, j2⟩, rfl, rfl⟩
  · simp only [go_sem, Nat.reduceEqDiff, Nat.reduceAdd, Nat.reduceSub, Nat.reduceMul, Nat.reduceLT, Nat.reduceLeDiff, Int.reducePow, Int.reduceBEq, Int.reduceBNe, Int.reduceDiv, Int.reduceMod, Int.reduceEq, Int.reduceLT, Int.reduceLE, Int.reduceAdd, Int.reduceSub, Int.reduceMul, Int.reduceNeg, Int.reduceToNat, Int.reduceTDiv, Int.reduceTMod, ↓reduceIte, decide_eq_true htb, old_set hb, old_sset hb, old_sget hb, Int.reduceToNat]
    exact ⟨fun x => by simp, (⟨IntKind.u8.wrap x1, IntKind.u8.wrap x2, IntKind.u8.wrap x3, IntKind.u8.wrap x4⟩, j1), ⟨j0, j2⟩, rfl, rfl⟩
theorem near_sm {x : Int} (h : -67108864 ≤ x ∧ x ≤ 67108864) : nearB x = true := by unfold nearB; rw [dt h.1, dt h.2]; rfl
theorem kpaint_ (H : AH) {tb g : Nat} {lv : Value} {ls : List Int} (h : TapeAt H tb g lv ls) :
    Cal Tryz.prog 51 [ap tb 0 g] H fun v H' W' => ∃ r : Pnt × Int, (paintB r.1 = true ∧ 0 ≤ r.2 ∧ r.2 ≤ ls.length) ∧ v = pntV r.1 ∧ H' = H.set tb (tblk lv g r.2) ∧ W' = [tb] := by
  have htb := h.lt
  have hi0 := h.1
  have hb := (h.2).choose_spec.2.2
  refine none_of _ _ tb _ htb ?_ (fun r _ => rfl) (fun r _ => tape_ren hi0 _ _ _)
  refine XCal.of hm Tryz.func51 rfl (fun xs w => Tryz.call51 xs w) Tryz.ntmps51 Tryz.results51 rfl ?_
  (refine sg trivial ?_; try exact ⟨⟩)
  refine (next_ 3 (by omega) _ (h.app _)).x ?_
  rintro v H1 W1 ⟨⟨kd, a1⟩, ⟨b1, b2, a0, a2⟩, rfl, rfl, rfl⟩
  have b1 : 0 ≤ kd := b1
  have b2 : kd < 3 := b2
  (refine sg (et (decide_eq_true htb) (et (old_set hb) (et (old_sset hb) (old_sget hb)))) ?_; try exact ⟨⟩)
  refine (kcolor_ _ ((tape_set h ⟨a0, a2⟩).app _)).x ?_
  rintro v H1 W1 ⟨⟨ca, c1⟩, ⟨_, c0, c2⟩, rfl, rfl, rfl⟩
  (refine sg (et (decide_eq_true htb) (et (old_set hb) (et (old_sset hb) (old_sget hb)))) ?_; try exact ⟨⟩)
  refine (kcolor_ _ ((tape_set h ⟨c0, c2⟩).app _)).x ?_
  rintro v H1 W1 ⟨⟨cb, e1⟩, ⟨_, e0, e2⟩, rfl, rfl, rfl⟩
  by_cases k0 : kd = 0
  · (refine sg (et (decide_eq_true htb) (et (old_set hb) (et (old_sset hb) (et (old_sget hb) (nt k0))))) ?_; try exact ⟨⟩)
    refine ⟨fun x => by simp, (⟨kd, ca, cb, (0, 0), (0, 0), 0⟩, e1), ⟨?_, e0, e2⟩, rfl, rfl⟩
    unfold paintB
    simp only
    rw [dt (show 0 ≤ kd by omega), dt (show kd ≤ 2 by omega)]; rfl
  · (refine sg (et (decide_eq_true htb) (et (old_set hb) (et (old_sset hb) (et (old_sget hb) (nf k0))))) ?_; try exact ⟨⟩)
    refine (point_ (-4) 12 (by omega) (by omega) (by omega) _ ((tape_set h ⟨e0, e2⟩).app _)).x ?_
    rintro v H1 W1 ⟨⟨p, f1⟩, ⟨i1, i2, f0, f2⟩, rfl, rfl, rfl⟩
    (refine sg (et (decide_eq_true htb) (et (old_set hb) (et (old_sset hb) (old_sget hb)))) ?_; try exact ⟨⟩)
    refine (point_ (-4) 12 (by omega) (by omega) (by omega) _ ((tape_set h ⟨f0, f2⟩).app _)).x ?_
    rintro v H1 W1 ⟨⟨q, j1⟩, ⟨l1, l2, j0, j2⟩, rfl, rfl, rfl⟩
    (refine sg (et (decide_eq_true htb) (et (old_set hb) (et (old_sset hb) (old_sget hb)))) ?_; try exact ⟨⟩)
    refine (number_ 0 12 (by omega) (by omega) (by omega) _ ((tape_set h ⟨j0, j2⟩).app _)).x ?_
    rintro v H1 W1 ⟨⟨rr, m1⟩, ⟨n1, n2, m0, m2⟩, rfl, rfl, rfl⟩
    (refine sg (et (decide_eq_true htb) (et (old_set hb) (et (old_sset hb) (old_sget hb)))) ?_; try exact ⟨⟩)
    refine ⟨fun x => by simp, (⟨kd, ca, cb, p, q, rr⟩, m1), ⟨?_, m0, m2⟩, rfl, rfl⟩
    have i1 : -4 * 65536 ≤ p.1 ∧ p.1 < 12 * 65536 + 65536 := i1
    have i2 : -4 * 65536 ≤ p.2 ∧ p.2 < 12 * 65536 + 65536 := i2
    have l1 : -4 * 65536 ≤ q.1 ∧ q.1 < 12 * 65536 + 65536 := l1
    have l2 : -4 * 65536 ≤ q.2 ∧ q.2 < 12 * 65536 + 65536 := l2
    have n1 : 0 * 65536 ≤ rr := n1
    have n2 : rr < 12 * 65536 + 65536 := n2
    unfold paintB
    simp only
    rw [dt (show 0 ≤ kd by omega), dt (show kd ≤ 2 by omega), near_sm (by omega), near_sm (by omega), near_sm (by omega), near_sm (by omega), near_sm (by omega)]; rfl
end Go.Proofs.YtlcdbangmbdlcaaGreat
/- Documents of a tape: the walk of keys. -/
namespace Go.Proofs.YtlcdbangmbdlcaaGreat
open Go Go.RowKit E
attribute [local irreducible] XRun XOps XCode XCal XLoop XQ SemCall
set_option linter.unusedSimpArgs false
set_option linter.unusedVariables false
theorem keysGo_snoc {k : Ky} (ht : tickB k.t = true) (hh : howB k.how k.e = true) (hv : nearB k.v = true) : ∀ {l : List Ky} {f : Bool} {a : Int}, keysGo f a l = true → (∀ x ∈ l, x.t < k.t) → (f = true ∨ a < k.t) → keysGo f a (l ++ [k]) = true
  | [], f, a, _, _, h => by
    show (kstB f a k.t k.how k.e && nearB k.v && true) = true
    unfold kstB
    have : (f || decide (a < k.t)) = true := by rcases h with h | h; · rw [h]; rfl
                                                · rw [dt h, Bool.or_true]
    rw [ht, hh, hv, this]; rfl
  | x :: t, f, a, h, hl, _ => by
    rw [List.cons_append, keysGo]
    simp only [keysGo, Bool.and_eq_true] at h
    rw [h.1.1, h.1.2, keysGo_snoc ht hh hv h.2 (fun y hy => hl y (by simp [hy])) (.inr (hl x (by simp)))]; rfl
theorem tick_sm {t : Int} (h : -1073741824 ≤ t ∧ t ≤ 1073741824) : tickB t = true := by unfold tickB; rw [dt h.1, dt h.2]; rfl
/-- Rows of keys that a tape makes. -/
structure KW (l : List Ky) (n : Nat) : Prop where
  go : keysGo true 0 l = true
  len : l.length ≤ n
  low : ∀ x ∈ l, x.t < 60
theorem KW.keys {l : List Ky} {n : Nat} (h : KW l n) (hn : n ≤ 32) : keysB l = true := by
  unfold keysB; rw [h.go, dt (show (l.length : Int) ≤ 32 by have := h.len; omega)]; rfl
theorem Ints.olx {H J : AH} {t : Nat} {lv : Value} {ls : List Int} (h : Ints H t lv ls) (o : Olx t H J) : Ints J t lv ls := by
  rcases h with h | ⟨b, g, rest, rw_, h1, h2, h3, h4⟩
  · exact .inl h
  · exact .inr ⟨b, g, rest, rw_, h1, h2, o _ _ h2 h3, h4⟩
/-- What a tape's walk leaves: old blocks stand, but for the tape's own; things may have been added. -/
structure TpS (H K : AH) (tb g : Nat) (lv : Value) (ls : List Int) : Prop where
  base : TapeAt H tb g lv ls
  old : Olx tb H K
  len : H.length ≤ K.length
  tape : TapeAt K tb g lv ls
theorem TpS.refl {H : AH} {tb g : Nat} {lv : Value} {ls : List Int} (h : TapeAt H tb g lv ls) : TpS H H tb g lv ls := ⟨h, Olx.refl _ _, Nat.le_refl _, h⟩
theorem TpS.lt {H K : AH} {tb g : Nat} {lv : Value} {ls : List Int} (h : TpS H K tb g lv ls) : tb < H.length := h.base.lt
theorem TpS.step {H K : AH} {tb g : Nat} {lv : Value} {ls : List Int} (h : TpS H K tb g lv ls) {a : Int} (h1 : 0 ≤ a) (h2 : a ≤ ls.length) : TpS H (K.set tb (tblk lv g a)) tb g lv ls :=
  ⟨h.base, h.old.trans (Olx.set0 _ _ _), by have := h.len; simpa using this, h.tape.set h1 h2⟩
theorem TpS.app {H K : AH} {tb g : Nat} {lv : Value} {ls : List Int} (h : TpS H K tb g lv ls) (L : AH) : TpS H (K ++ L) tb g lv ls :=
  ⟨h.base, h.old.app L, by have := h.len; rw [List.length_append]; omega, h.tape.app L⟩
theorem TpS.trans {H K J : AH} {tb g : Nat} {lv : Value} {ls : List Int} (h : TpS H K tb g lv ls) (h' : TpS K J tb g lv ls) : TpS H J tb g lv ls :=
  ⟨h.base, h.old.trans h'.old, Nat.le_trans h.len h'.len, h'.tape⟩
theorem TpS.bo {H K J : AH} {tb g bo : Nat} {lv : Value} {ls : List Int} (h : TpS H K tb g lv ls) (hb : H.length ≤ bo) (o : Olx bo K J) (hl : K.length ≤ J.length) : TpS H J tb g lv ls := by
  have ho := h.old.bo hb o
  obtain ⟨_, a, h2, h3, h4⟩ := h.tape
  exact ⟨h.base, ho, Nat.le_trans h.len hl, Ints.olx h.base.1 ho, a, h2, h3, o _ _ (by have := h.lt; omega) h4⟩
set_option maxHeartbeats 4000000 in
theorem kkeys_ (lo hi : Int) (h0 : -1000 ≤ lo) (h1 : lo ≤ hi) (h2 : hi ≤ 1000) (H : AH) {tb g : Nat} {lv : Value} {ls : List Int} (h : TapeAt H tb g lv ls) :
    Cal Tryz.prog 25 [ap tb 0 g, .int .i64 lo, .int .i64 hi] H fun v H' W => SameW W [tb] ∧ TpS H H' tb g lv ls ∧ ∃ l, MkRow 7 KyE H.length H' v l ∧ KW l 3 := by
  have htb := h.lt
  have dtb : decide (tb < H.length) = true := dt htb
  have hT := TpS.refl h
  refine of_x ?_
  refine XCal.of hm Tryz.func25 rfl (fun xs w => Tryz.call25 xs w) Tryz.ntmps25 Tryz.results25 rfl ?_
  (refine sg trivial ?_; try exact ⟨⟩)
  refine (next_ 6 (by omega) _ h).x ?_
  rintro v H1 W1 ⟨⟨A0, a1⟩, ⟨A1, A2, a0, a2⟩, rfl, rfl, rfl⟩
  have A1 : 0 ≤ A0 := A1
  have A2 : A0 < 6 := A2
  have hT := hT.step (a := a1) a0 a2
  generalize H.set tb (tblk lv g a1) = K0 at *
  (refine sg dtb ?_; try exact ⟨⟩)
  refine (next_ 4 (by omega) _ hT.tape).x ?_
  rintro v H1 W1 ⟨⟨q, b1⟩, ⟨q0, q1, b0, b2⟩, rfl, rfl, rfl⟩
  have q0 : 0 ≤ q := q0
  have q1 : q < 4 := q1
  have hT := hT.step (a := b1) b0 b2
  generalize K0.set tb (tblk lv g b1) = K0' at *
  obtain ⟨nq, rfl⟩ : ∃ n : Nat, q = (n : Int) := ⟨q.toNat, by omega⟩
  (refine sg dtb ?_; try exact ⟨⟩)
  refine keep (fun k T K D => SameW D [tb] ∧ T 0 = ap tb 0 g ∧ T 1 = .int .i64 lo ∧ T 2 = .int .i64 hi ∧ T 9 = .int .i64 (k : Int) ∧ TpS H K tb g lv ls ∧ ∃ (l : List Ky) (A : Int), T 8 = .int .i64 A ∧ l.length + k = nq ∧ MkRow 7 KyE H.length K (T 7) l ∧ keysGo true 0 l = true ∧ (∀ x ∈ l, x.t < A) ∧ 0 ≤ A ∧ A ≤ 5 + 8 * (l.length : Int)) nq
    ⟨fun x => by simp, by (refine sg trivial ?_; try exact ⟨⟩), by (refine sg trivial ?_; try exact ⟨⟩), by (refine sg trivial ?_; try exact ⟨⟩), by (refine sg trivial ?_; try exact ⟨⟩), hT, [], A0, by (refine sg trivial ?_; try exact ⟨⟩), by simp, .inl ⟨rfl, by (refine sg trivial ?_; try exact ⟨⟩) <;> rfl⟩, rfl, (fun x hx => by cases hx), A1, by simp; omega⟩ ?_
  clear hT
  rintro k T K D ⟨hD, t0, t1, t2, t9, hT, l, A, t8, hlk, hM, hgo, hlow, hA0, hA1⟩
  by_cases hk : 0 < k
  · have w1 : IntKind.i64.wrap ((k : Int) - 1) = ((k - 1 : Nat) : Int) := by rw [wi (by omega) (by omega)]; omega
    generalize ht7 : T 7 = v7 at *
    (refine sg (et t0 (et t1 (et t2 (et t8 (et t9 (dt (show (0 : Int) < (k : Int) by omega))))))) ?_; try exact ⟨⟩)
    refine (number_ lo hi h1 (by omega) (by omega) _ hT.tape).x ?_
    rintro v H1 W1 ⟨⟨nn, c1⟩, ⟨n0, n1, c0, c2⟩, rfl, rfl, rfl⟩
    have n0 : lo * 65536 ≤ nn := n0
    have n1 : nn < hi * 65536 + 65536 := n1
    have hM := hM.olt (Olx.set0 tb K (tblk lv g c1)) htb
    have hT := hT.step (a := c1) c0 c2
    generalize K.set tb (tblk lv g c1) = K1 at *
    have kd : ∀ n, decide (K1.length + n < H.length) = false := fun n => df (by have := hT.len; omega)
    have kd0 : decide (K1.length < H.length) = false := df (by have := hT.len; omega)
    (refine sg (et t0 (et t1 (et t2 (et t8 (et t9 (et dtb (et kd kd0))))))) ?_; try exact ⟨⟩)
    refine (khow_ _ (hT.tape.app _)).x ?_
    rintro v H1 W1 ⟨⟨⟨hw, e⟩, d1⟩, ⟨hh, d0, d2⟩, rfl, rfl, rfl⟩
    have hh : howB hw e = true := hh
    rw [old_set (hT.tape.2).choose_spec.2.2]
    have hM := hM.olt (Olx.set0 tb K1 (tblk lv g d1)) htb
    have hT := hT.step (a := d1) d0 d2
    have hl2 : K1.length = (K1.set tb (tblk lv g d1)).length := by simp
    rw [hl2] at kd kd0 ⊢
    generalize K1.set tb (tblk lv g d1) = K2 at *
    clear hl2
    have hnew : keysGo true 0 (l ++ [⟨A, nn, hw, e⟩]) = true := keysGo_snoc (tick_sm (by simp only; omega)) hh (near_sm (by simp only; omega)) hgo hlow (.inl rfl)
    have hll : ((l ++ [(⟨A, nn, hw, e⟩ : Ky)]).length : Int) = l.length + 1 := by simp
    have w2 : IntKind.i64.wrap (A + 1) = A + 1 := wi (by omega) (by omega)
    have hD1 : SameW (D ++ [tb] ++ [tb]) [tb] := snoc (snoc hD)
    rcases hM with ⟨rfl, rfl⟩ | ⟨bo, go, cs, hbo, rfl, hkb, hcs, hel⟩
    · (refine sg (et t0 (et t1 (et t2 (et t8 (et t9 (et dtb (et kd (et kd0 ht7)))))))) ?_; try exact ⟨⟩)
      have hT3 := hT.app [⟨kyC ⟨A, nn, hw, e⟩, 0, true⟩, ⟨kyC ⟨A, nn, hw, e⟩, 0, true⟩, ⟨kyC ⟨A, nn, hw, e⟩, 0, true⟩]
      have hM3 : MkRow 7 KyE H.length (K2 ++ [⟨kyC ⟨A, nn, hw, e⟩, 0, true⟩, ⟨kyC ⟨A, nn, hw, e⟩, 0, true⟩, ⟨kyC ⟨A, nn, hw, e⟩, 0, true⟩]) (sl (K2.length + 2) 0 0 1 7) [⟨A, nn, hw, e⟩] :=
        MkRow.first (c := kyC ⟨A, nn, hw, e⟩) (fun J _ => rfl) rfl (by rw [hget_app]; rfl) (by have := hT.len; omega)
      refine (next_ 8 (by omega) _ hT3.tape).x ?_
      rintro v H1 W1 ⟨⟨x, f1⟩, ⟨x0, x1, f0, f2⟩, rfl, rfl, rfl⟩
      have x0 : 0 ≤ x := x0
      have x1 : x < 8 := x1
      have hT3 := hT3.step (a := f1) f0 f2
      have hM3 := hM3.olt (Olx.set0 tb _ (tblk lv g f1)) htb
      have w3 : IntKind.i64.wrap (A + 1 + x) = A + 1 + x := wi (by simp at hA1; omega) (by simp at hA1; omega)
      (refine sg (et t0 (et t1 (et t2 (et t8 (et t9 (et dtb (et kd (et kd0 (et w1 (et w2 w3)))))))))) ?_; try exact ⟨⟩)
      exact ⟨k - 1, by omega, snoc hD1, rfl, hT3, [⟨A, nn, hw, e⟩], A + 1 + x, rfl, by simp at hlk ⊢; omega, hM3, hnew, (fun y hy => by rw [List.mem_singleton.1 hy]; show A < _; omega), by omega, by simp at hA1 ⊢; omega⟩
    · have hlb := (List.getElem?_eq_some_iff.1 hkb).1
      have hfl := flatten_len (RowOf.all hcs hel)
      rw [hcs] at hfl
      have db0 : decide (bo < H.length) = false := df (by omega)
      have hsm : (l.length + 1) * 56 - 140737488355328 = 0 := Nat.sub_eq_zero_of_le (Nat.le_trans (Nat.mul_le_mul_right 56 (show l.length + 1 ≤ 11 by omega)) (by decide))
      have hsm2 : l.length + 1 - 140737488355328 = 0 := Nat.sub_eq_zero_of_le (Nat.le_trans (show l.length + 1 ≤ 11 by omega) (by decide))
      (refine sg (et t0 (et t1 (et t2 (et t8 (et t9 (et dtb (et kd (et kd0 (et ht7 (et (old_get hkb) (et (old_set hkb) (et hfl (et hsm (et hsm2 db0)))))))))))))) ?_; try exact ⟨⟩)
      have hT3 := (hT.bo hbo (Olx.set1 bo K2 [⟨kyC ⟨A, nn, hw, e⟩, 0, true⟩, ⟨kyC ⟨A, nn, hw, e⟩, 0, true⟩] ⟨cs.flatten ++ kyC ⟨A, nn, hw, e⟩, go + 1, true⟩) (by simp))
      have hM3 := MkRow.next (E := KyE) (n0 := H.length) (K := K2) (J := K2.set bo ⟨cs.flatten ++ kyC ⟨A, nn, hw, e⟩, go + 1, true⟩ ++ [⟨kyC ⟨A, nn, hw, e⟩, 0, true⟩, ⟨kyC ⟨A, nn, hw, e⟩, 0, true⟩]) (g' := go + 1) (x := ⟨A, nn, hw, e⟩) (c := kyC ⟨A, nn, hw, e⟩) hbo hcs hel (Olx.set1 _ _ _ _) (fun J _ => rfl) rfl (old_sget hkb _ _)
      refine (next_ 8 (by omega) _ hT3.tape).x ?_
      rintro v H1 W1 ⟨⟨x, f1⟩, ⟨x0, x1, f0, f2⟩, rfl, rfl, rfl⟩
      have x0 : 0 ≤ x := x0
      have x1 : x < 8 := x1
      have hT3 := hT3.step (a := f1) f0 f2
      have hM3 := hM3.olt (Olx.set0 tb _ (tblk lv g f1)) htb
      have w3 : IntKind.i64.wrap (A + 1 + x) = A + 1 + x := wi (by omega) (by omega)
      (refine sg (et t0 (et t1 (et t2 (et t8 (et t9 (et dtb (et kd (et kd0 (et db0 (et w1 (et w2 w3))))))))))) ?_; try exact ⟨⟩)
      exact ⟨k - 1, by omega, snoc hD1, rfl, hT3, l ++ [⟨A, nn, hw, e⟩], A + 1 + x, rfl, by rw [List.length_append]; show l.length + 1 + _ = nq; omega, hM3, hnew, (fun y hy => by
        rcases List.mem_append.1 hy with hy | hy
        · have := hlow y hy; omega
        · rw [List.mem_singleton.1 hy]; show A < _; omega), by omega, by omega⟩
  · have hk0 : k = 0 := by omega
    subst hk0
    (refine sg (et t0 (et t1 (et t2 (et t8 (et t9 (df (show ¬ (0 : Int) < ((0 : Nat) : Int) by omega))))))) ?_; try exact ⟨⟩)
    exact ⟨hD, hT, l, hM, hgo, by omega, fun y hy => by have := hlow y hy; omega⟩
end Go.Proofs.YtlcdbangmbdlcaaGreat
/- Chapter 8: the walk of the law on how many places there are. -/
namespace Go.Proofs.YtlcdbangmbdlcaaGreat
open Go Go.RowKit E
attribute [local irreducible] XRun XOps XCode XCal XLoop XQ SemCall
set_option linter.unusedSimpArgs false
set_option linter.unusedVariables false
theorem nearB_of {x : Int} (h : -131072 ≤ x ∧ x < 983040) : nearB x = true := by unfold nearB; rw [dt (show -67108864 ≤ x by omega), dt (show x ≤ 67108864 by omega)]; rfl
theorem nrp_of {p : Pt} (h : Bp p) : nrp p = true := by unfold nrp; rw [nearB_of h.1, nearB_of h.2]; rfl
theorem right_of (c : Bool) {l : List Pt} {parts : Nat} (hl : l.length = 3 * parts + 1) (hB : ∀ p ∈ l, Bp p) (h1 : 1 ≤ parts) (h2 : parts ≤ 32) : rightB c l = true := by
  unfold rightB
  rw [if_neg (by omega), dt (show (4 : Int) ≤ (l.length : Int) by omega), dt (show (l.length : Int) ≤ 97 by omega), List.all_eq_true.2 (fun p hp => nrp_of (hB p hp)), Int.tmod_eq_emod_of_nonneg (by omega), bt (show (l.length : Int) % 3 = 1 by omega)]; rfl
theorem newTape {H : AH} {t : Nat} {lv : Value} {ls : List Int} (h : Ints H t lv ls) (L L' : AH) (n : Nat) (hn : n = H.length + L.length) : TapeAt (H ++ (L ++ (tblk lv 0 0 :: L'))) n 0 lv ls := by
  subst hn
  refine ⟨(h.to (by omega)).app _, 0, by omega, by omega, ?_⟩
  rw [hget_app, List.getElem?_append_right (by omega), Nat.sub_self]; rfl
end Go.Proofs.YtlcdbangmbdlcaaGreat
