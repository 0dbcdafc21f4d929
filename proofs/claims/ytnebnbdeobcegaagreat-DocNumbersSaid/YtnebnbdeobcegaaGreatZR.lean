/- Merged texts: Doc9 DocA DocB DocC. -/
import Derived.Test.YtnebnbdeobcegaaGreatZQ
/- Documents: the walks of what judges where layers stand. -/
namespace Go.Proofs.YtnebnbdeobcegaaGreat
open Go Go.RowKit E
attribute [local irreducible] XRun XOps XCode XCal XLoop XQ SemCall
set_option linter.unusedSimpArgs false
set_option linter.unusedVariables false
theorem lys_cell {H : AH} {v : Value} {c : List Ly} (h : Lys H v c) {i : Nat} {x : Ly} (hx : c[i]? = some x) : ∃ b g cells rw_, v = sl b 0 g c.length 50 ∧ H[b]? = some ⟨cells, g, rw_⟩ ∧ cells[i * 50 + 1]? = some (.int .i64 x.parent) ∧ cells[i * 50 + 3]? = some (.int .i64 x.matte) := by
  obtain ⟨b, g, cells, rw_, cs, hve, hb, hc, hcl, hle, hld, hgt⟩ := h.at hx
  obtain ⟨v0, v1, v2, v3, v4, v5, v6, v7, v8, pm, vw, vh, vp, vc, vd, vda, vf, vt, rfl, _, _⟩ := hc
  exact ⟨b, g, cells, rw_, hve, hb, hgt 1 (by omega), hgt 3 (by omega)⟩
theorem parents_at {c : List Ly} {i : Nat} {x : Ly} (h : c[i]? = some x) : (Ly.parents c)[i]? = some x.parent := by
  unfold Ly.parents; rw [List.getElem?_map, h]; rfl
theorem parents_len (c : List Ly) : (Ly.parents c).length = c.length := by unfold Ly.parents; rw [List.length_map]
set_option maxHeartbeats 4000000 in
theorem rings_ (c : List Ly) (v : Value) (k : Nat) (hk : k < c.length) (H : AH) (h : Lys H v c) : SemCall Tryz.prog 99 [.agg [v].toArray, .int .i64 (k : Int)] H (.bool (ringsB (Ly.parents c) k)) H [] := by
  refine pure_of ?_ rfl
  have hlen := h.len
  obtain ⟨x, hx⟩ : ∃ x, c[k]? = some x := ⟨_, List.getElem?_eq_getElem hk⟩
  obtain ⟨b, g, cells, rw_, hve, hb, hcp, _⟩ := lys_cell h hx
  subst hve
  have q0 : ∀ n : Nat, (0 : Int) ≤ (n : Int) := fun n => by omega
  have q1 : (k : Int) < (c.length : Int) := by omega
  have hr0 : ringsB (Ly.parents c) k = ringGo (Ly.parents c) k c.length x.parent := by unfold ringsB; rw [parents_at hx, parents_len]; rfl
  refine XCal.of hm Tryz.func99 rfl (fun xs w => Tryz.call99 xs w) Tryz.ntmps99 Tryz.results99 rfl ?_
  (refine sg (et q0 (et q1 (et Int.toNat_natCast (et Nat.zero_add (et hb (et (old_get hb) hcp)))))) ?_; try exact ⟨⟩)
  have g0 : (H ++ [(⟨[sl b 0 g c.length 50], 0, true⟩ : Blk)])[H.length]? = some ⟨[sl b 0 g c.length 50], 0, true⟩ := by rw [hget_app0]; rfl
  have gb := old_get hb [(⟨[sl b 0 g c.length 50], 0, true⟩ : Blk)]
  generalize H ++ [(⟨[sl b 0 g c.length 50], 0, true⟩ : Blk)] = K at *
  refine keep (fun n T K' D => D = [] ∧ K = K' ∧ ∃ (i : Nat) (a : Int), i + n = c.length ∧ ringsB (Ly.parents c) k = ringGo (Ly.parents c) k n a ∧ T 1 = .int .i64 (k : Int) ∧ T 2 = ap H.length 0 0 ∧ T 5 = .int .i64 a ∧ T 14 = .int .i64 (c.length : Int) ∧ T 15 = .int .i64 (i : Int)) c.length
    ⟨rfl, rfl, 0, x.parent, by omega, hr0, by (refine sg trivial ?_; try exact ⟨⟩), by (refine sg trivial ?_; try exact ⟨⟩), by (refine sg trivial ?_; try exact ⟨⟩), by (refine sg trivial ?_; try exact ⟨⟩), by (refine sg trivial ?_; try exact ⟨⟩) <;> rfl⟩ ?_
  rintro n T K' D ⟨rfl, rfl, i, a, hin, hr, t1, t2, t5, t14, t15⟩
  by_cases hi : i < c.length
  · obtain ⟨n', rfl⟩ : ∃ n', n = n' + 1 := ⟨n - 1, by omega⟩
    have w1 : IntKind.i64.wrap ((i : Int) + 1) = ((i + 1 : Nat) : Int) := by rw [wi (by omega) (by omega)]; rfl
    rw [ringGo] at hr
    by_cases ha : a = (k : Int)
    · rw [if_pos ha] at hr
      (refine sg (et t1 (et t2 (et t5 (et t14 (et t15 (et (dt (show (i : Int) < (c.length : Int) by omega)) (bt ha))))))) ?_; try exact ⟨⟩)
      rw [hr]
    · rw [if_neg ha, parents_len] at hr
      have th := fun H => dthere_ a (c.length : Int) H
      by_cases hth : 0 ≤ a ∧ a < (c.length : Int)
      · rw [if_pos hth] at hr
        obtain ⟨m, rfl⟩ : ∃ m : Nat, a = (m : Int) := ⟨a.toNat, by omega⟩
        obtain ⟨y, hy⟩ : ∃ y, c[m]? = some y := ⟨_, List.getElem?_eq_getElem (by omega)⟩
        obtain ⟨b', g', cells', rw', hve', hb', hcp', _⟩ := lys_cell h hy
        cases hve'
        rw [hb] at hb'
        cases hb'
        rw [Int.toNat_natCast, parents_at hy] at hr
        have hr : ringsB (Ly.parents c) k = ringGo (Ly.parents c) k n' y.parent := hr
        rw [dt hth.1, dt hth.2, Bool.and_self] at th
        (refine sg (et t1 (et t2 (et t5 (et t14 (et t15 (et (dt (show (i : Int) < (c.length : Int) by omega)) (et (bf ha) g0))))))) ?_; try exact ⟨⟩)
        refine (th _).x ?_
        (refine sg (et t1 (et t2 (et t5 (et t14 (et t15 (et g0 (et gb (et q0 (et hth.2 (et Int.toNat_natCast (et Nat.zero_add (et hcp' w1)))))))))))) ?_; try exact ⟨⟩)
        exact ⟨n', by omega, i + 1, y.parent, by omega, hr, rfl, rfl⟩
      · rw [if_neg hth] at hr
        have : (decide (0 ≤ a) && decide (a < (c.length : Int))) = false := by
          by_cases h1 : 0 ≤ a
          · rw [df (show ¬ a < (c.length : Int) by omega), Bool.and_false]
          · rw [df h1, Bool.false_and]
        rw [this] at th
        (refine sg (et t1 (et t2 (et t5 (et t14 (et t15 (et (dt (show (i : Int) < (c.length : Int) by omega)) (et (bf ha) g0))))))) ?_; try exact ⟨⟩)
        refine (th _).x ?_
        (refine sg (et t1 (et t2 (et t5 (et t14 t15)))) ?_; try exact ⟨⟩)
        rw [hr]
  · have hn : n = 0 := by omega
    subst hn
    (refine sg (et t1 (et t2 (et t5 (et t14 (et t15 (df (show ¬ (i : Int) < (c.length : Int) by omega))))))) ?_; try exact ⟨⟩)
    rw [hr]; rfl
theorem bch (M Y K C : Bool) : (M = false ∧ K = false) ∨ (M = false ∧ K = true ∧ C = false) ∨ (M = false ∧ K = true ∧ C = true) ∨ (M = true ∧ Y = true) ∨ (M = true ∧ Y = false ∧ K = false) ∨ (M = true ∧ Y = false ∧ K = true ∧ C = false) ∨ (M = true ∧ Y = false ∧ K = true ∧ C = true) := by
  cases M <;> cases Y <;> cases K <;> cases C <;> simp
set_option maxHeartbeats 4000000 in
theorem tree_ (d : Dc) (v : Value) (n k : Nat) (c : List Ly) (l : Ly) (hn : d.comps[n]? = some c) (hk : c[k]? = some l) (H : AH) (h : Cos H v d.comps) : SemCall Tryz.prog 64 [dcV d v, .int .i64 (n : Int), .int .i64 (k : Int)] H (.bool (treeB d.comps n k c l)) H [] := by
  refine pure_of ?_ rfl
  have hlen := h.len
  have hnl := (List.getElem?_eq_some_iff.1 hn).1
  have hkl := (List.getElem?_eq_some_iff.1 hk).1
  obtain ⟨b, g, cells, rw_, cs, hve, hb, ⟨w, rfl, hw⟩, hcl, hle, hld, hgt⟩ := h.at hn
  have hwlen := hw.len
  subst hve
  obtain ⟨b2, g2, cells2, rw2, cs2, hwe, hb2, hLy, hcl2, hle2, hld2, hgt2⟩ := hw.at hk
  obtain ⟨v0, v1, v2, v3, v4, v5, v6, v7, v8, pm, vw, vh, vp, vc, vd, vda, vf, vt, rfl, _, _⟩ := hLy
  subst hwe
  have q0 : ∀ n : Nat, (0 : Int) ≤ (n : Int) := fun n => by omega
  have q1 : (n : Int) < (d.comps.length : Int) := by omega
  have q2 : (k : Int) < (c.length : Int) := by omega
  have r1 := fun L => rings_ c (sl b2 0 g2 c.length 50) k hkl (H ++ L) (hw.old LyE.m (Old.app' H L))
  have th1 := fun H => dthere_ l.parent (c.length : Int) H
  have th2 := fun H => dthere_ l.comp (d.comps.length : Int) H
  obtain ⟨q, hq⟩ : ∃ q, treeB d.comps n k c l = q := ⟨_, rfl⟩
  rw [hq]
  unfold treeB at hq
  generalize hP : (l.parent != -1) = P at *
  generalize (decide (0 ≤ l.parent) && decide (l.parent < (c.length : Int))) = Th at *
  generalize ringsB (Ly.parents c) k = R at *
  generalize hM : (l.matte != 0) = M at *
  generalize hK : (l.kind == 1) = Kd at *
  generalize (decide (0 ≤ l.comp) && decide (l.comp < (d.comps.length : Int))) = C at *
  generalize hD : decide ((n : Int) < l.comp) = Dd at *
  have hK' : (l.kind != 1) = !Kd := by rw [← hK]; rfl
  have tail : (P && !Th || R) = false → @XCal Tryz.prog 64 [dcV d (sl b 0 g d.comps.length 1), .int .i64 (n : Int), .int .i64 (k : Int)] H ⟨fun v' _ W' => v' = .bool q ∧ W' = []⟩ := fun hA => by
    rw [hA] at hq
    have hR : R = false := by cases R with | false => rfl | true => simp at hA
    subst hR
    have hPT : P = false ∨ Th = true := by cases P <;> cases Th <;> simp_all
    by_cases hk0 : k = 0
    · have e0 : ((k : Int) == 0) = true := bt (by omega)
      rw [e0] at hq
      rcases hPT with rfl | rfl
      case' inr => cases P
      all_goals
        cases M
        case' false => cases Kd
        case' false.true => cases C
      all_goals
        simp only [Bool.false_and, Bool.true_and, Bool.and_true, Bool.and_false, Bool.not_true, Bool.not_false, Bool.false_or, Bool.true_or, Bool.or_true, Bool.or_false] at hq
        subst hq
        refine XCal.of hm Tryz.func64 rfl (fun xs w => Tryz.call64 xs w) Tryz.ntmps64 Tryz.results64 rfl ?_
        (refine sg (et q0 (et q1 (et q2 (et Int.toNat_natCast (et Nat.zero_add (et hb (et hld (et hb2 (et hld2 (et (old_get hb) (et (old_get hb2) hP))))))))))) ?_; try exact ⟨⟩)
        repeat ((first | refine (th1 _).x ?_ | refine (th2 _).x ?_ | refine (r1 _).x ?_ | refine drawnF ?_ (by decide +kernel)); (refine sg (et q0 (et q1 (et q2 (et hP (et hM (et hK' (et hD (et e0 (et Bool.not_true Bool.not_false))))))))) ?_; try exact ⟨⟩))
    · obtain ⟨y, hy⟩ : ∃ y, c[k - 1]? = some y := ⟨_, List.getElem?_eq_getElem (by omega)⟩
      obtain ⟨b', g', cells', rw', hve', hb', _, hmt⟩ := lys_cell hw hy
      cases hve'
      rw [hb2] at hb'
      cases hb'
      have e0 : ((k : Int) == 0) = false := bf (by omega)
      have w1 : IntKind.i64.wrap ((k : Int) - 1) = ((k - 1 : Nat) : Int) := by rw [wi (by omega) (by omega)]; omega
      have q3 : ((k - 1 : Nat) : Int) < (c.length : Int) := by omega
      rw [e0, hy] at hq
      have hq : (!(false || false) && !(M && (false || (y.matte != 0))) && (!Kd || (C && Dd))) = q := by simpa using hq
      generalize hY : (y.matte != 0) = Y at *
      rcases hPT with rfl | rfl
      case' inr => cases P
      all_goals
        rcases bch M Y Kd C with ⟨rfl, rfl⟩ | ⟨rfl, rfl, rfl⟩ | ⟨rfl, rfl, rfl⟩ | ⟨rfl, rfl⟩ | ⟨rfl, rfl, rfl⟩ | ⟨rfl, rfl, rfl, rfl⟩ | ⟨rfl, rfl, rfl, rfl⟩
      all_goals
        simp only [Bool.false_and, Bool.true_and, Bool.and_true, Bool.and_false, Bool.not_true, Bool.not_false, Bool.false_or, Bool.true_or, Bool.or_true, Bool.or_false, Bool.or_self] at hq
        subst hq
        refine XCal.of hm Tryz.func64 rfl (fun xs w => Tryz.call64 xs w) Tryz.ntmps64 Tryz.results64 rfl ?_
        (refine sg (et q0 (et q1 (et q2 (et Int.toNat_natCast (et Nat.zero_add (et hb (et hld (et hb2 (et hld2 (et (old_get hb) (et (old_get hb2) hP))))))))))) ?_; try exact ⟨⟩)
        repeat ((first | refine (th1 _).x ?_ | refine (th2 _).x ?_ | refine (r1 _).x ?_ | refine drawnF ?_ (by decide +kernel)); (refine sg (et q0 (et q1 (et q2 (et q3 (et w1 (et hP (et hM (et hK' (et hD (et hY (et e0 (et hmt (et (old_get hb2) (et Int.toNat_natCast (et Nat.zero_add (et Bool.not_true Bool.not_false)))))))))))))))) ?_; try exact ⟨⟩))
  cases hA : (P && !Th || R) with
  | false => exact tail hA
  | true =>
    rw [hA] at hq
    simp only [Bool.not_true, Bool.false_and] at hq
    subst hq
    cases P
    case' true => cases Th
    all_goals
      simp only [Bool.false_and, Bool.true_and, Bool.not_true, Bool.not_false, Bool.false_or, Bool.true_or] at hA
    all_goals
      try subst hA
      refine XCal.of hm Tryz.func64 rfl (fun xs w => Tryz.call64 xs w) Tryz.ntmps64 Tryz.results64 rfl ?_
      (refine sg (et q0 (et q1 (et q2 (et Int.toNat_natCast (et Nat.zero_add (et hb (et hld (et hb2 (et hld2 (et (old_get hb) (et (old_get hb2) hP))))))))))) ?_; try exact ⟨⟩)
      repeat ((first | refine (th1 _).x ?_ | refine (th2 _).x ?_ | refine (r1 _).x ?_ | refine drawnF ?_ (by decide +kernel)); (refine sg (et q0 (et q1 (et q2 (et hP (et Bool.not_true Bool.not_false))))) ?_; try exact ⟨⟩))
end Go.Proofs.YtnebnbdeobcegaaGreat
/- Documents: the walk of what judges all layers. -/
namespace Go.Proofs.YtnebnbdeobcegaaGreat
open Go Go.RowKit E
attribute [local irreducible] XRun XOps XCode XCal XLoop XQ SemCall
set_option linter.unusedSimpArgs false
set_option linter.unusedVariables false
set_option maxHeartbeats 4000000 in
theorem layers_ (d : Dc) (v : Value) (H : AH) (h : Cos H v d.comps) : SemCall Tryz.prog 27 [dcV d v] H (.int .i64 (cosE d.comps 0 d.comps)) H [] := by
  refine pure_of ?_ rfl
  have hlen := h.len
  obtain ⟨va, ve, hv⟩ := h.form
  subst hv
  refine XCal.of hm Tryz.func27 rfl (fun xs w => Tryz.call27 xs w) Tryz.ntmps27 Tryz.results27 rfl ?_
  (refine sg trivial ?_; try exact ⟨⟩)
  have g0 : (H ++ [(⟨[.int .i64 d.in_, .int .i64 d.out, .slice va d.comps.length ve], 0, true⟩ : Blk)])[H.length]? = some ⟨[.int .i64 d.in_, .int .i64 d.out, .slice va d.comps.length ve], 0, true⟩ := by rw [hget_app0]; rfl
  have hL : H.length + 1 ≤ (H ++ [(⟨[.int .i64 d.in_, .int .i64 d.out, .slice va d.comps.length ve], 0, true⟩ : Blk)]).length := by simp
  have h := h.old CoE.m (Old.app' H [(⟨[.int .i64 d.in_, .int .i64 d.out, .slice va d.comps.length ve], 0, true⟩ : Blk)])
  generalize H ++ [(⟨[.int .i64 d.in_, .int .i64 d.out, .slice va d.comps.length ve], 0, true⟩ : Blk)] = K0 at *
  refine keep (fun r T K D => D = [] ∧ ∃ n : Nat, n + r = d.comps.length ∧ Old K0 K ∧ K0.length ≤ K.length ∧ cosE d.comps 0 d.comps = cosE d.comps n (d.comps.drop n) ∧ T 1 = ap H.length 0 0 ∧ T 8 = .slice va d.comps.length ve ∧ T 9 = .int .i64 (d.comps.length : Int) ∧ T 10 = .int .i64 (n : Int)) d.comps.length
    ⟨rfl, 0, by omega, Old.refl _, by omega, rfl, by (refine sg trivial ?_; try exact ⟨⟩), by (refine sg trivial ?_; try exact ⟨⟩), by (refine sg trivial ?_; try exact ⟨⟩), by (refine sg trivial ?_; try exact ⟨⟩) <;> rfl⟩ ?_
  rintro r T K D ⟨rfl, n, hnr, hold, hKl, hr, t1, t8, t9, t10⟩
  have kd : ∀ n, decide (K.length + n < H.length) = false := fun n => df (by omega)
  have kd0 : decide (K.length < H.length) = false := df (by omega)
  by_cases hn : n < d.comps.length
  · obtain ⟨c, hc⟩ : ∃ c, d.comps[n]? = some c := ⟨_, List.getElem?_eq_getElem hn⟩
    obtain ⟨b, g, cells, rw_, cs, hve, hb, ⟨w, rfl, hw⟩, hcl, hle, hld, hgt⟩ := h.at hc
    have hwlen := hw.len
    have kb := hold _ _ hb
    obtain ⟨wa, we, hwf⟩ := hw.form
    subst hwf
    rw [drop_at hc, cosE] at hr
    rw [hve] at t8
    have q0 : ∀ n : Nat, (0 : Int) ≤ (n : Int) := fun n => by omega
    have q1 : (n : Int) < (d.comps.length : Int) := by omega
    have w1 : IntKind.i64.wrap ((n : Int) + 1) = ((n + 1 : Nat) : Int) := by rw [wi (by omega) (by omega)]; rfl
    (refine sg (et t1 (et t8 (et t9 (et t10 (et (dt q1) (et q0 (et q1 (et Int.toNat_natCast (et Nat.zero_add (et kb (et hld (et kd kd0)))))))))))) ?_; try exact ⟨⟩)
    have o1 : Old K0 (K ++ [(⟨[.slice wa c.length we], 0, true⟩ : Blk)]) := hold.app _
    have hK1 : K0.length ≤ (K ++ [(⟨[.slice wa c.length we], 0, true⟩ : Blk)]).length := by simp; omega
    clear hold kb
    generalize K ++ [(⟨[.slice wa c.length we], 0, true⟩ : Blk)] = K1 at *
    clear kd kd0
    refine keep (fun r' T K D => D = [] ∧ ∃ k : Nat, k + r' = c.length ∧ Old K0 K ∧ K0.length ≤ K.length ∧ lysE d.comps n c 0 c = lysE d.comps n c k (c.drop k) ∧ T 1 = ap H.length 0 0 ∧ T 3 = .int .i64 (n : Int) ∧ T 8 = sl b 0 g d.comps.length 1 ∧ T 9 = .int .i64 (d.comps.length : Int) ∧ T 10 = .int .i64 (n : Int) ∧ T 16 = .slice wa c.length we ∧ T 17 = .int .i64 (c.length : Int) ∧ T 18 = .int .i64 (k : Int)) c.length
      ⟨rfl, 0, by omega, o1, hK1, rfl, by (refine sg t1 ?_; try exact ⟨⟩), by (refine sg trivial ?_; try exact ⟨⟩), by (refine sg t8 ?_; try exact ⟨⟩), by (refine sg t9 ?_; try exact ⟨⟩), by (refine sg t10 ?_; try exact ⟨⟩), by (refine sg trivial ?_; try exact ⟨⟩), by (refine sg trivial ?_; try exact ⟨⟩), by (refine sg trivial ?_; try exact ⟨⟩) <;> rfl⟩ ?_
    clear t1 t8 t9 t10
    rintro r' T K D ⟨rfl, k, hkr, hold, hKl, hlr, t1, t3, t8, t9, t10, t16, t17, t18⟩
    have kd : ∀ n, decide (K.length + n < H.length) = false := fun n => df (by omega)
    have kd0 : decide (K.length < H.length) = false := df (by omega)
    by_cases hk : k < c.length
    · obtain ⟨l, hl⟩ : ∃ l, c[k]? = some l := ⟨_, List.getElem?_eq_getElem hk⟩
      obtain ⟨b2, g2, cells2, rw2, cs2, hwe, hb2, hLy, hcl2, hle2, hld2, hgt2⟩ := hw.at hl
      obtain ⟨v0, v1, v2, v3, v4, v5, v6, v7, v8, pm, vw, vh, vp, vc, vd, vda, vf, vt, rfl, hLV, hSV⟩ := hLy
      have kb2 := hold _ _ hb2
      rw [drop_at hl, lysE] at hlr
      rw [hwe] at t16
      have q2 : (k : Int) < (c.length : Int) := by omega
      have w2 : IntKind.i64.wrap ((k : Int) + 1) = ((k + 1 : Nat) : Int) := by rw [wi (by omega) (by omega)]; rfl
      have c1 := fun L => layer_ l v0 v1 v2 v3 v4 v5 v6 v7 v8 pm vw vh vp vc vd vda vf vt (K ++ L) (hLV.old (hold.app L)) (hSV.old (hold.app L))
      have c2 := fun L => tree_ d (.slice va d.comps.length ve) n k c l hc hl (K ++ L) (h.old CoE.m (hold.app L))
      have kg := hold _ _ g0
      cases h1 : layerB l with
      | false =>
        rw [h1] at hlr c1
        rw [if_pos rfl] at hlr
        rw [hlr, if_pos (by decide)] at hr
        (refine sg (et t1 (et t3 (et t8 (et t9 (et t10 (et t16 (et t17 (et t18 (et (dt q2) (et q0 (et q2 (et Int.toNat_natCast (et Nat.zero_add (et kb2 (et hld2 (et kd kd0)))))))))))))))) ?_; try exact ⟨⟩)
        refine (c1 _).x ?_
        (refine sg (et t1 (et t3 (et t8 (et t9 (et t10 (et t16 (et t17 (et t18 (et kd kd0))))))))) ?_; try exact ⟨⟩)
        rw [hr]
      | true =>
        rw [h1] at hlr c1
        rw [if_neg (by decide)] at hlr
        cases h2 : treeB d.comps n k c l with
        | false =>
          rw [h2] at hlr c2
          rw [if_pos rfl] at hlr
          rw [hlr, if_pos (by decide)] at hr
          (refine sg (et t1 (et t3 (et t8 (et t9 (et t10 (et t16 (et t17 (et t18 (et (dt q2) (et q0 (et q2 (et Int.toNat_natCast (et Nat.zero_add (et kb2 (et hld2 (et kd kd0)))))))))))))))) ?_; try exact ⟨⟩)
          refine (c1 _).x ?_
          (refine sg (et t1 (et t3 (et t8 (et t9 (et t10 (et t16 (et t17 (et t18 (old_get kg))))))))) ?_; try exact ⟨⟩)
          refine (c2 _).x ?_
          (refine sg (et t1 (et t3 (et t8 (et t9 (et t10 (et t16 (et t17 (et t18 (et kd kd0))))))))) ?_; try exact ⟨⟩)
          rw [hr]
        | true =>
          rw [h2] at hlr c2
          rw [if_neg (by decide)] at hlr
          (refine sg (et t1 (et t3 (et t8 (et t9 (et t10 (et t16 (et t17 (et t18 (et (dt q2) (et q0 (et q2 (et Int.toNat_natCast (et Nat.zero_add (et kb2 (et hld2 (et kd kd0)))))))))))))))) ?_; try exact ⟨⟩)
          refine (c1 _).x ?_
          (refine sg (et t1 (et t3 (et t8 (et t9 (et t10 (et t16 (et t17 (et t18 (old_get kg))))))))) ?_; try exact ⟨⟩)
          refine (c2 _).x ?_
          (refine sg (et t1 (et t3 (et t8 (et t9 (et t10 (et t16 (et t17 (et t18 (et kd (et kd0 w2)))))))))) ?_; try exact ⟨⟩)
          exact ⟨r' - 1, by omega, k + 1, by omega, hold.app _, by omega, hlr, hwe.symm, rfl⟩
    · rw [List.drop_eq_nil_of_le (by omega)] at hlr
      have hlr : lysE d.comps n c 0 c = 0 := hlr
      rw [hlr, if_neg (by decide)] at hr
      (refine sg (et t1 (et t3 (et t8 (et t9 (et t10 (et t16 (et t17 (et t18 (et (df (show ¬ (k : Int) < (c.length : Int) by omega)) w1))))))))) ?_; try exact ⟨⟩)
      exact ⟨r - 1, by omega, n + 1, by omega, hold, by omega, hr, hve.symm, rfl⟩
  · rw [List.drop_eq_nil_of_le (by omega)] at hr
    (refine sg (et t1 (et t8 (et t9 (et t10 (df (show ¬ (n : Int) < (d.comps.length : Int) by omega)))))) ?_; try exact ⟨⟩)
    rw [hr]; rfl
end Go.Proofs.YtnebnbdeobcegaaGreat
/- Documents: the walk of what counts something of each comp. -/
namespace Go.Proofs.YtnebnbdeobcegaaGreat
open Go Go.RowKit E
attribute [local irreducible] XRun XOps XCode XCal XLoop XQ SemCall
set_option linter.unusedSimpArgs false
set_option linter.unusedVariables false
theorem dintC_len (l : List Int) : (intC l).length = l.length := by simp [intC]
theorem dzrep_int : ∀ n : Nat, zrep [.int .i64 0] n = intC (List.replicate n 0)
  | 0 => rfl
  | n + 1 => by
    rw [List.replicate_succ]
    show _ ++ zrep [.int .i64 0] n = [.int .i64 0] ++ intC (List.replicate n 0)
    rw [dzrep_int n]
theorem damkI (n : Nat) (h : n ≤ 1000) : amake Tryz.prog 26 (.int .i64 (n : Int)) (.int .i64 (n : Int)) = some (intC (List.replicate n 0), 1, n) := by
  have hb : tby Tryz.prog 3 = some 8 := by kernel_rfl
  unfold amake
  (refine sg hb ?_; try exact ⟨⟩)
  rw [if_pos (by simp; omega), Int.toNat_natCast, dzrep_int]
theorem dintC_set (l : List Int) (i : Nat) (v : Int) : (intC l).set i (.int .i64 v) = intC (l.set i v) := by
  simp only [intC, List.map_set]
theorem dint_ast (H : AH) (l : List Int) {d : Nat} (hd : d < l.length) (v : Int) (b g : Nat) : ast H (some ⟨intC l, g, true⟩) (some [.int .i64 v]) (some 1) b d g = some (H.set b ⟨intC (l.set d v), g, true⟩, b) := by
  have := dintC_len l
  have e : (intC l).set d (.int .i64 v) = (intC l).take d ++ .int .i64 v :: (intC l).drop (d + 1) := by rw [List.set_eq_take_append_cons_drop, if_pos (by omega)]
  rw [ast_some (s := 1) rfl (by omega), ← dintC_set, e, splice_def]
  simp
theorem dint_get {l : List Int} {i : Nat} {x : Int} (h : l[i]? = some x) : (intC l)[i]? = some (.int .i64 x) := by
  unfold intC; rw [List.getElem?_map, h]; rfl
def innF (r : List Int) (c n : Nat) (l : Ly) : Int := if l.kind = 1 ∧ (c : Int) < l.comp ∧ l.comp < c + 1 + (n : Int) then ((r[(l.comp - (c + 1)).toNat]?).getD 0) else 0
theorem cntGo_cons (f : Int → Ly → Int → Int) (z : Int) (c : Nat) (ls : List Ly) (rest : List (List Ly)) : cntGo f z c (ls :: rest) = ls.foldl (fun n l => f n l (innF (cntGo f z (c + 1) rest) c rest.length l)) z :: cntGo f z (c + 1) rest := rfl
theorem cntGo_len (f : Int → Ly → Int → Int) (z : Int) : ∀ (cs : List (List Ly)) (c : Nat), (cntGo f z c cs).length = cs.length
  | [], c => rfl
  | ls :: rest, c => by rw [cntGo_cons, List.length_cons, List.length_cons, cntGo_len f z rest]
/-- Bounds: of what is counted by a suffix of s comps. -/
structure CB (f : Int → Ly → Int → Int) (z : Int) (X : Nat → Int) (N : Nat) : Prop where
  z0 : ∀ s, s < N → 0 ≤ z ∧ z ≤ X (s + 1)
  step : ∀ s n i l, s < N → 0 ≤ n → n ≤ X (s + 1) → 0 ≤ i → i ≤ X s → 0 ≤ f n l i ∧ f n l i ≤ X (s + 1)
  up : ∀ s, s < N → X s ≤ X (s + 1)
  x0 : 0 ≤ X 0
  top : ∀ s, s ≤ N → X s ≤ 1000000
theorem CB.mono {f : Int → Ly → Int → Int} {z : Int} {X : Nat → Int} {N : Nat} (h : CB f z X N) : ∀ (s t : Nat), s + t ≤ N → X s ≤ X (s + t)
  | s, 0, _ => by rw [Nat.add_zero]; exact Int.le_refl _
  | s, t + 1, ht => by have := h.mono s t (by omega); have := h.up (s + t) (by omega); rw [← Nat.add_assoc]; omega
theorem foldl_b {f : Int → Ly → Int → Int} {hi hi' : Int} {inn : Ly → Int} (h : ∀ n i l, 0 ≤ n → n ≤ hi → 0 ≤ i → i ≤ hi' → 0 ≤ f n l i ∧ f n l i ≤ hi) (hinn : ∀ l, 0 ≤ inn l ∧ inn l ≤ hi') : ∀ (ls : List Ly) (n : Int), 0 ≤ n → n ≤ hi → 0 ≤ ls.foldl (fun n l => f n l (inn l)) n ∧ ls.foldl (fun n l => f n l (inn l)) n ≤ hi
  | [], n, h0, h1 => ⟨h0, h1⟩
  | l :: t, n, h0, h1 => by
    have := h n (inn l) l h0 h1 (hinn l).1 (hinn l).2
    exact foldl_b h hinn t _ this.1 this.2
theorem innF_b {r : List Int} {M : Int} (h : ∀ x ∈ r, 0 ≤ x ∧ x ≤ M) (hM : 0 ≤ M) (c n : Nat) (l : Ly) : 0 ≤ innF r c n l ∧ innF r c n l ≤ M := by
  unfold innF
  split
  · cases hg : r[(l.comp - (c + 1)).toNat]? with
    | none => exact ⟨Int.le_refl _, hM⟩
    | some x => exact h x (List.mem_of_getElem? hg)
  · exact ⟨Int.le_refl _, hM⟩
theorem cntGo_b {f : Int → Ly → Int → Int} {z : Int} {X : Nat → Int} {N : Nat} (h : CB f z X N) : ∀ (cs : List (List Ly)) (c : Nat), cs.length ≤ N → ∀ x ∈ cntGo f z c cs, 0 ≤ x ∧ x ≤ X cs.length
  | [], c, _, x, hx => by cases hx
  | ls :: rest, c, hl, x, hx => by
    rw [List.length_cons] at hl ⊢
    have ih := cntGo_b h rest (c + 1) (by omega)
    rw [cntGo_cons] at hx
    have hX : 0 ≤ X rest.length := by
      have := h.mono 0 rest.length (by omega); rw [Nat.zero_add] at this; have := h.x0; omega
    rcases List.mem_cons.1 hx with rfl | hx
    · have z0 := h.z0 rest.length (by omega)
      exact foldl_b (fun n i l a b c d => h.step rest.length n i l (by omega) a b c d) (fun l => innF_b ih hX _ _ l) ls z z0.1 z0.2
    · have := ih x hx; have := h.up rest.length (by omega); omega
set_option maxHeartbeats 4000000 in
theorem counts_ (fid : FuncId) (f : Int → Ly → Int → Int) (z : Int) (X : Nat → Int) (d : Dc) (v : Value) (H : AH) (h : Cos H v d.comps) (hl : d.comps.length ≤ 1000) (hB : CB f z X d.comps.length)
    (hf : ∀ (n i : Int) (l : Ly) (K : AH) v0 v1 v2 v3 v4 v5 v6 v7 v8 pm vw vh vp vc vd vda vf vt, 0 ≤ n → n ≤ 1000000 → 0 ≤ i → i ≤ 1000000 → SemCall Tryz.prog fid [.int .i64 n, .agg (lyVs l v0 v1 v2 v3 v4 v5 v6 v7 v8 pm vw vh vp vc vd vda vf vt).toArray, .int .i64 i] K (.int .i64 (f n l i)) K []) :
    Cal Tryz.prog 43 [dcV d v, .int .i64 z, .func (.func fid) [].toArray [].toArray] H fun v' H' W => W = [] ∧ (∃ L, H' = H ++ L) ∧ ∃ b, v' = sl b 0 0 d.comps.length 1 ∧ H'[b]? = some ⟨intC (cntGo f z 0 d.comps), 0, true⟩ := by
  refine adds_of ?_
  obtain ⟨va, ve, hv⟩ := h.form
  subst hv
  have w0 : IntKind.i64.wrap ((d.comps.length : Int) - 1) = (d.comps.length : Int) - 1 := wi (by omega) (by omega)
  refine XCal.of hm Tryz.func43 rfl (fun xs w => Tryz.call43 xs w) Tryz.ntmps43 Tryz.results43 rfl ?_
  (refine sg (et (damkI d.comps.length hl) w0) ?_; try exact ⟨⟩)
  have hK0l : H.length + 2 ≤ (H ++ [(⟨[.int .i64 d.in_, .int .i64 d.out, .slice va d.comps.length ve], 0, true⟩ : Blk), ⟨intC (List.replicate d.comps.length 0), 0, true⟩]).length := by simp
  have g0 : (H ++ [(⟨[.int .i64 d.in_, .int .i64 d.out, .slice va d.comps.length ve], 0, true⟩ : Blk), ⟨intC (List.replicate d.comps.length 0), 0, true⟩])[H.length]? = some ⟨[.int .i64 d.in_, .int .i64 d.out, .slice va d.comps.length ve], 0, true⟩ := by rw [hget_app0]; rfl
  have g1 : (H ++ [(⟨[.int .i64 d.in_, .int .i64 d.out, .slice va d.comps.length ve], 0, true⟩ : Blk), ⟨intC (List.replicate d.comps.length 0), 0, true⟩])[H.length + 1]? = some ⟨intC (List.replicate d.comps.length 0), 0, true⟩ := by rw [hget_app]; rfl
  have oH : Old H (H ++ [(⟨[.int .i64 d.in_, .int .i64 d.out, .slice va d.comps.length ve], 0, true⟩ : Blk), ⟨intC (List.replicate d.comps.length 0), 0, true⟩]) := Old.app' _ _
  generalize H ++ [(⟨[.int .i64 d.in_, .int .i64 d.out, .slice va d.comps.length ve], 0, true⟩ : Blk), ⟨intC (List.replicate d.comps.length 0), 0, true⟩] = K0 at *
  refine keep (fun r T K D => D = [] ∧ r ≤ d.comps.length ∧ ∃ cur : List Int, cur.length = d.comps.length ∧ cur.drop r = cntGo f z r (d.comps.drop r) ∧ Olx (H.length + 1) K0 K ∧ K0.length ≤ K.length ∧ K[H.length + 1]? = some ⟨intC cur, 0, true⟩ ∧ T 1 = .int .i64 z ∧ T 2 = .func (.func fid) [].toArray [].toArray ∧ T 3 = ap H.length 0 0 ∧ T 7 = sl (H.length + 1) 0 0 d.comps.length 1 ∧ T 8 = .int .i64 ((r : Int) - 1)) d.comps.length
    ⟨rfl, Nat.le_refl _, List.replicate d.comps.length 0, by simp, by rw [List.drop_eq_nil_of_le (by simp), List.drop_eq_nil_of_le (by omega)]; rfl, Olx.refl _ _, by omega, g1, by (refine sg trivial ?_; try exact ⟨⟩), by (refine sg trivial ?_; try exact ⟨⟩), by (refine sg trivial ?_; try exact ⟨⟩), by (refine sg trivial ?_; try exact ⟨⟩), by (refine sg trivial ?_; try exact ⟨⟩) <;> rfl⟩ ?_
  clear g1
  rintro r T K D ⟨rfl, hrl, cur, hcl, hcur, hold, hKl, hmk, t1, t2, t3, t7, t8⟩
  have kd : ∀ n, decide (K.length + n < H.length) = false := fun n => df (by omega)
  have kd0 : decide (K.length < H.length) = false := df (by omega)
  have dkm : decide (H.length + 1 < H.length) = false := df (by omega)
  by_cases hr0 : r = 0
  · subst hr0
    rw [List.drop_zero, List.drop_zero] at hcur
    subst hcur
    (refine sg (et t1 (et t2 (et t3 (et t7 (et t8 (df (show ¬ (0 : Int) ≤ ((0 : Nat) : Int) - 1 by omega))))))) ?_; try exact ⟨⟩)
    exact ⟨H.length + 1, rfl, hmk⟩
  · obtain ⟨c, rfl⟩ : ∃ c, r = c + 1 := ⟨r - 1, by omega⟩
    have e8 : (((c + 1 : Nat) : Int) - 1) = (c : Int) := by omega
    rw [e8] at t8
    obtain ⟨ls, hls⟩ : ∃ ls, d.comps[c]? = some ls := ⟨_, List.getElem?_eq_getElem (by omega)⟩
    obtain ⟨b, g, cells, rw_, cs, hve, hb, ⟨w, rfl, hw⟩, hcl1, hle, hld, hgt⟩ := h.at hls
    have hwlen := hw.len
    obtain ⟨wa, we, hwf⟩ := hw.form
    subst hwf
    have hbl := (List.getElem?_eq_some_iff.1 hb).1
    have kb := hold _ _ (by omega) (oH _ _ hb)
    have kg := hold _ _ (by omega) g0
    rw [hve] at kg
    have hg := hgt 0 (by omega)
    rw [Nat.mul_one, Nat.add_zero] at hg
    have hg : cells[c]? = some (.slice wa ls.length we) := hg
    have q0 : ∀ n : Nat, (0 : Int) ≤ (n : Int) := fun n => by omega
    have q1 : (c : Int) < (d.comps.length : Int) := by omega
    have w1 : IntKind.i64.wrap ((c : Int) - 1) = ((c : Nat) : Int) - 1 := wi (by omega) (by omega)
    have hrest : (d.comps.drop (c + 1)).length = d.comps.length - (c + 1) := List.length_drop ..
    have hcb := cntGo_b hB (d.comps.drop (c + 1)) (c + 1) (by omega)
    have hXle := hB.top (d.comps.length - (c + 1)) (by omega)
    have hXle1 := hB.top (d.comps.length - (c + 1) + 1) (by omega)
    have hX0 : 0 ≤ X (d.comps.length - (c + 1)) := by
      have := hB.mono 0 (d.comps.length - (c + 1)) (by omega); rw [Nat.zero_add] at this; have := hB.x0; omega
    have hz0 := hB.z0 (d.comps.length - (c + 1)) (by omega)
    rw [hrest] at hcb
    (refine sg (et t1 (et t2 (et t3 (et t7 (et t8 (et (dt (show (0 : Int) ≤ (c : Int) by omega)) (et kg (et q0 (et q1 (et Int.toNat_natCast (et Nat.zero_add (et Nat.mul_one (et Nat.add_zero (et kb hg)))))))))))))) ?_; try exact ⟨⟩)
    refine keep (fun r' T K' D => D = [] ∧ ∃ (k : Nat) (n : Int), k + r' = ls.length ∧ Old K K' ∧ K.length ≤ K'.length ∧ 0 ≤ n ∧ n ≤ X (d.comps.length - (c + 1) + 1) ∧ ls.foldl (fun n l => f n l (innF (cntGo f z (c + 1) (d.comps.drop (c + 1))) c (d.comps.drop (c + 1)).length l)) z = (ls.drop k).foldl (fun n l => f n l (innF (cntGo f z (c + 1) (d.comps.drop (c + 1))) c (d.comps.drop (c + 1)).length l)) n ∧ T 1 = .int .i64 z ∧ T 2 = .func (.func fid) [].toArray [].toArray ∧ T 3 = ap H.length 0 0 ∧ T 7 = sl (H.length + 1) 0 0 d.comps.length 1 ∧ T 8 = .int .i64 (c : Int) ∧ T 9 = .int .i64 n ∧ T 31 = .slice wa ls.length we ∧ T 32 = .int .i64 (ls.length : Int) ∧ T 33 = .int .i64 (k : Int)) ls.length
      ⟨rfl, 0, z, by omega, Old.refl _, by omega, hz0.1, hz0.2, rfl, by (refine sg t1 ?_; try exact ⟨⟩), by (refine sg t2 ?_; try exact ⟨⟩), by (refine sg t3 ?_; try exact ⟨⟩), by (refine sg t7 ?_; try exact ⟨⟩), by (refine sg t8 ?_; try exact ⟨⟩), by (refine sg trivial ?_; try exact ⟨⟩), by (refine sg trivial ?_; try exact ⟨⟩), by (refine sg trivial ?_; try exact ⟨⟩), by (refine sg trivial ?_; try exact ⟨⟩) <;> rfl⟩ ?_
    clear t1 t2 t3 t7 t8 kd kd0
    rintro r' T K' D ⟨rfl, k, n, hkr, hold', hKl', hn0, hn1, hfold, t1, t2, t3, t7, t8, t9, t31, t32, t33⟩
    have kd : ∀ n, decide (K'.length + n < H.length) = false := fun n => df (by omega)
    have kd0 : decide (K'.length < H.length) = false := df (by omega)
    by_cases hk : k < ls.length
    · obtain ⟨l, hl'⟩ : ∃ l, ls[k]? = some l := ⟨_, List.getElem?_eq_getElem hk⟩
      obtain ⟨b2, g2, cells2, rw2, cs2, hwe, hb2, hLy, hcl2, hle2, hld2, hgt2⟩ := hw.at hl'
      obtain ⟨v0, v1, v2, v3, v4, v5, v6, v7, v8, pm, vw, vh, vp, vc, vd, vda, vf, vt, rfl, hLV, hSV⟩ := hLy
      have hbl2 := (List.getElem?_eq_some_iff.1 hb2).1
      have kb2 := hold' _ _ (hold _ _ (by omega) (oH _ _ hb2))
      have kg2 := hold' _ _ kg
      have km2 := hold' _ _ hmk
      rw [drop_at hl', List.foldl_cons] at hfold
      rw [hwe] at t31
      have q2 : (k : Int) < (ls.length : Int) := by omega
      have w2 : IntKind.i64.wrap ((k : Int) + 1) = ((k + 1 : Nat) : Int) := by rw [wi (by omega) (by omega)]; rfl
      have hib := innF_b hcb hX0 c (d.comps.drop (c + 1)).length l
      have hst := hB.step (d.comps.length - (c + 1)) n (innF (cntGo f z (c + 1) (d.comps.drop (c + 1))) c (d.comps.drop (c + 1)).length l) l (by omega) hn0 hn1 hib.1 hib.2
      have hcall := fun K => hf n (innF (cntGo f z (c + 1) (d.comps.drop (c + 1))) c (d.comps.drop (c + 1)).length l) l K v0 v1 v2 v3 v4 v5 v6 v7 v8 pm vw vh vp vc vd vda vf vt hn0 (by omega) hib.1 (by omega)
      have fin : ∀ (L : AH) (T' : Env), T' 1 = .int .i64 z → True := fun _ _ _ => trivial
      clear fin
      have e1 : l.kind = 1 ∧ (c : Int) < l.comp ∧ l.comp < (d.comps.length : Int) → ∃ m : Nat, l.comp = (m : Int) ∧ cur[m]? = some (innF (cntGo f z (c + 1) (d.comps.drop (c + 1))) c (d.comps.drop (c + 1)).length l) := fun ⟨x1, x2, x3⟩ => by
        obtain ⟨m, hm'⟩ : ∃ m : Nat, l.comp = (m : Int) := ⟨l.comp.toNat, by omega⟩
        refine ⟨m, hm', ?_⟩
        have e2 : cur[m]? = (cntGo f z (c + 1) (d.comps.drop (c + 1)))[m - (c + 1)]? := by
          rw [← hcur, List.getElem?_drop]; congr 1; omega
        have hlt : m - (c + 1) < (cntGo f z (c + 1) (d.comps.drop (c + 1))).length := by rw [cntGo_len, hrest]; omega
        rw [e2]
        unfold innF
        rw [if_pos ⟨x1, x2, by omega⟩, show (l.comp - ((c : Int) + 1)).toNat = m - (c + 1) by omega, List.getElem?_eq_getElem hlt]; rfl
      have e3 : ¬ (l.kind = 1 ∧ (c : Int) < l.comp ∧ l.comp < (d.comps.length : Int)) → innF (cntGo f z (c + 1) (d.comps.drop (c + 1))) c (d.comps.drop (c + 1)).length l = 0 := fun hne => by
        unfold innF
        rw [if_neg (fun hh => hne ⟨hh.1, hh.2.1, by omega⟩)]
      generalize innF (cntGo f z (c + 1) (d.comps.drop (c + 1))) c (d.comps.drop (c + 1)).length l = inn at *
      generalize f n l inn = n' at *
      by_cases x1 : l.kind = 1
      · by_cases x2 : (c : Int) < l.comp
        · by_cases x3 : l.comp < (d.comps.length : Int)
          · obtain ⟨m, hm', hcm⟩ := e1 ⟨x1, x2, x3⟩
            have hcg := dint_get hcm
            have hmt : l.comp.toNat = m := by omega
            have x0 : 0 ≤ l.comp := by omega
            (refine sg (et t1 (et t2 (et t3 (et t7 (et t8 (et t9 (et t31 (et t32 (et t33 (et (dt q2) (et q0 (et q2 (et Int.toNat_natCast (et Nat.zero_add (et kb2 (et hld2 (et kd (et kd0 (et (bt x1) (et hmt (et x0 (et (dt x2) (et (dt x3) (et x3 (et (old_get kg2) (et (old_get km2) (et Nat.mul_one hcg))))))))))))))))))))))))))) ?_; try exact ⟨⟩)
            refine (hcall _).x ?_
            (refine sg (et t1 (et t2 (et t3 (et t7 (et t8 (et t9 (et t31 (et t32 (et t33 (et kd (et kd0 w2))))))))))) ?_; try exact ⟨⟩)
            exact ⟨r' - 1, by omega, k + 1, n', by omega, hold'.app _, by omega, hst.1, hst.2, hfold, rfl, hwe.symm, rfl⟩
          · have hi0 := e3 (fun hh => x3 hh.2.2)
            subst hi0
            (refine sg (et t1 (et t2 (et t3 (et t7 (et t8 (et t9 (et t31 (et t32 (et t33 (et (dt q2) (et q0 (et q2 (et Int.toNat_natCast (et Nat.zero_add (et kb2 (et hld2 (et kd (et kd0 (et (bt x1) (et (dt x2) (et (df x3) (old_get kg2)))))))))))))))))))))) ?_; try exact ⟨⟩)
            refine (hcall _).x ?_
            (refine sg (et t1 (et t2 (et t3 (et t7 (et t8 (et t9 (et t31 (et t32 (et t33 (et kd (et kd0 w2))))))))))) ?_; try exact ⟨⟩)
            exact ⟨r' - 1, by omega, k + 1, n', by omega, hold'.app _, by omega, hst.1, hst.2, hfold, rfl, hwe.symm, rfl⟩
        · have hi0 := e3 (fun hh => x2 hh.2.1)
          subst hi0
          (refine sg (et t1 (et t2 (et t3 (et t7 (et t8 (et t9 (et t31 (et t32 (et t33 (et (dt q2) (et q0 (et q2 (et Int.toNat_natCast (et Nat.zero_add (et kb2 (et hld2 (et kd (et kd0 (et (bt x1) (et (df x2) (old_get kg2))))))))))))))))))))) ?_; try exact ⟨⟩)
          refine (hcall _).x ?_
          (refine sg (et t1 (et t2 (et t3 (et t7 (et t8 (et t9 (et t31 (et t32 (et t33 (et kd (et kd0 w2))))))))))) ?_; try exact ⟨⟩)
          exact ⟨r' - 1, by omega, k + 1, n', by omega, hold'.app _, by omega, hst.1, hst.2, hfold, rfl, hwe.symm, rfl⟩
      · have hi0 := e3 (fun hh => x1 hh.1)
        subst hi0
        (refine sg (et t1 (et t2 (et t3 (et t7 (et t8 (et t9 (et t31 (et t32 (et t33 (et (dt q2) (et q0 (et q2 (et Int.toNat_natCast (et Nat.zero_add (et kb2 (et hld2 (et kd (et kd0 (et (bf x1) (old_get kg2)))))))))))))))))))) ?_; try exact ⟨⟩)
        refine (hcall _).x ?_
        (refine sg (et t1 (et t2 (et t3 (et t7 (et t8 (et t9 (et t31 (et t32 (et t33 (et kd (et kd0 w2))))))))))) ?_; try exact ⟨⟩)
        exact ⟨r' - 1, by omega, k + 1, n', by omega, hold'.app _, by omega, hst.1, hst.2, hfold, rfl, hwe.symm, rfl⟩
    · rw [List.drop_eq_nil_of_le (show ls.length ≤ k by omega)] at hfold
      have hfold : ls.foldl (fun n l => f n l (innF (cntGo f z (c + 1) (d.comps.drop (c + 1))) c (d.comps.drop (c + 1)).length l)) z = n := hfold
      have km2 := hold' _ _ hmk
      have hia := dint_ast K' cur (d := c) (by omega) n (H.length + 1) 0
      have hml := (List.getElem?_eq_some_iff.1 km2).1
      (refine sg (et t1 (et t2 (et t3 (et t7 (et t8 (et t9 (et t31 (et t32 (et t33 (et (df (show ¬ (k : Int) < (ls.length : Int) by omega)) (et q0 (et q1 (et Int.toNat_natCast (et Nat.zero_add (et Nat.mul_one (et km2 (et hia (et dkm w1)))))))))))))))))) ?_; try exact ⟨⟩)
      refine ⟨c, by omega, by omega, cur.set c n, by simpa using hcl, ?_, (hold.trans (Olx.old hold')).trans (Olx.set0 _ _ _), by omega, List.getElem?_set_self hml, rfl⟩
      rw [drop_at hls, cntGo_cons, hfold, ← hcur]
      refine List.ext_getElem? fun j => ?_
      rw [List.getElem?_drop]
      cases j with
      | zero => rw [Nat.add_zero, List.getElem?_set_self (by omega)]; rfl
      | succ j => rw [List.getElem?_set_ne (by omega), List.getElem?_cons_succ, List.getElem?_drop]; congr 1; omega
end Go.Proofs.YtnebnbdeobcegaaGreat
/- Documents: the walk of what judges a document. -/
namespace Go.Proofs.YtnebnbdeobcegaaGreat
open Go Go.RowKit E
attribute [local irreducible] XRun XOps XCode XCal XLoop XQ SemCall
set_option linter.unusedSimpArgs false
set_option linter.unusedVariables false
theorem deep1_ (n i : Int) (l : Ly) (K : AH) (v0 v1 v2 v3 v4 v5 v6 v7 v8 pm vw vh vp vc vd vda vf vt : Value) (h0 : 0 ≤ n) (h1 : n ≤ 1000000) (h2 : 0 ≤ i) (h3 : i ≤ 1000000) : SemCall Tryz.prog 46 [.int .i64 n, .agg (lyVs l v0 v1 v2 v3 v4 v5 v6 v7 v8 pm vw vh vp vc vd vda vf vt).toArray, .int .i64 i] K (.int .i64 (depF n l i)) K [] := by
  refine pure_of ?_ rfl
  have w1 : IntKind.i64.wrap (1 + i) = 1 + i := wi (by omega) (by omega)
  refine XCal.of hm Tryz.func46 rfl (fun xs w => Tryz.call46 xs w) Tryz.ntmps46 Tryz.results46 rfl ?_
  (refine sg w1 ?_; try exact ⟨⟩)
  rfl
theorem nodes1_ (n i : Int) (l : Ly) (K : AH) (v0 v1 v2 v3 v4 v5 v6 v7 v8 pm vw vh vp vc vd vda vf vt : Value) (h0 : 0 ≤ n) (h1 : n ≤ 1000000) (h2 : 0 ≤ i) (h3 : i ≤ 1000000) : SemCall Tryz.prog 44 [.int .i64 n, .agg (lyVs l v0 v1 v2 v3 v4 v5 v6 v7 v8 pm vw vh vp vc vd vda vf vt).toArray, .int .i64 i] K (.int .i64 (nodF n l i)) K [] := by
  refine pure_of ?_ rfl
  have w1 : IntKind.i64.wrap (1 + i) = 1 + i := wi (by omega) (by omega)
  have w2 : IntKind.i64.wrap (n + (1 + i)) = n + (1 + i) := wi (by omega) (by omega)
  have w3 : IntKind.i64.wrap (n + 2) = n + 2 := wi (by omega) (by omega)
  unfold nodF
  by_cases k0 : l.kind = 0
  · rw [if_pos k0]
    refine XCal.of hm Tryz.func44 rfl (fun xs w => Tryz.call44 xs w) Tryz.ntmps44 Tryz.results44 rfl ?_
    (refine sg (et w1 (et w2 (et w3 (bt k0)))) ?_; try exact ⟨⟩)
    rfl
  · rw [if_neg k0]
    by_cases k1 : l.kind = 1
    · rw [if_pos k1]
      refine XCal.of hm Tryz.func44 rfl (fun xs w => Tryz.call44 xs w) Tryz.ntmps44 Tryz.results44 rfl ?_
      (refine sg (et w1 (et w2 (et w3 (et (bf k0) (bt k1))))) ?_; try exact ⟨⟩)
      rfl
    · rw [if_neg k1]
      refine XCal.of hm Tryz.func44 rfl (fun xs w => Tryz.call44 xs w) Tryz.ntmps44 Tryz.results44 rfl ?_
      (refine sg (et w1 (et w2 (et w3 (et (bf k0) (bf k1))))) ?_; try exact ⟨⟩)
      rfl
theorem cb_dep (N : Nat) (h : N ≤ 1000) : CB depF 1 (fun s => (s : Int)) N :=
  ⟨fun s _ => ⟨by omega, by show (1 : Int) ≤ ((s + 1 : Nat) : Int); omega⟩, fun s n i l _ a b c d => by
    have b : n ≤ ((s + 1 : Nat) : Int) := b
    have d : i ≤ (s : Int) := d
    unfold depF mxI
    split
    · exact ⟨by omega, by show 1 + i ≤ ((s + 1 : Nat) : Int); omega⟩
    · exact ⟨a, b⟩, fun s _ => by show (s : Int) ≤ ((s + 1 : Nat) : Int); omega, Int.le_refl _, fun s hs => by show (s : Int) ≤ 1000000; omega⟩
theorem cb_nod (N : Nat) : CB nodF 0 (fun _ => 257) N :=
  ⟨fun s _ => ⟨by omega, by omega⟩, fun s n i l _ a b c d => by
    unfold nodF mnI
    have key : ∀ x : Int, 0 ≤ x → 0 ≤ (if 257 < x then 257 else x) ∧ (if 257 < x then 257 else x) ≤ 257 := fun x hx => by split <;> omega
    apply key
    split
    · omega
    · split <;> omega, fun s _ => Int.le_refl _, by omega, fun s hs => by omega⟩
theorem deep_ (d : Dc) (v : Value) (c : Int) (H : AH) (h : Cos H v d.comps) (hl : d.comps.length ≤ 1000) : SemCall Tryz.prog 18 [dcV d v, .int .i64 c] H (.int .i64 (deepE d.comps c)) H [] := by
  refine pure_of ?_ rfl
  obtain ⟨va, ve, hv⟩ := h.form
  subst hv
  have th := fun H => dthere_ c (d.comps.length : Int) H
  unfold deepE
  cases ht : (decide (0 ≤ c) && decide (c < (d.comps.length : Int))) with
  | false =>
    rw [ht] at th
    rw [if_neg (by decide)]
    refine XCal.of hm Tryz.func18 rfl (fun xs w => Tryz.call18 xs w) Tryz.ntmps18 Tryz.results18 rfl ?_
    (refine sg trivial ?_; try exact ⟨⟩)
    repeat ((first | refine (th _).x ?_ | refine drawnF ?_ (by decide +kernel)); (refine sg trivial ?_; try exact ⟨⟩))
  | true =>
    rw [ht] at th
    rw [if_pos rfl]
    simp only [Bool.and_eq_true, decide_eq_true_eq] at ht
    obtain ⟨m, rfl⟩ : ∃ m : Nat, c = (m : Int) := ⟨c.toNat, by omega⟩
    refine XCal.of hm Tryz.func18 rfl (fun xs w => Tryz.call18 xs w) Tryz.ntmps18 Tryz.results18 rfl ?_
    (refine sg trivial ?_; try exact ⟨⟩)
    repeat ((first | refine (th _).x ?_ | refine drawnF ?_ (by decide +kernel)); (refine sg trivial ?_; try exact ⟨⟩))
    refine (counts_ _ depF 1 _ d _ _ (h.old CoE.m (Old.app' _ _)) hl (cb_dep _ hl) (fun n i l K v0 v1 v2 v3 v4 v5 v6 v7 v8 pm vw vh vp vc vd vda vf vt a b c d => deep1_ n i l K v0 v1 v2 v3 v4 v5 v6 v7 v8 pm vw vh vp vc vd vda vf vt a b c d)).x ?_
    rintro v' H1 W1 ⟨rfl, ⟨L, rfl⟩, b, rfl, hb⟩
    obtain ⟨x, hx⟩ : ∃ x, (cntGo depF 1 0 d.comps)[m]? = some x := ⟨_, List.getElem?_eq_getElem (by rw [cntGo_len]; omega)⟩
    rw [Int.toNat_natCast, hx]
    (refine sg (et (show (0 : Int) ≤ (m : Int) by omega) (et ht.2 (et Int.toNat_natCast (et Nat.zero_add (et Nat.mul_one (et hb (dint_get hx))))))) ?_; try exact ⟨⟩)
    rfl
theorem nodes_ (d : Dc) (v : Value) (c : Int) (H : AH) (h : Cos H v d.comps) (hl : d.comps.length ≤ 1000) : SemCall Tryz.prog 16 [dcV d v, .int .i64 c] H (.int .i64 (nodesE d.comps c)) H [] := by
  refine pure_of ?_ rfl
  obtain ⟨va, ve, hv⟩ := h.form
  subst hv
  have th := fun H => dthere_ c (d.comps.length : Int) H
  unfold nodesE
  cases ht : (decide (0 ≤ c) && decide (c < (d.comps.length : Int))) with
  | false =>
    rw [ht] at th
    rw [if_neg (by decide)]
    refine XCal.of hm Tryz.func16 rfl (fun xs w => Tryz.call16 xs w) Tryz.ntmps16 Tryz.results16 rfl ?_
    (refine sg trivial ?_; try exact ⟨⟩)
    repeat ((first | refine (th _).x ?_ | refine drawnF ?_ (by decide +kernel)); (refine sg trivial ?_; try exact ⟨⟩))
  | true =>
    rw [ht] at th
    rw [if_pos rfl]
    simp only [Bool.and_eq_true, decide_eq_true_eq] at ht
    obtain ⟨m, rfl⟩ : ∃ m : Nat, c = (m : Int) := ⟨c.toNat, by omega⟩
    refine XCal.of hm Tryz.func16 rfl (fun xs w => Tryz.call16 xs w) Tryz.ntmps16 Tryz.results16 rfl ?_
    (refine sg trivial ?_; try exact ⟨⟩)
    repeat ((first | refine (th _).x ?_ | refine drawnF ?_ (by decide +kernel)); (refine sg trivial ?_; try exact ⟨⟩))
    refine (counts_ _ nodF 0 _ d _ _ (h.old CoE.m (Old.app' _ _)) hl (cb_nod _) (fun n i l K v0 v1 v2 v3 v4 v5 v6 v7 v8 pm vw vh vp vc vd vda vf vt a b c d => nodes1_ n i l K v0 v1 v2 v3 v4 v5 v6 v7 v8 pm vw vh vp vc vd vda vf vt a b c d)).x ?_
    rintro v' H1 W1 ⟨rfl, ⟨L, rfl⟩, b, rfl, hb⟩
    obtain ⟨x, hx⟩ : ∃ x, (cntGo nodF 0 0 d.comps)[m]? = some x := ⟨_, List.getElem?_eq_getElem (by rw [cntGo_len]; omega)⟩
    rw [Int.toNat_natCast, hx]
    (refine sg (et (show (0 : Int) ≤ (m : Int) by omega) (et ht.2 (et Int.toNat_natCast (et Nat.zero_add (et Nat.mul_one (et hb (dint_get hx))))))) ?_; try exact ⟨⟩)
    rfl
def manyB (c : List Ly) : Bool := decide (16 < (c.length : Int))
theorem right1_ (c : List Ly) (v : Value) (H : AH) (h : Lys H v c) : SemCall Tryz.prog 25 [.agg [v].toArray] H (.bool (manyB c)) H [] := by
  refine pure_of ?_ rfl
  obtain ⟨va, ve, hv⟩ := h.form
  subst hv
  unfold manyB
  refine XCal.of hm Tryz.func25 rfl (fun xs w => Tryz.call25 xs w) Tryz.ntmps25 Tryz.results25 rfl ?_
  (refine sg trivial ?_; try exact ⟨⟩)
theorem cIndex_ (l : List (List Ly)) (v : Value) (H : AH) (h : Cos H v l) : SemCall Tryz.prog 63 [v, .func (.func 25) [].toArray [].toArray] H (.int .i64 (idxG manyB l 0)) H [] := by
  refine pure_of ?_ rfl
  have hlen := h.len
  obtain ⟨va, ve, hv⟩ := h.form
  subst hv
  refine XCal.of hm Tryz.func63 rfl (fun xs w => Tryz.call63 xs w) Tryz.ntmps63 Tryz.results63 rfl ?_
  (refine sg trivial ?_; try exact ⟨⟩)
  refine keep (fun k T H' D => H = H' ∧ D = [] ∧ T 0 = .slice va l.length ve ∧ T 1 = .func (.func 25) [].toArray [].toArray ∧ T 7 = .int .i64 (l.length : Int) ∧ ∃ i : Nat, i + k = l.length ∧ T 8 = .int .i64 (i : Int) ∧ idxG manyB (l.drop i) i = idxG manyB l 0) l.length ⟨rfl, rfl, rfl, rfl, rfl, 0, by omega, rfl, rfl⟩ ?_
  rintro k T H' D ⟨rfl, rfl, h0, h1, h7, i, hi, h8, hr⟩
  by_cases hk : i < l.length
  · obtain ⟨x, hx⟩ : ∃ x, l[i]? = some x := ⟨_, List.getElem?_eq_getElem hk⟩
    obtain ⟨b, g, cells, rw_, c, hve, hb, ⟨kv, hc, hkv⟩, hcl, hle, hld, hgt⟩ := h.at hx
    subst hc
    rw [hve] at h0
    rw [drop_at hx, idxG] at hr
    have w1 : IntKind.i64.wrap ((i : Int) + 1) = ((i + 1 : Nat) : Int) := by rw [wi (by omega) (by omega)]; rfl
    have c1 := right1_ x kv H hkv
    cases hd : manyB x with
    | true =>
      rw [hd] at c1
      rw [if_pos hd] at hr
      (refine sg (et h0 (et h1 (et h7 (et h8 (et (dt (show (i : Int) < (l.length : Int) by omega)) (et hb (et (show (0 : Int) ≤ (i : Int) by omega) (et (show (i : Int) < (l.length : Int) by omega) (et Int.toNat_natCast (et Nat.zero_add hld)))))))))) ?_; try exact ⟨⟩)
      refine c1.x ?_
      (refine sg (et h0 (et h1 (et h7 h8))) ?_; try exact ⟨⟩)
      rw [← hr]
    | false =>
      rw [hd] at c1
      rw [if_neg (by rw [hd]; decide)] at hr
      (refine sg (et h0 (et h1 (et h7 (et h8 (et (dt (show (i : Int) < (l.length : Int) by omega)) (et hb (et (show (0 : Int) ≤ (i : Int) by omega) (et (show (i : Int) < (l.length : Int) by omega) (et Int.toNat_natCast (et Nat.zero_add hld)))))))))) ?_; try exact ⟨⟩)
      refine c1.x ?_
      simp only [go_sem, Nat.reduceEqDiff, Nat.reduceAdd, Nat.reduceSub, Nat.reduceMul, Nat.reduceLT, Nat.reduceLeDiff, Int.reducePow, Int.reduceBEq, Int.reduceBNe, Int.reduceDiv, Int.reduceMod, Int.reduceEq, Int.reduceLT, Int.reduceLE, Int.reduceAdd, Int.reduceSub, Int.reduceMul, Int.reduceNeg, Int.reduceToNat, Int.reduceTDiv, Int.reduceTMod, ↓reduceIte, h0, h1, h7, h8, w1]
      exact ⟨k - 1, by omega, hve.symm, i + 1, by omega, rfl, hr⟩
  · rw [List.drop_eq_nil_of_le (by omega)] at hr
    simp only [go_sem, Nat.reduceEqDiff, Nat.reduceAdd, Nat.reduceSub, Nat.reduceMul, Nat.reduceLT, Nat.reduceLeDiff, Int.reducePow, Int.reduceBEq, Int.reduceBNe, Int.reduceDiv, Int.reduceMod, Int.reduceEq, Int.reduceLT, Int.reduceLE, Int.reduceAdd, Int.reduceSub, Int.reduceMul, Int.reduceNeg, Int.reduceToNat, Int.reduceTDiv, Int.reduceTMod, ↓reduceIte, h0, h1, h7, h8, df (show ¬ (i : Int) < (l.length : Int) by omega)]
    rw [← hr]; rfl
theorem cContains_ (l : List (List Ly)) (v : Value) (H : AH) (h : Cos H v l) : SemCall Tryz.prog 24 [v, .func (.func 25) [].toArray [].toArray] H (.bool (l.any manyB)) H [] := by
  refine pure_of ?_ rfl
  refine XCal.of hm Tryz.func24 rfl (fun xs w => Tryz.call24 xs w) Tryz.ntmps24 Tryz.results24 rfl ?_
  simp only [go_sem, Nat.reduceEqDiff, Nat.reduceAdd, Nat.reduceSub, Nat.reduceMul, Nat.reduceLT, Nat.reduceLeDiff, Int.reducePow, Int.reduceBEq, Int.reduceBNe, Int.reduceDiv, Int.reduceMod, Int.reduceEq, Int.reduceLT, Int.reduceLE, Int.reduceAdd, Int.reduceSub, Int.reduceMul, Int.reduceNeg, Int.reduceToNat, Int.reduceTDiv, Int.reduceTMod, ↓reduceIte]
  repeat ((first | refine (cIndex_ l v _ h).x ?_ | refine drawnF ?_ (by decide +kernel)); simp only [go_sem, Nat.reduceEqDiff, Nat.reduceAdd, Nat.reduceSub, Nat.reduceMul, Nat.reduceLT, Nat.reduceLeDiff, Int.reducePow, Int.reduceBEq, Int.reduceBNe, Int.reduceDiv, Int.reduceMod, Int.reduceEq, Int.reduceLT, Int.reduceLE, Int.reduceAdd, Int.reduceSub, Int.reduceMul, Int.reduceNeg, Int.reduceToNat, Int.reduceTDiv, Int.reduceTMod, ↓reduceIte, idxG_ge])
set_option maxHeartbeats 4000000 in
theorem dright_ (d : Dc) (v : Value) (H : AH) (h : Cos H v d.comps) : SemCall Tryz.prog 10 [dcV d v] H (.int .i64 (rightE d)) H [] := by
  refine pure_of ?_ rfl
  have hlen := h.len
  obtain ⟨va, ve, hv⟩ := h.form
  subst hv
  have cc := fun L => cContains_ d.comps _ (H ++ L) (h.old CoE.m (Old.app' H L))
  have cl := fun L => layers_ d _ (H ++ L) (h.old CoE.m (Old.app' H L))
  have tk := fun t H => tick_ t H
  obtain ⟨q, hq⟩ : ∃ q, rightE d = q := ⟨_, rfl⟩
  rw [hq]
  unfold rightE sizeB at hq
  have hm : (d.comps.any fun c => decide (16 < (c.length : Int))) = d.comps.any manyB := rfl
  rw [hm] at hq
  clear hm
  refine XCal.of hm Tryz.func10 rfl (fun xs w => Tryz.call10 xs w) Tryz.ntmps10 Tryz.results10 rfl ?_
  (refine sg trivial ?_; try exact ⟨⟩)
  repeat ((first | refine (cc _).x ?_ | refine drawnF ?_ (by decide +kernel)); (refine sg trivial ?_; try exact ⟨⟩))
  cases h1 : decide ((d.comps.length : Int) < 1) with
  | true =>
    rw [h1, Bool.true_or, Bool.true_or, if_pos rfl] at hq
    (refine sg h1 ?_; try exact ⟨⟩)
    rw [hq]
  | false =>
    cases h2 : decide (8 < (d.comps.length : Int)) with
    | true =>
      rw [h1, h2, Bool.false_or, Bool.true_or, if_pos rfl] at hq
      (refine sg (et h1 h2) ?_; try exact ⟨⟩)
      rw [hq]
    | false =>
      rw [h1, h2, Bool.false_or, Bool.false_or] at hq
      cases h3 : d.comps.any manyB with
      | true =>
        rw [h3, if_pos rfl] at hq
        (refine sg (et h1 (et h2 h3)) ?_; try exact ⟨⟩)
        rw [hq]
      | false =>
        rw [h3, if_neg (by decide)] at hq
        have hl : d.comps.length ≤ 1000 := by simp at h2; omega
        have cd := fun L => deep_ d _ 0 (H ++ L) (h.old CoE.m (Old.app' H L)) hl
        have cn := fun L => nodes_ d _ 0 (H ++ L) (h.old CoE.m (Old.app' H L)) hl
        (refine sg (et h1 (et h2 h3)) ?_; try exact ⟨⟩)
        cases t1 : tickB d.in_ with
        | false =>
          rw [t1, Bool.not_false, Bool.true_or, Bool.true_or, if_pos rfl] at hq
          repeat ((first | refine (tk _ _).x ?_ | refine drawnF ?_ (by decide +kernel)); (refine sg t1 ?_; try exact ⟨⟩))
          rw [hq]
        | true =>
          cases t2 : tickB d.out with
          | false =>
            rw [t1, t2, Bool.not_true, Bool.not_false, Bool.false_or, Bool.true_or, if_pos rfl] at hq
            repeat ((first | refine (tk _ _).x ?_ | refine drawnF ?_ (by decide +kernel)); (refine sg (et t1 t2) ?_; try exact ⟨⟩))
            rw [hq]
          | true =>
            cases t3 : decide (d.out ≤ d.in_) with
            | true =>
              rw [t1, t2, t3, Bool.not_true, Bool.or_true, if_pos rfl] at hq
              repeat ((first | refine (tk _ _).x ?_ | refine drawnF ?_ (by decide +kernel)); (refine sg (et t1 (et t2 t3)) ?_; try exact ⟨⟩))
              rw [hq]
            | false =>
              rw [t1, t2, t3, Bool.not_true, Bool.or_self, Bool.or_self, if_neg (by decide)] at hq
              repeat ((first | refine (tk _ _).x ?_ | refine (cl _).x ?_ | refine drawnF ?_ (by decide +kernel)); (refine sg (et t1 (et t2 t3)) ?_; try exact ⟨⟩))
              by_cases he : cosE d.comps 0 d.comps = 0
              · rw [if_neg (fun hh => hh he)] at hq
                (refine sg (nt he) ?_; try exact ⟨⟩)
                by_cases e1 : 4 < deepE d.comps 0
                · rw [if_pos (.inl e1)] at hq
                  repeat ((first | refine (cd _).x ?_ | refine (cn _).x ?_ | refine drawnF ?_ (by decide +kernel)); (refine sg (dt e1) ?_; try exact ⟨⟩))
                  rw [hq]
                · by_cases e2 : 256 < nodesE d.comps 0
                  · rw [if_pos (.inr e2)] at hq
                    repeat ((first | refine (cd _).x ?_ | refine (cn _).x ?_ | refine drawnF ?_ (by decide +kernel)); (refine sg (et (df e1) (dt e2)) ?_; try exact ⟨⟩))
                    rw [hq]
                  · rw [if_neg (by omega)] at hq
                    repeat ((first | refine (cd _).x ?_ | refine (cn _).x ?_ | refine drawnF ?_ (by decide +kernel)); (refine sg (et (df e1) (df e2)) ?_; try exact ⟨⟩))
                    rw [hq]
              · rw [if_pos he] at hq
                (refine sg (nf he) ?_; try exact ⟨⟩)
                rw [hq]
end Go.Proofs.YtnebnbdeobcegaaGreat
