/- Merged texts: Ref1 Ref2 Ref3. -/
import Derived.Test.YtnebnbdeobcegaaGreatZT
/- Documents: the walks of what the document's own answer judges: keys, colours, paths of keys. -/
namespace Go.Proofs.YtnebnbdeobcegaaGreat
open Go Go.RowKit E
attribute [local irreducible] XRun XOps XCode XCal XLoop XQ SemCall
set_option linter.unusedSimpArgs false
set_option linter.unusedVariables false
theorem ald_mid {cells c : List Value} {i s j n g : Nat} {rw_ : Bool} (hl : c.length = s) (hb : (i + 1) * s ≤ cells.length) (h : ∀ q, q < s → cells[i * s + q]? = c[q]?) (hj : j + n ≤ s) (b : Nat) : ald (some true) (some n) (some ⟨cells, g, rw_⟩) b (i * s + j) g = some (.agg ((c.drop j).take n).toArray, b) := by
  have h1 : i * s + j + n ≤ cells.length := by rw [Nat.add_mul, Nat.one_mul] at hb; omega
  simp only [ald, true_and, h1, if_true]
  have e : (cells.drop (i * s + j)).take n = (c.drop j).take n := by
    refine List.ext_getElem? fun k => ?_
    by_cases hk : k < n
    · rw [List.getElem?_take_of_lt hk, List.getElem?_take_of_lt hk, List.getElem?_drop, List.getElem?_drop, ← h (j + k) (by omega)]
      congr 1; omega
    · rw [List.getElem?_eq_none (by rw [List.length_take]; omega), List.getElem?_eq_none (by rw [List.length_take]; omega)]
  rw [e]
theorem rwithin5_ (n lo hi : Int) (H : AH) : SemCall Tryz.prog 88 [.int .i64 n, .int .i64 lo, .int .i64 hi] H (.bool (decide (lo ≤ n) && decide (n ≤ hi))) H [] := by
  refine pure_of ?_ rfl
  cases h1 : decide (lo ≤ n) with
  | false =>
    refine XCal.of hm Tryz.func88 rfl (fun xs w => Tryz.call88 xs w) Tryz.ntmps88 Tryz.results88 rfl ?_
    (refine sg h1 ?_; try exact ⟨⟩)
  | true =>
    refine XCal.of hm Tryz.func88 rfl (fun xs w => Tryz.call88 xs w) Tryz.ntmps88 Tryz.results88 rfl ?_
    (refine sg h1 ?_; try exact ⟨⟩)
theorem rease_ (e : Ez) (H : AH) : SemCall Tryz.prog 110 [ezV e] H (.bool (easeB e)) H [] := by
  refine pure_of ?_ rfl
  have c1 := fun H => rwithin5_ e.x1 0 65536 H
  have c2 := fun H => rwithin5_ e.x2 0 65536 H
  have c3 := fun H => rwithin5_ e.y1 (-131072) 196608 H
  have c4 := fun H => rwithin5_ e.y2 (-131072) 196608 H
  unfold easeB
  generalize (decide (0 ≤ e.x1) && decide (e.x1 ≤ 65536)) = p1 at *
  generalize (decide (0 ≤ e.x2) && decide (e.x2 ≤ 65536)) = p2 at *
  generalize (decide (-131072 ≤ e.y1) && decide (e.y1 ≤ 196608)) = p3 at *
  generalize (decide (-131072 ≤ e.y2) && decide (e.y2 ≤ 196608)) = p4 at *
  cases p1
  case' true => cases p2
  case' true.true => cases p3
  all_goals
    refine XCal.of hm Tryz.func110 rfl (fun xs w => Tryz.call110 xs w) Tryz.ntmps110 Tryz.results110 rfl ?_
    (refine sg trivial ?_; try exact ⟨⟩)
    repeat ((first | refine (c1 _).x ?_ | refine (c2 _).x ?_ | refine (c3 _).x ?_ | refine (c4 _).x ?_ | refine drawnF ?_ (by decide +kernel)); (refine sg trivial ?_; try exact ⟨⟩))
theorem rmoves_ (t how : Int) (e : Ez) (H : AH) : SemCall Tryz.prog 87 [.int .i64 t, .int .i64 how, ezV e] H (.bool (movesB t how e)) H [] := by
  refine pure_of ?_ rfl
  have c0 : ∀ H, SemCall Tryz.prog 88 [.int .i64 t, .int .i64 (-1073741824), .int .i64 1073741824] H (.bool (tickB t)) H [] := fun H => rwithin5_ t (-1073741824) 1073741824 H
  have c1 := fun H => rease_ e H
  unfold movesB howB
  generalize tickB t = p0 at *
  cases p0
  case false =>
    refine XCal.of hm Tryz.func87 rfl (fun xs w => Tryz.call87 xs w) Tryz.ntmps87 Tryz.results87 rfl ?_
    (refine sg trivial ?_; try exact ⟨⟩)
    repeat ((first | refine (c0 _).x ?_ | refine drawnF ?_ (by decide +kernel)); (refine sg trivial ?_; try exact ⟨⟩))
  rw [Bool.true_and]
  by_cases h2 : how = 2
  · rw [if_pos h2]
    refine XCal.of hm Tryz.func87 rfl (fun xs w => Tryz.call87 xs w) Tryz.ntmps87 Tryz.results87 rfl ?_
    (refine sg trivial ?_; try exact ⟨⟩)
    repeat ((first | refine (c0 _).x ?_ | refine (c1 _).x ?_ | refine drawnF ?_ (by decide +kernel)); (refine sg (bt h2) ?_; try exact ⟨⟩))
  · rw [if_neg h2]
    by_cases w0 : how = 0
    · rw [bt w0, Bool.true_or, Bool.true_and]
      refine XCal.of hm Tryz.func87 rfl (fun xs w => Tryz.call87 xs w) Tryz.ntmps87 Tryz.results87 rfl ?_
      (refine sg trivial ?_; try exact ⟨⟩)
      repeat ((first | refine (c0 _).x ?_ | refine drawnF ?_ (by decide +kernel)); simp only [go_sem, Nat.reduceEqDiff, Nat.reduceAdd, Nat.reduceSub, Nat.reduceMul, Nat.reduceLT, Nat.reduceLeDiff, Int.reducePow, Int.reduceBEq, Int.reduceBNe, Int.reduceDiv, Int.reduceMod, Int.reduceEq, Int.reduceLT, Int.reduceLE, Int.reduceAdd, Int.reduceSub, Int.reduceMul, Int.reduceNeg, Int.reduceToNat, Int.reduceTDiv, Int.reduceTMod, ↓reduceIte, bf h2, bt w0, ez0])
    · by_cases w1 : how = 1
      · rw [bf w0, bt w1, Bool.false_or, Bool.true_and]
        refine XCal.of hm Tryz.func87 rfl (fun xs w => Tryz.call87 xs w) Tryz.ntmps87 Tryz.results87 rfl ?_
        (refine sg trivial ?_; try exact ⟨⟩)
        repeat ((first | refine (c0 _).x ?_ | refine drawnF ?_ (by decide +kernel)); simp only [go_sem, Nat.reduceEqDiff, Nat.reduceAdd, Nat.reduceSub, Nat.reduceMul, Nat.reduceLT, Nat.reduceLeDiff, Int.reducePow, Int.reduceBEq, Int.reduceBNe, Int.reduceDiv, Int.reduceMod, Int.reduceEq, Int.reduceLT, Int.reduceLE, Int.reduceAdd, Int.reduceSub, Int.reduceMul, Int.reduceNeg, Int.reduceToNat, Int.reduceTDiv, Int.reduceTMod, ↓reduceIte, bf h2, bf w0, bt w1, ez0])
      · rw [bf w0, bf w1, Bool.false_or, Bool.false_and]
        refine XCal.of hm Tryz.func87 rfl (fun xs w => Tryz.call87 xs w) Tryz.ntmps87 Tryz.results87 rfl ?_
        (refine sg trivial ?_; try exact ⟨⟩)
        repeat ((first | refine (c0 _).x ?_ | refine drawnF ?_ (by decide +kernel)); (refine sg (et (bf h2) (et (bf w0) (bf w1))) ?_; try exact ⟨⟩))
theorem kst_moves (f : Bool) (a t how : Int) (e : Ez) : kstB f a t how e = (movesB t how e && (f || decide (a < t))) := by
  unfold kstB movesB
  cases tickB t <;> cases howB how e <;> cases (f || decide (a < t)) <;> rfl
set_option maxHeartbeats 4000000 in
theorem rkeyR_ (l : List Ky) (v : Value) (H : AH) (h : Kys H v l) : SemCall Tryz.prog 56 [v] H (.bool (keysB l)) H [] := by
  refine pure_of ?_ rfl
  have hlen := h.len
  obtain ⟨va, ve, hv⟩ := h.form
  subst hv
  obtain ⟨Q, hQ⟩ : ∃ Q, keysB l = Q := ⟨_, rfl⟩
  rw [hQ]
  refine XCal.of hm Tryz.func56 rfl (fun xs w => Tryz.call56 xs w) Tryz.ntmps56 Tryz.results56 rfl ?_
  (refine sg trivial ?_; try exact ⟨⟩)
  refine keep (fun k T K D => D = [] ∧ K = H ∧ ∃ (i : Nat) (a : Int), i + k = l.length ∧ (∀ y, ¬ i = 0 → l[i - 1]? = some y → y.t = a) ∧ (keysGo (decide (i = 0)) a (l.drop i) && decide ((l.length : Int) ≤ 32)) = Q ∧ T 0 = .slice va l.length ve ∧ T 3 = .int .i64 (i : Int)) l.length
    ⟨rfl, rfl, 0, 0, by omega, (fun y h => absurd rfl h), hQ, by (refine sg trivial ?_; try exact ⟨⟩), by (refine sg trivial ?_; try exact ⟨⟩) <;> rfl⟩ ?_
  clear hQ
  rintro k T K D ⟨rfl, rfl, i, a, hik, hpr, hr, t0, t3⟩
  by_cases hk : i < l.length
  · obtain ⟨x, hx⟩ : ∃ x, l[i]? = some x := ⟨_, List.getElem?_eq_getElem hk⟩
    obtain ⟨b, g, cells, rw_, c, hve, hb, hc, hcl, hle, hld, hgt⟩ := h.at hx
    have hc : c = kyC x := hc
    subst hc
    rw [drop_at hx] at hr
    simp only [keysGo, kst_moves] at hr
    rw [hve] at t0
    have q0 : (0 : Int) ≤ (i : Int) := by omega
    have q1 : (i : Int) < (l.length : Int) := by omega
    have w1 : IntKind.i64.wrap ((i : Int) + 1) = ((i + 1 : Nat) : Int) := by rw [wi (by omega) (by omega)]; rfl
    have ks := fun H => rmoves_ x.t x.how x.e H
    have kn : ∀ H, SemCall Tryz.prog 88 [.int .i64 x.v, .int .i64 (-67108864), .int .i64 67108864] H (.bool (nearB x.v)) H [] := fun H => rwithin5_ x.v (-67108864) 67108864 H
    have f0 := hgt 0 (by omega)
    have f1 := hgt 1 (by omega)
    have f2 := hgt 2 (by omega)
    rw [Nat.add_zero] at f0
    have f0 : cells[i * 7]? = some (.int .i64 x.t) := f0
    have f1 : cells[i * 7 + 1]? = some (.int .i64 x.v) := f1
    have f2 : cells[i * 7 + 2]? = some (.int .i64 x.how) := f2
    have f3 := fun b' => ald_mid (g := g) (rw_ := rw_) (n := 4) (j := 3) hcl (by have := Nat.mul_le_mul_right 7 hk; omega) hgt (by omega) b'
    simp only [List.drop_succ_cons, List.drop_zero, List.take_succ_cons, List.take_zero] at f3
    generalize movesB x.t x.how x.e = E1 at *
    generalize nearB x.v = E2 at *
    by_cases hi0 : i = 0
    · rw [dt hi0, Bool.true_or, Bool.and_true] at hr
      cases E1
      case' true => cases E2
      all_goals
        simp only [Bool.true_and, Bool.false_and] at hr
        (refine sg (et t0 (et t3 (dt q1))) ?_; try exact ⟨⟩)
        repeat ((first | refine (ks _).x ?_ | refine (kn _).x ?_ | refine drawnF ?_ (by decide +kernel)); (refine sg (et t0 (et t3 (et q0 (et q1 (et Int.toNat_natCast (et Nat.zero_add (et Nat.add_zero (et hb (et f0 (et f1 (et f2 (et f3 (et w1 (df (show ¬ (0 : Int) < (i : Int) by omega))))))))))))))) ?_; try exact ⟨⟩))
        first | (subst hr; done) | (rw [← hr]; done) | exact ⟨k - 1, by omega, i + 1, x.t, by omega, (fun y _ hy => by rw [Nat.add_sub_cancel, hx] at hy; cases hy; rfl), hr, hve.symm, rfl⟩
    · obtain ⟨y, hy⟩ : ∃ y, l[i - 1]? = some y := ⟨_, List.getElem?_eq_getElem (by omega)⟩
      have hya := hpr y hi0 hy
      obtain ⟨b', g', cells', rw', c', hve', hb', hc', hcl', hle', hld', hgt'⟩ := h.at hy
      have hc' : c' = kyC y := hc'
      subst hc'
      rw [hve] at hve'
      cases hve'
      rw [hb] at hb'
      cases hb'
      have e0 := hgt' 0 (by omega)
      rw [Nat.add_zero] at e0
      have e0 : cells[(i - 1) * 7]? = some (.int .i64 y.t) := e0
      rw [hya] at e0
      have wm : IntKind.i64.wrap ((i : Int) - 1) = ((i - 1 : Nat) : Int) := by rw [wi (by omega) (by omega)]; omega
      have p0 : (0 : Int) ≤ ((i - 1 : Nat) : Int) := by omega
      have p1 : ((i - 1 : Nat) : Int) < (l.length : Int) := by omega
      rw [df (show ¬ i = 0 from hi0), Bool.false_or] at hr
      have hc3 : decide (x.t ≤ a) = !decide (a < x.t) := by
        by_cases h : a < x.t
        · rw [dt h, df (show ¬ x.t ≤ a by omega)]; rfl
        · rw [df h, dt (show x.t ≤ a by omega)]; rfl
      generalize decide (a < x.t) = E3 at *
      cases E1
      case' true => cases E2
      case' true.true => cases E3
      all_goals
        simp only [Bool.true_and, Bool.false_and, Bool.and_false, Bool.and_true] at hr
        (refine sg (et t0 (et t3 (dt q1))) ?_; try exact ⟨⟩)
        repeat ((first | refine (ks _).x ?_ | refine (kn _).x ?_ | refine drawnF ?_ (by decide +kernel)); (refine sg (et t0 (et t3 (et q0 (et q1 (et Int.toNat_natCast (et Nat.zero_add (et Nat.add_zero (et hb (et f0 (et f1 (et f2 (et f3 (et w1 (et (dt (show (0 : Int) < (i : Int) by omega)) (et wm (et p0 (et p1 (et e0 hc3)))))))))))))))))) ?_; try exact ⟨⟩))
        first | (subst hr; done) | (rw [← hr]; done) | exact ⟨k - 1, by omega, i + 1, x.t, by omega, (fun y _ hy => by rw [Nat.add_sub_cancel, hx] at hy; cases hy; rfl), hr, hve.symm, rfl⟩
  · have hi : i = l.length := by omega
    subst hi
    rw [List.drop_eq_nil_of_le (by omega)] at hr
    have hr : (true && decide ((l.length : Int) ≤ 32)) = Q := hr
    rw [Bool.true_and] at hr
    (refine sg (et t0 (et t3 (et (df (show ¬ ((l.length : Nat) : Int) < (l.length : Int) by omega)) hr))) ?_; try exact ⟨⟩)
set_option maxHeartbeats 4000000 in
theorem rcolors_ (l : List Ck) (v : Value) (H : AH) (h : Cks H v l) : SemCall Tryz.prog 92 [v] H (.bool (cksB l)) H [] := by
  refine pure_of ?_ rfl
  have hlen := h.len
  obtain ⟨va, ve, hv⟩ := h.form
  subst hv
  obtain ⟨Q, hQ⟩ : ∃ Q, cksB l = Q := ⟨_, rfl⟩
  rw [hQ]
  refine XCal.of hm Tryz.func92 rfl (fun xs w => Tryz.call92 xs w) Tryz.ntmps92 Tryz.results92 rfl ?_
  (refine sg trivial ?_; try exact ⟨⟩)
  refine keep (fun k T K D => D = [] ∧ K = H ∧ ∃ (i : Nat) (a : Int), i + k = l.length ∧ (∀ y, ¬ i = 0 → l[i - 1]? = some y → y.t = a) ∧ (cksGo (decide (i = 0)) a (l.drop i) && decide ((l.length : Int) ≤ 32)) = Q ∧ T 0 = .slice va l.length ve ∧ T 3 = .int .i64 (i : Int)) l.length
    ⟨rfl, rfl, 0, 0, by omega, (fun y h => absurd rfl h), hQ, by (refine sg trivial ?_; try exact ⟨⟩), by (refine sg trivial ?_; try exact ⟨⟩) <;> rfl⟩ ?_
  clear hQ
  rintro k T K D ⟨rfl, rfl, i, a, hik, hpr, hr, t0, t3⟩
  by_cases hk : i < l.length
  · obtain ⟨x, hx⟩ : ∃ x, l[i]? = some x := ⟨_, List.getElem?_eq_getElem hk⟩
    obtain ⟨b, g, cells, rw_, c, hve, hb, hc, hcl, hle, hld, hgt⟩ := h.at hx
    have hc : c = ckC x := hc
    subst hc
    rw [drop_at hx] at hr
    simp only [cksGo, kst_moves] at hr
    rw [hve] at t0
    have q0 : (0 : Int) ≤ (i : Int) := by omega
    have q1 : (i : Int) < (l.length : Int) := by omega
    have w1 : IntKind.i64.wrap ((i : Int) + 1) = ((i + 1 : Nat) : Int) := by rw [wi (by omega) (by omega)]; rfl
    have ks := fun H => rmoves_ x.t x.how x.e H
    have f0 := hgt 0 (by omega)
    have f2 := hgt 5 (by omega)
    rw [Nat.add_zero] at f0
    have f0 : cells[i * 10]? = some (.int .i64 x.t) := f0
    have f2 : cells[i * 10 + 5]? = some (.int .i64 x.how) := f2
    have f3 := fun b' => ald_mid (g := g) (rw_ := rw_) (n := 4) (j := 6) hcl (by have := Nat.mul_le_mul_right 10 hk; omega) hgt (by omega) b'
    simp only [List.drop_succ_cons, List.drop_zero, List.take_succ_cons, List.take_zero] at f3
    generalize movesB x.t x.how x.e = E1 at *
    by_cases hi0 : i = 0
    · rw [dt hi0, Bool.true_or, Bool.and_true] at hr
      cases E1
      all_goals
        simp only [Bool.true_and, Bool.false_and] at hr
        (refine sg (et t0 (et t3 (dt q1))) ?_; try exact ⟨⟩)
        repeat ((first | refine (ks _).x ?_ | refine drawnF ?_ (by decide +kernel)); (refine sg (et t0 (et t3 (et q0 (et q1 (et Int.toNat_natCast (et Nat.zero_add (et Nat.add_zero (et hb (et f0 (et f2 (et f3 (et w1 (df (show ¬ (0 : Int) < (i : Int) by omega)))))))))))))) ?_; try exact ⟨⟩))
        first | (subst hr; done) | (rw [← hr]; done) | exact ⟨k - 1, by omega, i + 1, x.t, by omega, (fun y _ hy => by rw [Nat.add_sub_cancel, hx] at hy; cases hy; rfl), hr, hve.symm, rfl⟩
    · obtain ⟨y, hy⟩ : ∃ y, l[i - 1]? = some y := ⟨_, List.getElem?_eq_getElem (by omega)⟩
      have hya := hpr y hi0 hy
      obtain ⟨b', g', cells', rw', c', hve', hb', hc', hcl', hle', hld', hgt'⟩ := h.at hy
      have hc' : c' = ckC y := hc'
      subst hc'
      rw [hve] at hve'
      cases hve'
      rw [hb] at hb'
      cases hb'
      have e0 := hgt' 0 (by omega)
      rw [Nat.add_zero] at e0
      have e0 : cells[(i - 1) * 10]? = some (.int .i64 y.t) := e0
      rw [hya] at e0
      have wm : IntKind.i64.wrap ((i : Int) - 1) = ((i - 1 : Nat) : Int) := by rw [wi (by omega) (by omega)]; omega
      have p0 : (0 : Int) ≤ ((i - 1 : Nat) : Int) := by omega
      have p1 : ((i - 1 : Nat) : Int) < (l.length : Int) := by omega
      rw [df (show ¬ i = 0 from hi0), Bool.false_or] at hr
      have hc3 : decide (x.t ≤ a) = !decide (a < x.t) := by
        by_cases h : a < x.t
        · rw [dt h, df (show ¬ x.t ≤ a by omega)]; rfl
        · rw [df h, dt (show x.t ≤ a by omega)]; rfl
      generalize decide (a < x.t) = E3 at *
      cases E1
      case' true => cases E3
      all_goals
        simp only [Bool.true_and, Bool.false_and, Bool.and_false, Bool.and_true] at hr
        (refine sg (et t0 (et t3 (dt q1))) ?_; try exact ⟨⟩)
        repeat ((first | refine (ks _).x ?_ | refine drawnF ?_ (by decide +kernel)); (refine sg (et t0 (et t3 (et q0 (et q1 (et Int.toNat_natCast (et Nat.zero_add (et Nat.add_zero (et hb (et f0 (et f2 (et f3 (et w1 (et (dt (show (0 : Int) < (i : Int) by omega)) (et wm (et p0 (et p1 (et e0 hc3))))))))))))))))) ?_; try exact ⟨⟩))
        first | (subst hr; done) | (rw [← hr]; done) | exact ⟨k - 1, by omega, i + 1, x.t, by omega, (fun y _ hy => by rw [Nat.add_sub_cancel, hx] at hy; cases hy; rfl), hr, hve.symm, rfl⟩
  · have hi : i = l.length := by omega
    subst hi
    rw [List.drop_eq_nil_of_le (by omega)] at hr
    have hr : (true && decide ((l.length : Int) ≤ 32)) = Q := hr
    rw [Bool.true_and] at hr
    (refine sg (et t0 (et t3 (et (df (show ¬ ((l.length : Nat) : Int) < (l.length : Int) by omega)) hr))) ?_; try exact ⟨⟩)
theorem rdashes_ (l : List Int) (v : Value) (H : AH) (h : Ins H v l) : SemCall Tryz.prog 93 [v] H (.bool (dashB l)) H [] := by
  refine pure_of ?_ rfl
  have hlen := h.len
  obtain ⟨va, ve, hv⟩ := h.form
  subst hv
  obtain ⟨Q, hQ⟩ : ∃ Q, dashB l = Q := ⟨_, rfl⟩
  rw [hQ]
  unfold dashB at hQ
  rw [Bool.and_comm] at hQ
  refine XCal.of hm Tryz.func93 rfl (fun xs w => Tryz.call93 xs w) Tryz.ntmps93 Tryz.results93 rfl ?_
  (refine sg trivial ?_; try exact ⟨⟩)
  refine keep (fun k T K D => D = [] ∧ K = H ∧ ∃ (i : Nat), i + k = l.length ∧ (((l.drop i).all fun n => decide (65536 ≤ n) && decide (n ≤ 67108864)) && decide ((l.length : Int) ≤ 8)) = Q ∧ T 0 = .slice va l.length ve ∧ T 3 = .int .i64 (i : Int)) l.length
    ⟨rfl, rfl, 0, by omega, hQ, by (refine sg trivial ?_; try exact ⟨⟩), by (refine sg trivial ?_; try exact ⟨⟩) <;> rfl⟩ ?_
  clear hQ
  rintro k T K D ⟨rfl, rfl, i, hik, hr, t0, t3⟩
  by_cases hk : i < l.length
  · obtain ⟨x, hx⟩ : ∃ x, l[i]? = some x := ⟨_, List.getElem?_eq_getElem hk⟩
    obtain ⟨b, g, cells, rw_, c, hve, hb, hc, hcl, hle, hld, hgt⟩ := h.at hx
    have hc : c = [.int .i64 x] := hc
    subst hc
    have f0 := hgt 0 (by omega)
    rw [Nat.add_zero, Nat.mul_one] at f0
    have f0 : cells[i]? = some (.int .i64 x) := f0
    rw [drop_at hx, List.all_cons] at hr
    rw [hve] at t0
    have q0 : (0 : Int) ≤ (i : Int) := by omega
    have q1 : (i : Int) < (l.length : Int) := by omega
    have w1 : IntKind.i64.wrap ((i : Int) + 1) = ((i + 1 : Nat) : Int) := by rw [wi (by omega) (by omega)]; rfl
    by_cases h1 : x < 65536
    · rw [df (show ¬ 65536 ≤ x by omega), Bool.false_and, Bool.false_and, Bool.false_and] at hr
      subst hr
      (refine sg (et t0 (et t3 (et (dt q1) (et q0 (et q1 (et Int.toNat_natCast (et Nat.zero_add (et Nat.mul_one (et hb (et f0 (dt h1))))))))))) ?_; try exact ⟨⟩)
    · by_cases h2 : 67108864 < x
      · rw [df (show ¬ x ≤ 67108864 by omega), Bool.and_false, Bool.false_and, Bool.false_and] at hr
        subst hr
        (refine sg (et t0 (et t3 (et (dt q1) (et q0 (et q1 (et Int.toNat_natCast (et Nat.zero_add (et Nat.mul_one (et hb (et f0 (et (df h1) (dt h2)))))))))))) ?_; try exact ⟨⟩)
      · rw [dt (show 65536 ≤ x by omega), dt (show x ≤ 67108864 by omega), Bool.true_and, Bool.true_and] at hr
        (refine sg (et t0 (et t3 (et (dt q1) (et q0 (et q1 (et Int.toNat_natCast (et Nat.zero_add (et Nat.mul_one (et hb (et f0 (et (df h1) (et (df h2) w1)))))))))))) ?_; try exact ⟨⟩)
        exact ⟨k - 1, by omega, i + 1, by omega, hr, hve.symm, rfl⟩
  · have hi : i = l.length := by omega
    subst hi
    rw [List.drop_eq_nil_of_le (by omega)] at hr
    have hr : (true && decide ((l.length : Int) ≤ 8)) = Q := hr
    rw [Bool.true_and] at hr
    (refine sg (et t0 (et t3 (et (df (show ¬ ((l.length : Nat) : Int) < (l.length : Int) by omega)) hr))) ?_; try exact ⟨⟩)
theorem rfits_ (p q : PL) (pv qv : Value) (H : AH) (hp : Pts H pv p.2) (hq : Pts H qv q.2) : SemCall Tryz.prog 111 [.agg [.bool p.1, pv].toArray, .agg [.bool q.1, qv].toArray] H (.bool (fitsB p q)) H [] := by
  refine pure_of ?_ rfl
  obtain ⟨a1, e1, rfl⟩ := hp.form
  obtain ⟨a2, e2, rfl⟩ := hq.form
  unfold fitsB
  by_cases hl : (p.2.length : Int) = (q.2.length : Int)
  · rw [dt hl, Bool.true_and]
    refine XCal.of hm Tryz.func111 rfl (fun xs w => Tryz.call111 xs w) Tryz.ntmps111 Tryz.results111 rfl ?_
    (refine sg (bt hl) ?_; try exact ⟨⟩)
  · rw [df hl, Bool.false_and]
    refine XCal.of hm Tryz.func111 rfl (fun xs w => Tryz.call111 xs w) Tryz.ntmps111 Tryz.results111 rfl ?_
    (refine sg (bf hl) ?_; try exact ⟨⟩)
set_option maxHeartbeats 4000000 in
theorem rpkeys_ (l : List Pk) (v : Value) (H : AH) (h : Pks H v l) : SemCall Tryz.prog 90 [v] H (.bool (pksB l)) H [] := by
  refine pure_of ?_ rfl
  have hlen := h.len
  obtain ⟨va, ve, hv⟩ := h.form
  subst hv
  obtain ⟨Q, hQ⟩ : ∃ Q, pksB l = Q := ⟨_, rfl⟩
  rw [hQ]
  obtain ⟨z, hz⟩ : ∃ z, (l[0]?).elim (false, []) (·.p) = z := ⟨_, rfl⟩
  unfold pksB at hQ
  rw [hz] at hQ
  refine XCal.of hm Tryz.func90 rfl (fun xs w => Tryz.call90 xs w) Tryz.ntmps90 Tryz.results90 rfl ?_
  (refine sg trivial ?_; try exact ⟨⟩)
  refine keep (fun k T K D => D = [] ∧ K = H ∧ ∃ (i : Nat) (a : Int), i + k = l.length ∧ (∀ y, ¬ i = 0 → l[i - 1]? = some y → y.t = a) ∧ (pksGo z (decide (i = 0)) a (l.drop i) && decide ((l.length : Int) ≤ 32)) = Q ∧ T 0 = .slice va l.length ve ∧ T 3 = .int .i64 (i : Int)) l.length
    ⟨rfl, rfl, 0, 0, by omega, (fun y h => absurd rfl h), hQ, by (refine sg trivial ?_; try exact ⟨⟩), by (refine sg trivial ?_; try exact ⟨⟩) <;> rfl⟩ ?_
  clear hQ
  rintro k T K D ⟨rfl, rfl, i, a, hik, hpr, hr, t0, t3⟩
  by_cases hk : i < l.length
  · obtain ⟨x, hx⟩ : ∃ x, l[i]? = some x := ⟨_, List.getElem?_eq_getElem hk⟩
    obtain ⟨b, g, cells, rw_, c, hve, hb, ⟨pv, hc, hp⟩, hcl, hle, hld, hgt⟩ := h.at hx
    subst hc
    obtain ⟨z0, hz0⟩ : ∃ z0, l[0]? = some z0 := ⟨_, List.getElem?_eq_getElem (by omega)⟩
    obtain ⟨b0, g0, cells0, rw0, c0, hve0, hb0, ⟨qv, hc0, hq⟩, hcl0, hle0, hld0, hgt0⟩ := h.at hz0
    subst hc0
    rw [hve] at hve0
    cases hve0
    rw [hb] at hb0
    cases hb0
    rw [hz0] at hz
    have hz : z0.p = z := hz
    have l12 := fun b' => ald_mid (g := g) (rw_ := rw_) (n := 2) (j := 1) hcl (by have := Nat.mul_le_mul_right 8 hk; omega) hgt (by omega) b'
    have z12 := fun b' => ald_mid (g := g) (rw_ := rw_) (n := 2) (j := 1) hcl0 (by have := Nat.mul_le_mul_right 8 (show 0 < l.length by omega); omega) hgt0 (by omega) b'
    simp only [List.drop_succ_cons, List.drop_zero, List.take_succ_cons, List.take_zero] at l12 z12
    rw [Nat.zero_mul, Nat.zero_add] at z12
    have f5 := hgt 2 (by omega)
    have f5 : cells[i * 8 + 2]? = some pv := f5
    have k2 := rright_ x.p.1 x.p.2 pv K hp
    have k3 := rfits_ x.p z0.p pv qv K hp hq
    rw [show fitsB x.p z0.p = fitsB x.p z by rw [hz]] at k3
    obtain ⟨pa, pe, hpf⟩ := hp.form
    have q2 : (0 : Int) < (l.length : Int) := by omega
    rw [drop_at hx] at hr
    simp only [pksGo, kst_moves] at hr
    rw [hve] at t0
    have q0 : (0 : Int) ≤ (i : Int) := by omega
    have q1 : (i : Int) < (l.length : Int) := by omega
    have w1 : IntKind.i64.wrap ((i : Int) + 1) = ((i + 1 : Nat) : Int) := by rw [wi (by omega) (by omega)]; rfl
    have ks := fun H => rmoves_ x.t x.how x.e H
    have f0 := hgt 0 (by omega)
    have f2 := hgt 3 (by omega)
    rw [Nat.add_zero] at f0
    have f0 : cells[i * 8]? = some (.int .i64 x.t) := f0
    have f2 : cells[i * 8 + 3]? = some (.int .i64 x.how) := f2
    have f3 := fun b' => ald_mid (g := g) (rw_ := rw_) (n := 4) (j := 4) hcl (by have := Nat.mul_le_mul_right 8 hk; omega) hgt (by omega) b'
    simp only [List.drop_succ_cons, List.drop_zero, List.take_succ_cons, List.take_zero] at f3
    generalize movesB x.t x.how x.e = E1 at *
    subst hpf
    have hl0 : ((x.p.2.length : Int) == 0) = decide ((x.p.2.length : Int) = 0) := rfl
    generalize decide ((x.p.2.length : Int) = 0) = E4 at *
    generalize rightB x.p.1 x.p.2 = E2 at *
    generalize fitsB x.p z = E5 at *
    by_cases hi0 : i = 0
    · rw [dt hi0, Bool.true_or, Bool.and_true] at hr
      cases E1
      case' true => cases E2
      case' true.true => cases E4
      case' true.true.false => cases E5
      all_goals
        simp only [Bool.true_and, Bool.false_and, Bool.and_false, Bool.and_true, Bool.not_true, Bool.not_false] at hr
        (refine sg (et t0 (et t3 (dt q1))) ?_; try exact ⟨⟩)
        repeat ((first | refine (ks _).x ?_ | refine (k2).x ?_ | refine (k3).x ?_ | refine drawnF ?_ (by decide +kernel)); simp only [go_sem, Nat.reduceEqDiff, Nat.reduceAdd, Nat.reduceSub, Nat.reduceMul, Nat.reduceLT, Nat.reduceLeDiff, Int.reducePow, Int.reduceBEq, Int.reduceBNe, Int.reduceDiv, Int.reduceMod, Int.reduceEq, Int.reduceLT, Int.reduceLE, Int.reduceAdd, Int.reduceSub, Int.reduceMul, Int.reduceNeg, Int.reduceToNat, Int.reduceTDiv, Int.reduceTMod, ↓reduceIte, t0, t3, q0, q1, Int.toNat_natCast, Nat.zero_add, Nat.add_zero, hb, f0, f2, f3, f5, l12, z12, hl0, q2, Nat.zero_mul, Int.reduceToNat, Bool.not_true, Bool.not_false, w1, df (show ¬ (0 : Int) < (i : Int) by omega)])
        first | (subst hr; done) | (rw [← hr]; done) | exact ⟨k - 1, by omega, i + 1, x.t, by omega, (fun y _ hy => by rw [Nat.add_sub_cancel, hx] at hy; cases hy; rfl), hr, hve.symm, rfl⟩
    · obtain ⟨y, hy⟩ : ∃ y, l[i - 1]? = some y := ⟨_, List.getElem?_eq_getElem (by omega)⟩
      have hya := hpr y hi0 hy
      obtain ⟨b', g', cells', rw', c', hve', hb', ⟨pv', hc', _⟩, hcl', hle', hld', hgt'⟩ := h.at hy
      subst hc'
      rw [hve] at hve'
      cases hve'
      rw [hb] at hb'
      cases hb'
      have e0 := hgt' 0 (by omega)
      rw [Nat.add_zero] at e0
      have e0 : cells[(i - 1) * 8]? = some (.int .i64 y.t) := e0
      rw [hya] at e0
      have wm : IntKind.i64.wrap ((i : Int) - 1) = ((i - 1 : Nat) : Int) := by rw [wi (by omega) (by omega)]; omega
      have p0 : (0 : Int) ≤ ((i - 1 : Nat) : Int) := by omega
      have p1 : ((i - 1 : Nat) : Int) < (l.length : Int) := by omega
      rw [df (show ¬ i = 0 from hi0), Bool.false_or] at hr
      have hc3 : decide (x.t ≤ a) = !decide (a < x.t) := by
        by_cases h : a < x.t
        · rw [dt h, df (show ¬ x.t ≤ a by omega)]; rfl
        · rw [df h, dt (show x.t ≤ a by omega)]; rfl
      generalize decide (a < x.t) = E3 at *
      cases E1
      case' true => cases E3
      case' true.true => cases E2
      case' true.true.true => cases E4
      case' true.true.true.false => cases E5
      all_goals
        simp only [Bool.true_and, Bool.false_and, Bool.and_false, Bool.and_true, Bool.not_true, Bool.not_false] at hr
        simp only [go_sem, Nat.reduceEqDiff, Nat.reduceAdd, Nat.reduceSub, Nat.reduceMul, Nat.reduceLT, Nat.reduceLeDiff, Int.reducePow, Int.reduceBEq, Int.reduceBNe, Int.reduceDiv, Int.reduceMod, Int.reduceEq, Int.reduceLT, Int.reduceLE, Int.reduceAdd, Int.reduceSub, Int.reduceMul, Int.reduceNeg, Int.reduceToNat, Int.reduceTDiv, Int.reduceTMod, ↓reduceIte, t0, t3, dt q1]
        repeat ((first | refine (ks _).x ?_ | refine (k2).x ?_ | refine (k3).x ?_ | refine drawnF ?_ (by decide +kernel)); simp only [go_sem, Nat.reduceEqDiff, Nat.reduceAdd, Nat.reduceSub, Nat.reduceMul, Nat.reduceLT, Nat.reduceLeDiff, Int.reducePow, Int.reduceBEq, Int.reduceBNe, Int.reduceDiv, Int.reduceMod, Int.reduceEq, Int.reduceLT, Int.reduceLE, Int.reduceAdd, Int.reduceSub, Int.reduceMul, Int.reduceNeg, Int.reduceToNat, Int.reduceTDiv, Int.reduceTMod, ↓reduceIte, t0, t3, q0, q1, Int.toNat_natCast, Nat.zero_add, Nat.add_zero, hb, f0, f2, f3, f5, l12, z12, hl0, q2, Nat.zero_mul, Int.reduceToNat, Bool.not_true, Bool.not_false, w1, dt (show (0 : Int) < (i : Int) by omega), wm, p0, p1, e0, hc3])
        first | (subst hr; done) | (rw [← hr]; done) | exact ⟨k - 1, by omega, i + 1, x.t, by omega, (fun y _ hy => by rw [Nat.add_sub_cancel, hx] at hy; cases hy; rfl), hr, hve.symm, rfl⟩
  · have hi : i = l.length := by omega
    subst hi
    rw [List.drop_eq_nil_of_le (by omega)] at hr
    have hr : (true && decide ((l.length : Int) ≤ 32)) = Q := hr
    rw [Bool.true_and] at hr
    simp only [go_sem, Nat.reduceEqDiff, Nat.reduceAdd, Nat.reduceSub, Nat.reduceMul, Nat.reduceLT, Nat.reduceLeDiff, Int.reducePow, Int.reduceBEq, Int.reduceBNe, Int.reduceDiv, Int.reduceMod, Int.reduceEq, Int.reduceLT, Int.reduceLE, Int.reduceAdd, Int.reduceSub, Int.reduceMul, Int.reduceNeg, Int.reduceToNat, Int.reduceTDiv, Int.reduceTMod, ↓reduceIte, t0, t3, df (show ¬ ((l.length : Nat) : Int) < (l.length : Int) by omega), hr]
theorem rnear13_ (x : Int) (H : AH) : SemCall Tryz.prog 112 [.int .i64 x] H (.bool (nearB x)) H [] := by
  refine pure_of ?_ rfl
  unfold nearB
  cases h1 : decide (-67108864 ≤ x) with
  | false =>
    refine XCal.of hm Tryz.func112 rfl (fun xs w => Tryz.call112 xs w) Tryz.ntmps112 Tryz.results112 rfl ?_
    (refine sg h1 ?_; try exact ⟨⟩)
  | true =>
    refine XCal.of hm Tryz.func112 rfl (fun xs w => Tryz.call112 xs w) Tryz.ntmps112 Tryz.results112 rfl ?_
    (refine sg h1 ?_; try exact ⟨⟩)
theorem rpaint13_ (p : Pnt) (H : AH) : SemCall Tryz.prog 91 [pntV p] H (.bool (paintB p)) H [] := by
  refine pure_of ?_ rfl
  have k1 := fun H => rnear13_ p.p.1 H
  have k2 := fun H => rnear13_ p.p.2 H
  have k3 := fun H => rnear13_ p.q.1 H
  have k4 := fun H => rnear13_ p.q.2 H
  have k5 := fun H => rnear13_ p.r H
  unfold paintB
  generalize nearB p.p.1 = p1 at *
  generalize nearB p.p.2 = p2 at *
  generalize nearB p.q.1 = p3 at *
  generalize nearB p.q.2 = p4 at *
  generalize nearB p.r = p5 at *
  cases h1 : decide (0 ≤ p.kind) with
  | false =>
    refine XCal.of hm Tryz.func91 rfl (fun xs w => Tryz.call91 xs w) Tryz.ntmps91 Tryz.results91 rfl ?_
    (refine sg h1 ?_; try exact ⟨⟩)
    repeat ((first | refine (k1 _).x ?_ | refine (k2 _).x ?_ | refine (k3 _).x ?_ | refine (k4 _).x ?_ | refine (k5 _).x ?_ | refine drawnF ?_ (by decide +kernel)); (refine sg h1 ?_; try exact ⟨⟩))
  | true =>
    cases h2 : decide (p.kind ≤ 2) with
    | false =>
      refine XCal.of hm Tryz.func91 rfl (fun xs w => Tryz.call91 xs w) Tryz.ntmps91 Tryz.results91 rfl ?_
      (refine sg (et h1 h2) ?_; try exact ⟨⟩)
      repeat ((first | refine (k1 _).x ?_ | refine (k2 _).x ?_ | refine (k3 _).x ?_ | refine (k4 _).x ?_ | refine (k5 _).x ?_ | refine drawnF ?_ (by decide +kernel)); (refine sg (et h1 h2) ?_; try exact ⟨⟩))
    | true =>
      cases h3 : p1 with
      | false =>
        refine XCal.of hm Tryz.func91 rfl (fun xs w => Tryz.call91 xs w) Tryz.ntmps91 Tryz.results91 rfl ?_
        (refine sg (et h1 (et h2 h3)) ?_; try exact ⟨⟩)
        repeat ((first | refine (k1 _).x ?_ | refine (k2 _).x ?_ | refine (k3 _).x ?_ | refine (k4 _).x ?_ | refine (k5 _).x ?_ | refine drawnF ?_ (by decide +kernel)); (refine sg (et h1 (et h2 h3)) ?_; try exact ⟨⟩))
      | true =>
        cases h4 : p2 with
        | false =>
          refine XCal.of hm Tryz.func91 rfl (fun xs w => Tryz.call91 xs w) Tryz.ntmps91 Tryz.results91 rfl ?_
          (refine sg (et h1 (et h2 (et h3 h4))) ?_; try exact ⟨⟩)
          repeat ((first | refine (k1 _).x ?_ | refine (k2 _).x ?_ | refine (k3 _).x ?_ | refine (k4 _).x ?_ | refine (k5 _).x ?_ | refine drawnF ?_ (by decide +kernel)); (refine sg (et h1 (et h2 (et h3 h4))) ?_; try exact ⟨⟩))
        | true =>
          cases h5 : p3 with
          | false =>
            refine XCal.of hm Tryz.func91 rfl (fun xs w => Tryz.call91 xs w) Tryz.ntmps91 Tryz.results91 rfl ?_
            (refine sg (et h1 (et h2 (et h3 (et h4 h5)))) ?_; try exact ⟨⟩)
            repeat ((first | refine (k1 _).x ?_ | refine (k2 _).x ?_ | refine (k3 _).x ?_ | refine (k4 _).x ?_ | refine (k5 _).x ?_ | refine drawnF ?_ (by decide +kernel)); (refine sg (et h1 (et h2 (et h3 (et h4 h5)))) ?_; try exact ⟨⟩))
          | true =>
            cases h6 : p4 with
            | false =>
              refine XCal.of hm Tryz.func91 rfl (fun xs w => Tryz.call91 xs w) Tryz.ntmps91 Tryz.results91 rfl ?_
              (refine sg (et h1 (et h2 (et h3 (et h4 (et h5 h6))))) ?_; try exact ⟨⟩)
              repeat ((first | refine (k1 _).x ?_ | refine (k2 _).x ?_ | refine (k3 _).x ?_ | refine (k4 _).x ?_ | refine (k5 _).x ?_ | refine drawnF ?_ (by decide +kernel)); (refine sg (et h1 (et h2 (et h3 (et h4 (et h5 h6))))) ?_; try exact ⟨⟩))
            | true =>
              refine XCal.of hm Tryz.func91 rfl (fun xs w => Tryz.call91 xs w) Tryz.ntmps91 Tryz.results91 rfl ?_
              (refine sg (et h1 (et h2 (et h3 (et h4 (et h5 h6))))) ?_; try exact ⟨⟩)
              repeat ((first | refine (k1 _).x ?_ | refine (k2 _).x ?_ | refine (k3 _).x ?_ | refine (k4 _).x ?_ | refine (k5 _).x ?_ | refine drawnF ?_ (by decide +kernel)); (refine sg (et h1 (et h2 (et h3 (et h4 (et h5 h6))))) ?_; try exact ⟨⟩))
end Go.Proofs.YtnebnbdeobcegaaGreat
/- Documents: the walks of what the document's own answer judges: shapes, layers. -/
namespace Go.Proofs.YtnebnbdeobcegaaGreat
open Go Go.RowKit E
attribute [local irreducible] XRun XOps XCode XCal XLoop XQ SemCall
set_option linter.unusedSimpArgs false
set_option linter.unusedVariables false
def formA (s : Sh) : Bool := !(decide (s.form < 0) || (decide (3 < s.form) || (((s.form == 2) && (decide (s.n < 2) || decide (16 < s.n))) || ((s.form != 2) && (s.n != 0)))))
def formF (s : Sh) : Bool := if s.form = 3 then decide ((s.w.length : Int) + (s.h.length : Int) = 0) else decide ((s.paths.length : Int) = 0)
theorem keysB_nil {l : List Ky} (h : l.length = 0) : keysB l = true := by
  rw [List.eq_nil_of_length_eq_zero h]; rfl
theorem pksB_nil {l : List Pk} (h : l.length = 0) : pksB l = true := by
  rw [List.eq_nil_of_length_eq_zero h]; rfl
theorem formB_A {s : Sh} (h : formA s = false) : formB s = false := by
  unfold formA at h
  simp only [Bool.not_eq_false', Bool.or_eq_true, Bool.and_eq_true, decide_eq_true_eq, beq_iff_eq, bne_iff_ne, ne_eq] at h
  unfold formB
  by_cases e1 : s.form < 0 ∨ 3 < s.form
  · rw [if_pos e1]
  · rw [if_neg e1, if_pos]
    rcases h with h | h | h | h
    · exact absurd (.inl h) e1
    · exact absurd (.inr h) e1
    · exact .inl h
    · exact .inr h
theorem formB_R {s : Sh} (h : formA s = true) : formB s = (keysB s.w && (keysB s.h && (pksB s.paths && formF s))) := by
  unfold formA at h
  simp only [Bool.not_eq_true', Bool.or_eq_false_iff, Bool.and_eq_false_iff, decide_eq_false_iff_not, beq_eq_false_iff_ne, bne_eq_false_iff_eq, ne_eq] at h
  obtain ⟨h1, h2, h3, h4⟩ := h
  unfold formB formF
  rw [if_neg (by omega), if_neg (by omega)]
  by_cases g : s.form = 3
  · rw [if_pos g, if_pos g]
    by_cases e1 : (s.w.length : Int) = 0
    · by_cases e2 : (s.h.length : Int) = 0
      · rw [dt e1, dt e2, keysB_nil (by omega), keysB_nil (by omega), dt (show (s.w.length : Int) + (s.h.length : Int) = 0 by omega)]
        simp
      · rw [df e2, df (show ¬ (s.w.length : Int) + (s.h.length : Int) = 0 by omega)]
        simp
    · rw [df e1, df (show ¬ (s.w.length : Int) + (s.h.length : Int) = 0 by omega)]
      simp
  · rw [if_neg g, if_neg g]
    by_cases e1 : (s.paths.length : Int) = 0
    · rw [dt e1, pksB_nil (by omega)]
      simp
    · rw [df e1]; simp
theorem shapeB_R (s : Sh) (h : formA s = true) : shapeB s = (keysB s.w && (keysB s.h && (pksB s.paths && (formF s && (((s.rule == 0) || (s.rule == 1)) && (paintB s.paint && (cksB s.colors && (keysB s.width && (keysB s.frm && (keysB s.to && (((s.cap == 0) || (s.cap == 1)) && dashB s.dash))))))))))) := by
  unfold shapeB
  rw [formB_R h]
  simp only [Bool.and_assoc]
/-- Rows that are no longer than there is room for. -/
def mxR : Nat := 140737488351232
structure ShM (s : Sh) : Prop where
  w : s.w.length ≤ mxR
  h : s.h.length ≤ mxR
  paths : s.paths.length ≤ mxR
  colors : s.colors.length ≤ mxR
  width : s.width.length ≤ mxR
  dash : s.dash.length ≤ mxR
  frm : s.frm.length ≤ mxR
  to : s.to.length ≤ mxR
theorem or_tri (x : Int) : ((x == 0) = true ∧ ((x == 0) || (x == 1)) = true) ∨ ((x == 0) = false ∧ (x == 1) = true ∧ ((x == 0) || (x == 1)) = true) ∨ ((x == 0) = false ∧ (x == 1) = false ∧ ((x == 0) || (x == 1)) = false) := by
  cases h1 : (x == 0) <;> cases h2 : (x == 1) <;> simp
set_option maxRecDepth 100000 in
set_option maxHeartbeats 8000000 in
theorem rshape13_ (s : Sh) (vw vh vp vc vd vda vf vt : Value) (H : AH) (h : ShV H s vw vh vp vc vd vda vf vt) (hsm : ShM s) : SemCall Tryz.prog 59 [shV s vw vh vp vc vd vda vf vt] H (.bool (shapeB s)) H [] := by
  refine pure_of ?_ rfl
  obtain ⟨aw, ew, fw⟩ := h.w.form
  obtain ⟨ah, eh, fh⟩ := h.h.form
  obtain ⟨ap_, ep, fp⟩ := h.paths.form
  subst fw fh fp
  have lw := hsm.w
  have lh := hsm.h
  unfold mxR at lw lh
  obtain ⟨Q, hQ⟩ : ∃ Q, shapeB s = Q := ⟨_, rfl⟩
  rw [hQ]
  have o : Old H (H ++ [(⟨shC s (.slice aw s.w.length ew) (.slice ah s.h.length eh) (.slice ap_ s.paths.length ep) vc vd vda vf vt, 0, true⟩ : Blk)]) := Old.app' _ _
  have g1 : (H ++ [(⟨shC s (.slice aw s.w.length ew) (.slice ah s.h.length eh) (.slice ap_ s.paths.length ep) vc vd vda vf vt, 0, true⟩ : Blk)])[H.length]? = some ⟨shC s (.slice aw s.w.length ew) (.slice ah s.h.length eh) (.slice ap_ s.paths.length ep) vc vd vda vf vt, 0, true⟩ := by rw [hget_app0]; rfl
  refine XCal.of hm Tryz.func59 rfl (fun xs w => Tryz.call59 xs w) Tryz.ntmps59 Tryz.results59 rfl ?_
  refine wcode_cut (fun T K D => D = [] ∧ K = H ++ [⟨shC s (.slice aw s.w.length ew) (.slice ah s.h.length eh) (.slice ap_ s.paths.length ep) vc vd vda vf vt, 0, true⟩] ∧ T 1 = ap H.length 0 0) ?_ ?_
  · (refine sg trivial ?_; try exact ⟨⟩)
  generalize H ++ [(⟨shC s (.slice aw s.w.length ew) (.slice ah s.h.length eh) (.slice ap_ s.paths.length ep) vc vd vda vf vt, 0, true⟩ : Blk)] = K at *
  rintro T K' D ⟨rfl, rfl, t1⟩
  refine wcode_cut (fun T K D => D = [] ∧ K = K' ∧ T 1 = ap H.length 0 0 ∧ formA s = true) ?_ ?_
  · cases hA : formA s
    · have hf := formB_A hA
      have hQf : Q = false := by rw [← hQ]; unfold shapeB; rw [hf]; rfl
      subst hQf
      unfold formA at hA
      simp only [Bool.not_eq_false', Bool.or_eq_true, Bool.and_eq_true, decide_eq_true_eq, beq_iff_eq, bne_iff_ne, ne_eq] at hA
      by_cases f1 : s.form < 0
      · (refine sg (et t1 (et g1 (dt f1))) ?_; try exact ⟨⟩)
      by_cases f2 : 3 < s.form
      · (refine sg (et t1 (et g1 (et (df f1) (dt f2)))) ?_; try exact ⟨⟩)
      by_cases g : s.form = 2
      · by_cases n1 : s.n < 2
        · (refine sg (et t1 (et g1 (et (df f1) (et (df f2) (et (bt g) (dt n1)))))) ?_; try exact ⟨⟩)
        · (refine sg (et t1 (et g1 (et (df f1) (et (df f2) (et (bt g) (et (df n1) (dt (show 16 < s.n by omega)))))))) ?_; try exact ⟨⟩)
      · (refine sg (et t1 (et g1 (et (df f1) (et (df f2) (et (bf g) (et (nf g) (nf (show ¬ s.n = 0 by omega)))))))) ?_; try exact ⟨⟩)
    · unfold formA at hA
      simp only [Bool.not_eq_true', Bool.or_eq_false_iff, Bool.and_eq_false_iff, decide_eq_false_iff_not, beq_eq_false_iff_ne, bne_eq_false_iff_eq, ne_eq] at hA
      obtain ⟨f1, f2, h3, h4⟩ := hA
      by_cases g : s.form = 2
      · (refine sg (et t1 (et g1 (et (df f1) (et (df f2) (et (bt g) (et (nt g) (et (df (show ¬ s.n < 2 by omega)) (df (show ¬ 16 < s.n by omega))))))))) ?_; try exact ⟨⟩)
      · (refine sg (et t1 (et g1 (et (df f1) (et (df f2) (et (bf g) (et (nf g) (nt (show s.n = 0 by omega)))))))) ?_; try exact ⟨⟩)
  clear t1
  rintro T K D ⟨rfl, rfl, t1, hA⟩
  rw [shapeB_R s hA] at hQ
  refine wcode_cut (fun T K' D => D = [] ∧ K' = K ∧ T 1 = ap H.length 0 0 ∧ (((s.rule == 0) || (s.rule == 1)) && (paintB s.paint && (cksB s.colors && (keysB s.width && (keysB s.frm && (keysB s.to && (((s.cap == 0) || (s.cap == 1)) && dashB s.dash))))))) = Q) ?_ ?_
  · have k1 := rkeyR_ s.w _ K (h.w.old KyE.m o)
    have k2 := rkeyR_ s.h _ K (h.h.old KyE.m o)
    have k3 := rpkeys_ s.paths _ K (h.paths.old PkE.m o)
    generalize (((s.rule == 0) || (s.rule == 1)) && (paintB s.paint && (cksB s.colors && (keysB s.width && (keysB s.frm && (keysB s.to && (((s.cap == 0) || (s.cap == 1)) && dashB s.dash))))))) = R at *
    unfold formF at hQ
    generalize keysB s.w = p1 at *
    generalize keysB s.h = p2 at *
    generalize pksB s.paths = p3 at *
    by_cases g : s.form = 3
    · rw [if_pos g] at hQ
      have w1 : IntKind.i64.wrap ((s.w.length : Int) + (s.h.length : Int)) = (s.w.length : Int) + (s.h.length : Int) := wi (by omega) (by omega)
      have hl : decide ((0 : Int) < (s.w.length : Int) + (s.h.length : Int)) = !decide ((s.w.length : Int) + (s.h.length : Int) = 0) := by
        by_cases e : (s.w.length : Int) + (s.h.length : Int) = 0
        · rw [dt e, df (show ¬ (0 : Int) < (s.w.length : Int) + (s.h.length : Int) by omega)]; rfl
        · rw [df e, dt (show (0 : Int) < (s.w.length : Int) + (s.h.length : Int) by omega)]; rfl
      cases h1 : p1 with
      | false =>
        simp only [h1, Bool.true_and, Bool.false_and] at hQ
        try subst hQ
        (refine sg (et t1 (et g1 (et (bt g) (et (nt g) (et w1 (et hl h1)))))) ?_; try exact ⟨⟩)
        repeat ((first | refine (k1).x ?_ | refine (k2).x ?_ | refine (k3).x ?_ | refine drawnF ?_ (by decide +kernel)); (refine sg (et t1 (et g1 (et (bt g) (et (nt g) (et w1 (et hl h1)))))) ?_; try exact ⟨⟩))
      | true =>
        cases h2 : p2 with
        | false =>
          simp only [h1, h2, Bool.true_and, Bool.false_and] at hQ
          try subst hQ
          (refine sg (et t1 (et g1 (et (bt g) (et (nt g) (et w1 (et hl (et h1 h2))))))) ?_; try exact ⟨⟩)
          repeat ((first | refine (k1).x ?_ | refine (k2).x ?_ | refine (k3).x ?_ | refine drawnF ?_ (by decide +kernel)); (refine sg (et t1 (et g1 (et (bt g) (et (nt g) (et w1 (et hl (et h1 h2))))))) ?_; try exact ⟨⟩))
        | true =>
          cases h3 : p3 with
          | false =>
            simp only [h1, h2, h3, Bool.true_and, Bool.false_and] at hQ
            try subst hQ
            (refine sg (et t1 (et g1 (et (bt g) (et (nt g) (et w1 (et hl (et h1 (et h2 h3)))))))) ?_; try exact ⟨⟩)
            repeat ((first | refine (k1).x ?_ | refine (k2).x ?_ | refine (k3).x ?_ | refine drawnF ?_ (by decide +kernel)); (refine sg (et t1 (et g1 (et (bt g) (et (nt g) (et w1 (et hl (et h1 (et h2 h3)))))))) ?_; try exact ⟨⟩))
          | true =>
            cases h4 : decide ((s.w.length : Int) + (s.h.length : Int) = 0) with
            | false =>
              simp only [h1, h2, h3, h4, Bool.true_and, Bool.false_and] at hQ
              try subst hQ
              (refine sg (et t1 (et g1 (et (bt g) (et (nt g) (et w1 (et hl (et h1 (et h2 (et h3 h4))))))))) ?_; try exact ⟨⟩)
              repeat ((first | refine (k1).x ?_ | refine (k2).x ?_ | refine (k3).x ?_ | refine drawnF ?_ (by decide +kernel)); (refine sg (et t1 (et g1 (et (bt g) (et (nt g) (et w1 (et hl (et h1 (et h2 (et h3 h4))))))))) ?_; try exact ⟨⟩))
            | true =>
              simp only [h1, h2, h3, h4, Bool.true_and, Bool.false_and] at hQ
              try subst hQ
              (refine sg (et t1 (et g1 (et (bt g) (et (nt g) (et w1 (et hl (et h1 (et h2 (et h3 h4))))))))) ?_; try exact ⟨⟩)
              repeat ((first | refine (k1).x ?_ | refine (k2).x ?_ | refine (k3).x ?_ | refine drawnF ?_ (by decide +kernel)); (refine sg (et t1 (et g1 (et (bt g) (et (nt g) (et w1 (et hl (et h1 (et h2 (et h3 h4))))))))) ?_; try exact ⟨⟩))
    · rw [if_neg g] at hQ
      have hl : decide ((0 : Int) < (s.paths.length : Int)) = !decide ((s.paths.length : Int) = 0) := by
        by_cases e : (s.paths.length : Int) = 0
        · rw [dt e, df (show ¬ (0 : Int) < (s.paths.length : Int) by omega)]; rfl
        · rw [df e, dt (show (0 : Int) < (s.paths.length : Int) by omega)]; rfl
      cases h1 : p1 with
      | false =>
        simp only [h1, Bool.true_and, Bool.false_and] at hQ
        try subst hQ
        (refine sg (et t1 (et g1 (et (bf g) (et (nf g) (et hl h1))))) ?_; try exact ⟨⟩)
        repeat ((first | refine (k1).x ?_ | refine (k2).x ?_ | refine (k3).x ?_ | refine drawnF ?_ (by decide +kernel)); (refine sg (et t1 (et g1 (et (bf g) (et (nf g) (et hl h1))))) ?_; try exact ⟨⟩))
      | true =>
        cases h2 : p2 with
        | false =>
          simp only [h1, h2, Bool.true_and, Bool.false_and] at hQ
          try subst hQ
          (refine sg (et t1 (et g1 (et (bf g) (et (nf g) (et hl (et h1 h2)))))) ?_; try exact ⟨⟩)
          repeat ((first | refine (k1).x ?_ | refine (k2).x ?_ | refine (k3).x ?_ | refine drawnF ?_ (by decide +kernel)); (refine sg (et t1 (et g1 (et (bf g) (et (nf g) (et hl (et h1 h2)))))) ?_; try exact ⟨⟩))
        | true =>
          cases h3 : p3 with
          | false =>
            simp only [h1, h2, h3, Bool.true_and, Bool.false_and] at hQ
            try subst hQ
            (refine sg (et t1 (et g1 (et (bf g) (et (nf g) (et hl (et h1 (et h2 h3))))))) ?_; try exact ⟨⟩)
            repeat ((first | refine (k1).x ?_ | refine (k2).x ?_ | refine (k3).x ?_ | refine drawnF ?_ (by decide +kernel)); (refine sg (et t1 (et g1 (et (bf g) (et (nf g) (et hl (et h1 (et h2 h3))))))) ?_; try exact ⟨⟩))
          | true =>
            cases h4 : decide ((s.paths.length : Int) = 0) with
            | false =>
              simp only [h1, h2, h3, h4, Bool.true_and, Bool.false_and] at hQ
              try subst hQ
              (refine sg (et t1 (et g1 (et (bf g) (et (nf g) (et hl (et h1 (et h2 (et h3 h4)))))))) ?_; try exact ⟨⟩)
              repeat ((first | refine (k1).x ?_ | refine (k2).x ?_ | refine (k3).x ?_ | refine drawnF ?_ (by decide +kernel)); (refine sg (et t1 (et g1 (et (bf g) (et (nf g) (et hl (et h1 (et h2 (et h3 h4)))))))) ?_; try exact ⟨⟩))
            | true =>
              simp only [h1, h2, h3, h4, Bool.true_and, Bool.false_and] at hQ
              try subst hQ
              (refine sg (et t1 (et g1 (et (bf g) (et (nf g) (et hl (et h1 (et h2 (et h3 h4)))))))) ?_; try exact ⟨⟩)
              repeat ((first | refine (k1).x ?_ | refine (k2).x ?_ | refine (k3).x ?_ | refine drawnF ?_ (by decide +kernel)); (refine sg (et t1 (et g1 (et (bf g) (et (nf g) (et hl (et h1 (et h2 (et h3 h4)))))))) ?_; try exact ⟨⟩))
  clear t1 hQ
  rintro T K2 D ⟨rfl, rfl, t1, hQ⟩
  have k3 := rcolors_ s.colors _ K2 (h.colors.old CkE.m o)
  have k4 := rkeyR_ s.width _ K2 (h.width.old KyE.m o)
  have k5 := rkeyR_ s.frm _ K2 (h.frm.old KyE.m o)
  have k6 := rkeyR_ s.to _ K2 (h.to.old KyE.m o)
  have k7 := rdashes_ s.dash _ K2 (h.dash.old InE.m o)
  have k2 := fun H => rpaint13_ s.paint H
  generalize paintB s.paint = p2 at *
  generalize cksB s.colors = p3 at *
  generalize keysB s.width = p4 at *
  generalize keysB s.frm = p5 at *
  generalize keysB s.to = p6 at *
  generalize dashB s.dash = p7 at *
  rcases or_tri s.rule with ⟨r, r'⟩ | ⟨r, r2, r'⟩ | ⟨r, r2, r'⟩
  case' inr.inr =>
    simp only [r', Bool.false_and] at hQ
    subst hQ
    (refine sg (et t1 (et g1 (et r r2))) ?_; try exact ⟨⟩)
    done
  case' inl => have r2 := r
  all_goals
    cases h2 : p2 with
    | false =>
      first
      | (simp only [r', h2, Bool.true_and, Bool.and_true, Bool.false_and, Bool.and_false] at hQ
         subst hQ
         (refine sg (et t1 (et g1 (et r (et r2 h2)))) ?_; try exact ⟨⟩)
         repeat ((first | refine (k2 _).x ?_ | refine (k3).x ?_ | refine (k4).x ?_ | refine (k5).x ?_ | refine (k6).x ?_ | refine (k7).x ?_ | refine drawnF ?_ (by decide +kernel)); (refine sg (et t1 (et g1 (et r (et r2 h2)))) ?_; try exact ⟨⟩))
         done)
      | (rcases or_tri s.cap with ⟨c, c'⟩ | ⟨c, c2, c'⟩ | ⟨c, c2, c'⟩
         case' inl => have c2 := c
         all_goals
           simp only [r', c', h2, Bool.true_and, Bool.and_true, Bool.false_and, Bool.and_false] at hQ
           subst hQ
           (refine sg (et t1 (et g1 (et r (et r2 h2)))) ?_; try exact ⟨⟩)
           repeat ((first | refine (k2 _).x ?_ | refine (k3).x ?_ | refine (k4).x ?_ | refine (k5).x ?_ | refine (k6).x ?_ | refine (k7).x ?_ | refine drawnF ?_ (by decide +kernel)); (refine sg (et t1 (et g1 (et r (et r2 (et c (et c2 h2)))))) ?_; try exact ⟨⟩)))
    | true =>
      cases h3 : p3 with
      | false =>
        first
        | (simp only [r', h2, h3, Bool.true_and, Bool.and_true, Bool.false_and, Bool.and_false] at hQ
           subst hQ
           (refine sg (et t1 (et g1 (et r (et r2 (et h2 h3))))) ?_; try exact ⟨⟩)
           repeat ((first | refine (k2 _).x ?_ | refine (k3).x ?_ | refine (k4).x ?_ | refine (k5).x ?_ | refine (k6).x ?_ | refine (k7).x ?_ | refine drawnF ?_ (by decide +kernel)); (refine sg (et t1 (et g1 (et r (et r2 (et h2 h3))))) ?_; try exact ⟨⟩))
           done)
        | (rcases or_tri s.cap with ⟨c, c'⟩ | ⟨c, c2, c'⟩ | ⟨c, c2, c'⟩
           case' inl => have c2 := c
           all_goals
             simp only [r', c', h2, h3, Bool.true_and, Bool.and_true, Bool.false_and, Bool.and_false] at hQ
             subst hQ
             (refine sg (et t1 (et g1 (et r (et r2 (et h2 h3))))) ?_; try exact ⟨⟩)
             repeat ((first | refine (k2 _).x ?_ | refine (k3).x ?_ | refine (k4).x ?_ | refine (k5).x ?_ | refine (k6).x ?_ | refine (k7).x ?_ | refine drawnF ?_ (by decide +kernel)); (refine sg (et t1 (et g1 (et r (et r2 (et c (et c2 (et h2 h3))))))) ?_; try exact ⟨⟩)))
      | true =>
        cases h4 : p4 with
        | false =>
          first
          | (simp only [r', h2, h3, h4, Bool.true_and, Bool.and_true, Bool.false_and, Bool.and_false] at hQ
             subst hQ
             (refine sg (et t1 (et g1 (et r (et r2 (et h2 (et h3 h4)))))) ?_; try exact ⟨⟩)
             repeat ((first | refine (k2 _).x ?_ | refine (k3).x ?_ | refine (k4).x ?_ | refine (k5).x ?_ | refine (k6).x ?_ | refine (k7).x ?_ | refine drawnF ?_ (by decide +kernel)); (refine sg (et t1 (et g1 (et r (et r2 (et h2 (et h3 h4)))))) ?_; try exact ⟨⟩))
             done)
          | (rcases or_tri s.cap with ⟨c, c'⟩ | ⟨c, c2, c'⟩ | ⟨c, c2, c'⟩
             case' inl => have c2 := c
             all_goals
               simp only [r', c', h2, h3, h4, Bool.true_and, Bool.and_true, Bool.false_and, Bool.and_false] at hQ
               subst hQ
               (refine sg (et t1 (et g1 (et r (et r2 (et h2 (et h3 h4)))))) ?_; try exact ⟨⟩)
               repeat ((first | refine (k2 _).x ?_ | refine (k3).x ?_ | refine (k4).x ?_ | refine (k5).x ?_ | refine (k6).x ?_ | refine (k7).x ?_ | refine drawnF ?_ (by decide +kernel)); (refine sg (et t1 (et g1 (et r (et r2 (et c (et c2 (et h2 (et h3 h4)))))))) ?_; try exact ⟨⟩)))
        | true =>
          cases h5 : p5 with
          | false =>
            first
            | (simp only [r', h2, h3, h4, h5, Bool.true_and, Bool.and_true, Bool.false_and, Bool.and_false] at hQ
               subst hQ
               (refine sg (et t1 (et g1 (et r (et r2 (et h2 (et h3 (et h4 h5))))))) ?_; try exact ⟨⟩)
               repeat ((first | refine (k2 _).x ?_ | refine (k3).x ?_ | refine (k4).x ?_ | refine (k5).x ?_ | refine (k6).x ?_ | refine (k7).x ?_ | refine drawnF ?_ (by decide +kernel)); (refine sg (et t1 (et g1 (et r (et r2 (et h2 (et h3 (et h4 h5))))))) ?_; try exact ⟨⟩))
               done)
            | (rcases or_tri s.cap with ⟨c, c'⟩ | ⟨c, c2, c'⟩ | ⟨c, c2, c'⟩
               case' inl => have c2 := c
               all_goals
                 simp only [r', c', h2, h3, h4, h5, Bool.true_and, Bool.and_true, Bool.false_and, Bool.and_false] at hQ
                 subst hQ
                 (refine sg (et t1 (et g1 (et r (et r2 (et h2 (et h3 (et h4 h5))))))) ?_; try exact ⟨⟩)
                 repeat ((first | refine (k2 _).x ?_ | refine (k3).x ?_ | refine (k4).x ?_ | refine (k5).x ?_ | refine (k6).x ?_ | refine (k7).x ?_ | refine drawnF ?_ (by decide +kernel)); (refine sg (et t1 (et g1 (et r (et r2 (et c (et c2 (et h2 (et h3 (et h4 h5))))))))) ?_; try exact ⟨⟩)))
          | true =>
            cases h6 : p6 with
            | false =>
              first
              | (simp only [r', h2, h3, h4, h5, h6, Bool.true_and, Bool.and_true, Bool.false_and, Bool.and_false] at hQ
                 subst hQ
                 (refine sg (et t1 (et g1 (et r (et r2 (et h2 (et h3 (et h4 (et h5 h6)))))))) ?_; try exact ⟨⟩)
                 repeat ((first | refine (k2 _).x ?_ | refine (k3).x ?_ | refine (k4).x ?_ | refine (k5).x ?_ | refine (k6).x ?_ | refine (k7).x ?_ | refine drawnF ?_ (by decide +kernel)); (refine sg (et t1 (et g1 (et r (et r2 (et h2 (et h3 (et h4 (et h5 h6)))))))) ?_; try exact ⟨⟩))
                 done)
              | (rcases or_tri s.cap with ⟨c, c'⟩ | ⟨c, c2, c'⟩ | ⟨c, c2, c'⟩
                 case' inl => have c2 := c
                 all_goals
                   simp only [r', c', h2, h3, h4, h5, h6, Bool.true_and, Bool.and_true, Bool.false_and, Bool.and_false] at hQ
                   subst hQ
                   (refine sg (et t1 (et g1 (et r (et r2 (et h2 (et h3 (et h4 (et h5 h6)))))))) ?_; try exact ⟨⟩)
                   repeat ((first | refine (k2 _).x ?_ | refine (k3).x ?_ | refine (k4).x ?_ | refine (k5).x ?_ | refine (k6).x ?_ | refine (k7).x ?_ | refine drawnF ?_ (by decide +kernel)); (refine sg (et t1 (et g1 (et r (et r2 (et c (et c2 (et h2 (et h3 (et h4 (et h5 h6)))))))))) ?_; try exact ⟨⟩)))
            | true =>
              first
              | (simp only [r', h2, h3, h4, h5, h6, Bool.true_and, Bool.and_true, Bool.false_and, Bool.and_false] at hQ
                 subst hQ
                 (refine sg (et t1 (et g1 (et r (et r2 (et h2 (et h3 (et h4 (et h5 h6)))))))) ?_; try exact ⟨⟩)
                 repeat ((first | refine (k2 _).x ?_ | refine (k3).x ?_ | refine (k4).x ?_ | refine (k5).x ?_ | refine (k6).x ?_ | refine (k7).x ?_ | refine drawnF ?_ (by decide +kernel)); (refine sg (et t1 (et g1 (et r (et r2 (et h2 (et h3 (et h4 (et h5 h6)))))))) ?_; try exact ⟨⟩))
                 done)
              | (rcases or_tri s.cap with ⟨c, c'⟩ | ⟨c, c2, c'⟩ | ⟨c, c2, c'⟩
                 case' inl => have c2 := c
                 all_goals
                   simp only [r', c', h2, h3, h4, h5, h6, Bool.true_and, Bool.and_true, Bool.false_and, Bool.and_false] at hQ
                   subst hQ
                   (refine sg (et t1 (et g1 (et r (et r2 (et h2 (et h3 (et h4 (et h5 h6)))))))) ?_; try exact ⟨⟩)
                   repeat ((first | refine (k2 _).x ?_ | refine (k3).x ?_ | refine (k4).x ?_ | refine (k5).x ?_ | refine (k6).x ?_ | refine (k7).x ?_ | refine drawnF ?_ (by decide +kernel)); (refine sg (et t1 (et g1 (et r (et r2 (et c (et c2 (et h2 (et h3 (et h4 (et h5 h6)))))))))) ?_; try exact ⟨⟩)))
end Go.Proofs.YtnebnbdeobcegaaGreat
/- Documents: the walks of what the document's own answer judges: layers. -/
namespace Go.Proofs.YtnebnbdeobcegaaGreat
open Go Go.RowKit E
attribute [local irreducible] XRun XOps XCode XCal XLoop XQ SemCall
set_option linter.unusedSimpArgs false
set_option linter.unusedVariables false
theorem eqG_nil {α : Type} {q : α → α → Bool} (l : List α) : eqG q l [] = decide ((l.length : Int) = 0) := by
  cases l with
  | nil => rfl
  | cons x t => rw [df (by simp; omega)]; rfl
def sumL (s : Sh) : Int := (s.w.length : Int) + (s.h.length : Int) + (s.paths.length : Int) + (s.colors.length : Int) + (s.width.length : Int) + (s.dash.length : Int) + (s.frm.length : Int) + (s.to.length : Int)
theorem bareB_R (s : Sh) : bareB s = ((s.form == 0) && ((s.n == 0) && (decide (sumL s = 0) && (!s.fill && ((s.rule == 0) && (pntQ s.paint pnt00 && (!s.stroke && (c4Q s.line c400 && (s.cap == 0))))))))) := by
  unfold bareB shQ shP shK sh00
  simp only [eqG_nil]
  rw [Bool.eq_iff_iff]
  simp only [Bool.and_eq_true, decide_eq_true_eq, beq_iff_eq, Bool.not_eq_true']
  constructor
  · rintro ⟨⟨⟨⟨⟨⟨⟨⟨⟨⟨⟨a1, a2⟩, a3⟩, a4⟩, a5⟩, a6⟩, a7⟩, a8⟩, ⟨⟨⟨b1, b2⟩, b3⟩, b4⟩, b5⟩, c1⟩, c2⟩, c3⟩
    exact ⟨a1, a2, by unfold sumL; omega, a3, a4, a5, a6, a7, a8⟩
  · rintro ⟨a1, a2, hs, a3, a4, a5, a6, a7, a8⟩
    unfold sumL at hs
    exact ⟨⟨⟨⟨⟨⟨⟨⟨⟨⟨⟨a1, a2⟩, a3⟩, a4⟩, a5⟩, a6⟩, a7⟩, a8⟩, ⟨⟨⟨by omega, by omega⟩, by omega⟩, by omega⟩, by omega⟩, by omega⟩, by omega⟩, by omega⟩
set_option maxRecDepth 100000 in
set_option maxHeartbeats 8000000 in
theorem rbare_ (s : Sh) (vw vh vp vc vd vda vf vt : Value) (H : AH) (h : ShV H s vw vh vp vc vd vda vf vt) (hsm : ShM s) : SemCall Tryz.prog 58 [shV s vw vh vp vc vd vda vf vt] H (.bool (bareB s)) H [] := by
  refine pure_of ?_ rfl
  obtain ⟨a1, e1, f1⟩ := h.w.form
  obtain ⟨a2, e2, f2⟩ := h.h.form
  obtain ⟨a3, e3, f3⟩ := h.paths.form
  obtain ⟨a4, e4, f4⟩ := h.colors.form
  obtain ⟨a5, e5, f5⟩ := h.width.form
  obtain ⟨a6, e6, f6⟩ := h.dash.form
  obtain ⟨a7, e7, f7⟩ := h.frm.form
  obtain ⟨a8, e8, f8⟩ := h.to.form
  subst f1 f2 f3 f4 f5 f6 f7 f8
  have l1 := hsm.w
  have l2 := hsm.h
  have l3 := hsm.paths
  have l4 := hsm.colors
  have l5 := hsm.width
  have l6 := hsm.dash
  have l7 := hsm.frm
  have l8 := hsm.to
  unfold mxR at l1 l2 l3 l4 l5 l6 l7 l8
  obtain ⟨Q, hQ⟩ : ∃ Q, bareB s = Q := ⟨_, rfl⟩
  rw [hQ]
  rw [bareB_R] at hQ
  have w1 : IntKind.i64.wrap ((s.w.length : Int) + (s.h.length : Int)) = (s.w.length : Int) + (s.h.length : Int) := wi (by omega) (by omega)
  have w2 : IntKind.i64.wrap ((s.w.length : Int) + (s.h.length : Int) + (s.paths.length : Int)) = (s.w.length : Int) + (s.h.length : Int) + (s.paths.length : Int) := wi (by omega) (by omega)
  have w3 : IntKind.i64.wrap ((s.w.length : Int) + (s.h.length : Int) + (s.paths.length : Int) + (s.colors.length : Int)) = (s.w.length : Int) + (s.h.length : Int) + (s.paths.length : Int) + (s.colors.length : Int) := wi (by omega) (by omega)
  have w4 : IntKind.i64.wrap ((s.w.length : Int) + (s.h.length : Int) + (s.paths.length : Int) + (s.colors.length : Int) + (s.width.length : Int)) = (s.w.length : Int) + (s.h.length : Int) + (s.paths.length : Int) + (s.colors.length : Int) + (s.width.length : Int) := wi (by omega) (by omega)
  have w5 : IntKind.i64.wrap ((s.w.length : Int) + (s.h.length : Int) + (s.paths.length : Int) + (s.colors.length : Int) + (s.width.length : Int) + (s.dash.length : Int)) = (s.w.length : Int) + (s.h.length : Int) + (s.paths.length : Int) + (s.colors.length : Int) + (s.width.length : Int) + (s.dash.length : Int) := wi (by omega) (by omega)
  have w6 : IntKind.i64.wrap ((s.w.length : Int) + (s.h.length : Int) + (s.paths.length : Int) + (s.colors.length : Int) + (s.width.length : Int) + (s.dash.length : Int) + (s.frm.length : Int)) = (s.w.length : Int) + (s.h.length : Int) + (s.paths.length : Int) + (s.colors.length : Int) + (s.width.length : Int) + (s.dash.length : Int) + (s.frm.length : Int) := wi (by omega) (by omega)
  have w7 : IntKind.i64.wrap ((s.w.length : Int) + (s.h.length : Int) + (s.paths.length : Int) + (s.colors.length : Int) + (s.width.length : Int) + (s.dash.length : Int) + (s.frm.length : Int) + (s.to.length : Int)) = sumL s := wi (by omega) (by omega)
  have hz : (sumL s == 0) = decide (sumL s = 0) := rfl
  generalize sumL s = SL at *
  obtain ⟨NF, hNF⟩ : ∃ b, s.fill = !b := ⟨!s.fill, by simp⟩
  obtain ⟨NS, hNS⟩ : ∃ b, s.stroke = !b := ⟨!s.stroke, by simp⟩
  rw [hNF, hNS, Bool.not_not, Bool.not_not] at hQ
  cases h1 : (s.form == 0) with
  | false =>
    simp only [h1, Bool.true_and, Bool.false_and, Bool.not_true, Bool.not_false] at hQ
    try unfold pntQ at h6
    try unfold c4Q at h8
    try simp only [pnt00, c400] at h6
    try simp only [c400] at h8
    subst hQ
    refine XCal.of hm Tryz.func58 rfl (fun xs w => Tryz.call58 xs w) Tryz.ntmps58 Tryz.results58 rfl ?_
    (refine sg (et w1 (et w2 (et w3 (et w4 (et w5 (et w6 (et w7 (et hz (et hNF (et hNS (et Bool.not_not h1))))))))))) ?_; try exact ⟨⟩)
  | true =>
    cases h2 : (s.n == 0) with
    | false =>
      simp only [h1, h2, Bool.true_and, Bool.false_and, Bool.not_true, Bool.not_false] at hQ
      try unfold pntQ at h6
      try unfold c4Q at h8
      try simp only [pnt00, c400] at h6
      try simp only [c400] at h8
      subst hQ
      refine XCal.of hm Tryz.func58 rfl (fun xs w => Tryz.call58 xs w) Tryz.ntmps58 Tryz.results58 rfl ?_
      (refine sg (et w1 (et w2 (et w3 (et w4 (et w5 (et w6 (et w7 (et hz (et hNF (et hNS (et Bool.not_not (et h1 h2)))))))))))) ?_; try exact ⟨⟩)
    | true =>
      cases h3 : decide (SL = 0) with
      | false =>
        simp only [h1, h2, h3, Bool.true_and, Bool.false_and, Bool.not_true, Bool.not_false] at hQ
        try unfold pntQ at h6
        try unfold c4Q at h8
        try simp only [pnt00, c400] at h6
        try simp only [c400] at h8
        subst hQ
        refine XCal.of hm Tryz.func58 rfl (fun xs w => Tryz.call58 xs w) Tryz.ntmps58 Tryz.results58 rfl ?_
        (refine sg (et w1 (et w2 (et w3 (et w4 (et w5 (et w6 (et w7 (et hz (et hNF (et hNS (et Bool.not_not (et h1 (et h2 h3))))))))))))) ?_; try exact ⟨⟩)
      | true =>
        cases h4 : NF with
        | false =>
          simp only [h1, h2, h3, h4, Bool.true_and, Bool.false_and, Bool.not_true, Bool.not_false] at hQ
          try unfold pntQ at h6
          try unfold c4Q at h8
          try simp only [pnt00, c400] at h6
          try simp only [c400] at h8
          subst hQ
          refine XCal.of hm Tryz.func58 rfl (fun xs w => Tryz.call58 xs w) Tryz.ntmps58 Tryz.results58 rfl ?_
          (refine sg (et w1 (et w2 (et w3 (et w4 (et w5 (et w6 (et w7 (et hz (et hNF (et hNS (et Bool.not_not (et h1 (et h2 (et h3 h4)))))))))))))) ?_; try exact ⟨⟩)
        | true =>
          cases h5 : (s.rule == 0) with
          | false =>
            simp only [h1, h2, h3, h4, h5, Bool.true_and, Bool.false_and, Bool.not_true, Bool.not_false] at hQ
            try unfold pntQ at h6
            try unfold c4Q at h8
            try simp only [pnt00, c400] at h6
            try simp only [c400] at h8
            subst hQ
            refine XCal.of hm Tryz.func58 rfl (fun xs w => Tryz.call58 xs w) Tryz.ntmps58 Tryz.results58 rfl ?_
            (refine sg (et w1 (et w2 (et w3 (et w4 (et w5 (et w6 (et w7 (et hz (et hNF (et hNS (et Bool.not_not (et h1 (et h2 (et h3 (et h4 h5))))))))))))))) ?_; try exact ⟨⟩)
          | true =>
            cases h6 : pntQ s.paint pnt00 with
            | false =>
              simp only [h1, h2, h3, h4, h5, h6, Bool.true_and, Bool.false_and, Bool.not_true, Bool.not_false] at hQ
              try unfold pntQ at h6
              try unfold c4Q at h8
              try simp only [pnt00, c400] at h6
              try simp only [c400] at h8
              subst hQ
              refine XCal.of hm Tryz.func58 rfl (fun xs w => Tryz.call58 xs w) Tryz.ntmps58 Tryz.results58 rfl ?_
              (refine sg (et w1 (et w2 (et w3 (et w4 (et w5 (et w6 (et w7 (et hz (et hNF (et hNS (et Bool.not_not (et h1 (et h2 (et h3 (et h4 (et h5 h6)))))))))))))))) ?_; try exact ⟨⟩)
            | true =>
              cases h7 : NS with
              | false =>
                simp only [h1, h2, h3, h4, h5, h6, h7, Bool.true_and, Bool.false_and, Bool.not_true, Bool.not_false] at hQ
                try unfold pntQ at h6
                try unfold c4Q at h8
                try simp only [pnt00, c400] at h6
                try simp only [c400] at h8
                subst hQ
                refine XCal.of hm Tryz.func58 rfl (fun xs w => Tryz.call58 xs w) Tryz.ntmps58 Tryz.results58 rfl ?_
                (refine sg (et w1 (et w2 (et w3 (et w4 (et w5 (et w6 (et w7 (et hz (et hNF (et hNS (et Bool.not_not (et h1 (et h2 (et h3 (et h4 (et h5 (et h6 h7))))))))))))))))) ?_; try exact ⟨⟩)
              | true =>
                cases h8 : c4Q s.line c400 with
                | false =>
                  simp only [h1, h2, h3, h4, h5, h6, h7, h8, Bool.true_and, Bool.false_and, Bool.not_true, Bool.not_false] at hQ
                  try unfold pntQ at h6
                  try unfold c4Q at h8
                  try simp only [pnt00, c400] at h6
                  try simp only [c400] at h8
                  subst hQ
                  refine XCal.of hm Tryz.func58 rfl (fun xs w => Tryz.call58 xs w) Tryz.ntmps58 Tryz.results58 rfl ?_
                  (refine sg (et w1 (et w2 (et w3 (et w4 (et w5 (et w6 (et w7 (et hz (et hNF (et hNS (et Bool.not_not (et h1 (et h2 (et h3 (et h4 (et h5 (et h6 (et h7 h8)))))))))))))))))) ?_; try exact ⟨⟩)
                | true =>
                  cases h9 : (s.cap == 0) with
                  | false =>
                    simp only [h1, h2, h3, h4, h5, h6, h7, h8, h9, Bool.true_and, Bool.false_and, Bool.not_true, Bool.not_false] at hQ
                    try unfold pntQ at h6
                    try unfold c4Q at h8
                    try simp only [pnt00, c400] at h6
                    try simp only [c400] at h8
                    subst hQ
                    refine XCal.of hm Tryz.func58 rfl (fun xs w => Tryz.call58 xs w) Tryz.ntmps58 Tryz.results58 rfl ?_
                    (refine sg (et w1 (et w2 (et w3 (et w4 (et w5 (et w6 (et w7 (et hz (et hNF (et hNS (et Bool.not_not (et h1 (et h2 (et h3 (et h4 (et h5 (et h6 (et h7 (et h8 h9))))))))))))))))))) ?_; try exact ⟨⟩)
                  | true =>
                    simp only [h1, h2, h3, h4, h5, h6, h7, h8, h9, Bool.true_and, Bool.false_and, Bool.not_true, Bool.not_false] at hQ
                    try unfold pntQ at h6
                    try unfold c4Q at h8
                    try simp only [pnt00, c400] at h6
                    try simp only [c400] at h8
                    subst hQ
                    refine XCal.of hm Tryz.func58 rfl (fun xs w => Tryz.call58 xs w) Tryz.ntmps58 Tryz.results58 rfl ?_
                    (refine sg (et w1 (et w2 (et w3 (et w4 (et w5 (et w6 (et w7 (et hz (et hNF (et hNS (et Bool.not_not (et h1 (et h2 (et h3 (et h4 (et h5 (et h6 (et h7 (et h8 h9))))))))))))))))))) ?_; try exact ⟨⟩)
theorem rtick18_ (t : Int) (H : AH) : SemCall Tryz.prog 28 [.int .i64 t] H (.bool (tickB t)) H [] := by
  refine pure_of ?_ rfl
  unfold tickB
  cases h1 : decide (-1073741824 ≤ t) with
  | false =>
    refine XCal.of hm Tryz.func28 rfl (fun xs w => Tryz.call28 xs w) Tryz.ntmps28 Tryz.results28 rfl ?_
    (refine sg h1 ?_; try exact ⟨⟩)
  | true =>
    refine XCal.of hm Tryz.func28 rfl (fun xs w => Tryz.call28 xs w) Tryz.ntmps28 Tryz.results28 rfl ?_
    (refine sg h1 ?_; try exact ⟨⟩)
/-- A layer whose rows are no longer than there is room for. -/
structure LyM (l : Ly) : Prop where
  mask : l.mask.2.length ≤ mxR
  remap : l.remap.length ≤ mxR
  shape : ShM l.shape
def layA (l : Ly) : Bool := ((l.kind == 0) || (l.kind == 1)) && (decide (0 ≤ l.matte) && (decide (l.matte ≤ 2) && (tickB l.in_ && (tickB l.out && (tickB l.start && decide (l.in_ < l.out))))))
theorem layerB_R (l : Ly) : layerB l = (layA l && (l.keys.all keysB && (maskB l.mask && (if l.kind = 1 then bareB l.shape else (l.comp == 0) && (decide ((l.remap.length : Int) = 0) && shapeB l.shape))))) := by
  unfold layerB layA
  rw [Bool.eq_iff_iff]
  by_cases h : l.kind = 1
  · rw [if_pos h, if_pos h]
    simp only [Bool.and_eq_true]
    constructor
    · rintro ⟨⟨⟨⟨⟨⟨a1, a2⟩, a3⟩, ⟨⟨b1, b2⟩, b3⟩, b4⟩, c⟩, d⟩, e⟩
      exact ⟨⟨a1, a2, a3, b1, b2, b3, b4⟩, d, c, e⟩
    · rintro ⟨⟨a1, a2, a3, b1, b2, b3, b4⟩, d, c, e⟩
      exact ⟨⟨⟨⟨⟨⟨a1, a2⟩, a3⟩, ⟨⟨b1, b2⟩, b3⟩, b4⟩, c⟩, d⟩, e⟩
  · rw [if_neg h, if_neg h]
    simp only [Bool.and_eq_true]
    constructor
    · rintro ⟨⟨⟨⟨⟨⟨a1, a2⟩, a3⟩, ⟨⟨b1, b2⟩, b3⟩, b4⟩, c⟩, d⟩, ⟨e, f⟩, g⟩
      exact ⟨⟨a1, a2, a3, b1, b2, b3, b4⟩, d, c, e, f, g⟩
    · rintro ⟨⟨a1, a2, a3, b1, b2, b3, b4⟩, d, c, e, f, g⟩
      exact ⟨⟨⟨⟨⟨⟨a1, a2⟩, a3⟩, ⟨⟨b1, b2⟩, b3⟩, b4⟩, c⟩, d⟩, ⟨e, f⟩, g⟩
set_option maxRecDepth 100000 in
set_option maxHeartbeats 8000000 in
theorem rlayer18_ (l : Ly) (v0 v1 v2 v3 v4 v5 v6 v7 v8 pm vw vh vp vc vd vda vf vt : Value) (H : AH) (h : LyV H l v0 v1 v2 v3 v4 v5 v6 v7 v8 pm) (hs : ShV H l.shape vw vh vp vc vd vda vf vt) (hlm : LyM l) :
    SemCall Tryz.prog 21 [.agg (lyVs l v0 v1 v2 v3 v4 v5 v6 v7 v8 pm vw vh vp vc vd vda vf vt).toArray] H (.bool (layerB l)) H [] := by
  refine pure_of ?_ rfl
  obtain ⟨ma, me, fm⟩ := h.mask.form
  obtain ⟨ra, re, fr⟩ := h.remap.form
  subst fm fr
  obtain ⟨Q, hQ⟩ : ∃ Q, layerB l = Q := ⟨_, rfl⟩
  rw [hQ]
  rw [layerB_R] at hQ
  have o : Old H (H ++ [(⟨lyVs l v0 v1 v2 v3 v4 v5 v6 v7 (.slice ra l.remap.length re) (.slice ma l.mask.2.length me) vw vh vp vc vd vda vf vt, 0, true⟩ : Blk)]) := Old.app' _ _
  have hKl : H.length ≤ (H ++ [(⟨lyVs l v0 v1 v2 v3 v4 v5 v6 v7 (.slice ra l.remap.length re) (.slice ma l.mask.2.length me) vw vh vp vc vd vda vf vt, 0, true⟩ : Blk)]).length := by simp
  have g1 : (H ++ [(⟨lyVs l v0 v1 v2 v3 v4 v5 v6 v7 (.slice ra l.remap.length re) (.slice ma l.mask.2.length me) vw vh vp vc vd vda vf vt, 0, true⟩ : Blk)])[H.length]? = some ⟨lyVs l v0 v1 v2 v3 v4 v5 v6 v7 (.slice ra l.remap.length re) (.slice ma l.mask.2.length me) vw vh vp vc vd vda vf vt, 0, true⟩ := by rw [hget_app0]; rfl
  refine XCal.of hm Tryz.func21 rfl (fun xs w => Tryz.call21 xs w) Tryz.ntmps21 Tryz.results21 rfl ?_
  refine wcode_cut (fun T K D => D = [] ∧ K = H ++ [⟨lyVs l v0 v1 v2 v3 v4 v5 v6 v7 (.slice ra l.remap.length re) (.slice ma l.mask.2.length me) vw vh vp vc vd vda vf vt, 0, true⟩] ∧ T 1 = ap H.length 0 0) ?_ ?_
  · (refine sg trivial ?_; try exact ⟨⟩)
  generalize H ++ [(⟨lyVs l v0 v1 v2 v3 v4 v5 v6 v7 (.slice ra l.remap.length re) (.slice ma l.mask.2.length me) vw vh vp vc vd vda vf vt, 0, true⟩ : Blk)] = K at *
  rintro T K' D ⟨rfl, rfl, t1⟩
  refine wcode_cut (fun T K D => D = [] ∧ K = K' ∧ T 1 = ap H.length 0 0 ∧ (l.keys.all keysB && (maskB l.mask && (if l.kind = 1 then bareB l.shape else (l.comp == 0) && (decide ((l.remap.length : Int) = 0) && shapeB l.shape)))) = Q) ?_ ?_
  · generalize (l.keys.all keysB && (maskB l.mask && (if l.kind = 1 then bareB l.shape else (l.comp == 0) && (decide ((l.remap.length : Int) = 0) && shapeB l.shape)))) = R at *
    unfold layA at hQ
    have k1 := fun H => rtick18_ l.in_ H
    have k2 := fun H => rtick18_ l.out H
    have k3 := fun H => rtick18_ l.start H
    generalize tickB l.in_ = p1 at *
    generalize tickB l.out = p2 at *
    generalize tickB l.start = p3 at *
    have m1 : decide (l.matte < 0) = !decide (0 ≤ l.matte) := by
      by_cases e : 0 ≤ l.matte
      · rw [dt e, df (show ¬ l.matte < 0 by omega)]; rfl
      · rw [df e, dt (show l.matte < 0 by omega)]; rfl
    have m2 : decide (2 < l.matte) = !decide (l.matte ≤ 2) := by
      by_cases e : l.matte ≤ 2
      · rw [dt e, df (show ¬ 2 < l.matte by omega)]; rfl
      · rw [df e, dt (show 2 < l.matte by omega)]; rfl
    have m3 : decide (l.out ≤ l.in_) = !decide (l.in_ < l.out) := by
      by_cases e : l.in_ < l.out
      · rw [dt e, df (show ¬ l.out ≤ l.in_ by omega)]; rfl
      · rw [df e, dt (show l.out ≤ l.in_ by omega)]; rfl
    rcases or_tri l.kind with ⟨r, r'⟩ | ⟨r, r2, r'⟩ | ⟨r, r2, r'⟩
    case' inr.inr =>
      simp only [r', Bool.false_and] at hQ
      subst hQ
      simp only [go_sem, Nat.reduceEqDiff, Nat.reduceAdd, Nat.reduceSub, Nat.reduceMul, Nat.reduceLT, Nat.reduceLeDiff, Int.reducePow, Int.reduceBEq, Int.reduceBNe, Int.reduceDiv, Int.reduceMod, Int.reduceEq, Int.reduceLT, Int.reduceLE, Int.reduceAdd, Int.reduceSub, Int.reduceMul, Int.reduceNeg, Int.reduceToNat, Int.reduceTDiv, Int.reduceTMod, ↓reduceIte, t1, g1, bne, r, r2]
      done
    case' inl => have r2 := r
    all_goals
      simp only [r', Bool.true_and] at hQ
      cases h2 : decide (0 ≤ l.matte) with
      | false =>
        simp only [h2, Bool.true_and, Bool.false_and] at hQ
        try subst hQ
        simp only [go_sem, Nat.reduceEqDiff, Nat.reduceAdd, Nat.reduceSub, Nat.reduceMul, Nat.reduceLT, Nat.reduceLeDiff, Int.reducePow, Int.reduceBEq, Int.reduceBNe, Int.reduceDiv, Int.reduceMod, Int.reduceEq, Int.reduceLT, Int.reduceLE, Int.reduceAdd, Int.reduceSub, Int.reduceMul, Int.reduceNeg, Int.reduceToNat, Int.reduceTDiv, Int.reduceTMod, ↓reduceIte, t1, g1, bne, r, r2, m1, m2, m3, h2]
        repeat ((first | refine (k1 _).x ?_ | refine (k2 _).x ?_ | refine (k3 _).x ?_ | refine drawnF ?_ (by decide +kernel)); simp only [go_sem, Nat.reduceEqDiff, Nat.reduceAdd, Nat.reduceSub, Nat.reduceMul, Nat.reduceLT, Nat.reduceLeDiff, Int.reducePow, Int.reduceBEq, Int.reduceBNe, Int.reduceDiv, Int.reduceMod, Int.reduceEq, Int.reduceLT, Int.reduceLE, Int.reduceAdd, Int.reduceSub, Int.reduceMul, Int.reduceNeg, Int.reduceToNat, Int.reduceTDiv, Int.reduceTMod, ↓reduceIte, t1, g1, bne, r, r2, m1, m2, m3, h2])
      | true =>
        cases h3 : decide (l.matte ≤ 2) with
        | false =>
          simp only [h2, h3, Bool.true_and, Bool.false_and] at hQ
          try subst hQ
          simp only [go_sem, Nat.reduceEqDiff, Nat.reduceAdd, Nat.reduceSub, Nat.reduceMul, Nat.reduceLT, Nat.reduceLeDiff, Int.reducePow, Int.reduceBEq, Int.reduceBNe, Int.reduceDiv, Int.reduceMod, Int.reduceEq, Int.reduceLT, Int.reduceLE, Int.reduceAdd, Int.reduceSub, Int.reduceMul, Int.reduceNeg, Int.reduceToNat, Int.reduceTDiv, Int.reduceTMod, ↓reduceIte, t1, g1, bne, r, r2, m1, m2, m3, h2, h3]
          repeat ((first | refine (k1 _).x ?_ | refine (k2 _).x ?_ | refine (k3 _).x ?_ | refine drawnF ?_ (by decide +kernel)); simp only [go_sem, Nat.reduceEqDiff, Nat.reduceAdd, Nat.reduceSub, Nat.reduceMul, Nat.reduceLT, Nat.reduceLeDiff, Int.reducePow, Int.reduceBEq, Int.reduceBNe, Int.reduceDiv, Int.reduceMod, Int.reduceEq, Int.reduceLT, Int.reduceLE, Int.reduceAdd, Int.reduceSub, Int.reduceMul, Int.reduceNeg, Int.reduceToNat, Int.reduceTDiv, Int.reduceTMod, ↓reduceIte, t1, g1, bne, r, r2, m1, m2, m3, h2, h3])
        | true =>
          cases h4 : p1 with
          | false =>
            simp only [h2, h3, h4, Bool.true_and, Bool.false_and] at hQ
            try subst hQ
            simp only [go_sem, Nat.reduceEqDiff, Nat.reduceAdd, Nat.reduceSub, Nat.reduceMul, Nat.reduceLT, Nat.reduceLeDiff, Int.reducePow, Int.reduceBEq, Int.reduceBNe, Int.reduceDiv, Int.reduceMod, Int.reduceEq, Int.reduceLT, Int.reduceLE, Int.reduceAdd, Int.reduceSub, Int.reduceMul, Int.reduceNeg, Int.reduceToNat, Int.reduceTDiv, Int.reduceTMod, ↓reduceIte, t1, g1, bne, r, r2, m1, m2, m3, h2, h3, h4]
            repeat ((first | refine (k1 _).x ?_ | refine (k2 _).x ?_ | refine (k3 _).x ?_ | refine drawnF ?_ (by decide +kernel)); simp only [go_sem, Nat.reduceEqDiff, Nat.reduceAdd, Nat.reduceSub, Nat.reduceMul, Nat.reduceLT, Nat.reduceLeDiff, Int.reducePow, Int.reduceBEq, Int.reduceBNe, Int.reduceDiv, Int.reduceMod, Int.reduceEq, Int.reduceLT, Int.reduceLE, Int.reduceAdd, Int.reduceSub, Int.reduceMul, Int.reduceNeg, Int.reduceToNat, Int.reduceTDiv, Int.reduceTMod, ↓reduceIte, t1, g1, bne, r, r2, m1, m2, m3, h2, h3, h4])
          | true =>
            cases h5 : p2 with
            | false =>
              simp only [h2, h3, h4, h5, Bool.true_and, Bool.false_and] at hQ
              try subst hQ
              simp only [go_sem, Nat.reduceEqDiff, Nat.reduceAdd, Nat.reduceSub, Nat.reduceMul, Nat.reduceLT, Nat.reduceLeDiff, Int.reducePow, Int.reduceBEq, Int.reduceBNe, Int.reduceDiv, Int.reduceMod, Int.reduceEq, Int.reduceLT, Int.reduceLE, Int.reduceAdd, Int.reduceSub, Int.reduceMul, Int.reduceNeg, Int.reduceToNat, Int.reduceTDiv, Int.reduceTMod, ↓reduceIte, t1, g1, bne, r, r2, m1, m2, m3, h2, h3, h4, h5]
              repeat ((first | refine (k1 _).x ?_ | refine (k2 _).x ?_ | refine (k3 _).x ?_ | refine drawnF ?_ (by decide +kernel)); simp only [go_sem, Nat.reduceEqDiff, Nat.reduceAdd, Nat.reduceSub, Nat.reduceMul, Nat.reduceLT, Nat.reduceLeDiff, Int.reducePow, Int.reduceBEq, Int.reduceBNe, Int.reduceDiv, Int.reduceMod, Int.reduceEq, Int.reduceLT, Int.reduceLE, Int.reduceAdd, Int.reduceSub, Int.reduceMul, Int.reduceNeg, Int.reduceToNat, Int.reduceTDiv, Int.reduceTMod, ↓reduceIte, t1, g1, bne, r, r2, m1, m2, m3, h2, h3, h4, h5])
            | true =>
              cases h6 : p3 with
              | false =>
                simp only [h2, h3, h4, h5, h6, Bool.true_and, Bool.false_and] at hQ
                try subst hQ
                simp only [go_sem, Nat.reduceEqDiff, Nat.reduceAdd, Nat.reduceSub, Nat.reduceMul, Nat.reduceLT, Nat.reduceLeDiff, Int.reducePow, Int.reduceBEq, Int.reduceBNe, Int.reduceDiv, Int.reduceMod, Int.reduceEq, Int.reduceLT, Int.reduceLE, Int.reduceAdd, Int.reduceSub, Int.reduceMul, Int.reduceNeg, Int.reduceToNat, Int.reduceTDiv, Int.reduceTMod, ↓reduceIte, t1, g1, bne, r, r2, m1, m2, m3, h2, h3, h4, h5, h6]
                repeat ((first | refine (k1 _).x ?_ | refine (k2 _).x ?_ | refine (k3 _).x ?_ | refine drawnF ?_ (by decide +kernel)); simp only [go_sem, Nat.reduceEqDiff, Nat.reduceAdd, Nat.reduceSub, Nat.reduceMul, Nat.reduceLT, Nat.reduceLeDiff, Int.reducePow, Int.reduceBEq, Int.reduceBNe, Int.reduceDiv, Int.reduceMod, Int.reduceEq, Int.reduceLT, Int.reduceLE, Int.reduceAdd, Int.reduceSub, Int.reduceMul, Int.reduceNeg, Int.reduceToNat, Int.reduceTDiv, Int.reduceTMod, ↓reduceIte, t1, g1, bne, r, r2, m1, m2, m3, h2, h3, h4, h5, h6])
              | true =>
                cases h7 : decide (l.in_ < l.out) with
                | false =>
                  simp only [h2, h3, h4, h5, h6, h7, Bool.true_and, Bool.false_and] at hQ
                  try subst hQ
                  simp only [go_sem, Nat.reduceEqDiff, Nat.reduceAdd, Nat.reduceSub, Nat.reduceMul, Nat.reduceLT, Nat.reduceLeDiff, Int.reducePow, Int.reduceBEq, Int.reduceBNe, Int.reduceDiv, Int.reduceMod, Int.reduceEq, Int.reduceLT, Int.reduceLE, Int.reduceAdd, Int.reduceSub, Int.reduceMul, Int.reduceNeg, Int.reduceToNat, Int.reduceTDiv, Int.reduceTMod, ↓reduceIte, t1, g1, bne, r, r2, m1, m2, m3, h2, h3, h4, h5, h6, h7]
                  repeat ((first | refine (k1 _).x ?_ | refine (k2 _).x ?_ | refine (k3 _).x ?_ | refine drawnF ?_ (by decide +kernel)); simp only [go_sem, Nat.reduceEqDiff, Nat.reduceAdd, Nat.reduceSub, Nat.reduceMul, Nat.reduceLT, Nat.reduceLeDiff, Int.reducePow, Int.reduceBEq, Int.reduceBNe, Int.reduceDiv, Int.reduceMod, Int.reduceEq, Int.reduceLT, Int.reduceLE, Int.reduceAdd, Int.reduceSub, Int.reduceMul, Int.reduceNeg, Int.reduceToNat, Int.reduceTDiv, Int.reduceTMod, ↓reduceIte, t1, g1, bne, r, r2, m1, m2, m3, h2, h3, h4, h5, h6, h7])
                | true =>
                  simp only [h2, h3, h4, h5, h6, h7, Bool.true_and, Bool.false_and] at hQ
                  try subst hQ
                  simp only [go_sem, Nat.reduceEqDiff, Nat.reduceAdd, Nat.reduceSub, Nat.reduceMul, Nat.reduceLT, Nat.reduceLeDiff, Int.reducePow, Int.reduceBEq, Int.reduceBNe, Int.reduceDiv, Int.reduceMod, Int.reduceEq, Int.reduceLT, Int.reduceLE, Int.reduceAdd, Int.reduceSub, Int.reduceMul, Int.reduceNeg, Int.reduceToNat, Int.reduceTDiv, Int.reduceTMod, ↓reduceIte, t1, g1, bne, r, r2, m1, m2, m3, h2, h3, h4, h5, h6, h7]
                  repeat ((first | refine (k1 _).x ?_ | refine (k2 _).x ?_ | refine (k3 _).x ?_ | refine drawnF ?_ (by decide +kernel)); simp only [go_sem, Nat.reduceEqDiff, Nat.reduceAdd, Nat.reduceSub, Nat.reduceMul, Nat.reduceLT, Nat.reduceLeDiff, Int.reducePow, Int.reduceBEq, Int.reduceBNe, Int.reduceDiv, Int.reduceMod, Int.reduceEq, Int.reduceLT, Int.reduceLE, Int.reduceAdd, Int.reduceSub, Int.reduceMul, Int.reduceNeg, Int.reduceToNat, Int.reduceTDiv, Int.reduceTMod, ↓reduceIte, t1, g1, bne, r, r2, m1, m2, m3, h2, h3, h4, h5, h6, h7])
  clear t1 hQ
  rintro T K D ⟨rfl, rfl, t1, hQ⟩
  (refine sg (et t1 g1) ?_; try exact ⟨⟩)
  refine (rkeysR_ l v0 v1 v2 v3 v4 v5 v6 v7 _ _ vw vh vp vc vd vda vf vt K (h.old o)).x ?_
  rintro v H1 W1 ⟨rfl, ⟨M, rfl⟩, hR⟩
  have g1 := old_get g1 M
  have o := o.app M
  have hKl : H.length ≤ (K ++ M).length := by rw [List.length_append]; omega
  obtain ⟨va, ve, hvf⟩ := hR.form
  subst hvf
  have ll : l.keys.length = 9 := rfl
  rw [ll] at hR
  (refine sg ll ?_; try exact ⟨⟩)
  generalize K ++ M = V at *
  refine keep (fun r T K' D => D = [] ∧ K' = V ∧ ∃ n : Nat, n + r = 9 ∧ T 1 = ap H.length 0 0 ∧ T 49 = .slice va 9 ve ∧ T 50 = .int .i64 9 ∧ T 51 = .int .i64 (n : Int) ∧ ((l.keys.drop n).all keysB && (maskB l.mask && (if l.kind = 1 then bareB l.shape else (l.comp == 0) && (decide ((l.remap.length : Int) = 0) && shapeB l.shape)))) = Q) 9
    ⟨rfl, rfl, 0, by omega, by (refine sg t1 ?_; try exact ⟨⟩), by (refine sg trivial ?_; try exact ⟨⟩), by (refine sg trivial ?_; try exact ⟨⟩), by (refine sg trivial ?_; try exact ⟨⟩) <;> rfl, hQ⟩ ?_
  clear hQ t1
  rintro r T K' D ⟨rfl, rfl, n, hnr, t1, t49, t50, t51, hQ⟩
  by_cases hn : n < 9
  · obtain ⟨ka, hka⟩ : ∃ ka, l.keys[n]? = some ka := ⟨_, List.getElem?_eq_getElem (by omega)⟩
    obtain ⟨b5, g5, cells5, rw5, c5, hve5, hb5, ⟨kv, hc5, hkv⟩, hcl5, hle5, hld5, hgt5⟩ := hR.at hka
    subst hc5
    have hg5 := hgt5 0 (by omega)
    rw [Nat.mul_one, Nat.add_zero] at hg5
    have hg5 : cells5[n]? = some kv := hg5
    rw [hve5] at t49
    rw [ll] at t49
    rw [drop_at hka, List.all_cons] at hQ
    have n1 : IntKind.i64.wrap ((n : Int) + 1) = ((n + 1 : Nat) : Int) := by rw [wi (by omega) (by omega)]; rfl
    have z0 : (0 : Int) ≤ (n : Int) := by omega
    have z1 : (n : Int) < 9 := by omega
    have z2 : (n : Int) < ((9 : Nat) : Int) := by omega
    have c1 := rkeyR_ ka kv K' hkv
    cases h1 : keysB ka
    all_goals
      rw [h1] at c1
      simp only [h1, Bool.true_and, Bool.false_and] at hQ
      (refine sg (et t1 (et t49 (et t50 (et t51 (et (dt z1) (et z0 (et z1 (et z2 (et Int.toNat_natCast (et Nat.zero_add (et Nat.mul_one (et hb5 hg5)))))))))))) ?_; try exact ⟨⟩)
      repeat ((first | refine (c1).x ?_ | refine drawnF ?_ (by decide +kernel)); (refine sg (et t1 (et t49 (et t50 (et t51 n1)))) ?_; try exact ⟨⟩))
      first | (subst hQ; done) | (rw [← hQ]; done) | exact ⟨r - 1, by omega, n + 1, by omega, hve5.symm, rfl, hQ⟩
  rw [List.drop_eq_nil_of_le (by omega)] at hQ
  have hQ : (true && (maskB l.mask && (if l.kind = 1 then bareB l.shape else (l.comp == 0) && (decide ((l.remap.length : Int) = 0) && shapeB l.shape)))) = Q := hQ
  rw [Bool.true_and] at hQ
  have k1 := rright_ l.mask.1 l.mask.2 (.slice ma l.mask.2.length me) K' (h.mask.old o)
  have k2 := rbare_ l.shape vw vh vp vc vd vda vf vt K' (hs.old o) hlm.shape
  have k3 := rshape13_ l.shape vw vh vp vc vd vda vf vt K' (hs.old o) hlm.shape
  unfold maskB at hQ
  have hl0 : decide ((0 : Int) < (l.mask.2.length : Int)) = !decide ((l.mask.2.length : Int) = 0) := by
    by_cases e : (l.mask.2.length : Int) = 0
    · rw [dt e, df (show ¬ (0 : Int) < (l.mask.2.length : Int) by omega)]; rfl
    · rw [df e, dt (show (0 : Int) < (l.mask.2.length : Int) by omega)]; rfl
  have hr0 : ((l.remap.length : Int) == 0) = decide ((l.remap.length : Int) = 0) := rfl
  generalize rightB l.mask.1 l.mask.2 = p1 at *
  generalize bareB l.shape = p2 at *
  generalize shapeB l.shape = p3 at *
  generalize decide ((l.mask.2.length : Int) = 0) = E at *
  have tail : (p1 && (E || l.mask.1)) = true → (if l.kind = 1 then p2 else (l.comp == 0) && (decide ((l.remap.length : Int) = 0) && p3)) = Q := fun e => by rw [e, Bool.true_and] at hQ; exact hQ
  cases hp1 : p1
  case false =>
    rw [hp1] at k1
    rw [hp1, Bool.false_and, Bool.false_and] at hQ
    subst hQ
    (refine sg (et t1 (et t49 (et t50 (et t51 (et (df (show ¬ (n : Int) < 9 by omega)) g1))))) ?_; try exact ⟨⟩)
    repeat ((first | refine (k1).x ?_ | refine drawnF ?_ (by decide +kernel)); (refine sg (et t1 g1) ?_; try exact ⟨⟩))
  rw [hp1] at k1 hQ tail
  rw [Bool.true_and] at hQ
  rw [Bool.true_and] at tail
  rcases (show (E = true) ∨ (E = false ∧ l.mask.1 = true) ∨ (E = false ∧ l.mask.1 = false) by cases E <;> cases l.mask.1 <;> simp) with hE | ⟨hE, hE2⟩ | ⟨hE, hE2⟩
  case' inr.inr =>
    rw [hE, hE2] at hQ
    have hQ : false = Q := hQ
    subst hQ
    (refine sg (et t1 (et t49 (et t50 (et t51 (et (df (show ¬ (n : Int) < 9 by omega)) g1))))) ?_; try exact ⟨⟩)
    repeat ((first | refine (k1).x ?_ | refine drawnF ?_ (by decide +kernel)); (refine sg (et t1 (et g1 (et hl0 (et hE (et hE2 Bool.not_false))))) ?_; try exact ⟨⟩))
    done
  case' inl =>
    have tail := tail (by rw [hE]; rfl)
    have hE2 := True.intro
  case' inr.inl => have tail := tail (by rw [hE, hE2]; rfl)
  all_goals
    clear hQ
    by_cases kk : l.kind = 1
    · rw [if_pos kk] at tail
      subst tail
      (refine sg (et t1 (et t49 (et t50 (et t51 (et (df (show ¬ (n : Int) < 9 by omega)) g1))))) ?_; try exact ⟨⟩)
      repeat ((first | refine (k1).x ?_ | refine (k2).x ?_ | refine drawnF ?_ (by decide +kernel)); (refine sg (et t1 (et g1 (et hl0 (et hE (et hE2 (et Bool.not_false (et Bool.not_true (bt kk)))))))) ?_; try exact ⟨⟩))
    · rw [if_neg kk] at tail
      cases h1 : (l.comp == 0) with
      | false =>
        simp only [h1, Bool.true_and, Bool.false_and] at tail
        subst tail
        (refine sg (et t1 (et t49 (et t50 (et t51 (et (df (show ¬ (n : Int) < 9 by omega)) g1))))) ?_; try exact ⟨⟩)
        repeat ((first | refine (k1).x ?_ | refine (k3).x ?_ | refine drawnF ?_ (by decide +kernel)); (refine sg (et t1 (et g1 (et hl0 (et hE (et hE2 (et Bool.not_false (et Bool.not_true (et (bf kk) (et hr0 h1))))))))) ?_; try exact ⟨⟩))
      | true =>
        cases h2 : decide ((l.remap.length : Int) = 0) with
        | false =>
          simp only [h1, h2, Bool.true_and, Bool.false_and] at tail
          subst tail
          (refine sg (et t1 (et t49 (et t50 (et t51 (et (df (show ¬ (n : Int) < 9 by omega)) g1))))) ?_; try exact ⟨⟩)
          repeat ((first | refine (k1).x ?_ | refine (k3).x ?_ | refine drawnF ?_ (by decide +kernel)); (refine sg (et t1 (et g1 (et hl0 (et hE (et hE2 (et Bool.not_false (et Bool.not_true (et (bf kk) (et hr0 (et h1 h2)))))))))) ?_; try exact ⟨⟩))
        | true =>
          simp only [h1, h2, Bool.true_and, Bool.false_and] at tail
          subst tail
          (refine sg (et t1 (et t49 (et t50 (et t51 (et (df (show ¬ (n : Int) < 9 by omega)) g1))))) ?_; try exact ⟨⟩)
          repeat ((first | refine (k1).x ?_ | refine (k3).x ?_ | refine drawnF ?_ (by decide +kernel)); (refine sg (et t1 (et g1 (et hl0 (et hE (et hE2 (et Bool.not_false (et Bool.not_true (et (bf kk) (et hr0 (et h1 h2)))))))))) ?_; try exact ⟨⟩))
end Go.Proofs.YtnebnbdeobcegaaGreat
