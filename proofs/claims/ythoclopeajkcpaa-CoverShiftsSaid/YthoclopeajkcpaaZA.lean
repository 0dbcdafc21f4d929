/- Merged texts: BoxJ BoxK. -/
import Derived.Test.YthoclopeajkcpaaZS
/- Chapter 14: the walk of the law on joins. -/
namespace Go.Proofs.Ythoclopeajkcpaa
open Go Go.RowKit E
attribute [local irreducible] XRun XOps XCode XCal XLoop XQ SemCall
set_option linter.unusedSimpArgs false
set_option linter.unusedVariables false
theorem has_def (b : B4) (x y : Int) : has b x y = true ↔ b.x0 ≤ x ∧ x < b.x1 ∧ b.y0 ≤ y ∧ y < b.y1 := by simp [has, and_assoc]
theorem emp_def (b : B4) : emp b = true ↔ b.x1 ≤ b.x0 ∨ b.y1 ≤ b.y0 := by simp [emp]
theorem law_meet (a b : B4) (x y : Int) : has (meet a b) x y = (has a x y && has b x y) := by
  rw [Bool.eq_iff_iff, Bool.and_eq_true, has_def, has_def, has_def]
  have := mx_c a.x0 b.x0
  have := mx_c a.y0 b.y0
  have := mn_c a.x1 b.x1
  have := mn_c a.y1 b.y1
  have := mx_le a.x0 b.x0
  have := mx_le a.y0 b.y0
  have := mn_le a.x1 b.x1
  have := mn_le a.y1 b.y1
  have he := emp_def (meet0 a b)
  unfold meet
  by_cases h : emp (meet0 a b) = true
  · rw [if_pos h]
    have h := he.1 h
    simp only [meet0, zero4] at h ⊢
    omega
  · rw [if_neg h]
    simp only [meet0]
    omega
theorem law_join (a b : B4) (x y : Int) (h : has a x y = true ∨ has b x y = true) : has (join a b) x y = true := by
  rw [has_def, has_def] at h
  rw [has_def]
  have := mn_le a.x0 b.x0
  have := mn_le a.y0 b.y0
  have := mx_le a.x1 b.x1
  have := mx_le a.y1 b.y1
  have ea := emp_def a
  have eb := emp_def b
  unfold join
  split
  · rename_i h'
    rw [Bool.and_eq_true] at h'
    have := ea.1 h'.1
    have := eb.1 h'.2
    omega
  · split
    · rename_i h'
      have := ea.1 h'
      omega
    · split
      · rename_i h'
        have := eb.1 h'
        omega
      · simp only [join0]; omega
theorem mn_comm (a b : Int) : mn a b = mn b a := by unfold mn; split <;> split <;> omega
theorem mx_comm (a b : Int) : mx a b = mx b a := by unfold mx; split <;> split <;> omega
theorem meet_comm (a b : B4) : meet a b = meet b a := by
  have e : meet0 a b = meet0 b a := by unfold meet0; rw [mx_comm a.x0, mx_comm a.y0, mn_comm a.x1, mn_comm a.y1]
  unfold meet; rw [e]
theorem join_comm (a b : B4) : join a b = join b a := by
  have e : join0 a b = join0 b a := by unfold join0; rw [mn_comm a.x0, mn_comm a.y0, mx_comm a.x1, mx_comm a.y1]
  unfold join; rw [e, Bool.and_comm]
  cases emp a <;> cases emp b <;> simp
def cov (B b : B4) : Prop := (B.x0 ≤ b.x0 ∧ B.y0 ≤ b.y0) ∧ b.x1 ≤ B.x1 ∧ b.y1 ≤ B.y1
theorem cov.trans {A B C : B4} (h : cov A B) (h' : cov B C) : cov A C := by unfold cov at *; omega
theorem cov_j1 (a b : B4) : cov (join0 a b) a := ⟨⟨(mn_le _ _).1, (mn_le _ _).1⟩, (mx_le _ _).1, (mx_le _ _).1⟩
theorem cov_j2 (a b : B4) : cov (join0 a b) b := ⟨⟨(mn_le _ _).2, (mn_le _ _).2⟩, (mx_le _ _).2, (mx_le _ _).2⟩
theorem cov_j {X a b : B4} (ha : cov X a) (hb : cov X b) : cov X (join0 a b) := by
  unfold cov join0 at *
  have := mn_c a.x0 b.x0
  have := mn_c a.y0 b.y0
  have := mx_c a.x1 b.x1
  have := mx_c a.y1 b.y1
  simp only
  omega
theorem fold_cov : ∀ (l : List Pt) (s : Bool × B4), (s.1 = false → cov (l.foldl stepB s).2 s.2) ∧ ∀ p ∈ l, cov (l.foldl stepB s).2 (pbx p)
  | [], s => ⟨fun _ => ⟨⟨by simp, by simp⟩, by simp, by simp⟩, by simp⟩
  | p :: l, s => by
    obtain ⟨h1, h2⟩ := fold_cov l (stepB s p)
    have h1 := h1 rfl
    simp only [List.foldl_cons]
    refine ⟨fun hs => ?_, fun x hx => ?_⟩
    · have := h1.trans (cov_j1 _ _)
      rw [hs] at this
      simpa using this
    · rcases List.mem_cons.1 hx with rfl | hx
      · exact h1.trans (cov_j2 _ _)
      · exact h2 x hx
theorem fold_att : ∀ (l : List Pt) (s : Bool × B4) (X : B4), (s.1 = false → cov X s.2) → (∀ p ∈ l, cov X (pbx p)) → (l ≠ [] ∨ s.1 = false) → cov X (l.foldl stepB s).2
  | [], s, X, h1, _, h3 => by rcases h3 with h | h; exact absurd rfl h; exact h1 h
  | p :: l, s, X, h1, h2, _ => by
    simp only [List.foldl_cons]
    refine fold_att l (stepB s p) X (fun _ => ?_) (fun x hx => h2 x (by simp [hx])) (.inr rfl)
    refine cov_j ?_ (h2 p (by simp))
    split
    · exact h2 p (by simp)
    · rename_i h; exact h1 (by simpa using h)
theorem boxOf_flat (ps : List PL) : boxOf ps = ((ps.flatMap (·.2)).foldl stepB (true, zero4)).2 := by
  unfold boxOf
  congr 1
  generalize (true, zero4) = s
  induction ps generalizing s with
  | nil => rfl
  | cons x l ih => rw [List.flatMap_cons, List.foldl_append, List.foldl_cons, ih]; rfl
theorem law_box (ps : List PL) (x : PL) (hx : x ∈ ps) (he : emp (boxOf [x]) = false) : join (boxOf ps) (boxOf [x]) = boxOf ps := by
  have hq : x.2 ≠ [] := fun h => by
    rw [boxOf_flat] at he
    simp [h] at he
    exact absurd he (by decide)
  have hc : cov (boxOf ps) (boxOf [x]) := by
    rw [boxOf_flat [x]]
    refine fold_att _ _ _ (fun h => absurd h (by decide)) (fun p hp => ?_) (.inl (by simpa using hq))
    rw [boxOf_flat ps]
    refine (fold_cov _ _).2 p (List.mem_flatMap.2 ⟨x, hx, by simpa using hp⟩)
  generalize boxOf [x] = b at *
  generalize boxOf ps = B at *
  have eb : ¬ (b.x1 ≤ b.x0 ∨ b.y1 ≤ b.y0) := fun h => by rw [(emp_def b).2 h] at he; exact absurd he (by decide)
  have eB : emp B = false := by
    cases h : emp B with
    | false => rfl
    | true =>
      have := (emp_def B).1 h
      unfold cov at hc
      omega
  unfold join
  rw [eB, he]
  simp only [Bool.and_self, Bool.false_eq_true, if_false]
  unfold join0 cov at *
  have : mn B.x0 b.x0 = B.x0 := by unfold mn; split <;> omega
  have : mn B.y0 b.y0 = B.y0 := by unfold mn; split <;> omega
  have : mx B.x1 b.x1 = B.x1 := by unfold mx; split <;> omega
  have : mx B.y1 b.y1 = B.y1 := by unfold mx; split <;> omega
  simp only [*]
end Go.Proofs.Ythoclopeajkcpaa
/- Chapter 14: the walk of the law on joins. -/
namespace Go.Proofs.Ythoclopeajkcpaa
open Go Go.RowKit E
attribute [local irreducible] XRun XOps XCode XCal XLoop XQ SemCall
set_option linter.unusedSimpArgs false
set_option linter.unusedVariables false
theorem and_5 (x : Int) : bits .and .i64 x 31 = x % 32 := and_i64 x 5 (by decide)
theorem newTp {H : AH} {t : Nat} {lv : Value} {ls : List Int} (h : Ints H t lv ls) (L L' : AH) (n : Nat) (hn : n = H.length + L.length) : TapeAt (H ++ (L ++ (tblk lv 0 0 :: L'))) n 0 lv ls := by
  subst hn
  refine ⟨(h.to (by omega)).app _, 0, by omega, by omega, ?_⟩
  rw [hget_app, List.getElem?_append_right (by omega), Nat.sub_self]; rfl
theorem polysOf1 (H : AH) {tb g : Nat} {lv : Value} {ls : List Int} (h : TapeAt H tb g lv ls) : Cal Try.prog 31 [ap tb 0 g] H fun v H' W => W = [tb] ∧ Olx tb H H' ∧ H.length ≤ H'.length ∧ ∃ ps, Polys H' v ps ∧ ps.length ≤ 20000 ∧ ∀ x ∈ ps, PolyB x := by
  obtain ⟨v, H', W, h1, h2, h3⟩ := polysOf_ H h
  exact ⟨v, H', [tb], h1.setW h2, rfl, h3⟩
def b32 (b : B4) : B4 := ⟨b.x0 % 32, b.y0 % 32, b.x1 % 32, b.y1 % 32⟩
set_option maxHeartbeats 4000000 in
theorem bjoins (a b : B4) (x y : Int) (lv : Value) (ls : List Int) (t : Nat) (H : AH) (h : Ints H t lv ls) : SemCall Try.prog 9 [a.val, b.val, .int .i64 x, .int .i64 y, lv] H (.bool true) H [] := by
  refine pure_of ?_ rfl
  have hcl := h.cellsL
  have ha1 : a.x0 % 32 = (b32 a).x0 := rfl
  have ha2 : a.y0 % 32 = (b32 a).y0 := rfl
  have ha3 : a.x1 % 32 = (b32 a).x1 := rfl
  have ha4 : a.y1 % 32 = (b32 a).y1 := rfl
  have hb1 : b.x0 % 32 = (b32 b).x0 := rfl
  have hb2 : b.y0 % 32 = (b32 b).y0 := rfl
  have hb3 : b.x1 % 32 = (b32 b).x1 := rfl
  have hb4 : b.y1 % 32 = (b32 b).y1 := rfl
  generalize b32 a = A at *
  generalize b32 b = B at *
  have m1 := fun H => meet_ A B H
  have m2 := fun H => meet_ B A H
  rw [← meet_comm A B] at m2
  have j1 := fun H => join_ A B H
  have j2 := fun H => join_ B A H
  rw [← join_comm A B] at j2
  have l1 := law_meet A B (x % 32) (y % 32)
  have l2 := law_join A B (x % 32) (y % 32)
  have c1 := fun H => has_ A (x % 32) (y % 32) H
  have c2 := fun H => has_ B (x % 32) (y % 32) H
  have c3 := fun H => has_ (meet A B) (x % 32) (y % 32) H
  have c4 := fun H => has_ (join A B) (x % 32) (y % 32) H
  rw [l1] at c3
  generalize has A (x % 32) (y % 32) = p at *
  generalize has B (x % 32) (y % 32) = q at *
  generalize has (join A B) (x % 32) (y % 32) = jn at *
  generalize meet A B = M at *
  generalize join A B = J at *
  refine XCal.of hm Try.func9 rfl (fun xs w => Try.call9 xs w) Try.ntmps9 Try.results9 rfl ?_
  simp only [go_sem, Nat.reduceEqDiff, Nat.reduceAdd, Nat.reduceSub, Nat.reduceMul, Nat.reduceLT, Nat.reduceLeDiff, Int.reducePow, Int.reduceBEq, Int.reduceBNe, Int.reduceDiv, Int.reduceMod, Int.reduceEq, Int.reduceLT, Int.reduceLE, Int.reduceAdd, Int.reduceSub, Int.reduceMul, Int.reduceNeg, Int.reduceToNat, Int.reduceTDiv, Int.reduceTMod, ↓reduceIte]
  cases p <;> cases q
  all_goals
    first | (have l2 := l2 (.inl rfl); subst l2) | (have l2 := l2 (.inr rfl); subst l2) | skip
    repeat ((first | refine (c1 _).x ?_ | refine (c2 _).x ?_ | refine (c3 _).x ?_ | refine (c4 _).x ?_ | refine (m1 _).x ?_ | refine (m2 _).x ?_ | refine (j1 _).x ?_ | refine (j2 _).x ?_ | refine drawnF ?_ (by decide +kernel) | refine drawnU [(13, 28), (14, 28), (15, 28), (16, 28), (17, 28), (18, 28), (19, 28), (20, 28), (21, 28), (22, 28), (23, 28), (24, 28), (25, 28)] (by decide +kernel) ?_ | refine drawnU [(3, 4), (3, 5), (3, 6)] (by decide +kernel) ?_ | refine drawnU [(2, 3), (2, 4), (2, 6), (5, 6), (19, 20), (19, 21), (29, 30), (29, 31), (38, 39), (38, 40)] (by decide +kernel) ?_ | refine drawnU [(6, 7)] (by decide +kernel) ?_); simp only [go_sem, Nat.reduceEqDiff, Nat.reduceAdd, Nat.reduceSub, Nat.reduceMul, Nat.reduceLT, Nat.reduceLeDiff, Int.reducePow, Int.reduceBEq, Int.reduceBNe, Int.reduceDiv, Int.reduceMod, Int.reduceEq, Int.reduceLT, Int.reduceLE, Int.reduceAdd, Int.reduceSub, Int.reduceMul, Int.reduceNeg, Int.reduceToNat, Int.reduceTDiv, Int.reduceTMod, ↓reduceIte, and_5, ha1, ha2, ha3, ha4, hb1, hb2, hb3, hb4, b4C, beq_self_eq_true, bne_self_eq_false, hcl])
  all_goals
    refine (polysOf1 _ (newTp h [_, _, _, _] [] (H.length + 4) rfl)).x ?_
    rintro v H1 W1 ⟨rfl, hOx, hKl, ps, hP, hpl, hpb⟩
    have hKl' : H.length ≤ H1.length := by simp at hKl; omega
    clear hKl hOx
    obtain ⟨va, ve, hv⟩ := hP.form
    subst hv
    simp only [go_sem, Nat.reduceEqDiff, Nat.reduceAdd, Nat.reduceSub, Nat.reduceMul, Nat.reduceLT, Nat.reduceLeDiff, Int.reducePow, Int.reduceBEq, Int.reduceBNe, Int.reduceDiv, Int.reduceMod, Int.reduceEq, Int.reduceLT, Int.reduceLE, Int.reduceAdd, Int.reduceSub, Int.reduceMul, Int.reduceNeg, Int.reduceToNat, Int.reduceTDiv, Int.reduceTMod, ↓reduceIte]
    refine (boxof_ ps _ (fun x hx p hp => ((hpb x hx).2 p hp).ip) _ hP).x ?_
    have kd : ∀ n, decide (H1.length + n < H.length) = false := fun n => df (by omega)
    have kd0 : decide (H1.length < H.length) = false := df (by omega)
    simp only [go_sem, Nat.reduceEqDiff, Nat.reduceAdd, Nat.reduceSub, Nat.reduceMul, Nat.reduceLT, Nat.reduceLeDiff, Int.reducePow, Int.reduceBEq, Int.reduceBNe, Int.reduceDiv, Int.reduceMod, Int.reduceEq, Int.reduceLT, Int.reduceLE, Int.reduceAdd, Int.reduceSub, Int.reduceMul, Int.reduceNeg, Int.reduceToNat, Int.reduceTDiv, Int.reduceTMod, ↓reduceIte, kd, kd0]
    have hb0 : (H1 ++ [⟨b4C (boxOf ps), 0, true⟩])[H1.length]? = some (⟨b4C (boxOf ps), 0, true⟩ : Blk) := by rw [hget_app0]; rfl
    have hlaw := law_box ps
    generalize boxOf ps = BP at *
    refine keep (fun k T K D => D = [] ∧ ∃ (i : Nat), i + k = ps.length ∧ Old (H1 ++ [⟨b4C BP, 0, true⟩]) K ∧ H1.length + 1 ≤ K.length ∧ T 18 = ap H1.length 0 0 ∧ T 110 = .slice va ps.length ve ∧ T 111 = .int .i64 (ps.length : Int) ∧ T 112 = .int .i64 (i : Int)) ps.length
      ⟨rfl, 0, by omega, Old.refl _, by simp, by simp only [go_sem, Nat.reduceEqDiff, Nat.reduceAdd, Nat.reduceSub, Nat.reduceMul, Nat.reduceLT, Nat.reduceLeDiff, Int.reducePow, Int.reduceBEq, Int.reduceBNe, Int.reduceDiv, Int.reduceMod, Int.reduceEq, Int.reduceLT, Int.reduceLE, Int.reduceAdd, Int.reduceSub, Int.reduceMul, Int.reduceNeg, Int.reduceToNat, Int.reduceTDiv, Int.reduceTMod, ↓reduceIte], by simp only [go_sem, Nat.reduceEqDiff, Nat.reduceAdd, Nat.reduceSub, Nat.reduceMul, Nat.reduceLT, Nat.reduceLeDiff, Int.reducePow, Int.reduceBEq, Int.reduceBNe, Int.reduceDiv, Int.reduceMod, Int.reduceEq, Int.reduceLT, Int.reduceLE, Int.reduceAdd, Int.reduceSub, Int.reduceMul, Int.reduceNeg, Int.reduceToNat, Int.reduceTDiv, Int.reduceTMod, ↓reduceIte], by simp only [go_sem, Nat.reduceEqDiff, Nat.reduceAdd, Nat.reduceSub, Nat.reduceMul, Nat.reduceLT, Nat.reduceLeDiff, Int.reducePow, Int.reduceBEq, Int.reduceBNe, Int.reduceDiv, Int.reduceMod, Int.reduceEq, Int.reduceLT, Int.reduceLE, Int.reduceAdd, Int.reduceSub, Int.reduceMul, Int.reduceNeg, Int.reduceToNat, Int.reduceTDiv, Int.reduceTMod, ↓reduceIte], by simp only [go_sem, Nat.reduceEqDiff, Nat.reduceAdd, Nat.reduceSub, Nat.reduceMul, Nat.reduceLT, Nat.reduceLeDiff, Int.reducePow, Int.reduceBEq, Int.reduceBNe, Int.reduceDiv, Int.reduceMod, Int.reduceEq, Int.reduceLT, Int.reduceLE, Int.reduceAdd, Int.reduceSub, Int.reduceMul, Int.reduceNeg, Int.reduceToNat, Int.reduceTDiv, Int.reduceTMod, ↓reduceIte] <;> rfl⟩ ?_
    clear kd kd0
    rintro k T K D ⟨rfl, i, hik, hold, hKl, h18, h110, h111, h112⟩
    have kd : ∀ n, decide (K.length + n < H.length) = false := fun n => df (by omega)
    have kd0 : decide (K.length < H.length) = false := df (by omega)
    have km := hold _ _ hb0
    by_cases hk : i < ps.length
    · obtain ⟨b, g, rest, rw_, vs, hve, hb, hvl, hlen, hel⟩ := hP.ne (fun e => by rw [e] at hk; simp at hk)
      rw [hve] at h110
      obtain ⟨x, hxi, hdr⟩ := getD_some hk
      have hxm := List.mem_of_getElem? hxi
      obtain ⟨pv, hvi, hp⟩ := hel i x hxi
      have hld := fun (b : Nat) => ald_pl (b := b) (g := g) (rw_ := rw_) rest hvi
      have kb := hold _ _ (old_get hb _)
      have hpk := (hp.app [⟨b4C BP, 0, true⟩]).old hold
      obtain ⟨pa, pe, hpe⟩ := hpk.form
      subst hpe
      have w1 : IntKind.i64.wrap ((i : Int) + 1) = ((i + 1 : Nat) : Int) := by rw [wi (by omega) (by omega)]; rfl
      simp only [go_sem, Nat.reduceEqDiff, Nat.reduceAdd, Nat.reduceSub, Nat.reduceMul, Nat.reduceLT, Nat.reduceLeDiff, Int.reducePow, Int.reduceBEq, Int.reduceBNe, Int.reduceDiv, Int.reduceMod, Int.reduceEq, Int.reduceLT, Int.reduceLE, Int.reduceAdd, Int.reduceSub, Int.reduceMul, Int.reduceNeg, Int.reduceToNat, Int.reduceTDiv, Int.reduceTMod, ↓reduceIte, h18, h110, h111, h112, dt (show (i : Int) < (ps.length : Int) by omega), show (0 : Int) ≤ (i : Int) by omega, show (i : Int) < (ps.length : Int) by omega, Int.toNat_natCast, Nat.zero_add, kb, hld, kd, kd0]
      refine (boxof_ [(x.1, x.2)] _ (fun y hy p hp => by simp at hy; subst hy; exact ((hpb x hxm).2 p hp).ip) _ (Polys.one (b := K.length + 1) (by rw [hget_app]; rfl) (hpk.app _))).x ?_
      have hlx := hlaw (x.1, x.2) hxm
      generalize boxOf [(x.1, x.2)] = bx at *
      have e1 := fun H => bempty_ bx H
      have e2 := fun H => join_ BP bx H
      cases hbx : emp bx with
      | true =>
        rw [hbx] at e1
        simp only [go_sem, Nat.reduceEqDiff, Nat.reduceAdd, Nat.reduceSub, Nat.reduceMul, Nat.reduceLT, Nat.reduceLeDiff, Int.reducePow, Int.reduceBEq, Int.reduceBNe, Int.reduceDiv, Int.reduceMod, Int.reduceEq, Int.reduceLT, Int.reduceLE, Int.reduceAdd, Int.reduceSub, Int.reduceMul, Int.reduceNeg, Int.reduceToNat, Int.reduceTDiv, Int.reduceTMod, ↓reduceIte, h18, h110, h111, h112, kd, kd0]
        repeat ((first | refine (e1 _).x ?_ | refine (e2 _).x ?_ | refine drawnF ?_ (by decide +kernel) | refine drawnU [(13, 28), (14, 28), (15, 28), (16, 28), (17, 28), (18, 28), (19, 28), (20, 28), (21, 28), (22, 28), (23, 28), (24, 28), (25, 28)] (by decide +kernel) ?_ | refine drawnU [(3, 4), (3, 5), (3, 6)] (by decide +kernel) ?_ | refine drawnU [(2, 3), (2, 4), (2, 6), (5, 6), (19, 20), (19, 21), (29, 30), (29, 31), (38, 39), (38, 40)] (by decide +kernel) ?_ | refine drawnU [(6, 7)] (by decide +kernel) ?_); simp only [go_sem, Nat.reduceEqDiff, Nat.reduceAdd, Nat.reduceSub, Nat.reduceMul, Nat.reduceLT, Nat.reduceLeDiff, Int.reducePow, Int.reduceBEq, Int.reduceBNe, Int.reduceDiv, Int.reduceMod, Int.reduceEq, Int.reduceLT, Int.reduceLE, Int.reduceAdd, Int.reduceSub, Int.reduceMul, Int.reduceNeg, Int.reduceToNat, Int.reduceTDiv, Int.reduceTMod, ↓reduceIte, h18, h110, h111, h112, kd, kd0, w1, old_get km, beq_self_eq_true, bne_self_eq_false])
        exact ⟨k - 1, by omega, i + 1, by omega, hold.app _, by omega, hve.symm, rfl⟩
      | false =>
        rw [hbx] at e1
        rw [hlx hbx] at e2
        simp only [go_sem, Nat.reduceEqDiff, Nat.reduceAdd, Nat.reduceSub, Nat.reduceMul, Nat.reduceLT, Nat.reduceLeDiff, Int.reducePow, Int.reduceBEq, Int.reduceBNe, Int.reduceDiv, Int.reduceMod, Int.reduceEq, Int.reduceLT, Int.reduceLE, Int.reduceAdd, Int.reduceSub, Int.reduceMul, Int.reduceNeg, Int.reduceToNat, Int.reduceTDiv, Int.reduceTMod, ↓reduceIte, h18, h110, h111, h112, kd, kd0]
        repeat ((first | refine (e1 _).x ?_ | refine (e2 _).x ?_ | refine drawnF ?_ (by decide +kernel) | refine drawnU [(13, 28), (14, 28), (15, 28), (16, 28), (17, 28), (18, 28), (19, 28), (20, 28), (21, 28), (22, 28), (23, 28), (24, 28), (25, 28)] (by decide +kernel) ?_ | refine drawnU [(3, 4), (3, 5), (3, 6)] (by decide +kernel) ?_ | refine drawnU [(2, 3), (2, 4), (2, 6), (5, 6), (19, 20), (19, 21), (29, 30), (29, 31), (38, 39), (38, 40)] (by decide +kernel) ?_ | refine drawnU [(6, 7)] (by decide +kernel) ?_); simp only [go_sem, Nat.reduceEqDiff, Nat.reduceAdd, Nat.reduceSub, Nat.reduceMul, Nat.reduceLT, Nat.reduceLeDiff, Int.reducePow, Int.reduceBEq, Int.reduceBNe, Int.reduceDiv, Int.reduceMod, Int.reduceEq, Int.reduceLT, Int.reduceLE, Int.reduceAdd, Int.reduceSub, Int.reduceMul, Int.reduceNeg, Int.reduceToNat, Int.reduceTDiv, Int.reduceTMod, ↓reduceIte, h18, h110, h111, h112, kd, kd0, w1, old_get km, beq_self_eq_true, bne_self_eq_false])
        exact ⟨k - 1, by omega, i + 1, by omega, hold.app _, by omega, hve.symm, rfl⟩
    · simp only [go_sem, Nat.reduceEqDiff, Nat.reduceAdd, Nat.reduceSub, Nat.reduceMul, Nat.reduceLT, Nat.reduceLeDiff, Int.reducePow, Int.reduceBEq, Int.reduceBNe, Int.reduceDiv, Int.reduceMod, Int.reduceEq, Int.reduceLT, Int.reduceLE, Int.reduceAdd, Int.reduceSub, Int.reduceMul, Int.reduceNeg, Int.reduceToNat, Int.reduceTDiv, Int.reduceTMod, ↓reduceIte, h18, h110, h111, h112, df (show ¬ (i : Int) < (ps.length : Int) by omega)]
      repeat ((first | refine (bknown_ _).x ?_ | refine drawnF ?_ (by decide +kernel) | refine drawnU [(13, 28), (14, 28), (15, 28), (16, 28), (17, 28), (18, 28), (19, 28), (20, 28), (21, 28), (22, 28), (23, 28), (24, 28), (25, 28)] (by decide +kernel) ?_ | refine drawnU [(3, 4), (3, 5), (3, 6)] (by decide +kernel) ?_ | refine drawnU [(2, 3), (2, 4), (2, 6), (5, 6), (19, 20), (19, 21), (29, 30), (29, 31), (38, 39), (38, 40)] (by decide +kernel) ?_ | refine drawnU [(6, 7)] (by decide +kernel) ?_); simp only [go_sem, Nat.reduceEqDiff, Nat.reduceAdd, Nat.reduceSub, Nat.reduceMul, Nat.reduceLT, Nat.reduceLeDiff, Int.reducePow, Int.reduceBEq, Int.reduceBNe, Int.reduceDiv, Int.reduceMod, Int.reduceEq, Int.reduceLT, Int.reduceLE, Int.reduceAdd, Int.reduceSub, Int.reduceMul, Int.reduceNeg, Int.reduceToNat, Int.reduceTDiv, Int.reduceTMod, ↓reduceIte, h18])
end Go.Proofs.Ythoclopeajkcpaa
