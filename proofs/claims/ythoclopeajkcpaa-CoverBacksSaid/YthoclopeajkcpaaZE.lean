/- Merged texts: CoverC CoverD CoverE CoverF CoverG. -/
import Derived.Test.YthoclopeajkcpaaZD
/- Chapter 15: the walk of the closed law. -/
namespace Go.Proofs.Ythoclopeajkcpaa
open Go Go.RowKit E
attribute [local irreducible] XRun XOps XCode XCal XLoop XQ SemCall
set_option linter.unusedSimpArgs false
set_option linter.unusedVariables false
theorem tapes15_ (n : Int) (H : AH) : Cal Try.prog 42 [.int .i64 n] H fun v H' W => W = [] ∧ (∃ L, H' = H ++ L) ∧ ∃ b lv ls, v = ap b 0 0 ∧ H.length ≤ b ∧ TapeAt H' b 0 lv ls := by
  refine adds_of ?_
  refine XCal.of hm Try.func42 rfl (fun xs w => Try.call42 xs w) Try.ntmps42 Try.results42 rfl ?_
  simp only [go_sem, Nat.reduceEqDiff, Nat.reduceAdd, Nat.reduceSub, Nat.reduceMul, Nat.reduceLT, Nat.reduceLeDiff, Int.reducePow, Int.reduceBEq, Int.reduceBNe, Int.reduceDiv, Int.reduceMod, Int.reduceEq, Int.reduceLT, Int.reduceLE, Int.reduceAdd, Int.reduceSub, Int.reduceMul, Int.reduceNeg, Int.reduceToNat, Int.reduceTDiv, Int.reduceTMod, ↓reduceIte]
  refine keep (fun k T H' D => D = [] ∧ ∃ i : Nat, i + k = 90 ∧ T 0 = .int .i64 n ∧ T 4 = .int .i64 (i : Int) ∧ ((i = 0 ∧ T 3 = .slice none 0 0 ∧ H' = H) ∨ ∃ g X G ls, 0 < i ∧ T 3 = sl (H.length + 1) 0 g i 1 ∧ H' = H ++ (X :: ⟨intC ls, g, true⟩ :: G) ∧ ls.length = i)) 90
    ⟨rfl, 0, rfl, by simp only [go_sem, Nat.reduceEqDiff, Nat.reduceAdd, Nat.reduceSub, Nat.reduceMul, Nat.reduceLT, Nat.reduceLeDiff, Int.reducePow, Int.reduceBEq, Int.reduceBNe, Int.reduceDiv, Int.reduceMod, Int.reduceEq, Int.reduceLT, Int.reduceLE, Int.reduceAdd, Int.reduceSub, Int.reduceMul, Int.reduceNeg, Int.reduceToNat, Int.reduceTDiv, Int.reduceTMod, ↓reduceIte], by simp only [go_sem, Nat.reduceEqDiff, Nat.reduceAdd, Nat.reduceSub, Nat.reduceMul, Nat.reduceLT, Nat.reduceLeDiff, Int.reducePow, Int.reduceBEq, Int.reduceBNe, Int.reduceDiv, Int.reduceMod, Int.reduceEq, Int.reduceLT, Int.reduceLE, Int.reduceAdd, Int.reduceSub, Int.reduceMul, Int.reduceNeg, Int.reduceToNat, Int.reduceTDiv, Int.reduceTMod, ↓reduceIte] <;> rfl, .inl ⟨rfl, by simp only [go_sem, Nat.reduceEqDiff, Nat.reduceAdd, Nat.reduceSub, Nat.reduceMul, Nat.reduceLT, Nat.reduceLeDiff, Int.reducePow, Int.reduceBEq, Int.reduceBNe, Int.reduceDiv, Int.reduceMod, Int.reduceEq, Int.reduceLT, Int.reduceLE, Int.reduceAdd, Int.reduceSub, Int.reduceMul, Int.reduceNeg, Int.reduceToNat, Int.reduceTDiv, Int.reduceTMod, ↓reduceIte] <;> rfl, rfl⟩⟩ ?_
  rintro k T H' D ⟨rfl, i, hik, h0, h4, hC⟩
  by_cases hk : i < 90
  · have w1 : IntKind.i64.wrap ((i : Int) + 1) = ((i + 1 : Nat) : Int) := by rw [wi (by omega) (by omega)]; rfl
    rcases hC with ⟨hi0, h3, rfl⟩ | ⟨g, X, G, ls, hi0, h3, rfl, hls⟩
    · simp only [go_sem, Nat.reduceEqDiff, Nat.reduceAdd, Nat.reduceSub, Nat.reduceMul, Nat.reduceLT, Nat.reduceLeDiff, Int.reducePow, Int.reduceBEq, Int.reduceBNe, Int.reduceDiv, Int.reduceMod, Int.reduceEq, Int.reduceLT, Int.reduceLE, Int.reduceAdd, Int.reduceSub, Int.reduceMul, Int.reduceNeg, Int.reduceToNat, Int.reduceTDiv, Int.reduceTMod, ↓reduceIte, h0, h4, h3, dt (show (i : Int) < 90 by omega), w1]
      exact ⟨k - 1, by omega, i + 1, by omega, rfl, .inr ⟨0, _, [], [_], by omega, by rw [hi0], rfl, by rw [hi0]; rfl⟩⟩
    · have hcl : (intC ls).length = i := by rw [inC_len, hls]
      have s1 : (i + 1) * 8 - 140737488355328 = 0 := Nat.sub_eq_zero_of_le (Nat.le_trans (Nat.mul_le_mul_right 8 (show i + 1 ≤ 4000 by omega)) (by decide))
      have s2 : i + 1 - 140737488355328 = 0 := Nat.sub_eq_zero_of_le (Nat.le_trans (show i + 1 ≤ 4000 by omega) (by decide))
      simp only [go_sem, Nat.reduceEqDiff, Nat.reduceAdd, Nat.reduceSub, Nat.reduceMul, Nat.reduceLT, Nat.reduceLeDiff, Int.reducePow, Int.reduceBEq, Int.reduceBNe, Int.reduceDiv, Int.reduceMod, Int.reduceEq, Int.reduceLT, Int.reduceLE, Int.reduceAdd, Int.reduceSub, Int.reduceMul, Int.reduceNeg, Int.reduceToNat, Int.reduceTDiv, Int.reduceTMod, ↓reduceIte, h0, h4, h3, dt (show (i : Int) < 90 by omega), w1, hcl, s1, s2, Nat.mul_one]
      exact ⟨k - 1, by omega, i + 1, by omega, rfl, .inr ⟨g + 1, X, _, ls ++ [_], by omega, rfl, by rw [inC_app]; rfl, by rw [List.length_append, hls]; rfl⟩⟩
  · have hi : i = 90 := by omega
    subst hi
    rcases hC with ⟨hj0, _, _⟩ | ⟨g, X, G, ls, hi0, h3, rfl, hls⟩
    · omega
    simp only [go_sem, Nat.reduceEqDiff, Nat.reduceAdd, Nat.reduceSub, Nat.reduceMul, Nat.reduceLT, Nat.reduceLeDiff, Int.reducePow, Int.reduceBEq, Int.reduceBNe, Int.reduceDiv, Int.reduceMod, Int.reduceEq, Int.reduceLT, Int.reduceLE, Int.reduceAdd, Int.reduceSub, Int.reduceMul, Int.reduceNeg, Int.reduceToNat, Int.reduceTDiv, Int.reduceTMod, ↓reduceIte, h0, h4, h3]
    refine ⟨H.length + (G.length + 1 + 1), sl (H.length + 1) 0 g 90 1, ls, rfl, by omega, ?_⟩
    refine ⟨.inr ⟨H.length + 1, g, [], true, by rw [hls], by omega, by rw [hget_app, List.append_nil]; rfl, by omega⟩, 0, by omega, by omega, ?_⟩
    rw [hget_app]
    show (G ++ _)[G.length]? = _
    rw [hget_app0]; rfl
/-- One poly of three places, newly laid. -/
theorem tri_ps (J : AH) (p q r : Pt) (a1 a2 b1 b2 c1 c2 : Int) (e1 : p = (a1, a2)) (e2 : q = (b1, b2)) (e3 : r = (c1, c2)) : Polys (J ++ [(⟨[.int .i64 a1, .int .i64 a2, .int .i64 b1, .int .i64 b2, .int .i64 c1, .int .i64 c2], 0, true⟩ : Blk), ⟨[.bool false, sl J.length 0 0 3 2], 0, true⟩]) (sl (J.length + 1) 0 0 1 2) [(false, [p, q, r])] := by
  subst e1; subst e2; subst e3
  exact Polys.one (by rw [hget_app]; rfl) (.inr ⟨J.length, 0, [], true, rfl, by rw [hget_app0]; rfl, by simp⟩)
theorem tri_s (p q r : Pt) : PolyS [(false, [p, q, r])] := ⟨by simp, fun x hx => by simp at hx; subst hx; simp⟩
set_option maxHeartbeats 4000000 in
theorem cnums (H : AH) : SemCall Try.prog 13 [] H (.bool true) H [] := by
  refine pure_of ?_ rfl
  refine XCal.of hm Try.func13 rfl (fun xs w => Try.call13 xs w) Try.ntmps13 Try.results13 rfl ?_
  simp only [go_sem, Nat.reduceEqDiff, Nat.reduceAdd, Nat.reduceSub, Nat.reduceMul, Nat.reduceLT, Nat.reduceLeDiff, Int.reducePow, Int.reduceBEq, Int.reduceBNe, Int.reduceDiv, Int.reduceMod, Int.reduceEq, Int.reduceLT, Int.reduceLE, Int.reduceAdd, Int.reduceSub, Int.reduceMul, Int.reduceNeg, Int.reduceToNat, Int.reduceTDiv, Int.reduceTMod, ↓reduceIte]
  refine keep (fun k T K D => D = [] ∧ H.length ≤ K.length ∧ ∃ i : Nat, i + k = 50 ∧ T 1 = .int .i64 (i : Int)) 50 ⟨rfl, by omega, 0, rfl, by simp only [go_sem, Nat.reduceEqDiff, Nat.reduceAdd, Nat.reduceSub, Nat.reduceMul, Nat.reduceLT, Nat.reduceLeDiff, Int.reducePow, Int.reduceBEq, Int.reduceBNe, Int.reduceDiv, Int.reduceMod, Int.reduceEq, Int.reduceLT, Int.reduceLE, Int.reduceAdd, Int.reduceSub, Int.reduceMul, Int.reduceNeg, Int.reduceToNat, Int.reduceTDiv, Int.reduceTMod, ↓reduceIte] <;> rfl⟩ ?_
  rintro k T K D ⟨rfl, hKl, i, hik, h1⟩
  by_cases hk : i < 50
  · have w1 : IntKind.i64.wrap ((i : Int) + 1) = ((i + 1 : Nat) : Int) := by rw [wi (by omega) (by omega)]; rfl
    simp only [go_sem, Nat.reduceEqDiff, Nat.reduceAdd, Nat.reduceSub, Nat.reduceMul, Nat.reduceLT, Nat.reduceLeDiff, Int.reducePow, Int.reduceBEq, Int.reduceBNe, Int.reduceDiv, Int.reduceMod, Int.reduceEq, Int.reduceLT, Int.reduceLE, Int.reduceAdd, Int.reduceSub, Int.reduceMul, Int.reduceNeg, Int.reduceToNat, Int.reduceTDiv, Int.reduceTMod, ↓reduceIte, h1, dt (show (i : Int) < 50 by omega)]
    refine (tapes15_ (i : Int) K).x ?_
    rintro v H1 W1 ⟨rfl, ⟨L, rfl⟩, tb, lv, ls, rfl, htb, hT⟩
    have hL : H.length ≤ (K ++ L).length := by simp; omega
    have htb : H.length ≤ tb := by omega
    generalize K ++ L = K1 at *
    simp only [go_sem, Nat.reduceEqDiff, Nat.reduceAdd, Nat.reduceSub, Nat.reduceMul, Nat.reduceLT, Nat.reduceLeDiff, Int.reducePow, Int.reduceBEq, Int.reduceBNe, Int.reduceDiv, Int.reduceMod, Int.reduceEq, Int.reduceLT, Int.reduceLE, Int.reduceAdd, Int.reduceSub, Int.reduceMul, Int.reduceNeg, Int.reduceToNat, Int.reduceTDiv, Int.reduceTMod, ↓reduceIte, h1]
    refine (polysOf15 K1 hT).x ?_
    rintro v H2 W2 ⟨rfl, hOx, hK2, qs, hQ, hql, hqb⟩
    have hS : PolyS qs := ⟨by omega, fun x hx => by have := (hqb x hx).1; omega⟩
    have dtb : decide (tb < H.length) = false := df (by omega)
    simp only [go_sem, Nat.reduceEqDiff, Nat.reduceAdd, Nat.reduceSub, Nat.reduceMul, Nat.reduceLT, Nat.reduceLeDiff, Int.reducePow, Int.reduceBEq, Int.reduceBNe, Int.reduceDiv, Int.reduceMod, Int.reduceEq, Int.reduceLT, Int.reduceLE, Int.reduceAdd, Int.reduceSub, Int.reduceMul, Int.reduceNeg, Int.reduceToNat, Int.reduceTDiv, Int.reduceTMod, ↓reduceIte, h1, dtb]
    refine keep (fun k' T K' D => D = [] ∧ H2 = K' ∧ ∃ (j : Nat), j + k' = 10 ∧ T 1 = .int .i64 (i : Int) ∧ T 2 = v ∧ T 3 = .int .i64 (-3 + 2 * (j : Int))) 10
      ⟨rfl, rfl, 0, rfl, by simp only [go_sem, Nat.reduceEqDiff, Nat.reduceAdd, Nat.reduceSub, Nat.reduceMul, Nat.reduceLT, Nat.reduceLeDiff, Int.reducePow, Int.reduceBEq, Int.reduceBNe, Int.reduceDiv, Int.reduceMod, Int.reduceEq, Int.reduceLT, Int.reduceLE, Int.reduceAdd, Int.reduceSub, Int.reduceMul, Int.reduceNeg, Int.reduceToNat, Int.reduceTDiv, Int.reduceTMod, ↓reduceIte, h1], by simp only [go_sem, Nat.reduceEqDiff, Nat.reduceAdd, Nat.reduceSub, Nat.reduceMul, Nat.reduceLT, Nat.reduceLeDiff, Int.reducePow, Int.reduceBEq, Int.reduceBNe, Int.reduceDiv, Int.reduceMod, Int.reduceEq, Int.reduceLT, Int.reduceLE, Int.reduceAdd, Int.reduceSub, Int.reduceMul, Int.reduceNeg, Int.reduceToNat, Int.reduceTDiv, Int.reduceTMod, ↓reduceIte], by simp only [go_sem, Nat.reduceEqDiff, Nat.reduceAdd, Nat.reduceSub, Nat.reduceMul, Nat.reduceLT, Nat.reduceLeDiff, Int.reducePow, Int.reduceBEq, Int.reduceBNe, Int.reduceDiv, Int.reduceMod, Int.reduceEq, Int.reduceLT, Int.reduceLE, Int.reduceAdd, Int.reduceSub, Int.reduceMul, Int.reduceNeg, Int.reduceToNat, Int.reduceTDiv, Int.reduceTMod, ↓reduceIte] <;> rfl⟩ ?_
    clear h1
    rintro k' T K' D ⟨rfl, rfl, j, hjk, h1, h2, h3⟩
    by_cases hj : j < 10
    · have w2 : IntKind.i64.wrap (-3 + 2 * (j : Int) + 2) = -3 + 2 * ((j + 1 : Nat) : Int) := by rw [wi (by omega) (by omega)]; omega
      simp only [go_sem, Nat.reduceEqDiff, Nat.reduceAdd, Nat.reduceSub, Nat.reduceMul, Nat.reduceLT, Nat.reduceLeDiff, Int.reducePow, Int.reduceBEq, Int.reduceBNe, Int.reduceDiv, Int.reduceMod, Int.reduceEq, Int.reduceLT, Int.reduceLE, Int.reduceAdd, Int.reduceSub, Int.reduceMul, Int.reduceNeg, Int.reduceToNat, Int.reduceTDiv, Int.reduceTMod, ↓reduceIte, h1, h2, h3, dt (show -3 + 2 * (j : Int) < 17 by omega)]
      refine (csame_ qs v _ _ _ _ H2 hQ hS).x ?_
      simp only [go_sem, Nat.reduceEqDiff, Nat.reduceAdd, Nat.reduceSub, Nat.reduceMul, Nat.reduceLT, Nat.reduceLeDiff, Int.reducePow, Int.reduceBEq, Int.reduceBNe, Int.reduceDiv, Int.reduceMod, Int.reduceEq, Int.reduceLT, Int.reduceLE, Int.reduceAdd, Int.reduceSub, Int.reduceMul, Int.reduceNeg, Int.reduceToNat, Int.reduceTDiv, Int.reduceTMod, ↓reduceIte, h1, h2, h3, w2]
      exact ⟨k' - 1, by omega, j + 1, by omega, rfl⟩
    · have hj : j = 10 := by omega
      subst hj
      simp only [go_sem, Nat.reduceEqDiff, Nat.reduceAdd, Nat.reduceSub, Nat.reduceMul, Nat.reduceLT, Nat.reduceLeDiff, Int.reducePow, Int.reduceBEq, Int.reduceBNe, Int.reduceDiv, Int.reduceMod, Int.reduceEq, Int.reduceLT, Int.reduceLE, Int.reduceAdd, Int.reduceSub, Int.reduceMul, Int.reduceNeg, Int.reduceToNat, Int.reduceTDiv, Int.reduceTMod, ↓reduceIte, h1, h2, h3, df (show ¬ -3 + 2 * ((10 : Nat) : Int) < 17 by omega), w1]
      exact ⟨k - 1, by omega, by omega, i + 1, by omega, rfl⟩
  · have hi : i = 50 := by omega
    subst hi
    simp only [go_sem, Nat.reduceEqDiff, Nat.reduceAdd, Nat.reduceSub, Nat.reduceMul, Nat.reduceLT, Nat.reduceLeDiff, Int.reducePow, Int.reduceBEq, Int.reduceBNe, Int.reduceDiv, Int.reduceMod, Int.reduceEq, Int.reduceLT, Int.reduceLE, Int.reduceAdd, Int.reduceSub, Int.reduceMul, Int.reduceNeg, Int.reduceToNat, Int.reduceTDiv, Int.reduceTMod, ↓reduceIte, h1, df (show ¬ ((50 : Nat) : Int) < 50 by omega)]
    clear h1 hik hk
    refine keep (fun k T K D => D = [] ∧ H.length ≤ K.length ∧ ∃ i : Nat, i + k = 11 ∧ T 4 = .int .i64 8192 ∧ T 5 = .int .i64 ((i : Int) - 1)) 11 ⟨rfl, by omega, 0, rfl, by simp only [go_sem, Nat.reduceEqDiff, Nat.reduceAdd, Nat.reduceSub, Nat.reduceMul, Nat.reduceLT, Nat.reduceLeDiff, Int.reducePow, Int.reduceBEq, Int.reduceBNe, Int.reduceDiv, Int.reduceMod, Int.reduceEq, Int.reduceLT, Int.reduceLE, Int.reduceAdd, Int.reduceSub, Int.reduceMul, Int.reduceNeg, Int.reduceToNat, Int.reduceTDiv, Int.reduceTMod, ↓reduceIte], by simp only [go_sem, Nat.reduceEqDiff, Nat.reduceAdd, Nat.reduceSub, Nat.reduceMul, Nat.reduceLT, Nat.reduceLeDiff, Int.reducePow, Int.reduceBEq, Int.reduceBNe, Int.reduceDiv, Int.reduceMod, Int.reduceEq, Int.reduceLT, Int.reduceLE, Int.reduceAdd, Int.reduceSub, Int.reduceMul, Int.reduceNeg, Int.reduceToNat, Int.reduceTDiv, Int.reduceTMod, ↓reduceIte] <;> rfl⟩ ?_
    clear hKl
    rintro k T K D ⟨rfl, hKl, i, hik, h4, h5⟩
    by_cases hk : i < 11
    · have w1 : IntKind.i64.wrap ((i : Int) - 1 + 1) = ((i + 1 : Nat) : Int) - 1 := by rw [wi (by omega) (by omega)]; omega
      simp only [go_sem, Nat.reduceEqDiff, Nat.reduceAdd, Nat.reduceSub, Nat.reduceMul, Nat.reduceLT, Nat.reduceLeDiff, Int.reducePow, Int.reduceBEq, Int.reduceBNe, Int.reduceDiv, Int.reduceMod, Int.reduceEq, Int.reduceLT, Int.reduceLE, Int.reduceAdd, Int.reduceSub, Int.reduceMul, Int.reduceNeg, Int.reduceToNat, Int.reduceTDiv, Int.reduceTMod, ↓reduceIte, h4, h5, dt (show (i : Int) - 1 < 10 by omega)]
      refine keep (fun k' T K' D => D = [] ∧ H.length ≤ K'.length ∧ ∃ (j : Nat), j + k' = 11 ∧ T 4 = .int .i64 8192 ∧ T 5 = .int .i64 ((i : Int) - 1) ∧ T 6 = .int .i64 ((j : Int) - 1)) 11
        ⟨rfl, by omega, 0, rfl, by simp only [go_sem, Nat.reduceEqDiff, Nat.reduceAdd, Nat.reduceSub, Nat.reduceMul, Nat.reduceLT, Nat.reduceLeDiff, Int.reducePow, Int.reduceBEq, Int.reduceBNe, Int.reduceDiv, Int.reduceMod, Int.reduceEq, Int.reduceLT, Int.reduceLE, Int.reduceAdd, Int.reduceSub, Int.reduceMul, Int.reduceNeg, Int.reduceToNat, Int.reduceTDiv, Int.reduceTMod, ↓reduceIte, h4], by simp only [go_sem, Nat.reduceEqDiff, Nat.reduceAdd, Nat.reduceSub, Nat.reduceMul, Nat.reduceLT, Nat.reduceLeDiff, Int.reducePow, Int.reduceBEq, Int.reduceBNe, Int.reduceDiv, Int.reduceMod, Int.reduceEq, Int.reduceLT, Int.reduceLE, Int.reduceAdd, Int.reduceSub, Int.reduceMul, Int.reduceNeg, Int.reduceToNat, Int.reduceTDiv, Int.reduceTMod, ↓reduceIte, h5], by simp only [go_sem, Nat.reduceEqDiff, Nat.reduceAdd, Nat.reduceSub, Nat.reduceMul, Nat.reduceLT, Nat.reduceLeDiff, Int.reducePow, Int.reduceBEq, Int.reduceBNe, Int.reduceDiv, Int.reduceMod, Int.reduceEq, Int.reduceLT, Int.reduceLE, Int.reduceAdd, Int.reduceSub, Int.reduceMul, Int.reduceNeg, Int.reduceToNat, Int.reduceTDiv, Int.reduceTMod, ↓reduceIte] <;> rfl⟩ ?_
      clear h4 h5
      rintro k' T K' D ⟨rfl, hKl', j, hjk, h4, h5, h6⟩
      have kd : ∀ n, decide (K'.length + n < H.length) = false := fun n => df (by omega)
      have kd0 : decide (K'.length < H.length) = false := df (by omega)
      by_cases hj : j < 11
      · have w2 : IntKind.i64.wrap ((j : Int) - 1 + 1) = ((j + 1 : Nat) : Int) - 1 := by rw [wi (by omega) (by omega)]; omega
        have c := fun r a b d p q s x1 x2 x3 x4 x5 x6 e1 e2 e3 => csame_ _ _ r a b d _ (tri_ps K' p q s x1 x2 x3 x4 x5 x6 e1 e2 e3) (tri_s p q s)
        simp only [go_sem, Nat.reduceEqDiff, Nat.reduceAdd, Nat.reduceSub, Nat.reduceMul, Nat.reduceLT, Nat.reduceLeDiff, Int.reducePow, Int.reduceBEq, Int.reduceBNe, Int.reduceDiv, Int.reduceMod, Int.reduceEq, Int.reduceLT, Int.reduceLE, Int.reduceAdd, Int.reduceSub, Int.reduceMul, Int.reduceNeg, Int.reduceToNat, Int.reduceTDiv, Int.reduceTMod, ↓reduceIte, h4, h5, h6, dt (show (j : Int) - 1 < 10 by omega), kd, kd0]
        repeat ((first | refine (c _ _ _ _ _ _ _ _ _ _ _ _ _ rfl rfl rfl).x ?_ | refine drawnF ?_ (by decide +kernel)); simp only [go_sem, Nat.reduceEqDiff, Nat.reduceAdd, Nat.reduceSub, Nat.reduceMul, Nat.reduceLT, Nat.reduceLeDiff, Int.reducePow, Int.reduceBEq, Int.reduceBNe, Int.reduceDiv, Int.reduceMod, Int.reduceEq, Int.reduceLT, Int.reduceLE, Int.reduceAdd, Int.reduceSub, Int.reduceMul, Int.reduceNeg, Int.reduceToNat, Int.reduceTDiv, Int.reduceTMod, ↓reduceIte, h4, h5, h6, w2, kd, kd0])
        exact ⟨k' - 1, by omega, by omega, j + 1, by omega, rfl⟩
      · have hj : j = 11 := by omega
        subst hj
        simp only [go_sem, Nat.reduceEqDiff, Nat.reduceAdd, Nat.reduceSub, Nat.reduceMul, Nat.reduceLT, Nat.reduceLeDiff, Int.reducePow, Int.reduceBEq, Int.reduceBNe, Int.reduceDiv, Int.reduceMod, Int.reduceEq, Int.reduceLT, Int.reduceLE, Int.reduceAdd, Int.reduceSub, Int.reduceMul, Int.reduceNeg, Int.reduceToNat, Int.reduceTDiv, Int.reduceTMod, ↓reduceIte, h4, h5, h6, df (show ¬ ((11 : Nat) : Int) - 1 < 10 by omega), w1]
        exact ⟨k - 1, by omega, by omega, i + 1, by omega, rfl⟩
    · have hi : i = 11 := by omega
      subst hi
      have c := fun r a b d p q s x1 x2 x3 x4 x5 x6 e1 e2 e3 => csame_ _ _ r a b d _ (tri_ps K p q s x1 x2 x3 x4 x5 x6 e1 e2 e3) (tri_s p q s)
      simp only [go_sem, Nat.reduceEqDiff, Nat.reduceAdd, Nat.reduceSub, Nat.reduceMul, Nat.reduceLT, Nat.reduceLeDiff, Int.reducePow, Int.reduceBEq, Int.reduceBNe, Int.reduceDiv, Int.reduceMod, Int.reduceEq, Int.reduceLT, Int.reduceLE, Int.reduceAdd, Int.reduceSub, Int.reduceMul, Int.reduceNeg, Int.reduceToNat, Int.reduceTDiv, Int.reduceTMod, ↓reduceIte, h4, h5, df (show ¬ ((11 : Nat) : Int) - 1 < 10 by omega)]
      repeat ((first | refine (c _ _ _ _ _ _ _ _ _ _ _ _ _ rfl rfl rfl).x ?_ | refine (cknown_ _).x ?_ | refine drawnF ?_ (by decide +kernel)); simp only [go_sem, Nat.reduceEqDiff, Nat.reduceAdd, Nat.reduceSub, Nat.reduceMul, Nat.reduceLT, Nat.reduceLeDiff, Int.reducePow, Int.reduceBEq, Int.reduceBNe, Int.reduceDiv, Int.reduceMod, Int.reduceEq, Int.reduceLT, Int.reduceLE, Int.reduceAdd, Int.reduceSub, Int.reduceMul, Int.reduceNeg, Int.reduceToNat, Int.reduceTDiv, Int.reduceTMod, ↓reduceIte])
end Go.Proofs.Ythoclopeajkcpaa
/- Chapter 15: the law on rectangles of whole pixels. -/
namespace Go.Proofs.Ythoclopeajkcpaa
open Go Go.RowKit E
attribute [local irreducible] XRun XOps XCode XCal XLoop XQ SemCall
set_option linter.unusedSimpArgs false
set_option linter.unusedVariables false
theorem side_up (c d1 d2 x y : Int) (h : d1 ≤ d2) : sideW (c, d1) (c, d2) x y = if d1 ≤ y ∧ y < d2 ∧ x < c then 1 else 0 := by
  unfold sideW
  rw [crs_def]
  simp only
  by_cases h1 : d1 ≤ y
  · by_cases h2 : d2 ≤ y
    · rw [if_pos (by rw [dt h1, dt h2]), if_neg (by omega)]
    · rw [if_neg (by rw [dt h1, df h2]; decide)]
      rw [show (c - x) * (y - d1) + (c - x) * (d2 - y) = (c - x) * (d2 - d1) by rw [← Int.mul_add]; congr 1; omega]
      by_cases h3 : x < c
      · have := Int.mul_pos (show 0 < c - x by omega) (show 0 < d2 - d1 by omega)
        rw [if_pos ⟨h1, this⟩, if_pos ⟨h1, by omega, h3⟩]
      · have := Int.mul_nonneg (show 0 ≤ x - c by omega) (show 0 ≤ d2 - d1 by omega)
        rw [show x - c = -(c - x) by omega, Int.neg_mul] at this
        rw [if_neg (by omega), if_neg (by omega), if_neg (by omega)]
  · rw [if_pos (by rw [df h1, df (by omega)]), if_neg (by omega)]
theorem side_down (c d1 d2 x y : Int) (h : d1 ≤ d2) : sideW (c, d2) (c, d1) x y = if d1 ≤ y ∧ y < d2 ∧ x < c then -1 else 0 := by
  unfold sideW
  rw [crs_def]
  simp only
  by_cases h1 : d1 ≤ y
  · by_cases h2 : d2 ≤ y
    · rw [if_pos (by rw [dt h1, dt h2]), if_neg (by omega)]
    · rw [if_neg (by rw [dt h1, df h2]; decide)]
      rw [show (c - x) * (y - d2) + (c - x) * (d1 - y) = (c - x) * (d1 - d2) by rw [← Int.mul_add]; congr 1; omega]
      by_cases h3 : x < c
      · have := Int.mul_pos (show 0 < c - x by omega) (show 0 < d2 - d1 by omega)
        rw [show d2 - d1 = -(d1 - d2) by omega, Int.mul_neg] at this
        rw [if_neg (by omega), if_pos ⟨h1, by omega⟩, if_pos ⟨h1, by omega, h3⟩]
      · have := Int.mul_nonneg (show 0 ≤ x - c by omega) (show 0 ≤ d2 - d1 by omega)
        rw [show x - c = -(c - x) by omega, show d2 - d1 = -(d1 - d2) by omega, Int.neg_mul, Int.mul_neg] at this
        rw [if_neg (by omega), if_neg (by omega), if_neg (by omega)]
  · rw [if_pos (by rw [df h1, df (by omega)]), if_neg (by omega)]
def rectP (a b c d : Int) : List Pt := [(a, b), (c, b), (c, d), (a, d)]
theorem wind_rect (a b c d x y : Int) (ha : -536870912 ≤ a ∧ a ≤ c) (hb : -536870912 ≤ b ∧ b ≤ d) (hc : c ≤ 536870912) (hd : d ≤ 536870912) : windP (rectP a b c d) x y = if a ≤ x ∧ x < c ∧ b ≤ y ∧ y < d then 1 else 0 := by
  have e : windP (rectP a b c d) x y = sideW (a, d) (a, b) x y + (sideW (a, b) (c, b) x y + (sideW (c, b) (c, d) x y + (sideW (c, d) (a, d) x y + 0))) := by
    have pa : place a = a := place_in (by omega) (by omega)
    have pb : place b = b := place_in (by omega) (by omega)
    have pc : place c = c := place_in (by omega) (by omega)
    have pd : place d = d := place_in (by omega) (by omega)
    simp only [windP, rectP, windGo, plp, List.length_cons, List.length_nil, Nat.zero_add, Nat.reduceAdd, Nat.reduceSub, List.getElem?_cons_succ, List.getElem?_cons_zero, Option.getD_some, pa, pb, pc, pd]
    rw [if_neg (by decide)]
  have f1 : sideW (a, b) (c, b) x y = 0 := sideW_flat (by simp only; omega)
  have f2 : sideW (c, d) (a, d) x y = 0 := sideW_flat (by simp only; omega)
  rw [e, f1, f2, side_down a b d x y hb.2, side_up c b d x y hb.2]
  by_cases h : b ≤ y ∧ y < d
  · by_cases h1 : x < a
    · rw [if_pos ⟨h.1, h.2, h1⟩, if_pos ⟨h.1, h.2, by omega⟩, if_neg (by omega)]; rfl
    · rw [if_neg (by omega)]
      by_cases h2 : x < c
      · rw [if_pos ⟨h.1, h.2, h2⟩, if_pos ⟨by omega, h2, h.1, h.2⟩]; rfl
      · rw [if_neg (by omega), if_neg (by omega)]; rfl
  · rw [if_neg (by omega), if_neg (by omega), if_neg (by omega)]; rfl
theorem cntK_all {g : Nat → Bool} {b : Bool} : ∀ {n : Nat}, (∀ k, k < n → g k = b) → cntK g n = if b = true then (n : Int) else 0
  | 0, _ => by cases b <;> rfl
  | n + 1, h => by
    rw [cntK, cntK_all (fun k hk => h k (by omega)), h n (by omega)]
    cases b
    · rfl
    · rw [if_pos rfl, if_pos rfl, if_pos rfl]; omega
def inR (x0 y0 x1 y1 px py : Int) : Bool := decide (x0 ≤ px) && decide (px < x1) && decide (y0 ≤ py) && decide (py < y1)
theorem wind_pix (x0 y0 x1 y1 px py : Int) (h0 : -100 ≤ x0 ∧ x0 ≤ x1) (h1 : -100 ≤ y0 ∧ y0 ≤ y1) (h2 : x1 ≤ 100) (h3 : y1 ≤ 100) (X Y : Int) (hX : px * 65536 ≤ X ∧ X < px * 65536 + 65536) (hY : py * 65536 ≤ Y ∧ Y < py * 65536 + 65536) : windP (rectP (x0 * 65536) (y0 * 65536) (x1 * 65536) (y1 * 65536)) X Y = if inR x0 y0 x1 y1 px py = true then 1 else 0 := by
  rw [wind_rect _ _ _ _ _ _ (by omega) (by omega) (by omega) (by omega)]
  have : inR x0 y0 x1 y1 px py = true ↔ x0 * 65536 ≤ X ∧ X < x1 * 65536 ∧ y0 * 65536 ≤ Y ∧ Y < y1 * 65536 := by
    simp only [inR, Bool.and_eq_true, decide_eq_true_eq]
    constructor
    · intro h; omega
    · intro h; omega
  by_cases h : inR x0 y0 x1 y1 px py = true
  · rw [if_pos h, if_pos (this.1 h)]
  · rw [if_neg h, if_neg (fun k => h (this.2 k))]
theorem whole_law (x0 y0 x1 y1 px py : Int) (h0 : -100 ≤ x0 ∧ x0 ≤ x1) (h1 : -100 ≤ y0 ∧ y0 ≤ y1) (h2 : x1 ≤ 100) (h3 : y1 ≤ 100) (hx : -100 ≤ px ∧ px ≤ 100) (hy : -100 ≤ py ∧ py ≤ 100) (c : Bool) :
    covA [(c, rectP (x0 * 65536) (y0 * 65536) (x1 * 65536) (y1 * 65536))] 0 px py = (if inR x0 y0 x1 y1 px py = true then 16 else 0) ∧
    covA [(c, rectP (x0 * 65536) (y0 * 65536) (x1 * 65536) (y1 * 65536))] 1 px py = (if inR x0 y0 x1 y1 px py = true then 16 else 0) ∧
    covA [(c, rectP (x0 * 65536) (y0 * 65536) (x1 * 65536) (y1 * 65536)), (c, rectP (x0 * 65536) (y0 * 65536) (x1 * 65536) (y1 * 65536))] 0 px py = (if inR x0 y0 x1 y1 px py = true then 16 else 0) ∧
    covA [(c, rectP (x0 * 65536) (y0 * 65536) (x1 * 65536) (y1 * 65536)), (c, rectP (x0 * 65536) (y0 * 65536) (x1 * 65536) (y1 * 65536))] 1 px py = 0 := by
  have ht : (thereB px && thereB py) = true := by unfold thereB; rw [dt (by omega), dt (by omega), dt (by omega), dt (by omega)]; rfl
  have hw := fun (k : Nat) (hk : k < 16) => wind_pix x0 y0 x1 y1 px py h0 h1 h2 h3 (px * 65536 + 8192 + ((k % 4 : Nat) : Int) * 16384) (py * 65536 + 8192 + ((k / 4 : Nat) : Int) * 16384) (by omega) (by omega)
  generalize inR x0 y0 x1 y1 px py = b at *
  generalize rectP (x0 * 65536) (y0 * 65536) (x1 * 65536) (y1 * 65536) = r at *
  have one : ∀ (z : Int), z = 0 ∨ z = 1 → ∀ k, k < 16 → smp [(c, r)] z px py k = b := fun z hz k hk => by
    unfold smp; rw [windL, windL]; simp only; rw [hw k hk]
    rcases hz with rfl | rfl <;> cases b <;> decide
  have two : ∀ k, k < 16 → smp [(c, r), (c, r)] 0 px py k = b := fun k hk => by
    unfold smp; rw [windL, windL, windL]; simp only; rw [hw k hk]
    cases b <;> decide
  have two1 : ∀ k, k < 16 → smp [(c, r), (c, r)] 1 px py k = false := fun k hk => by
    unfold smp; rw [windL, windL, windL]; simp only; rw [hw k hk]
    cases b <;> decide
  unfold covA covN
  rw [ht]
  refine ⟨?_, ?_, ?_, ?_⟩
  · rw [if_pos rfl, cntK_all (one 0 (.inl rfl))]; rfl
  · rw [if_pos rfl, cntK_all (one 1 (.inr rfl))]; rfl
  · rw [if_pos rfl, cntK_all two]; rfl
  · rw [if_pos rfl, cntK_all two1]; rfl
end Go.Proofs.Ythoclopeajkcpaa
/- Chapter 15: the walk of the law on rectangles of whole pixels. -/
namespace Go.Proofs.Ythoclopeajkcpaa
open Go Go.RowKit E
attribute [local irreducible] XRun XOps XCode XCal XLoop XQ SemCall
set_option linter.unusedSimpArgs false
set_option linter.unusedVariables false
set_option maxHeartbeats 4000000 in
theorem cwhole (b : B4) (x y : Int) (H : AH) : SemCall Try.prog 10 [b.val, .int .i64 x, .int .i64 y] H (.bool true) H [] := by
  refine pure_of ?_ rfl
  have c1 := fun H => within_ b.x0 (-20) 20 (by omega) (by omega) (by omega) H
  have c2 := fun H => within_ b.y0 (-20) 20 (by omega) (by omega) (by omega) H
  have c3 := fun H => within_ b.x1 0 20 (by omega) (by omega) (by omega) H
  have c4 := fun H => within_ b.y1 0 20 (by omega) (by omega) (by omega) H
  have c5 := fun H => within_ x (-25) 45 (by omega) (by omega) (by omega) H
  have c6 := fun H => within_ y (-25) 45 (by omega) (by omega) (by omega) H
  have b1 := wth_b b.x0 (lo := -20) (hi := 20) (by omega)
  have b2 := wth_b b.y0 (lo := -20) (hi := 20) (by omega)
  have b3 := wth_b b.x1 (lo := 0) (hi := 20) (by omega)
  have b4 := wth_b b.y1 (lo := 0) (hi := 20) (by omega)
  have b5 := wth_b x (lo := -25) (hi := 45) (by omega)
  have b6 := wth_b y (lo := -25) (hi := 45) (by omega)
  generalize wth b.x0 (-20) 20 = X0 at *
  generalize wth b.y0 (-20) 20 = Y0 at *
  generalize wth b.x1 0 20 = X1 at *
  generalize wth b.y1 0 20 = Y1 at *
  generalize wth x (-25) 45 = PX at *
  generalize wth y (-25) 45 = PY at *
  have w1 : IntKind.i64.wrap (X0 + X1) = X0 + X1 := wi (by omega) (by omega)
  have w2 : IntKind.i64.wrap (Y0 + Y1) = Y0 + Y1 := wi (by omega) (by omega)
  obtain ⟨l1, l2, l3, l4⟩ := whole_law X0 Y0 (X0 + X1) (Y0 + Y1) PX PY (by omega) (by omega) (by omega) (by omega) (by omega) (by omega) true
  unfold inR at l1 l2 l3
  have w3 : IntKind.i64.wrap (X0 * 65536) = X0 * 65536 := wi (by omega) (by omega)
  have w4 : IntKind.i64.wrap (Y0 * 65536) = Y0 * 65536 := wi (by omega) (by omega)
  have w5 : IntKind.i64.wrap ((X0 + X1) * 65536) = (X0 + X1) * 65536 := wi (by omega) (by omega)
  have w6 : IntKind.i64.wrap ((Y0 + Y1) * 65536) = (Y0 + Y1) * 65536 := wi (by omega) (by omega)
  have hL : ∃ L, L = [(⟨b4C b, 0, true⟩ : Blk), ⟨ptC (rectP (X0 * 65536) (Y0 * 65536) ((X0 + X1) * 65536) ((Y0 + Y1) * 65536)), 0, true⟩, ⟨[.bool true, sl (H.length + 1) 0 0 4 2], 0, true⟩, ⟨[.bool true, sl (H.length + 1) 0 0 4 2], 0, true⟩, ⟨[.bool true, sl (H.length + 1) 0 0 4 2, .bool true, sl (H.length + 1) 0 0 4 2], 0, true⟩] := ⟨_, rfl⟩
  obtain ⟨L, hL⟩ := hL
  have hp : Pts (H ++ L) (sl (H.length + 1) 0 0 4 2) (rectP (X0 * 65536) (Y0 * 65536) ((X0 + X1) * 65536) ((Y0 + Y1) * 65536)) := .inr ⟨H.length + 1, 0, [], true, rfl, by rw [hL, hget_app, List.append_nil]; rfl, by simp [rectP]⟩
  have P1 := Polys.one (K := H ++ L) (b := H.length + 3) (g := 0) (c := true) (by rw [hL, hget_app]; rfl) hp
  have P2 := Polys.two (K := H ++ L) (b := H.length + 4) (g := 0) (c := true) (c' := true) (by rw [hL, hget_app]; rfl) hp hp
  have a1 := catA_ _ _ 0 PX PY _ P1 ⟨by simp, fun x hx => by simp at hx; subst hx; simp [rectP]⟩
  have a2 := catA_ _ _ 1 PX PY _ P1 ⟨by simp, fun x hx => by simp at hx; subst hx; simp [rectP]⟩
  have a3 := catA_ _ _ 0 PX PY _ P2 ⟨by simp, fun x hx => by simp at hx; subst hx; simp [rectP]⟩
  have a4 := catA_ _ _ 1 PX PY _ P2 ⟨by simp, fun x hx => by simp at hx; subst hx; simp [rectP]⟩
  rw [l1] at a1
  rw [l2] at a2
  rw [l3] at a3
  rw [l4] at a4
  subst hL
  clear P1 P2 hp l1 l2 l3 l4
  refine XCal.of hm Try.func10 rfl (fun xs w => Try.call10 xs w) Try.ntmps10 Try.results10 rfl ?_
  simp only [go_sem, Nat.reduceEqDiff, Nat.reduceAdd, Nat.reduceSub, Nat.reduceMul, Nat.reduceLT, Nat.reduceLeDiff, Int.reducePow, Int.reduceBEq, Int.reduceBNe, Int.reduceDiv, Int.reduceMod, Int.reduceEq, Int.reduceLT, Int.reduceLE, Int.reduceAdd, Int.reduceSub, Int.reduceMul, Int.reduceNeg, Int.reduceToNat, Int.reduceTDiv, Int.reduceTMod, ↓reduceIte]
  repeat ((first | refine (c1 _).x ?_ | refine (c2 _).x ?_ | refine (c3 _).x ?_ | refine (c4 _).x ?_ | refine (c5 _).x ?_ | refine (c6 _).x ?_ | refine drawnF ?_ (by decide +kernel) | refine drawnU [(2, 3), (2, 4)] (by decide +kernel) ?_ | refine drawnU [(0, 3), (3, 5), (3, 6), (3, 7), (0, 8), (4, 8), (5, 8)] (by decide +kernel) ?_); simp only [go_sem, Nat.reduceEqDiff, Nat.reduceAdd, Nat.reduceSub, Nat.reduceMul, Nat.reduceLT, Nat.reduceLeDiff, Int.reducePow, Int.reduceBEq, Int.reduceBNe, Int.reduceDiv, Int.reduceMod, Int.reduceEq, Int.reduceLT, Int.reduceLE, Int.reduceAdd, Int.reduceSub, Int.reduceMul, Int.reduceNeg, Int.reduceToNat, Int.reduceTDiv, Int.reduceTMod, ↓reduceIte, b4C, w1, w2, w3, w4, w5, w6])
  cases h1 : decide (X0 ≤ PX) with
  | false =>
    simp only [h1, Bool.true_and, Bool.false_and, Bool.and_false, Bool.and_true, Bool.and_self, Bool.false_eq_true, if_true, if_false] at a1 a2 a3
    simp only [go_sem, Nat.reduceEqDiff, Nat.reduceAdd, Nat.reduceSub, Nat.reduceMul, Nat.reduceLT, Nat.reduceLeDiff, Int.reducePow, Int.reduceBEq, Int.reduceBNe, Int.reduceDiv, Int.reduceMod, Int.reduceEq, Int.reduceLT, Int.reduceLE, Int.reduceAdd, Int.reduceSub, Int.reduceMul, Int.reduceNeg, Int.reduceToNat, Int.reduceTDiv, Int.reduceTMod, ↓reduceIte, h1]
    repeat ((first | refine (a1).x ?_ | refine (a2).x ?_ | refine (a3).x ?_ | refine (a4).x ?_ | refine (cknown_ _).x ?_ | refine drawnF ?_ (by decide +kernel) | refine drawnU [(2, 3), (2, 4)] (by decide +kernel) ?_ | refine drawnU [(0, 3), (3, 5), (3, 6), (3, 7), (0, 8), (4, 8), (5, 8)] (by decide +kernel) ?_); simp only [go_sem, Nat.reduceEqDiff, Nat.reduceAdd, Nat.reduceSub, Nat.reduceMul, Nat.reduceLT, Nat.reduceLeDiff, Int.reducePow, Int.reduceBEq, Int.reduceBNe, Int.reduceDiv, Int.reduceMod, Int.reduceEq, Int.reduceLT, Int.reduceLE, Int.reduceAdd, Int.reduceSub, Int.reduceMul, Int.reduceNeg, Int.reduceToNat, Int.reduceTDiv, Int.reduceTMod, ↓reduceIte, rectP, ptC_cons, ptC_nil, b4C, beq_self_eq_true])
  | true =>
    cases h2 : decide (PX < X0 + X1) with
    | false =>
      simp only [h1, h2, Bool.true_and, Bool.false_and, Bool.and_false, Bool.and_true, Bool.and_self, Bool.false_eq_true, if_true, if_false] at a1 a2 a3
      simp only [go_sem, Nat.reduceEqDiff, Nat.reduceAdd, Nat.reduceSub, Nat.reduceMul, Nat.reduceLT, Nat.reduceLeDiff, Int.reducePow, Int.reduceBEq, Int.reduceBNe, Int.reduceDiv, Int.reduceMod, Int.reduceEq, Int.reduceLT, Int.reduceLE, Int.reduceAdd, Int.reduceSub, Int.reduceMul, Int.reduceNeg, Int.reduceToNat, Int.reduceTDiv, Int.reduceTMod, ↓reduceIte, h1, h2]
      repeat ((first | refine (a1).x ?_ | refine (a2).x ?_ | refine (a3).x ?_ | refine (a4).x ?_ | refine (cknown_ _).x ?_ | refine drawnF ?_ (by decide +kernel) | refine drawnU [(2, 3), (2, 4)] (by decide +kernel) ?_ | refine drawnU [(0, 3), (3, 5), (3, 6), (3, 7), (0, 8), (4, 8), (5, 8)] (by decide +kernel) ?_); simp only [go_sem, Nat.reduceEqDiff, Nat.reduceAdd, Nat.reduceSub, Nat.reduceMul, Nat.reduceLT, Nat.reduceLeDiff, Int.reducePow, Int.reduceBEq, Int.reduceBNe, Int.reduceDiv, Int.reduceMod, Int.reduceEq, Int.reduceLT, Int.reduceLE, Int.reduceAdd, Int.reduceSub, Int.reduceMul, Int.reduceNeg, Int.reduceToNat, Int.reduceTDiv, Int.reduceTMod, ↓reduceIte, rectP, ptC_cons, ptC_nil, b4C, beq_self_eq_true])
    | true =>
      cases h3 : decide (Y0 ≤ PY) with
      | false =>
        simp only [h1, h2, h3, Bool.true_and, Bool.false_and, Bool.and_false, Bool.and_true, Bool.and_self, Bool.false_eq_true, if_true, if_false] at a1 a2 a3
        simp only [go_sem, Nat.reduceEqDiff, Nat.reduceAdd, Nat.reduceSub, Nat.reduceMul, Nat.reduceLT, Nat.reduceLeDiff, Int.reducePow, Int.reduceBEq, Int.reduceBNe, Int.reduceDiv, Int.reduceMod, Int.reduceEq, Int.reduceLT, Int.reduceLE, Int.reduceAdd, Int.reduceSub, Int.reduceMul, Int.reduceNeg, Int.reduceToNat, Int.reduceTDiv, Int.reduceTMod, ↓reduceIte, h1, h2, h3]
        repeat ((first | refine (a1).x ?_ | refine (a2).x ?_ | refine (a3).x ?_ | refine (a4).x ?_ | refine (cknown_ _).x ?_ | refine drawnF ?_ (by decide +kernel) | refine drawnU [(2, 3), (2, 4)] (by decide +kernel) ?_ | refine drawnU [(0, 3), (3, 5), (3, 6), (3, 7), (0, 8), (4, 8), (5, 8)] (by decide +kernel) ?_); simp only [go_sem, Nat.reduceEqDiff, Nat.reduceAdd, Nat.reduceSub, Nat.reduceMul, Nat.reduceLT, Nat.reduceLeDiff, Int.reducePow, Int.reduceBEq, Int.reduceBNe, Int.reduceDiv, Int.reduceMod, Int.reduceEq, Int.reduceLT, Int.reduceLE, Int.reduceAdd, Int.reduceSub, Int.reduceMul, Int.reduceNeg, Int.reduceToNat, Int.reduceTDiv, Int.reduceTMod, ↓reduceIte, rectP, ptC_cons, ptC_nil, b4C, beq_self_eq_true])
      | true =>
        cases h4 : decide (PY < Y0 + Y1) with
        | false =>
          simp only [h1, h2, h3, h4, Bool.true_and, Bool.false_and, Bool.and_false, Bool.and_true, Bool.and_self, Bool.false_eq_true, if_true, if_false] at a1 a2 a3
          simp only [go_sem, Nat.reduceEqDiff, Nat.reduceAdd, Nat.reduceSub, Nat.reduceMul, Nat.reduceLT, Nat.reduceLeDiff, Int.reducePow, Int.reduceBEq, Int.reduceBNe, Int.reduceDiv, Int.reduceMod, Int.reduceEq, Int.reduceLT, Int.reduceLE, Int.reduceAdd, Int.reduceSub, Int.reduceMul, Int.reduceNeg, Int.reduceToNat, Int.reduceTDiv, Int.reduceTMod, ↓reduceIte, h1, h2, h3, h4]
          repeat ((first | refine (a1).x ?_ | refine (a2).x ?_ | refine (a3).x ?_ | refine (a4).x ?_ | refine (cknown_ _).x ?_ | refine drawnF ?_ (by decide +kernel) | refine drawnU [(2, 3), (2, 4)] (by decide +kernel) ?_ | refine drawnU [(0, 3), (3, 5), (3, 6), (3, 7), (0, 8), (4, 8), (5, 8)] (by decide +kernel) ?_); simp only [go_sem, Nat.reduceEqDiff, Nat.reduceAdd, Nat.reduceSub, Nat.reduceMul, Nat.reduceLT, Nat.reduceLeDiff, Int.reducePow, Int.reduceBEq, Int.reduceBNe, Int.reduceDiv, Int.reduceMod, Int.reduceEq, Int.reduceLT, Int.reduceLE, Int.reduceAdd, Int.reduceSub, Int.reduceMul, Int.reduceNeg, Int.reduceToNat, Int.reduceTDiv, Int.reduceTMod, ↓reduceIte, rectP, ptC_cons, ptC_nil, b4C, beq_self_eq_true])
        | true =>
          simp only [h1, h2, h3, h4, Bool.true_and, Bool.false_and, Bool.and_false, Bool.and_true, Bool.and_self, Bool.false_eq_true, if_true, if_false] at a1 a2 a3
          simp only [go_sem, Nat.reduceEqDiff, Nat.reduceAdd, Nat.reduceSub, Nat.reduceMul, Nat.reduceLT, Nat.reduceLeDiff, Int.reducePow, Int.reduceBEq, Int.reduceBNe, Int.reduceDiv, Int.reduceMod, Int.reduceEq, Int.reduceLT, Int.reduceLE, Int.reduceAdd, Int.reduceSub, Int.reduceMul, Int.reduceNeg, Int.reduceToNat, Int.reduceTDiv, Int.reduceTMod, ↓reduceIte, h1, h2, h3, h4]
          repeat ((first | refine (a1).x ?_ | refine (a2).x ?_ | refine (a3).x ?_ | refine (a4).x ?_ | refine (cknown_ _).x ?_ | refine drawnF ?_ (by decide +kernel) | refine drawnU [(2, 3), (2, 4)] (by decide +kernel) ?_ | refine drawnU [(0, 3), (3, 5), (3, 6), (3, 7), (0, 8), (4, 8), (5, 8)] (by decide +kernel) ?_); simp only [go_sem, Nat.reduceEqDiff, Nat.reduceAdd, Nat.reduceSub, Nat.reduceMul, Nat.reduceLT, Nat.reduceLeDiff, Int.reducePow, Int.reduceBEq, Int.reduceBNe, Int.reduceDiv, Int.reduceMod, Int.reduceEq, Int.reduceLT, Int.reduceLE, Int.reduceAdd, Int.reduceSub, Int.reduceMul, Int.reduceNeg, Int.reduceToNat, Int.reduceTDiv, Int.reduceTMod, ↓reduceIte, rectP, ptC_cons, ptC_nil, b4C, beq_self_eq_true])
end Go.Proofs.Ythoclopeajkcpaa
/- Chapter 15: the plain law on polys that go backwards, or begin elsewhere. -/
namespace Go.Proofs.Ythoclopeajkcpaa
open Go Go.RowKit E
set_option linter.unusedSimpArgs false
set_option linter.unusedVariables false
theorem crs_swap (p q : Pt) (x y : Int) : crs q p x y = - crs p q x y := by
  rw [crs_def, crs_def, show y - q.2 = -(q.2 - y) by omega, show p.2 - y = -(y - p.2) by omega, Int.mul_neg, Int.mul_neg]; omega
theorem sideW_swap (p q : Pt) (x y : Int) : sideW q p x y = - sideW p q x y := by
  unfold sideW
  rw [crs_swap p q x y]
  generalize crs p q x y = c
  simp only [decide_eq_decide]
  by_cases h1 : p.2 ≤ y
  · by_cases h2 : q.2 ≤ y
    · rw [if_pos (show q.2 ≤ y ↔ p.2 ≤ y by omega), if_pos (show p.2 ≤ y ↔ q.2 ≤ y by omega)]; rfl
    · rw [if_neg (show ¬ (q.2 ≤ y ↔ p.2 ≤ y) by omega), if_neg (show ¬ (p.2 ≤ y ↔ q.2 ≤ y) by omega), if_neg (show ¬ (q.2 ≤ y ∧ 0 < -c) by omega), if_neg (show ¬ (q.2 ≤ y ∧ c < 0) by omega)]
      by_cases h3 : 0 < c
      · rw [if_pos (show p.2 ≤ y ∧ -c < 0 by omega), if_pos (show p.2 ≤ y ∧ 0 < c by omega)]
      · rw [if_neg (show ¬ (p.2 ≤ y ∧ -c < 0) by omega), if_neg (show ¬ (p.2 ≤ y ∧ 0 < c) by omega)]; rfl
  · by_cases h2 : q.2 ≤ y
    · rw [if_neg (show ¬ (q.2 ≤ y ↔ p.2 ≤ y) by omega), if_neg (show ¬ (p.2 ≤ y ↔ q.2 ≤ y) by omega), if_neg (show ¬ (p.2 ≤ y ∧ -c < 0) by omega), if_neg (show ¬ (p.2 ≤ y ∧ 0 < c) by omega)]
      by_cases h3 : c < 0
      · rw [if_pos (show q.2 ≤ y ∧ 0 < -c by omega), if_pos (show q.2 ≤ y ∧ c < 0 by omega)]; rfl
      · rw [if_neg (show ¬ (q.2 ≤ y ∧ 0 < -c) by omega), if_neg (show ¬ (q.2 ≤ y ∧ c < 0) by omega)]; rfl
    · rw [if_pos (show q.2 ≤ y ↔ p.2 ≤ y by omega), if_pos (show p.2 ≤ y ↔ q.2 ≤ y by omega)]; rfl
def sdp (x y : Int) (p q : Pt) : Int := sideW (plp p) (plp q) x y
/-- The sides of a way. -/
def pth (x y : Int) : List Pt → Int
  | [] => 0
  | [_] => 0
  | p :: q :: t => sdp x y p q + pth x y (q :: t)
theorem pth_app (x y : Int) (a : Pt) (m : List Pt) : ∀ (l : List Pt), pth x y (l ++ a :: m) = pth x y (l ++ [a]) + pth x y (a :: m)
  | [] => by simp [pth]
  | [p] => by simp [pth]
  | p :: q :: t => by
    have := pth_app x y a m (q :: t)
    simp only [List.cons_append, pth] at this ⊢
    rw [this]; omega
theorem pth_rev (x y : Int) : ∀ (l : List Pt), pth x y l.reverse = - pth x y l
  | [] => rfl
  | [p] => rfl
  | p :: q :: t => by
    have h := pth_rev x y (q :: t)
    rw [List.reverse_cons] at h ⊢
    rw [List.reverse_cons, List.append_assoc, List.singleton_append, pth_app x y q [p], h]
    simp only [pth]
    have := sideW_swap (plp p) (plp q) x y
    unfold sdp; omega
/-- The sides all round. -/
def rnd (x y : Int) : List Pt → Int
  | [] => 0
  | p :: t => pth x y (p :: t ++ [p])
theorem rnd_turn (x y : Int) (a b : List Pt) : rnd x y (a ++ b) = rnd x y (b ++ a) := by
  match a, b with
  | [], b => simp
  | a, [] => simp
  | p :: s, q :: t =>
    simp only [List.cons_append, rnd]
    have e1 := pth_app x y q (t ++ [p]) (p :: s)
    have e2 := pth_app x y p (s ++ [q]) (q :: t)
    simp only [List.cons_append, List.append_assoc, List.nil_append] at e1 e2 ⊢
    rw [e1, e2]; omega
theorem rnd_rev (x y : Int) (l : List Pt) : rnd x y l.reverse = - rnd x y l := by
  match l with
  | [] => rfl
  | p :: t =>
    rw [List.reverse_cons, rnd_turn, List.singleton_append]
    simp only [rnd]
    rw [← pth_rev, List.reverse_append, List.reverse_cons]; simp
theorem windGo_pth (x y : Int) : ∀ (l : List Pt) (a : Pt), windGo x y (plp a) l = pth x y (a :: l)
  | [], a => rfl
  | p :: t, a => by rw [windGo, windGo_pth x y t p]; rfl
theorem windP_rnd (l : List Pt) (x y : Int) : windP l x y = rnd x y l := by
  match l with
  | [] => rfl
  | [p] => show (0 : Int) = sdp x y p p + 0; unfold sdp; have := sideW_swap (plp p) (plp p) x y; omega
  | p :: q :: t =>
    unfold windP
    rw [if_neg (by simp), windGo_pth]
    obtain ⟨u, z, hz⟩ : ∃ u z, p :: q :: t = u ++ [z] := ⟨(p :: q :: t).dropLast, (p :: q :: t).getLast (by simp), (List.dropLast_concat_getLast (by simp)).symm⟩
    have hl : ((p :: q :: t)[(p :: q :: t).length - 1]?).getD (0, 0) = z := by rw [hz]; simp
    rw [hl]
    simp only [rnd]
    have e := pth_app x y z [p] u
    rw [List.append_cons, ← hz, List.cons_append] at e
    simp only [List.cons_append, pth] at e ⊢
    omega
theorem withB_neg (w rule : Int) (h : -1000000 ≤ w ∧ w ≤ 1000000) : withB (IntKind.i64.wrap (-w)) rule = withB (IntKind.i64.wrap w) rule := by
  rw [wi (by omega) (by omega), wi (by omega) (by omega)]
  unfold withB
  by_cases h0 : rule = 0
  · rw [if_pos h0, if_pos h0]
    by_cases hw : w = 0
    · subst hw; rfl
    · rw [nf (by omega), nf hw]
  · rw [if_neg h0, if_neg h0]
    by_cases h1 : rule = 1
    · rw [if_pos h1, if_pos h1, Int.neg_tmod]
      by_cases hw : w.tmod 2 = 0
      · rw [hw]; rfl
      · rw [nf (by omega), nf hw]
    · rw [if_neg h1, if_neg h1]
theorem covA_back (c c' : Bool) (l : List Pt) (hl : l.length ≤ 1000) (rule x y : Int) : covA [(c, l.reverse)] rule x y = covA [(c', l)] rule x y := by
  have : covN [(c, l.reverse)] rule x y = covN [(c', l)] rule x y := cntK_congr fun k hk => by
    unfold smp
    rw [windL, windL, windL, windL]
    simp only
    have hb := windP_b l (x * 65536 + 8192 + ((k % 4 : Nat) : Int) * 16384) (y * 65536 + 8192 + ((k / 4 : Nat) : Int) * 16384)
    rw [windP_rnd, rnd_rev, ← windP_rnd, Int.add_zero, Int.add_zero]
    exact withB_neg _ _ (by omega)
  unfold covA; rw [this]
theorem covA_turn (c c' : Bool) (l : List Pt) (m : Nat) (rule x y : Int) : covA [(c, l.drop m ++ l.take m)] rule x y = covA [(c', l)] rule x y := by
  have : covN [(c, l.drop m ++ l.take m)] rule x y = covN [(c', l)] rule x y := cntK_congr fun k hk => by
    unfold smp
    rw [windL, windL, windL, windL]
    simp only
    rw [windP_rnd, rnd_turn, List.take_append_drop, ← windP_rnd]
  unfold covA; rw [this]
theorem covA_b (ps : List PL) (rule x y : Int) : 0 ≤ covA ps rule x y ∧ covA ps rule x y ≤ 16 := by
  unfold covA; split
  · exact cntK_b _ 16
  · omega
end Go.Proofs.Ythoclopeajkcpaa
/- Chapter 15: the walk of the law on polys that go backwards, or begin elsewhere. -/
namespace Go.Proofs.Ythoclopeajkcpaa
open Go Go.RowKit E
attribute [local irreducible] XRun XOps XCode XCal XLoop XQ SemCall
set_option linter.unusedSimpArgs false
set_option linter.unusedVariables false
theorem turn_get {α : Type} (f : List α) (m j : Nat) (hm : m < f.length) (hj : j < f.length) : (f.drop m ++ f.take m)[j]? = f[(j + m) % f.length]? := by
  by_cases h : j < f.length - m
  · rw [List.getElem?_append_left (by rw [List.length_drop]; omega), List.getElem?_drop, Nat.mod_eq_of_lt (by omega), Nat.add_comm]
  · rw [List.getElem?_append_right (by rw [List.length_drop]; omega), List.length_drop, List.getElem?_take_of_lt (by omega)]
    congr 1
    rw [show j + m = (j - (f.length - m)) + f.length by omega, Nat.add_mod_right, Nat.mod_eq_of_lt (by omega)]
/-- Both ways, while they are being made. -/
def TwoW (n0 : Nat) (K : AH) (j : Nat) (r u : List Pt) : Prop :=
  (j = 0 ∧ K[n0 + 1]? = some ⟨[.bool false, .slice none 0 0], 0, true⟩ ∧ K[n0 + 2]? = some ⟨[.bool false, .slice none 0 0], 0, true⟩) ∨
  ∃ b1 g1 b2 g2, n0 + 3 ≤ b1 ∧ n0 + 3 ≤ b2 ∧ b1 ≠ b2 ∧ K[n0 + 1]? = some ⟨[.bool false, sl b1 0 g1 j 2], 0, true⟩ ∧ K[n0 + 2]? = some ⟨[.bool false, sl b2 0 g2 j 2], 0, true⟩ ∧
    K[b1]? = some ⟨ptC (r.take j), g1, true⟩ ∧ K[b2]? = some ⟨ptC (u.take j), g2, true⟩
theorem TwoW.pts {n0 : Nat} {K : AH} {r u : List Pt} {j : Nat} (h : TwoW n0 K j r u) (hr : r.length = j) (hu : u.length = j) (hj : 0 < j) (hl : j ≤ 1000) : ∃ v1 v2, K[n0 + 1]? = some ⟨[.bool false, v1], 0, true⟩ ∧ K[n0 + 2]? = some ⟨[.bool false, v2], 0, true⟩ ∧ Pts K v1 r ∧ Pts K v2 u := by
  rcases h with ⟨h0, _⟩ | ⟨b1, g1, b2, g2, _, _, _, h1, h2, h3, h4⟩
  · omega
  · rw [List.take_of_length_le (by omega)] at h3 h4
    exact ⟨_, _, h1, h2, .inr ⟨b1, g1, [], true, by rw [hr], by rw [List.append_nil]; exact h3, by omega⟩, .inr ⟨b2, g2, [], true, by rw [hu], by rw [List.append_nil]; exact h4, by omega⟩⟩
set_option maxHeartbeats 4000000 in
theorem cbacks (lv : Value) (ls : List Int) (t : Nat) (H : AH) (h : Ints H t lv ls) (x y frm : Int) : SemCall Try.prog 11 [lv, .int .i64 x, .int .i64 y, .int .i64 frm] H (.bool true) H [] := by
  refine pure_of ?_ rfl
  have hcl := h.cellsL
  refine XCal.of hm Try.func11 rfl (fun xs w => Try.call11 xs w) Try.ntmps11 Try.results11 rfl ?_
  simp only [go_sem, Nat.reduceEqDiff, Nat.reduceAdd, Nat.reduceSub, Nat.reduceMul, Nat.reduceLT, Nat.reduceLeDiff, Int.reducePow, Int.reduceBEq, Int.reduceBNe, Int.reduceDiv, Int.reduceMod, Int.reduceEq, Int.reduceLT, Int.reduceLE, Int.reduceAdd, Int.reduceSub, Int.reduceMul, Int.reduceNeg, Int.reduceToNat, Int.reduceTDiv, Int.reduceTMod, ↓reduceIte, hcl]
  refine (next_ 4 (by omega) _ (newTp h [] [] H.length rfl)).x ?_
  rintro v H1 W1 ⟨⟨q, a1⟩, ⟨q0, q1, a0, a2⟩, rfl, rfl, rfl⟩
  have q0 : 0 ≤ q := q0
  have q1 : q < 4 := q1
  have hT := (newTp h [] [] H.length rfl).set (at_ := a1) a0 a2
  have hL1 : H.length + 1 ≤ ((H ++ ([] ++ tblk lv 0 0 :: [])).set H.length (tblk lv 0 a1)).length := by simp
  generalize (H ++ ([] ++ tblk lv 0 0 :: [])).set H.length (tblk lv 0 a1) = K0 at *
  obtain ⟨parts, hparts⟩ : ∃ n : Nat, (n : Int) = 1 + q := ⟨(1 + q).toNat, by omega⟩
  have w2 : IntKind.i64.wrap (1 + q) = (parts : Int) := by rw [← hparts]; exact wi (by omega) (by omega)
  have hp1 : parts ≤ 4 := by omega
  simp only [go_sem, Nat.reduceEqDiff, Nat.reduceAdd, Nat.reduceSub, Nat.reduceMul, Nat.reduceLT, Nat.reduceLeDiff, Int.reducePow, Int.reduceBEq, Int.reduceBNe, Int.reduceDiv, Int.reduceMod, Int.reduceEq, Int.reduceLT, Int.reduceLE, Int.reduceAdd, Int.reduceSub, Int.reduceMul, Int.reduceNeg, Int.reduceToNat, Int.reduceTDiv, Int.reduceTMod, ↓reduceIte, w2]
  refine (path_ parts true (by omega) _ hT).x ?_
  rintro v H1 W1 ⟨⟨l, c1⟩, ⟨hl, hB, c0, c2⟩, rfl, rfl, rfl⟩
  have hl : l.length = 3 * parts + 1 := hl
  have hB : ∀ p ∈ l, Bp p := hB
  have hP : Pts (K0.set H.length (tblk lv 0 c1) ++ [⟨ptC l, 0, true⟩]) (sl K0.length 0 0 l.length 2) l := .inr ⟨K0.length, 0, [], true, rfl, by rw [show K0.length = (K0.set H.length (tblk lv 0 c1)).length by simp, hget_app0, List.append_nil]; rfl, by omega⟩
  have hL2 : H.length + 1 ≤ (K0.set H.length (tblk lv 0 c1) ++ [(⟨ptC l, 0, true⟩ : Blk)]).length := by simp; omega
  clear hT
  generalize K0.set H.length (tblk lv 0 c1) ++ [⟨ptC l, 0, true⟩] = K1 at *
  generalize sl K0.length 0 0 l.length 2 = pv at *
  simp only [go_sem, Nat.reduceEqDiff, Nat.reduceAdd, Nat.reduceSub, Nat.reduceMul, Nat.reduceLT, Nat.reduceLeDiff, Int.reducePow, Int.reduceBEq, Int.reduceBNe, Int.reduceDiv, Int.reduceMod, Int.reduceEq, Int.reduceLT, Int.reduceLE, Int.reduceAdd, Int.reduceSub, Int.reduceMul, Int.reduceNeg, Int.reduceToNat, Int.reduceTDiv, Int.reduceTMod, ↓reduceIte]
  refine (rflat_ true l pv (fun p hp => (hB p hp).ip) _ hP).x ?_
  rintro v H1 W1 ⟨rfl, ⟨L, rfl⟩, pv', rfl, hF⟩
  have hL3 : H.length + 1 ≤ (K1 ++ L).length := by simp; omega
  have hfl := fL_len true l
  have hfb := fL_b true l (fun p hp => (hB p hp).ip)
  have hF := hF.pts
  generalize K1 ++ L = K2 at *
  generalize fL true l = f at *
  obtain ⟨a, e, hpe⟩ := hF.form
  subst hpe
  clear hP hL1 hL2
  have kd : ∀ n, decide (K2.length + n < H.length) = false := fun n => df (by omega)
  have kd0 : decide (K2.length < H.length) = false := df (by omega)
  simp only [go_sem, Nat.reduceEqDiff, Nat.reduceAdd, Nat.reduceSub, Nat.reduceMul, Nat.reduceLT, Nat.reduceLeDiff, Int.reducePow, Int.reduceBEq, Int.reduceBNe, Int.reduceDiv, Int.reduceMod, Int.reduceEq, Int.reduceLT, Int.reduceLE, Int.reduceAdd, Int.reduceSub, Int.reduceMul, Int.reduceNeg, Int.reduceToNat, Int.reduceTDiv, Int.reduceTMod, ↓reduceIte, poly, kd, kd0]
  by_cases hf : f = []
  · subst hf
    simp only [go_sem, Nat.reduceEqDiff, Nat.reduceAdd, Nat.reduceSub, Nat.reduceMul, Nat.reduceLT, Nat.reduceLeDiff, Int.reducePow, Int.reduceBEq, Int.reduceBNe, Int.reduceDiv, Int.reduceMod, Int.reduceEq, Int.reduceLT, Int.reduceLE, Int.reduceAdd, Int.reduceSub, Int.reduceMul, Int.reduceNeg, Int.reduceToNat, Int.reduceTDiv, Int.reduceTMod, ↓reduceIte, List.length_nil, show ((0 : Nat) : Int) = 0 from rfl]
    repeat ((first | refine (cknown_ _).x ?_ | refine drawnF ?_ (by decide +kernel)); simp only [go_sem, Nat.reduceEqDiff, Nat.reduceAdd, Nat.reduceSub, Nat.reduceMul, Nat.reduceLT, Nat.reduceLeDiff, Int.reducePow, Int.reduceBEq, Int.reduceBNe, Int.reduceDiv, Int.reduceMod, Int.reduceEq, Int.reduceLT, Int.reduceLE, Int.reduceAdd, Int.reduceSub, Int.reduceMul, Int.reduceNeg, Int.reduceToNat, Int.reduceTDiv, Int.reduceTMod, ↓reduceIte])
  · have hn := List.length_pos_iff.2 hf
    have wn : IntKind.i64.wrap ((f.length : Int) - 1) = (f.length : Int) - 1 := wi (by omega) (by omega)
    have c1 := fun H => within_ frm 0 ((f.length : Int) - 1) (by omega) (by omega) (by omega) H
    have b1 := wth_b frm (lo := 0) (hi := (f.length : Int) - 1) (by omega)
    generalize wth frm 0 ((f.length : Int) - 1) = m' at *
    obtain ⟨m, rfl⟩ : ∃ m : Nat, m' = (m : Int) := ⟨m'.toNat, by omega⟩
    simp only [go_sem, Nat.reduceEqDiff, Nat.reduceAdd, Nat.reduceSub, Nat.reduceMul, Nat.reduceLT, Nat.reduceLeDiff, Int.reducePow, Int.reduceBEq, Int.reduceBNe, Int.reduceDiv, Int.reduceMod, Int.reduceEq, Int.reduceLT, Int.reduceLE, Int.reduceAdd, Int.reduceSub, Int.reduceMul, Int.reduceNeg, Int.reduceToNat, Int.reduceTDiv, Int.reduceTMod, ↓reduceIte, bf (show ¬ (f.length : Int) = 0 by omega), wn]
    repeat ((first | refine (c1 _).x ?_ | refine drawnF ?_ (by decide +kernel)); simp only [go_sem, Nat.reduceEqDiff, Nat.reduceAdd, Nat.reduceSub, Nat.reduceMul, Nat.reduceLT, Nat.reduceLeDiff, Int.reducePow, Int.reduceBEq, Int.reduceBNe, Int.reduceDiv, Int.reduceMod, Int.reduceEq, Int.reduceLT, Int.reduceLE, Int.reduceAdd, Int.reduceSub, Int.reduceMul, Int.reduceNeg, Int.reduceToNat, Int.reduceTDiv, Int.reduceTMod, ↓reduceIte, kd, kd0])
    have hm : m < f.length := by omega
    have h10 : (K2 ++ [(⟨[.bool true, .slice a f.length e], 0, true⟩ : Blk), ⟨[.bool false, .slice none 0 0], 0, true⟩, ⟨[.bool false, .slice none 0 0], 0, true⟩])[K2.length]? = some ⟨[.bool true, .slice a f.length e], 0, true⟩ := by rw [hget_app0]; rfl
    refine keep (fun k T K D => D = [] ∧ ∃ j : Nat, j + k = f.length ∧ Old K2 K ∧ K2.length + 3 ≤ K.length ∧ K[K2.length]? = some ⟨[.bool true, .slice a f.length e], 0, true⟩ ∧ TwoW K2.length K j f.reverse (f.drop m ++ f.take m) ∧ T 1 = .int .i64 x ∧ T 2 = .int .i64 y ∧ T 10 = ap K2.length 0 0 ∧ T 11 = .int .i64 (f.length : Int) ∧ T 12 = .int .i64 (m : Int) ∧ T 13 = ap (K2.length + 1) 0 0 ∧ T 14 = ap (K2.length + 2) 0 0 ∧ T 15 = .int .i64 (j : Int)) f.length
      ⟨rfl, 0, by omega, Old.app' _ _, by simp, h10, .inl ⟨rfl, by rw [hget_app]; rfl, by rw [hget_app]; rfl⟩, by simp only [go_sem, Nat.reduceEqDiff, Nat.reduceAdd, Nat.reduceSub, Nat.reduceMul, Nat.reduceLT, Nat.reduceLeDiff, Int.reducePow, Int.reduceBEq, Int.reduceBNe, Int.reduceDiv, Int.reduceMod, Int.reduceEq, Int.reduceLT, Int.reduceLE, Int.reduceAdd, Int.reduceSub, Int.reduceMul, Int.reduceNeg, Int.reduceToNat, Int.reduceTDiv, Int.reduceTMod, ↓reduceIte], by simp only [go_sem, Nat.reduceEqDiff, Nat.reduceAdd, Nat.reduceSub, Nat.reduceMul, Nat.reduceLT, Nat.reduceLeDiff, Int.reducePow, Int.reduceBEq, Int.reduceBNe, Int.reduceDiv, Int.reduceMod, Int.reduceEq, Int.reduceLT, Int.reduceLE, Int.reduceAdd, Int.reduceSub, Int.reduceMul, Int.reduceNeg, Int.reduceToNat, Int.reduceTDiv, Int.reduceTMod, ↓reduceIte], by simp only [go_sem, Nat.reduceEqDiff, Nat.reduceAdd, Nat.reduceSub, Nat.reduceMul, Nat.reduceLT, Nat.reduceLeDiff, Int.reducePow, Int.reduceBEq, Int.reduceBNe, Int.reduceDiv, Int.reduceMod, Int.reduceEq, Int.reduceLT, Int.reduceLE, Int.reduceAdd, Int.reduceSub, Int.reduceMul, Int.reduceNeg, Int.reduceToNat, Int.reduceTDiv, Int.reduceTMod, ↓reduceIte], by simp only [go_sem, Nat.reduceEqDiff, Nat.reduceAdd, Nat.reduceSub, Nat.reduceMul, Nat.reduceLT, Nat.reduceLeDiff, Int.reducePow, Int.reduceBEq, Int.reduceBNe, Int.reduceDiv, Int.reduceMod, Int.reduceEq, Int.reduceLT, Int.reduceLE, Int.reduceAdd, Int.reduceSub, Int.reduceMul, Int.reduceNeg, Int.reduceToNat, Int.reduceTDiv, Int.reduceTMod, ↓reduceIte], by simp only [go_sem, Nat.reduceEqDiff, Nat.reduceAdd, Nat.reduceSub, Nat.reduceMul, Nat.reduceLT, Nat.reduceLeDiff, Int.reducePow, Int.reduceBEq, Int.reduceBNe, Int.reduceDiv, Int.reduceMod, Int.reduceEq, Int.reduceLT, Int.reduceLE, Int.reduceAdd, Int.reduceSub, Int.reduceMul, Int.reduceNeg, Int.reduceToNat, Int.reduceTDiv, Int.reduceTMod, ↓reduceIte], by simp only [go_sem, Nat.reduceEqDiff, Nat.reduceAdd, Nat.reduceSub, Nat.reduceMul, Nat.reduceLT, Nat.reduceLeDiff, Int.reducePow, Int.reduceBEq, Int.reduceBNe, Int.reduceDiv, Int.reduceMod, Int.reduceEq, Int.reduceLT, Int.reduceLE, Int.reduceAdd, Int.reduceSub, Int.reduceMul, Int.reduceNeg, Int.reduceToNat, Int.reduceTDiv, Int.reduceTMod, ↓reduceIte], by simp only [go_sem, Nat.reduceEqDiff, Nat.reduceAdd, Nat.reduceSub, Nat.reduceMul, Nat.reduceLT, Nat.reduceLeDiff, Int.reducePow, Int.reduceBEq, Int.reduceBNe, Int.reduceDiv, Int.reduceMod, Int.reduceEq, Int.reduceLT, Int.reduceLE, Int.reduceAdd, Int.reduceSub, Int.reduceMul, Int.reduceNeg, Int.reduceToNat, Int.reduceTDiv, Int.reduceTMod, ↓reduceIte], by simp only [go_sem, Nat.reduceEqDiff, Nat.reduceAdd, Nat.reduceSub, Nat.reduceMul, Nat.reduceLT, Nat.reduceLeDiff, Int.reducePow, Int.reduceBEq, Int.reduceBNe, Int.reduceDiv, Int.reduceMod, Int.reduceEq, Int.reduceLT, Int.reduceLE, Int.reduceAdd, Int.reduceSub, Int.reduceMul, Int.reduceNeg, Int.reduceToNat, Int.reduceTDiv, Int.reduceTMod, ↓reduceIte] <;> rfl⟩ ?_
    clear h10 kd kd0
    rintro k T K D ⟨rfl, j, hjk, hold, hKl, h10, hW, t1, t2, t10, t11, t12, t13, t14, t15⟩
    have kd : ∀ n, decide (K.length + n < H.length) = false := fun n => df (by omega)
    have kd0 : decide (K.length < H.length) = false := df (by omega)
    have kd2 : ∀ n, decide (K2.length + n < H.length) = false := fun n => df (by omega)
    by_cases hj : j < f.length
    · obtain ⟨bf_, gf, rest, rw_, hpe, hbf, _⟩ := hF.ne hf
      rw [hpe] at h10
      have hbl := (List.getElem?_eq_some_iff.1 hbf).1
      have kbf := hold _ _ hbf
      have x1 : IntKind.i64.wrap ((f.length : Int) - 1 - (j : Int)) = ((f.length - 1 - j : Nat) : Int) := by rw [wi (by omega) (by omega)]; omega
      have x2 : IntKind.i64.wrap ((j : Int) + (m : Int)) = ((j + m : Nat) : Int) := by rw [wi (by omega) (by omega)]; omega
      have x3 : ((j + m : Nat) : Int).tmod (f.length : Int) = (((j + m) % f.length : Nat) : Int) := by rw [Int.tmod_eq_emod_of_nonneg (by omega)]; rfl
      have x4 : IntKind.i64.wrap ((j : Int) + 1) = ((j + 1 : Nat) : Int) := by rw [wi (by omega) (by omega)]; rfl
      have hml : (j + m) % f.length < f.length := Nat.mod_lt _ (by omega)
      obtain ⟨p1, hp1, _⟩ := getD_some (show f.length - 1 - j < f.length by omega)
      obtain ⟨p2, hp2, _⟩ := getD_some hml
      have r1 : f.reverse.take (j + 1) = f.reverse.take j ++ [p1] := by rw [List.take_add_one, List.getElem?_reverse hj, hp1]; rfl
      have r2 : (f.drop m ++ f.take m).take (j + 1) = (f.drop m ++ f.take m).take j ++ [p2] := by rw [List.take_add_one, turn_get f m j hm hj, hp2]; rfl
      have l1 : (f.reverse.take j).length = j := by rw [List.length_take, List.length_reverse]; omega
      have l2 : ((f.drop m ++ f.take m).take j).length = j := by rw [List.length_take, List.length_append, List.length_drop, List.length_take]; omega
      generalize hjm : (j + m) % f.length = jm at *
      generalize hjr : f.length - 1 - j = jr at *
      have hjr' : jr < f.length := by omega
      have ld1 := fun (c : Nat) => ald_pt (b := c) (g := gf) (rw_ := rw_) rest hp1
      have ld2 := fun (c : Nat) => ald_pt (b := c) (g := gf) (rw_ := rw_) rest hp2
      have q0 : ∀ x : Nat, (0 : Int) ≤ (x : Int) := fun x => by omega
      have zf : ((f.length : Int) = 0) = False := eq_false (by omega)
      rcases hW with ⟨hj0, s1, s2⟩ | ⟨b1, g1, b2, g2, n1, n2, n3, s1, s2, k1, k2⟩
      · have f1 : ∀ Y L, (K.set (K2.length + 1) Y ++ L)[K2.length + 2]? = some ⟨[.bool false, .slice none 0 0], 0, true⟩ := fun Y L => by
          refine old_get ?_ L
          rw [List.getElem?_set_ne (by omega)]; exact s2
        have f2 : ∀ Y L, (K.set (K2.length + 1) Y ++ L)[K2.length]? = some ⟨[.bool true, sl bf_ 0 gf f.length 2], 0, true⟩ := fun Y L => by
          refine old_get ?_ L
          rw [List.getElem?_set_ne (by omega)]; exact h10
        have f3 : ∀ Y L, (K.set (K2.length + 1) Y ++ L)[bf_]? = some ⟨ptC f ++ rest, gf, rw_⟩ := fun Y L => by
          refine old_get ?_ L
          rw [List.getElem?_set_ne (by omega)]; exact kbf
        have f4 : ∀ Y Z L, (K.set (K2.length + 1) Y ++ L).set (K2.length + 2) Z = (K.set (K2.length + 1) Y).set (K2.length + 2) Z ++ L := fun Y Z L => List.set_append_left _ _ (by simp; omega)
        have f5 : ∀ Y Z L n, ((K.set (K2.length + 1) Y).set (K2.length + 2) Z ++ L)[K.length + n]? = L[n]? := fun Y Z L n => by rw [show K.length = ((K.set (K2.length + 1) Y).set (K2.length + 2) Z).length by simp, hget_app]
        simp only [go_sem, Nat.reduceEqDiff, Nat.reduceAdd, Nat.reduceSub, Nat.reduceMul, Nat.reduceLT, Nat.reduceLeDiff, Int.reducePow, Int.reduceBEq, Int.reduceBNe, Int.reduceDiv, Int.reduceMod, Int.reduceEq, Int.reduceLT, Int.reduceLE, Int.reduceAdd, Int.reduceSub, Int.reduceMul, Int.reduceNeg, Int.reduceToNat, Int.reduceTDiv, Int.reduceTMod, ↓reduceIte, t1, t2, t10, t11, t12, t13, t14, t15, dt (show (j : Int) < (f.length : Int) by omega)]
        repeat ((first | refine drawnF ?_ (by decide +kernel)); simp only [go_sem, Nat.reduceEqDiff, Nat.reduceAdd, Nat.reduceSub, Nat.reduceMul, Nat.reduceLT, Nat.reduceLeDiff, Int.reducePow, Int.reduceBEq, Int.reduceBNe, Int.reduceDiv, Int.reduceMod, Int.reduceEq, Int.reduceLT, Int.reduceLE, Int.reduceAdd, Int.reduceSub, Int.reduceMul, Int.reduceNeg, Int.reduceToNat, Int.reduceTDiv, Int.reduceTMod, ↓reduceIte, t1, t2, t10, t11, t12, t13, t14, t15, wn, x1, x2, x3, x4, kd, kd0, h10, s1, old_get s1, old_set s1, s2, kbf, f1, f2, f3, f4, ld1, ld2, ptv, q0, zf, show (jm : Int) < (f.length : Int) by omega, show (jr : Int) < (f.length : Int) by omega, Int.toNat_natCast, Nat.zero_add, List.length_set, kd2])
        refine ⟨k - 1, by omega, j + 1, by omega, fun c z e => old_get ?_ _, by omega, old_get ?_ _, .inr ⟨K.length + 1, 0, K.length + 3, 0, by omega, by omega, by omega, old_get ?_ _, old_get ?_ _, ?_, ?_⟩, rfl⟩
        · have := (List.getElem?_eq_some_iff.1 e).1
          rw [List.getElem?_set_ne (by omega), List.getElem?_set_ne (by omega)]; exact hold _ _ e
        · rw [List.getElem?_set_ne (by omega), List.getElem?_set_ne (by omega), hpe]; exact h10
        · rw [List.getElem?_set_ne (by omega), List.getElem?_set_self (by omega), hj0]
        · rw [List.getElem?_set_self (by simp; omega), hj0]
        · rw [f5, r1, hj0]; rfl
        · rw [f5, r2, hj0]; rfl
      · have hlb1 := (List.getElem?_eq_some_iff.1 k1).1
        have hlb2 := (List.getElem?_eq_some_iff.1 k2).1
        have c1 : (ptC (f.reverse.take j)).length = j * 2 := by rw [ptC_len, l1]
        have c2 : (ptC ((f.drop m ++ f.take m).take j)).length = j * 2 := by rw [ptC_len, l2]
        have sm := small_q (o := f.reverse.take j) (by rw [l1]; omega)
        rw [l1] at sm
        have f1 : ∀ P L, (K.set b1 P ++ L)[K2.length + 1]? = some ⟨[.bool false, sl b1 0 g1 j 2], 0, true⟩ := fun P L => by
          refine old_get ?_ L
          rw [List.getElem?_set_ne (by omega)]; exact s1
        have f2 : ∀ P Y L, (K.set b1 P ++ L).set (K2.length + 1) Y = (K.set b1 P).set (K2.length + 1) Y ++ L := fun P Y L => List.set_append_left _ _ (by simp; omega)
        have f3 : ∀ P Y L, ((K.set b1 P).set (K2.length + 1) Y ++ L)[K2.length + 2]? = some ⟨[.bool false, sl b2 0 g2 j 2], 0, true⟩ := fun P Y L => by
          refine old_get ?_ L
          rw [List.getElem?_set_ne (by omega), List.getElem?_set_ne (by omega)]; exact s2
        have f4 : ∀ P Y L, ((K.set b1 P).set (K2.length + 1) Y ++ L)[K2.length]? = some ⟨[.bool true, sl bf_ 0 gf f.length 2], 0, true⟩ := fun P Y L => by
          refine old_get ?_ L
          rw [List.getElem?_set_ne (by omega), List.getElem?_set_ne (by omega)]; exact h10
        have f5 : ∀ P Y L, ((K.set b1 P).set (K2.length + 1) Y ++ L)[bf_]? = some ⟨ptC f ++ rest, gf, rw_⟩ := fun P Y L => by
          refine old_get ?_ L
          rw [List.getElem?_set_ne (by omega), List.getElem?_set_ne (by omega)]; exact kbf
        have f6 : ∀ P Y L, ((K.set b1 P).set (K2.length + 1) Y ++ L)[b2]? = some ⟨ptC ((f.drop m ++ f.take m).take j), g2, true⟩ := fun P Y L => by
          refine old_get ?_ L
          rw [List.getElem?_set_ne (by omega), List.getElem?_set_ne (by omega)]; exact k2
        have f7 : ∀ P Y Q L, ((K.set b1 P).set (K2.length + 1) Y ++ L).set b2 Q = ((K.set b1 P).set (K2.length + 1) Y).set b2 Q ++ L := fun P Y Q L => List.set_append_left _ _ (by simp; omega)
        have f8 : ∀ P Y Q L, (((K.set b1 P).set (K2.length + 1) Y).set b2 Q ++ L)[K2.length + 2]? = some ⟨[.bool false, sl b2 0 g2 j 2], 0, true⟩ := fun P Y Q L => by
          refine old_get ?_ L
          rw [List.getElem?_set_ne (by omega), List.getElem?_set_ne (by omega), List.getElem?_set_ne (by omega)]; exact s2
        have f9 : ∀ P Y Q Z L, (((K.set b1 P).set (K2.length + 1) Y).set b2 Q ++ L).set (K2.length + 2) Z = (((K.set b1 P).set (K2.length + 1) Y).set b2 Q).set (K2.length + 2) Z ++ L := fun P Y Q Z L => List.set_append_left _ _ (by simp; omega)
        have f10 : ∀ P Y L n, ((K.set b1 P).set (K2.length + 1) Y ++ L)[K.length + n]? = L[n]? := fun P Y L n => by rw [show K.length = ((K.set b1 P).set (K2.length + 1) Y).length by simp, hget_app]
        have d1 : decide (b1 < H.length) = false := df (by omega)
        have d2 : decide (b2 < H.length) = false := df (by omega)
        simp only [go_sem, Nat.reduceEqDiff, Nat.reduceAdd, Nat.reduceSub, Nat.reduceMul, Nat.reduceLT, Nat.reduceLeDiff, Int.reducePow, Int.reduceBEq, Int.reduceBNe, Int.reduceDiv, Int.reduceMod, Int.reduceEq, Int.reduceLT, Int.reduceLE, Int.reduceAdd, Int.reduceSub, Int.reduceMul, Int.reduceNeg, Int.reduceToNat, Int.reduceTDiv, Int.reduceTMod, ↓reduceIte, t1, t2, t10, t11, t12, t13, t14, t15, dt (show (j : Int) < (f.length : Int) by omega)]
        repeat ((first | refine drawnF ?_ (by decide +kernel)); simp only [go_sem, Nat.reduceEqDiff, Nat.reduceAdd, Nat.reduceSub, Nat.reduceMul, Nat.reduceLT, Nat.reduceLeDiff, Int.reducePow, Int.reduceBEq, Int.reduceBNe, Int.reduceDiv, Int.reduceMod, Int.reduceEq, Int.reduceLT, Int.reduceLE, Int.reduceAdd, Int.reduceSub, Int.reduceMul, Int.reduceNeg, Int.reduceToNat, Int.reduceTDiv, Int.reduceTMod, ↓reduceIte, t1, t2, t10, t11, t12, t13, t14, t15, wn, x1, x2, x3, x4, kd, kd0, h10, s1, old_get s1, s2, kbf, old_get k1, old_set k1, c1, c2, sm.2.1, sm.2.2, f1, f2, f3, f4, f5, f6, f7, f8, f9, f10, d1, d2, ld1, ld2, ptv, q0, zf, show (jm : Int) < (f.length : Int) by omega, show (jr : Int) < (f.length : Int) by omega, Int.toNat_natCast, Nat.zero_add, List.length_set, kd2])
        refine ⟨k - 1, by omega, j + 1, by omega, fun c z e => old_get ?_ _, by omega, old_get ?_ _, .inr ⟨b1, g1 + 1, b2, g2 + 1, n1, n2, n3, old_get ?_ _, old_get ?_ _, old_get ?_ _, old_get ?_ _⟩, rfl⟩
        · have := (List.getElem?_eq_some_iff.1 e).1
          rw [List.getElem?_set_ne (by omega), List.getElem?_set_ne (by omega), List.getElem?_set_ne (by omega), List.getElem?_set_ne (by omega)]; exact hold _ _ e
        · rw [List.getElem?_set_ne (by omega), List.getElem?_set_ne (by omega), List.getElem?_set_ne (by omega), List.getElem?_set_ne (by omega), hpe]; exact h10
        · rw [List.getElem?_set_ne (by omega), List.getElem?_set_ne (by omega), List.getElem?_set_self (by simp; omega)]
        · rw [List.getElem?_set_self (by simp; omega)]
        · rw [List.getElem?_set_ne (by omega), List.getElem?_set_ne (fun h => n3 h.symm), List.getElem?_set_ne (by omega), List.getElem?_set_self hlb1, r1, ptC_app]; rfl
        · rw [List.getElem?_set_ne (by omega), List.getElem?_set_self (by simp; omega), r2, ptC_app]; rfl
    · have hjn : j = f.length := by omega
      subst hjn
      obtain ⟨v1, v2, s1, s2, P1, P2⟩ := hW.pts (by simp) (by rw [List.length_append, List.length_drop, List.length_take]; omega) hn hfl
      have P0 := hF.old hold
      have c5 := fun H => within_ x (-4) 16 (by omega) (by omega) (by omega) H
      have c6 := fun H => within_ y (-4) 16 (by omega) (by omega) (by omega) H
      generalize wth x (-4) 16 = X at *
      generalize wth y (-4) 16 = Y at *
      simp only [go_sem, Nat.reduceEqDiff, Nat.reduceAdd, Nat.reduceSub, Nat.reduceMul, Nat.reduceLT, Nat.reduceLeDiff, Int.reducePow, Int.reduceBEq, Int.reduceBNe, Int.reduceDiv, Int.reduceMod, Int.reduceEq, Int.reduceLT, Int.reduceLE, Int.reduceAdd, Int.reduceSub, Int.reduceMul, Int.reduceNeg, Int.reduceToNat, Int.reduceTDiv, Int.reduceTMod, ↓reduceIte, t1, t2, t10, t11, t12, t13, t14, t15, df (show ¬ ((f.length : Nat) : Int) < (f.length : Int) by omega)]
      repeat ((first | refine (c5 _).x ?_ | refine (c6 _).x ?_ | refine drawnF ?_ (by decide +kernel)); simp only [go_sem, Nat.reduceEqDiff, Nat.reduceAdd, Nat.reduceSub, Nat.reduceMul, Nat.reduceLT, Nat.reduceLeDiff, Int.reducePow, Int.reduceBEq, Int.reduceBNe, Int.reduceDiv, Int.reduceMod, Int.reduceEq, Int.reduceLT, Int.reduceLE, Int.reduceAdd, Int.reduceSub, Int.reduceMul, Int.reduceNeg, Int.reduceToNat, Int.reduceTDiv, Int.reduceTMod, ↓reduceIte, t1, t2, t10, t11, t12, t13, t14, t15])
      have hlr : f.reverse.length ≤ 8796093021952 := by rw [List.length_reverse]; omega
      have hlu : (f.drop m ++ f.take m).length ≤ 8796093021952 := by rw [List.length_append, List.length_drop, List.length_take]; omega
      have sS : ∀ (c : Bool) (l : List Pt), l.length ≤ 8796093021952 → PolyS [(c, l)] := fun c l hl => ⟨by simp, fun x hx => by simp at hx; subst hx; exact hl⟩
      refine keep (fun k T J D => D = [] ∧ Old K J ∧ K.length ≤ J.length ∧ ∃ i : Nat, i + k = 2 ∧ T 10 = ap K2.length 0 0 ∧ T 13 = ap (K2.length + 1) 0 0 ∧ T 14 = ap (K2.length + 2) 0 0 ∧ T 16 = .int .i64 X ∧ T 17 = .int .i64 Y ∧ T 18 = .int .i64 (i : Int)) 2
        ⟨rfl, Old.refl _, by omega, 0, rfl, by simp only [go_sem, Nat.reduceEqDiff, Nat.reduceAdd, Nat.reduceSub, Nat.reduceMul, Nat.reduceLT, Nat.reduceLeDiff, Int.reducePow, Int.reduceBEq, Int.reduceBNe, Int.reduceDiv, Int.reduceMod, Int.reduceEq, Int.reduceLT, Int.reduceLE, Int.reduceAdd, Int.reduceSub, Int.reduceMul, Int.reduceNeg, Int.reduceToNat, Int.reduceTDiv, Int.reduceTMod, ↓reduceIte, t10], by simp only [go_sem, Nat.reduceEqDiff, Nat.reduceAdd, Nat.reduceSub, Nat.reduceMul, Nat.reduceLT, Nat.reduceLeDiff, Int.reducePow, Int.reduceBEq, Int.reduceBNe, Int.reduceDiv, Int.reduceMod, Int.reduceEq, Int.reduceLT, Int.reduceLE, Int.reduceAdd, Int.reduceSub, Int.reduceMul, Int.reduceNeg, Int.reduceToNat, Int.reduceTDiv, Int.reduceTMod, ↓reduceIte, t13], by simp only [go_sem, Nat.reduceEqDiff, Nat.reduceAdd, Nat.reduceSub, Nat.reduceMul, Nat.reduceLT, Nat.reduceLeDiff, Int.reducePow, Int.reduceBEq, Int.reduceBNe, Int.reduceDiv, Int.reduceMod, Int.reduceEq, Int.reduceLT, Int.reduceLE, Int.reduceAdd, Int.reduceSub, Int.reduceMul, Int.reduceNeg, Int.reduceToNat, Int.reduceTDiv, Int.reduceTMod, ↓reduceIte, t14], by simp only [go_sem, Nat.reduceEqDiff, Nat.reduceAdd, Nat.reduceSub, Nat.reduceMul, Nat.reduceLT, Nat.reduceLeDiff, Int.reducePow, Int.reduceBEq, Int.reduceBNe, Int.reduceDiv, Int.reduceMod, Int.reduceEq, Int.reduceLT, Int.reduceLE, Int.reduceAdd, Int.reduceSub, Int.reduceMul, Int.reduceNeg, Int.reduceToNat, Int.reduceTDiv, Int.reduceTMod, ↓reduceIte], by simp only [go_sem, Nat.reduceEqDiff, Nat.reduceAdd, Nat.reduceSub, Nat.reduceMul, Nat.reduceLT, Nat.reduceLeDiff, Int.reducePow, Int.reduceBEq, Int.reduceBNe, Int.reduceDiv, Int.reduceMod, Int.reduceEq, Int.reduceLT, Int.reduceLE, Int.reduceAdd, Int.reduceSub, Int.reduceMul, Int.reduceNeg, Int.reduceToNat, Int.reduceTDiv, Int.reduceTMod, ↓reduceIte], by simp only [go_sem, Nat.reduceEqDiff, Nat.reduceAdd, Nat.reduceSub, Nat.reduceMul, Nat.reduceLT, Nat.reduceLeDiff, Int.reducePow, Int.reduceBEq, Int.reduceBNe, Int.reduceDiv, Int.reduceMod, Int.reduceEq, Int.reduceLT, Int.reduceLE, Int.reduceAdd, Int.reduceSub, Int.reduceMul, Int.reduceNeg, Int.reduceToNat, Int.reduceTDiv, Int.reduceTMod, ↓reduceIte] <;> rfl⟩ ?_
      clear t1 t2 t10 t11 t12 t13 t14 t15 kd kd0
      rintro k T J D ⟨rfl, ho, hJl, i, hik, t10, t13, t14, t16, t17, t18⟩
      have kd : ∀ n, decide (J.length + n < H.length) = false := fun n => df (by omega)
      have kd0 : decide (J.length < H.length) = false := df (by omega)
      by_cases hi : i < 2
      · have w1 : IntKind.i64.wrap ((i : Int) + 1) = ((i + 1 : Nat) : Int) := by rw [wi (by omega) (by omega)]; rfl
        have h10 := ho _ _ h10
        have s1 := ho _ _ s1
        have s2 := ho _ _ s2
        have P0 := P0.old ho
        have P1 := P1.old ho
        have P2 := P2.old ho
        have a0 := catA_ [(true, f)] (sl J.length 0 0 1 2) (i : Int) X Y (J ++ [⟨[.bool true, .slice a f.length e], 0, true⟩]) (Polys.one (by rw [hget_app0]; rfl) (P0.app _)) (sS _ _ (by omega))
        have a1 := catA_ [(false, f.reverse)] (sl (J.length + 1) 0 0 1 2) (i : Int) X Y (J ++ [⟨[.bool true, .slice a f.length e], 0, true⟩, ⟨[.bool false, v1], 0, true⟩]) (Polys.one (by rw [hget_app]; rfl) (P1.app _)) (sS _ _ hlr)
        have a2 := catA_ [(false, f.drop m ++ f.take m)] (sl (J.length + 2) 0 0 1 2) (i : Int) X Y (J ++ [⟨[.bool true, .slice a f.length e], 0, true⟩, ⟨[.bool false, v1], 0, true⟩, ⟨[.bool false, v2], 0, true⟩]) (Polys.one (by rw [hget_app]; rfl) (P2.app _)) (sS _ _ hlu)
        rw [covA_back false true f hfl] at a1
        rw [covA_turn false true f m] at a2
        have hb := covA_b [(true, f)] (i : Int) X Y
        generalize covA [(true, f)] (i : Int) X Y = c at *
        simp only [go_sem, Nat.reduceEqDiff, Nat.reduceAdd, Nat.reduceSub, Nat.reduceMul, Nat.reduceLT, Nat.reduceLeDiff, Int.reducePow, Int.reduceBEq, Int.reduceBNe, Int.reduceDiv, Int.reduceMod, Int.reduceEq, Int.reduceLT, Int.reduceLE, Int.reduceAdd, Int.reduceSub, Int.reduceMul, Int.reduceNeg, Int.reduceToNat, Int.reduceTDiv, Int.reduceTMod, ↓reduceIte, t10, t13, t14, t16, t17, t18, dt (show (i : Int) < 2 by omega), h10, kd, kd0]
        refine a0.x ?_
        simp only [go_sem, Nat.reduceEqDiff, Nat.reduceAdd, Nat.reduceSub, Nat.reduceMul, Nat.reduceLT, Nat.reduceLeDiff, Int.reducePow, Int.reduceBEq, Int.reduceBNe, Int.reduceDiv, Int.reduceMod, Int.reduceEq, Int.reduceLT, Int.reduceLE, Int.reduceAdd, Int.reduceSub, Int.reduceMul, Int.reduceNeg, Int.reduceToNat, Int.reduceTDiv, Int.reduceTMod, ↓reduceIte, t10, t13, t14, t16, t17, t18, old_get s1, kd, kd0]
        refine a1.x ?_
        simp only [go_sem, Nat.reduceEqDiff, Nat.reduceAdd, Nat.reduceSub, Nat.reduceMul, Nat.reduceLT, Nat.reduceLeDiff, Int.reducePow, Int.reduceBEq, Int.reduceBNe, Int.reduceDiv, Int.reduceMod, Int.reduceEq, Int.reduceLT, Int.reduceLE, Int.reduceAdd, Int.reduceSub, Int.reduceMul, Int.reduceNeg, Int.reduceToNat, Int.reduceTDiv, Int.reduceTMod, ↓reduceIte, t10, t13, t14, t16, t17, t18, old_get s2, kd, kd0, bne_self_eq_false]
        refine a2.x ?_
        simp only [go_sem, Nat.reduceEqDiff, Nat.reduceAdd, Nat.reduceSub, Nat.reduceMul, Nat.reduceLT, Nat.reduceLeDiff, Int.reducePow, Int.reduceBEq, Int.reduceBNe, Int.reduceDiv, Int.reduceMod, Int.reduceEq, Int.reduceLT, Int.reduceLE, Int.reduceAdd, Int.reduceSub, Int.reduceMul, Int.reduceNeg, Int.reduceToNat, Int.reduceTDiv, Int.reduceTMod, ↓reduceIte, t10, t13, t14, t16, t17, t18, kd, kd0, bne_self_eq_false, df (show ¬ c < 0 by omega), df (show ¬ 16 < c by omega), w1]
        exact ⟨k - 1, by omega, ho.app _, by omega, i + 1, by omega, rfl⟩
      · simp only [go_sem, Nat.reduceEqDiff, Nat.reduceAdd, Nat.reduceSub, Nat.reduceMul, Nat.reduceLT, Nat.reduceLeDiff, Int.reducePow, Int.reduceBEq, Int.reduceBNe, Int.reduceDiv, Int.reduceMod, Int.reduceEq, Int.reduceLT, Int.reduceLE, Int.reduceAdd, Int.reduceSub, Int.reduceMul, Int.reduceNeg, Int.reduceToNat, Int.reduceTDiv, Int.reduceTMod, ↓reduceIte, t10, t13, t14, t16, t17, t18, df (show ¬ (i : Int) < 2 by omega)]
        repeat ((first | refine (cknown_ _).x ?_ | refine drawnF ?_ (by decide +kernel)); simp only [go_sem, Nat.reduceEqDiff, Nat.reduceAdd, Nat.reduceSub, Nat.reduceMul, Nat.reduceLT, Nat.reduceLeDiff, Int.reducePow, Int.reduceBEq, Int.reduceBNe, Int.reduceDiv, Int.reduceMod, Int.reduceEq, Int.reduceLT, Int.reduceLE, Int.reduceAdd, Int.reduceSub, Int.reduceMul, Int.reduceNeg, Int.reduceToNat, Int.reduceTDiv, Int.reduceTMod, ↓reduceIte])
end Go.Proofs.Ythoclopeajkcpaa
