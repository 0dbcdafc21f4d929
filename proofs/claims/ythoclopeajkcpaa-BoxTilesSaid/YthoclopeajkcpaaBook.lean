/- A number brought within two. -/
import Derived.Test.YthoclopeajkcpaaQ5
import Derived.Test.YthoclopeajkcpaaTri
import Derived.Test.YthoclopeajkcpaaES
namespace Go.Proofs.Ythoclopeajkcpaa
open Go Go.RowKit E
attribute [local irreducible] XRun XOps XCode XCal XLoop XQ SemCall
set_option linter.unusedSimpArgs false
set_option linter.unusedVariables false
def wth (n lo hi : Int) : Int := if lo ≤ n ∧ n ≤ hi then n else lo + n % (hi - lo + 1)
theorem wth_b (n : Int) {lo hi : Int} (h : lo ≤ hi) : lo ≤ wth n lo hi ∧ wth n lo hi ≤ hi := by
  unfold wth; split
  · assumption
  · have := Int.emod_nonneg n (show hi - lo + 1 ≠ 0 by omega)
    have := Int.emod_lt_of_pos n (show 0 < hi - lo + 1 by omega)
    omega
theorem within_ (n lo hi : Int) (h : lo ≤ hi) (h1 : -1152921504606846976 ≤ lo) (h2 : hi ≤ 1152921504606846976) (H : AH) : SemCall Try.prog 25 [.int .i64 n, .int .i64 lo, .int .i64 hi] H (.int .i64 (wth n lo hi)) H [] := by
  refine pure_of ?_ rfl
  unfold wth
  by_cases g1 : lo ≤ n
  · by_cases g2 : n ≤ hi
    · rw [if_pos ⟨g1, g2⟩]
      refine XCal.of hm Try.func25 rfl (fun xs w => Try.call25 xs w) Try.ntmps25 Try.results25 rfl ?_
      simp only [go_sem, Nat.reduceEqDiff, Nat.reduceAdd, Nat.reduceSub, Nat.reduceMul, Nat.reduceLT, Nat.reduceLeDiff, Nat.left_eq_add, Nat.add_eq_left, Nat.add_left_cancel_iff, imp_self, implies_true, Int.reducePow, Int.reduceBEq, Int.reduceBNe, Int.reduceDiv, Int.reduceMod, Int.reduceEq, Int.reduceLT, Int.reduceLE, Int.reduceAdd, Int.reduceSub, Int.reduceMul, Int.reduceNeg, Int.reduceToNat, Int.reduceTDiv, Int.reduceTMod, decide_true, decide_false, Int.cast_ofNat_Int, Bool.not_true, Bool.not_false, Bool.true_beq, Bool.false_beq, Bool.true_and, Bool.and_true, Bool.false_and, Bool.and_false, Bool.true_or, Bool.or_true, Bool.false_or, Bool.or_false, BEq.rfl, Bool.false_eq_true, List.append_eq, List.append_nil, List.cons_append, List.nil_append, List.set_cons_zero, List.set_cons_succ, List.getElem?_cons_zero, List.getElem?_cons_succ, ↓reduceIte, g1, g2]
    · rw [if_neg (fun h => g2 h.2)]
      have w0 : IntKind.i64.wrap (hi - lo) = hi - lo := wi (by omega) (by omega)
      have w1 : IntKind.i64.wrap (hi - lo + 1) = hi - lo + 1 := wi (by omega) (by omega)
      have hq := tmod_emod n (n := hi - lo + 1) (by omega)
      have hb := tm_b n (n := hi - lo + 1) (by omega)
      have e0 := Int.emod_nonneg n (show hi - lo + 1 ≠ 0 by omega)
      have e1 := Int.emod_lt_of_pos n (show 0 < hi - lo + 1 by omega)
      have n0 : ¬ hi - lo + 1 = 0 := by omega
      by_cases k : n.tmod (hi - lo + 1) < 0
      · have e : IntKind.i64.wrap (lo + IntKind.i64.wrap (IntKind.i64.wrap (IntKind.i64.wrap (n.tmod (hi - lo + 1) + hi) - lo) + 1)) = lo + n % (hi - lo + 1) := by
          generalize hd : hi - lo + 1 = d at *
          rw [wi (n := n.tmod d + hi) (by omega) (by omega), wi (n := n.tmod d + hi - lo) (by omega) (by omega), wi (n := n.tmod d + hi - lo + 1) (by omega) (by omega), wi (by split at hq <;> (try split at hq) <;> omega) (by split at hq <;> (try split at hq) <;> omega)]
          split at hq <;> (try split at hq) <;> omega
        refine XCal.of hm Try.func25 rfl (fun xs w => Try.call25 xs w) Try.ntmps25 Try.results25 rfl ?_
        simp only [go_sem, Nat.reduceEqDiff, Nat.reduceAdd, Nat.reduceSub, Nat.reduceMul, Nat.reduceLT, Nat.reduceLeDiff, Nat.left_eq_add, Nat.add_eq_left, Nat.add_left_cancel_iff, imp_self, implies_true, Int.reducePow, Int.reduceBEq, Int.reduceBNe, Int.reduceDiv, Int.reduceMod, Int.reduceEq, Int.reduceLT, Int.reduceLE, Int.reduceAdd, Int.reduceSub, Int.reduceMul, Int.reduceNeg, Int.reduceToNat, Int.reduceTDiv, Int.reduceTMod, decide_true, decide_false, Int.cast_ofNat_Int, Bool.not_true, Bool.not_false, Bool.true_beq, Bool.false_beq, Bool.true_and, Bool.and_true, Bool.false_and, Bool.and_false, Bool.true_or, Bool.or_true, Bool.false_or, Bool.or_false, BEq.rfl, Bool.false_eq_true, List.append_eq, List.append_nil, List.cons_append, List.nil_append, List.set_cons_zero, List.set_cons_succ, List.getElem?_cons_zero, List.getElem?_cons_succ, ↓reduceIte, g1, g2, w0, w1, n0, k, e]
      · have e : IntKind.i64.wrap (lo + n.tmod (hi - lo + 1)) = lo + n % (hi - lo + 1) := by
          generalize hd : hi - lo + 1 = d at *
          rw [wi (by omega) (by omega)]
          split at hq <;> (try split at hq) <;> omega
        refine XCal.of hm Try.func25 rfl (fun xs w => Try.call25 xs w) Try.ntmps25 Try.results25 rfl ?_
        simp only [go_sem, Nat.reduceEqDiff, Nat.reduceAdd, Nat.reduceSub, Nat.reduceMul, Nat.reduceLT, Nat.reduceLeDiff, Nat.left_eq_add, Nat.add_eq_left, Nat.add_left_cancel_iff, imp_self, implies_true, Int.reducePow, Int.reduceBEq, Int.reduceBNe, Int.reduceDiv, Int.reduceMod, Int.reduceEq, Int.reduceLT, Int.reduceLE, Int.reduceAdd, Int.reduceSub, Int.reduceMul, Int.reduceNeg, Int.reduceToNat, Int.reduceTDiv, Int.reduceTMod, decide_true, decide_false, Int.cast_ofNat_Int, Bool.not_true, Bool.not_false, Bool.true_beq, Bool.false_beq, Bool.true_and, Bool.and_true, Bool.false_and, Bool.and_false, Bool.true_or, Bool.or_true, Bool.false_or, Bool.or_false, BEq.rfl, Bool.false_eq_true, List.append_eq, List.append_nil, List.cons_append, List.nil_append, List.set_cons_zero, List.set_cons_succ, List.getElem?_cons_zero, List.getElem?_cons_succ, ↓reduceIte, g1, g2, w0, w1, n0, k, e]
  · rw [if_neg (fun h => g1 h.1)]
    have w0 : IntKind.i64.wrap (hi - lo) = hi - lo := wi (by omega) (by omega)
    have w1 : IntKind.i64.wrap (hi - lo + 1) = hi - lo + 1 := wi (by omega) (by omega)
    have hq := tmod_emod n (n := hi - lo + 1) (by omega)
    have hb := tm_b n (n := hi - lo + 1) (by omega)
    have e0 := Int.emod_nonneg n (show hi - lo + 1 ≠ 0 by omega)
    have e1 := Int.emod_lt_of_pos n (show 0 < hi - lo + 1 by omega)
    have n0 : ¬ hi - lo + 1 = 0 := by omega
    by_cases k : n.tmod (hi - lo + 1) < 0
    · have e : IntKind.i64.wrap (lo + IntKind.i64.wrap (IntKind.i64.wrap (IntKind.i64.wrap (n.tmod (hi - lo + 1) + hi) - lo) + 1)) = lo + n % (hi - lo + 1) := by
        generalize hd : hi - lo + 1 = d at *
        rw [wi (n := n.tmod d + hi) (by omega) (by omega), wi (n := n.tmod d + hi - lo) (by omega) (by omega), wi (n := n.tmod d + hi - lo + 1) (by omega) (by omega), wi (by split at hq <;> (try split at hq) <;> omega) (by split at hq <;> (try split at hq) <;> omega)]
        split at hq <;> (try split at hq) <;> omega
      refine XCal.of hm Try.func25 rfl (fun xs w => Try.call25 xs w) Try.ntmps25 Try.results25 rfl ?_
      simp only [go_sem, Nat.reduceEqDiff, Nat.reduceAdd, Nat.reduceSub, Nat.reduceMul, Nat.reduceLT, Nat.reduceLeDiff, Nat.left_eq_add, Nat.add_eq_left, Nat.add_left_cancel_iff, imp_self, implies_true, Int.reducePow, Int.reduceBEq, Int.reduceBNe, Int.reduceDiv, Int.reduceMod, Int.reduceEq, Int.reduceLT, Int.reduceLE, Int.reduceAdd, Int.reduceSub, Int.reduceMul, Int.reduceNeg, Int.reduceToNat, Int.reduceTDiv, Int.reduceTMod, decide_true, decide_false, Int.cast_ofNat_Int, Bool.not_true, Bool.not_false, Bool.true_beq, Bool.false_beq, Bool.true_and, Bool.and_true, Bool.false_and, Bool.and_false, Bool.true_or, Bool.or_true, Bool.false_or, Bool.or_false, BEq.rfl, Bool.false_eq_true, List.append_eq, List.append_nil, List.cons_append, List.nil_append, List.set_cons_zero, List.set_cons_succ, List.getElem?_cons_zero, List.getElem?_cons_succ, ↓reduceIte, g1, w0, w1, n0, k, e]
    · have e : IntKind.i64.wrap (lo + n.tmod (hi - lo + 1)) = lo + n % (hi - lo + 1) := by
        generalize hd : hi - lo + 1 = d at *
        rw [wi (by omega) (by omega)]
        split at hq <;> (try split at hq) <;> omega
      refine XCal.of hm Try.func25 rfl (fun xs w => Try.call25 xs w) Try.ntmps25 Try.results25 rfl ?_
      simp only [go_sem, Nat.reduceEqDiff, Nat.reduceAdd, Nat.reduceSub, Nat.reduceMul, Nat.reduceLT, Nat.reduceLeDiff, Nat.left_eq_add, Nat.add_eq_left, Nat.add_left_cancel_iff, imp_self, implies_true, Int.reducePow, Int.reduceBEq, Int.reduceBNe, Int.reduceDiv, Int.reduceMod, Int.reduceEq, Int.reduceLT, Int.reduceLE, Int.reduceAdd, Int.reduceSub, Int.reduceMul, Int.reduceNeg, Int.reduceToNat, Int.reduceTDiv, Int.reduceTMod, decide_true, decide_false, Int.cast_ofNat_Int, Bool.not_true, Bool.not_false, Bool.true_beq, Bool.false_beq, Bool.true_and, Bool.and_true, Bool.false_and, Bool.and_false, Bool.true_or, Bool.or_true, Bool.false_or, Bool.or_false, BEq.rfl, Bool.false_eq_true, List.append_eq, List.append_nil, List.cons_append, List.nil_append, List.set_cons_zero, List.set_cons_succ, List.getElem?_cons_zero, List.getElem?_cons_succ, ↓reduceIte, g1, w0, w1, n0, k, e]
end Go.Proofs.Ythoclopeajkcpaa
