/- Merged texts: Tri Mat Book Tape Flat1 Path Flat2 Flat3 Flat4. -/
import Derived.Test.YthoclopeajkcpaaZ4
/- Chapter 2: the walks of angles. -/
namespace Go.Proofs.Ythoclopeajkcpaa
open Go Go.RowKit E
attribute [local irreducible] XRun XOps XCode XCal XLoop XQ SemCall
set_option linter.unusedSimpArgs false
set_option linter.unusedVariables false
theorem tmod_emod (a : Int) {n : Int} (hn : 0 < n) : a.tmod n = if 0 ≤ a then a % n else (if a % n = 0 then 0 else a % n - n) := by
  rcases Int.lt_or_le a 0 with h | h
  · have f := tdiv_np (a := -a) (b := n) (by omega) hn
    rw [Int.neg_neg] at f
    have g := (negdiv (-a) n hn).2
    rw [Int.neg_neg] at g
    have := Int.emod_nonneg (-a) (show n ≠ 0 by omega)
    have := Int.emod_lt_of_pos (-a) hn
    rw [f.2.1, if_neg (by omega), g]
    split
    · rw [if_pos rfl]; omega
    · rw [if_neg (by omega)]; omega
  · rw [if_pos h]; exact Int.tmod_eq_emod_of_nonneg h
/-- A half round's sine. -/
def core (x : Int) : Int := 4 * (x * (11796480 - x) / 65536) * 65536 / (2654208000 - x * (11796480 - x) / 65536)
def sn (a : Int) : Int := if a % 23592960 ≥ 11796480 then -(core (a % 23592960 - 11796480)) else core (a % 23592960)
def cs (a : Int) : Int := sn (a % 23592960 + 5898240)
theorem core_p {x : Int} (h : 0 ≤ x ∧ x < 11796480) : 0 ≤ x * (11796480 - x) ∧ x * (11796480 - x) ≤ 34789235097600 := by
  have p := Int.mul_nonneg h.1 (show 0 ≤ 11796480 - x by omega)
  have q := sq_nn (x - 5898240)
  have e : (x - 5898240) * (x - 5898240) = 34789235097600 - x * (11796480 - x) := by
    have e1 : (x - 5898240) * (x - 5898240) = x * x - x * 5898240 - (5898240 * x - 5898240 * 5898240) := by rw [Int.sub_mul, Int.mul_sub, Int.mul_sub]
    have e2 : x * (11796480 - x) = x * 11796480 - x * x := by rw [Int.mul_sub]
    omega
  omega
theorem core_b {x : Int} (h : 0 ≤ x ∧ x < 11796480) : 0 ≤ core x ∧ core x ≤ 65536 := by
  have p := core_p h
  unfold core
  generalize x * (11796480 - x) = m at *
  refine ⟨Int.ediv_nonneg (by omega) (by omega), ?_⟩
  have : 4 * (m / 65536) * 65536 / (2654208000 - m / 65536) < 65537 := by rw [Int.ediv_lt_iff_lt_mul (by omega)]; omega
  omega
theorem sn_b (a : Int) : -65536 ≤ sn a ∧ sn a ≤ 65536 := by
  unfold sn
  split
  · have := core_b (x := a % 23592960 - 11796480) (by omega); omega
  · have := core_b (x := a % 23592960) (by omega); omega
theorem cs_b (a : Int) : -65536 ≤ cs a ∧ cs a ≤ 65536 := sn_b _
theorem turn_w (a : Int) : (if a.tmod 23592960 < 0 then IntKind.i64.wrap (a.tmod 23592960 + 23592960) else a.tmod 23592960) = a % 23592960 := by
  have h := tmod_emod a (n := 23592960) (by omega)
  have hb := tm_b a (n := 23592960) (by omega)
  split
  · rw [wi (by omega) (by omega), h]; split <;> (try split) <;> omega
  · rw [h]; split <;> (try split) <;> omega
theorem core_w {x : Int} (h : 0 ≤ x ∧ x < 11796480) : IntKind.i64.wrap (11796480 - x) = 11796480 - x ∧ IntKind.i64.wrap (x * (11796480 - x)) = x * (11796480 - x) ∧ IntKind.i64.wrap ((x * (11796480 - x)).tdiv 65536) = x * (11796480 - x) / 65536 ∧
    IntKind.i64.wrap (4 * (x * (11796480 - x) / 65536)) = 4 * (x * (11796480 - x) / 65536) ∧ IntKind.i64.wrap (4 * (x * (11796480 - x) / 65536) * 65536) = 4 * (x * (11796480 - x) / 65536) * 65536 ∧
    IntKind.i64.wrap (2654208000 - x * (11796480 - x) / 65536) = 2654208000 - x * (11796480 - x) / 65536 ∧ ¬ 2654208000 - x * (11796480 - x) / 65536 = 0 ∧
    IntKind.i64.wrap ((4 * (x * (11796480 - x) / 65536) * 65536).tdiv (2654208000 - x * (11796480 - x) / 65536)) = core x := by
  have p := core_p h
  have b := core_b h
  unfold core at b ⊢
  generalize x * (11796480 - x) = m at *
  refine ⟨wi (by omega) (by omega), wi (by omega) (by omega), ?_, wi (by omega) (by omega), wi (by omega) (by omega), wi (by omega) (by omega), by omega, ?_⟩
  · rw [Int.tdiv_eq_ediv_of_nonneg p.1]; exact wi (by omega) (by omega)
  · rw [Int.tdiv_eq_ediv_of_nonneg (by omega)]; exact wi (by omega) (by omega)
end Go.Proofs.Ythoclopeajkcpaa
/- Chapter 3: the walks of maps. -/
namespace Go.Proofs.Ythoclopeajkcpaa
open Go Go.RowKit E
attribute [local irreducible] XRun XOps XCode XCal XLoop XQ SemCall
set_option linter.unusedSimpArgs false
set_option linter.unusedVariables false
abbrev pt (x y : Int) : Value := .agg [.int .i64 x, .int .i64 y].toArray
abbrev mt (a b c d e f : Int) : Value := .agg [.int .i64 a, .int .i64 b, .int .i64 c, .int .i64 d, .int .i64 e, .int .i64 f].toArray
def two (a b c d : Int) : Int := qadd (qmul a b) (qmul c d)
theorem two_b (a b c d : Int) : -1099511627776 ≤ two a b c d ∧ two a b c d ≤ 1099511627776 := hold_b _
def ap1 (a c e x y : Int) : Int := place (qadd (two a x c y) e)
theorem two_ (a b c d : Int) (H : AH) : SemCall Try.prog 95 [.int .i64 a, .int .i64 b, .int .i64 c, .int .i64 d] H (.int .i64 (two a b c d)) H [] := by
  refine pure_of ?_ rfl
  refine XCal.of hm Try.func95 rfl (fun xs w => Try.call95 xs w) Try.ntmps95 Try.results95 rfl ?_
  simp only [go_sem, Nat.reduceEqDiff, Nat.reduceAdd, Nat.reduceSub, Nat.reduceMul, Nat.reduceLT, Nat.reduceLeDiff, Int.reducePow, Int.reduceBEq, Int.reduceBNe, Int.reduceDiv, Int.reduceMod, Int.reduceEq, Int.reduceLT, Int.reduceLE, Int.reduceAdd, Int.reduceSub, Int.reduceMul, Int.reduceNeg, Int.reduceToNat, Int.reduceTDiv, Int.reduceTMod, ↓reduceIte]
  repeat ((first | refine (mul_ _ _ _).x ?_ | refine (add_ _ _ _).x ?_ | refine drawnF ?_ (by decide +kernel)); simp only [go_sem, Nat.reduceEqDiff, Nat.reduceAdd, Nat.reduceSub, Nat.reduceMul, Nat.reduceLT, Nat.reduceLeDiff, Int.reducePow, Int.reduceBEq, Int.reduceBNe, Int.reduceDiv, Int.reduceMod, Int.reduceEq, Int.reduceLT, Int.reduceLE, Int.reduceAdd, Int.reduceSub, Int.reduceMul, Int.reduceNeg, Int.reduceToNat, Int.reduceTDiv, Int.reduceTMod, ↓reduceIte, two])
theorem rtwo_ (a b c d e : Int) (H : AH) : SemCall Try.prog 106 [.int .i64 a, .int .i64 b, .int .i64 c, .int .i64 d, .int .i64 e] H (.int .i64 (qadd (two a b c d) e)) H [] := by
  refine pure_of ?_ rfl
  refine XCal.of hm Try.func106 rfl (fun xs w => Try.call106 xs w) Try.ntmps106 Try.results106 rfl ?_
  simp only [go_sem, Nat.reduceEqDiff, Nat.reduceAdd, Nat.reduceSub, Nat.reduceMul, Nat.reduceLT, Nat.reduceLeDiff, Int.reducePow, Int.reduceBEq, Int.reduceBNe, Int.reduceDiv, Int.reduceMod, Int.reduceEq, Int.reduceLT, Int.reduceLE, Int.reduceAdd, Int.reduceSub, Int.reduceMul, Int.reduceNeg, Int.reduceToNat, Int.reduceTDiv, Int.reduceTMod, ↓reduceIte]
  repeat ((first | refine (rmul_ _ _ _).x ?_ | refine (radd_ _ _ _).x ?_ | refine drawnF ?_ (by decide +kernel)); simp only [go_sem, Nat.reduceEqDiff, Nat.reduceAdd, Nat.reduceSub, Nat.reduceMul, Nat.reduceLT, Nat.reduceLeDiff, Int.reducePow, Int.reduceBEq, Int.reduceBNe, Int.reduceDiv, Int.reduceMod, Int.reduceEq, Int.reduceLT, Int.reduceLE, Int.reduceAdd, Int.reduceSub, Int.reduceMul, Int.reduceNeg, Int.reduceToNat, Int.reduceTDiv, Int.reduceTMod, ↓reduceIte, two])
theorem apply_ (a b c d e f x y : Int) (H : AH) : SemCall Try.prog 79 [mt a b c d e f, pt x y] H (pt (ap1 a c e x y) (ap1 b d f x y)) H [] := by
  refine pure_of ?_ rfl
  refine XCal.of hm Try.func79 rfl (fun xs w => Try.call79 xs w) Try.ntmps79 Try.results79 rfl ?_
  simp only [go_sem, Nat.reduceEqDiff, Nat.reduceAdd, Nat.reduceSub, Nat.reduceMul, Nat.reduceLT, Nat.reduceLeDiff, Int.reducePow, Int.reduceBEq, Int.reduceBNe, Int.reduceDiv, Int.reduceMod, Int.reduceEq, Int.reduceLT, Int.reduceLE, Int.reduceAdd, Int.reduceSub, Int.reduceMul, Int.reduceNeg, Int.reduceToNat, Int.reduceTDiv, Int.reduceTMod, ↓reduceIte, mt, pt]
  repeat ((first | refine (two_ _ _ _ _ _).x ?_ | refine (add_ _ _ _).x ?_ | refine (place_ _ _).x ?_ | refine drawnF ?_ (by decide +kernel) | refine drawnU [(8, 9), (8, 10), (8, 13), (11, 13), (12, 13), (8, 14), (11, 14), (12, 14), (8, 15), (11, 15), (12, 15), (8, 16), (11, 16), (12, 16), (8, 17), (11, 17), (12, 17), (8, 18), (11, 18), (12, 18), (8, 19), (11, 19), (12, 19), (8, 20), (11, 20), (12, 20), (8, 22), (11, 22), (12, 22), (21, 22), (8, 23), (11, 23), (12, 23), (21, 23)] (by decide +kernel) ?_); simp only [go_sem, Nat.reduceEqDiff, Nat.reduceAdd, Nat.reduceSub, Nat.reduceMul, Nat.reduceLT, Nat.reduceLeDiff, Int.reducePow, Int.reduceBEq, Int.reduceBNe, Int.reduceDiv, Int.reduceMod, Int.reduceEq, Int.reduceLT, Int.reduceLE, Int.reduceAdd, Int.reduceSub, Int.reduceMul, Int.reduceNeg, Int.reduceToNat, Int.reduceTDiv, Int.reduceTMod, ↓reduceIte, ap1])
theorem rapply_ (a b c d e f x y : Int) (H : AH) : SemCall Try.prog 96 [mt a b c d e f, pt x y] H (pt (ap1 a c e x y) (ap1 b d f x y)) H [] := by
  refine pure_of ?_ rfl
  refine XCal.of hm Try.func96 rfl (fun xs w => Try.call96 xs w) Try.ntmps96 Try.results96 rfl ?_
  simp only [go_sem, Nat.reduceEqDiff, Nat.reduceAdd, Nat.reduceSub, Nat.reduceMul, Nat.reduceLT, Nat.reduceLeDiff, Int.reducePow, Int.reduceBEq, Int.reduceBNe, Int.reduceDiv, Int.reduceMod, Int.reduceEq, Int.reduceLT, Int.reduceLE, Int.reduceAdd, Int.reduceSub, Int.reduceMul, Int.reduceNeg, Int.reduceToNat, Int.reduceTDiv, Int.reduceTMod, ↓reduceIte, mt, pt]
  repeat ((first | refine (rtwo_ _ _ _ _ _ _).x ?_ | refine (rplace_ _ _).x ?_ | refine drawnF ?_ (by decide +kernel) | refine drawnU [(10, 12), (11, 12), (10, 13), (11, 13), (10, 14), (11, 14), (10, 15), (11, 15), (10, 16), (11, 16), (10, 17), (11, 17), (10, 18), (11, 18), (10, 19), (11, 19), (10, 20), (11, 20), (10, 21), (11, 21)] (by decide +kernel) ?_); simp only [go_sem, Nat.reduceEqDiff, Nat.reduceAdd, Nat.reduceSub, Nat.reduceMul, Nat.reduceLT, Nat.reduceLeDiff, Int.reducePow, Int.reduceBEq, Int.reduceBNe, Int.reduceDiv, Int.reduceMod, Int.reduceEq, Int.reduceLT, Int.reduceLE, Int.reduceAdd, Int.reduceSub, Int.reduceMul, Int.reduceNeg, Int.reduceToNat, Int.reduceTDiv, Int.reduceTMod, ↓reduceIte, ap1])
theorem two_zero (a b c d : Int) : qadd (two a b c d) 0 = two a b c d := by rw [qadd_zero]; unfold two qadd; rw [hold_hold]
theorem sn_neg_w (a : Int) : IntKind.i64.wrap (0 - sn a) = -(sn a) := by have := sn_b a; rw [wi (by omega) (by omega)]; omega
theorem two_neg_w (a b c d : Int) : IntKind.i64.wrap (0 - two a b c d) = -(two a b c d) := by have := two_b a b c d; rw [wi (by omega) (by omega)]; omega
def mdE (x a b c d : Int) : Int := qadd x (-(two a b c d))
theorem mk1 : qmul (cs 0) 131072 = 131072 ∧ qmul (sn 0) 131072 = 0 ∧ qmul (-(sn 0)) 65536 = 0 ∧ qmul (cs 0) 65536 = 65536 ∧ mdE 327680 131072 0 0 0 = 327680 ∧ mdE 0 0 0 65536 0 = 0 := by decide +kernel
theorem mk2 : ap1 65536 0 0 3 (-4) = 3 ∧ ap1 0 65536 0 3 (-4) = -4 ∧ ap1 131072 0 327680 65536 0 = 458752 ∧ ap1 0 65536 0 65536 0 = 0 ∧ hyp 65536 0 = 65536 := by decide +kernel
theorem mk3 : two 65536 131072 0 0 = 131072 ∧ two 0 131072 65536 0 = 0 ∧ two 65536 0 0 65536 = 0 ∧ two 0 0 65536 65536 = 65536 ∧ qadd (two 65536 327680 0 0) 0 = 327680 ∧ qadd (two 0 327680 65536 0) 0 = 0 := by decide +kernel
end Go.Proofs.Ythoclopeajkcpaa
/- A number brought within two. -/
namespace Go.Proofs.Ythoclopeajkcpaa
open Go Go.RowKit E
attribute [local irreducible] XRun XOps XCode XCal XLoop XQ SemCall
set_option linter.unusedSimpArgs false
set_option linter.unusedVariables false
def wth (n lo hi : Int) : Int := if lo ≤ n ∧ n ≤ hi then n else lo + n % (hi - lo + 1)
theorem wth_b (n : Int) {lo hi : Int} (h : lo ≤ hi) : lo ≤ wth n lo hi ∧ wth n lo hi ≤ hi := by
  unfold wth; split
  · assumption
  · have := Int.emod_nonneg n (show hi - lo + 1 ≠ 0 by omega)
    have := Int.emod_lt_of_pos n (show 0 < hi - lo + 1 by omega)
    omega
theorem within_ (n lo hi : Int) (h : lo ≤ hi) (h1 : -1152921504606846976 ≤ lo) (h2 : hi ≤ 1152921504606846976) (H : AH) : SemCall Try.prog 25 [.int .i64 n, .int .i64 lo, .int .i64 hi] H (.int .i64 (wth n lo hi)) H [] := by
  refine pure_of ?_ rfl
  unfold wth
  by_cases g1 : lo ≤ n
  · by_cases g2 : n ≤ hi
    · rw [if_pos ⟨g1, g2⟩]
      refine XCal.of hm Try.func25 rfl (fun xs w => Try.call25 xs w) Try.ntmps25 Try.results25 rfl ?_
      simp only [go_sem, Nat.reduceEqDiff, Nat.reduceAdd, Nat.reduceSub, Nat.reduceMul, Nat.reduceLT, Nat.reduceLeDiff, Int.reducePow, Int.reduceBEq, Int.reduceBNe, Int.reduceDiv, Int.reduceMod, Int.reduceEq, Int.reduceLT, Int.reduceLE, Int.reduceAdd, Int.reduceSub, Int.reduceMul, Int.reduceNeg, Int.reduceToNat, Int.reduceTDiv, Int.reduceTMod, ↓reduceIte, g1, g2]
    · rw [if_neg (fun h => g2 h.2)]
      have w0 : IntKind.i64.wrap (hi - lo) = hi - lo := wi (by omega) (by omega)
      have w1 : IntKind.i64.wrap (hi - lo + 1) = hi - lo + 1 := wi (by omega) (by omega)
      have hq := tmod_emod n (n := hi - lo + 1) (by omega)
      have hb := tm_b n (n := hi - lo + 1) (by omega)
      have e0 := Int.emod_nonneg n (show hi - lo + 1 ≠ 0 by omega)
      have e1 := Int.emod_lt_of_pos n (show 0 < hi - lo + 1 by omega)
      have n0 : ¬ hi - lo + 1 = 0 := by omega
      by_cases k : n.tmod (hi - lo + 1) < 0
      · have e : IntKind.i64.wrap (lo + IntKind.i64.wrap (IntKind.i64.wrap (IntKind.i64.wrap (n.tmod (hi - lo + 1) + hi) - lo) + 1)) = lo + n % (hi - lo + 1) := by
          generalize hd : hi - lo + 1 = d at *
          rw [wi (n := n.tmod d + hi) (by omega) (by omega), wi (n := n.tmod d + hi - lo) (by omega) (by omega), wi (n := n.tmod d + hi - lo + 1) (by omega) (by omega), wi (by split at hq <;> (try split at hq) <;> omega) (by split at hq <;> (try split at hq) <;> omega)]
          split at hq <;> (try split at hq) <;> omega
        refine XCal.of hm Try.func25 rfl (fun xs w => Try.call25 xs w) Try.ntmps25 Try.results25 rfl ?_
        simp only [go_sem, Nat.reduceEqDiff, Nat.reduceAdd, Nat.reduceSub, Nat.reduceMul, Nat.reduceLT, Nat.reduceLeDiff, Int.reducePow, Int.reduceBEq, Int.reduceBNe, Int.reduceDiv, Int.reduceMod, Int.reduceEq, Int.reduceLT, Int.reduceLE, Int.reduceAdd, Int.reduceSub, Int.reduceMul, Int.reduceNeg, Int.reduceToNat, Int.reduceTDiv, Int.reduceTMod, ↓reduceIte, g1, g2, w0, w1, n0, k, e]
      · have e : IntKind.i64.wrap (lo + n.tmod (hi - lo + 1)) = lo + n % (hi - lo + 1) := by
          generalize hd : hi - lo + 1 = d at *
          rw [wi (by omega) (by omega)]
          split at hq <;> (try split at hq) <;> omega
        refine XCal.of hm Try.func25 rfl (fun xs w => Try.call25 xs w) Try.ntmps25 Try.results25 rfl ?_
        simp only [go_sem, Nat.reduceEqDiff, Nat.reduceAdd, Nat.reduceSub, Nat.reduceMul, Nat.reduceLT, Nat.reduceLeDiff, Int.reducePow, Int.reduceBEq, Int.reduceBNe, Int.reduceDiv, Int.reduceMod, Int.reduceEq, Int.reduceLT, Int.reduceLE, Int.reduceAdd, Int.reduceSub, Int.reduceMul, Int.reduceNeg, Int.reduceToNat, Int.reduceTDiv, Int.reduceTMod, ↓reduceIte, g1, g2, w0, w1, n0, k, e]
  · rw [if_neg (fun h => g1 h.1)]
    have w0 : IntKind.i64.wrap (hi - lo) = hi - lo := wi (by omega) (by omega)
    have w1 : IntKind.i64.wrap (hi - lo + 1) = hi - lo + 1 := wi (by omega) (by omega)
    have hq := tmod_emod n (n := hi - lo + 1) (by omega)
    have hb := tm_b n (n := hi - lo + 1) (by omega)
    have e0 := Int.emod_nonneg n (show hi - lo + 1 ≠ 0 by omega)
    have e1 := Int.emod_lt_of_pos n (show 0 < hi - lo + 1 by omega)
    have n0 : ¬ hi - lo + 1 = 0 := by omega
    by_cases k : n.tmod (hi - lo + 1) < 0
    · have e : IntKind.i64.wrap (lo + IntKind.i64.wrap (IntKind.i64.wrap (IntKind.i64.wrap (n.tmod (hi - lo + 1) + hi) - lo) + 1)) = lo + n % (hi - lo + 1) := by
        generalize hd : hi - lo + 1 = d at *
        rw [wi (n := n.tmod d + hi) (by omega) (by omega), wi (n := n.tmod d + hi - lo) (by omega) (by omega), wi (n := n.tmod d + hi - lo + 1) (by omega) (by omega), wi (by split at hq <;> (try split at hq) <;> omega) (by split at hq <;> (try split at hq) <;> omega)]
        split at hq <;> (try split at hq) <;> omega
      refine XCal.of hm Try.func25 rfl (fun xs w => Try.call25 xs w) Try.ntmps25 Try.results25 rfl ?_
      simp only [go_sem, Nat.reduceEqDiff, Nat.reduceAdd, Nat.reduceSub, Nat.reduceMul, Nat.reduceLT, Nat.reduceLeDiff, Int.reducePow, Int.reduceBEq, Int.reduceBNe, Int.reduceDiv, Int.reduceMod, Int.reduceEq, Int.reduceLT, Int.reduceLE, Int.reduceAdd, Int.reduceSub, Int.reduceMul, Int.reduceNeg, Int.reduceToNat, Int.reduceTDiv, Int.reduceTMod, ↓reduceIte, g1, w0, w1, n0, k, e]
    · have e : IntKind.i64.wrap (lo + n.tmod (hi - lo + 1)) = lo + n % (hi - lo + 1) := by
        generalize hd : hi - lo + 1 = d at *
        rw [wi (by omega) (by omega)]
        split at hq <;> (try split at hq) <;> omega
      refine XCal.of hm Try.func25 rfl (fun xs w => Try.call25 xs w) Try.ntmps25 Try.results25 rfl ?_
      simp only [go_sem, Nat.reduceEqDiff, Nat.reduceAdd, Nat.reduceSub, Nat.reduceMul, Nat.reduceLT, Nat.reduceLeDiff, Int.reducePow, Int.reduceBEq, Int.reduceBNe, Int.reduceDiv, Int.reduceMod, Int.reduceEq, Int.reduceLT, Int.reduceLE, Int.reduceAdd, Int.reduceSub, Int.reduceMul, Int.reduceNeg, Int.reduceToNat, Int.reduceTDiv, Int.reduceTMod, ↓reduceIte, g1, w0, w1, n0, k, e]
end Go.Proofs.Ythoclopeajkcpaa
/- Tapes: the walks of what reads numbers off a tape. -/
namespace Go.Proofs.Ythoclopeajkcpaa
open Go Go.RowKit E
attribute [local irreducible] XRun XOps XCode XCal XLoop XQ SemCall
set_option linter.unusedSimpArgs false
set_option linter.unusedVariables false
abbrev tblk (lv : Value) (g : Nat) (a : Int) : Blk := ⟨[lv, .int .i64 a], g, true⟩
theorem tape_ren {H : AH} {tb : Nat} {lv : Value} {ls : List Int} (h : Ints H tb lv ls) (K : List (Nat × Nat)) (g : Nat) (a : Int) : renL H.length K (tblk lv g a).cells = some (tblk lv g a).cells := by
  show renL H.length K [lv, .int .i64 a] = _
  simp only [renL, h.ren K]; rfl
theorem next_ (n : Int) (hn : 0 < n ∧ n ≤ 1152921504606846976) (H : AH) {tb g : Nat} {lv : Value} {ls : List Int} (h : TapeAt H tb g lv ls) :
    Cal Try.prog 18 [ap tb 0 g, .int .i64 n] H fun v H' W' => ∃ r : Int × Int, (0 ≤ r.1 ∧ r.1 < n ∧ 0 ≤ r.2 ∧ r.2 ≤ ls.length) ∧ v = .int .i64 r.1 ∧ H' = H.set tb (tblk lv g r.2) ∧ W' = [tb] := by
  obtain ⟨hi, at_, h0, h1, hb⟩ := h
  have hlen := hi.len
  by_cases hat : at_ < ls.length
  · obtain ⟨b, g', rest, rw_, rfl, hne, hbb, _⟩ := hi.ne (fun e => by rw [e] at hat; simp at hat; omega)
    obtain ⟨a, rfl⟩ := Int.eq_ofNat_of_zero_le h0
    have ha : a < ls.length := by omega
    have hel : (intC ls ++ rest)[a]? = some (.int .i64 ls[a]) := by rw [List.getElem?_append_left (by simp [intC]; omega)]; exact intC_get ha
    refine none_of _ _ tb _ (List.getElem?_eq_some_iff.1 hb).1 ?_ (fun r _ => rfl) (fun r _ => tape_ren hi _ _ _)
    have hbb2 : ∀ x L, (H.set tb x ++ L)[b]? = some ⟨intC ls ++ rest, g', rw_⟩ := fun x L => by
      have := (List.getElem?_eq_some_iff.1 hbb).1
      rw [List.getElem?_append_left (by simpa using this), List.getElem?_set_ne (fun e => hne e.symm)]; exact hbb
    have hbb3 : ∀ x, (H.set tb x)[b]? = some ⟨intC ls ++ rest, g', rw_⟩ := fun x => by simpa using hbb2 x []
    have htb3 : ∀ x, (H.set tb x)[tb]? = some x := fun x => List.getElem?_set_self (List.getElem?_eq_some_iff.1 hb).1
    have w1 : IntKind.i64.wrap ((a : Int) + 1) = ((a + 1 : Nat) : Int) := by rw [wi (by omega) (by omega)]; rfl
    have w2 : IntKind.i64.wrap (((a + 1 : Nat) : Int) - 1) = (a : Int) := by rw [wi (by omega) (by omega)]; omega
    have n0 : ¬ n = 0 := by omega
    have hw := wth_b ls[a] (lo := 0) (hi := 1073741824) (by omega)
    have hq := tdiv_pp (a := wth ls[a] 0 1073741824) (b := n) hw.1 hn.1
    refine XCal.of hm Try.func18 rfl (fun xs w => Try.call18 xs w) Try.ntmps18 Try.results18 rfl ?_
    simp only [go_sem, Nat.reduceEqDiff, Nat.reduceAdd, Nat.reduceSub, Nat.reduceMul, Nat.reduceLT, Nat.reduceLeDiff, Int.reducePow, Int.reduceBEq, Int.reduceBNe, Int.reduceDiv, Int.reduceMod, Int.reduceEq, Int.reduceLT, Int.reduceLE, Int.reduceAdd, Int.reduceSub, Int.reduceMul, Int.reduceNeg, Int.reduceToNat, Int.reduceTDiv, Int.reduceTMod, ↓reduceIte]
    refine drawnF ?_ (by decide +kernel)
    simp only [go_sem, Nat.reduceEqDiff, Nat.reduceAdd, Nat.reduceSub, Nat.reduceMul, Nat.reduceLT, Nat.reduceLeDiff, Int.reducePow, Int.reduceBEq, Int.reduceBNe, Int.reduceDiv, Int.reduceMod, Int.reduceEq, Int.reduceLT, Int.reduceLE, Int.reduceAdd, Int.reduceSub, Int.reduceMul, Int.reduceNeg, Int.reduceToNat, Int.reduceTDiv, Int.reduceTMod, ↓reduceIte, hb, df (show ¬ (ls.length : Int) ≤ (a : Int) by omega)]
    simp only [go_sem, Nat.reduceEqDiff, Nat.reduceAdd, Nat.reduceSub, Nat.reduceMul, Nat.reduceLT, Nat.reduceLeDiff, Int.reducePow, Int.reduceBEq, Int.reduceBNe, Int.reduceDiv, Int.reduceMod, Int.reduceEq, Int.reduceLT, Int.reduceLE, Int.reduceAdd, Int.reduceSub, Int.reduceMul, Int.reduceNeg, Int.reduceToNat, Int.reduceTDiv, Int.reduceTMod, ↓reduceIte, hb, w1, old_lt hb]
    refine drawnF ?_ (by decide +kernel)
    simp only [go_sem, Nat.reduceEqDiff, Nat.reduceAdd, Nat.reduceSub, Nat.reduceMul, Nat.reduceLT, Nat.reduceLeDiff, Int.reducePow, Int.reduceBEq, Int.reduceBNe, Int.reduceDiv, Int.reduceMod, Int.reduceEq, Int.reduceLT, Int.reduceLE, Int.reduceAdd, Int.reduceSub, Int.reduceMul, Int.reduceNeg, Int.reduceToNat, Int.reduceTDiv, Int.reduceTMod, ↓reduceIte, hb, hbb, hbb3, htb3, w1, w2, old_lt hb, show (0 : Int) ≤ (a : Int) by omega, show (a : Int) < (ls.length : Int) by omega, Int.toNat_natCast, Nat.zero_add, Nat.mul_one, hel]
    refine (within_ _ _ _ (by omega) (by omega) (by omega) _).x ?_
    simp only [go_sem, Nat.reduceEqDiff, Nat.reduceAdd, Nat.reduceSub, Nat.reduceMul, Nat.reduceLT, Nat.reduceLeDiff, Int.reducePow, Int.reduceBEq, Int.reduceBNe, Int.reduceDiv, Int.reduceMod, Int.reduceEq, Int.reduceLT, Int.reduceLE, Int.reduceAdd, Int.reduceSub, Int.reduceMul, Int.reduceNeg, Int.reduceToNat, Int.reduceTDiv, Int.reduceTMod, ↓reduceIte, n0, hq.2.1]
    exact ⟨SameW.rfl', (wth ls[a] 0 1073741824 % n, ((a + 1 : Nat) : Int)), ⟨Int.emod_nonneg _ n0, Int.emod_lt_of_pos _ hn.1, by show 0 ≤ ((a + 1 : Nat) : Int); omega, by show ((a + 1 : Nat) : Int) ≤ _; omega⟩, rfl, htb3 _⟩
  · obtain ⟨a, e, rfl⟩ := hi.form
    have s : SemCall Try.prog 18 [ap tb 0 g, .int .i64 n] H (.int .i64 0) H [] := by
      refine pure_of ?_ rfl
      refine XCal.of hm Try.func18 rfl (fun xs w => Try.call18 xs w) Try.ntmps18 Try.results18 rfl ?_
      simp only [go_sem, Nat.reduceEqDiff, Nat.reduceAdd, Nat.reduceSub, Nat.reduceMul, Nat.reduceLT, Nat.reduceLeDiff, Int.reducePow, Int.reduceBEq, Int.reduceBNe, Int.reduceDiv, Int.reduceMod, Int.reduceEq, Int.reduceLT, Int.reduceLE, Int.reduceAdd, Int.reduceSub, Int.reduceMul, Int.reduceNeg, Int.reduceToNat, Int.reduceTDiv, Int.reduceTMod, ↓reduceIte]
      refine drawnF ?_ (by decide +kernel)
      simp only [go_sem, Nat.reduceEqDiff, Nat.reduceAdd, Nat.reduceSub, Nat.reduceMul, Nat.reduceLT, Nat.reduceLeDiff, Int.reducePow, Int.reduceBEq, Int.reduceBNe, Int.reduceDiv, Int.reduceMod, Int.reduceEq, Int.reduceLT, Int.reduceLE, Int.reduceAdd, Int.reduceSub, Int.reduceMul, Int.reduceNeg, Int.reduceToNat, Int.reduceTDiv, Int.reduceTMod, ↓reduceIte, hb, dt (show (ls.length : Int) ≤ at_ by omega)]
    exact ⟨_, _, _, s.addW (i := 0) hb rfl, (0, at_), ⟨by omega, by omega, by omega, by omega⟩, rfl, (set_same hb).symm, rfl⟩
/-- The tape behind a call. -/
theorem tape_set {H : AH} {tb g : Nat} {lv : Value} {ls : List Int} (h : TapeAt H tb g lv ls) {a : Int} (h1 : 0 ≤ a ∧ a ≤ ls.length) : TapeAt (H.set tb (tblk lv g a)) tb g lv ls := h.set h1.1 h1.2
theorem number_ (lo hi : Int) (hl : lo ≤ hi) (h1 : -1073741824 ≤ lo) (h2 : hi ≤ 1073741824) (H : AH) {tb g : Nat} {lv : Value} {ls : List Int} (h : TapeAt H tb g lv ls) :
    Cal Try.prog 63 [ap tb 0 g, .int .i64 lo, .int .i64 hi] H fun v H' W' => ∃ r : Int × Int, (lo * 65536 ≤ r.1 ∧ r.1 < hi * 65536 + 65536 ∧ 0 ≤ r.2 ∧ r.2 ≤ ls.length) ∧ v = .int .i64 r.1 ∧ H' = H.set tb (tblk lv g r.2) ∧ W' = [tb] := by
  have htb := h.lt
  have hi0 := h.1
  refine none_of _ _ tb _ htb ?_ (fun r _ => rfl) (fun r _ => tape_ren hi0 _ _ _)
  have htb3 : ∀ x, (H.set tb x)[tb]? = some x := fun x => List.getElem?_set_self htb
  have w1 : IntKind.i64.wrap (hi - lo) = hi - lo := wi (by omega) (by omega)
  have w2 : IntKind.i64.wrap (hi - lo + 1) = hi - lo + 1 := wi (by omega) (by omega)
  refine XCal.of hm Try.func63 rfl (fun xs w => Try.call63 xs w) Try.ntmps63 Try.results63 rfl ?_
  simp only [go_sem, Nat.reduceEqDiff, Nat.reduceAdd, Nat.reduceSub, Nat.reduceMul, Nat.reduceLT, Nat.reduceLeDiff, Int.reducePow, Int.reduceBEq, Int.reduceBNe, Int.reduceDiv, Int.reduceMod, Int.reduceEq, Int.reduceLT, Int.reduceLE, Int.reduceAdd, Int.reduceSub, Int.reduceMul, Int.reduceNeg, Int.reduceToNat, Int.reduceTDiv, Int.reduceTMod, ↓reduceIte, w1, w2]
  refine (next_ (hi - lo + 1) (by omega) H h).x ?_
  rintro v H1 W1 ⟨⟨r, a1⟩, ⟨r0, r1, a0, a2⟩, rfl, rfl, rfl⟩
  have w3 : IntKind.i64.wrap (lo + r) = lo + r := wi (by omega) (by omega)
  have w4 : IntKind.i64.wrap ((lo + r) * 65536) = (lo + r) * 65536 := wi (by omega) (by omega)
  simp only [go_sem, Nat.reduceEqDiff, Nat.reduceAdd, Nat.reduceSub, Nat.reduceMul, Nat.reduceLT, Nat.reduceLeDiff, Int.reducePow, Int.reduceBEq, Int.reduceBNe, Int.reduceDiv, Int.reduceMod, Int.reduceEq, Int.reduceLT, Int.reduceLE, Int.reduceAdd, Int.reduceSub, Int.reduceMul, Int.reduceNeg, Int.reduceToNat, Int.reduceTDiv, Int.reduceTMod, ↓reduceIte, w3, w4, decide_eq_true htb]
  refine (next_ 4 (by omega) _ (tape_set h ⟨a0, a2⟩)).x ?_
  rintro v H1 W1 ⟨⟨q, b1⟩, ⟨q0, q1, b0, b2⟩, rfl, rfl, rfl⟩
  by_cases k0 : q = 0
  · simp only [go_sem, Nat.reduceEqDiff, Nat.reduceAdd, Nat.reduceSub, Nat.reduceMul, Nat.reduceLT, Nat.reduceLeDiff, Int.reducePow, Int.reduceBEq, Int.reduceBNe, Int.reduceDiv, Int.reduceMod, Int.reduceEq, Int.reduceLT, Int.reduceLE, Int.reduceAdd, Int.reduceSub, Int.reduceMul, Int.reduceNeg, Int.reduceToNat, Int.reduceTDiv, Int.reduceTMod, ↓reduceIte, bt k0, decide_eq_true htb, List.set_set]
    exact ⟨SameW.two, ((lo + r) * 65536 + 32768, b1), ⟨by show _ ≤ (lo + r) * 65536 + 32768; omega, by show (lo + r) * 65536 + 32768 < _; omega, b0, b2⟩, by rw [wi (by omega) (by omega)], htb3 _⟩
  · by_cases k1 : q = 1
    · simp only [go_sem, Nat.reduceEqDiff, Nat.reduceAdd, Nat.reduceSub, Nat.reduceMul, Nat.reduceLT, Nat.reduceLeDiff, Int.reducePow, Int.reduceBEq, Int.reduceBNe, Int.reduceDiv, Int.reduceMod, Int.reduceEq, Int.reduceLT, Int.reduceLE, Int.reduceAdd, Int.reduceSub, Int.reduceMul, Int.reduceNeg, Int.reduceToNat, Int.reduceTDiv, Int.reduceTMod, ↓reduceIte, bf k0, bt k1, decide_eq_true htb, List.set_set]
      refine (next_ 65536 (by omega) _ (tape_set h ⟨b0, b2⟩)).x ?_
      rintro v H1 W1 ⟨⟨u, c1⟩, ⟨u0, u1, c0, c2⟩, rfl, rfl, rfl⟩
      simp only [go_sem, Nat.reduceEqDiff, Nat.reduceAdd, Nat.reduceSub, Nat.reduceMul, Nat.reduceLT, Nat.reduceLeDiff, Int.reducePow, Int.reduceBEq, Int.reduceBNe, Int.reduceDiv, Int.reduceMod, Int.reduceEq, Int.reduceLT, Int.reduceLE, Int.reduceAdd, Int.reduceSub, Int.reduceMul, Int.reduceNeg, Int.reduceToNat, Int.reduceTDiv, Int.reduceTMod, ↓reduceIte, decide_eq_true htb, List.set_set]
      exact ⟨SameW.three, ((lo + r) * 65536 + u, c1), ⟨by show _ ≤ (lo + r) * 65536 + u; omega, by show (lo + r) * 65536 + u < _; omega, c0, c2⟩, by rw [wi (by omega) (by omega)], htb3 _⟩
    · simp only [go_sem, Nat.reduceEqDiff, Nat.reduceAdd, Nat.reduceSub, Nat.reduceMul, Nat.reduceLT, Nat.reduceLeDiff, Int.reducePow, Int.reduceBEq, Int.reduceBNe, Int.reduceDiv, Int.reduceMod, Int.reduceEq, Int.reduceLT, Int.reduceLE, Int.reduceAdd, Int.reduceSub, Int.reduceMul, Int.reduceNeg, Int.reduceToNat, Int.reduceTDiv, Int.reduceTMod, ↓reduceIte, bf k0, bf k1, decide_eq_true htb, List.set_set]
      exact ⟨SameW.two, ((lo + r) * 65536, b1), ⟨by show _ ≤ (lo + r) * 65536; omega, by show (lo + r) * 65536 < _; omega, b0, b2⟩, rfl, htb3 _⟩
theorem point_ (lo hi : Int) (hl : lo ≤ hi) (h1 : -1073741824 ≤ lo) (h2 : hi ≤ 1073741824) (H : AH) {tb g : Nat} {lv : Value} {ls : List Int} (h : TapeAt H tb g lv ls) :
    Cal Try.prog 47 [ap tb 0 g, .int .i64 lo, .int .i64 hi] H fun v H' W' => ∃ r : (Int × Int) × Int, ((lo * 65536 ≤ r.1.1 ∧ r.1.1 < hi * 65536 + 65536) ∧ (lo * 65536 ≤ r.1.2 ∧ r.1.2 < hi * 65536 + 65536) ∧ 0 ≤ r.2 ∧ r.2 ≤ ls.length) ∧ v = .agg [.int .i64 r.1.1, .int .i64 r.1.2].toArray ∧ H' = H.set tb (tblk lv g r.2) ∧ W' = [tb] := by
  have htb := h.lt
  have hi0 := h.1
  refine none_of _ _ tb _ htb ?_ (fun r _ => rfl) (fun r _ => tape_ren hi0 _ _ _)
  refine XCal.of hm Try.func47 rfl (fun xs w => Try.call47 xs w) Try.ntmps47 Try.results47 rfl ?_
  simp only [go_sem, Nat.reduceEqDiff, Nat.reduceAdd, Nat.reduceSub, Nat.reduceMul, Nat.reduceLT, Nat.reduceLeDiff, Int.reducePow, Int.reduceBEq, Int.reduceBNe, Int.reduceDiv, Int.reduceMod, Int.reduceEq, Int.reduceLT, Int.reduceLE, Int.reduceAdd, Int.reduceSub, Int.reduceMul, Int.reduceNeg, Int.reduceToNat, Int.reduceTDiv, Int.reduceTMod, ↓reduceIte]
  refine (number_ lo hi hl h1 h2 _ (h.app _)).x ?_
  rintro v H1 W1 ⟨⟨r, a1⟩, ⟨r0, r1, a0, a2⟩, rfl, rfl, rfl⟩
  have hb := (h.2).choose_spec.2.2
  simp only [go_sem, Nat.reduceEqDiff, Nat.reduceAdd, Nat.reduceSub, Nat.reduceMul, Nat.reduceLT, Nat.reduceLeDiff, Int.reducePow, Int.reduceBEq, Int.reduceBNe, Int.reduceDiv, Int.reduceMod, Int.reduceEq, Int.reduceLT, Int.reduceLE, Int.reduceAdd, Int.reduceSub, Int.reduceMul, Int.reduceNeg, Int.reduceToNat, Int.reduceTDiv, Int.reduceTMod, ↓reduceIte, decide_eq_true htb, old_set hb]
  refine (number_ lo hi hl h1 h2 _ ((tape_set h ⟨a0, a2⟩).app _)).x ?_
  rintro v H1 W1 ⟨⟨q, b1⟩, ⟨q0, q1, b0, b2⟩, rfl, rfl, rfl⟩
  simp only [go_sem, Nat.reduceEqDiff, Nat.reduceAdd, Nat.reduceSub, Nat.reduceMul, Nat.reduceLT, Nat.reduceLeDiff, Int.reducePow, Int.reduceBEq, Int.reduceBNe, Int.reduceDiv, Int.reduceMod, Int.reduceEq, Int.reduceLT, Int.reduceLE, Int.reduceAdd, Int.reduceSub, Int.reduceMul, Int.reduceNeg, Int.reduceToNat, Int.reduceTDiv, Int.reduceTMod, ↓reduceIte, decide_eq_true htb, old_set hb, old_sset hb, old_sget hb]
  exact ⟨SameW.two, ((r, q), b1), ⟨⟨r0, r1⟩, ⟨q0, q1⟩, b0, b2⟩, rfl, rfl⟩
end Go.Proofs.Ythoclopeajkcpaa
/- Chapter 8: the walks of halves, and of bent parts. -/
namespace Go.Proofs.Ythoclopeajkcpaa
open Go Go.RowKit E
attribute [local irreducible] XRun XOps XCode XCal XLoop XQ SemCall
set_option linter.unusedSimpArgs false
set_option linter.unusedVariables false
abbrev Pt := Int × Int
abbrev ptv (p : Pt) : Value := .agg [.int .i64 p.1, .int .i64 p.2].toArray
abbrev Ip (p : Pt) : Prop := I64 p.1 ∧ I64 p.2
def hf (a b : Int) : Int := (a + b) / 2
def hfp (p q : Pt) : Pt := (hf p.1 q.1, hf p.2 q.2)
theorem hf_b {a b : Int} (ha : I64 a) (hb : I64 b) : I64 (hf a b) := by unfold hf; constructor <;> omega
theorem hfp_b {p q : Pt} (ha : Ip p) (hb : Ip q) : Ip (hfp p q) := ⟨hf_b ha.1 hb.1, hf_b ha.2 hb.2⟩
theorem half_ (a b : Int) (ha : I64 a) (hb : I64 b) (H : AH) : SemCall Try.prog 53 [.int .i64 a, .int .i64 b] H (.int .i64 (hf a b)) H [] := by
  refine pure_of ?_ rfl
  refine XCal.of hm Try.func53 rfl (fun xs w => Try.call53 xs w) Try.ntmps53 Try.results53 rfl ?_
  simp only [go_sem, Nat.reduceEqDiff, Nat.reduceAdd, Nat.reduceSub, Nat.reduceMul, Nat.reduceLT, Nat.reduceLeDiff, Int.reducePow, Int.reduceBEq, Int.reduceBNe, Int.reduceDiv, Int.reduceMod, Int.reduceEq, Int.reduceLT, Int.reduceLE, Int.reduceAdd, Int.reduceSub, Int.reduceMul, Int.reduceNeg, Int.reduceToNat, Int.reduceTDiv, Int.reduceTMod, ↓reduceIte, half_w a b ha hb, hf]
theorem rhalf_ (a b : Int) (ha : I64 a) (hb : I64 b) (H : AH) : SemCall Try.prog 54 [.int .i64 a, .int .i64 b] H (.int .i64 (hf a b)) H [] := by
  refine pure_of ?_ rfl
  refine XCal.of hm Try.func54 rfl (fun xs w => Try.call54 xs w) Try.ntmps54 Try.results54 rfl ?_
  simp only [go_sem, Nat.reduceEqDiff, Nat.reduceAdd, Nat.reduceSub, Nat.reduceMul, Nat.reduceLT, Nat.reduceLeDiff, Int.reducePow, Int.reduceBEq, Int.reduceBNe, Int.reduceDiv, Int.reduceMod, Int.reduceEq, Int.reduceLT, Int.reduceLE, Int.reduceAdd, Int.reduceSub, Int.reduceMul, Int.reduceNeg, Int.reduceToNat, Int.reduceTDiv, Int.reduceTMod, ↓reduceIte, half_w' a b ha hb, hf]
theorem Half_ (p q : Pt) (ha : Ip p) (hb : Ip q) (H : AH) : SemCall Try.prog 21 [ptv p, ptv q] H (ptv (hfp p q)) H [] := by
  refine pure_of ?_ rfl
  refine XCal.of hm Try.func21 rfl (fun xs w => Try.call21 xs w) Try.ntmps21 Try.results21 rfl ?_
  simp only [go_sem, Nat.reduceEqDiff, Nat.reduceAdd, Nat.reduceSub, Nat.reduceMul, Nat.reduceLT, Nat.reduceLeDiff, Int.reducePow, Int.reduceBEq, Int.reduceBNe, Int.reduceDiv, Int.reduceMod, Int.reduceEq, Int.reduceLT, Int.reduceLE, Int.reduceAdd, Int.reduceSub, Int.reduceMul, Int.reduceNeg, Int.reduceToNat, Int.reduceTDiv, Int.reduceTMod, ↓reduceIte, ptv]
  repeat ((first | refine (half_ _ _ ha.1 hb.1 _).x ?_ | refine (half_ _ _ ha.2 hb.2 _).x ?_ | refine drawnF ?_ (by decide +kernel) | refine drawnU [(4, 5), (4, 6), (4, 7), (4, 8)] (by decide +kernel) ?_); simp only [go_sem, Nat.reduceEqDiff, Nat.reduceAdd, Nat.reduceSub, Nat.reduceMul, Nat.reduceLT, Nat.reduceLeDiff, Int.reducePow, Int.reduceBEq, Int.reduceBNe, Int.reduceDiv, Int.reduceMod, Int.reduceEq, Int.reduceLT, Int.reduceLE, Int.reduceAdd, Int.reduceSub, Int.reduceMul, Int.reduceNeg, Int.reduceToNat, Int.reduceTDiv, Int.reduceTMod, ↓reduceIte, hfp])
theorem rHalf_ (p q : Pt) (ha : Ip p) (hb : Ip q) (H : AH) : SemCall Try.prog 22 [ptv p, ptv q] H (ptv (hfp p q)) H [] := by
  refine pure_of ?_ rfl
  refine XCal.of hm Try.func22 rfl (fun xs w => Try.call22 xs w) Try.ntmps22 Try.results22 rfl ?_
  simp only [go_sem, Nat.reduceEqDiff, Nat.reduceAdd, Nat.reduceSub, Nat.reduceMul, Nat.reduceLT, Nat.reduceLeDiff, Int.reducePow, Int.reduceBEq, Int.reduceBNe, Int.reduceDiv, Int.reduceMod, Int.reduceEq, Int.reduceLT, Int.reduceLE, Int.reduceAdd, Int.reduceSub, Int.reduceMul, Int.reduceNeg, Int.reduceToNat, Int.reduceTDiv, Int.reduceTMod, ↓reduceIte, ptv]
  repeat ((first | refine (rhalf_ _ _ ha.1 hb.1 _).x ?_ | refine (rhalf_ _ _ ha.2 hb.2 _).x ?_ | refine drawnF ?_ (by decide +kernel) | refine drawnU [(4, 5), (4, 6), (4, 7), (4, 8)] (by decide +kernel) ?_); simp only [go_sem, Nat.reduceEqDiff, Nat.reduceAdd, Nat.reduceSub, Nat.reduceMul, Nat.reduceLT, Nat.reduceLeDiff, Int.reducePow, Int.reduceBEq, Int.reduceBNe, Int.reduceDiv, Int.reduceMod, Int.reduceEq, Int.reduceLT, Int.reduceLE, Int.reduceAdd, Int.reduceSub, Int.reduceMul, Int.reduceNeg, Int.reduceToNat, Int.reduceTDiv, Int.reduceTMod, ↓reduceIte, hfp])
def ptC (l : List Pt) : List Value := l.flatMap fun p => [.int .i64 p.1, .int .i64 p.2]
theorem ptC_app (l m : List Pt) : ptC (l ++ m) = ptC l ++ ptC m := by simp [ptC]
theorem ptC_len (l : List Pt) : (ptC l).length = l.length * 2 := by
  induction l with
  | nil => rfl
  | cons x l ih => have : ptC (x :: l) = [.int .i64 x.1, .int .i64 x.2] ++ ptC l := rfl
                   rw [this, List.length_append, ih]; simp; omega
theorem ptC_ren (n : Nat) (K : List (Nat × Nat)) (l : List Pt) : renL n K (ptC l) = some (ptC l) := by
  induction l with
  | nil => rfl
  | cons x l ih =>
    show renL n K (.int .i64 x.1 :: .int .i64 x.2 :: ptC l) = _
    simp only [renL, ih]; rfl
def bentL : Nat → Pt → Pt → Pt → Pt → List Pt
  | 0, _, _, _, d => [d]
  | k + 1, a, b, c, d => bentL k a (hfp a b) (hfp (hfp a b) (hfp b c)) (hfp (hfp (hfp a b) (hfp b c)) (hfp (hfp b c) (hfp c d))) ++ bentL k (hfp (hfp (hfp a b) (hfp b c)) (hfp (hfp b c) (hfp c d))) (hfp (hfp b c) (hfp c d)) (hfp c d) d
theorem bentL_len : ∀ (k : Nat) (a b c d : Pt), (bentL k a b c d).length = 2 ^ k
  | 0, _, _, _, _ => rfl
  | k + 1, a, b, c, d => by simp only [bentL, List.length_append, bentL_len k, Nat.pow_succ]; omega
theorem bent_blk : ∀ (k : Nat), k ≤ 8 → ∀ (a b c d : Pt), Ip a → Ip b → Ip c → Ip d → ∀ (H : AH) (b0 g len : Nat) (l : List Pt), H[b0]? = some ⟨ptC l, g, true⟩ → len = l.length → len + 2 ^ k ≤ 1000000 →
    SemCall Try.prog 46 [sl b0 0 g len 2, ptv a, ptv b, ptv c, ptv d, .int .i64 (k : Int)] H (sl b0 0 (g + 2 ^ k) (len + 2 ^ k) 2) (H.set b0 ⟨ptC (l ++ bentL k a b c d), g + 2 ^ k, true⟩) [b0]
  | 0, _, a, b, c, d, ha, hb, hc, hd, H, b0, g, len, l, h, hl, hn => by
    have hb0 := (List.getElem?_eq_some_iff.1 h).1
    refine trim_of ?_ (by simp) (ren_old _ _ _ _ _ hb0) (fun b hb => ⟨_, by simp at hb; subst hb; exact List.getElem?_set_self hb0, ptC_ren _ _ _⟩)
    refine XCal.of hm Try.func46 rfl (fun xs w => Try.call46 xs w) Try.ntmps46 Try.results46 rfl ?_
    simp only [go_sem, Nat.reduceEqDiff, Nat.reduceAdd, Nat.reduceSub, Nat.reduceMul, Nat.reduceLT, Nat.reduceLeDiff, Int.reducePow, Int.reduceBEq, Int.reduceBNe, Int.reduceDiv, Int.reduceMod, Int.reduceEq, Int.reduceLT, Int.reduceLE, Int.reduceAdd, Int.reduceSub, Int.reduceMul, Int.reduceNeg, Int.reduceToNat, Int.reduceTDiv, Int.reduceTMod, ↓reduceIte, ptv, old_get h, old_set h, old_lt h, show len * 2 = (ptC l).length by rw [ptC_len, hl], show (len + 1) * 16 - 140737488355328 = 0 by omega, show len + 1 - 140737488355328 = 0 by omega]
    exact ⟨_, by rw [ptC_app]; rfl⟩
  | k + 1, hk, a, b, c, d, ha, hb, hc, hd, H, b0, g, len, l, h, hl, hn => by
    have hb0 := (List.getElem?_eq_some_iff.1 h).1
    have pk : 2 ^ k ≤ 256 := Nat.le_trans (Nat.pow_le_pow_right (by decide) (show k ≤ 8 by omega)) (by decide)
    have iab := hfp_b ha hb
    have ibc := hfp_b hb hc
    have icd := hfp_b hc hd
    have iabc := hfp_b iab ibc
    have ibcd := hfp_b ibc icd
    have im := hfp_b iabc ibcd
    rw [Nat.pow_succ] at hn
    have wk : IntKind.i64.wrap (((k + 1 : Nat) : Int) - 1) = (k : Int) := by rw [wi (by omega) (by omega)]; omega
    refine trims_of ?_ (by simp) (ren_old _ _ _ _ _ hb0) (fun b hb => ⟨_, by simp at hb; subst hb; exact List.getElem?_set_self hb0, ptC_ren _ _ _⟩)
    refine XCal.of hm Try.func46 rfl (fun xs w => Try.call46 xs w) Try.ntmps46 Try.results46 rfl ?_
    simp only [go_sem, Nat.reduceEqDiff, Nat.reduceAdd, Nat.reduceSub, Nat.reduceMul, Nat.reduceLT, Nat.reduceLeDiff, Int.reducePow, Int.reduceBEq, Int.reduceBNe, Int.reduceDiv, Int.reduceMod, Int.reduceEq, Int.reduceLT, Int.reduceLE, Int.reduceAdd, Int.reduceSub, Int.reduceMul, Int.reduceNeg, Int.reduceToNat, Int.reduceTDiv, Int.reduceTMod, ↓reduceIte, ptv, bf (show ¬ ((k + 1 : Nat) : Int) = 0 by omega)]
    repeat ((first | refine (Half_ _ _ ha hb _).x ?_ | refine (Half_ _ _ hb hc _).x ?_ | refine (Half_ _ _ hc hd _).x ?_ | refine (Half_ _ _ iab ibc _).x ?_ | refine (Half_ _ _ ibc icd _).x ?_ | refine (Half_ _ _ iabc ibcd _).x ?_ | refine drawnU [(2, 3), (2, 4), (2, 6), (5, 6), (2, 7), (5, 7), (2, 9), (5, 9), (8, 9), (2, 10), (5, 10), (8, 10), (2, 11), (5, 11), (8, 11)] (by decide +kernel) ?_ | refine drawnU [(2, 3), (2, 4), (2, 6), (5, 6), (2, 7), (5, 7)] (by decide +kernel) ?_ | refine drawnU [(7, 8), (7, 9), (7, 10), (7, 11), (7, 12), (7, 13)] (by decide +kernel) ?_ | refine drawnF ?_ (by decide +kernel)); simp only [go_sem, Nat.reduceEqDiff, Nat.reduceAdd, Nat.reduceSub, Nat.reduceMul, Nat.reduceLT, Nat.reduceLeDiff, Int.reducePow, Int.reduceBEq, Int.reduceBNe, Int.reduceDiv, Int.reduceMod, Int.reduceEq, Int.reduceLT, Int.reduceLE, Int.reduceAdd, Int.reduceSub, Int.reduceMul, Int.reduceNeg, Int.reduceToNat, Int.reduceTDiv, Int.reduceTMod, ↓reduceIte, ptv, wk])
    refine (bent_blk k (by omega) _ _ _ _ ha iab iabc im _ b0 g len l (old_get h _) hl (by omega)).x ?_
    simp only [go_sem, Nat.reduceEqDiff, Nat.reduceAdd, Nat.reduceSub, Nat.reduceMul, Nat.reduceLT, Nat.reduceLeDiff, Int.reducePow, Int.reduceBEq, Int.reduceBNe, Int.reduceDiv, Int.reduceMod, Int.reduceEq, Int.reduceLT, Int.reduceLE, Int.reduceAdd, Int.reduceSub, Int.reduceMul, Int.reduceNeg, Int.reduceToNat, Int.reduceTDiv, Int.reduceTMod, ↓reduceIte, ptv, wk, old_get h, old_set h, old_lt h]
    refine (bent_blk k (by omega) _ _ _ _ im ibcd icd hd _ b0 (g + 2 ^ k) (len + 2 ^ k) (l ++ bentL k a (hfp a b) (hfp (hfp a b) (hfp b c)) (hfp (hfp (hfp a b) (hfp b c)) (hfp (hfp b c) (hfp c d)))) (old_sget h _ _) (by rw [List.length_append, bentL_len, hl]) (by omega)).x ?_
    have e2 : g + 2 ^ k + 2 ^ k = g + 2 ^ (k + 1) := by rw [Nat.pow_succ]; omega
    have e3 : len + 2 ^ k + 2 ^ k = len + 2 ^ (k + 1) := by rw [Nat.pow_succ]; omega
    simp only [go_sem, Nat.reduceEqDiff, Nat.reduceAdd, Nat.reduceSub, Nat.reduceMul, Nat.reduceLT, Nat.reduceLeDiff, Int.reducePow, Int.reduceBEq, Int.reduceBNe, Int.reduceDiv, Int.reduceMod, Int.reduceEq, Int.reduceLT, Int.reduceLE, Int.reduceAdd, Int.reduceSub, Int.reduceMul, Int.reduceNeg, Int.reduceToNat, Int.reduceTDiv, Int.reduceTMod, ↓reduceIte, ptv, wk, old_sset h, old_lt h, old_ne h, old_ne' h, old_ne0 h, old_ne0' h, e2, e3]
    exact ⟨SameW.two, _, by rw [List.append_assoc]; rfl⟩
theorem bent_nil : ∀ (k : Nat), k ≤ 8 → ∀ (a b c d : Pt), Ip a → Ip b → Ip c → Ip d → ∀ (H : AH),
    SemCall Try.prog 46 [.slice none 0 0, ptv a, ptv b, ptv c, ptv d, .int .i64 (k : Int)] H (sl H.length 0 0 (2 ^ k) 2) (H ++ [⟨ptC (bentL k a b c d), 0, true⟩]) []
  | 0, _, a, b, c, d, ha, hb, hc, hd, H => by
    refine flat_of ?_
    refine XCal.of hm Try.func46 rfl (fun xs w => Try.call46 xs w) Try.ntmps46 Try.results46 rfl ?_
    simp only [go_sem, Nat.reduceEqDiff, Nat.reduceAdd, Nat.reduceSub, Nat.reduceMul, Nat.reduceLT, Nat.reduceLeDiff, Int.reducePow, Int.reduceBEq, Int.reduceBNe, Int.reduceDiv, Int.reduceMod, Int.reduceEq, Int.reduceLT, Int.reduceLE, Int.reduceAdd, Int.reduceSub, Int.reduceMul, Int.reduceNeg, Int.reduceToNat, Int.reduceTDiv, Int.reduceTMod, ↓reduceIte, ptv]
    exact ⟨H.length + 5, 0, by omega, by rw [hget_app]; rfl, ren_sl _ _ _ _ _ (by omega), ptC_ren _ _ _⟩
  | k + 1, hk, a, b, c, d, ha, hb, hc, hd, H => by
    have pk : 2 ^ k ≤ 256 := Nat.le_trans (Nat.pow_le_pow_right (by decide) (show k ≤ 8 by omega)) (by decide)
    have iab := hfp_b ha hb
    have ibc := hfp_b hb hc
    have icd := hfp_b hc hd
    have iabc := hfp_b iab ibc
    have ibcd := hfp_b ibc icd
    have im := hfp_b iabc ibcd
    have wk : IntKind.i64.wrap (((k + 1 : Nat) : Int) - 1) = (k : Int) := by rw [wi (by omega) (by omega)]; omega
    refine flat_of ?_
    refine XCal.of hm Try.func46 rfl (fun xs w => Try.call46 xs w) Try.ntmps46 Try.results46 rfl ?_
    simp only [go_sem, Nat.reduceEqDiff, Nat.reduceAdd, Nat.reduceSub, Nat.reduceMul, Nat.reduceLT, Nat.reduceLeDiff, Int.reducePow, Int.reduceBEq, Int.reduceBNe, Int.reduceDiv, Int.reduceMod, Int.reduceEq, Int.reduceLT, Int.reduceLE, Int.reduceAdd, Int.reduceSub, Int.reduceMul, Int.reduceNeg, Int.reduceToNat, Int.reduceTDiv, Int.reduceTMod, ↓reduceIte, ptv, bf (show ¬ ((k + 1 : Nat) : Int) = 0 by omega)]
    repeat ((first | refine (Half_ _ _ ha hb _).x ?_ | refine (Half_ _ _ hb hc _).x ?_ | refine (Half_ _ _ hc hd _).x ?_ | refine (Half_ _ _ iab ibc _).x ?_ | refine (Half_ _ _ ibc icd _).x ?_ | refine (Half_ _ _ iabc ibcd _).x ?_ | refine drawnU [(2, 3), (2, 4), (2, 6), (5, 6), (2, 7), (5, 7), (2, 9), (5, 9), (8, 9), (2, 10), (5, 10), (8, 10), (2, 11), (5, 11), (8, 11)] (by decide +kernel) ?_ | refine drawnU [(2, 3), (2, 4), (2, 6), (5, 6), (2, 7), (5, 7)] (by decide +kernel) ?_ | refine drawnU [(7, 8), (7, 9), (7, 10), (7, 11), (7, 12), (7, 13)] (by decide +kernel) ?_ | refine drawnF ?_ (by decide +kernel)); simp only [go_sem, Nat.reduceEqDiff, Nat.reduceAdd, Nat.reduceSub, Nat.reduceMul, Nat.reduceLT, Nat.reduceLeDiff, Int.reducePow, Int.reduceBEq, Int.reduceBNe, Int.reduceDiv, Int.reduceMod, Int.reduceEq, Int.reduceLT, Int.reduceLE, Int.reduceAdd, Int.reduceSub, Int.reduceMul, Int.reduceNeg, Int.reduceToNat, Int.reduceTDiv, Int.reduceTMod, ↓reduceIte, ptv, wk])
    refine (bent_nil k (by omega) _ _ _ _ ha iab iabc im _).x ?_
    simp only [go_sem, Nat.reduceEqDiff, Nat.reduceAdd, Nat.reduceSub, Nat.reduceMul, Nat.reduceLT, Nat.reduceLeDiff, Int.reducePow, Int.reduceBEq, Int.reduceBNe, Int.reduceDiv, Int.reduceMod, Int.reduceEq, Int.reduceLT, Int.reduceLE, Int.reduceAdd, Int.reduceSub, Int.reduceMul, Int.reduceNeg, Int.reduceToNat, Int.reduceTDiv, Int.reduceTMod, ↓reduceIte, ptv, wk]
    refine (bent_blk k (by omega) _ _ _ _ im ibcd icd hd _ (H.length + 10) 0 (2 ^ k) (bentL k a (hfp a b) (hfp (hfp a b) (hfp b c)) (hfp (hfp (hfp a b) (hfp b c)) (hfp (hfp b c) (hfp c d)))) (by rw [hget_app]; rfl) (bentL_len _ _ _ _ _).symm (by omega)).x ?_
    simp only [go_sem, Nat.reduceEqDiff, Nat.reduceAdd, Nat.reduceSub, Nat.reduceMul, Nat.reduceLT, Nat.reduceLeDiff, Int.reducePow, Int.reduceBEq, Int.reduceBNe, Int.reduceDiv, Int.reduceMod, Int.reduceEq, Int.reduceLT, Int.reduceLE, Int.reduceAdd, Int.reduceSub, Int.reduceMul, Int.reduceNeg, Int.reduceToNat, Int.reduceTDiv, Int.reduceTMod, ↓reduceIte, ptv, wk]
    have e3 : 2 ^ k + 2 ^ k = 2 ^ (k + 1) := by rw [Nat.pow_succ]; omega
    rw [e3]
    exact ⟨H.length + 10, 0 + 2 ^ k, by omega, by rw [hget_app]; rfl, ren_sl _ _ _ _ _ (by omega), ptC_ren _ _ _⟩
theorem bend_ (a b c d : Pt) (ha : Ip a) (hb : Ip b) (hc : Ip c) (hd : Ip d) (H : AH) : SemCall Try.prog 15 [ptv a, ptv b, ptv c, ptv d] H (sl H.length 0 0 8 2) (H ++ [⟨ptC (bentL 3 a b c d), 0, true⟩]) [] := by
  refine flat_of ?_
  have h := fun H => bent_nil 3 (by decide) a b c d ha hb hc hd H
  have e : ((3 : Nat) : Int) = 3 := rfl
  rw [e] at h
  refine XCal.of hm Try.func15 rfl (fun xs w => Try.call15 xs w) Try.ntmps15 Try.results15 rfl ?_
  simp only [go_sem, Nat.reduceEqDiff, Nat.reduceAdd, Nat.reduceSub, Nat.reduceMul, Nat.reduceLT, Nat.reduceLeDiff, Int.reducePow, Int.reduceBEq, Int.reduceBNe, Int.reduceDiv, Int.reduceMod, Int.reduceEq, Int.reduceLT, Int.reduceLE, Int.reduceAdd, Int.reduceSub, Int.reduceMul, Int.reduceNeg, Int.reduceToNat, Int.reduceTDiv, Int.reduceTMod, ↓reduceIte, ptv]
  repeat ((first | refine (h _).x ?_ | refine drawnF ?_ (by decide +kernel)); simp only [go_sem, Nat.reduceEqDiff, Nat.reduceAdd, Nat.reduceSub, Nat.reduceMul, Nat.reduceLT, Nat.reduceLeDiff, Int.reducePow, Int.reduceBEq, Int.reduceBNe, Int.reduceDiv, Int.reduceMod, Int.reduceEq, Int.reduceLT, Int.reduceLE, Int.reduceAdd, Int.reduceSub, Int.reduceMul, Int.reduceNeg, Int.reduceToNat, Int.reduceTDiv, Int.reduceTMod, ↓reduceIte, ptv])
  exact ⟨H.length + 4, 0, by omega, by rw [hget_app]; rfl, ren_sl _ _ _ _ _ (by omega), ptC_ren _ _ _⟩
end Go.Proofs.Ythoclopeajkcpaa
/- Tapes: the walk of what makes a path of a tape. -/
namespace Go.Proofs.Ythoclopeajkcpaa
open Go Go.RowKit E
attribute [local irreducible] XRun XOps XCode XCal XLoop XQ SemCall
set_option linter.unusedSimpArgs false
set_option linter.unusedVariables false
theorem ptC_drop : ∀ (l : List Pt) (i : Nat) (p : Pt) (rest : List Value), l[i]? = some p → (((ptC l ++ rest).drop (i * 2)).take 2) = [.int .i64 p.1, .int .i64 p.2]
  | [], i, p, rest, h => by simp at h
  | x :: l, 0, p, rest, h => by simp at h; subst h; rfl
  | x :: l, i + 1, p, rest, h => by
    have := ptC_drop l i p rest (by simpa using h)
    rw [show (i + 1) * 2 = i * 2 + 2 by omega]
    show ((Value.int .i64 x.1 :: Value.int .i64 x.2 :: (ptC l ++ rest)).drop (i * 2 + 2)).take 2 = _
    simpa using this
theorem ald_pt {l : List Pt} {i b g : Nat} {p : Pt} {rw_ : Bool} (rest : List Value) (h : l[i]? = some p) : ald (some true) (some 2) (some ⟨ptC l ++ rest, g, rw_⟩) b (i * 2) g = some (ptv p, b) := by
  have hi := (List.getElem?_eq_some_iff.1 h).1
  have : i * 2 + 2 ≤ (ptC l ++ rest).length := by rw [List.length_append, ptC_len]; omega
  simp only [ald, true_and, this, if_true]
  rw [ptC_drop l i p rest h]
theorem ald_pt0 {l : List Pt} {i b g : Nat} {p : Pt} {rw_ : Bool} (h : l[i]? = some p) : ald (some true) (some 2) (some ⟨ptC l, g, rw_⟩) b (i * 2) g = some (ptv p, b) := by
  have := ald_pt (b := b) (g := g) (rw_ := rw_) [] h
  rwa [List.append_nil] at this
/-- Points near. -/
abbrev Bp (p : Pt) : Prop := (-131072 ≤ p.1 ∧ p.1 < 983040) ∧ (-131072 ≤ p.2 ∧ p.2 < 983040)
theorem Bp.ip {p : Pt} (h : Bp p) : Ip p := ⟨⟨by omega, by omega⟩, ⟨by omega, by omega⟩⟩
theorem ren_path (n b g : Nat) (c : Bool) (len : Nat) (h : n ≤ b) : renR n [(b, g)] (.agg [.bool c, sl b 0 g len 2].toArray) = some (.agg [.bool c, sl n 0 0 len 2].toArray) := by
  have := ren_sl n b g len 2 h
  have e : renV n [(b, g)] (sl b 0 g len 2) = some (sl n 0 0 len 2) := this
  simp only [renR, renL, e]; rfl
theorem snoc {D : List Nat} {tb : Nat} (h : SameW D [tb]) : SameW (D ++ [tb]) [tb] := fun b => by rw [List.mem_append, h b]; simp
theorem path_ (parts : Nat) (c : Bool) (hp : parts ≤ 1000) (H : AH) {tb g : Nat} {lv : Value} {ls : List Int} (h : TapeAt H tb g lv ls) :
    Cal Try.prog 17 [ap tb 0 g, .int .i64 (parts : Int), .bool c] H fun v H' W' => ∃ r : List Pt × Int, (r.1.length = 3 * parts + 1 ∧ (∀ p ∈ r.1, Bp p) ∧ 0 ≤ r.2 ∧ r.2 ≤ ls.length) ∧
      v = .agg [.bool c, sl H.length 0 0 r.1.length 2].toArray ∧ H' = H.set tb (tblk lv g r.2) ++ [⟨ptC r.1, 0, true⟩] ∧ W' = [tb] := by
  have htb := h.lt
  have hi0 := h.1
  have hb := (h.2).choose_spec.2.2
  refine one_of _ (fun (r : List Pt × Int) b g => .agg [.bool c, sl b 0 g r.1.length 2].toArray) _ tb _ htb ?_ (fun r b g _ hh => ren_path _ _ _ _ _ hh) (fun r b g _ => ptC_ren _ _ _) (fun r b g _ _ => tape_ren hi0 _ _ _)
  refine XCal.of hm Try.func17 rfl (fun xs w => Try.call17 xs w) Try.ntmps17 Try.results17 rfl ?_
  simp only [go_sem, Nat.reduceEqDiff, Nat.reduceAdd, Nat.reduceSub, Nat.reduceMul, Nat.reduceLT, Nat.reduceLeDiff, Int.reducePow, Int.reduceBEq, Int.reduceBNe, Int.reduceDiv, Int.reduceMod, Int.reduceEq, Int.reduceLT, Int.reduceLE, Int.reduceAdd, Int.reduceSub, Int.reduceMul, Int.reduceNeg, Int.reduceToNat, Int.reduceTDiv, Int.reduceTMod, ↓reduceIte]
  refine (point_ (-2) 14 (by omega) (by omega) (by omega) _ (h.app _)).x ?_
  rintro v H1 W1 ⟨⟨p0, a1⟩, ⟨b1, b2, a0, a2⟩, rfl, rfl, rfl⟩
  have bp : Bp p0 := ⟨⟨b1.1, b1.2⟩, b2.1, b2.2⟩
  simp only [go_sem, Nat.reduceEqDiff, Nat.reduceAdd, Nat.reduceSub, Nat.reduceMul, Nat.reduceLT, Nat.reduceLeDiff, Int.reducePow, Int.reduceBEq, Int.reduceBNe, Int.reduceDiv, Int.reduceMod, Int.reduceEq, Int.reduceLT, Int.reduceLE, Int.reduceAdd, Int.reduceSub, Int.reduceMul, Int.reduceNeg, Int.reduceToNat, Int.reduceTDiv, Int.reduceTMod, ↓reduceIte, decide_eq_true htb, old_set hb, old_sset hb, old_sget hb]
  refine keep (fun k T H' D => SameW D [tb] ∧ ∃ (l : List Pt) (g1 : Nat) (at_ : Int) (G : AH) (i : Nat), i + k = parts ∧ l.length = 3 * i + 1 ∧ (∀ p ∈ l, Bp p) ∧ 0 ≤ at_ ∧ at_ ≤ ls.length ∧
    H' = H.set tb (tblk lv g at_) ++ (⟨[.bool false, .slice none 0 0], 0, true⟩ :: ⟨ptC l, g1, true⟩ :: ⟨[.bool c, sl (H.length + 1) 0 g1 l.length 2], 0, true⟩ :: G) ∧
    T 8 = .int .i64 (i : Int) ∧ T 1 = .int .i64 (parts : Int) ∧ T 0 = ap tb 0 g ∧ T 6 = ap H.length 0 0 ∧ T 7 = ap (H.length + 2) 0 0) parts
    ⟨SameW.rfl', [p0], 0, a1, [], 0, by omega, rfl, by simpa using bp, a0, a2, rfl, by simp only [go_sem, Nat.reduceEqDiff, Nat.reduceAdd, Nat.reduceSub, Nat.reduceMul, Nat.reduceLT, Nat.reduceLeDiff, Int.reducePow, Int.reduceBEq, Int.reduceBNe, Int.reduceDiv, Int.reduceMod, Int.reduceEq, Int.reduceLT, Int.reduceLE, Int.reduceAdd, Int.reduceSub, Int.reduceMul, Int.reduceNeg, Int.reduceToNat, Int.reduceTDiv, Int.reduceTMod, ↓reduceIte] <;> rfl, by simp only [go_sem, Nat.reduceEqDiff, Nat.reduceAdd, Nat.reduceSub, Nat.reduceMul, Nat.reduceLT, Nat.reduceLeDiff, Int.reducePow, Int.reduceBEq, Int.reduceBNe, Int.reduceDiv, Int.reduceMod, Int.reduceEq, Int.reduceLT, Int.reduceLE, Int.reduceAdd, Int.reduceSub, Int.reduceMul, Int.reduceNeg, Int.reduceToNat, Int.reduceTDiv, Int.reduceTMod, ↓reduceIte], by simp only [go_sem, Nat.reduceEqDiff, Nat.reduceAdd, Nat.reduceSub, Nat.reduceMul, Nat.reduceLT, Nat.reduceLeDiff, Int.reducePow, Int.reduceBEq, Int.reduceBNe, Int.reduceDiv, Int.reduceMod, Int.reduceEq, Int.reduceLT, Int.reduceLE, Int.reduceAdd, Int.reduceSub, Int.reduceMul, Int.reduceNeg, Int.reduceToNat, Int.reduceTDiv, Int.reduceTMod, ↓reduceIte], by simp only [go_sem, Nat.reduceEqDiff, Nat.reduceAdd, Nat.reduceSub, Nat.reduceMul, Nat.reduceLT, Nat.reduceLeDiff, Int.reducePow, Int.reduceBEq, Int.reduceBNe, Int.reduceDiv, Int.reduceMod, Int.reduceEq, Int.reduceLT, Int.reduceLE, Int.reduceAdd, Int.reduceSub, Int.reduceMul, Int.reduceNeg, Int.reduceToNat, Int.reduceTDiv, Int.reduceTMod, ↓reduceIte], by simp only [go_sem, Nat.reduceEqDiff, Nat.reduceAdd, Nat.reduceSub, Nat.reduceMul, Nat.reduceLT, Nat.reduceLeDiff, Int.reducePow, Int.reduceBEq, Int.reduceBNe, Int.reduceDiv, Int.reduceMod, Int.reduceEq, Int.reduceLT, Int.reduceLE, Int.reduceAdd, Int.reduceSub, Int.reduceMul, Int.reduceNeg, Int.reduceToNat, Int.reduceTDiv, Int.reduceTMod, ↓reduceIte]⟩ ?_
  rintro k T H' D ⟨hD, l, g1, at_, G, i, hik, hl, hB, c0, c1, rfl, h8, h1, h0, h6, h7⟩
  by_cases hk : i < parts
  · simp only [go_sem, Nat.reduceEqDiff, Nat.reduceAdd, Nat.reduceSub, Nat.reduceMul, Nat.reduceLT, Nat.reduceLeDiff, Int.reducePow, Int.reduceBEq, Int.reduceBNe, Int.reduceDiv, Int.reduceMod, Int.reduceEq, Int.reduceLT, Int.reduceLE, Int.reduceAdd, Int.reduceSub, Int.reduceMul, Int.reduceNeg, Int.reduceToNat, Int.reduceTDiv, Int.reduceTMod, ↓reduceIte, h8, h1, h0, h6, h7, dt (show (i : Int) < (parts : Int) by omega)]
    have hlast : l[l.length - 1]? = some (l[l.length - 1]'(by omega)) := List.getElem?_eq_getElem _
    generalize l[l.length - 1]'(by omega) = pl at hlast
    have hbl : Bp pl := hB _ (List.mem_of_getElem? hlast)
    have hld : ∀ (b : Nat), ald (some true) (some 2) (some ⟨ptC l, g1, true⟩) b ((l.length - 1) * 2) g1 = some (ptv pl, b) := fun b => ald_pt0 hlast
    have wl : IntKind.i64.wrap ((l.length : Int) - 1) = ((l.length - 1 : Nat) : Int) := by rw [wi (by omega) (by omega)]; omega
    have q1 : (0 : Int) ≤ ((l.length - 1 : Nat) : Int) := by omega
    have q2 : ((l.length - 1 : Nat) : Int) < (l.length : Int) := by omega
    refine drawnU [(0, 9), (1, 9), (2, 9), (3, 9), (4, 9), (5, 9), (6, 9), (7, 9), (9, 10), (9, 11)] (by decide +kernel) ?_
    simp only [go_sem, Nat.reduceEqDiff, Nat.reduceAdd, Nat.reduceSub, Nat.reduceMul, Nat.reduceLT, Nat.reduceLeDiff, Int.reducePow, Int.reduceBEq, Int.reduceBNe, Int.reduceDiv, Int.reduceMod, Int.reduceEq, Int.reduceLT, Int.reduceLE, Int.reduceAdd, Int.reduceSub, Int.reduceMul, Int.reduceNeg, Int.reduceToNat, Int.reduceTDiv, Int.reduceTMod, ↓reduceIte, h8, h1, h0, h6, h7, wl, q1, q2, Int.toNat_natCast, Nat.zero_add, hld, ptv]
    refine (point_ (-2) 14 (by omega) (by omega) (by omega) _ ((tape_set h ⟨c0, c1⟩).app _)).x ?_
    rintro v H1 W1 ⟨⟨pn, d1⟩, ⟨e1, e2, d0, d2⟩, rfl, rfl, rfl⟩
    have bn : Bp pn := ⟨by simpa using e1, by simpa using e2⟩
    have hcap : l.length * 2 = (ptC l).length := (ptC_len l).symm
    have hcap2 : (l.length + 3) * 16 - 140737488355328 = 0 := Nat.sub_eq_zero_of_le (Nat.le_trans (Nat.mul_le_mul_right 16 (show l.length + 3 ≤ 4000 by omega)) (by decide))
    have hcap3 : l.length + 3 - 140737488355328 = 0 := Nat.sub_eq_zero_of_le (Nat.le_trans (show l.length + 3 ≤ 4000 by omega) (by decide))
    simp only [go_sem, Nat.reduceEqDiff, Nat.reduceAdd, Nat.reduceSub, Nat.reduceMul, Nat.reduceLT, Nat.reduceLeDiff, Int.reducePow, Int.reduceBEq, Int.reduceBNe, Int.reduceDiv, Int.reduceMod, Int.reduceEq, Int.reduceLT, Int.reduceLE, Int.reduceAdd, Int.reduceSub, Int.reduceMul, Int.reduceNeg, Int.reduceToNat, Int.reduceTDiv, Int.reduceTMod, ↓reduceIte, decide_eq_true htb, old_set hb, old_sset hb, old_sget hb, old_ne hb, old_ne' hb, old_ne0 hb, old_ne0' hb, h8, h1, h0, h6, h7]
    refine (next_ 2 (by omega) _ ((tape_set h ⟨d0, d2⟩).app _)).x ?_
    rintro v H1 W1 ⟨⟨q, f1⟩, ⟨q0, q1, f0, f2⟩, rfl, rfl, rfl⟩
    by_cases hq : q = 0
    · simp only [go_sem, Nat.reduceEqDiff, Nat.reduceAdd, Nat.reduceSub, Nat.reduceMul, Nat.reduceLT, Nat.reduceLeDiff, Int.reducePow, Int.reduceBEq, Int.reduceBNe, Int.reduceDiv, Int.reduceMod, Int.reduceEq, Int.reduceLT, Int.reduceLE, Int.reduceAdd, Int.reduceSub, Int.reduceMul, Int.reduceNeg, Int.reduceToNat, Int.reduceTDiv, Int.reduceTMod, ↓reduceIte, decide_eq_true htb, old_set hb, old_sset hb, old_sget hb, h8, h1, h0, h6, h7, bt hq, hcap, hcap2, hcap3]
      exact ⟨k - 1, by omega, snoc (snoc hD), l ++ [pl, pn, pn], g1 + 1, f1, _, i + 1, by omega, by simp; omega, fun p hp => by
        rcases List.mem_append.1 hp with hp | hp
        · exact hB p hp
        · simp at hp; rcases hp with rfl | rfl <;> assumption, f0, f2, by rw [ptC_app, List.length_append]; rfl, by rw [wi (by omega) (by omega)]; rfl⟩
    · simp only [go_sem, Nat.reduceEqDiff, Nat.reduceAdd, Nat.reduceSub, Nat.reduceMul, Nat.reduceLT, Nat.reduceLeDiff, Int.reducePow, Int.reduceBEq, Int.reduceBNe, Int.reduceDiv, Int.reduceMod, Int.reduceEq, Int.reduceLT, Int.reduceLE, Int.reduceAdd, Int.reduceSub, Int.reduceMul, Int.reduceNeg, Int.reduceToNat, Int.reduceTDiv, Int.reduceTMod, ↓reduceIte, decide_eq_true htb, old_set hb, old_sset hb, old_sget hb, h8, h1, h0, h6, h7, bf hq]
      refine drawnU [(0, 3), (1, 3), (3, 4), (0, 5), (1, 5), (3, 6), (5, 6)] (by decide +kernel) ?_
      simp only [go_sem, Nat.reduceEqDiff, Nat.reduceAdd, Nat.reduceSub, Nat.reduceMul, Nat.reduceLT, Nat.reduceLeDiff, Int.reducePow, Int.reduceBEq, Int.reduceBNe, Int.reduceDiv, Int.reduceMod, Int.reduceEq, Int.reduceLT, Int.reduceLE, Int.reduceAdd, Int.reduceSub, Int.reduceMul, Int.reduceNeg, Int.reduceToNat, Int.reduceTDiv, Int.reduceTMod, ↓reduceIte, decide_eq_true htb, old_set hb, old_sset hb, old_sget hb, h8, h1, h0, h6, h7]
      refine (point_ (-2) 14 (by omega) (by omega) (by omega) _ ((tape_set h ⟨f0, f2⟩).app _)).x ?_
      rintro v H1 W1 ⟨⟨pu, k1⟩, ⟨m1, m2, k0, k2⟩, rfl, rfl, rfl⟩
      simp only [go_sem, Nat.reduceEqDiff, Nat.reduceAdd, Nat.reduceSub, Nat.reduceMul, Nat.reduceLT, Nat.reduceLeDiff, Int.reducePow, Int.reduceBEq, Int.reduceBNe, Int.reduceDiv, Int.reduceMod, Int.reduceEq, Int.reduceLT, Int.reduceLE, Int.reduceAdd, Int.reduceSub, Int.reduceMul, Int.reduceNeg, Int.reduceToNat, Int.reduceTDiv, Int.reduceTMod, ↓reduceIte, decide_eq_true htb, old_set hb, old_sset hb, old_sget hb, h8, h1, h0, h6, h7]
      refine (point_ (-2) 14 (by omega) (by omega) (by omega) _ ((tape_set h ⟨k0, k2⟩).app _)).x ?_
      rintro v H1 W1 ⟨⟨pv, n1⟩, ⟨o1, o2, n0, n2⟩, rfl, rfl, rfl⟩
      simp only [go_sem, Nat.reduceEqDiff, Nat.reduceAdd, Nat.reduceSub, Nat.reduceMul, Nat.reduceLT, Nat.reduceLeDiff, Int.reducePow, Int.reduceBEq, Int.reduceBNe, Int.reduceDiv, Int.reduceMod, Int.reduceEq, Int.reduceLT, Int.reduceLE, Int.reduceAdd, Int.reduceSub, Int.reduceMul, Int.reduceNeg, Int.reduceToNat, Int.reduceTDiv, Int.reduceTMod, ↓reduceIte, decide_eq_true htb, old_set hb, old_sset hb, old_sget hb, old_ne hb, old_ne' hb, old_ne0 hb, old_ne0' hb, h8, h1, h0, h6, h7, hcap, hcap2, hcap3]
      have bu : Bp pu := ⟨by simpa using m1, by simpa using m2⟩
      have bv : Bp pv := ⟨by simpa using o1, by simpa using o2⟩
      exact ⟨k - 1, by omega, snoc (snoc (snoc (snoc hD))), l ++ [pu, pv, pn], g1 + 1, n1, _, i + 1, by omega, by simp; omega, fun p hp => by
        rcases List.mem_append.1 hp with hp | hp
        · exact hB p hp
        · simp at hp; rcases hp with rfl | rfl | rfl <;> assumption, n0, n2, by rw [ptC_app, List.length_append]; rfl, by rw [wi (by omega) (by omega)]; rfl⟩
  · simp only [go_sem, Nat.reduceEqDiff, Nat.reduceAdd, Nat.reduceSub, Nat.reduceMul, Nat.reduceLT, Nat.reduceLeDiff, Int.reducePow, Int.reduceBEq, Int.reduceBNe, Int.reduceDiv, Int.reduceMod, Int.reduceEq, Int.reduceLT, Int.reduceLE, Int.reduceAdd, Int.reduceSub, Int.reduceMul, Int.reduceNeg, Int.reduceToNat, Int.reduceTDiv, Int.reduceTMod, ↓reduceIte, h8, h1, h0, h6, h7, df (show ¬ (i : Int) < (parts : Int) by omega)]
    have hi2 : i = parts := by omega
    subst hi2
    exact ⟨hD, (l, at_), H.length + 1, g1, ⟨hl, hB, c0, c1⟩, by omega, rfl, by rw [hget_sapp]; rfl, by rw [old_sget hb]⟩
end Go.Proofs.Ythoclopeajkcpaa
/- Chapters 7 and 8: the walks of paths that may be, and of their straight lines. -/
namespace Go.Proofs.Ythoclopeajkcpaa
open Go Go.RowKit E
attribute [local irreducible] XRun XOps XCode XCal XLoop XQ SemCall
set_option linter.unusedSimpArgs false
set_option linter.unusedVariables false
def nearB (x : Int) : Bool := decide (-67108864 ≤ x) && decide (x ≤ 67108864)
def nrp (p : Pt) : Bool := nearB p.1 && nearB p.2
/-- A row of points, as it may lie. -/
def Pts (H : AH) (pv : Value) (l : List Pt) : Prop :=
  (l = [] ∧ ((∃ e, pv = .slice (some ⟨0, 0, none⟩) 0 e) ∨ pv = .slice none 0 0)) ∨
  ∃ b g rest rw_, pv = sl b 0 g l.length 2 ∧ H[b]? = some ⟨ptC l ++ rest, g, rw_⟩ ∧ l.length ≤ 9223372036854775807
theorem Pts.app {H : AH} {pv : Value} {l : List Pt} (h : Pts H pv l) (L : AH) : Pts (H ++ L) pv l := by
  rcases h with h | ⟨b, g, rest, rw_, h1, h2, h3⟩
  · exact .inl h
  · exact .inr ⟨b, g, rest, rw_, h1, old_get h2 L, h3⟩
theorem Pts.form {H : AH} {pv : Value} {l : List Pt} (h : Pts H pv l) : ∃ a e, pv = .slice a l.length e := by
  rcases h with ⟨rfl, ⟨e, rfl⟩ | rfl⟩ | ⟨b, g, rest, rw_, rfl, _⟩
  · exact ⟨_, _, rfl⟩
  · exact ⟨_, _, rfl⟩
  · exact ⟨_, _, rfl⟩
theorem Pts.len {H : AH} {pv : Value} {l : List Pt} (h : Pts H pv l) : l.length ≤ 9223372036854775807 := by
  rcases h with ⟨rfl, _⟩ | ⟨b, g, rest, rw_, rfl, _, h⟩
  · simp
  · exact h
theorem Pts.ne {H : AH} {pv : Value} {l : List Pt} (h : Pts H pv l) (hn : ¬ l = []) : ∃ b g rest rw_, pv = sl b 0 g l.length 2 ∧ H[b]? = some ⟨ptC l ++ rest, g, rw_⟩ ∧ l.length ≤ 9223372036854775807 := h.resolve_left fun h => hn h.1
theorem near_ (x : Int) (H : AH) : SemCall Try.prog 78 [.int .i64 x] H (.bool (nearB x)) H [] := by
  refine pure_of ?_ rfl
  unfold nearB
  by_cases h : -67108864 ≤ x
  · refine XCal.of hm Try.func78 rfl (fun xs w => Try.call78 xs w) Try.ntmps78 Try.results78 rfl ?_
    simp only [go_sem, Nat.reduceEqDiff, Nat.reduceAdd, Nat.reduceSub, Nat.reduceMul, Nat.reduceLT, Nat.reduceLeDiff, Int.reducePow, Int.reduceBEq, Int.reduceBNe, Int.reduceDiv, Int.reduceMod, Int.reduceEq, Int.reduceLT, Int.reduceLE, Int.reduceAdd, Int.reduceSub, Int.reduceMul, Int.reduceNeg, Int.reduceToNat, Int.reduceTDiv, Int.reduceTMod, ↓reduceIte, h]
  · refine XCal.of hm Try.func78 rfl (fun xs w => Try.call78 xs w) Try.ntmps78 Try.results78 rfl ?_
    simp only [go_sem, Nat.reduceEqDiff, Nat.reduceAdd, Nat.reduceSub, Nat.reduceMul, Nat.reduceLT, Nat.reduceLeDiff, Int.reducePow, Int.reduceBEq, Int.reduceBNe, Int.reduceDiv, Int.reduceMod, Int.reduceEq, Int.reduceLT, Int.reduceLE, Int.reduceAdd, Int.reduceSub, Int.reduceMul, Int.reduceNeg, Int.reduceToNat, Int.reduceTDiv, Int.reduceTMod, ↓reduceIte, h]
theorem far_ (p : Pt) (H : AH) : SemCall Try.prog 77 [ptv p] H (.bool (!nrp p)) H [] := by
  refine pure_of ?_ rfl
  unfold nrp
  cases h : nearB p.1
  all_goals
    refine XCal.of hm Try.func77 rfl (fun xs w => Try.call77 xs w) Try.ntmps77 Try.results77 rfl ?_
    simp only [go_sem, Nat.reduceEqDiff, Nat.reduceAdd, Nat.reduceSub, Nat.reduceMul, Nat.reduceLT, Nat.reduceLeDiff, Int.reducePow, Int.reduceBEq, Int.reduceBNe, Int.reduceDiv, Int.reduceMod, Int.reduceEq, Int.reduceLT, Int.reduceLE, Int.reduceAdd, Int.reduceSub, Int.reduceMul, Int.reduceNeg, Int.reduceToNat, Int.reduceTDiv, Int.reduceTMod, ↓reduceIte, ptv]
    repeat ((first | refine (near_ _ _).x ?_ | refine drawnF ?_ (by decide +kernel)); simp only [go_sem, Nat.reduceEqDiff, Nat.reduceAdd, Nat.reduceSub, Nat.reduceMul, Nat.reduceLT, Nat.reduceLeDiff, Int.reducePow, Int.reduceBEq, Int.reduceBNe, Int.reduceDiv, Int.reduceMod, Int.reduceEq, Int.reduceLT, Int.reduceLE, Int.reduceAdd, Int.reduceSub, Int.reduceMul, Int.reduceNeg, Int.reduceToNat, Int.reduceTDiv, Int.reduceTMod, ↓reduceIte, h])
theorem rnearp_ (p : Pt) (H : AH) : SemCall Try.prog 90 [ptv p] H (.bool (nrp p)) H [] := by
  refine pure_of ?_ rfl
  unfold nrp nearB
  cases h1 : decide (-67108864 ≤ p.1) with
  | false =>
    refine XCal.of hm Try.func90 rfl (fun xs w => Try.call90 xs w) Try.ntmps90 Try.results90 rfl ?_
    simp only [go_sem, Nat.reduceEqDiff, Nat.reduceAdd, Nat.reduceSub, Nat.reduceMul, Nat.reduceLT, Nat.reduceLeDiff, Int.reducePow, Int.reduceBEq, Int.reduceBNe, Int.reduceDiv, Int.reduceMod, Int.reduceEq, Int.reduceLT, Int.reduceLE, Int.reduceAdd, Int.reduceSub, Int.reduceMul, Int.reduceNeg, Int.reduceToNat, Int.reduceTDiv, Int.reduceTMod, ↓reduceIte, ptv, h1]
  | true =>
    cases h2 : decide (p.1 ≤ 67108864) with
    | false =>
      refine XCal.of hm Try.func90 rfl (fun xs w => Try.call90 xs w) Try.ntmps90 Try.results90 rfl ?_
      simp only [go_sem, Nat.reduceEqDiff, Nat.reduceAdd, Nat.reduceSub, Nat.reduceMul, Nat.reduceLT, Nat.reduceLeDiff, Int.reducePow, Int.reduceBEq, Int.reduceBNe, Int.reduceDiv, Int.reduceMod, Int.reduceEq, Int.reduceLT, Int.reduceLE, Int.reduceAdd, Int.reduceSub, Int.reduceMul, Int.reduceNeg, Int.reduceToNat, Int.reduceTDiv, Int.reduceTMod, ↓reduceIte, ptv, h1, h2]
    | true =>
      cases h3 : decide (-67108864 ≤ p.2) with
      | false =>
        refine XCal.of hm Try.func90 rfl (fun xs w => Try.call90 xs w) Try.ntmps90 Try.results90 rfl ?_
        simp only [go_sem, Nat.reduceEqDiff, Nat.reduceAdd, Nat.reduceSub, Nat.reduceMul, Nat.reduceLT, Nat.reduceLeDiff, Int.reducePow, Int.reduceBEq, Int.reduceBNe, Int.reduceDiv, Int.reduceMod, Int.reduceEq, Int.reduceLT, Int.reduceLE, Int.reduceAdd, Int.reduceSub, Int.reduceMul, Int.reduceNeg, Int.reduceToNat, Int.reduceTDiv, Int.reduceTMod, ↓reduceIte, ptv, h1, h2, h3]
      | true =>
        refine XCal.of hm Try.func90 rfl (fun xs w => Try.call90 xs w) Try.ntmps90 Try.results90 rfl ?_
        simp only [go_sem, Nat.reduceEqDiff, Nat.reduceAdd, Nat.reduceSub, Nat.reduceMul, Nat.reduceLT, Nat.reduceLeDiff, Int.reducePow, Int.reduceBEq, Int.reduceBNe, Int.reduceDiv, Int.reduceMod, Int.reduceEq, Int.reduceLT, Int.reduceLE, Int.reduceAdd, Int.reduceSub, Int.reduceMul, Int.reduceNeg, Int.reduceToNat, Int.reduceTDiv, Int.reduceTMod, ↓reduceIte, ptv, h1, h2, h3]
def idxL : List Pt → Nat → Int
  | [], _ => -1
  | p :: t, i => if nrp p then idxL t (i + 1) else i
theorem idxL_ge : ∀ (l : List Pt) (i : Nat), decide (0 ≤ idxL l i) = !(l.all nrp)
  | [], i => rfl
  | p :: t, i => by
    by_cases h : nrp p = true
    · have : idxL (p :: t) i = idxL t (i + 1) := by simp only [idxL, h, if_true]
      rw [this, idxL_ge t (i + 1), List.all_cons, h, Bool.true_and]
    · have h' : nrp p = false := by simpa using h
      have : idxL (p :: t) i = (i : Int) := by simp only [idxL, h', Bool.false_eq_true, if_false]
      rw [this, List.all_cons, h']; simp
theorem drop_cons {α : Type} {l : List α} {i : Nat} (h : i < l.length) : l.drop i = l[i] :: l.drop (i + 1) := List.drop_eq_getElem_cons h
theorem index_ (l : List Pt) (pv : Value) (H : AH) (h : Pts H pv l) : SemCall Try.prog 93 [pv, .func (.func 77) [].toArray [].toArray] H (.int .i64 (idxL l 0)) H [] := by
  have hlen := h.len
  refine pure_of ?_ rfl
  by_cases hn : l = []
  · subst hn
    obtain ⟨a, e, rfl⟩ := h.form
    refine XCal.of hm Try.func93 rfl (fun xs w => Try.call93 xs w) Try.ntmps93 Try.results93 rfl ?_
    simp only [go_sem, Nat.reduceEqDiff, Nat.reduceAdd, Nat.reduceSub, Nat.reduceMul, Nat.reduceLT, Nat.reduceLeDiff, Int.reducePow, Int.reduceBEq, Int.reduceBNe, Int.reduceDiv, Int.reduceMod, Int.reduceEq, Int.reduceLT, Int.reduceLE, Int.reduceAdd, Int.reduceSub, Int.reduceMul, Int.reduceNeg, Int.reduceToNat, Int.reduceTDiv, Int.reduceTMod, ↓reduceIte]
    refine rounds 1 ?_
    simp only [go_sem, Nat.reduceEqDiff, Nat.reduceAdd, Nat.reduceSub, Nat.reduceMul, Nat.reduceLT, Nat.reduceLeDiff, Int.reducePow, Int.reduceBEq, Int.reduceBNe, Int.reduceDiv, Int.reduceMod, Int.reduceEq, Int.reduceLT, Int.reduceLE, Int.reduceAdd, Int.reduceSub, Int.reduceMul, Int.reduceNeg, Int.reduceToNat, Int.reduceTDiv, Int.reduceTMod, ↓reduceIte, List.length_nil, show ((0 : Nat) : Int) = 0 from rfl]
    rfl
  · obtain ⟨b, g, rest, rw_, rfl, hb, _⟩ := h.ne hn
    refine XCal.of hm Try.func93 rfl (fun xs w => Try.call93 xs w) Try.ntmps93 Try.results93 rfl ?_
    simp only [go_sem, Nat.reduceEqDiff, Nat.reduceAdd, Nat.reduceSub, Nat.reduceMul, Nat.reduceLT, Nat.reduceLeDiff, Int.reducePow, Int.reduceBEq, Int.reduceBNe, Int.reduceDiv, Int.reduceMod, Int.reduceEq, Int.reduceLT, Int.reduceLE, Int.reduceAdd, Int.reduceSub, Int.reduceMul, Int.reduceNeg, Int.reduceToNat, Int.reduceTDiv, Int.reduceTMod, ↓reduceIte]
    refine keep (fun k T H' D => H' = H ∧ D = [] ∧ T 0 = sl b 0 g l.length 2 ∧ T 1 = .func (.func 77) [].toArray [].toArray ∧ T 7 = .int .i64 (l.length : Int) ∧ ∃ i : Nat, i + k = l.length ∧ T 8 = .int .i64 (i : Int) ∧ idxL (l.drop i) i = idxL l 0) l.length ⟨rfl, rfl, rfl, rfl, rfl, 0, by omega, rfl, rfl⟩ ?_
    rintro k T H' D ⟨rfl, rfl, h0, h1, h7, i, hi, h8, hx⟩
    by_cases hk : i < l.length
    · have hel : l[i]? = some l[i] := List.getElem?_eq_getElem hk
      have hld := fun (b : Nat) => ald_pt (b := b) (g := g) (rw_ := rw_) rest hel
      rw [drop_cons hk] at hx
      simp only [idxL] at hx
      simp only [go_sem, Nat.reduceEqDiff, Nat.reduceAdd, Nat.reduceSub, Nat.reduceMul, Nat.reduceLT, Nat.reduceLeDiff, Int.reducePow, Int.reduceBEq, Int.reduceBNe, Int.reduceDiv, Int.reduceMod, Int.reduceEq, Int.reduceLT, Int.reduceLE, Int.reduceAdd, Int.reduceSub, Int.reduceMul, Int.reduceNeg, Int.reduceToNat, Int.reduceTDiv, Int.reduceTMod, ↓reduceIte, h0, h1, h7, h8, dt (show (i : Int) < (l.length : Int) by omega), hb, show (0 : Int) ≤ (i : Int) by omega, show (i : Int) < (l.length : Int) by omega, Int.toNat_natCast, Nat.zero_add, hld, ptv]
      refine (far_ l[i] _).x ?_
      cases hq : nrp l[i] with
      | true =>
        rw [hq] at hx
        simp only [go_sem, Nat.reduceEqDiff, Nat.reduceAdd, Nat.reduceSub, Nat.reduceMul, Nat.reduceLT, Nat.reduceLeDiff, Int.reducePow, Int.reduceBEq, Int.reduceBNe, Int.reduceDiv, Int.reduceMod, Int.reduceEq, Int.reduceLT, Int.reduceLE, Int.reduceAdd, Int.reduceSub, Int.reduceMul, Int.reduceNeg, Int.reduceToNat, Int.reduceTDiv, Int.reduceTMod, ↓reduceIte, h0, h1, h7, h8]
        exact ⟨k - 1, by omega, i + 1, by omega, by rw [wi (by omega) (by omega)]; rfl, hx⟩
      | false =>
        rw [hq] at hx
        simp only [go_sem, Nat.reduceEqDiff, Nat.reduceAdd, Nat.reduceSub, Nat.reduceMul, Nat.reduceLT, Nat.reduceLeDiff, Int.reducePow, Int.reduceBEq, Int.reduceBNe, Int.reduceDiv, Int.reduceMod, Int.reduceEq, Int.reduceLT, Int.reduceLE, Int.reduceAdd, Int.reduceSub, Int.reduceMul, Int.reduceNeg, Int.reduceToNat, Int.reduceTDiv, Int.reduceTMod, ↓reduceIte, h0, h1, h7, h8]
        rw [← hx]; rfl
    · have : l.drop i = [] := List.drop_eq_nil_of_le (by omega)
      rw [this] at hx
      simp only [go_sem, Nat.reduceEqDiff, Nat.reduceAdd, Nat.reduceSub, Nat.reduceMul, Nat.reduceLT, Nat.reduceLeDiff, Int.reducePow, Int.reduceBEq, Int.reduceBNe, Int.reduceDiv, Int.reduceMod, Int.reduceEq, Int.reduceLT, Int.reduceLE, Int.reduceAdd, Int.reduceSub, Int.reduceMul, Int.reduceNeg, Int.reduceToNat, Int.reduceTDiv, Int.reduceTMod, ↓reduceIte, h0, h1, h7, h8, df (show ¬ (i : Int) < (l.length : Int) by omega)]
      rw [← hx]; rfl
theorem contains_ (l : List Pt) (pv : Value) (H : AH) (h : Pts H pv l) : SemCall Try.prog 76 [pv, .func (.func 77) [].toArray [].toArray] H (.bool (!(l.all nrp))) H [] := by
  refine pure_of ?_ rfl
  refine XCal.of hm Try.func76 rfl (fun xs w => Try.call76 xs w) Try.ntmps76 Try.results76 rfl ?_
  simp only [go_sem, Nat.reduceEqDiff, Nat.reduceAdd, Nat.reduceSub, Nat.reduceMul, Nat.reduceLT, Nat.reduceLeDiff, Int.reducePow, Int.reduceBEq, Int.reduceBNe, Int.reduceDiv, Int.reduceMod, Int.reduceEq, Int.reduceLT, Int.reduceLE, Int.reduceAdd, Int.reduceSub, Int.reduceMul, Int.reduceNeg, Int.reduceToNat, Int.reduceTDiv, Int.reduceTMod, ↓reduceIte]
  repeat ((first | refine (index_ l pv _ h).x ?_ | refine drawnF ?_ (by decide +kernel)); simp only [go_sem, Nat.reduceEqDiff, Nat.reduceAdd, Nat.reduceSub, Nat.reduceMul, Nat.reduceLT, Nat.reduceLeDiff, Int.reducePow, Int.reduceBEq, Int.reduceBNe, Int.reduceDiv, Int.reduceMod, Int.reduceEq, Int.reduceLT, Int.reduceLE, Int.reduceAdd, Int.reduceSub, Int.reduceMul, Int.reduceNeg, Int.reduceToNat, Int.reduceTDiv, Int.reduceTMod, ↓reduceIte, idxL_ge])
def rightB (c : Bool) (l : List Pt) : Bool := if l.length = 0 then !c else decide ((4 : Int) ≤ l.length) && decide ((l.length : Int) ≤ 97) && ((l.length : Int).tmod 3 == 1) && l.all nrp
theorem right_ (c : Bool) (l : List Pt) (pv : Value) (H : AH) (h : Pts H pv l) : SemCall Try.prog 49 [.agg [.bool c, pv].toArray] H (.bool (rightB c l)) H [] := by
  have hlen := h.len
  refine pure_of ?_ rfl
  unfold rightB
  obtain ⟨a, e, hpv⟩ := h.form
  by_cases hn : l.length = 0
  · rw [if_pos hn]
    subst hpv
    refine XCal.of hm Try.func49 rfl (fun xs w => Try.call49 xs w) Try.ntmps49 Try.results49 rfl ?_
    simp only [go_sem, Nat.reduceEqDiff, Nat.reduceAdd, Nat.reduceSub, Nat.reduceMul, Nat.reduceLT, Nat.reduceLeDiff, Int.reducePow, Int.reduceBEq, Int.reduceBNe, Int.reduceDiv, Int.reduceMod, Int.reduceEq, Int.reduceLT, Int.reduceLE, Int.reduceAdd, Int.reduceSub, Int.reduceMul, Int.reduceNeg, Int.reduceToNat, Int.reduceTDiv, Int.reduceTMod, ↓reduceIte, hn, show ((0 : Nat) : Int) = 0 from rfl]
  · rw [if_neg hn]
    have hc := fun L => contains_ l pv (H ++ L) (h.app L)
    subst hpv
    cases h1 : decide ((4 : Int) ≤ l.length) with
    | false =>
      refine XCal.of hm Try.func49 rfl (fun xs w => Try.call49 xs w) Try.ntmps49 Try.results49 rfl ?_
      simp only [go_sem, Nat.reduceEqDiff, Nat.reduceAdd, Nat.reduceSub, Nat.reduceMul, Nat.reduceLT, Nat.reduceLeDiff, Int.reducePow, Int.reduceBEq, Int.reduceBNe, Int.reduceDiv, Int.reduceMod, Int.reduceEq, Int.reduceLT, Int.reduceLE, Int.reduceAdd, Int.reduceSub, Int.reduceMul, Int.reduceNeg, Int.reduceToNat, Int.reduceTDiv, Int.reduceTMod, ↓reduceIte, bf (show ¬ (l.length : Int) = 0 by omega), h1]
      repeat ((first | refine (hc _).x ?_ | refine drawnF ?_ (by decide +kernel)); simp only [go_sem, Nat.reduceEqDiff, Nat.reduceAdd, Nat.reduceSub, Nat.reduceMul, Nat.reduceLT, Nat.reduceLeDiff, Int.reducePow, Int.reduceBEq, Int.reduceBNe, Int.reduceDiv, Int.reduceMod, Int.reduceEq, Int.reduceLT, Int.reduceLE, Int.reduceAdd, Int.reduceSub, Int.reduceMul, Int.reduceNeg, Int.reduceToNat, Int.reduceTDiv, Int.reduceTMod, ↓reduceIte, h1, Bool.not_not])
    | true =>
      cases h2 : decide ((l.length : Int) ≤ 97) with
      | false =>
        refine XCal.of hm Try.func49 rfl (fun xs w => Try.call49 xs w) Try.ntmps49 Try.results49 rfl ?_
        simp only [go_sem, Nat.reduceEqDiff, Nat.reduceAdd, Nat.reduceSub, Nat.reduceMul, Nat.reduceLT, Nat.reduceLeDiff, Int.reducePow, Int.reduceBEq, Int.reduceBNe, Int.reduceDiv, Int.reduceMod, Int.reduceEq, Int.reduceLT, Int.reduceLE, Int.reduceAdd, Int.reduceSub, Int.reduceMul, Int.reduceNeg, Int.reduceToNat, Int.reduceTDiv, Int.reduceTMod, ↓reduceIte, bf (show ¬ (l.length : Int) = 0 by omega), h1, h2]
        repeat ((first | refine (hc _).x ?_ | refine drawnF ?_ (by decide +kernel)); simp only [go_sem, Nat.reduceEqDiff, Nat.reduceAdd, Nat.reduceSub, Nat.reduceMul, Nat.reduceLT, Nat.reduceLeDiff, Int.reducePow, Int.reduceBEq, Int.reduceBNe, Int.reduceDiv, Int.reduceMod, Int.reduceEq, Int.reduceLT, Int.reduceLE, Int.reduceAdd, Int.reduceSub, Int.reduceMul, Int.reduceNeg, Int.reduceToNat, Int.reduceTDiv, Int.reduceTMod, ↓reduceIte, h1, h2, Bool.not_not])
      | true =>
        cases h3 : ((l.length : Int).tmod 3 == 1) with
        | false =>
          refine XCal.of hm Try.func49 rfl (fun xs w => Try.call49 xs w) Try.ntmps49 Try.results49 rfl ?_
          simp only [go_sem, Nat.reduceEqDiff, Nat.reduceAdd, Nat.reduceSub, Nat.reduceMul, Nat.reduceLT, Nat.reduceLeDiff, Int.reducePow, Int.reduceBEq, Int.reduceBNe, Int.reduceDiv, Int.reduceMod, Int.reduceEq, Int.reduceLT, Int.reduceLE, Int.reduceAdd, Int.reduceSub, Int.reduceMul, Int.reduceNeg, Int.reduceToNat, Int.reduceTDiv, Int.reduceTMod, ↓reduceIte, bf (show ¬ (l.length : Int) = 0 by omega), h1, h2, h3]
          repeat ((first | refine (hc _).x ?_ | refine drawnF ?_ (by decide +kernel)); simp only [go_sem, Nat.reduceEqDiff, Nat.reduceAdd, Nat.reduceSub, Nat.reduceMul, Nat.reduceLT, Nat.reduceLeDiff, Int.reducePow, Int.reduceBEq, Int.reduceBNe, Int.reduceDiv, Int.reduceMod, Int.reduceEq, Int.reduceLT, Int.reduceLE, Int.reduceAdd, Int.reduceSub, Int.reduceMul, Int.reduceNeg, Int.reduceToNat, Int.reduceTDiv, Int.reduceTMod, ↓reduceIte, h1, h2, h3, Bool.not_not])
        | true =>
          refine XCal.of hm Try.func49 rfl (fun xs w => Try.call49 xs w) Try.ntmps49 Try.results49 rfl ?_
          simp only [go_sem, Nat.reduceEqDiff, Nat.reduceAdd, Nat.reduceSub, Nat.reduceMul, Nat.reduceLT, Nat.reduceLeDiff, Int.reducePow, Int.reduceBEq, Int.reduceBNe, Int.reduceDiv, Int.reduceMod, Int.reduceEq, Int.reduceLT, Int.reduceLE, Int.reduceAdd, Int.reduceSub, Int.reduceMul, Int.reduceNeg, Int.reduceToNat, Int.reduceTDiv, Int.reduceTMod, ↓reduceIte, bf (show ¬ (l.length : Int) = 0 by omega), h1, h2, h3]
          repeat ((first | refine (hc _).x ?_ | refine drawnF ?_ (by decide +kernel)); simp only [go_sem, Nat.reduceEqDiff, Nat.reduceAdd, Nat.reduceSub, Nat.reduceMul, Nat.reduceLT, Nat.reduceLeDiff, Int.reducePow, Int.reduceBEq, Int.reduceBNe, Int.reduceDiv, Int.reduceMod, Int.reduceEq, Int.reduceLT, Int.reduceLE, Int.reduceAdd, Int.reduceSub, Int.reduceMul, Int.reduceNeg, Int.reduceToNat, Int.reduceTDiv, Int.reduceTMod, ↓reduceIte, h1, h2, h3, Bool.not_not])
end Go.Proofs.Ythoclopeajkcpaa
/- Chapter 8: the walk of what makes straight lines of a path. -/
namespace Go.Proofs.Ythoclopeajkcpaa
open Go Go.RowKit E
attribute [local irreducible] XRun XOps XCode XCal XLoop XQ SemCall
set_option linter.unusedSimpArgs false
set_option linter.unusedVariables false
def flatGo : List Pt → List Pt
  | a :: b :: c :: d :: t => (if b = a ∧ c = d then [d] else bentL 3 a b c d) ++ flatGo (d :: t)
  | _ => []
def flatL : List Pt → List Pt
  | [] => []
  | p :: t => p :: flatGo (p :: t)
abbrev poly (c : Bool) (v : Value) : Value := .agg [.bool c, v].toArray
theorem empty_ (c : Bool) (l : List Pt) (pv : Value) (H : AH) (h : Pts H pv l) : SemCall Try.prog 48 [.agg [.bool c, pv].toArray] H (.bool ((l.length : Int) == 0)) H [] := by
  obtain ⟨a, e, rfl⟩ := h.form
  refine pure_of ?_ rfl
  refine XCal.of hm Try.func48 rfl (fun xs w => Try.call48 xs w) Try.ntmps48 Try.results48 rfl ?_
  simp only [go_sem, Nat.reduceEqDiff, Nat.reduceAdd, Nat.reduceSub, Nat.reduceMul, Nat.reduceLT, Nat.reduceLeDiff, Int.reducePow, Int.reduceBEq, Int.reduceBNe, Int.reduceDiv, Int.reduceMod, Int.reduceEq, Int.reduceLT, Int.reduceLE, Int.reduceAdd, Int.reduceSub, Int.reduceMul, Int.reduceNeg, Int.reduceToNat, Int.reduceTDiv, Int.reduceTMod, ↓reduceIte]
theorem of_no (c : Bool) (l : List Pt) (pv : Value) (H : AH) (h : Pts H pv l) (hr : l = [] ∨ rightB c l = false) : SemCall Try.prog 19 [.agg [.bool c, pv].toArray] H (poly c (.slice none 0 0)) H [] := by
  have e1 := fun L => empty_ c l pv (H ++ L) (h.app L)
  have e2 := fun L => right_ c l pv (H ++ L) (h.app L)
  obtain ⟨a, e, rfl⟩ := h.form
  refine pure_of ?_ rfl
  by_cases hn : l = []
  · have hn' : ((l.length : Int) == 0) = true := by subst hn; rfl
    refine XCal.of hm Try.func19 rfl (fun xs w => Try.call19 xs w) Try.ntmps19 Try.results19 rfl ?_
    simp only [go_sem, Nat.reduceEqDiff, Nat.reduceAdd, Nat.reduceSub, Nat.reduceMul, Nat.reduceLT, Nat.reduceLeDiff, Int.reducePow, Int.reduceBEq, Int.reduceBNe, Int.reduceDiv, Int.reduceMod, Int.reduceEq, Int.reduceLT, Int.reduceLE, Int.reduceAdd, Int.reduceSub, Int.reduceMul, Int.reduceNeg, Int.reduceToNat, Int.reduceTDiv, Int.reduceTMod, ↓reduceIte]
    repeat ((first | refine (e1 _).x ?_ | refine drawnF ?_ (by decide +kernel) | refine drawnU [(5, 27), (6, 27), (7, 27), (8, 27), (9, 27), (10, 27), (11, 27), (12, 27), (13, 27), (14, 27), (15, 27), (16, 27), (17, 27), (18, 27), (19, 27), (20, 27), (21, 27), (22, 27), (11, 28), (12, 28), (13, 28), (14, 28), (15, 28), (16, 28), (17, 28), (18, 28), (19, 28), (20, 28), (21, 28), (22, 28), (17, 29), (18, 29), (19, 29), (20, 29), (21, 29), (22, 29)] (by decide +kernel) ?_); simp only [go_sem, Nat.reduceEqDiff, Nat.reduceAdd, Nat.reduceSub, Nat.reduceMul, Nat.reduceLT, Nat.reduceLeDiff, Int.reducePow, Int.reduceBEq, Int.reduceBNe, Int.reduceDiv, Int.reduceMod, Int.reduceEq, Int.reduceLT, Int.reduceLE, Int.reduceAdd, Int.reduceSub, Int.reduceMul, Int.reduceNeg, Int.reduceToNat, Int.reduceTDiv, Int.reduceTMod, ↓reduceIte, hn'])
  · have hn' : ((l.length : Int) == 0) = false := bf (by have : l.length ≠ 0 := fun h => hn (List.eq_nil_of_length_eq_zero h); omega)
    have hr := hr.resolve_left hn
    refine XCal.of hm Try.func19 rfl (fun xs w => Try.call19 xs w) Try.ntmps19 Try.results19 rfl ?_
    simp only [go_sem, Nat.reduceEqDiff, Nat.reduceAdd, Nat.reduceSub, Nat.reduceMul, Nat.reduceLT, Nat.reduceLeDiff, Int.reducePow, Int.reduceBEq, Int.reduceBNe, Int.reduceDiv, Int.reduceMod, Int.reduceEq, Int.reduceLT, Int.reduceLE, Int.reduceAdd, Int.reduceSub, Int.reduceMul, Int.reduceNeg, Int.reduceToNat, Int.reduceTDiv, Int.reduceTMod, ↓reduceIte]
    repeat ((first | refine (e1 _).x ?_ | refine (e2 _).x ?_ | refine drawnF ?_ (by decide +kernel) | refine drawnU [(5, 27), (6, 27), (7, 27), (8, 27), (9, 27), (10, 27), (11, 27), (12, 27), (13, 27), (14, 27), (15, 27), (16, 27), (17, 27), (18, 27), (19, 27), (20, 27), (21, 27), (22, 27), (11, 28), (12, 28), (13, 28), (14, 28), (15, 28), (16, 28), (17, 28), (18, 28), (19, 28), (20, 28), (21, 28), (22, 28), (17, 29), (18, 29), (19, 29), (20, 29), (21, 29), (22, 29)] (by decide +kernel) ?_); simp only [go_sem, Nat.reduceEqDiff, Nat.reduceAdd, Nat.reduceSub, Nat.reduceMul, Nat.reduceLT, Nat.reduceLeDiff, Int.reducePow, Int.reduceBEq, Int.reduceBNe, Int.reduceDiv, Int.reduceMod, Int.reduceEq, Int.reduceLT, Int.reduceLE, Int.reduceAdd, Int.reduceSub, Int.reduceMul, Int.reduceNeg, Int.reduceToNat, Int.reduceTDiv, Int.reduceTMod, ↓reduceIte, hn', hr])
theorem bend8 (a b c d : Pt) : (ptC (bentL 3 a b c d)).length = 16 := by rw [ptC_len, bentL_len]
theorem pt_eq {p q : Pt} : ((p.1 == q.1) && (p.2 == q.2)) = decide (p = q) := by
  rw [Bool.eq_iff_iff]
  simp [Prod.ext_iff]
theorem of_yes (c : Bool) (l : List Pt) (pv : Value) (hB : ∀ p ∈ l, Ip p) (H : AH) (h : Pts H pv l) (hn : ¬ l = []) (hr : rightB c l = true) (hl : l.length ≤ 97) : SemCall Try.prog 19 [.agg [.bool c, pv].toArray] H (poly c (sl H.length 0 0 (flatL l).length 2)) (H ++ [⟨ptC (flatL l), 0, true⟩]) [] := by
  have e1 := fun L => empty_ c l pv (H ++ L) (h.app L)
  have e2 := fun L => right_ c l pv (H ++ L) (h.app L)
  have hn' : ((l.length : Int) == 0) = false := bf (by have : l.length ≠ 0 := fun h => hn (List.eq_nil_of_length_eq_zero h); omega)
  have l0 : 0 < l.length := List.length_pos_iff.2 hn
  obtain ⟨b, g, rest, rw_, rfl, hb, _⟩ := h.ne hn
  have hel0 : l[0]? = some l[0] := List.getElem?_eq_getElem l0
  have hld0 := fun (b : Nat) => ald_pt (b := b) (g := g) (rw_ := rw_) rest hel0
  refine flat_of ?_
  refine XCal.of hm Try.func19 rfl (fun xs w => Try.call19 xs w) Try.ntmps19 Try.results19 rfl ?_
  simp only [go_sem, Nat.reduceEqDiff, Nat.reduceAdd, Nat.reduceSub, Nat.reduceMul, Nat.reduceLT, Nat.reduceLeDiff, Int.reducePow, Int.reduceBEq, Int.reduceBNe, Int.reduceDiv, Int.reduceMod, Int.reduceEq, Int.reduceLT, Int.reduceLE, Int.reduceAdd, Int.reduceSub, Int.reduceMul, Int.reduceNeg, Int.reduceToNat, Int.reduceTDiv, Int.reduceTMod, ↓reduceIte]
  refine (e1 _).x ?_
  simp only [go_sem, Nat.reduceEqDiff, Nat.reduceAdd, Nat.reduceSub, Nat.reduceMul, Nat.reduceLT, Nat.reduceLeDiff, Int.reducePow, Int.reduceBEq, Int.reduceBNe, Int.reduceDiv, Int.reduceMod, Int.reduceEq, Int.reduceLT, Int.reduceLE, Int.reduceAdd, Int.reduceSub, Int.reduceMul, Int.reduceNeg, Int.reduceToNat, Int.reduceTDiv, Int.reduceTMod, ↓reduceIte, hn']
  refine (e2 _).x ?_
  simp only [go_sem, Nat.reduceEqDiff, Nat.reduceAdd, Nat.reduceSub, Nat.reduceMul, Nat.reduceLT, Nat.reduceLeDiff, Int.reducePow, Int.reduceBEq, Int.reduceBNe, Int.reduceDiv, Int.reduceMod, Int.reduceEq, Int.reduceLT, Int.reduceLE, Int.reduceAdd, Int.reduceSub, Int.reduceMul, Int.reduceNeg, Int.reduceToNat, Int.reduceTDiv, Int.reduceTMod, ↓reduceIte, hr, old_get hb, Int.reduceToNat, show (0 : Int) < (l.length : Int) by omega, Nat.zero_mul, Nat.add_zero]
  rw [show (0 : Nat) = 0 * 2 from rfl, hld0]
  simp only [go_sem, Nat.reduceEqDiff, Nat.reduceAdd, Nat.reduceSub, Nat.reduceMul, Nat.reduceLT, Nat.reduceLeDiff, Int.reducePow, Int.reduceBEq, Int.reduceBNe, Int.reduceDiv, Int.reduceMod, Int.reduceEq, Int.reduceLT, Int.reduceLE, Int.reduceAdd, Int.reduceSub, Int.reduceMul, Int.reduceNeg, Int.reduceToNat, Int.reduceTDiv, Int.reduceTMod, ↓reduceIte, ptv]
  refine keep (fun k T H' D => D = [] ∧ ∃ (o : List Pt) (g1 : Nat) (G : AH) (i : Nat), i + 3 * k = 300 ∧ i ≤ l.length + 3 ∧ o ++ flatGo (l.drop i) = flatL l ∧ o.length ≤ 8 * i + 1 ∧
    H' = H ++ (⟨[.bool c, sl b 0 g l.length 2], 0, true⟩ :: ⟨[.bool false, .slice none 0 0], 0, true⟩ :: ⟨ptC o, g1, true⟩ :: G) ∧ T 4 = .int .i64 (i : Int) ∧ T 1 = ap H.length 0 0 ∧ T 2 = ap (H.length + 1) 0 0 ∧ T 3 = sl (H.length + 2) 0 g1 o.length 2) 100
    ⟨rfl, [l[0]], 0, [], 0, by omega, by omega, by cases l with | nil => simp at l0 | cons x t => rfl, by simp, rfl, by simp only [go_sem, Nat.reduceEqDiff, Nat.reduceAdd, Nat.reduceSub, Nat.reduceMul, Nat.reduceLT, Nat.reduceLeDiff, Int.reducePow, Int.reduceBEq, Int.reduceBNe, Int.reduceDiv, Int.reduceMod, Int.reduceEq, Int.reduceLT, Int.reduceLE, Int.reduceAdd, Int.reduceSub, Int.reduceMul, Int.reduceNeg, Int.reduceToNat, Int.reduceTDiv, Int.reduceTMod, ↓reduceIte] <;> rfl, by simp only [go_sem, Nat.reduceEqDiff, Nat.reduceAdd, Nat.reduceSub, Nat.reduceMul, Nat.reduceLT, Nat.reduceLeDiff, Int.reducePow, Int.reduceBEq, Int.reduceBNe, Int.reduceDiv, Int.reduceMod, Int.reduceEq, Int.reduceLT, Int.reduceLE, Int.reduceAdd, Int.reduceSub, Int.reduceMul, Int.reduceNeg, Int.reduceToNat, Int.reduceTDiv, Int.reduceTMod, ↓reduceIte], by simp only [go_sem, Nat.reduceEqDiff, Nat.reduceAdd, Nat.reduceSub, Nat.reduceMul, Nat.reduceLT, Nat.reduceLeDiff, Int.reducePow, Int.reduceBEq, Int.reduceBNe, Int.reduceDiv, Int.reduceMod, Int.reduceEq, Int.reduceLT, Int.reduceLE, Int.reduceAdd, Int.reduceSub, Int.reduceMul, Int.reduceNeg, Int.reduceToNat, Int.reduceTDiv, Int.reduceTMod, ↓reduceIte], by simp only [go_sem, Nat.reduceEqDiff, Nat.reduceAdd, Nat.reduceSub, Nat.reduceMul, Nat.reduceLT, Nat.reduceLeDiff, Int.reducePow, Int.reduceBEq, Int.reduceBNe, Int.reduceDiv, Int.reduceMod, Int.reduceEq, Int.reduceLT, Int.reduceLE, Int.reduceAdd, Int.reduceSub, Int.reduceMul, Int.reduceNeg, Int.reduceToNat, Int.reduceTDiv, Int.reduceTMod, ↓reduceIte] <;> rfl⟩ ?_
  rintro k T H' D ⟨rfl, o, g1, G, i, hik, hil, hx, hol, rfl, h4, h1, h2, h3⟩
  have w3 : IntKind.i64.wrap ((i : Int) + 3) = ((i + 3 : Nat) : Int) := by rw [wi (by omega) (by omega)]; rfl
  by_cases hk : i + 3 < l.length
  · have w1 : IntKind.i64.wrap ((i : Int) + 1) = ((i + 1 : Nat) : Int) := by rw [wi (by omega) (by omega)]; rfl
    have w2 : IntKind.i64.wrap ((i : Int) + 2) = ((i + 2 : Nat) : Int) := by rw [wi (by omega) (by omega)]; rfl
    obtain ⟨pa, ha⟩ : ∃ p, l[i]? = some p := ⟨_, List.getElem?_eq_getElem (by omega)⟩
    obtain ⟨pb, hb1⟩ : ∃ p, l[i + 1]? = some p := ⟨_, List.getElem?_eq_getElem (by omega)⟩
    obtain ⟨pc, hc⟩ : ∃ p, l[i + 2]? = some p := ⟨_, List.getElem?_eq_getElem (by omega)⟩
    obtain ⟨pd, hd⟩ : ∃ p, l[i + 3]? = some p := ⟨_, List.getElem?_eq_getElem (by omega)⟩
    have ia := hB pa (List.mem_of_getElem? ha)
    have ib := hB pb (List.mem_of_getElem? hb1)
    have ic := hB pc (List.mem_of_getElem? hc)
    have id_ := hB pd (List.mem_of_getElem? hd)
    have la := fun (b : Nat) => ald_pt (b := b) (g := g) (rw_ := rw_) rest ha
    have lb := fun (b : Nat) => ald_pt (b := b) (g := g) (rw_ := rw_) rest hb1
    have lc := fun (b : Nat) => ald_pt (b := b) (g := g) (rw_ := rw_) rest hc
    have ld := fun (b : Nat) => ald_pt (b := b) (g := g) (rw_ := rw_) rest hd
    have hdrop : l.drop i = pa :: pb :: pc :: pd :: l.drop (i + 4) := by
      have g0 : ∀ j (h : j < l.length) p, l[j]? = some p → l.drop j = p :: l.drop (j + 1) := fun j h p e => by rw [drop_cons h]; congr 1; rw [List.getElem?_eq_getElem h] at e; exact Option.some.inj e
      rw [g0 i (by omega) pa ha, g0 (i + 1) (by omega) pb hb1, g0 (i + 2) (by omega) pc hc, g0 (i + 3) (by omega) pd hd]
    have hdrop3 : l.drop (i + 3) = pd :: l.drop (i + 4) := by
      rw [drop_cons (by omega)]; congr 1; rw [List.getElem?_eq_getElem (by omega)] at hd; exact Option.some.inj hd
    have hgo : flatGo (l.drop i) = (if pb = pa ∧ pc = pd then [pd] else bentL 3 pa pb pc pd) ++ flatGo (l.drop (i + 3)) := by rw [hdrop, hdrop3]; rfl
    have q0 : ∀ j : Nat, (0 : Int) ≤ (j : Int) := fun j => by omega
    have q1 : (i : Int) < (l.length : Int) := by omega
    have q2 : ((i + 1 : Nat) : Int) < (l.length : Int) := by omega
    have q3 : ((i + 2 : Nat) : Int) < (l.length : Int) := by omega
    have q4 : ((i + 3 : Nat) : Int) < (l.length : Int) := by omega
    have oc : o.length * 2 = (ptC o).length := (ptC_len o).symm
    have ob : ∀ n, n ≤ 8 → (o.length + n) * 16 - 140737488355328 = 0 := fun n hn => Nat.sub_eq_zero_of_le (Nat.le_trans (Nat.mul_le_mul_right 16 (show o.length + n ≤ 4000 by omega)) (by decide))
    have oc2 : ∀ n, n ≤ 8 → o.length + n - 140737488355328 = 0 := fun n hn => Nat.sub_eq_zero_of_le (Nat.le_trans (show o.length + n ≤ 4000 by omega) (by decide))
    have b8 := bend8 pa pb pc pd
    have t8 : (ptC (bentL 3 pa pb pc pd)).take 16 = ptC (bentL 3 pa pb pc pd) := List.take_of_length_le (by omega)
    have u8 : 0 + 16 - (ptC (bentL 3 pa pb pc pd)).length = 0 := by rw [b8]
    simp only [go_sem, Nat.reduceEqDiff, Nat.reduceAdd, Nat.reduceSub, Nat.reduceMul, Nat.reduceLT, Nat.reduceLeDiff, Int.reducePow, Int.reduceBEq, Int.reduceBNe, Int.reduceDiv, Int.reduceMod, Int.reduceEq, Int.reduceLT, Int.reduceLE, Int.reduceAdd, Int.reduceSub, Int.reduceMul, Int.reduceNeg, Int.reduceToNat, Int.reduceTDiv, Int.reduceTMod, ↓reduceIte, h1, h2, h3, h4, w3, dt q4, old_get hb]
    refine drawnU [(5, 27), (6, 27), (7, 27), (8, 27), (9, 27), (10, 27), (11, 27), (12, 27), (13, 27), (14, 27), (15, 27), (16, 27), (17, 27), (18, 27), (19, 27), (20, 27), (21, 27), (22, 27), (11, 28), (12, 28), (13, 28), (14, 28), (15, 28), (16, 28), (17, 28), (18, 28), (19, 28), (20, 28), (21, 28), (22, 28), (17, 29), (18, 29), (19, 29), (20, 29), (21, 29), (22, 29)] (by decide +kernel) ?_
    simp only [go_sem, Nat.reduceEqDiff, Nat.reduceAdd, Nat.reduceSub, Nat.reduceMul, Nat.reduceLT, Nat.reduceLeDiff, Int.reducePow, Int.reduceBEq, Int.reduceBNe, Int.reduceDiv, Int.reduceMod, Int.reduceEq, Int.reduceLT, Int.reduceLE, Int.reduceAdd, Int.reduceSub, Int.reduceMul, Int.reduceNeg, Int.reduceToNat, Int.reduceTDiv, Int.reduceTMod, ↓reduceIte, h1, h2, h3, h4, w1, w2, w3, q0, q1, q2, q3, q4, old_get hb, Int.toNat_natCast, Nat.zero_add, la, lb, lc, ld, ptv, old_ne hb, old_ne' hb, old_ne0 hb, old_ne0' hb]
    by_cases e1 : pb = pa
    · have e1' : ((pb.1 == pa.1) && (pb.2 == pa.2)) = true := by rw [pt_eq]; exact dt e1
      by_cases e2 : pc = pd
      · have e2' : ((pc.1 == pd.1) && (pc.2 == pd.2)) = true := by rw [pt_eq]; exact dt e2
        simp only [go_sem, Nat.reduceEqDiff, Nat.reduceAdd, Nat.reduceSub, Nat.reduceMul, Nat.reduceLT, Nat.reduceLeDiff, Int.reducePow, Int.reduceBEq, Int.reduceBNe, Int.reduceDiv, Int.reduceMod, Int.reduceEq, Int.reduceLT, Int.reduceLE, Int.reduceAdd, Int.reduceSub, Int.reduceMul, Int.reduceNeg, Int.reduceToNat, Int.reduceTDiv, Int.reduceTMod, ↓reduceIte, h1, h2, h3, h4, e1', e2', oc, ob 1 (by omega), oc2 1 (by omega), w3]
        refine ⟨k - 1, by omega, o ++ [pd], g1 + 1, _, i + 3, by omega, by omega, ?_, by simp; omega, by rw [ptC_app]; rfl, rfl, by simp⟩
        rw [← hx, hgo, if_pos ⟨e1, e2⟩, List.append_assoc]
      · have e2' : ((pc.1 == pd.1) && (pc.2 == pd.2)) = false := by rw [pt_eq]; exact df e2
        simp only [go_sem, Nat.reduceEqDiff, Nat.reduceAdd, Nat.reduceSub, Nat.reduceMul, Nat.reduceLT, Nat.reduceLeDiff, Int.reducePow, Int.reduceBEq, Int.reduceBNe, Int.reduceDiv, Int.reduceMod, Int.reduceEq, Int.reduceLT, Int.reduceLE, Int.reduceAdd, Int.reduceSub, Int.reduceMul, Int.reduceNeg, Int.reduceToNat, Int.reduceTDiv, Int.reduceTMod, ↓reduceIte, h1, h2, h3, h4, e1', e2', oc]
        refine (bend_ pa pb pc pd ia ib ic id_ _).x ?_
        simp only [go_sem, Nat.reduceEqDiff, Nat.reduceAdd, Nat.reduceSub, Nat.reduceMul, Nat.reduceLT, Nat.reduceLeDiff, Int.reducePow, Int.reduceBEq, Int.reduceBNe, Int.reduceDiv, Int.reduceMod, Int.reduceEq, Int.reduceLT, Int.reduceLE, Int.reduceAdd, Int.reduceSub, Int.reduceMul, Int.reduceNeg, Int.reduceToNat, Int.reduceTDiv, Int.reduceTMod, ↓reduceIte, h1, h2, h3, h4, oc, ob 8 (by omega), oc2 8 (by omega), w3, t8, u8]
        refine ⟨k - 1, by omega, o ++ bentL 3 pa pb pc pd, g1 + 1, _, i + 3, by omega, by omega, ?_, by rw [List.length_append, bentL_len]; omega, by rw [ptC_app], rfl, by rw [List.length_append, bentL_len]⟩
        rw [← hx, hgo, if_neg (fun h => e2 h.2), List.append_assoc]
    · have e1' : ((pb.1 == pa.1) && (pb.2 == pa.2)) = false := by rw [pt_eq]; exact df e1
      simp only [go_sem, Nat.reduceEqDiff, Nat.reduceAdd, Nat.reduceSub, Nat.reduceMul, Nat.reduceLT, Nat.reduceLeDiff, Int.reducePow, Int.reduceBEq, Int.reduceBNe, Int.reduceDiv, Int.reduceMod, Int.reduceEq, Int.reduceLT, Int.reduceLE, Int.reduceAdd, Int.reduceSub, Int.reduceMul, Int.reduceNeg, Int.reduceToNat, Int.reduceTDiv, Int.reduceTMod, ↓reduceIte, h1, h2, h3, h4, e1', oc]
      refine (bend_ pa pb pc pd ia ib ic id_ _).x ?_
      simp only [go_sem, Nat.reduceEqDiff, Nat.reduceAdd, Nat.reduceSub, Nat.reduceMul, Nat.reduceLT, Nat.reduceLeDiff, Int.reducePow, Int.reduceBEq, Int.reduceBNe, Int.reduceDiv, Int.reduceMod, Int.reduceEq, Int.reduceLT, Int.reduceLE, Int.reduceAdd, Int.reduceSub, Int.reduceMul, Int.reduceNeg, Int.reduceToNat, Int.reduceTDiv, Int.reduceTMod, ↓reduceIte, h1, h2, h3, h4, oc, ob 8 (by omega), oc2 8 (by omega), w3, t8, u8]
      refine ⟨k - 1, by omega, o ++ bentL 3 pa pb pc pd, g1 + 1, _, i + 3, by omega, by omega, ?_, by rw [List.length_append, bentL_len]; omega, by rw [ptC_app], rfl, by rw [List.length_append, bentL_len]⟩
      rw [← hx, hgo, if_neg (fun h => e1 h.1), List.append_assoc]
  · have hend : flatGo (l.drop i) = [] := by
      have : (l.drop i).length ≤ 3 := by rw [List.length_drop]; omega
      match hq : l.drop i, this with
      | [], _ => rfl
      | [_], _ => rfl
      | [_, _], _ => rfl
      | [_, _, _], _ => rfl
      | _ :: _ :: _ :: _ :: _, h => simp at h
    rw [hend, List.append_nil] at hx
    simp only [go_sem, Nat.reduceEqDiff, Nat.reduceAdd, Nat.reduceSub, Nat.reduceMul, Nat.reduceLT, Nat.reduceLeDiff, Int.reducePow, Int.reduceBEq, Int.reduceBNe, Int.reduceDiv, Int.reduceMod, Int.reduceEq, Int.reduceLT, Int.reduceLE, Int.reduceAdd, Int.reduceSub, Int.reduceMul, Int.reduceNeg, Int.reduceToNat, Int.reduceTDiv, Int.reduceTMod, ↓reduceIte, h1, h2, h3, h4, w3, df (show ¬ ((i + 3 : Nat) : Int) < (l.length : Int) by omega), old_get hb]
    subst hx
    exact ⟨H.length + 2, g1, by omega, by rw [hget_app]; rfl, ren_path _ _ _ _ _ (by omega), ptC_ren _ _ _⟩
end Go.Proofs.Ythoclopeajkcpaa
/- Chapter 8: the walks of the known runs, and of the law on what is within. -/
namespace Go.Proofs.Ythoclopeajkcpaa
open Go Go.RowKit E
attribute [local irreducible] XRun XOps XCode XCal XLoop XQ SemCall
set_option linter.unusedSimpArgs false
set_option linter.unusedVariables false
theorem fk1 : flatL [(0, 0), (0, 0), (8, 0), (8, 0)] = [(0, 0), (8, 0)] := by decide +kernel
theorem fk2 : ptC [(0, 0), (8, 0)] = [.int .i64 0, .int .i64 0, .int .i64 8, .int .i64 0] := rfl
theorem fk3 : ∃ p0 p1 p2 p3 p4 p5 p6 : Pt, bentL 3 (0, 0) (0, 0) (80, 0) (80, 0) = [p0, p1, p2, p3, p4, p5, p6, (80, 0)] := ⟨_, _, _, _, _, _, _, rfl⟩
theorem fk4 : hfp (-1, 0) (0, 0) = (-1, 0) := by decide +kernel
theorem ptC_cons (p : Pt) (l : List Pt) : ptC (p :: l) = [.int .i64 p.1, .int .i64 p.2] ++ ptC l := rfl
theorem ptC_nil : ptC [] = [] := rfl
theorem fknown_ (H : AH) : SemCall Try.prog 16 [] H (.bool true) H [] := by
  refine pure_of ?_ rfl
  have z : Ip (0, 0) := ⟨⟨by omega, by omega⟩, by omega, by omega⟩
  have e : Ip (80, 0) := ⟨⟨by omega, by omega⟩, by omega, by omega⟩
  have m : Ip (-1, 0) := ⟨⟨by omega, by omega⟩, by omega, by omega⟩
  have o := fun (L : AH) (b : Nat) (hb : (H ++ L)[b]? = some ⟨ptC [(0, 0), (0, 0), (8, 0), (8, 0)], 0, true⟩) => of_yes false [(0, 0), (0, 0), (8, 0), (8, 0)] (sl b 0 0 4 2) (fun p hp => by simp at hp; rcases hp with rfl | rfl <;> exact ⟨⟨by decide, by decide⟩, by decide, by decide⟩) (H ++ L) (.inr ⟨b, 0, [], true, rfl, by simpa using hb, by simp⟩) (by simp) (by decide +kernel) (by simp)
  obtain ⟨p0, p1, p2, p3, p4, p5, p6, e3⟩ := fk3
  have b := fun H => bend_ (0, 0) (0, 0) (80, 0) (80, 0) z z e e H
  rw [e3] at b
  have hh := fun H => Half_ (-1, 0) (0, 0) m z H
  rw [fk4] at hh
  refine XCal.of hm Try.func16 rfl (fun xs w => Try.call16 xs w) Try.ntmps16 Try.results16 rfl ?_
  simp only [go_sem, Nat.reduceEqDiff, Nat.reduceAdd, Nat.reduceSub, Nat.reduceMul, Nat.reduceLT, Nat.reduceLeDiff, Int.reducePow, Int.reduceBEq, Int.reduceBNe, Int.reduceDiv, Int.reduceMod, Int.reduceEq, Int.reduceLT, Int.reduceLE, Int.reduceAdd, Int.reduceSub, Int.reduceMul, Int.reduceNeg, Int.reduceToNat, Int.reduceTDiv, Int.reduceTMod, ↓reduceIte]
  refine (o _ H.length (by rw [hget_app0]; rfl)).x ?_
  rw [fk1, fk2]
  simp only [go_sem, Nat.reduceEqDiff, Nat.reduceAdd, Nat.reduceSub, Nat.reduceMul, Nat.reduceLT, Nat.reduceLeDiff, Int.reducePow, Int.reduceBEq, Int.reduceBNe, Int.reduceDiv, Int.reduceMod, Int.reduceEq, Int.reduceLT, Int.reduceLE, Int.reduceAdd, Int.reduceSub, Int.reduceMul, Int.reduceNeg, Int.reduceToNat, Int.reduceTDiv, Int.reduceTMod, ↓reduceIte, poly]
  refine (b _).x ?_
  simp only [go_sem, Nat.reduceEqDiff, Nat.reduceAdd, Nat.reduceSub, Nat.reduceMul, Nat.reduceLT, Nat.reduceLeDiff, Int.reducePow, Int.reduceBEq, Int.reduceBNe, Int.reduceDiv, Int.reduceMod, Int.reduceEq, Int.reduceLT, Int.reduceLE, Int.reduceAdd, Int.reduceSub, Int.reduceMul, Int.reduceNeg, Int.reduceToNat, Int.reduceTDiv, Int.reduceTMod, ↓reduceIte, poly, ptC_cons, ptC_nil]
  repeat ((first | refine (hh _).x ?_ | refine drawnF ?_ (by decide +kernel)); simp only [go_sem, Nat.reduceEqDiff, Nat.reduceAdd, Nat.reduceSub, Nat.reduceMul, Nat.reduceLT, Nat.reduceLeDiff, Int.reducePow, Int.reduceBEq, Int.reduceBNe, Int.reduceDiv, Int.reduceMod, Int.reduceEq, Int.reduceLT, Int.reduceLE, Int.reduceAdd, Int.reduceSub, Int.reduceMul, Int.reduceNeg, Int.reduceToNat, Int.reduceTDiv, Int.reduceTMod, ↓reduceIte, poly, ptC_cons, ptC_nil, ptv])
theorem ptC_get : ∀ (l : List Pt) (i : Nat) (p : Pt) (rest : List Value), l[i]? = some p → (ptC l ++ rest)[i * 2]? = some (.int .i64 p.1) ∧ (ptC l ++ rest)[i * 2 + 1]? = some (.int .i64 p.2)
  | [], i, p, rest, h => by simp at h
  | x :: l, 0, p, rest, h => by simp at h; subst h; exact ⟨rfl, rfl⟩
  | x :: l, i + 1, p, rest, h => by
    have := ptC_get l i p rest (by simpa using h)
    rw [show (i + 1) * 2 = i * 2 + 2 by omega]
    exact this
theorem bent_in : ∀ (k : Nat) (a b c d : Pt) (lo hi : Int), (lo ≤ a.1 ∧ a.1 ≤ hi) → (lo ≤ b.1 ∧ b.1 ≤ hi) → (lo ≤ c.1 ∧ c.1 ≤ hi) → (lo ≤ d.1 ∧ d.1 ≤ hi) → ∀ p ∈ bentL k a b c d, lo ≤ p.1 ∧ p.1 ≤ hi
  | 0, a, b, c, d, lo, hi, ha, hb, hc, hd, p, hp => by simp [bentL] at hp; subst hp; exact hd
  | k + 1, a, b, c, d, lo, hi, ha, hb, hc, hd, p, hp => by
    have h : ∀ x y : Pt, (lo ≤ x.1 ∧ x.1 ≤ hi) → (lo ≤ y.1 ∧ y.1 ≤ hi) → lo ≤ (hfp x y).1 ∧ (hfp x y).1 ≤ hi := fun x y hx hy => by
      show lo ≤ (x.1 + y.1) / 2 ∧ (x.1 + y.1) / 2 ≤ hi; omega
    simp only [bentL, List.mem_append] at hp
    rcases hp with hp | hp
    · exact bent_in k _ _ _ _ lo hi ha (h _ _ ha hb) (h _ _ (h _ _ ha hb) (h _ _ hb hc)) (h _ _ (h _ _ (h _ _ ha hb) (h _ _ hb hc)) (h _ _ (h _ _ hb hc) (h _ _ hc hd))) p hp
    · exact bent_in k _ _ _ _ lo hi (h _ _ (h _ _ (h _ _ ha hb) (h _ _ hb hc)) (h _ _ (h _ _ hb hc) (h _ _ hc hd))) (h _ _ (h _ _ hb hc) (h _ _ hc hd)) (h _ _ hc hd) hd p hp
theorem bent_in2 : ∀ (k : Nat) (a b c d : Pt) (lo hi : Int), (lo ≤ a.2 ∧ a.2 ≤ hi) → (lo ≤ b.2 ∧ b.2 ≤ hi) → (lo ≤ c.2 ∧ c.2 ≤ hi) → (lo ≤ d.2 ∧ d.2 ≤ hi) → ∀ p ∈ bentL k a b c d, lo ≤ p.2 ∧ p.2 ≤ hi
  | 0, a, b, c, d, lo, hi, ha, hb, hc, hd, p, hp => by simp [bentL] at hp; subst hp; exact hd
  | k + 1, a, b, c, d, lo, hi, ha, hb, hc, hd, p, hp => by
    have h : ∀ x y : Pt, (lo ≤ x.2 ∧ x.2 ≤ hi) → (lo ≤ y.2 ∧ y.2 ≤ hi) → lo ≤ (hfp x y).2 ∧ (hfp x y).2 ≤ hi := fun x y hx hy => by
      show lo ≤ (x.2 + y.2) / 2 ∧ (x.2 + y.2) / 2 ≤ hi; omega
    simp only [bentL, List.mem_append] at hp
    rcases hp with hp | hp
    · exact bent_in2 k _ _ _ _ lo hi ha (h _ _ ha hb) (h _ _ (h _ _ ha hb) (h _ _ hb hc)) (h _ _ (h _ _ (h _ _ ha hb) (h _ _ hb hc)) (h _ _ (h _ _ hb hc) (h _ _ hc hd))) p hp
    · exact bent_in2 k _ _ _ _ lo hi (h _ _ (h _ _ (h _ _ ha hb) (h _ _ hb hc)) (h _ _ (h _ _ hb hc) (h _ _ hc hd))) (h _ _ (h _ _ hb hc) (h _ _ hc hd)) (h _ _ hc hd) hd p hp
theorem bent_last : ∀ (k : Nat) (a b c d : Pt), (bentL k a b c d)[2 ^ k - 1]? = some d
  | 0, a, b, c, d => rfl
  | k + 1, a, b, c, d => by
    have hp : 0 < 2 ^ k := Nat.pow_pos (by decide)
    have hl := bentL_len k
    simp only [bentL]
    rw [List.getElem?_append_right (by rw [hl, Nat.pow_succ]; omega), hl, show 2 ^ (k + 1) - 1 - 2 ^ k = 2 ^ k - 1 by rw [Nat.pow_succ]; omega]
    exact bent_last k _ _ _ _
def mn (a b : Int) : Int := if b < a then b else a
def mx (a b : Int) : Int := if a < b then b else a
theorem mn_le (a b : Int) : mn a b ≤ a ∧ mn a b ≤ b := by unfold mn; split <;> omega
theorem mx_le (a b : Int) : a ≤ mx a b ∧ b ≤ mx a b := by unfold mx; split <;> omega
theorem fwithin (a b c d : Pt) (H : AH) : SemCall Try.prog 3 [ptv a, ptv b, ptv c, ptv d] H (.bool true) H [] := by
  refine pure_of ?_ rfl
  have ha1 := tm_b a.1 (n := 67108864) (by omega)
  have hb1 := tm_b b.1 (n := 67108864) (by omega)
  have hc1 := tm_b c.1 (n := 67108864) (by omega)
  have hd1 := tm_b d.1 (n := 67108864) (by omega)
  have ha2 := tm_b a.2 (n := 67108864) (by omega)
  have hb2 := tm_b b.2 (n := 67108864) (by omega)
  have hc2 := tm_b c.2 (n := 67108864) (by omega)
  have hd2 := tm_b d.2 (n := 67108864) (by omega)
  generalize gA1 : a.1.tmod 67108864 = A1 at *
  generalize gB1 : b.1.tmod 67108864 = B1 at *
  generalize gC1 : c.1.tmod 67108864 = C1 at *
  generalize gD1 : d.1.tmod 67108864 = D1 at *
  generalize gA2 : a.2.tmod 67108864 = A2 at *
  generalize gB2 : b.2.tmod 67108864 = B2 at *
  generalize gC2 : c.2.tmod 67108864 = C2 at *
  generalize gD2 : d.2.tmod 67108864 = D2 at *
  have ib : ∀ (x y : Int), (-67108864 < x ∧ x < 67108864) → (-67108864 < y ∧ y < 67108864) → Ip (x, y) := fun x y hx hy => ⟨⟨by show _ ≤ x; omega, by show x ≤ _; omega⟩, by show _ ≤ y; omega, by show y ≤ _; omega⟩
  have bd := fun H => bend_ (A1, A2) (B1, B2) (C1, C2) (D1, D2) (ib _ _ ha1 ha2) (ib _ _ hb1 hb2) (ib _ _ hc1 hc2) (ib _ _ hd1 hd2) H
  have hlast := bent_last 3 (A1, A2) (B1, B2) (C1, C2) (D1, D2)
  have hlen := bentL_len 3 (A1, A2) (B1, B2) (C1, C2) (D1, D2)
  have hin := fun lo hi h1 h2 h3 h4 => bent_in 3 (A1, A2) (B1, B2) (C1, C2) (D1, D2) lo hi h1 h2 h3 h4
  have hin2 := fun lo hi h1 h2 h3 h4 => bent_in2 3 (A1, A2) (B1, B2) (C1, C2) (D1, D2) lo hi h1 h2 h3 h4
  generalize bentL 3 (A1, A2) (B1, B2) (C1, C2) (D1, D2) = out at *
  have l7 : ∀ b, ald (some true) (some 2) (some ⟨ptC out, 0, true⟩) b 14 0 = some (ptv (D1, D2), b) := fun b => ald_pt0 (i := 7) hlast
  refine XCal.of hm Try.func3 rfl (fun xs w => Try.call3 xs w) Try.ntmps3 Try.results3 rfl ?_
  simp only [go_sem, Nat.reduceEqDiff, Nat.reduceAdd, Nat.reduceSub, Nat.reduceMul, Nat.reduceLT, Nat.reduceLeDiff, Int.reducePow, Int.reduceBEq, Int.reduceBNe, Int.reduceDiv, Int.reduceMod, Int.reduceEq, Int.reduceLT, Int.reduceLE, Int.reduceAdd, Int.reduceSub, Int.reduceMul, Int.reduceNeg, Int.reduceToNat, Int.reduceTDiv, Int.reduceTMod, ↓reduceIte, ptv]
  refine rounds 5 ?_
  simp only [go_sem, Nat.reduceEqDiff, Nat.reduceAdd, Nat.reduceSub, Nat.reduceMul, Nat.reduceLT, Nat.reduceLeDiff, Int.reducePow, Int.reduceBEq, Int.reduceBNe, Int.reduceDiv, Int.reduceMod, Int.reduceEq, Int.reduceLT, Int.reduceLE, Int.reduceAdd, Int.reduceSub, Int.reduceMul, Int.reduceNeg, Int.reduceToNat, Int.reduceTDiv, Int.reduceTMod, ↓reduceIte]
  repeat ((first | refine (bd _).x ?_ | refine drawnF ?_ (by decide +kernel)); simp only [go_sem, Nat.reduceEqDiff, Nat.reduceAdd, Nat.reduceSub, Nat.reduceMul, Nat.reduceLT, Nat.reduceLeDiff, Int.reducePow, Int.reduceBEq, Int.reduceBNe, Int.reduceDiv, Int.reduceMod, Int.reduceEq, Int.reduceLT, Int.reduceLE, Int.reduceAdd, Int.reduceSub, Int.reduceMul, Int.reduceNeg, Int.reduceToNat, Int.reduceTDiv, Int.reduceTMod, ↓reduceIte, ptv, gA1, gA2, gB1, gB2, gC1, gC2, gD1, gD2, l7, bne_self_eq_false])
  refine rounds 5 ?_
  simp only [go_sem, Nat.reduceEqDiff, Nat.reduceAdd, Nat.reduceSub, Nat.reduceMul, Nat.reduceLT, Nat.reduceLeDiff, Int.reducePow, Int.reduceBEq, Int.reduceBNe, Int.reduceDiv, Int.reduceMod, Int.reduceEq, Int.reduceLT, Int.reduceLE, Int.reduceAdd, Int.reduceSub, Int.reduceMul, Int.reduceNeg, Int.reduceToNat, Int.reduceTDiv, Int.reduceTMod, ↓reduceIte]
  repeat ((first | refine (bd _).x ?_ | refine drawnF ?_ (by decide +kernel)); simp only [go_sem, Nat.reduceEqDiff, Nat.reduceAdd, Nat.reduceSub, Nat.reduceMul, Nat.reduceLT, Nat.reduceLeDiff, Int.reducePow, Int.reduceBEq, Int.reduceBNe, Int.reduceDiv, Int.reduceMod, Int.reduceEq, Int.reduceLT, Int.reduceLE, Int.reduceAdd, Int.reduceSub, Int.reduceMul, Int.reduceNeg, Int.reduceToNat, Int.reduceTDiv, Int.reduceTMod, ↓reduceIte])
  have n1 := mn_le A1 A1
  have n2 := mn_le (mn A1 A1) B1
  have n3 := mn_le (mn (mn A1 A1) B1) C1
  have n4 := mn_le (mn (mn (mn A1 A1) B1) C1) D1
  have m1 := mx_le A1 A1
  have m2 := mx_le (mx A1 A1) B1
  have m3 := mx_le (mx (mx A1 A1) B1) C1
  have m4 := mx_le (mx (mx (mx A1 A1) B1) C1) D1
  have n5 := mn_le A2 A2
  have n6 := mn_le (mn A2 A2) B2
  have n7 := mn_le (mn (mn A2 A2) B2) C2
  have n8 := mn_le (mn (mn (mn A2 A2) B2) C2) D2
  have m5 := mx_le A2 A2
  have m6 := mx_le (mx A2 A2) B2
  have m7 := mx_le (mx (mx A2 A2) B2) C2
  have m8 := mx_le (mx (mx (mx A2 A2) B2) C2) D2
  have w1 := hin (mn (mn (mn (mn A1 A1) B1) C1) D1) (mx (mx (mx (mx A1 A1) B1) C1) D1) (by constructor <;> (show _ ≤ _) <;> omega) (by constructor <;> (show _ ≤ _) <;> omega) (by constructor <;> (show _ ≤ _) <;> omega) (by constructor <;> (show _ ≤ _) <;> omega)
  have w2 := hin2 (mn (mn (mn (mn A2 A2) B2) C2) D2) (mx (mx (mx (mx A2 A2) B2) C2) D2) (by constructor <;> (show _ ≤ _) <;> omega) (by constructor <;> (show _ ≤ _) <;> omega) (by constructor <;> (show _ ≤ _) <;> omega) (by constructor <;> (show _ ≤ _) <;> omega)
  refine keep (fun k T H' D => D = [] ∧ (∃ x1 x2 x3 x4 x5 L, H' = H ++ (x1 :: x2 :: x3 :: x4 :: x5 :: ⟨ptC out, 0, true⟩ :: L)) ∧ T 11 = sl (H.length + 5) 0 0 8 2 ∧ T 12 = .int .i64 (mn (mn (mn (mn A1 A1) B1) C1) D1) ∧ T 13 = .int .i64 (mx (mx (mx (mx A1 A1) B1) C1) D1) ∧ T 14 = .int .i64 (mn (mn (mn (mn A2 A2) B2) C2) D2) ∧ T 15 = .int .i64 (mx (mx (mx (mx A2 A2) B2) C2) D2) ∧
    T 101 = .int .i64 8 ∧ ∃ i : Nat, i + k = 8 ∧ T 102 = .int .i64 (i : Int)) 8 ⟨rfl, ⟨_, _, _, _, _, _, rfl⟩, by simp only [go_sem, Nat.reduceEqDiff, Nat.reduceAdd, Nat.reduceSub, Nat.reduceMul, Nat.reduceLT, Nat.reduceLeDiff, Int.reducePow, Int.reduceBEq, Int.reduceBNe, Int.reduceDiv, Int.reduceMod, Int.reduceEq, Int.reduceLT, Int.reduceLE, Int.reduceAdd, Int.reduceSub, Int.reduceMul, Int.reduceNeg, Int.reduceToNat, Int.reduceTDiv, Int.reduceTMod, ↓reduceIte], by simp only [go_sem, Nat.reduceEqDiff, Nat.reduceAdd, Nat.reduceSub, Nat.reduceMul, Nat.reduceLT, Nat.reduceLeDiff, Int.reducePow, Int.reduceBEq, Int.reduceBNe, Int.reduceDiv, Int.reduceMod, Int.reduceEq, Int.reduceLT, Int.reduceLE, Int.reduceAdd, Int.reduceSub, Int.reduceMul, Int.reduceNeg, Int.reduceToNat, Int.reduceTDiv, Int.reduceTMod, ↓reduceIte] <;> rfl, by simp only [go_sem, Nat.reduceEqDiff, Nat.reduceAdd, Nat.reduceSub, Nat.reduceMul, Nat.reduceLT, Nat.reduceLeDiff, Int.reducePow, Int.reduceBEq, Int.reduceBNe, Int.reduceDiv, Int.reduceMod, Int.reduceEq, Int.reduceLT, Int.reduceLE, Int.reduceAdd, Int.reduceSub, Int.reduceMul, Int.reduceNeg, Int.reduceToNat, Int.reduceTDiv, Int.reduceTMod, ↓reduceIte] <;> rfl, by simp only [go_sem, Nat.reduceEqDiff, Nat.reduceAdd, Nat.reduceSub, Nat.reduceMul, Nat.reduceLT, Nat.reduceLeDiff, Int.reducePow, Int.reduceBEq, Int.reduceBNe, Int.reduceDiv, Int.reduceMod, Int.reduceEq, Int.reduceLT, Int.reduceLE, Int.reduceAdd, Int.reduceSub, Int.reduceMul, Int.reduceNeg, Int.reduceToNat, Int.reduceTDiv, Int.reduceTMod, ↓reduceIte] <;> rfl, by simp only [go_sem, Nat.reduceEqDiff, Nat.reduceAdd, Nat.reduceSub, Nat.reduceMul, Nat.reduceLT, Nat.reduceLeDiff, Int.reducePow, Int.reduceBEq, Int.reduceBNe, Int.reduceDiv, Int.reduceMod, Int.reduceEq, Int.reduceLT, Int.reduceLE, Int.reduceAdd, Int.reduceSub, Int.reduceMul, Int.reduceNeg, Int.reduceToNat, Int.reduceTDiv, Int.reduceTMod, ↓reduceIte] <;> rfl, by simp only [go_sem, Nat.reduceEqDiff, Nat.reduceAdd, Nat.reduceSub, Nat.reduceMul, Nat.reduceLT, Nat.reduceLeDiff, Int.reducePow, Int.reduceBEq, Int.reduceBNe, Int.reduceDiv, Int.reduceMod, Int.reduceEq, Int.reduceLT, Int.reduceLE, Int.reduceAdd, Int.reduceSub, Int.reduceMul, Int.reduceNeg, Int.reduceToNat, Int.reduceTDiv, Int.reduceTMod, ↓reduceIte], 0, rfl, by simp only [go_sem, Nat.reduceEqDiff, Nat.reduceAdd, Nat.reduceSub, Nat.reduceMul, Nat.reduceLT, Nat.reduceLeDiff, Int.reducePow, Int.reduceBEq, Int.reduceBNe, Int.reduceDiv, Int.reduceMod, Int.reduceEq, Int.reduceLT, Int.reduceLE, Int.reduceAdd, Int.reduceSub, Int.reduceMul, Int.reduceNeg, Int.reduceToNat, Int.reduceTDiv, Int.reduceTMod, ↓reduceIte] <;> rfl⟩ ?_
  rintro k T H' D ⟨rfl, ⟨x1, x2, x3, x4, x5, L, rfl⟩, h11, h12, h13, h14, h15, h101, i, hi, h102⟩
  have hlen : out.length = 8 := hlen
  by_cases hk : i < 8
  · have hel : out[i]? = some out[i] := List.getElem?_eq_getElem (by omega)
    generalize out[i] = p at hel
    have hp := List.mem_of_getElem? hel
    have v1 := w1 p hp
    have v2 := w2 p hp
    obtain ⟨c1, c2⟩ := ptC_get out i p [] hel
    rw [List.append_nil] at c1 c2
    simp only [go_sem, Nat.reduceEqDiff, Nat.reduceAdd, Nat.reduceSub, Nat.reduceMul, Nat.reduceLT, Nat.reduceLeDiff, Int.reducePow, Int.reduceBEq, Int.reduceBNe, Int.reduceDiv, Int.reduceMod, Int.reduceEq, Int.reduceLT, Int.reduceLE, Int.reduceAdd, Int.reduceSub, Int.reduceMul, Int.reduceNeg, Int.reduceToNat, Int.reduceTDiv, Int.reduceTMod, ↓reduceIte, h11, h12, h13, h14, h15, h101, h102, dt (show (i : Int) < 8 by omega), show (0 : Int) ≤ (i : Int) by omega, show (i : Int) < 8 by omega, Int.toNat_natCast, Nat.zero_add, Nat.add_zero, c1, c2, df (Int.not_lt.2 v1.1), df (Int.not_lt.2 v1.2), df (Int.not_lt.2 v2.1), df (Int.not_lt.2 v2.2)]
    exact ⟨k - 1, by omega, ⟨_, _, _, _, _, _, rfl⟩, i + 1, by omega, by rw [wi (by omega) (by omega)]; rfl⟩
  · simp only [go_sem, Nat.reduceEqDiff, Nat.reduceAdd, Nat.reduceSub, Nat.reduceMul, Nat.reduceLT, Nat.reduceLeDiff, Int.reducePow, Int.reduceBEq, Int.reduceBNe, Int.reduceDiv, Int.reduceMod, Int.reduceEq, Int.reduceLT, Int.reduceLE, Int.reduceAdd, Int.reduceSub, Int.reduceMul, Int.reduceNeg, Int.reduceToNat, Int.reduceTDiv, Int.reduceTMod, ↓reduceIte, h11, h12, h13, h14, h15, h101, h102, df (show ¬ (i : Int) < 8 by omega)]
    repeat ((first | refine (fknown_ _).x ?_ | refine drawnF ?_ (by decide +kernel)); simp only [go_sem, Nat.reduceEqDiff, Nat.reduceAdd, Nat.reduceSub, Nat.reduceMul, Nat.reduceLT, Nat.reduceLeDiff, Int.reducePow, Int.reduceBEq, Int.reduceBNe, Int.reduceDiv, Int.reduceMod, Int.reduceEq, Int.reduceLT, Int.reduceLE, Int.reduceAdd, Int.reduceSub, Int.reduceMul, Int.reduceNeg, Int.reduceToNat, Int.reduceTDiv, Int.reduceTMod, ↓reduceIte])
end Go.Proofs.Ythoclopeajkcpaa
