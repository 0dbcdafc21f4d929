/- Merged texts: Box1 Box2 Box3 Box4 Box5. -/
import Derived.Test.YthoclopeajkcpaaZ5
/- Chapter 14: the walks of boxes. -/
namespace Go.Proofs.Ythoclopeajkcpaa
open Go Go.RowKit E
attribute [local irreducible] XRun XOps XCode XCal XLoop XQ SemCall
set_option linter.unusedSimpArgs false
set_option linter.unusedVariables false
structure B4 where
  x0 : Int
  y0 : Int
  x1 : Int
  y1 : Int
deriving DecidableEq
abbrev bx (a b c d : Int) : Value := .agg [.int .i64 a, .int .i64 b, .int .i64 c, .int .i64 d].toArray
abbrev B4.val (b : B4) : Value := bx b.x0 b.y0 b.x1 b.y1
abbrev B4.I (b : B4) : Prop := I64 b.x0 ∧ I64 b.y0 ∧ I64 b.x1 ∧ I64 b.y1
def emp (b : B4) : Bool := decide (b.x1 ≤ b.x0) || decide (b.y1 ≤ b.y0)
def meet0 (a b : B4) : B4 := ⟨mx a.x0 b.x0, mx a.y0 b.y0, mn a.x1 b.x1, mn a.y1 b.y1⟩
def join0 (a b : B4) : B4 := ⟨mn a.x0 b.x0, mn a.y0 b.y0, mx a.x1 b.x1, mx a.y1 b.y1⟩
def zero4 : B4 := ⟨0, 0, 0, 0⟩
def meet (a b : B4) : B4 := if emp (meet0 a b) = true then zero4 else meet0 a b
def join (a b : B4) : B4 := if (emp a && emp b) = true then zero4 else if emp a = true then b else if emp b = true then a else join0 a b
def has (b : B4) (x y : Int) : Bool := decide (b.x0 ≤ x) && decide (x < b.x1) && decide (b.y0 ≤ y) && decide (y < b.y1)
def upS (x : Int) : Int := (x + 65535) / 65536
theorem and_16 (x : Int) : bits .and .i64 x 65535 = x % 65536 := and_i64 x 16 (by decide)
theorem up_ (x : Int) (hx : I64 x) (H : AH) : SemCall Try.prog 64 [.int .i64 x] H (.int .i64 (upS x)) H [] := by
  refine pure_of ?_ rfl
  unfold upS
  by_cases h : x % 65536 = 0
  · have e : x / 65536 = (x + 65535) / 65536 := by omega
    refine XCal.of hm Try.func64 rfl (fun xs w => Try.call64 xs w) Try.ntmps64 Try.results64 rfl ?_
    simp only [go_sem, Nat.reduceEqDiff, Nat.reduceAdd, Nat.reduceSub, Nat.reduceMul, Nat.reduceLT, Nat.reduceLeDiff, Int.reducePow, Int.reduceBEq, Int.reduceBNe, Int.reduceDiv, Int.reduceMod, Int.reduceEq, Int.reduceLT, Int.reduceLE, Int.reduceAdd, Int.reduceSub, Int.reduceMul, Int.reduceNeg, Int.reduceToNat, Int.reduceTDiv, Int.reduceTMod, ↓reduceIte, and_16, nt h, e]
  · have e : IntKind.i64.wrap (x / 65536 + 1) = (x + 65535) / 65536 := by rw [wi (by omega) (by omega)]; omega
    refine XCal.of hm Try.func64 rfl (fun xs w => Try.call64 xs w) Try.ntmps64 Try.results64 rfl ?_
    simp only [go_sem, Nat.reduceEqDiff, Nat.reduceAdd, Nat.reduceSub, Nat.reduceMul, Nat.reduceLT, Nat.reduceLeDiff, Int.reducePow, Int.reduceBEq, Int.reduceBNe, Int.reduceDiv, Int.reduceMod, Int.reduceEq, Int.reduceLT, Int.reduceLE, Int.reduceAdd, Int.reduceSub, Int.reduceMul, Int.reduceNeg, Int.reduceToNat, Int.reduceTDiv, Int.reduceTMod, ↓reduceIte, and_16, nf h, e]
theorem rup_ (x : Int) (hx : I64 x) (H : AH) : SemCall Try.prog 65 [.int .i64 x] H (.int .i64 (upS x)) H [] := by
  refine pure_of ?_ rfl
  have w : IntKind.i64.wrap (x / 65536 * 65536) = x / 65536 * 65536 := wi (by omega) (by omega)
  unfold upS
  by_cases h : x / 65536 * 65536 = x
  · have e : x / 65536 = (x + 65535) / 65536 := by omega
    rw [e] at w h
    refine XCal.of hm Try.func65 rfl (fun xs w => Try.call65 xs w) Try.ntmps65 Try.results65 rfl ?_
    simp only [go_sem, Nat.reduceEqDiff, Nat.reduceAdd, Nat.reduceSub, Nat.reduceMul, Nat.reduceLT, Nat.reduceLeDiff, Int.reducePow, Int.reduceBEq, Int.reduceBNe, Int.reduceDiv, Int.reduceMod, Int.reduceEq, Int.reduceLT, Int.reduceLE, Int.reduceAdd, Int.reduceSub, Int.reduceMul, Int.reduceNeg, Int.reduceToNat, Int.reduceTDiv, Int.reduceTMod, ↓reduceIte, e, w, nt h]
  · have e : IntKind.i64.wrap (x / 65536 + 1) = (x + 65535) / 65536 := by rw [wi (by omega) (by omega)]; omega
    refine XCal.of hm Try.func65 rfl (fun xs w => Try.call65 xs w) Try.ntmps65 Try.results65 rfl ?_
    simp only [go_sem, Nat.reduceEqDiff, Nat.reduceAdd, Nat.reduceSub, Nat.reduceMul, Nat.reduceLT, Nat.reduceLeDiff, Int.reducePow, Int.reduceBEq, Int.reduceBNe, Int.reduceDiv, Int.reduceMod, Int.reduceEq, Int.reduceLT, Int.reduceLE, Int.reduceAdd, Int.reduceSub, Int.reduceMul, Int.reduceNeg, Int.reduceToNat, Int.reduceTDiv, Int.reduceTMod, ↓reduceIte, w, nf h, e]
theorem bempty_ (b : B4) (H : AH) : SemCall Try.prog 37 [b.val] H (.bool (emp b)) H [] := by
  refine pure_of ?_ rfl
  unfold emp
  cases h : decide (b.x1 ≤ b.x0)
  all_goals
    refine XCal.of hm Try.func37 rfl (fun xs w => Try.call37 xs w) Try.ntmps37 Try.results37 rfl ?_
    simp only [go_sem, Nat.reduceEqDiff, Nat.reduceAdd, Nat.reduceSub, Nat.reduceMul, Nat.reduceLT, Nat.reduceLeDiff, Int.reducePow, Int.reduceBEq, Int.reduceBNe, Int.reduceDiv, Int.reduceMod, Int.reduceEq, Int.reduceLT, Int.reduceLE, Int.reduceAdd, Int.reduceSub, Int.reduceMul, Int.reduceNeg, Int.reduceToNat, Int.reduceTDiv, Int.reduceTMod, ↓reduceIte, h]
theorem rempty_ (b : B4) (H : AH) : SemCall Try.prog 57 [b.val] H (.bool (emp b)) H [] := by
  refine pure_of ?_ rfl
  unfold emp
  cases h : decide (b.x1 ≤ b.x0)
  all_goals
    refine XCal.of hm Try.func57 rfl (fun xs w => Try.call57 xs w) Try.ntmps57 Try.results57 rfl ?_
    simp only [go_sem, Nat.reduceEqDiff, Nat.reduceAdd, Nat.reduceSub, Nat.reduceMul, Nat.reduceLT, Nat.reduceLeDiff, Int.reducePow, Int.reduceBEq, Int.reduceBNe, Int.reduceDiv, Int.reduceMod, Int.reduceEq, Int.reduceLT, Int.reduceLE, Int.reduceAdd, Int.reduceSub, Int.reduceMul, Int.reduceNeg, Int.reduceToNat, Int.reduceTDiv, Int.reduceTMod, ↓reduceIte, h]
theorem has_ (b : B4) (x y : Int) (H : AH) : SemCall Try.prog 27 [b.val, .int .i64 x, .int .i64 y] H (.bool (has b x y)) H [] := by
  refine pure_of ?_ rfl
  unfold has
  cases h1 : decide (b.x0 ≤ x) with
  | false =>
    refine XCal.of hm Try.func27 rfl (fun xs w => Try.call27 xs w) Try.ntmps27 Try.results27 rfl ?_
    simp only [go_sem, Nat.reduceEqDiff, Nat.reduceAdd, Nat.reduceSub, Nat.reduceMul, Nat.reduceLT, Nat.reduceLeDiff, Int.reducePow, Int.reduceBEq, Int.reduceBNe, Int.reduceDiv, Int.reduceMod, Int.reduceEq, Int.reduceLT, Int.reduceLE, Int.reduceAdd, Int.reduceSub, Int.reduceMul, Int.reduceNeg, Int.reduceToNat, Int.reduceTDiv, Int.reduceTMod, ↓reduceIte, h1]
  | true =>
    cases h2 : decide (x < b.x1) with
    | false =>
      refine XCal.of hm Try.func27 rfl (fun xs w => Try.call27 xs w) Try.ntmps27 Try.results27 rfl ?_
      simp only [go_sem, Nat.reduceEqDiff, Nat.reduceAdd, Nat.reduceSub, Nat.reduceMul, Nat.reduceLT, Nat.reduceLeDiff, Int.reducePow, Int.reduceBEq, Int.reduceBNe, Int.reduceDiv, Int.reduceMod, Int.reduceEq, Int.reduceLT, Int.reduceLE, Int.reduceAdd, Int.reduceSub, Int.reduceMul, Int.reduceNeg, Int.reduceToNat, Int.reduceTDiv, Int.reduceTMod, ↓reduceIte, h1, h2]
    | true =>
      cases h3 : decide (b.y0 ≤ y) with
      | false =>
        refine XCal.of hm Try.func27 rfl (fun xs w => Try.call27 xs w) Try.ntmps27 Try.results27 rfl ?_
        simp only [go_sem, Nat.reduceEqDiff, Nat.reduceAdd, Nat.reduceSub, Nat.reduceMul, Nat.reduceLT, Nat.reduceLeDiff, Int.reducePow, Int.reduceBEq, Int.reduceBNe, Int.reduceDiv, Int.reduceMod, Int.reduceEq, Int.reduceLT, Int.reduceLE, Int.reduceAdd, Int.reduceSub, Int.reduceMul, Int.reduceNeg, Int.reduceToNat, Int.reduceTDiv, Int.reduceTMod, ↓reduceIte, h1, h2, h3]
      | true =>
        refine XCal.of hm Try.func27 rfl (fun xs w => Try.call27 xs w) Try.ntmps27 Try.results27 rfl ?_
        simp only [go_sem, Nat.reduceEqDiff, Nat.reduceAdd, Nat.reduceSub, Nat.reduceMul, Nat.reduceLT, Nat.reduceLeDiff, Int.reducePow, Int.reduceBEq, Int.reduceBNe, Int.reduceDiv, Int.reduceMod, Int.reduceEq, Int.reduceLT, Int.reduceLE, Int.reduceAdd, Int.reduceSub, Int.reduceMul, Int.reduceNeg, Int.reduceToNat, Int.reduceTDiv, Int.reduceTMod, ↓reduceIte, h1, h2, h3]
theorem rhas_ (b : B4) (x y : Int) (H : AH) : SemCall Try.prog 60 [b.val, .int .i64 x, .int .i64 y] H (.bool (has b x y)) H [] := by
  refine pure_of ?_ rfl
  unfold has
  cases h1 : decide (b.x0 ≤ x) with
  | false =>
    refine XCal.of hm Try.func60 rfl (fun xs w => Try.call60 xs w) Try.ntmps60 Try.results60 rfl ?_
    simp only [go_sem, Nat.reduceEqDiff, Nat.reduceAdd, Nat.reduceSub, Nat.reduceMul, Nat.reduceLT, Nat.reduceLeDiff, Int.reducePow, Int.reduceBEq, Int.reduceBNe, Int.reduceDiv, Int.reduceMod, Int.reduceEq, Int.reduceLT, Int.reduceLE, Int.reduceAdd, Int.reduceSub, Int.reduceMul, Int.reduceNeg, Int.reduceToNat, Int.reduceTDiv, Int.reduceTMod, ↓reduceIte, h1]
  | true =>
    cases h2 : decide (x < b.x1) with
    | false =>
      refine XCal.of hm Try.func60 rfl (fun xs w => Try.call60 xs w) Try.ntmps60 Try.results60 rfl ?_
      simp only [go_sem, Nat.reduceEqDiff, Nat.reduceAdd, Nat.reduceSub, Nat.reduceMul, Nat.reduceLT, Nat.reduceLeDiff, Int.reducePow, Int.reduceBEq, Int.reduceBNe, Int.reduceDiv, Int.reduceMod, Int.reduceEq, Int.reduceLT, Int.reduceLE, Int.reduceAdd, Int.reduceSub, Int.reduceMul, Int.reduceNeg, Int.reduceToNat, Int.reduceTDiv, Int.reduceTMod, ↓reduceIte, h1, h2]
    | true =>
      cases h3 : decide (b.y0 ≤ y) with
      | false =>
        refine XCal.of hm Try.func60 rfl (fun xs w => Try.call60 xs w) Try.ntmps60 Try.results60 rfl ?_
        simp only [go_sem, Nat.reduceEqDiff, Nat.reduceAdd, Nat.reduceSub, Nat.reduceMul, Nat.reduceLT, Nat.reduceLeDiff, Int.reducePow, Int.reduceBEq, Int.reduceBNe, Int.reduceDiv, Int.reduceMod, Int.reduceEq, Int.reduceLT, Int.reduceLE, Int.reduceAdd, Int.reduceSub, Int.reduceMul, Int.reduceNeg, Int.reduceToNat, Int.reduceTDiv, Int.reduceTMod, ↓reduceIte, h1, h2, h3]
      | true =>
        refine XCal.of hm Try.func60 rfl (fun xs w => Try.call60 xs w) Try.ntmps60 Try.results60 rfl ?_
        simp only [go_sem, Nat.reduceEqDiff, Nat.reduceAdd, Nat.reduceSub, Nat.reduceMul, Nat.reduceLT, Nat.reduceLeDiff, Int.reducePow, Int.reduceBEq, Int.reduceBNe, Int.reduceDiv, Int.reduceMod, Int.reduceEq, Int.reduceLT, Int.reduceLE, Int.reduceAdd, Int.reduceSub, Int.reduceMul, Int.reduceNeg, Int.reduceToNat, Int.reduceTDiv, Int.reduceTMod, ↓reduceIte, h1, h2, h3]
theorem mn_def (x y : Int) : (if y < x then y else x) = mn x y := rfl
theorem mx_def (x y : Int) : (if x < y then y else x) = mx x y := rfl
theorem meet_ (a b : B4) (H : AH) : SemCall Try.prog 35 [a.val, b.val] H (meet a b).val H [] := by
  refine pure_of ?_ rfl
  have e := fun H => bempty_ (meet0 a b) H
  unfold meet
  cases h : emp (meet0 a b)
  all_goals
    refine XCal.of hm Try.func35 rfl (fun xs w => Try.call35 xs w) Try.ntmps35 Try.results35 rfl ?_
    simp only [go_sem, Nat.reduceEqDiff, Nat.reduceAdd, Nat.reduceSub, Nat.reduceMul, Nat.reduceLT, Nat.reduceLeDiff, Int.reducePow, Int.reduceBEq, Int.reduceBNe, Int.reduceDiv, Int.reduceMod, Int.reduceEq, Int.reduceLT, Int.reduceLE, Int.reduceAdd, Int.reduceSub, Int.reduceMul, Int.reduceNeg, Int.reduceToNat, Int.reduceTDiv, Int.reduceTMod, ↓reduceIte]
    repeat ((first | refine (e _).x ?_ | refine drawnF ?_ (by decide +kernel)); simp only [go_sem, Nat.reduceEqDiff, Nat.reduceAdd, Nat.reduceSub, Nat.reduceMul, Nat.reduceLT, Nat.reduceLeDiff, Int.reducePow, Int.reduceBEq, Int.reduceBNe, Int.reduceDiv, Int.reduceMod, Int.reduceEq, Int.reduceLT, Int.reduceLE, Int.reduceAdd, Int.reduceSub, Int.reduceMul, Int.reduceNeg, Int.reduceToNat, Int.reduceTDiv, Int.reduceTMod, ↓reduceIte, h, zero4])
    try rfl
theorem join_ (a b : B4) (H : AH) : SemCall Try.prog 36 [a.val, b.val] H (join a b).val H [] := by
  refine pure_of ?_ rfl
  unfold join
  cases h : emp a <;> cases k : emp b
  all_goals
    refine XCal.of hm Try.func36 rfl (fun xs w => Try.call36 xs w) Try.ntmps36 Try.results36 rfl ?_
    simp only [go_sem, Nat.reduceEqDiff, Nat.reduceAdd, Nat.reduceSub, Nat.reduceMul, Nat.reduceLT, Nat.reduceLeDiff, Int.reducePow, Int.reduceBEq, Int.reduceBNe, Int.reduceDiv, Int.reduceMod, Int.reduceEq, Int.reduceLT, Int.reduceLE, Int.reduceAdd, Int.reduceSub, Int.reduceMul, Int.reduceNeg, Int.reduceToNat, Int.reduceTDiv, Int.reduceTMod, ↓reduceIte]
    repeat ((first | refine (bempty_ a _).x ?_ | refine (bempty_ b _).x ?_ | refine drawnF ?_ (by decide +kernel)); simp only [go_sem, Nat.reduceEqDiff, Nat.reduceAdd, Nat.reduceSub, Nat.reduceMul, Nat.reduceLT, Nat.reduceLeDiff, Int.reducePow, Int.reduceBEq, Int.reduceBNe, Int.reduceDiv, Int.reduceMod, Int.reduceEq, Int.reduceLT, Int.reduceLE, Int.reduceAdd, Int.reduceSub, Int.reduceMul, Int.reduceNeg, Int.reduceToNat, Int.reduceTDiv, Int.reduceTMod, ↓reduceIte, h, k, zero4])
    try rfl
theorem rjoin_ (a b : B4) (H : AH) : SemCall Try.prog 58 [a.val, b.val] H (join a b).val H [] := by
  refine pure_of ?_ rfl
  unfold join
  cases h : emp a <;> cases k : emp b
  all_goals
    refine XCal.of hm Try.func58 rfl (fun xs w => Try.call58 xs w) Try.ntmps58 Try.results58 rfl ?_
    simp only [go_sem, Nat.reduceEqDiff, Nat.reduceAdd, Nat.reduceSub, Nat.reduceMul, Nat.reduceLT, Nat.reduceLeDiff, Int.reducePow, Int.reduceBEq, Int.reduceBNe, Int.reduceDiv, Int.reduceMod, Int.reduceEq, Int.reduceLT, Int.reduceLE, Int.reduceAdd, Int.reduceSub, Int.reduceMul, Int.reduceNeg, Int.reduceToNat, Int.reduceTDiv, Int.reduceTMod, ↓reduceIte]
    repeat ((first | refine (rempty_ a _).x ?_ | refine (rempty_ b _).x ?_ | refine drawnF ?_ (by decide +kernel)); simp only [go_sem, Nat.reduceEqDiff, Nat.reduceAdd, Nat.reduceSub, Nat.reduceMul, Nat.reduceLT, Nat.reduceLeDiff, Int.reducePow, Int.reduceBEq, Int.reduceBNe, Int.reduceDiv, Int.reduceMod, Int.reduceEq, Int.reduceLT, Int.reduceLE, Int.reduceAdd, Int.reduceSub, Int.reduceMul, Int.reduceNeg, Int.reduceToNat, Int.reduceTDiv, Int.reduceTMod, ↓reduceIte, h, k, zero4])
    try rfl
theorem emp_meet (a b : B4) (h : emp a = true ∨ emp b = true) : emp (meet0 a b) = true := by
  unfold emp meet0 at *
  simp only [Bool.or_eq_true, decide_eq_true_eq] at *
  have := mx_le a.x0 b.x0
  have := mx_le a.y0 b.y0
  have := mn_le a.x1 b.x1
  have := mn_le a.y1 b.y1
  omega
theorem rmeet_ (a b : B4) (H : AH) : SemCall Try.prog 59 [a.val, b.val] H (meet a b).val H [] := by
  refine pure_of ?_ rfl
  have e := fun H => rempty_ (meet0 a b) H
  have em := emp_meet a b
  unfold meet
  cases h : emp a
  · cases k : emp b
    · cases j : emp (meet0 a b)
      all_goals
        refine XCal.of hm Try.func59 rfl (fun xs w => Try.call59 xs w) Try.ntmps59 Try.results59 rfl ?_
        simp only [go_sem, Nat.reduceEqDiff, Nat.reduceAdd, Nat.reduceSub, Nat.reduceMul, Nat.reduceLT, Nat.reduceLeDiff, Int.reducePow, Int.reduceBEq, Int.reduceBNe, Int.reduceDiv, Int.reduceMod, Int.reduceEq, Int.reduceLT, Int.reduceLE, Int.reduceAdd, Int.reduceSub, Int.reduceMul, Int.reduceNeg, Int.reduceToNat, Int.reduceTDiv, Int.reduceTMod, ↓reduceIte]
        repeat ((first | refine (rempty_ a _).x ?_ | refine (rempty_ b _).x ?_ | refine (e _).x ?_ | refine drawnF ?_ (by decide +kernel)); simp only [go_sem, Nat.reduceEqDiff, Nat.reduceAdd, Nat.reduceSub, Nat.reduceMul, Nat.reduceLT, Nat.reduceLeDiff, Int.reducePow, Int.reduceBEq, Int.reduceBNe, Int.reduceDiv, Int.reduceMod, Int.reduceEq, Int.reduceLT, Int.reduceLE, Int.reduceAdd, Int.reduceSub, Int.reduceMul, Int.reduceNeg, Int.reduceToNat, Int.reduceTDiv, Int.reduceTMod, ↓reduceIte, h, k, j, zero4])
        try rfl
    · rw [em (.inr k), if_pos rfl]
      refine XCal.of hm Try.func59 rfl (fun xs w => Try.call59 xs w) Try.ntmps59 Try.results59 rfl ?_
      simp only [go_sem, Nat.reduceEqDiff, Nat.reduceAdd, Nat.reduceSub, Nat.reduceMul, Nat.reduceLT, Nat.reduceLeDiff, Int.reducePow, Int.reduceBEq, Int.reduceBNe, Int.reduceDiv, Int.reduceMod, Int.reduceEq, Int.reduceLT, Int.reduceLE, Int.reduceAdd, Int.reduceSub, Int.reduceMul, Int.reduceNeg, Int.reduceToNat, Int.reduceTDiv, Int.reduceTMod, ↓reduceIte]
      repeat ((first | refine (rempty_ a _).x ?_ | refine (rempty_ b _).x ?_ | refine (e _).x ?_ | refine drawnF ?_ (by decide +kernel)); simp only [go_sem, Nat.reduceEqDiff, Nat.reduceAdd, Nat.reduceSub, Nat.reduceMul, Nat.reduceLT, Nat.reduceLeDiff, Int.reducePow, Int.reduceBEq, Int.reduceBNe, Int.reduceDiv, Int.reduceMod, Int.reduceEq, Int.reduceLT, Int.reduceLE, Int.reduceAdd, Int.reduceSub, Int.reduceMul, Int.reduceNeg, Int.reduceToNat, Int.reduceTDiv, Int.reduceTMod, ↓reduceIte, h, k, zero4])
  · rw [em (.inl h), if_pos rfl]
    refine XCal.of hm Try.func59 rfl (fun xs w => Try.call59 xs w) Try.ntmps59 Try.results59 rfl ?_
    simp only [go_sem, Nat.reduceEqDiff, Nat.reduceAdd, Nat.reduceSub, Nat.reduceMul, Nat.reduceLT, Nat.reduceLeDiff, Int.reducePow, Int.reduceBEq, Int.reduceBNe, Int.reduceDiv, Int.reduceMod, Int.reduceEq, Int.reduceLT, Int.reduceLE, Int.reduceAdd, Int.reduceSub, Int.reduceMul, Int.reduceNeg, Int.reduceToNat, Int.reduceTDiv, Int.reduceTMod, ↓reduceIte]
    repeat ((first | refine (rempty_ a _).x ?_ | refine (rempty_ b _).x ?_ | refine (e _).x ?_ | refine drawnF ?_ (by decide +kernel)); simp only [go_sem, Nat.reduceEqDiff, Nat.reduceAdd, Nat.reduceSub, Nat.reduceMul, Nat.reduceLT, Nat.reduceLeDiff, Int.reducePow, Int.reduceBEq, Int.reduceBNe, Int.reduceDiv, Int.reduceMod, Int.reduceEq, Int.reduceLT, Int.reduceLE, Int.reduceAdd, Int.reduceSub, Int.reduceMul, Int.reduceNeg, Int.reduceToNat, Int.reduceTDiv, Int.reduceTMod, ↓reduceIte, h, zero4])
def scr (w h : Int) : Bool := decide (1 ≤ w) && decide (w ≤ 256) && decide (1 ≤ h) && decide (h ≤ 256)
theorem screen_ (w h : Int) (H : AH) : SemCall Try.prog 56 [.int .i64 w, .int .i64 h] H (.bool (scr w h)) H [] := by
  refine pure_of ?_ rfl
  unfold scr
  cases h1 : decide (1 ≤ w) with
  | false =>
    refine XCal.of hm Try.func56 rfl (fun xs w => Try.call56 xs w) Try.ntmps56 Try.results56 rfl ?_
    simp only [go_sem, Nat.reduceEqDiff, Nat.reduceAdd, Nat.reduceSub, Nat.reduceMul, Nat.reduceLT, Nat.reduceLeDiff, Int.reducePow, Int.reduceBEq, Int.reduceBNe, Int.reduceDiv, Int.reduceMod, Int.reduceEq, Int.reduceLT, Int.reduceLE, Int.reduceAdd, Int.reduceSub, Int.reduceMul, Int.reduceNeg, Int.reduceToNat, Int.reduceTDiv, Int.reduceTMod, ↓reduceIte, h1]
  | true =>
    cases h2 : decide (w ≤ 256) with
    | false =>
      refine XCal.of hm Try.func56 rfl (fun xs w => Try.call56 xs w) Try.ntmps56 Try.results56 rfl ?_
      simp only [go_sem, Nat.reduceEqDiff, Nat.reduceAdd, Nat.reduceSub, Nat.reduceMul, Nat.reduceLT, Nat.reduceLeDiff, Int.reducePow, Int.reduceBEq, Int.reduceBNe, Int.reduceDiv, Int.reduceMod, Int.reduceEq, Int.reduceLT, Int.reduceLE, Int.reduceAdd, Int.reduceSub, Int.reduceMul, Int.reduceNeg, Int.reduceToNat, Int.reduceTDiv, Int.reduceTMod, ↓reduceIte, h1, h2]
    | true =>
      cases h3 : decide (1 ≤ h) with
      | false =>
        refine XCal.of hm Try.func56 rfl (fun xs w => Try.call56 xs w) Try.ntmps56 Try.results56 rfl ?_
        simp only [go_sem, Nat.reduceEqDiff, Nat.reduceAdd, Nat.reduceSub, Nat.reduceMul, Nat.reduceLT, Nat.reduceLeDiff, Int.reducePow, Int.reduceBEq, Int.reduceBNe, Int.reduceDiv, Int.reduceMod, Int.reduceEq, Int.reduceLT, Int.reduceLE, Int.reduceAdd, Int.reduceSub, Int.reduceMul, Int.reduceNeg, Int.reduceToNat, Int.reduceTDiv, Int.reduceTMod, ↓reduceIte, h1, h2, h3]
      | true =>
        refine XCal.of hm Try.func56 rfl (fun xs w => Try.call56 xs w) Try.ntmps56 Try.results56 rfl ?_
        simp only [go_sem, Nat.reduceEqDiff, Nat.reduceAdd, Nat.reduceSub, Nat.reduceMul, Nat.reduceLT, Nat.reduceLeDiff, Int.reducePow, Int.reduceBEq, Int.reduceBNe, Int.reduceDiv, Int.reduceMod, Int.reduceEq, Int.reduceLT, Int.reduceLE, Int.reduceAdd, Int.reduceSub, Int.reduceMul, Int.reduceNeg, Int.reduceToNat, Int.reduceTDiv, Int.reduceTMod, ↓reduceIte, h1, h2, h3]
theorem rsize_ (w h : Int) (H : AH) : SemCall Try.prog 81 [.int .i64 w, .int .i64 h] H (.bool (scr w h)) H [] := by
  refine pure_of ?_ rfl
  unfold scr
  cases h1 : decide (1 ≤ w) with
  | false =>
    refine XCal.of hm Try.func81 rfl (fun xs w => Try.call81 xs w) Try.ntmps81 Try.results81 rfl ?_
    simp only [go_sem, Nat.reduceEqDiff, Nat.reduceAdd, Nat.reduceSub, Nat.reduceMul, Nat.reduceLT, Nat.reduceLeDiff, Int.reducePow, Int.reduceBEq, Int.reduceBNe, Int.reduceDiv, Int.reduceMod, Int.reduceEq, Int.reduceLT, Int.reduceLE, Int.reduceAdd, Int.reduceSub, Int.reduceMul, Int.reduceNeg, Int.reduceToNat, Int.reduceTDiv, Int.reduceTMod, ↓reduceIte, h1]
  | true =>
    cases h2 : decide (w ≤ 256) with
    | false =>
      refine XCal.of hm Try.func81 rfl (fun xs w => Try.call81 xs w) Try.ntmps81 Try.results81 rfl ?_
      simp only [go_sem, Nat.reduceEqDiff, Nat.reduceAdd, Nat.reduceSub, Nat.reduceMul, Nat.reduceLT, Nat.reduceLeDiff, Int.reducePow, Int.reduceBEq, Int.reduceBNe, Int.reduceDiv, Int.reduceMod, Int.reduceEq, Int.reduceLT, Int.reduceLE, Int.reduceAdd, Int.reduceSub, Int.reduceMul, Int.reduceNeg, Int.reduceToNat, Int.reduceTDiv, Int.reduceTMod, ↓reduceIte, h1, h2]
    | true =>
      cases h3 : decide (1 ≤ h) with
      | false =>
        refine XCal.of hm Try.func81 rfl (fun xs w => Try.call81 xs w) Try.ntmps81 Try.results81 rfl ?_
        simp only [go_sem, Nat.reduceEqDiff, Nat.reduceAdd, Nat.reduceSub, Nat.reduceMul, Nat.reduceLT, Nat.reduceLeDiff, Int.reducePow, Int.reduceBEq, Int.reduceBNe, Int.reduceDiv, Int.reduceMod, Int.reduceEq, Int.reduceLT, Int.reduceLE, Int.reduceAdd, Int.reduceSub, Int.reduceMul, Int.reduceNeg, Int.reduceToNat, Int.reduceTDiv, Int.reduceTMod, ↓reduceIte, h1, h2, h3]
      | true =>
        refine XCal.of hm Try.func81 rfl (fun xs w => Try.call81 xs w) Try.ntmps81 Try.results81 rfl ?_
        simp only [go_sem, Nat.reduceEqDiff, Nat.reduceAdd, Nat.reduceSub, Nat.reduceMul, Nat.reduceLT, Nat.reduceLeDiff, Int.reducePow, Int.reduceBEq, Int.reduceBNe, Int.reduceDiv, Int.reduceMod, Int.reduceEq, Int.reduceLT, Int.reduceLE, Int.reduceAdd, Int.reduceSub, Int.reduceMul, Int.reduceNeg, Int.reduceToNat, Int.reduceTDiv, Int.reduceTMod, ↓reduceIte, h1, h2, h3]
end Go.Proofs.Ythoclopeajkcpaa
/- Chapter 14: the walks of what is round all places. -/
namespace Go.Proofs.Ythoclopeajkcpaa
open Go Go.RowKit E
attribute [local irreducible] XRun XOps XCode XCal XLoop XQ SemCall
set_option linter.unusedSimpArgs false
set_option linter.unusedVariables false
abbrev PL := Bool × List Pt
def plC (l : List (Bool × Value)) : List Value := l.flatMap fun p => [.bool p.1, p.2]
theorem plC_len (l : List (Bool × Value)) : (plC l).length = l.length * 2 := by
  induction l with
  | nil => rfl
  | cons x l ih => have : plC (x :: l) = [.bool x.1, x.2] ++ plC l := rfl
                   rw [this, List.length_append, ih]; simp; omega
theorem plC_app (l m : List (Bool × Value)) : plC (l ++ m) = plC l ++ plC m := by simp [plC]
theorem plC_drop : ∀ (l : List (Bool × Value)) (i : Nat) (p : Bool × Value) (rest : List Value), l[i]? = some p → (((plC l ++ rest).drop (i * 2)).take 2) = [.bool p.1, p.2]
  | [], i, p, rest, h => by simp at h
  | x :: l, 0, p, rest, h => by simp at h; subst h; rfl
  | x :: l, i + 1, p, rest, h => by
    have := plC_drop l i p rest (by simpa using h)
    rw [show (i + 1) * 2 = i * 2 + 2 by omega]
    show ((Value.bool x.1 :: x.2 :: (plC l ++ rest)).drop (i * 2 + 2)).take 2 = _
    simpa using this
theorem plC_get : ∀ (l : List (Bool × Value)) (i : Nat) (p : Bool × Value) (rest : List Value), l[i]? = some p → (plC l ++ rest)[i * 2]? = some (.bool p.1) ∧ (plC l ++ rest)[i * 2 + 1]? = some p.2
  | [], i, p, rest, h => by simp at h
  | x :: l, 0, p, rest, h => by simp at h; subst h; exact ⟨rfl, rfl⟩
  | x :: l, i + 1, p, rest, h => by
    have := plC_get l i p rest (by simpa using h)
    rw [show (i + 1) * 2 = i * 2 + 2 by omega]
    exact this
theorem ald_pl {l : List (Bool × Value)} {i b g : Nat} {p : Bool × Value} {rw_ : Bool} (rest : List Value) (h : l[i]? = some p) : ald (some true) (some 2) (some ⟨plC l ++ rest, g, rw_⟩) b (i * 2) g = some (.agg [.bool p.1, p.2].toArray, b) := by
  have hi := (List.getElem?_eq_some_iff.1 h).1
  have : i * 2 + 2 ≤ (plC l ++ rest).length := by rw [List.length_append, plC_len]; omega
  simp only [ald, true_and, this, if_true]
  rw [plC_drop l i p rest h]
/-- Rows of points, as they may lie. -/
def Polys (H : AH) (v : Value) (ps : List PL) : Prop :=
  (ps = [] ∧ ((∃ e, v = .slice (some ⟨0, 0, none⟩) 0 e) ∨ v = .slice none 0 0)) ∨
  ∃ b g rest rw_ vs, v = sl b 0 g ps.length 2 ∧ H[b]? = some ⟨plC vs ++ rest, g, rw_⟩ ∧ vs.length = ps.length ∧ ps.length ≤ 9223372036854775807 ∧ ∀ (i : Nat) x, ps[i]? = some x → ∃ pv, vs[i]? = some (x.1, pv) ∧ Pts H pv x.2
theorem Polys.app {H : AH} {v : Value} {ps : List PL} (h : Polys H v ps) (L : AH) : Polys (H ++ L) v ps := by
  rcases h with h | ⟨b, g, rest, rw_, vs, h1, h2, h3, h4, h5⟩
  · exact .inl h
  · exact .inr ⟨b, g, rest, rw_, vs, h1, old_get h2 L, h3, h4, fun i x hx => by obtain ⟨pv, e1, e2⟩ := h5 i x hx; exact ⟨pv, e1, e2.app L⟩⟩
theorem Polys.form {H : AH} {v : Value} {ps : List PL} (h : Polys H v ps) : ∃ a e, v = .slice a ps.length e := by
  rcases h with ⟨rfl, ⟨e, rfl⟩ | rfl⟩ | ⟨b, g, rest, rw_, vs, rfl, _⟩
  · exact ⟨_, _, rfl⟩
  · exact ⟨_, _, rfl⟩
  · exact ⟨_, _, rfl⟩
theorem Polys.ne {H : AH} {v : Value} {ps : List PL} (h : Polys H v ps) (hn : ¬ ps = []) : ∃ b g rest rw_ vs, v = sl b 0 g ps.length 2 ∧ H[b]? = some ⟨plC vs ++ rest, g, rw_⟩ ∧ vs.length = ps.length ∧ ps.length ≤ 9223372036854775807 ∧ ∀ (i : Nat) x, ps[i]? = some x → ∃ pv, vs[i]? = some (x.1, pv) ∧ Pts H pv x.2 := h.resolve_left fun h => hn h.1
def pbx (p : Pt) : B4 := ⟨p.1 / 65536, p.2 / 65536, upS p.1, upS p.2⟩
def stepB (s : Bool × B4) (p : Pt) : Bool × B4 := (false, join0 (if s.1 = true then pbx p else s.2) (pbx p))
def foldP (s : Bool × B4) (x : PL) : Bool × B4 := x.2.foldl stepB s
def boxOf (ps : List PL) : B4 := (ps.foldl foldP (true, zero4)).2
abbrev b4C (b : B4) : List Value := [.int .i64 b.x0, .int .i64 b.y0, .int .i64 b.x1, .int .i64 b.y1]
theorem getD_some {α : Type} {l : List α} {i : Nat} (h : i < l.length) : ∃ x, l[i]? = some x ∧ l.drop i = x :: l.drop (i + 1) := ⟨l[i], List.getElem?_eq_getElem h, drop_cons h⟩
theorem boxof_ (ps : List PL) (v : Value) (hB : ∀ x ∈ ps, ∀ p ∈ x.2, Ip p) (H : AH) (h : Polys H v ps) : SemCall Try.prog 33 [v] H (boxOf ps).val H [] := by
  refine pure_of ?_ rfl
  by_cases hn : ps = []
  · subst hn
    obtain ⟨a, e, rfl⟩ := h.form
    refine XCal.of hm Try.func33 rfl (fun xs w => Try.call33 xs w) Try.ntmps33 Try.results33 rfl ?_
    simp only [go_sem, Nat.reduceEqDiff, Nat.reduceAdd, Nat.reduceSub, Nat.reduceMul, Nat.reduceLT, Nat.reduceLeDiff, Int.reducePow, Int.reduceBEq, Int.reduceBNe, Int.reduceDiv, Int.reduceMod, Int.reduceEq, Int.reduceLT, Int.reduceLE, Int.reduceAdd, Int.reduceSub, Int.reduceMul, Int.reduceNeg, Int.reduceToNat, Int.reduceTDiv, Int.reduceTMod, ↓reduceIte]
    refine rounds 1 ?_
    simp only [go_sem, Nat.reduceEqDiff, Nat.reduceAdd, Nat.reduceSub, Nat.reduceMul, Nat.reduceLT, Nat.reduceLeDiff, Int.reducePow, Int.reduceBEq, Int.reduceBNe, Int.reduceDiv, Int.reduceMod, Int.reduceEq, Int.reduceLT, Int.reduceLE, Int.reduceAdd, Int.reduceSub, Int.reduceMul, Int.reduceNeg, Int.reduceToNat, Int.reduceTDiv, Int.reduceTMod, ↓reduceIte, List.length_nil, show ((0 : Nat) : Int) = 0 from rfl]
    rfl
  · obtain ⟨b, g, rest, rw_, vs, rfl, hb, hvl, hlen, hel⟩ := h.ne hn
    refine XCal.of hm Try.func33 rfl (fun xs w => Try.call33 xs w) Try.ntmps33 Try.results33 rfl ?_
    simp only [go_sem, Nat.reduceEqDiff, Nat.reduceAdd, Nat.reduceSub, Nat.reduceMul, Nat.reduceLT, Nat.reduceLeDiff, Int.reducePow, Int.reduceBEq, Int.reduceBNe, Int.reduceDiv, Int.reduceMod, Int.reduceEq, Int.reduceLT, Int.reduceLE, Int.reduceAdd, Int.reduceSub, Int.reduceMul, Int.reduceNeg, Int.reduceToNat, Int.reduceTDiv, Int.reduceTMod, ↓reduceIte]
    refine keep (fun k T H' D => D = [] ∧ ∃ (s : Bool × B4) (G : AH) (i : Nat), i + k = ps.length ∧ ((ps.drop i).foldl foldP s).2 = boxOf ps ∧ H' = H ++ (⟨b4C zero4, 0, true⟩ :: ⟨b4C s.2, 0, true⟩ :: G) ∧ T 2 = ap H.length 0 0 ∧ T 3 = ap (H.length + 1) 0 0 ∧ T 4 = .bool s.1 ∧ T 10 = sl b 0 g ps.length 2 ∧ T 11 = .int .i64 (ps.length : Int) ∧ T 12 = .int .i64 (i : Int)) ps.length
      ⟨rfl, (true, zero4), [], 0, by omega, rfl, rfl, rfl, rfl, rfl, rfl, rfl, rfl⟩ ?_
    rintro k T H' D ⟨rfl, s, G, i, hik, hx, rfl, h2, h3, h4, h10, h11, h12⟩
    by_cases hk : i < ps.length
    · obtain ⟨x, hxi, hdr⟩ := getD_some hk
      obtain ⟨pv, hvi, hp⟩ := hel i x hxi
      have hld := fun (b : Nat) => ald_pl (b := b) (g := g) (rw_ := rw_) rest hvi
      have hBx := hB x (List.mem_of_getElem? hxi)
      obtain ⟨a, e, hpv⟩ := hp.form
      have hpl := hp.len
      rw [hdr, List.foldl_cons] at hx
      have hin : ∀ T : Env, T 17 = pv → T 2 = ap H.length 0 0 → T 3 = ap (H.length + 1) 0 0 → T 4 = .bool s.1 → T 10 = sl b 0 g ps.length 2 → T 11 = .int .i64 (ps.length : Int) → T 12 = .int .i64 (i : Int) → T 18 = .int .i64 (x.2.length : Int) → T 19 = .int .i64 0 → True := fun _ _ _ _ _ _ _ _ _ _ => trivial
      subst hpv
      simp only [go_sem, Nat.reduceEqDiff, Nat.reduceAdd, Nat.reduceSub, Nat.reduceMul, Nat.reduceLT, Nat.reduceLeDiff, Int.reducePow, Int.reduceBEq, Int.reduceBNe, Int.reduceDiv, Int.reduceMod, Int.reduceEq, Int.reduceLT, Int.reduceLE, Int.reduceAdd, Int.reduceSub, Int.reduceMul, Int.reduceNeg, Int.reduceToNat, Int.reduceTDiv, Int.reduceTMod, ↓reduceIte, h2, h3, h4, h10, h11, h12, dt (show (i : Int) < (ps.length : Int) by omega), show (0 : Int) ≤ (i : Int) by omega, show (i : Int) < (ps.length : Int) by omega, Int.toNat_natCast, Nat.zero_add, old_get hb, hld]
      refine keep (fun k' T H' D => D = [] ∧ ∃ (s' : Bool × B4) (G : AH) (j : Nat), j + k' = x.2.length ∧ (x.2.drop j).foldl stepB s' = foldP s x ∧ H' = H ++ (⟨b4C zero4, 0, true⟩ :: ⟨b4C s'.2, 0, true⟩ :: G) ∧ T 2 = ap H.length 0 0 ∧ T 3 = ap (H.length + 1) 0 0 ∧ T 4 = .bool s'.1 ∧ T 10 = sl b 0 g ps.length 2 ∧ T 11 = .int .i64 (ps.length : Int) ∧ T 12 = .int .i64 (i : Int) ∧ T 17 = .slice a x.2.length e ∧ T 18 = .int .i64 (x.2.length : Int) ∧ T 19 = .int .i64 (j : Int)) x.2.length
        ⟨rfl, s, _, 0, by omega, rfl, rfl, by simp only [go_sem, Nat.reduceEqDiff, Nat.reduceAdd, Nat.reduceSub, Nat.reduceMul, Nat.reduceLT, Nat.reduceLeDiff, Int.reducePow, Int.reduceBEq, Int.reduceBNe, Int.reduceDiv, Int.reduceMod, Int.reduceEq, Int.reduceLT, Int.reduceLE, Int.reduceAdd, Int.reduceSub, Int.reduceMul, Int.reduceNeg, Int.reduceToNat, Int.reduceTDiv, Int.reduceTMod, ↓reduceIte, h2], by simp only [go_sem, Nat.reduceEqDiff, Nat.reduceAdd, Nat.reduceSub, Nat.reduceMul, Nat.reduceLT, Nat.reduceLeDiff, Int.reducePow, Int.reduceBEq, Int.reduceBNe, Int.reduceDiv, Int.reduceMod, Int.reduceEq, Int.reduceLT, Int.reduceLE, Int.reduceAdd, Int.reduceSub, Int.reduceMul, Int.reduceNeg, Int.reduceToNat, Int.reduceTDiv, Int.reduceTMod, ↓reduceIte, h3], by simp only [go_sem, Nat.reduceEqDiff, Nat.reduceAdd, Nat.reduceSub, Nat.reduceMul, Nat.reduceLT, Nat.reduceLeDiff, Int.reducePow, Int.reduceBEq, Int.reduceBNe, Int.reduceDiv, Int.reduceMod, Int.reduceEq, Int.reduceLT, Int.reduceLE, Int.reduceAdd, Int.reduceSub, Int.reduceMul, Int.reduceNeg, Int.reduceToNat, Int.reduceTDiv, Int.reduceTMod, ↓reduceIte, h4], by simp only [go_sem, Nat.reduceEqDiff, Nat.reduceAdd, Nat.reduceSub, Nat.reduceMul, Nat.reduceLT, Nat.reduceLeDiff, Int.reducePow, Int.reduceBEq, Int.reduceBNe, Int.reduceDiv, Int.reduceMod, Int.reduceEq, Int.reduceLT, Int.reduceLE, Int.reduceAdd, Int.reduceSub, Int.reduceMul, Int.reduceNeg, Int.reduceToNat, Int.reduceTDiv, Int.reduceTMod, ↓reduceIte, h10], by simp only [go_sem, Nat.reduceEqDiff, Nat.reduceAdd, Nat.reduceSub, Nat.reduceMul, Nat.reduceLT, Nat.reduceLeDiff, Int.reducePow, Int.reduceBEq, Int.reduceBNe, Int.reduceDiv, Int.reduceMod, Int.reduceEq, Int.reduceLT, Int.reduceLE, Int.reduceAdd, Int.reduceSub, Int.reduceMul, Int.reduceNeg, Int.reduceToNat, Int.reduceTDiv, Int.reduceTMod, ↓reduceIte, h11], by simp only [go_sem, Nat.reduceEqDiff, Nat.reduceAdd, Nat.reduceSub, Nat.reduceMul, Nat.reduceLT, Nat.reduceLeDiff, Int.reducePow, Int.reduceBEq, Int.reduceBNe, Int.reduceDiv, Int.reduceMod, Int.reduceEq, Int.reduceLT, Int.reduceLE, Int.reduceAdd, Int.reduceSub, Int.reduceMul, Int.reduceNeg, Int.reduceToNat, Int.reduceTDiv, Int.reduceTMod, ↓reduceIte, h12], by simp only [go_sem, Nat.reduceEqDiff, Nat.reduceAdd, Nat.reduceSub, Nat.reduceMul, Nat.reduceLT, Nat.reduceLeDiff, Int.reducePow, Int.reduceBEq, Int.reduceBNe, Int.reduceDiv, Int.reduceMod, Int.reduceEq, Int.reduceLT, Int.reduceLE, Int.reduceAdd, Int.reduceSub, Int.reduceMul, Int.reduceNeg, Int.reduceToNat, Int.reduceTDiv, Int.reduceTMod, ↓reduceIte], by simp only [go_sem, Nat.reduceEqDiff, Nat.reduceAdd, Nat.reduceSub, Nat.reduceMul, Nat.reduceLT, Nat.reduceLeDiff, Int.reducePow, Int.reduceBEq, Int.reduceBNe, Int.reduceDiv, Int.reduceMod, Int.reduceEq, Int.reduceLT, Int.reduceLE, Int.reduceAdd, Int.reduceSub, Int.reduceMul, Int.reduceNeg, Int.reduceToNat, Int.reduceTDiv, Int.reduceTMod, ↓reduceIte], by simp only [go_sem, Nat.reduceEqDiff, Nat.reduceAdd, Nat.reduceSub, Nat.reduceMul, Nat.reduceLT, Nat.reduceLeDiff, Int.reducePow, Int.reduceBEq, Int.reduceBNe, Int.reduceDiv, Int.reduceMod, Int.reduceEq, Int.reduceLT, Int.reduceLE, Int.reduceAdd, Int.reduceSub, Int.reduceMul, Int.reduceNeg, Int.reduceToNat, Int.reduceTDiv, Int.reduceTMod, ↓reduceIte] <;> rfl⟩ ?_
      rintro k' T H' D ⟨rfl, s', G', j, hjk, hy, rfl, h2, h3, h4, h10, h11, h12, h17, h18, h19⟩
      by_cases hk' : j < x.2.length
      · obtain ⟨b2, g2, rest2, rw2, hpe, hb2, _⟩ := hp.ne (fun e => by rw [e] at hk'; simp at hk')
        rw [hpe] at h17
        obtain ⟨p, hpj, hdr2⟩ := getD_some hk'
        have hld2 := fun (b : Nat) => ald_pt (b := b) (g := g2) (rw_ := rw2) rest2 hpj
        have ip := hBx p (List.mem_of_getElem? hpj)
        rw [hdr2, List.foldl_cons] at hy
        obtain ⟨fs, bs⟩ := s'
        simp only [go_sem, Nat.reduceEqDiff, Nat.reduceAdd, Nat.reduceSub, Nat.reduceMul, Nat.reduceLT, Nat.reduceLeDiff, Int.reducePow, Int.reduceBEq, Int.reduceBNe, Int.reduceDiv, Int.reduceMod, Int.reduceEq, Int.reduceLT, Int.reduceLE, Int.reduceAdd, Int.reduceSub, Int.reduceMul, Int.reduceNeg, Int.reduceToNat, Int.reduceTDiv, Int.reduceTMod, ↓reduceIte, h2, h3, h4, h10, h11, h12, h17, h18, h19, dt (show (j : Int) < (x.2.length : Int) by omega), show (0 : Int) ≤ (j : Int) by omega, show (j : Int) < (x.2.length : Int) by omega, Int.toNat_natCast, Nat.zero_add, old_get hb2, hld2, ptv]
        cases fs
        all_goals
          repeat ((first | refine (up_ _ ip.1 _).x ?_ | refine (up_ _ ip.2 _).x ?_ | refine drawnF ?_ (by decide +kernel) | refine drawnU [(0, 8), (1, 8), (2, 8), (3, 8), (4, 8), (5, 8), (8, 9), (8, 10), (0, 11), (1, 11), (2, 11), (3, 11), (4, 11), (5, 11), (8, 13), (11, 13)] (by decide +kernel) ?_); simp only [go_sem, Nat.reduceEqDiff, Nat.reduceAdd, Nat.reduceSub, Nat.reduceMul, Nat.reduceLT, Nat.reduceLeDiff, Int.reducePow, Int.reduceBEq, Int.reduceBNe, Int.reduceDiv, Int.reduceMod, Int.reduceEq, Int.reduceLT, Int.reduceLE, Int.reduceAdd, Int.reduceSub, Int.reduceMul, Int.reduceNeg, Int.reduceToNat, Int.reduceTDiv, Int.reduceTMod, ↓reduceIte, h2, h3, h4, h10, h11, h12, h17, h18, h19, mn_def, mx_def, ptv])
          exact ⟨k' - 1, by omega, (false, _), _, j + 1, by omega, hy, rfl, rfl, hpe.symm, by rw [wi (by omega) (by omega)]; rfl⟩
      · have : x.2.drop j = [] := List.drop_eq_nil_of_le (by omega)
        rw [this, List.foldl_nil] at hy
        subst hy
        simp only [go_sem, Nat.reduceEqDiff, Nat.reduceAdd, Nat.reduceSub, Nat.reduceMul, Nat.reduceLT, Nat.reduceLeDiff, Int.reducePow, Int.reduceBEq, Int.reduceBNe, Int.reduceDiv, Int.reduceMod, Int.reduceEq, Int.reduceLT, Int.reduceLE, Int.reduceAdd, Int.reduceSub, Int.reduceMul, Int.reduceNeg, Int.reduceToNat, Int.reduceTDiv, Int.reduceTMod, ↓reduceIte, h2, h3, h4, h10, h11, h12, h17, h18, h19, df (show ¬ (j : Int) < (x.2.length : Int) by omega)]
        exact ⟨k - 1, by omega, _, _, i + 1, by omega, hx, rfl, rfl, by rw [wi (by omega) (by omega)]; rfl⟩
    · have : ps.drop i = [] := List.drop_eq_nil_of_le (by omega)
      rw [this, List.foldl_nil] at hx
      simp only [go_sem, Nat.reduceEqDiff, Nat.reduceAdd, Nat.reduceSub, Nat.reduceMul, Nat.reduceLT, Nat.reduceLeDiff, Int.reducePow, Int.reduceBEq, Int.reduceBNe, Int.reduceDiv, Int.reduceMod, Int.reduceEq, Int.reduceLT, Int.reduceLE, Int.reduceAdd, Int.reduceSub, Int.reduceMul, Int.reduceNeg, Int.reduceToNat, Int.reduceTDiv, Int.reduceTMod, ↓reduceIte, h2, h3, h4, h10, h11, h12, df (show ¬ (i : Int) < (ps.length : Int) by omega)]
      rw [hx]
end Go.Proofs.Ythoclopeajkcpaa
/- Chapter 14: the walk of the document's own box round all places. -/
namespace Go.Proofs.Ythoclopeajkcpaa
open Go Go.RowKit E
attribute [local irreducible] XRun XOps XCode XCal XLoop XQ SemCall
set_option linter.unusedSimpArgs false
set_option linter.unusedVariables false
theorem rboxof_ (ps : List PL) (v : Value) (hB : ∀ x ∈ ps, ∀ p ∈ x.2, Ip p) (H : AH) (h : Polys H v ps) : SemCall Try.prog 34 [v] H (boxOf ps).val H [] := by
  refine pure_of ?_ rfl
  by_cases hn : ps = []
  · subst hn
    obtain ⟨a, e, rfl⟩ := h.form
    refine XCal.of hm Try.func34 rfl (fun xs w => Try.call34 xs w) Try.ntmps34 Try.results34 rfl ?_
    simp only [go_sem, Nat.reduceEqDiff, Nat.reduceAdd, Nat.reduceSub, Nat.reduceMul, Nat.reduceLT, Nat.reduceLeDiff, Int.reducePow, Int.reduceBEq, Int.reduceBNe, Int.reduceDiv, Int.reduceMod, Int.reduceEq, Int.reduceLT, Int.reduceLE, Int.reduceAdd, Int.reduceSub, Int.reduceMul, Int.reduceNeg, Int.reduceToNat, Int.reduceTDiv, Int.reduceTMod, ↓reduceIte]
    refine rounds 1 ?_
    simp only [go_sem, Nat.reduceEqDiff, Nat.reduceAdd, Nat.reduceSub, Nat.reduceMul, Nat.reduceLT, Nat.reduceLeDiff, Int.reducePow, Int.reduceBEq, Int.reduceBNe, Int.reduceDiv, Int.reduceMod, Int.reduceEq, Int.reduceLT, Int.reduceLE, Int.reduceAdd, Int.reduceSub, Int.reduceMul, Int.reduceNeg, Int.reduceToNat, Int.reduceTDiv, Int.reduceTMod, ↓reduceIte, List.length_nil, show ((0 : Nat) : Int) = 0 from rfl]
    rfl
  · obtain ⟨b, g, rest, rw_, vs, rfl, hb, hvl, hlen, hel⟩ := h.ne hn
    refine XCal.of hm Try.func34 rfl (fun xs w => Try.call34 xs w) Try.ntmps34 Try.results34 rfl ?_
    simp only [go_sem, Nat.reduceEqDiff, Nat.reduceAdd, Nat.reduceSub, Nat.reduceMul, Nat.reduceLT, Nat.reduceLeDiff, Int.reducePow, Int.reduceBEq, Int.reduceBNe, Int.reduceDiv, Int.reduceMod, Int.reduceEq, Int.reduceLT, Int.reduceLE, Int.reduceAdd, Int.reduceSub, Int.reduceMul, Int.reduceNeg, Int.reduceToNat, Int.reduceTDiv, Int.reduceTMod, ↓reduceIte]
    refine keep (fun k T H' D => D = [] ∧ ∃ (s : Bool × B4) (G : AH) (i : Nat), i + k = ps.length ∧ ((ps.drop i).foldl foldP s).2 = boxOf ps ∧ H' = H ++ (⟨b4C zero4, 0, true⟩ :: ⟨b4C s.2, 0, true⟩ :: G) ∧ T 2 = ap H.length 0 0 ∧ T 3 = ap (H.length + 1) 0 0 ∧ T 4 = .bool s.1 ∧ T 0 = sl b 0 g ps.length 2 ∧ T 5 = .int .i64 (i : Int)) ps.length
      ⟨rfl, (true, zero4), [], 0, by omega, rfl, rfl, rfl, rfl, rfl, rfl, rfl⟩ ?_
    rintro k T H' D ⟨rfl, s, G, i, hik, hx, rfl, h2, h3, h4, h0, h5⟩
    by_cases hk : i < ps.length
    · obtain ⟨x, hxi, hdr⟩ := getD_some hk
      obtain ⟨pv, hvi, hp⟩ := hel i x hxi
      have hget := (plC_get vs i _ rest hvi).2
      have hBx := hB x (List.mem_of_getElem? hxi)
      obtain ⟨a, e, hpv⟩ := hp.form
      have hpl := hp.len
      rw [hdr, List.foldl_cons] at hx
      have q0 : (0 : Int) ≤ (i : Int) := by omega
      have q1 : (i : Int) < (ps.length : Int) := by omega
      subst hpv
      simp only [go_sem, Nat.reduceEqDiff, Nat.reduceAdd, Nat.reduceSub, Nat.reduceMul, Nat.reduceLT, Nat.reduceLeDiff, Int.reducePow, Int.reduceBEq, Int.reduceBNe, Int.reduceDiv, Int.reduceMod, Int.reduceEq, Int.reduceLT, Int.reduceLE, Int.reduceAdd, Int.reduceSub, Int.reduceMul, Int.reduceNeg, Int.reduceToNat, Int.reduceTDiv, Int.reduceTMod, ↓reduceIte, h2, h3, h4, h0, h5, dt q1]
      refine keep (fun k' T H' D => D = [] ∧ ∃ (s' : Bool × B4) (G : AH) (j : Nat), j + k' = x.2.length ∧ (x.2.drop j).foldl stepB s' = foldP s x ∧ H' = H ++ (⟨b4C zero4, 0, true⟩ :: ⟨b4C s'.2, 0, true⟩ :: G) ∧ T 2 = ap H.length 0 0 ∧ T 3 = ap (H.length + 1) 0 0 ∧ T 4 = .bool s'.1 ∧ T 0 = sl b 0 g ps.length 2 ∧ T 5 = .int .i64 (i : Int) ∧ T 6 = .int .i64 (j : Int)) x.2.length
        ⟨rfl, s, _, 0, by omega, rfl, rfl, by simp only [go_sem, Nat.reduceEqDiff, Nat.reduceAdd, Nat.reduceSub, Nat.reduceMul, Nat.reduceLT, Nat.reduceLeDiff, Int.reducePow, Int.reduceBEq, Int.reduceBNe, Int.reduceDiv, Int.reduceMod, Int.reduceEq, Int.reduceLT, Int.reduceLE, Int.reduceAdd, Int.reduceSub, Int.reduceMul, Int.reduceNeg, Int.reduceToNat, Int.reduceTDiv, Int.reduceTMod, ↓reduceIte, h2], by simp only [go_sem, Nat.reduceEqDiff, Nat.reduceAdd, Nat.reduceSub, Nat.reduceMul, Nat.reduceLT, Nat.reduceLeDiff, Int.reducePow, Int.reduceBEq, Int.reduceBNe, Int.reduceDiv, Int.reduceMod, Int.reduceEq, Int.reduceLT, Int.reduceLE, Int.reduceAdd, Int.reduceSub, Int.reduceMul, Int.reduceNeg, Int.reduceToNat, Int.reduceTDiv, Int.reduceTMod, ↓reduceIte, h3], by simp only [go_sem, Nat.reduceEqDiff, Nat.reduceAdd, Nat.reduceSub, Nat.reduceMul, Nat.reduceLT, Nat.reduceLeDiff, Int.reducePow, Int.reduceBEq, Int.reduceBNe, Int.reduceDiv, Int.reduceMod, Int.reduceEq, Int.reduceLT, Int.reduceLE, Int.reduceAdd, Int.reduceSub, Int.reduceMul, Int.reduceNeg, Int.reduceToNat, Int.reduceTDiv, Int.reduceTMod, ↓reduceIte, h4], by simp only [go_sem, Nat.reduceEqDiff, Nat.reduceAdd, Nat.reduceSub, Nat.reduceMul, Nat.reduceLT, Nat.reduceLeDiff, Int.reducePow, Int.reduceBEq, Int.reduceBNe, Int.reduceDiv, Int.reduceMod, Int.reduceEq, Int.reduceLT, Int.reduceLE, Int.reduceAdd, Int.reduceSub, Int.reduceMul, Int.reduceNeg, Int.reduceToNat, Int.reduceTDiv, Int.reduceTMod, ↓reduceIte, h0], by simp only [go_sem, Nat.reduceEqDiff, Nat.reduceAdd, Nat.reduceSub, Nat.reduceMul, Nat.reduceLT, Nat.reduceLeDiff, Int.reducePow, Int.reduceBEq, Int.reduceBNe, Int.reduceDiv, Int.reduceMod, Int.reduceEq, Int.reduceLT, Int.reduceLE, Int.reduceAdd, Int.reduceSub, Int.reduceMul, Int.reduceNeg, Int.reduceToNat, Int.reduceTDiv, Int.reduceTMod, ↓reduceIte, h5], by simp only [go_sem, Nat.reduceEqDiff, Nat.reduceAdd, Nat.reduceSub, Nat.reduceMul, Nat.reduceLT, Nat.reduceLeDiff, Int.reducePow, Int.reduceBEq, Int.reduceBNe, Int.reduceDiv, Int.reduceMod, Int.reduceEq, Int.reduceLT, Int.reduceLE, Int.reduceAdd, Int.reduceSub, Int.reduceMul, Int.reduceNeg, Int.reduceToNat, Int.reduceTDiv, Int.reduceTMod, ↓reduceIte] <;> rfl⟩ ?_
      rintro k' T H' D ⟨rfl, s', G', j, hjk, hy, rfl, h2, h3, h4, h0, h5, h6⟩
      by_cases hk' : j < x.2.length
      · obtain ⟨b2, g2, rest2, rw2, hpe, hb2, _⟩ := hp.ne (fun e => by rw [e] at hk'; simp at hk')
        rw [hpe] at hget
        obtain ⟨p, hpj, hdr2⟩ := getD_some hk'
        have hld2 := fun (b : Nat) => ald_pt (b := b) (g := g2) (rw_ := rw2) rest2 hpj
        have ip := hBx p (List.mem_of_getElem? hpj)
        rw [hdr2, List.foldl_cons] at hy
        obtain ⟨fs, bs⟩ := s'
        simp only [go_sem, Nat.reduceEqDiff, Nat.reduceAdd, Nat.reduceSub, Nat.reduceMul, Nat.reduceLT, Nat.reduceLeDiff, Int.reducePow, Int.reduceBEq, Int.reduceBNe, Int.reduceDiv, Int.reduceMod, Int.reduceEq, Int.reduceLT, Int.reduceLE, Int.reduceAdd, Int.reduceSub, Int.reduceMul, Int.reduceNeg, Int.reduceToNat, Int.reduceTDiv, Int.reduceTMod, ↓reduceIte, h2, h3, h4, h0, h5, h6, q0, q1, Int.toNat_natCast, Nat.zero_add, old_get hb, hget, dt (show (j : Int) < (x.2.length : Int) by omega), show (0 : Int) ≤ (j : Int) by omega, show (j : Int) < (x.2.length : Int) by omega, old_get hb2, hld2, ptv]
        cases fs
        all_goals
          repeat ((first | refine (rup_ _ ip.1 _).x ?_ | refine (rup_ _ ip.2 _).x ?_ | refine drawnF ?_ (by decide +kernel) | refine drawnU [(0, 8), (1, 8), (2, 8), (3, 8), (4, 8), (5, 8), (8, 9), (8, 10), (0, 11), (1, 11), (2, 11), (3, 11), (4, 11), (5, 11)] (by decide +kernel) ?_); simp only [go_sem, Nat.reduceEqDiff, Nat.reduceAdd, Nat.reduceSub, Nat.reduceMul, Nat.reduceLT, Nat.reduceLeDiff, Int.reducePow, Int.reduceBEq, Int.reduceBNe, Int.reduceDiv, Int.reduceMod, Int.reduceEq, Int.reduceLT, Int.reduceLE, Int.reduceAdd, Int.reduceSub, Int.reduceMul, Int.reduceNeg, Int.reduceToNat, Int.reduceTDiv, Int.reduceTMod, ↓reduceIte, h2, h3, h4, h0, h5, h6, mn_def, mx_def, ptv])
          exact ⟨k' - 1, by omega, (false, _), _, j + 1, by omega, hy, rfl, rfl, by rw [wi (by omega) (by omega)]; rfl⟩
      · have : x.2.drop j = [] := List.drop_eq_nil_of_le (by omega)
        rw [this, List.foldl_nil] at hy
        subst hy
        simp only [go_sem, Nat.reduceEqDiff, Nat.reduceAdd, Nat.reduceSub, Nat.reduceMul, Nat.reduceLT, Nat.reduceLeDiff, Int.reducePow, Int.reduceBEq, Int.reduceBNe, Int.reduceDiv, Int.reduceMod, Int.reduceEq, Int.reduceLT, Int.reduceLE, Int.reduceAdd, Int.reduceSub, Int.reduceMul, Int.reduceNeg, Int.reduceToNat, Int.reduceTDiv, Int.reduceTMod, ↓reduceIte, h2, h3, h4, h0, h5, h6, q0, q1, Int.toNat_natCast, Nat.zero_add, old_get hb, hget, df (show ¬ (j : Int) < (x.2.length : Int) by omega)]
        exact ⟨k - 1, by omega, _, _, i + 1, by omega, hx, rfl, rfl, by rw [wi (by omega) (by omega)]; rfl⟩
    · have : ps.drop i = [] := List.drop_eq_nil_of_le (by omega)
      rw [this, List.foldl_nil] at hx
      simp only [go_sem, Nat.reduceEqDiff, Nat.reduceAdd, Nat.reduceSub, Nat.reduceMul, Nat.reduceLT, Nat.reduceLeDiff, Int.reducePow, Int.reduceBEq, Int.reduceBNe, Int.reduceDiv, Int.reduceMod, Int.reduceEq, Int.reduceLT, Int.reduceLE, Int.reduceAdd, Int.reduceSub, Int.reduceMul, Int.reduceNeg, Int.reduceToNat, Int.reduceTDiv, Int.reduceTMod, ↓reduceIte, h2, h3, h4, h0, h5, df (show ¬ (i : Int) < (ps.length : Int) by omega)]
      rw [hx]
def tl2 (l : List (Int × Int)) : List Value := ptC l
/-- The tiles of rows: from x0 to x1 in each row from y0 to y1. -/
def rowT (y : Int) (x0 : Int) : Nat → List (Int × Int)
  | 0 => []
  | n + 1 => (x0, y) :: rowT y (x0 + 1) n
def rowsT (x0 : Int) (nx : Nat) (y0 : Int) : Nat → List (Int × Int)
  | 0 => []
  | n + 1 => rowT y0 x0 nx ++ rowsT x0 nx (y0 + 1) n
def tilesOf (b : B4) (w h : Int) : List (Int × Int) :=
  if scr w h = true then
    let m := meet b ⟨0, 0, w, h⟩
    if emp m = true then [] else rowsT (m.x0 / 8) ((m.x1 - 1) / 8 + 1 - m.x0 / 8).toNat (m.y0 / 8) ((m.y1 - 1) / 8 + 1 - m.y0 / 8).toNat
  else []
theorem rowT_len (y x0 : Int) : ∀ n, (rowT y x0 n).length = n
  | 0 => rfl
  | n + 1 => by simp [rowT, rowT_len y (x0 + 1) n]
end Go.Proofs.Ythoclopeajkcpaa
/- Chapter 14: the walk of tiles. -/
namespace Go.Proofs.Ythoclopeajkcpaa
open Go Go.RowKit E
attribute [local irreducible] XRun XOps XCode XCal XLoop XQ SemCall
set_option linter.unusedSimpArgs false
set_option linter.unusedVariables false
theorem rowsT_len (x0 : Int) (nx : Nat) : ∀ (n : Nat) (y : Int), (rowsT x0 nx y n).length = n * nx
  | 0, y => by simp [rowsT]
  | n + 1, y => by simp [rowsT, rowT_len, rowsT_len x0 nx n, Nat.add_mul]; omega
theorem scr_b {w h : Int} (hs : scr w h = true) : 1 ≤ w ∧ w ≤ 256 ∧ 1 ≤ h ∧ h ≤ 256 := by
  simp only [scr, Bool.and_eq_true, decide_eq_true_eq] at hs; omega
theorem meet_in (b : B4) {w h : Int} (hs : scr w h = true) (he : emp (meet b ⟨0, 0, w, h⟩) = false) : 0 ≤ (meet b ⟨0, 0, w, h⟩).x0 ∧ (meet b ⟨0, 0, w, h⟩).x0 < (meet b ⟨0, 0, w, h⟩).x1 ∧ (meet b ⟨0, 0, w, h⟩).x1 ≤ w ∧ 0 ≤ (meet b ⟨0, 0, w, h⟩).y0 ∧ (meet b ⟨0, 0, w, h⟩).y0 < (meet b ⟨0, 0, w, h⟩).y1 ∧ (meet b ⟨0, 0, w, h⟩).y1 ≤ h := by
  have e : meet b ⟨0, 0, w, h⟩ = meet0 b ⟨0, 0, w, h⟩ := by
    unfold meet
    cases k : emp (meet0 b ⟨0, 0, w, h⟩) with
    | true => unfold meet at he; rw [k, if_pos rfl] at he; exact absurd he (by decide)
    | false => simp
  rw [e] at he ⊢
  have h1 := mx_le b.x0 0
  have h2 := mx_le b.y0 0
  have h3 := mn_le b.x1 w
  have h4 := mn_le b.y1 h
  simp only [emp, Bool.or_eq_false_iff, decide_eq_false_iff_not] at he
  have e1 : (meet0 b ⟨0, 0, w, h⟩).x0 = mx b.x0 0 := rfl
  have e2 : (meet0 b ⟨0, 0, w, h⟩).y0 = mx b.y0 0 := rfl
  have e3 : (meet0 b ⟨0, 0, w, h⟩).x1 = mn b.x1 w := rfl
  have e4 : (meet0 b ⟨0, 0, w, h⟩).y1 = mn b.y1 h := rfl
  omega
theorem tiles_no (b : B4) (w h : Int) (ht : scr w h = false ∨ emp (meet b ⟨0, 0, w, h⟩) = true) (H : AH) : SemCall Try.prog 26 [b.val, .int .i64 w, .int .i64 h] H (.slice none 0 0) H [] := by
  refine pure_of ?_ rfl
  have m := fun H => meet_ b ⟨0, 0, w, h⟩ H
  cases hs : scr w h with
  | false =>
    refine XCal.of hm Try.func26 rfl (fun xs w => Try.call26 xs w) Try.ntmps26 Try.results26 rfl ?_
    simp only [go_sem, Nat.reduceEqDiff, Nat.reduceAdd, Nat.reduceSub, Nat.reduceMul, Nat.reduceLT, Nat.reduceLeDiff, Int.reducePow, Int.reduceBEq, Int.reduceBNe, Int.reduceDiv, Int.reduceMod, Int.reduceEq, Int.reduceLT, Int.reduceLE, Int.reduceAdd, Int.reduceSub, Int.reduceMul, Int.reduceNeg, Int.reduceToNat, Int.reduceTDiv, Int.reduceTMod, ↓reduceIte]
    repeat ((first | refine (screen_ _ _ _).x ?_ | refine drawnF ?_ (by decide +kernel)); simp only [go_sem, Nat.reduceEqDiff, Nat.reduceAdd, Nat.reduceSub, Nat.reduceMul, Nat.reduceLT, Nat.reduceLeDiff, Int.reducePow, Int.reduceBEq, Int.reduceBNe, Int.reduceDiv, Int.reduceMod, Int.reduceEq, Int.reduceLT, Int.reduceLE, Int.reduceAdd, Int.reduceSub, Int.reduceMul, Int.reduceNeg, Int.reduceToNat, Int.reduceTDiv, Int.reduceTMod, ↓reduceIte, hs])
  | true =>
    have ht := ht.resolve_left (by rw [hs]; decide)
    have e := fun H => bempty_ (meet b ⟨0, 0, w, h⟩) H
    refine XCal.of hm Try.func26 rfl (fun xs w => Try.call26 xs w) Try.ntmps26 Try.results26 rfl ?_
    simp only [go_sem, Nat.reduceEqDiff, Nat.reduceAdd, Nat.reduceSub, Nat.reduceMul, Nat.reduceLT, Nat.reduceLeDiff, Int.reducePow, Int.reduceBEq, Int.reduceBNe, Int.reduceDiv, Int.reduceMod, Int.reduceEq, Int.reduceLT, Int.reduceLE, Int.reduceAdd, Int.reduceSub, Int.reduceMul, Int.reduceNeg, Int.reduceToNat, Int.reduceTDiv, Int.reduceTMod, ↓reduceIte]
    repeat ((first | refine (screen_ _ _ _).x ?_ | refine (m _).x ?_ | refine (e _).x ?_ | refine drawnF ?_ (by decide +kernel)); simp only [go_sem, Nat.reduceEqDiff, Nat.reduceAdd, Nat.reduceSub, Nat.reduceMul, Nat.reduceLT, Nat.reduceLeDiff, Int.reducePow, Int.reduceBEq, Int.reduceBNe, Int.reduceDiv, Int.reduceMod, Int.reduceEq, Int.reduceLT, Int.reduceLE, Int.reduceAdd, Int.reduceSub, Int.reduceMul, Int.reduceNeg, Int.reduceToNat, Int.reduceTDiv, Int.reduceTMod, ↓reduceIte, hs, ht])
def TB (H : AH) (M : B4) (o : List (Int × Int)) (v : Value) (H' : AH) : Prop :=
  (o = [] ∧ v = .slice none 0 0 ∧ H' = H ++ [⟨b4C M, 0, true⟩]) ∨ ∃ g X G, v = sl (H.length + 2) 0 g o.length 2 ∧ H' = H ++ (⟨b4C M, 0, true⟩ :: X :: ⟨ptC o, g, true⟩ :: G)
theorem TB.m {H : AH} {M : B4} {o : List (Int × Int)} {v : Value} {H' : AH} (h : TB H M o v H') : H'[H.length]? = some ⟨b4C M, 0, true⟩ := by
  rcases h with ⟨_, _, e⟩ | ⟨g, X, G, _, e⟩ <;> rw [e, hget_app0] <;> rfl
theorem tiles_yes (b : B4) (w h : Int) (hs : scr w h = true) (he : emp (meet b ⟨0, 0, w, h⟩) = false) (H : AH) : SemCall Try.prog 26 [b.val, .int .i64 w, .int .i64 h] H (sl H.length 0 0 (tilesOf b w h).length 2) (H ++ [⟨ptC (tilesOf b w h), 0, true⟩]) [] := by
  have m := fun H => meet_ b ⟨0, 0, w, h⟩ H
  have e := fun H => bempty_ (meet b ⟨0, 0, w, h⟩) H
  have hq := meet_in b hs he
  have hw := scr_b hs
  have htl : tilesOf b w h = rowsT ((meet b ⟨0, 0, w, h⟩).x0 / 8) (((meet b ⟨0, 0, w, h⟩).x1 - 1) / 8 + 1 - (meet b ⟨0, 0, w, h⟩).x0 / 8).toNat ((meet b ⟨0, 0, w, h⟩).y0 / 8) (((meet b ⟨0, 0, w, h⟩).y1 - 1) / 8 + 1 - (meet b ⟨0, 0, w, h⟩).y0 / 8).toNat := by
    unfold tilesOf; rw [if_pos hs]; simp only [he, Bool.false_eq_true, if_false]
  generalize hM : meet b ⟨0, 0, w, h⟩ = M at *
  have d1 : ∀ x : Int, 0 ≤ x → x ≤ 300 → IntKind.i64.wrap (x.tdiv 8) = x / 8 := fun x h1 h2 => by rw [Int.tdiv_eq_ediv_of_nonneg h1]; exact wi (by omega) (by omega)
  have a0 := d1 M.x0 (by omega) (by omega)
  have c0 := d1 M.y0 (by omega) (by omega)
  have b0 := d1 (M.x1 - 1) (by omega) (by omega)
  have e0 := d1 (M.y1 - 1) (by omega) (by omega)
  have b1 : IntKind.i64.wrap (M.x1 - 1) = M.x1 - 1 := wi (by omega) (by omega)
  have e1 : IntKind.i64.wrap (M.y1 - 1) = M.y1 - 1 := wi (by omega) (by omega)
  have hA : 0 ≤ M.x0 / 8 ∧ M.x0 / 8 ≤ (M.x1 - 1) / 8 ∧ (M.x1 - 1) / 8 ≤ 31 := by omega
  have hC : 0 ≤ M.y0 / 8 ∧ M.y0 / 8 ≤ (M.y1 - 1) / 8 ∧ (M.y1 - 1) / 8 ≤ 31 := by omega
  have htlen : (tilesOf b w h).length ≤ 1024 := by
    rw [htl, rowsT_len]
    exact Nat.le_trans (Nat.mul_le_mul (show ((M.y1 - 1) / 8 + 1 - M.y0 / 8).toNat ≤ 32 by omega) (show ((M.x1 - 1) / 8 + 1 - M.x0 / 8).toNat ≤ 32 by omega)) (by decide)
  generalize tilesOf b w h = tot at *
  have hcells : ∃ x0 y0 x1 y1, M = ⟨x0, y0, x1, y1⟩ := ⟨_, _, _, _, rfl⟩
  refine flat_of ?_
  refine XCal.of hm Try.func26 rfl (fun xs w => Try.call26 xs w) Try.ntmps26 Try.results26 rfl ?_
  simp only [go_sem, Nat.reduceEqDiff, Nat.reduceAdd, Nat.reduceSub, Nat.reduceMul, Nat.reduceLT, Nat.reduceLeDiff, Int.reducePow, Int.reduceBEq, Int.reduceBNe, Int.reduceDiv, Int.reduceMod, Int.reduceEq, Int.reduceLT, Int.reduceLE, Int.reduceAdd, Int.reduceSub, Int.reduceMul, Int.reduceNeg, Int.reduceToNat, Int.reduceTDiv, Int.reduceTMod, ↓reduceIte]
  refine (screen_ _ _ _).x ?_
  simp only [go_sem, Nat.reduceEqDiff, Nat.reduceAdd, Nat.reduceSub, Nat.reduceMul, Nat.reduceLT, Nat.reduceLeDiff, Int.reducePow, Int.reduceBEq, Int.reduceBNe, Int.reduceDiv, Int.reduceMod, Int.reduceEq, Int.reduceLT, Int.reduceLE, Int.reduceAdd, Int.reduceSub, Int.reduceMul, Int.reduceNeg, Int.reduceToNat, Int.reduceTDiv, Int.reduceTMod, ↓reduceIte, hs]
  refine (m _).x ?_
  simp only [go_sem, Nat.reduceEqDiff, Nat.reduceAdd, Nat.reduceSub, Nat.reduceMul, Nat.reduceLT, Nat.reduceLeDiff, Int.reducePow, Int.reduceBEq, Int.reduceBNe, Int.reduceDiv, Int.reduceMod, Int.reduceEq, Int.reduceLT, Int.reduceLE, Int.reduceAdd, Int.reduceSub, Int.reduceMul, Int.reduceNeg, Int.reduceToNat, Int.reduceTDiv, Int.reduceTMod, ↓reduceIte]
  refine (e _).x ?_
  simp only [go_sem, Nat.reduceEqDiff, Nat.reduceAdd, Nat.reduceSub, Nat.reduceMul, Nat.reduceLT, Nat.reduceLeDiff, Int.reducePow, Int.reduceBEq, Int.reduceBNe, Int.reduceDiv, Int.reduceMod, Int.reduceEq, Int.reduceLT, Int.reduceLE, Int.reduceAdd, Int.reduceSub, Int.reduceMul, Int.reduceNeg, Int.reduceToNat, Int.reduceTDiv, Int.reduceTMod, ↓reduceIte, he, a0]
  have fin : ∀ (o : List (Int × Int)), o.length ≤ 1024 → o.length * 2 = (ptC o).length ∧ (o.length + 1) * 16 - 140737488355328 = 0 ∧ o.length + 1 - 140737488355328 = 0 := fun o ho => ⟨(ptC_len o).symm, Nat.sub_eq_zero_of_le (Nat.le_trans (Nat.mul_le_mul_right 16 (show o.length + 1 ≤ 4000 by omega)) (by decide)), Nat.sub_eq_zero_of_le (Nat.le_trans (show o.length + 1 ≤ 4000 by omega) (by decide))⟩
  have hpos : 0 < tot.length := by
    rw [htl, rowsT_len]
    exact Nat.mul_pos (by omega) (by omega)
  refine keep (fun k T H' D => D = [] ∧ ∃ (o : List (Int × Int)) (y : Int), M.y0 / 8 ≤ y ∧ y ≤ (M.y1 - 1) / 8 + 1 ∧ k = ((M.y1 - 1) / 8 + 1 - y).toNat ∧ o ++ rowsT (M.x0 / 8) ((M.x1 - 1) / 8 + 1 - M.x0 / 8).toNat y ((M.y1 - 1) / 8 + 1 - y).toNat = tot ∧
      T 8 = .int .i64 y ∧ T 3 = ap H.length 0 0 ∧ TB H M o (T 7) H') ((M.y1 - 1) / 8 + 1 - M.y0 / 8).toNat
      ⟨rfl, [], M.y0 / 8, by omega, by omega, rfl, by rw [htl]; rfl, by simp only [go_sem, Nat.reduceEqDiff, Nat.reduceAdd, Nat.reduceSub, Nat.reduceMul, Nat.reduceLT, Nat.reduceLeDiff, Int.reducePow, Int.reduceBEq, Int.reduceBNe, Int.reduceDiv, Int.reduceMod, Int.reduceEq, Int.reduceLT, Int.reduceLE, Int.reduceAdd, Int.reduceSub, Int.reduceMul, Int.reduceNeg, Int.reduceToNat, Int.reduceTDiv, Int.reduceTMod, ↓reduceIte, c0], by simp only [go_sem, Nat.reduceEqDiff, Nat.reduceAdd, Nat.reduceSub, Nat.reduceMul, Nat.reduceLT, Nat.reduceLeDiff, Int.reducePow, Int.reduceBEq, Int.reduceBNe, Int.reduceDiv, Int.reduceMod, Int.reduceEq, Int.reduceLT, Int.reduceLE, Int.reduceAdd, Int.reduceSub, Int.reduceMul, Int.reduceNeg, Int.reduceToNat, Int.reduceTDiv, Int.reduceTMod, ↓reduceIte] <;> rfl, .inl ⟨rfl, by simp only [go_sem, Nat.reduceEqDiff, Nat.reduceAdd, Nat.reduceSub, Nat.reduceMul, Nat.reduceLT, Nat.reduceLeDiff, Int.reducePow, Int.reduceBEq, Int.reduceBNe, Int.reduceDiv, Int.reduceMod, Int.reduceEq, Int.reduceLT, Int.reduceLE, Int.reduceAdd, Int.reduceSub, Int.reduceMul, Int.reduceNeg, Int.reduceToNat, Int.reduceTDiv, Int.reduceTMod, ↓reduceIte] <;> rfl, rfl⟩⟩ ?_
  rintro k T H' D ⟨rfl, o, y, hy0, hy1, hk, hx, h8, h3, hC7⟩
  have hmb : H'[H.length]? = some ⟨b4C M, 0, true⟩ := hC7.m
  by_cases hyy : y ≤ (M.y1 - 1) / 8
  · obtain ⟨k, rfl⟩ : ∃ j, k = j + 1 := ⟨k - 1, by omega⟩
    rw [← hk] at hx
    have hx : (o ++ rowT y (M.x0 / 8) ((M.x1 - 1) / 8 + 1 - M.x0 / 8).toNat) ++ rowsT (M.x0 / 8) ((M.x1 - 1) / 8 + 1 - M.x0 / 8).toNat (y + 1) k = tot := by rw [← hx, List.append_assoc]; rfl
    simp only [go_sem, Nat.reduceEqDiff, Nat.reduceAdd, Nat.reduceSub, Nat.reduceMul, Nat.reduceLT, Nat.reduceLeDiff, Int.reducePow, Int.reduceBEq, Int.reduceBNe, Int.reduceDiv, Int.reduceMod, Int.reduceEq, Int.reduceLT, Int.reduceLE, Int.reduceAdd, Int.reduceSub, Int.reduceMul, Int.reduceNeg, Int.reduceToNat, Int.reduceTDiv, Int.reduceTMod, ↓reduceIte, h8, h3, hmb, e1, e0, a0, dt hyy]
    refine keep (fun k' T H' D => D = [] ∧ ∃ (o : List (Int × Int)) (x : Int), M.x0 / 8 ≤ x ∧ x ≤ (M.x1 - 1) / 8 + 1 ∧ k' = ((M.x1 - 1) / 8 + 1 - x).toNat ∧ (o ++ rowT y x k') ++ rowsT (M.x0 / 8) ((M.x1 - 1) / 8 + 1 - M.x0 / 8).toNat (y + 1) k = tot ∧
      T 8 = .int .i64 y ∧ T 9 = .int .i64 x ∧ T 3 = ap H.length 0 0 ∧ TB H M o (T 7) H') ((M.x1 - 1) / 8 + 1 - M.x0 / 8).toNat
      ⟨rfl, o, M.x0 / 8, by omega, by omega, rfl, hx, by simp only [go_sem, Nat.reduceEqDiff, Nat.reduceAdd, Nat.reduceSub, Nat.reduceMul, Nat.reduceLT, Nat.reduceLeDiff, Int.reducePow, Int.reduceBEq, Int.reduceBNe, Int.reduceDiv, Int.reduceMod, Int.reduceEq, Int.reduceLT, Int.reduceLE, Int.reduceAdd, Int.reduceSub, Int.reduceMul, Int.reduceNeg, Int.reduceToNat, Int.reduceTDiv, Int.reduceTMod, ↓reduceIte, h8] <;> rfl, by simp only [go_sem, Nat.reduceEqDiff, Nat.reduceAdd, Nat.reduceSub, Nat.reduceMul, Nat.reduceLT, Nat.reduceLeDiff, Int.reducePow, Int.reduceBEq, Int.reduceBNe, Int.reduceDiv, Int.reduceMod, Int.reduceEq, Int.reduceLT, Int.reduceLE, Int.reduceAdd, Int.reduceSub, Int.reduceMul, Int.reduceNeg, Int.reduceToNat, Int.reduceTDiv, Int.reduceTMod, ↓reduceIte, a0] <;> rfl, by simp only [go_sem, Nat.reduceEqDiff, Nat.reduceAdd, Nat.reduceSub, Nat.reduceMul, Nat.reduceLT, Nat.reduceLeDiff, Int.reducePow, Int.reduceBEq, Int.reduceBNe, Int.reduceDiv, Int.reduceMod, Int.reduceEq, Int.reduceLT, Int.reduceLE, Int.reduceAdd, Int.reduceSub, Int.reduceMul, Int.reduceNeg, Int.reduceToNat, Int.reduceTDiv, Int.reduceTMod, ↓reduceIte, h3] <;> rfl, by simp only [go_sem, Nat.reduceEqDiff, Nat.reduceAdd, Nat.reduceSub, Nat.reduceMul, Nat.reduceLT, Nat.reduceLeDiff, Int.reducePow, Int.reduceBEq, Int.reduceBNe, Int.reduceDiv, Int.reduceMod, Int.reduceEq, Int.reduceLT, Int.reduceLE, Int.reduceAdd, Int.reduceSub, Int.reduceMul, Int.reduceNeg, Int.reduceToNat, Int.reduceTDiv, Int.reduceTMod, ↓reduceIte] <;> exact hC7⟩ ?_
    clear hC7 h3 h8 hmb hx
    rintro k' T H' D ⟨rfl, o, x, hx0, hx1, hk', hx, h8, h9, h3, hC7⟩
    have hmb : H'[H.length]? = some ⟨b4C M, 0, true⟩ := hC7.m
    have ho : o.length + k' ≤ 1024 := by
      have := congrArg List.length hx
      simp only [List.length_append, rowT_len] at this
      omega
    by_cases hxx : x ≤ (M.x1 - 1) / 8
    · obtain ⟨k', rfl⟩ : ∃ j, k' = j + 1 := ⟨k' - 1, by omega⟩
      have wx : IntKind.i64.wrap (x + 1) = x + 1 := wi (by omega) (by omega)
      have hx : ((o ++ [(x, y)]) ++ rowT y (x + 1) k') ++ rowsT (M.x0 / 8) ((M.x1 - 1) / 8 + 1 - M.x0 / 8).toNat (y + 1) k = tot := by rw [← hx, List.append_assoc (bs := [(x, y)])]; rfl
      obtain ⟨f1, f2, f3⟩ := fin o (by omega)
      rcases hC7 with ⟨rfl, h7, rfl⟩ | ⟨g, X, G, h7, rfl⟩
      · simp only [go_sem, Nat.reduceEqDiff, Nat.reduceAdd, Nat.reduceSub, Nat.reduceMul, Nat.reduceLT, Nat.reduceLeDiff, Int.reducePow, Int.reduceBEq, Int.reduceBNe, Int.reduceDiv, Int.reduceMod, Int.reduceEq, Int.reduceLT, Int.reduceLE, Int.reduceAdd, Int.reduceSub, Int.reduceMul, Int.reduceNeg, Int.reduceToNat, Int.reduceTDiv, Int.reduceTMod, ↓reduceIte, h8, h9, h3, h7, hmb, b1, b0, dt hxx, wx]
        exact ⟨k', by omega, _, x + 1, by omega, by omega, by omega, hx, rfl, .inr ⟨_, _, _, rfl, rfl⟩⟩
      · simp only [go_sem, Nat.reduceEqDiff, Nat.reduceAdd, Nat.reduceSub, Nat.reduceMul, Nat.reduceLT, Nat.reduceLeDiff, Int.reducePow, Int.reduceBEq, Int.reduceBNe, Int.reduceDiv, Int.reduceMod, Int.reduceEq, Int.reduceLT, Int.reduceLE, Int.reduceAdd, Int.reduceSub, Int.reduceMul, Int.reduceNeg, Int.reduceToNat, Int.reduceTDiv, Int.reduceTMod, ↓reduceIte, h8, h9, h3, h7, hmb, b1, b0, dt hxx, wx, f1, f2, f3]
        exact ⟨k', by omega, _, x + 1, by omega, by omega, by omega, hx, rfl, .inr ⟨_, _, _, by rw [List.length_append]; rfl, by rw [ptC_app]; rfl⟩⟩
    · have wy : IntKind.i64.wrap (y + 1) = y + 1 := wi (by omega) (by omega)
      have : k' = 0 := by omega
      subst this
      simp only [go_sem, Nat.reduceEqDiff, Nat.reduceAdd, Nat.reduceSub, Nat.reduceMul, Nat.reduceLT, Nat.reduceLeDiff, Int.reducePow, Int.reduceBEq, Int.reduceBNe, Int.reduceDiv, Int.reduceMod, Int.reduceEq, Int.reduceLT, Int.reduceLE, Int.reduceAdd, Int.reduceSub, Int.reduceMul, Int.reduceNeg, Int.reduceToNat, Int.reduceTDiv, Int.reduceTMod, ↓reduceIte, h8, h9, h3, hmb, b1, b0, df hxx, wy]
      exact ⟨k, by omega, o, y + 1, by omega, by omega, by omega, by rw [← hx, show ((M.y1 - 1) / 8 + 1 - (y + 1)).toNat = k by omega]; simp [rowT], rfl, hC7⟩
  · simp only [go_sem, Nat.reduceEqDiff, Nat.reduceAdd, Nat.reduceSub, Nat.reduceMul, Nat.reduceLT, Nat.reduceLeDiff, Int.reducePow, Int.reduceBEq, Int.reduceBNe, Int.reduceDiv, Int.reduceMod, Int.reduceEq, Int.reduceLT, Int.reduceLE, Int.reduceAdd, Int.reduceSub, Int.reduceMul, Int.reduceNeg, Int.reduceToNat, Int.reduceTDiv, Int.reduceTMod, ↓reduceIte, h8, h3, hmb, e1, e0, df hyy]
    have : k = 0 := by omega
    subst this
    rw [← hk] at hx
    have hx : o = tot := by rw [← hx]; simp [rowsT]
    subst hx
    rcases hC7 with ⟨rfl, _, _⟩ | ⟨g, X, G, h7, rfl⟩
    · simp at hpos
    · rw [h7]
      exact ⟨H.length + 2, g, by omega, by rw [hget_app]; rfl, ren_sl _ _ _ _ _ (by omega), ptC_ren _ _ _⟩
end Go.Proofs.Ythoclopeajkcpaa
/- Chapter 14: the walk of the law on tiles. -/
namespace Go.Proofs.Ythoclopeajkcpaa
open Go Go.RowKit E
attribute [local irreducible] XRun XOps XCode XCal XLoop XQ SemCall
set_option linter.unusedSimpArgs false
set_option linter.unusedVariables false
theorem bk1 : scr 16 16 = true := by decide
theorem bk2 : emp (meet ⟨0, 0, 9, 1⟩ ⟨0, 0, 16, 16⟩) = false := by decide
theorem bk3 : tilesOf ⟨0, 0, 9, 1⟩ 16 16 = [(0, 0), (1, 0)] := by decide
theorem bk4 : boxOf [(false, [(1, 0), (-1, 65536)])] = ⟨-1, 0, 1, 1⟩ := by decide
theorem bk5 : emp zero4 = true := by decide
theorem bk6 : has ⟨-1, 0, 1, 1⟩ 0 0 = true := by decide
theorem bk7 : has ⟨-1, 0, 1, 1⟩ 1 0 = false := by decide
theorem bknown_ (H : AH) : SemCall Try.prog 28 [] H (.bool true) H [] := by
  refine pure_of ?_ rfl
  have t := fun H => tiles_yes ⟨0, 0, 9, 1⟩ 16 16 bk1 bk2 H
  rw [bk3, show ptC [((0 : Int), (0 : Int)), (1, 0)] = [.int .i64 0, .int .i64 0, .int .i64 1, .int .i64 0] from rfl] at t
  have hB : ∀ x ∈ [(false, [((1 : Int), (0 : Int)), (-1, 65536)])], ∀ p ∈ x.2, Ip p := fun x hx p hp => by
    simp at hx; subst hx
    simp at hp
    rcases hp with rfl | rfl
    · exact ⟨⟨by decide, by decide⟩, by decide, by decide⟩
    · exact ⟨⟨by decide, by decide⟩, by decide, by decide⟩
  have o := fun (L : AH) (b c : Nat) (hb : (H ++ L)[b]? = some ⟨ptC [(1, 0), (-1, 65536)], 0, true⟩) (hc : (H ++ L)[c]? = some ⟨[.bool false, sl b 0 0 2 2], 0, true⟩) => boxof_ [(false, [(1, 0), (-1, 65536)])] (sl c 0 0 1 2) hB (H ++ L) (.inr ⟨c, 0, [], true, [(false, sl b 0 0 2 2)], rfl, hc, rfl, by simp, fun i x hx => by
    cases i with
    | zero => simp at hx; subst hx; exact ⟨_, rfl, .inr ⟨b, 0, [], true, rfl, by rw [hb, List.append_nil], by simp⟩⟩
    | succ i => simp at hx⟩)
  rw [bk4] at o
  have e := fun H => bempty_ zero4 H
  have h1 := fun H => has_ ⟨-1, 0, 1, 1⟩ 0 0 H
  have h2 := fun H => has_ ⟨-1, 0, 1, 1⟩ 1 0 H
  rw [bk5] at e
  rw [bk6] at h1
  rw [bk7] at h2
  refine XCal.of hm Try.func28 rfl (fun xs w => Try.call28 xs w) Try.ntmps28 Try.results28 rfl ?_
  simp only [go_sem, Nat.reduceEqDiff, Nat.reduceAdd, Nat.reduceSub, Nat.reduceMul, Nat.reduceLT, Nat.reduceLeDiff, Int.reducePow, Int.reduceBEq, Int.reduceBNe, Int.reduceDiv, Int.reduceMod, Int.reduceEq, Int.reduceLT, Int.reduceLE, Int.reduceAdd, Int.reduceSub, Int.reduceMul, Int.reduceNeg, Int.reduceToNat, Int.reduceTDiv, Int.reduceTMod, ↓reduceIte]
  refine (t _).x ?_
  simp only [go_sem, Nat.reduceEqDiff, Nat.reduceAdd, Nat.reduceSub, Nat.reduceMul, Nat.reduceLT, Nat.reduceLeDiff, Int.reducePow, Int.reduceBEq, Int.reduceBNe, Int.reduceDiv, Int.reduceMod, Int.reduceEq, Int.reduceLT, Int.reduceLE, Int.reduceAdd, Int.reduceSub, Int.reduceMul, Int.reduceNeg, Int.reduceToNat, Int.reduceTDiv, Int.reduceTMod, ↓reduceIte]
  refine (o [⟨[.int .i64 0, .int .i64 0, .int .i64 1, .int .i64 0], 0, true⟩, ⟨[.int .i64 1, .int .i64 0, .int .i64 (-1), .int .i64 65536], 0, true⟩, ⟨[.bool false, sl (H.length + 1) 0 0 2 2], 0, true⟩] (H.length + 1) (H.length + 2) (by rw [hget_app]; rfl) (by rw [hget_app]; rfl)).x ?_
  simp only [go_sem, Nat.reduceEqDiff, Nat.reduceAdd, Nat.reduceSub, Nat.reduceMul, Nat.reduceLT, Nat.reduceLeDiff, Int.reducePow, Int.reduceBEq, Int.reduceBNe, Int.reduceDiv, Int.reduceMod, Int.reduceEq, Int.reduceLT, Int.reduceLE, Int.reduceAdd, Int.reduceSub, Int.reduceMul, Int.reduceNeg, Int.reduceToNat, Int.reduceTDiv, Int.reduceTMod, ↓reduceIte]
  repeat ((first | refine (e _).x ?_ | refine (h1 _).x ?_ | refine (h2 _).x ?_ | refine drawnF ?_ (by decide +kernel)); simp only [go_sem, Nat.reduceEqDiff, Nat.reduceAdd, Nat.reduceSub, Nat.reduceMul, Nat.reduceLT, Nat.reduceLeDiff, Int.reducePow, Int.reduceBEq, Int.reduceBNe, Int.reduceDiv, Int.reduceMod, Int.reduceEq, Int.reduceLT, Int.reduceLE, Int.reduceAdd, Int.reduceSub, Int.reduceMul, Int.reduceNeg, Int.reduceToNat, Int.reduceTDiv, Int.reduceTMod, ↓reduceIte, ptC_cons, ptC_nil, zero4])
def mkn (f : Nat → Int) : List Value := (List.range 25).map fun j => .int .i64 (f j)
theorem mkn_len (f : Nat → Int) : (mkn f).length = 25 := by simp [mkn]
theorem mkn_get (f : Nat → Int) {i : Nat} (h : i < 25) : (mkn f)[i]? = some (.int .i64 (f i)) := by simp [mkn, List.getElem?_range h]
theorem mkn_set (f : Nat → Int) (i : Nat) (v : Int) : (mkn f).set i (.int .i64 v) = mkn (fun j => if j = i then v else f j) := by
  unfold mkn
  apply List.ext_getElem
  · simp
  · intro j h1 h2
    simp only [List.getElem_set, List.getElem_map, List.getElem_range]
    by_cases h : i = j
    · subst h; simp
    · rw [if_neg h, if_neg (fun e => h e.symm)]
theorem mkn_ast (H : AH) (f : Nat → Int) {d : Nat} (hd : d < 25) (v : Int) (b : Nat) : ast H (some ⟨mkn f, 0, true⟩) (some [.int .i64 v]) (some 1) b d 0 = some (H.set b ⟨mkn (fun j => if j = d then v else f j), 0, true⟩, b) := by
  have := mkn_len f
  have e : (mkn f).set d (.int .i64 v) = (mkn f).take d ++ .int .i64 v :: (mkn f).drop (d + 1) := by rw [List.set_eq_take_append_cons_drop, if_pos (by omega)]
  rw [ast_some (s := 1) rfl (by omega), ← mkn_set, e, splice_def]
  simp
theorem eqc_int : ∀ (l : List Int), eqc (List.replicate l.length .i) (l.map fun x => .int .i64 x) (l.map fun x => .int .i64 x) = some true
  | [] => rfl
  | x :: l => by
    show eqc (.i :: List.replicate l.length .i) (.int .i64 x :: l.map _) (.int .i64 x :: l.map _) = _
    rw [eqc_cons, eqc_int l]
    simp [eq1, oand]
theorem eqc_mkn (f : Nat → Int) : eqc (List.replicate 25 .i) (mkn f) (mkn f) = some true := by
  have := eqc_int ((List.range 25).map f)
  rw [List.map_map, List.length_map, List.length_range] at this
  exact this
theorem mkn_ext {f g : Nat → Int} (h : ∀ j, j < 25 → f j = g j) : mkn f = mkn g := by
  unfold mkn
  apply List.map_congr_left
  intro j hj
  rw [h j (List.mem_range.1 hj)]
def cntI : List Pt → Nat → Int
  | [], _ => 0
  | t :: l, j => (if t.2 * 5 + t.1 = (j : Int) then 1 else 0) + cntI l j
theorem cntI_app (l m : List Pt) (j : Nat) : cntI (l ++ m) j = cntI l j + cntI m j := by
  induction l with
  | nil => simp [cntI]
  | cons x l ih => simp only [List.cons_append, cntI, ih]; omega
theorem cntI_b (l : List Pt) (j : Nat) : 0 ≤ cntI l j ∧ cntI l j ≤ l.length := by
  induction l with
  | nil => simp [cntI]
  | cons x l ih => simp only [cntI, List.length_cons]; split <;> omega
theorem cnt_row (y : Int) (j : Nat) : ∀ (n : Nat) (x0 : Int), cntI (rowT y x0 n) j = if y * 5 + x0 ≤ (j : Int) ∧ (j : Int) < y * 5 + x0 + n then 1 else 0
  | 0, x0 => by rw [if_neg (by omega)]; rfl
  | n + 1, x0 => by
    simp only [rowT, cntI, cnt_row y j n (x0 + 1)]
    split <;> split <;> split <;> omega
theorem cnt_rows (x0 : Int) (nx : Nat) (h0 : 0 ≤ x0) (h1 : x0 + nx ≤ 5) (j : Nat) : ∀ (n : Nat) (y : Int), cntI (rowsT x0 nx y n) j = if y ≤ (j : Int) / 5 ∧ (j : Int) / 5 < y + n ∧ x0 ≤ (j : Int) % 5 ∧ (j : Int) % 5 < x0 + nx then 1 else 0
  | 0, y => by rw [if_neg (by omega)]; rfl
  | n + 1, y => by
    simp only [rowsT, cntI_app, cnt_row, cnt_rows x0 nx h0 h1 j n (y + 1)]
    split <;> split <;> split <;> omega
def mkP (B : B4) (W Y X : Int) (j : Nat) : Prop := ∃ x y : Int, 0 ≤ x ∧ 0 ≤ y ∧ (y < Y ∧ x < W ∨ y = Y ∧ x < X) ∧ has B x y = true ∧ (j : Int) = y / 8 * 5 + x / 8
open Classical in
noncomputable def mkf (B : B4) (W Y X : Int) (j : Nat) : Int := if mkP B W Y X j then 1 else 0
theorem mkf_ext {B : B4} {W Y X Y' X' : Int} {j : Nat} (h : mkP B W Y X j ↔ mkP B W Y' X' j) : mkf B W Y X j = mkf B W Y' X' j := by
  unfold mkf
  by_cases k : mkP B W Y X j
  · rw [if_pos k, if_pos (h.1 k)]
  · rw [if_neg k, if_neg (fun e => k (h.2 e))]
theorem mkf_yes {B : B4} {W Y X : Int} {j : Nat} (h : mkP B W Y X j) : mkf B W Y X j = 1 := by unfold mkf; rw [if_pos h]
theorem mkf_no {B : B4} {W Y X : Int} {j : Nat} (h : ¬ mkP B W Y X j) : mkf B W Y X j = 0 := by unfold mkf; rw [if_neg h]
theorem mkf_start (B : B4) (W : Int) (j : Nat) : mkf B W 0 0 j = 0 := mkf_no fun ⟨x, y, h1, h2, h3, _⟩ => by omega
theorem mkf_row (B : B4) (W Y : Int) (j : Nat) : mkf B W (Y + 1) 0 j = mkf B W Y W j := mkf_ext ⟨fun ⟨x, y, h1, h2, h3, h4⟩ => ⟨x, y, h1, h2, by omega, h4⟩, fun ⟨x, y, h1, h2, h3, h4⟩ => ⟨x, y, h1, h2, by omega, h4⟩⟩
theorem mkf_no1 {B : B4} {W Y X : Int} (h : has B X Y = false) (j : Nat) : mkf B W Y (X + 1) j = mkf B W Y X j := mkf_ext ⟨fun ⟨x, y, h1, h2, h3, h4, h5⟩ => ⟨x, y, h1, h2, by
    by_cases e : y = Y ∧ x = X
    · rw [e.1, e.2, h] at h4; exact absurd h4 (by decide)
    · omega, h4, h5⟩, fun ⟨x, y, h1, h2, h3, h4⟩ => ⟨x, y, h1, h2, by omega, h4⟩⟩
theorem mkf_yes1 {B : B4} {W Y X : Int} (hx : 0 ≤ X) (hy : 0 ≤ Y) (h : has B X Y = true) (j : Nat) : mkf B W Y (X + 1) j = if j = (Y / 8 * 5 + X / 8).toNat then 1 else mkf B W Y X j := by
  by_cases e : j = (Y / 8 * 5 + X / 8).toNat
  · rw [if_pos e]; exact mkf_yes ⟨X, Y, hx, hy, by omega, h, by omega⟩
  · rw [if_neg e]
    exact mkf_ext ⟨fun ⟨x, y, h1, h2, h3, h4, h5⟩ => ⟨x, y, h1, h2, by
      by_cases e' : y = Y ∧ x = X
      · rw [e'.1, e'.2] at h5; omega
      · omega, h4, h5⟩, fun ⟨x, y, h1, h2, h3, h4⟩ => ⟨x, y, h1, h2, by omega, h4⟩⟩
theorem mx_c (a b : Int) : mx a b = a ∨ mx a b = b := by unfold mx; split <;> simp
theorem mn_c (a b : Int) : mn a b = a ∨ mn a b = b := by unfold mn; split <;> simp
theorem has_in (B : B4) (W V x y : Int) : (has B x y = true ∧ 0 ≤ x ∧ x < W ∧ 0 ≤ y ∧ y < V) ↔ ((meet0 B ⟨0, 0, W, V⟩).x0 ≤ x ∧ x < (meet0 B ⟨0, 0, W, V⟩).x1 ∧ (meet0 B ⟨0, 0, W, V⟩).y0 ≤ y ∧ y < (meet0 B ⟨0, 0, W, V⟩).y1) := by
  simp only [has, meet0, Bool.and_eq_true, decide_eq_true_eq]
  have := mx_c B.x0 0
  have := mx_c B.y0 0
  have := mn_c B.x1 W
  have := mn_c B.y1 V
  have := mx_le B.x0 0
  have := mx_le B.y0 0
  have := mn_le B.x1 W
  have := mn_le B.y1 V
  omega
theorem tile_law (B : B4) (W V : Int) (hW : 1 ≤ W ∧ W ≤ 40) (hV : 1 ≤ V ∧ V ≤ 40) (j : Nat) : cntI (tilesOf B W V) j = mkf B W V 0 j := by
  have hs : scr W V = true := by simp only [scr, Bool.and_eq_true, decide_eq_true_eq]; omega
  have hi := has_in B W V
  have hm0 := fun h => meet_in (w := W) (h := V) B hs h
  cases he : emp (meet0 B ⟨0, 0, W, V⟩) with
  | true =>
    have e1 : meet B ⟨0, 0, W, V⟩ = zero4 := by unfold meet; rw [if_pos he]
    have e2 : tilesOf B W V = [] := by unfold tilesOf; rw [if_pos hs]; simp only [e1, show emp zero4 = true from rfl, if_true]
    rw [e2]
    refine (mkf_no ?_).symm
    rintro ⟨x, y, h1, h2, h3, h4, h5⟩
    have := (hi x y).1 ⟨h4, h1, by omega, h2, by omega⟩
    simp only [emp, Bool.or_eq_true, decide_eq_true_eq] at he
    omega
  | false =>
    have e1 : meet B ⟨0, 0, W, V⟩ = meet0 B ⟨0, 0, W, V⟩ := by unfold meet; rw [if_neg (by rw [he]; decide)]
    rw [e1] at hm0
    have q := hm0 he
    have e2 : tilesOf B W V = rowsT ((meet0 B ⟨0, 0, W, V⟩).x0 / 8) (((meet0 B ⟨0, 0, W, V⟩).x1 - 1) / 8 + 1 - (meet0 B ⟨0, 0, W, V⟩).x0 / 8).toNat ((meet0 B ⟨0, 0, W, V⟩).y0 / 8) (((meet0 B ⟨0, 0, W, V⟩).y1 - 1) / 8 + 1 - (meet0 B ⟨0, 0, W, V⟩).y0 / 8).toNat := by unfold tilesOf; rw [if_pos hs]; simp only [e1, he, Bool.false_eq_true, if_false]
    rw [e2]
    generalize meet0 B ⟨0, 0, W, V⟩ = M at *
    rw [cnt_rows _ _ (by omega) (by omega)]
    by_cases hj : M.y0 / 8 ≤ (j : Int) / 5 ∧ (j : Int) / 5 ≤ (M.y1 - 1) / 8 ∧ M.x0 / 8 ≤ (j : Int) % 5 ∧ (j : Int) % 5 ≤ (M.x1 - 1) / 8
    · rw [if_pos (by omega)]
      have hk : ∀ a b r : Int, a / 8 ≤ r → r ≤ (b - 1) / 8 → a < b → ∃ x, a ≤ x ∧ x < b ∧ x / 8 = r := fun a b r h1 h2 h3 => by
        by_cases h : 8 * r ≤ a
        · exact ⟨a, by omega, by omega, by omega⟩
        · exact ⟨8 * r, by omega, by omega, by omega⟩
      obtain ⟨x, x1, x2, x3⟩ := hk _ _ _ hj.2.2.1 hj.2.2.2 (by omega)
      obtain ⟨y, y1, y2, y3⟩ := hk _ _ _ hj.1 hj.2.1 (by omega)
      have := (hi x y).2 ⟨x1, x2, y1, y2⟩
      exact (mkf_yes ⟨x, y, this.2.1, this.2.2.2.1, by omega, this.1, by omega⟩).symm
    · rw [if_neg (by omega)]
      refine (mkf_no ?_).symm
      rintro ⟨x, y, h1, h2, h3, h4, h5⟩
      have := (hi x y).1 ⟨h4, h1, by omega, h2, by omega⟩
      omega
theorem tiles_ (b : B4) (w h : Int) (H : AH) (n : Nat) (hn : n = H.length) : ∃ L a e, SemCall Try.prog 26 [b.val, .int .i64 w, .int .i64 h] H (.slice a (tilesOf b w h).length e) (H ++ L) [] ∧ (¬ tilesOf b w h = [] → L = [⟨ptC (tilesOf b w h), 0, true⟩] ∧ a = some ⟨n, 0, some 0⟩ ∧ e = 2) := by
  subst hn
  by_cases ht : scr w h = false ∨ emp (meet b ⟨0, 0, w, h⟩) = true
  · have e : tilesOf b w h = [] := by
      unfold tilesOf
      cases hs : scr w h with
      | false => simp
      | true => simp [ht.resolve_left (by rw [hs]; decide)]
    have := tiles_no b w h ht H
    exact ⟨[], none, 0, by rw [e, List.append_nil]; exact this, fun k => absurd e k⟩
  · have h1 : scr w h = true := by cases k : scr w h with | true => rfl | false => exact absurd (.inl k) ht
    have h2 : emp (meet b ⟨0, 0, w, h⟩) = false := by cases k : emp (meet b ⟨0, 0, w, h⟩) with | false => rfl | true => exact absurd (.inr k) ht
    exact ⟨_, _, _, tiles_yes b w h h1 h2 H, fun _ => ⟨rfl, rfl, rfl⟩⟩
theorem and_6 (x : Int) : bits .and .i64 x 63 = x % 64 := and_i64 x 6 (by decide)
theorem tiles_in (B : B4) (W V : Int) (hW : 1 ≤ W ∧ W ≤ 40) (hV : 1 ≤ V ∧ V ≤ 40) : ∀ p ∈ tilesOf B W V, (0 ≤ p.1 ∧ p.1 ≤ 4) ∧ 0 ≤ p.2 ∧ p.2 ≤ 4 := by
  have hr : ∀ (y x0 : Int) (n : Nat), ∀ p ∈ rowT y x0 n, p.2 = y ∧ x0 ≤ p.1 ∧ p.1 < x0 + n := by
    intro y x0 n
    induction n generalizing x0 with
    | zero => intro p hp; simp [rowT] at hp
    | succ n ih =>
      intro p hp
      simp only [rowT, List.mem_cons] at hp
      rcases hp with rfl | hp
      · exact ⟨rfl, by show x0 ≤ x0; omega, by show x0 < _; omega⟩
      · have := ih (x0 + 1) p hp; omega
  have hrs : ∀ (x0 : Int) (nx n : Nat) (y : Int), ∀ p ∈ rowsT x0 nx y n, (x0 ≤ p.1 ∧ p.1 < x0 + nx) ∧ y ≤ p.2 ∧ p.2 < y + n := by
    intro x0 nx n
    induction n with
    | zero => intro y p hp; simp [rowsT] at hp
    | succ n ih =>
      intro y p hp
      simp only [rowsT, List.mem_append] at hp
      rcases hp with hp | hp
      · have := hr _ _ _ p hp; omega
      · have := ih (y + 1) p hp; omega
  intro p hp
  unfold tilesOf at hp
  have hs : scr W V = true := by simp only [scr, Bool.and_eq_true, decide_eq_true_eq]; omega
  rw [if_pos hs] at hp
  cases he : emp (meet B ⟨0, 0, W, V⟩) with
  | true => simp only [he, if_true] at hp; simp at hp
  | false =>
    simp only [he, Bool.false_eq_true, if_false] at hp
    have q := meet_in B hs he
    generalize meet B ⟨0, 0, W, V⟩ = M at *
    have := hrs _ _ _ _ p hp
    omega
theorem tiles_len (B : B4) (W V : Int) : (tilesOf B W V).length ≤ 1024 := by
  unfold tilesOf
  cases hs : scr W V with
  | false => simp
  | true =>
    cases he : emp (meet B ⟨0, 0, W, V⟩) with
    | true => simp [he]
    | false =>
      have q := meet_in B hs he
      have w := scr_b hs
      simp only [if_true, he, Bool.false_eq_true, if_false]
      generalize meet B ⟨0, 0, W, V⟩ = M at *
      rw [rowsT_len]
      exact Nat.le_trans (Nat.mul_le_mul (show ((M.y1 - 1) / 8 + 1 - M.y0 / 8).toNat ≤ 32 by omega) (show ((M.x1 - 1) / 8 + 1 - M.x0 / 8).toNat ≤ 32 by omega)) (by decide)
theorem btiles (b : B4) (w h : Int) (H : AH) : SemCall Try.prog 6 [b.val, .int .i64 w, .int .i64 h] H (.bool true) H [] := by
  refine pure_of ?_ rfl
  have hW := wth_b w (lo := 1) (hi := 40) (by omega)
  have hV := wth_b h (lo := 1) (hi := 40) (by omega)
  generalize gW : wth w 1 40 = W at *
  generalize gV : wth h 1 40 = V at *
  have w1 := fun H => within_ w 1 40 (by omega) (by omega) (by omega) H
  have w2 := fun H => within_ h 1 40 (by omega) (by omega) (by omega) H
  rw [gW] at w1
  rw [gV] at w2
  have hw1 : scr W V = true := by simp only [scr, Bool.and_eq_true, decide_eq_true_eq]; omega
  generalize hB : (⟨b.x0 % 64 - 8, b.y0 % 64 - 8, b.x1 % 64, b.y1 % 64⟩ : B4) = B
  have hB1 : b.x0 % 64 - 8 = B.x0 := by rw [← hB]
  have hB2 : b.y0 % 64 - 8 = B.y0 := by rw [← hB]
  have hB3 : b.x1 % 64 = B.x1 := by rw [← hB]
  have hB4 : b.y1 % 64 = B.y1 := by rw [← hB]
  have z1 : IntKind.i64.wrap B.x0 = B.x0 := wi (by omega) (by omega)
  have z2 : IntKind.i64.wrap B.y0 = B.y0 := wi (by omega) (by omega)
  obtain ⟨L, a, e, ht, hL⟩ := tiles_ B W V (H ++ [⟨b4C b, 0, true⟩, ⟨b4C B, 0, true⟩, ⟨mkn (fun _ => 0), 0, true⟩]) (H.length + 3) (by simp)
  have hlaw := tile_law B W V hW hV
  have htin := tiles_in B W V hW hV
  have hlen : (tilesOf B W V).length ≤ 1024 := tiles_len B W V
  generalize tilesOf B W V = tot at *
  refine XCal.of hm Try.func6 rfl (fun xs w => Try.call6 xs w) Try.ntmps6 Try.results6 rfl ?_
  simp only [go_sem, Nat.reduceEqDiff, Nat.reduceAdd, Nat.reduceSub, Nat.reduceMul, Nat.reduceLT, Nat.reduceLeDiff, Int.reducePow, Int.reduceBEq, Int.reduceBNe, Int.reduceDiv, Int.reduceMod, Int.reduceEq, Int.reduceLT, Int.reduceLE, Int.reduceAdd, Int.reduceSub, Int.reduceMul, Int.reduceNeg, Int.reduceToNat, Int.reduceTDiv, Int.reduceTMod, ↓reduceIte]
  repeat ((first | refine (w1 _).x ?_ | refine (w2 _).x ?_ | refine drawnF ?_ (by decide +kernel)); simp only [go_sem, Nat.reduceEqDiff, Nat.reduceAdd, Nat.reduceSub, Nat.reduceMul, Nat.reduceLT, Nat.reduceLeDiff, Int.reducePow, Int.reduceBEq, Int.reduceBNe, Int.reduceDiv, Int.reduceMod, Int.reduceEq, Int.reduceLT, Int.reduceLE, Int.reduceAdd, Int.reduceSub, Int.reduceMul, Int.reduceNeg, Int.reduceToNat, Int.reduceTDiv, Int.reduceTMod, ↓reduceIte, and_6, hB1, hB2, hB3, hB4])
  simp only [go_sem, Nat.reduceEqDiff, Nat.reduceAdd, Nat.reduceSub, Nat.reduceMul, Nat.reduceLT, Nat.reduceLeDiff, Int.reducePow, Int.reduceBEq, Int.reduceBNe, Int.reduceDiv, Int.reduceMod, Int.reduceEq, Int.reduceLT, Int.reduceLE, Int.reduceAdd, Int.reduceSub, Int.reduceMul, Int.reduceNeg, Int.reduceToNat, Int.reduceTDiv, Int.reduceTMod, ↓reduceIte, z1, z2]
  refine ht.x ?_
  simp only [go_sem, Nat.reduceEqDiff, Nat.reduceAdd, Nat.reduceSub, Nat.reduceMul, Nat.reduceLT, Nat.reduceLeDiff, Int.reducePow, Int.reduceBEq, Int.reduceBNe, Int.reduceDiv, Int.reduceMod, Int.reduceEq, Int.reduceLT, Int.reduceLE, Int.reduceAdd, Int.reduceSub, Int.reduceMul, Int.reduceNeg, Int.reduceToNat, Int.reduceTDiv, Int.reduceTMod, ↓reduceIte]
  refine keep (fun k T H' D => D = [] ∧ ∃ (i : Nat) (G : AH), i + k = tot.length ∧ H' = H ++ (⟨b4C b, 0, true⟩ :: ⟨b4C B, 0, true⟩ :: ⟨mkn (cntI (tot.take i)), 0, true⟩ :: (L ++ G)) ∧ T 7 = .int .i64 W ∧ T 8 = .int .i64 V ∧ T 9 = ap (H.length + 1) 0 0 ∧ T 10 = ap (H.length + 2) 0 0 ∧ T 38 = .slice a tot.length e ∧ T 39 = .int .i64 (tot.length : Int) ∧ T 40 = .int .i64 (i : Int)) tot.length
    ⟨rfl, 0, [], by omega, by rw [List.append_nil, List.append_assoc]; rfl, by simp only [go_sem, Nat.reduceEqDiff, Nat.reduceAdd, Nat.reduceSub, Nat.reduceMul, Nat.reduceLT, Nat.reduceLeDiff, Int.reducePow, Int.reduceBEq, Int.reduceBNe, Int.reduceDiv, Int.reduceMod, Int.reduceEq, Int.reduceLT, Int.reduceLE, Int.reduceAdd, Int.reduceSub, Int.reduceMul, Int.reduceNeg, Int.reduceToNat, Int.reduceTDiv, Int.reduceTMod, ↓reduceIte], by simp only [go_sem, Nat.reduceEqDiff, Nat.reduceAdd, Nat.reduceSub, Nat.reduceMul, Nat.reduceLT, Nat.reduceLeDiff, Int.reducePow, Int.reduceBEq, Int.reduceBNe, Int.reduceDiv, Int.reduceMod, Int.reduceEq, Int.reduceLT, Int.reduceLE, Int.reduceAdd, Int.reduceSub, Int.reduceMul, Int.reduceNeg, Int.reduceToNat, Int.reduceTDiv, Int.reduceTMod, ↓reduceIte], by simp only [go_sem, Nat.reduceEqDiff, Nat.reduceAdd, Nat.reduceSub, Nat.reduceMul, Nat.reduceLT, Nat.reduceLeDiff, Int.reducePow, Int.reduceBEq, Int.reduceBNe, Int.reduceDiv, Int.reduceMod, Int.reduceEq, Int.reduceLT, Int.reduceLE, Int.reduceAdd, Int.reduceSub, Int.reduceMul, Int.reduceNeg, Int.reduceToNat, Int.reduceTDiv, Int.reduceTMod, ↓reduceIte], by simp only [go_sem, Nat.reduceEqDiff, Nat.reduceAdd, Nat.reduceSub, Nat.reduceMul, Nat.reduceLT, Nat.reduceLeDiff, Int.reducePow, Int.reduceBEq, Int.reduceBNe, Int.reduceDiv, Int.reduceMod, Int.reduceEq, Int.reduceLT, Int.reduceLE, Int.reduceAdd, Int.reduceSub, Int.reduceMul, Int.reduceNeg, Int.reduceToNat, Int.reduceTDiv, Int.reduceTMod, ↓reduceIte], by simp only [go_sem, Nat.reduceEqDiff, Nat.reduceAdd, Nat.reduceSub, Nat.reduceMul, Nat.reduceLT, Nat.reduceLeDiff, Int.reducePow, Int.reduceBEq, Int.reduceBNe, Int.reduceDiv, Int.reduceMod, Int.reduceEq, Int.reduceLT, Int.reduceLE, Int.reduceAdd, Int.reduceSub, Int.reduceMul, Int.reduceNeg, Int.reduceToNat, Int.reduceTDiv, Int.reduceTMod, ↓reduceIte], by simp only [go_sem, Nat.reduceEqDiff, Nat.reduceAdd, Nat.reduceSub, Nat.reduceMul, Nat.reduceLT, Nat.reduceLeDiff, Int.reducePow, Int.reduceBEq, Int.reduceBNe, Int.reduceDiv, Int.reduceMod, Int.reduceEq, Int.reduceLT, Int.reduceLE, Int.reduceAdd, Int.reduceSub, Int.reduceMul, Int.reduceNeg, Int.reduceToNat, Int.reduceTDiv, Int.reduceTMod, ↓reduceIte], by simp only [go_sem, Nat.reduceEqDiff, Nat.reduceAdd, Nat.reduceSub, Nat.reduceMul, Nat.reduceLT, Nat.reduceLeDiff, Int.reducePow, Int.reduceBEq, Int.reduceBNe, Int.reduceDiv, Int.reduceMod, Int.reduceEq, Int.reduceLT, Int.reduceLE, Int.reduceAdd, Int.reduceSub, Int.reduceMul, Int.reduceNeg, Int.reduceToNat, Int.reduceTDiv, Int.reduceTMod, ↓reduceIte] <;> rfl⟩ ?_
  rintro k T H' D ⟨rfl, i, G, hik, rfl, h7, h8, h9, h10, h38, h39, h40⟩
  by_cases hk : i < tot.length
  · obtain ⟨rfl, rfl, rfl⟩ := hL (fun e => by rw [e] at hk; simp at hk)
    obtain ⟨p, hp, _⟩ := getD_some hk
    have hin := htin p (List.mem_of_getElem? hp)
    have ld := fun (b : Nat) => ald_pt0 (b := b) (g := 0) (rw_ := true) hp
    have wi1 : IntKind.i64.wrap (p.2 * 5) = p.2 * 5 := wi (by omega) (by omega)
    have wi2 : IntKind.i64.wrap (p.2 * 5 + p.1) = p.2 * 5 + p.1 := wi (by omega) (by omega)
    have wi3 : IntKind.i64.wrap ((i : Int) + 1) = ((i + 1 : Nat) : Int) := by rw [wi (by omega) (by omega)]; rfl
    obtain ⟨d, hd⟩ : ∃ d : Nat, p.2 * 5 + p.1 = (d : Int) := ⟨(p.2 * 5 + p.1).toNat, by omega⟩
    have hd25 : d < 25 := by omega
    have hcb := cntI_b (tot.take i) d
    have hlt : (tot.take i).length ≤ 1024 := by rw [List.length_take]; omega
    have wi4 : IntKind.i64.wrap (cntI (tot.take i) d + 1) = cntI (tot.take i) d + 1 := wi (by omega) (by omega)
    have hst : mkn (fun j => if j = d then cntI (tot.take i) d + 1 else cntI (tot.take i) j) = mkn (cntI (tot.take (i + 1))) := mkn_ext fun j _ => by
      rw [List.take_add_one, hp, cntI_app]
      simp only [Option.toList, cntI]
      by_cases h : j = d
      · subst h; rw [if_pos rfl, if_pos hd]; omega
      · rw [if_neg h, if_neg (by omega)]; omega
    rw [hd] at wi2
    simp only [go_sem, Nat.reduceEqDiff, Nat.reduceAdd, Nat.reduceSub, Nat.reduceMul, Nat.reduceLT, Nat.reduceLeDiff, Int.reducePow, Int.reduceBEq, Int.reduceBNe, Int.reduceDiv, Int.reduceMod, Int.reduceEq, Int.reduceLT, Int.reduceLE, Int.reduceAdd, Int.reduceSub, Int.reduceMul, Int.reduceNeg, Int.reduceToNat, Int.reduceTDiv, Int.reduceTMod, ↓reduceIte, h7, h8, h9, h10, h38, h39, h40, dt (show (i : Int) < (tot.length : Int) by omega), show (0 : Int) ≤ (i : Int) by omega, show (i : Int) < (tot.length : Int) by omega, Int.toNat_natCast, Nat.zero_add, ld, ptv, df (show ¬ p.1 < 0 by omega), df (show ¬ (4 < p.1) by omega), df (show ¬ p.2 < 0 by omega), df (show ¬ (4 < p.2) by omega), wi1, hd, wi2, wi3, wi4, Nat.mul_one, mkn_get _ hd25, mkn_ast _ _ hd25, show (0 : Int) ≤ (d : Int) by omega, show (d : Int) < 25 by omega, hst]
    exact ⟨k - 1, by omega, i + 1, _, by omega, rfl, rfl⟩
  · have hi : i = tot.length := by omega
    subst hi
    rw [List.take_length]
    simp only [go_sem, Nat.reduceEqDiff, Nat.reduceAdd, Nat.reduceSub, Nat.reduceMul, Nat.reduceLT, Nat.reduceLeDiff, Int.reducePow, Int.reduceBEq, Int.reduceBNe, Int.reduceDiv, Int.reduceMod, Int.reduceEq, Int.reduceLT, Int.reduceLE, Int.reduceAdd, Int.reduceSub, Int.reduceMul, Int.reduceNeg, Int.reduceToNat, Int.reduceTDiv, Int.reduceTMod, ↓reduceIte, h7, h8, h9, h10, h38, h39, h40, df (show ¬ ((tot.length : Nat) : Int) < (tot.length : Int) by omega)]
    have hz : mkn (fun _ => 0) = mkn (mkf B W 0 0) := mkn_ext fun j _ => (mkf_start B W j).symm
    have hc : mkn (cntI tot) = mkn (mkf B W V 0) := mkn_ext fun j _ => hlaw j
    rw [hc]
    generalize hCC : mkn (mkf B W V 0) = CC
    have vY : ∀ x : Int, 0 ≤ x → x ≤ 100 → IntKind.i64.wrap (x.tdiv 8) = x / 8 := fun x h1 h2 => by rw [Int.tdiv_eq_ediv_of_nonneg h1]; exact wi (by omega) (by omega)
    refine keep (fun k T H' D => D = [] ∧ ∃ (Y : Int) (Z : AH), 0 ≤ Y ∧ Y + k = V ∧ H' = H ++ (⟨b4C b, 0, true⟩ :: ⟨b4C B, 0, true⟩ :: ⟨CC, 0, true⟩ :: (L ++ (G ++ (⟨mkn (mkf B W Y 0), 0, true⟩ :: Z)))) ∧ T 7 = .int .i64 W ∧ T 8 = .int .i64 V ∧ T 9 = ap (H.length + 1) 0 0 ∧ T 10 = ap (H.length + 2) 0 0 ∧ T 13 = ap (H.length + (L.length + G.length + 1 + 1 + 1)) 0 0 ∧ T 14 = .int .i64 Y) V.toNat
      ⟨rfl, 0, [], by omega, by omega, by rw [← hz]; rfl, by simp only [go_sem, Nat.reduceEqDiff, Nat.reduceAdd, Nat.reduceSub, Nat.reduceMul, Nat.reduceLT, Nat.reduceLeDiff, Int.reducePow, Int.reduceBEq, Int.reduceBNe, Int.reduceDiv, Int.reduceMod, Int.reduceEq, Int.reduceLT, Int.reduceLE, Int.reduceAdd, Int.reduceSub, Int.reduceMul, Int.reduceNeg, Int.reduceToNat, Int.reduceTDiv, Int.reduceTMod, ↓reduceIte, h7], by simp only [go_sem, Nat.reduceEqDiff, Nat.reduceAdd, Nat.reduceSub, Nat.reduceMul, Nat.reduceLT, Nat.reduceLeDiff, Int.reducePow, Int.reduceBEq, Int.reduceBNe, Int.reduceDiv, Int.reduceMod, Int.reduceEq, Int.reduceLT, Int.reduceLE, Int.reduceAdd, Int.reduceSub, Int.reduceMul, Int.reduceNeg, Int.reduceToNat, Int.reduceTDiv, Int.reduceTMod, ↓reduceIte, h8], by simp only [go_sem, Nat.reduceEqDiff, Nat.reduceAdd, Nat.reduceSub, Nat.reduceMul, Nat.reduceLT, Nat.reduceLeDiff, Int.reducePow, Int.reduceBEq, Int.reduceBNe, Int.reduceDiv, Int.reduceMod, Int.reduceEq, Int.reduceLT, Int.reduceLE, Int.reduceAdd, Int.reduceSub, Int.reduceMul, Int.reduceNeg, Int.reduceToNat, Int.reduceTDiv, Int.reduceTMod, ↓reduceIte, h9], by simp only [go_sem, Nat.reduceEqDiff, Nat.reduceAdd, Nat.reduceSub, Nat.reduceMul, Nat.reduceLT, Nat.reduceLeDiff, Int.reducePow, Int.reduceBEq, Int.reduceBNe, Int.reduceDiv, Int.reduceMod, Int.reduceEq, Int.reduceLT, Int.reduceLE, Int.reduceAdd, Int.reduceSub, Int.reduceMul, Int.reduceNeg, Int.reduceToNat, Int.reduceTDiv, Int.reduceTMod, ↓reduceIte, h10], by simp only [go_sem, Nat.reduceEqDiff, Nat.reduceAdd, Nat.reduceSub, Nat.reduceMul, Nat.reduceLT, Nat.reduceLeDiff, Int.reducePow, Int.reduceBEq, Int.reduceBNe, Int.reduceDiv, Int.reduceMod, Int.reduceEq, Int.reduceLT, Int.reduceLE, Int.reduceAdd, Int.reduceSub, Int.reduceMul, Int.reduceNeg, Int.reduceToNat, Int.reduceTDiv, Int.reduceTMod, ↓reduceIte], by simp only [go_sem, Nat.reduceEqDiff, Nat.reduceAdd, Nat.reduceSub, Nat.reduceMul, Nat.reduceLT, Nat.reduceLeDiff, Int.reducePow, Int.reduceBEq, Int.reduceBNe, Int.reduceDiv, Int.reduceMod, Int.reduceEq, Int.reduceLT, Int.reduceLE, Int.reduceAdd, Int.reduceSub, Int.reduceMul, Int.reduceNeg, Int.reduceToNat, Int.reduceTDiv, Int.reduceTMod, ↓reduceIte] <;> rfl⟩ ?_
    clear h7 h8 h9 h10 h38 h39 h40
    rintro k T H' D ⟨rfl, Y, Z, hY0, hYk, rfl, h7, h8, h9, h10, h13, h14⟩
    by_cases hk : Y < V
    · simp only [go_sem, Nat.reduceEqDiff, Nat.reduceAdd, Nat.reduceSub, Nat.reduceMul, Nat.reduceLT, Nat.reduceLeDiff, Int.reducePow, Int.reduceBEq, Int.reduceBNe, Int.reduceDiv, Int.reduceMod, Int.reduceEq, Int.reduceLT, Int.reduceLE, Int.reduceAdd, Int.reduceSub, Int.reduceMul, Int.reduceNeg, Int.reduceToNat, Int.reduceTDiv, Int.reduceTMod, ↓reduceIte, h7, h8, h9, h10, h13, h14, dt hk]
      refine keep (fun k' T H' D => D = [] ∧ ∃ (X : Int) (Z : AH), 0 ≤ X ∧ X + k' = W ∧ H' = H ++ (⟨b4C b, 0, true⟩ :: ⟨b4C B, 0, true⟩ :: ⟨CC, 0, true⟩ :: (L ++ (G ++ (⟨mkn (mkf B W Y X), 0, true⟩ :: Z)))) ∧ T 7 = .int .i64 W ∧ T 8 = .int .i64 V ∧ T 9 = ap (H.length + 1) 0 0 ∧ T 10 = ap (H.length + 2) 0 0 ∧ T 13 = ap (H.length + (L.length + G.length + 1 + 1 + 1)) 0 0 ∧ T 14 = .int .i64 Y ∧ T 15 = .int .i64 X) W.toNat
        ⟨rfl, 0, Z, by omega, by omega, rfl, by simp only [go_sem, Nat.reduceEqDiff, Nat.reduceAdd, Nat.reduceSub, Nat.reduceMul, Nat.reduceLT, Nat.reduceLeDiff, Int.reducePow, Int.reduceBEq, Int.reduceBNe, Int.reduceDiv, Int.reduceMod, Int.reduceEq, Int.reduceLT, Int.reduceLE, Int.reduceAdd, Int.reduceSub, Int.reduceMul, Int.reduceNeg, Int.reduceToNat, Int.reduceTDiv, Int.reduceTMod, ↓reduceIte, h7], by simp only [go_sem, Nat.reduceEqDiff, Nat.reduceAdd, Nat.reduceSub, Nat.reduceMul, Nat.reduceLT, Nat.reduceLeDiff, Int.reducePow, Int.reduceBEq, Int.reduceBNe, Int.reduceDiv, Int.reduceMod, Int.reduceEq, Int.reduceLT, Int.reduceLE, Int.reduceAdd, Int.reduceSub, Int.reduceMul, Int.reduceNeg, Int.reduceToNat, Int.reduceTDiv, Int.reduceTMod, ↓reduceIte, h8], by simp only [go_sem, Nat.reduceEqDiff, Nat.reduceAdd, Nat.reduceSub, Nat.reduceMul, Nat.reduceLT, Nat.reduceLeDiff, Int.reducePow, Int.reduceBEq, Int.reduceBNe, Int.reduceDiv, Int.reduceMod, Int.reduceEq, Int.reduceLT, Int.reduceLE, Int.reduceAdd, Int.reduceSub, Int.reduceMul, Int.reduceNeg, Int.reduceToNat, Int.reduceTDiv, Int.reduceTMod, ↓reduceIte, h9], by simp only [go_sem, Nat.reduceEqDiff, Nat.reduceAdd, Nat.reduceSub, Nat.reduceMul, Nat.reduceLT, Nat.reduceLeDiff, Int.reducePow, Int.reduceBEq, Int.reduceBNe, Int.reduceDiv, Int.reduceMod, Int.reduceEq, Int.reduceLT, Int.reduceLE, Int.reduceAdd, Int.reduceSub, Int.reduceMul, Int.reduceNeg, Int.reduceToNat, Int.reduceTDiv, Int.reduceTMod, ↓reduceIte, h10], by simp only [go_sem, Nat.reduceEqDiff, Nat.reduceAdd, Nat.reduceSub, Nat.reduceMul, Nat.reduceLT, Nat.reduceLeDiff, Int.reducePow, Int.reduceBEq, Int.reduceBNe, Int.reduceDiv, Int.reduceMod, Int.reduceEq, Int.reduceLT, Int.reduceLE, Int.reduceAdd, Int.reduceSub, Int.reduceMul, Int.reduceNeg, Int.reduceToNat, Int.reduceTDiv, Int.reduceTMod, ↓reduceIte, h13], by simp only [go_sem, Nat.reduceEqDiff, Nat.reduceAdd, Nat.reduceSub, Nat.reduceMul, Nat.reduceLT, Nat.reduceLeDiff, Int.reducePow, Int.reduceBEq, Int.reduceBNe, Int.reduceDiv, Int.reduceMod, Int.reduceEq, Int.reduceLT, Int.reduceLE, Int.reduceAdd, Int.reduceSub, Int.reduceMul, Int.reduceNeg, Int.reduceToNat, Int.reduceTDiv, Int.reduceTMod, ↓reduceIte, h14], by simp only [go_sem, Nat.reduceEqDiff, Nat.reduceAdd, Nat.reduceSub, Nat.reduceMul, Nat.reduceLT, Nat.reduceLeDiff, Int.reducePow, Int.reduceBEq, Int.reduceBNe, Int.reduceDiv, Int.reduceMod, Int.reduceEq, Int.reduceLT, Int.reduceLE, Int.reduceAdd, Int.reduceSub, Int.reduceMul, Int.reduceNeg, Int.reduceToNat, Int.reduceTDiv, Int.reduceTMod, ↓reduceIte] <;> rfl⟩ ?_
      clear h7 h8 h9 h10 h13 h14
      rintro k' T H' D ⟨rfl, X, Z, hX0, hXk, rfl, h7, h8, h9, h10, h13, h14, h15⟩
      by_cases hk' : X < W
      · have wx : IntKind.i64.wrap (X + 1) = X + 1 := wi (by omega) (by omega)
        simp only [go_sem, Nat.reduceEqDiff, Nat.reduceAdd, Nat.reduceSub, Nat.reduceMul, Nat.reduceLT, Nat.reduceLeDiff, Int.reducePow, Int.reduceBEq, Int.reduceBNe, Int.reduceDiv, Int.reduceMod, Int.reduceEq, Int.reduceLT, Int.reduceLE, Int.reduceAdd, Int.reduceSub, Int.reduceMul, Int.reduceNeg, Int.reduceToNat, Int.reduceTDiv, Int.reduceTMod, ↓reduceIte, h7, h8, h9, h10, h13, h14, h15, dt hk']
        refine (has_ B X Y _).x ?_
        cases hh : has B X Y with
        | true =>
          obtain ⟨d, hd⟩ : ∃ d : Nat, Y / 8 * 5 + X / 8 = (d : Int) := ⟨(Y / 8 * 5 + X / 8).toNat, by omega⟩
          have hd25 : d < 25 := by omega
          have v1 : IntKind.i64.wrap (Y / 8 * 5) = Y / 8 * 5 := wi (by omega) (by omega)
          have v2 : IntKind.i64.wrap (d : Int) = (d : Int) := wi (by omega) (by omega)
          have hst : mkn (fun j => if j = d then 1 else mkf B W Y X j) = mkn (mkf B W Y (X + 1)) := mkn_ext fun j _ => by
            rw [mkf_yes1 hX0 hY0 hh, hd, Int.toNat_natCast]
          simp only [go_sem, Nat.reduceEqDiff, Nat.reduceAdd, Nat.reduceSub, Nat.reduceMul, Nat.reduceLT, Nat.reduceLeDiff, Int.reducePow, Int.reduceBEq, Int.reduceBNe, Int.reduceDiv, Int.reduceMod, Int.reduceEq, Int.reduceLT, Int.reduceLE, Int.reduceAdd, Int.reduceSub, Int.reduceMul, Int.reduceNeg, Int.reduceToNat, Int.reduceTDiv, Int.reduceTMod, ↓reduceIte, h7, h8, h9, h10, h13, h14, h15, wx, vY Y (by omega) (by omega), vY X (by omega) (by omega), v1, hd, v2, Int.toNat_natCast, Nat.zero_add, Nat.mul_one, mkn_ast _ _ hd25, show (0 : Int) ≤ (d : Int) by omega, show (d : Int) < 25 by omega, hst]
          exact ⟨k' - 1, by omega, X + 1, Z, by omega, by omega, rfl, rfl⟩
        | false =>
          have hst : mkn (mkf B W Y X) = mkn (mkf B W Y (X + 1)) := mkn_ext fun j _ => (mkf_no1 hh j).symm
          simp only [go_sem, Nat.reduceEqDiff, Nat.reduceAdd, Nat.reduceSub, Nat.reduceMul, Nat.reduceLT, Nat.reduceLeDiff, Int.reducePow, Int.reduceBEq, Int.reduceBNe, Int.reduceDiv, Int.reduceMod, Int.reduceEq, Int.reduceLT, Int.reduceLE, Int.reduceAdd, Int.reduceSub, Int.reduceMul, Int.reduceNeg, Int.reduceToNat, Int.reduceTDiv, Int.reduceTMod, ↓reduceIte, h7, h8, h9, h10, h13, h14, h15, wx, hst]
          exact ⟨k' - 1, by omega, X + 1, Z, by omega, by omega, rfl, rfl⟩
      · have hX : X = W := by omega
        subst hX
        have wy : IntKind.i64.wrap (Y + 1) = Y + 1 := wi (by omega) (by omega)
        have hst : mkn (mkf B X Y X) = mkn (mkf B X (Y + 1) 0) := mkn_ext fun j _ => (mkf_row B X Y j).symm
        rw [hst]
        simp only [go_sem, Nat.reduceEqDiff, Nat.reduceAdd, Nat.reduceSub, Nat.reduceMul, Nat.reduceLT, Nat.reduceLeDiff, Int.reducePow, Int.reduceBEq, Int.reduceBNe, Int.reduceDiv, Int.reduceMod, Int.reduceEq, Int.reduceLT, Int.reduceLE, Int.reduceAdd, Int.reduceSub, Int.reduceMul, Int.reduceNeg, Int.reduceToNat, Int.reduceTDiv, Int.reduceTMod, ↓reduceIte, h7, h8, h9, h10, h13, h14, h15, wy, df hk']
        exact ⟨k - 1, by omega, Y + 1, Z, by omega, by omega, rfl, rfl⟩
    · have hY : Y = V := by omega
      subst hY
      rw [hCC]
      simp only [go_sem, Nat.reduceEqDiff, Nat.reduceAdd, Nat.reduceSub, Nat.reduceMul, Nat.reduceLT, Nat.reduceLeDiff, Int.reducePow, Int.reduceBEq, Int.reduceBNe, Int.reduceDiv, Int.reduceMod, Int.reduceEq, Int.reduceLT, Int.reduceLE, Int.reduceAdd, Int.reduceSub, Int.reduceMul, Int.reduceNeg, Int.reduceToNat, Int.reduceTDiv, Int.reduceTMod, ↓reduceIte, h7, h8, h9, h10, h13, h14, df hk]
      have hCl : CC.length = 25 := by rw [← hCC]; exact mkn_len _
      have ldc : ∀ b, ald (some true) (some 25) (some ⟨CC, 0, true⟩) b 0 0 = some (.agg CC.toArray, b) := fun b => by simp [ald, hCl, List.take_of_length_le]
      have he : eqc [.i, .i, .i, .i, .i, .i, .i, .i, .i, .i, .i, .i, .i, .i, .i, .i, .i, .i, .i, .i, .i, .i, .i, .i, .i] CC CC = some true := by rw [← hCC]; exact eqc_mkn _
      simp only [go_sem, Nat.reduceEqDiff, Nat.reduceAdd, Nat.reduceSub, Nat.reduceMul, Nat.reduceLT, Nat.reduceLeDiff, Int.reducePow, Int.reduceBEq, Int.reduceBNe, Int.reduceDiv, Int.reduceMod, Int.reduceEq, Int.reduceLT, Int.reduceLE, Int.reduceAdd, Int.reduceSub, Int.reduceMul, Int.reduceNeg, Int.reduceToNat, Int.reduceTDiv, Int.reduceTMod, ↓reduceIte, ldc, h13, he]
      repeat ((first | refine (bknown_ _).x ?_ | refine drawnF ?_ (by decide +kernel)); simp only [go_sem, Nat.reduceEqDiff, Nat.reduceAdd, Nat.reduceSub, Nat.reduceMul, Nat.reduceLT, Nat.reduceLeDiff, Int.reducePow, Int.reduceBEq, Int.reduceBNe, Int.reduceDiv, Int.reduceMod, Int.reduceEq, Int.reduceLT, Int.reduceLE, Int.reduceAdd, Int.reduceSub, Int.reduceMul, Int.reduceNeg, Int.reduceToNat, Int.reduceTDiv, Int.reduceTMod, ↓reduceIte, he])
end Go.Proofs.Ythoclopeajkcpaa
