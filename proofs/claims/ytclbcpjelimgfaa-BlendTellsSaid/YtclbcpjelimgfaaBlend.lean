/- Chapter 17: the walks of what puts one pixel over the other. -/
import Derived.Test.YtclbcpjelimgfaaFacts
import Derived.Test.YtclbcpjelimgfaaEM
namespace Go.Proofs.Ytclbcpjelimgfaa.Blend
open Go Go.RowKit E
attribute [local irreducible] XRun XOps XCode XCal XLoop XQ SemCall
set_option linter.unusedSimpArgs false
set_option linter.unusedVariables false
theorem hm : Try.prog.follows .mixedOrders = true := by decide
theorem wi {n : Int} (h1 : -9223372036854775808 ≤ n) (h2 : n ≤ 9223372036854775807) : IntKind.i64.wrap n = n := by rw [IntKind.wrap_i64]; omega
theorem w8 {n : Int} (h1 : 0 ≤ n) (h2 : n ≤ 255) : IntKind.u8.wrap n = n := by rw [IntKind.wrap_u8]; omega
theorem wu {n : Int} (h : 0 ≤ n ∧ n ≤ 255) : IntKind.i64.wrap n = n := wi (by omega) (by omega)
/-- A number between two. -/
def cl (m a : Int) : Int := if a < 0 then 0 else if m < a then m else a
theorem cl_b (m a : Int) (h : 0 ≤ m) : 0 ≤ cl m a ∧ cl m a ≤ m := by unfold cl; split <;> (try split) <;> omega
def By (a b : Int) : Int := (cl 255 a * cl 255 b + 127) / 255
theorem mulb {x y m n : Int} (hx : 0 ≤ x ∧ x ≤ m) (hy : 0 ≤ y ∧ y ≤ n) : 0 ≤ x * y ∧ x * y ≤ m * n :=
  ⟨Int.mul_nonneg hx.1 hy.1, Int.le_trans (Int.mul_le_mul_of_nonneg_right hx.2 hy.1) (Int.mul_le_mul_of_nonneg_left hy.2 (Int.le_trans hx.1 hx.2))⟩
theorem By_b (a b : Int) : 0 ≤ By a b ∧ By a b ≤ 255 := by
  have h := mulb (cl_b 255 a (by omega)) (cl_b 255 b (by omega))
  unfold By; omega
@[go_sem] theorem wby8 (a b : Int) : IntKind.u8.wrap (By a b) = By a b := w8 (By_b a b).1 (By_b a b).2
@[go_sem] theorem wby (a b : Int) : IntKind.i64.wrap (By a b) = By a b := wu (By_b a b)
def St (c : Int) : Int := (cl 16 c * 255 + 8) / 16
theorem St_b (a : Int) : 0 ≤ St a ∧ St a ≤ 255 := by
  have h := cl_b 16 a (by omega)
  unfold St; omega
def px (a b c d : Int) : Value := .agg [.int .u8 a, .int .u8 b, .int .u8 c, .int .u8 d].toArray
theorem cl1 (m a : Int) (h : 0 ≤ m) : (if 0 < (if m < a then m else a) then (if m < a then m else a) else 0) = cl m a := by unfold cl; split <;> (try split) <;> (try split) <;> (try split) <;> omega
theorem cl2 (m a : Int) (h : 0 ≤ m) : (if (if m < a then m else a) < 0 then 0 else (if m < a then m else a)) = cl m a := by unfold cl; split <;> (try split) <;> (try split) <;> (try split) <;> omega
theorem by_w (a b : Int) : IntKind.i64.wrap ((IntKind.i64.wrap (IntKind.i64.wrap (cl 255 a * cl 255 b) + 127)).tdiv 255) = By a b := by
  have h := mulb (cl_b 255 a (by omega)) (cl_b 255 b (by omega))
  rw [wi (n := cl 255 a * cl 255 b) (by omega) (by omega), wi (n := cl 255 a * cl 255 b + 127) (by omega) (by omega), Int.tdiv_eq_ediv_of_nonneg (by omega)]
  exact wby a b
theorem st_w (a : Int) : IntKind.i64.wrap ((IntKind.i64.wrap (IntKind.i64.wrap (cl 16 a * 255) + 8)).tdiv 16) = St a := by
  have h := cl_b 16 a (by omega)
  rw [wi (n := cl 16 a * 255) (by omega) (by omega), wi (n := cl 16 a * 255 + 8) (by omega) (by omega), Int.tdiv_eq_ediv_of_nonneg (by omega)]
  exact wu (St_b a)
theorem by_ (a b : Int) (H : AH) : SemCall Try.prog 7 [.int .i64 a, .int .i64 b] H (.int .i64 (By a b)) H [] := by
  refine pure_of ?_ rfl
  refine XCal.of hm Try.func7 rfl (fun xs w => Try.call7 xs w) Try.ntmps7 Try.results7 rfl ?_
  simp only [go_sem, Nat.reduceEqDiff, Nat.reduceAdd, Nat.reduceSub, Nat.reduceMul, Nat.reduceLT, Nat.reduceLeDiff, Int.reduceEq, Int.reduceLT, Int.reduceLE, Int.reduceAdd, Int.reduceSub, Int.reduceMul, Int.reduceNeg, Int.reduceToNat, Int.reduceTDiv, Int.reduceTMod, decide_true, decide_false, Int.cast_ofNat_Int, Bool.not_true, Bool.not_false, Bool.false_eq_true, List.append_nil, List.cons_append, List.nil_append, List.set_cons_zero, List.set_cons_succ, List.getElem?_cons_zero, List.getElem?_cons_succ, ↓reduceIte, cl1 255 a (by omega), cl1 255 b (by omega), by_w]
theorem rby (a b : Int) (H : AH) : SemCall Try.prog 8 [.int .i64 a, .int .i64 b] H (.int .i64 (By a b)) H [] := by
  refine pure_of ?_ rfl
  refine XCal.of hm Try.func8 rfl (fun xs w => Try.call8 xs w) Try.ntmps8 Try.results8 rfl ?_
  simp only [go_sem, Nat.reduceEqDiff, Nat.reduceAdd, Nat.reduceSub, Nat.reduceMul, Nat.reduceLT, Nat.reduceLeDiff, Int.reduceEq, Int.reduceLT, Int.reduceLE, Int.reduceAdd, Int.reduceSub, Int.reduceMul, Int.reduceNeg, Int.reduceToNat, Int.reduceTDiv, Int.reduceTMod, decide_true, decide_false, Int.cast_ofNat_Int, Bool.not_true, Bool.not_false, Bool.false_eq_true, List.append_nil, List.cons_append, List.nil_append, List.set_cons_zero, List.set_cons_succ, List.getElem?_cons_zero, List.getElem?_cons_succ, ↓reduceIte, cl2 255 a (by omega), cl2 255 b (by omega), by_w]
theorem st (a : Int) (H : AH) : SemCall Try.prog 9 [.int .i64 a] H (.int .i64 (St a)) H [] := by
  refine pure_of ?_ rfl
  refine XCal.of hm Try.func9 rfl (fun xs w => Try.call9 xs w) Try.ntmps9 Try.results9 rfl ?_
  simp only [go_sem, Nat.reduceEqDiff, Nat.reduceAdd, Nat.reduceSub, Nat.reduceMul, Nat.reduceLT, Nat.reduceLeDiff, Int.reduceEq, Int.reduceLT, Int.reduceLE, Int.reduceAdd, Int.reduceSub, Int.reduceMul, Int.reduceNeg, Int.reduceToNat, Int.reduceTDiv, Int.reduceTMod, decide_true, decide_false, Int.cast_ofNat_Int, Bool.not_true, Bool.not_false, Bool.false_eq_true, List.append_nil, List.cons_append, List.nil_append, List.set_cons_zero, List.set_cons_succ, List.getElem?_cons_zero, List.getElem?_cons_succ, ↓reduceIte, cl1 16 a (by omega), st_w]
theorem rst (a : Int) (H : AH) : SemCall Try.prog 10 [.int .i64 a] H (.int .i64 (St a)) H [] := by
  refine pure_of ?_ rfl
  refine XCal.of hm Try.func10 rfl (fun xs w => Try.call10 xs w) Try.ntmps10 Try.results10 rfl ?_
  simp only [go_sem, Nat.reduceEqDiff, Nat.reduceAdd, Nat.reduceSub, Nat.reduceMul, Nat.reduceLT, Nat.reduceLeDiff, Int.reduceEq, Int.reduceLT, Int.reduceLE, Int.reduceAdd, Int.reduceSub, Int.reduceMul, Int.reduceNeg, Int.reduceToNat, Int.reduceTDiv, Int.reduceTMod, decide_true, decide_false, Int.cast_ofNat_Int, Bool.not_true, Bool.not_false, Bool.false_eq_true, List.append_nil, List.cons_append, List.nil_append, List.set_cons_zero, List.set_cons_succ, List.getElem?_cons_zero, List.getElem?_cons_succ, ↓reduceIte, cl2 16 a (by omega), st_w]
abbrev B8 (a : Int) : Prop := 0 ≤ a ∧ a ≤ 255
section
variable (a b c d a' b' c' d' k : Int) (ha : B8 a) (hb : B8 b) (hc : B8 c) (hd : B8 d) (ha' : B8 a') (hb' : B8 b') (hc' : B8 c') (hd' : B8 d')
include ha hb hc hd
theorem fade (H : AH) : SemCall Try.prog 13 [px a b c d, .int .i64 k] H (px (By a k) (By b k) (By c k) (By d k)) H [] := by
  refine pure_of ?_ rfl
  unfold px
  refine XCal.of hm Try.func13 rfl (fun xs w => Try.call13 xs w) Try.ntmps13 Try.results13 rfl ?_
  simp only [go_sem, Nat.reduceEqDiff, Nat.reduceAdd, Nat.reduceSub, Nat.reduceMul, Nat.reduceLT, Nat.reduceLeDiff, Int.reduceEq, Int.reduceLT, Int.reduceLE, Int.reduceAdd, Int.reduceSub, Int.reduceMul, Int.reduceNeg, Int.reduceToNat, Int.reduceTDiv, Int.reduceTMod, decide_true, decide_false, Int.cast_ofNat_Int, Bool.not_true, Bool.not_false, Bool.false_eq_true, List.append_nil, List.cons_append, List.nil_append, List.set_cons_zero, List.set_cons_succ, List.getElem?_cons_zero, List.getElem?_cons_succ, ↓reduceIte]
  refine rounds 5 ?_
  simp only [go_sem, Nat.reduceEqDiff, Nat.reduceAdd, Nat.reduceSub, Nat.reduceMul, Nat.reduceLT, Nat.reduceLeDiff, Int.reduceEq, Int.reduceLT, Int.reduceLE, Int.reduceAdd, Int.reduceSub, Int.reduceMul, Int.reduceNeg, Int.reduceToNat, Int.reduceTDiv, Int.reduceTMod, decide_true, decide_false, Int.cast_ofNat_Int, Bool.not_true, Bool.not_false, Bool.false_eq_true, List.append_nil, List.cons_append, List.nil_append, List.set_cons_zero, List.set_cons_succ, List.getElem?_cons_zero, List.getElem?_cons_succ, ↓reduceIte, wu ha]
  repeat (first | (refine (by_ _ _ _).x ?_; simp only [go_sem, Nat.reduceEqDiff, Nat.reduceAdd, Nat.reduceSub, Nat.reduceMul, Nat.reduceLT, Nat.reduceLeDiff, Int.reduceEq, Int.reduceLT, Int.reduceLE, Int.reduceAdd, Int.reduceSub, Int.reduceMul, Int.reduceNeg, Int.reduceToNat, Int.reduceTDiv, Int.reduceTMod, decide_true, decide_false, Int.cast_ofNat_Int, Bool.not_true, Bool.not_false, Bool.false_eq_true, List.append_nil, List.cons_append, List.nil_append, List.set_cons_zero, List.set_cons_succ, List.getElem?_cons_zero, List.getElem?_cons_succ, ↓reduceIte, wu hb, wu hc, wu hd]) | (refine drawnF ?_ (by decide +kernel); simp only [go_sem, Nat.reduceEqDiff, Nat.reduceAdd, Nat.reduceSub, Nat.reduceMul, Nat.reduceLT, Nat.reduceLeDiff, Int.reduceEq, Int.reduceLT, Int.reduceLE, Int.reduceAdd, Int.reduceSub, Int.reduceMul, Int.reduceNeg, Int.reduceToNat, Int.reduceTDiv, Int.reduceTMod, decide_true, decide_false, Int.cast_ofNat_Int, Bool.not_true, Bool.not_false, Bool.false_eq_true, List.append_nil, List.cons_append, List.nil_append, List.set_cons_zero, List.set_cons_succ, List.getElem?_cons_zero, List.getElem?_cons_succ, ↓reduceIte, wu hb, wu hc, wu hd]))
theorem rfade (H : AH) : SemCall Try.prog 14 [px a b c d, .int .i64 k] H (px (By a k) (By b k) (By c k) (By d k)) H [] := by
  refine pure_of ?_ rfl
  unfold px
  refine XCal.of hm Try.func14 rfl (fun xs w => Try.call14 xs w) Try.ntmps14 Try.results14 rfl ?_
  simp only [go_sem, Nat.reduceEqDiff, Nat.reduceAdd, Nat.reduceSub, Nat.reduceMul, Nat.reduceLT, Nat.reduceLeDiff, Int.reduceEq, Int.reduceLT, Int.reduceLE, Int.reduceAdd, Int.reduceSub, Int.reduceMul, Int.reduceNeg, Int.reduceToNat, Int.reduceTDiv, Int.reduceTMod, decide_true, decide_false, Int.cast_ofNat_Int, Bool.not_true, Bool.not_false, Bool.false_eq_true, List.append_nil, List.cons_append, List.nil_append, List.set_cons_zero, List.set_cons_succ, List.getElem?_cons_zero, List.getElem?_cons_succ, ↓reduceIte]
  refine rounds 5 ?_
  simp only [go_sem, Nat.reduceEqDiff, Nat.reduceAdd, Nat.reduceSub, Nat.reduceMul, Nat.reduceLT, Nat.reduceLeDiff, Int.reduceEq, Int.reduceLT, Int.reduceLE, Int.reduceAdd, Int.reduceSub, Int.reduceMul, Int.reduceNeg, Int.reduceToNat, Int.reduceTDiv, Int.reduceTMod, decide_true, decide_false, Int.cast_ofNat_Int, Bool.not_true, Bool.not_false, Bool.false_eq_true, List.append_nil, List.cons_append, List.nil_append, List.set_cons_zero, List.set_cons_succ, List.getElem?_cons_zero, List.getElem?_cons_succ, ↓reduceIte, wu ha]
  repeat (first | (refine (rby _ _ _).x ?_; simp only [go_sem, Nat.reduceEqDiff, Nat.reduceAdd, Nat.reduceSub, Nat.reduceMul, Nat.reduceLT, Nat.reduceLeDiff, Int.reduceEq, Int.reduceLT, Int.reduceLE, Int.reduceAdd, Int.reduceSub, Int.reduceMul, Int.reduceNeg, Int.reduceToNat, Int.reduceTDiv, Int.reduceTMod, decide_true, decide_false, Int.cast_ofNat_Int, Bool.not_true, Bool.not_false, Bool.false_eq_true, List.append_nil, List.cons_append, List.nil_append, List.set_cons_zero, List.set_cons_succ, List.getElem?_cons_zero, List.getElem?_cons_succ, ↓reduceIte, wu hb, wu hc, wu hd]) | (refine drawnF ?_ (by decide +kernel); simp only [go_sem, Nat.reduceEqDiff, Nat.reduceAdd, Nat.reduceSub, Nat.reduceMul, Nat.reduceLT, Nat.reduceLeDiff, Int.reduceEq, Int.reduceLT, Int.reduceLE, Int.reduceAdd, Int.reduceSub, Int.reduceMul, Int.reduceNeg, Int.reduceToNat, Int.reduceTDiv, Int.reduceTMod, decide_true, decide_false, Int.cast_ofNat_Int, Bool.not_true, Bool.not_false, Bool.false_eq_true, List.append_nil, List.cons_append, List.nil_append, List.set_cons_zero, List.set_cons_succ, List.getElem?_cons_zero, List.getElem?_cons_succ, ↓reduceIte, wu hb, wu hc, wu hd]))
end
def Ov (k x y : Int) : Int := if x + By y (255 - k) < 255 then x + By y (255 - k) else 255
theorem Ov_b (k x y : Int) (h : B8 x) : B8 (Ov k x y) := by
  have := By_b y (255 - k)
  unfold Ov; split <;> constructor <;> omega
theorem ov1 (k x y : Int) (h : B8 x) : IntKind.u8.wrap (if IntKind.i64.wrap (x + By y (255 - k)) < 255 then IntKind.i64.wrap (x + By y (255 - k)) else 255) = Ov k x y := by
  have := By_b y (255 - k)
  rw [wi (n := x + By y (255 - k)) (by omega) (by omega)]
  exact w8 (Ov_b k x y h).1 (Ov_b k x y h).2
theorem ov2 (k x y : Int) (h : B8 x) : IntKind.u8.wrap (if 255 < IntKind.i64.wrap (x + By y (255 - k)) then 255 else IntKind.i64.wrap (x + By y (255 - k))) = Ov k x y := by
  have := By_b y (255 - k)
  rw [← ov1 k x y h]; congr 1
  rw [wi (n := x + By y (255 - k)) (by omega) (by omega)]; split <;> split <;> omega
section
variable (a b c d a' b' c' d' k : Int) (ha : B8 a) (hb : B8 b) (hc : B8 c) (hd : B8 d) (ha' : B8 a') (hb' : B8 b') (hc' : B8 c') (hd' : B8 d')
include ha hb hc hd ha' hb' hc' hd'
theorem over (H : AH) : SemCall Try.prog 11 [px a b c d, px a' b' c' d'] H (px (Ov d' a' a) (Ov d' b' b) (Ov d' c' c) (Ov d' d' d)) H [] := by
  refine pure_of ?_ rfl
  unfold px
  have hr : IntKind.i64.wrap (255 - d') = 255 - d' := wi (by omega) (by omega)
  refine XCal.of hm Try.func11 rfl (fun xs w => Try.call11 xs w) Try.ntmps11 Try.results11 rfl ?_
  simp only [go_sem, Nat.reduceEqDiff, Nat.reduceAdd, Nat.reduceSub, Nat.reduceMul, Nat.reduceLT, Nat.reduceLeDiff, Int.reduceEq, Int.reduceLT, Int.reduceLE, Int.reduceAdd, Int.reduceSub, Int.reduceMul, Int.reduceNeg, Int.reduceToNat, Int.reduceTDiv, Int.reduceTMod, decide_true, decide_false, Int.cast_ofNat_Int, Bool.not_true, Bool.not_false, Bool.false_eq_true, List.append_nil, List.cons_append, List.nil_append, List.set_cons_zero, List.set_cons_succ, List.getElem?_cons_zero, List.getElem?_cons_succ, ↓reduceIte, wu hd', hr]
  refine rounds 5 ?_
  simp only [go_sem, Nat.reduceEqDiff, Nat.reduceAdd, Nat.reduceSub, Nat.reduceMul, Nat.reduceLT, Nat.reduceLeDiff, Int.reduceEq, Int.reduceLT, Int.reduceLE, Int.reduceAdd, Int.reduceSub, Int.reduceMul, Int.reduceNeg, Int.reduceToNat, Int.reduceTDiv, Int.reduceTMod, decide_true, decide_false, Int.cast_ofNat_Int, Bool.not_true, Bool.not_false, Bool.false_eq_true, List.append_nil, List.cons_append, List.nil_append, List.set_cons_zero, List.set_cons_succ, List.getElem?_cons_zero, List.getElem?_cons_succ, ↓reduceIte, wu ha, wu ha']
  repeat (first | (refine (by_ _ _ _).x ?_; simp only [go_sem, Nat.reduceEqDiff, Nat.reduceAdd, Nat.reduceSub, Nat.reduceMul, Nat.reduceLT, Nat.reduceLeDiff, Int.reduceEq, Int.reduceLT, Int.reduceLE, Int.reduceAdd, Int.reduceSub, Int.reduceMul, Int.reduceNeg, Int.reduceToNat, Int.reduceTDiv, Int.reduceTMod, decide_true, decide_false, Int.cast_ofNat_Int, Bool.not_true, Bool.not_false, Bool.false_eq_true, List.append_nil, List.cons_append, List.nil_append, List.set_cons_zero, List.set_cons_succ, List.getElem?_cons_zero, List.getElem?_cons_succ, ↓reduceIte, wu ha, wu hb, wu hc, wu hd, wu ha', wu hb', wu hc', wu hd', ov1 _ _ _ ha', ov1 _ _ _ hb', ov1 _ _ _ hc', ov1 _ _ _ hd', ov2 _ _ _ ha', ov2 _ _ _ hb', ov2 _ _ _ hc', ov2 _ _ _ hd']) | (refine drawnF ?_ (by decide +kernel); simp only [go_sem, Nat.reduceEqDiff, Nat.reduceAdd, Nat.reduceSub, Nat.reduceMul, Nat.reduceLT, Nat.reduceLeDiff, Int.reduceEq, Int.reduceLT, Int.reduceLE, Int.reduceAdd, Int.reduceSub, Int.reduceMul, Int.reduceNeg, Int.reduceToNat, Int.reduceTDiv, Int.reduceTMod, decide_true, decide_false, Int.cast_ofNat_Int, Bool.not_true, Bool.not_false, Bool.false_eq_true, List.append_nil, List.cons_append, List.nil_append, List.set_cons_zero, List.set_cons_succ, List.getElem?_cons_zero, List.getElem?_cons_succ, ↓reduceIte, wu ha, wu hb, wu hc, wu hd, wu ha', wu hb', wu hc', wu hd', ov1 _ _ _ ha', ov1 _ _ _ hb', ov1 _ _ _ hc', ov1 _ _ _ hd', ov2 _ _ _ ha', ov2 _ _ _ hb', ov2 _ _ _ hc', ov2 _ _ _ hd']))
theorem rover (H : AH) : SemCall Try.prog 12 [px a b c d, px a' b' c' d'] H (px (Ov d' a' a) (Ov d' b' b) (Ov d' c' c) (Ov d' d' d)) H [] := by
  refine pure_of ?_ rfl
  unfold px
  have hr : IntKind.i64.wrap (255 - d') = 255 - d' := wi (by omega) (by omega)
  refine XCal.of hm Try.func12 rfl (fun xs w => Try.call12 xs w) Try.ntmps12 Try.results12 rfl ?_
  simp only [go_sem, Nat.reduceEqDiff, Nat.reduceAdd, Nat.reduceSub, Nat.reduceMul, Nat.reduceLT, Nat.reduceLeDiff, Int.reduceEq, Int.reduceLT, Int.reduceLE, Int.reduceAdd, Int.reduceSub, Int.reduceMul, Int.reduceNeg, Int.reduceToNat, Int.reduceTDiv, Int.reduceTMod, decide_true, decide_false, Int.cast_ofNat_Int, Bool.not_true, Bool.not_false, Bool.false_eq_true, List.append_nil, List.cons_append, List.nil_append, List.set_cons_zero, List.set_cons_succ, List.getElem?_cons_zero, List.getElem?_cons_succ, ↓reduceIte, wu hd', hr]
  refine rounds 5 ?_
  simp only [go_sem, Nat.reduceEqDiff, Nat.reduceAdd, Nat.reduceSub, Nat.reduceMul, Nat.reduceLT, Nat.reduceLeDiff, Int.reduceEq, Int.reduceLT, Int.reduceLE, Int.reduceAdd, Int.reduceSub, Int.reduceMul, Int.reduceNeg, Int.reduceToNat, Int.reduceTDiv, Int.reduceTMod, decide_true, decide_false, Int.cast_ofNat_Int, Bool.not_true, Bool.not_false, Bool.false_eq_true, List.append_nil, List.cons_append, List.nil_append, List.set_cons_zero, List.set_cons_succ, List.getElem?_cons_zero, List.getElem?_cons_succ, ↓reduceIte, wu ha, wu ha', hr, wu hd']
  repeat (first | (refine (rby _ _ _).x ?_; simp only [go_sem, Nat.reduceEqDiff, Nat.reduceAdd, Nat.reduceSub, Nat.reduceMul, Nat.reduceLT, Nat.reduceLeDiff, Int.reduceEq, Int.reduceLT, Int.reduceLE, Int.reduceAdd, Int.reduceSub, Int.reduceMul, Int.reduceNeg, Int.reduceToNat, Int.reduceTDiv, Int.reduceTMod, decide_true, decide_false, Int.cast_ofNat_Int, Bool.not_true, Bool.not_false, Bool.false_eq_true, List.append_nil, List.cons_append, List.nil_append, List.set_cons_zero, List.set_cons_succ, List.getElem?_cons_zero, List.getElem?_cons_succ, ↓reduceIte, hr, wu ha, wu hb, wu hc, wu hd, wu ha', wu hb', wu hc', wu hd', ov1 _ _ _ ha', ov1 _ _ _ hb', ov1 _ _ _ hc', ov1 _ _ _ hd', ov2 _ _ _ ha', ov2 _ _ _ hb', ov2 _ _ _ hc', ov2 _ _ _ hd']) | (refine drawnF ?_ (by decide +kernel); simp only [go_sem, Nat.reduceEqDiff, Nat.reduceAdd, Nat.reduceSub, Nat.reduceMul, Nat.reduceLT, Nat.reduceLeDiff, Int.reduceEq, Int.reduceLT, Int.reduceLE, Int.reduceAdd, Int.reduceSub, Int.reduceMul, Int.reduceNeg, Int.reduceToNat, Int.reduceTDiv, Int.reduceTMod, decide_true, decide_false, Int.cast_ofNat_Int, Bool.not_true, Bool.not_false, Bool.false_eq_true, List.append_nil, List.cons_append, List.nil_append, List.set_cons_zero, List.set_cons_succ, List.getElem?_cons_zero, List.getElem?_cons_succ, ↓reduceIte, hr, wu ha, wu hb, wu hc, wu hd, wu ha', wu hb', wu hc', wu hd', ov1 _ _ _ ha', ov1 _ _ _ hb', ov1 _ _ _ hc', ov1 _ _ _ hd', ov2 _ _ _ ha', ov2 _ _ _ hb', ov2 _ _ _ hc', ov2 _ _ _ hd']))
end
def Ofk (d al co : Int) : Int := By (By d al) (St co)
section
variable (a b c d al co : Int) (ha : B8 a) (hb : B8 b) (hc : B8 c) (hd : B8 d)
include ha hb hc hd
theorem of_ (H : AH) : SemCall Try.prog 15 [px a b c d, .int .i64 al, .int .i64 co] H (px (By a (Ofk d al co)) (By b (Ofk d al co)) (By c (Ofk d al co)) (Ofk d al co)) H [] := by
  refine pure_of ?_ rfl
  unfold px
  refine XCal.of hm Try.func15 rfl (fun xs w => Try.call15 xs w) Try.ntmps15 Try.results15 rfl ?_
  simp only [go_sem, Nat.reduceEqDiff, Nat.reduceAdd, Nat.reduceSub, Nat.reduceMul, Nat.reduceLT, Nat.reduceLeDiff, Int.reduceEq, Int.reduceLT, Int.reduceLE, Int.reduceAdd, Int.reduceSub, Int.reduceMul, Int.reduceNeg, Int.reduceToNat, Int.reduceTDiv, Int.reduceTMod, decide_true, decide_false, Int.cast_ofNat_Int, Bool.not_true, Bool.not_false, Bool.false_eq_true, List.append_nil, List.cons_append, List.nil_append, List.set_cons_zero, List.set_cons_succ, List.getElem?_cons_zero, List.getElem?_cons_succ, ↓reduceIte, wu hd]
  repeat (first | (refine (by_ _ _ _).x ?_; simp only [go_sem, Nat.reduceEqDiff, Nat.reduceAdd, Nat.reduceSub, Nat.reduceMul, Nat.reduceLT, Nat.reduceLeDiff, Int.reduceEq, Int.reduceLT, Int.reduceLE, Int.reduceAdd, Int.reduceSub, Int.reduceMul, Int.reduceNeg, Int.reduceToNat, Int.reduceTDiv, Int.reduceTMod, decide_true, decide_false, Int.cast_ofNat_Int, Bool.not_true, Bool.not_false, Bool.false_eq_true, List.append_nil, List.cons_append, List.nil_append, List.set_cons_zero, List.set_cons_succ, List.getElem?_cons_zero, List.getElem?_cons_succ, ↓reduceIte, wu hd, Ofk, px]) | (refine (st _ _).x ?_; simp only [go_sem, Nat.reduceEqDiff, Nat.reduceAdd, Nat.reduceSub, Nat.reduceMul, Nat.reduceLT, Nat.reduceLeDiff, Int.reduceEq, Int.reduceLT, Int.reduceLE, Int.reduceAdd, Int.reduceSub, Int.reduceMul, Int.reduceNeg, Int.reduceToNat, Int.reduceTDiv, Int.reduceTMod, decide_true, decide_false, Int.cast_ofNat_Int, Bool.not_true, Bool.not_false, Bool.false_eq_true, List.append_nil, List.cons_append, List.nil_append, List.set_cons_zero, List.set_cons_succ, List.getElem?_cons_zero, List.getElem?_cons_succ, ↓reduceIte, wu hd, Ofk, px]) | (refine (fade _ _ _ _ _ ha hb hc hd _).x ?_; simp only [go_sem, Nat.reduceEqDiff, Nat.reduceAdd, Nat.reduceSub, Nat.reduceMul, Nat.reduceLT, Nat.reduceLeDiff, Int.reduceEq, Int.reduceLT, Int.reduceLE, Int.reduceAdd, Int.reduceSub, Int.reduceMul, Int.reduceNeg, Int.reduceToNat, Int.reduceTDiv, Int.reduceTMod, decide_true, decide_false, Int.cast_ofNat_Int, Bool.not_true, Bool.not_false, Bool.false_eq_true, List.append_nil, List.cons_append, List.nil_append, List.set_cons_zero, List.set_cons_succ, List.getElem?_cons_zero, List.getElem?_cons_succ, ↓reduceIte, wu hd, Ofk, px]) | (refine drawnF ?_ (by decide +kernel); simp only [go_sem, Nat.reduceEqDiff, Nat.reduceAdd, Nat.reduceSub, Nat.reduceMul, Nat.reduceLT, Nat.reduceLeDiff, Int.reduceEq, Int.reduceLT, Int.reduceLE, Int.reduceAdd, Int.reduceSub, Int.reduceMul, Int.reduceNeg, Int.reduceToNat, Int.reduceTDiv, Int.reduceTMod, decide_true, decide_false, Int.cast_ofNat_Int, Bool.not_true, Bool.not_false, Bool.false_eq_true, List.append_nil, List.cons_append, List.nil_append, List.set_cons_zero, List.set_cons_succ, List.getElem?_cons_zero, List.getElem?_cons_succ, ↓reduceIte, wu hd, Ofk, px]))
theorem rof (H : AH) : SemCall Try.prog 16 [px a b c d, .int .i64 al, .int .i64 co] H (px (By a (Ofk d al co)) (By b (Ofk d al co)) (By c (Ofk d al co)) (Ofk d al co)) H [] := by
  refine pure_of ?_ rfl
  unfold px
  refine XCal.of hm Try.func16 rfl (fun xs w => Try.call16 xs w) Try.ntmps16 Try.results16 rfl ?_
  simp only [go_sem, Nat.reduceEqDiff, Nat.reduceAdd, Nat.reduceSub, Nat.reduceMul, Nat.reduceLT, Nat.reduceLeDiff, Int.reduceEq, Int.reduceLT, Int.reduceLE, Int.reduceAdd, Int.reduceSub, Int.reduceMul, Int.reduceNeg, Int.reduceToNat, Int.reduceTDiv, Int.reduceTMod, decide_true, decide_false, Int.cast_ofNat_Int, Bool.not_true, Bool.not_false, Bool.false_eq_true, List.append_nil, List.cons_append, List.nil_append, List.set_cons_zero, List.set_cons_succ, List.getElem?_cons_zero, List.getElem?_cons_succ, ↓reduceIte, wu hd]
  repeat (first | (refine (rby _ _ _).x ?_; simp only [go_sem, Nat.reduceEqDiff, Nat.reduceAdd, Nat.reduceSub, Nat.reduceMul, Nat.reduceLT, Nat.reduceLeDiff, Int.reduceEq, Int.reduceLT, Int.reduceLE, Int.reduceAdd, Int.reduceSub, Int.reduceMul, Int.reduceNeg, Int.reduceToNat, Int.reduceTDiv, Int.reduceTMod, decide_true, decide_false, Int.cast_ofNat_Int, Bool.not_true, Bool.not_false, Bool.false_eq_true, List.append_nil, List.cons_append, List.nil_append, List.set_cons_zero, List.set_cons_succ, List.getElem?_cons_zero, List.getElem?_cons_succ, ↓reduceIte, wu ha, wu hb, wu hc, wu hd, Ofk]) | (refine (rst _ _).x ?_; simp only [go_sem, Nat.reduceEqDiff, Nat.reduceAdd, Nat.reduceSub, Nat.reduceMul, Nat.reduceLT, Nat.reduceLeDiff, Int.reduceEq, Int.reduceLT, Int.reduceLE, Int.reduceAdd, Int.reduceSub, Int.reduceMul, Int.reduceNeg, Int.reduceToNat, Int.reduceTDiv, Int.reduceTMod, decide_true, decide_false, Int.cast_ofNat_Int, Bool.not_true, Bool.not_false, Bool.false_eq_true, List.append_nil, List.cons_append, List.nil_append, List.set_cons_zero, List.set_cons_succ, List.getElem?_cons_zero, List.getElem?_cons_succ, ↓reduceIte, wu ha, wu hb, wu hc, wu hd, Ofk]) | (refine (rfade _ _ _ _ _ ha hb hc hd _).x ?_; simp only [go_sem, Nat.reduceEqDiff, Nat.reduceAdd, Nat.reduceSub, Nat.reduceMul, Nat.reduceLT, Nat.reduceLeDiff, Int.reduceEq, Int.reduceLT, Int.reduceLE, Int.reduceAdd, Int.reduceSub, Int.reduceMul, Int.reduceNeg, Int.reduceToNat, Int.reduceTDiv, Int.reduceTMod, decide_true, decide_false, Int.cast_ofNat_Int, Bool.not_true, Bool.not_false, Bool.false_eq_true, List.append_nil, List.cons_append, List.nil_append, List.set_cons_zero, List.set_cons_succ, List.getElem?_cons_zero, List.getElem?_cons_succ, ↓reduceIte, wu ha, wu hb, wu hc, wu hd, Ofk]) | (refine drawnF ?_ (by decide +kernel); simp only [go_sem, Nat.reduceEqDiff, Nat.reduceAdd, Nat.reduceSub, Nat.reduceMul, Nat.reduceLT, Nat.reduceLeDiff, Int.reduceEq, Int.reduceLT, Int.reduceLE, Int.reduceAdd, Int.reduceSub, Int.reduceMul, Int.reduceNeg, Int.reduceToNat, Int.reduceTDiv, Int.reduceTMod, decide_true, decide_false, Int.cast_ofNat_Int, Bool.not_true, Bool.not_false, Bool.false_eq_true, List.append_nil, List.cons_append, List.nil_append, List.set_cons_zero, List.set_cons_succ, List.getElem?_cons_zero, List.getElem?_cons_succ, ↓reduceIte, wu ha, wu hb, wu hc, wu hd, Ofk]))
end
end Go.Proofs.Ytclbcpjelimgfaa.Blend
