/- Chapter 3: the walks of the laws on what only moves, and on what turns. -/
import Derived.Test.YtockblbbcikkmaaMat
namespace Go.Proofs.Ytockblbbcikkmaa
open Go Go.RowKit E
attribute [local irreducible] XRun XOps XCode XCal XLoop XQ SemCall
set_option linter.unusedSimpArgs false
set_option linter.unusedVariables false
theorem qmul_one' (a : Int) : qmul 65536 a = hold a := by rw [qmul_comm, qmul_one]
theorem qmul_zero' (a : Int) : qmul 0 a = 0 := by rw [qmul_comm, qmul_zero]
theorem qadd_zero' (a : Int) : qadd 0 a = hold a := by rw [qadd_comm, qadd_zero]
theorem two_10 (x y : Int) : two 65536 x 0 y = hold x := by unfold two; rw [qmul_one', qmul_zero', qadd_zero, hold_hold]
theorem two_01 (x y : Int) : two 0 x 65536 y = hold y := by unfold two; rw [qmul_one', qmul_zero', qadd_zero', hold_hold]
theorem two_x10 (a c : Int) : two a 65536 c 0 = hold a := by unfold two; rw [qmul_one, qmul_zero, qadd_zero, hold_hold]
theorem two_x01 (a c : Int) : two a 0 c 65536 = hold c := by unfold two; rw [qmul_one, qmul_zero, qadd_zero', hold_hold]
theorem two_x00 (a c : Int) : two a 0 c 0 = 0 := by unfold two; rw [qmul_zero, qmul_zero]; rfl
theorem cs0 : qmul (cs 0) 65536 = 65536 := by decide +kernel
theorem sn0 : qmul (sn 0) 65536 = 0 := by decide +kernel
theorem sn0' : qmul (-(sn 0)) 65536 = 0 := by decide +kernel
abbrev Mx (k x : Int) : Prop := -k ≤ x ∧ x ≤ k
theorem qadd_in {x y : Int} (hx : Mx 1099511627776 x) (hy : Mx 1099511627776 y) (h : Mx 1099511627776 (x + y)) : qadd x y = x + y := by
  unfold qadd; rw [hold_in hx.1 hx.2, hold_in hy.1 hy.2, hold_in h.1 h.2]
theorem md_10 {a c d : Int} (ha : Nr a) (hc : Nr c) : mdE a 65536 c 0 d = a - c := by
  unfold mdE; rw [two_10, hold_in (a := c) (by omega) (by omega), qadd_in (by omega) (by omega) (by omega)]; omega
theorem md_01 {a c d : Int} (ha : Nr a) (hd : Nr d) : mdE a 0 c 65536 d = a - d := by
  unfold mdE; rw [two_01, hold_in (a := d) (by omega) (by omega), qadd_in (by omega) (by omega) (by omega)]; omega
theorem ap_10 {x y e : Int} (hx : Mx 268435456 x) (he : Mx 268435456 e) : ap1 65536 0 e x y = x + e := by
  unfold ap1; rw [two_10, hold_in (a := x) (by omega) (by omega), qadd_in (by omega) (by omega) (by omega), place_in (by omega) (by omega)]
theorem ap_01 {x y e : Int} (hy : Mx 268435456 y) (he : Mx 268435456 e) : ap1 0 65536 e x y = y + e := by
  unfold ap1; rw [two_01, hold_in (a := y) (by omega) (by omega), qadd_in (by omega) (by omega) (by omega), place_in (by omega) (by omega)]
theorem qmul_small {k x : Int} (hk : Mx 65536 k) (hx : Nr x) : Mx 67108864 (qmul k x) := by
  have := mul_bd (x := k) (y := x) (m := 65536) (n := 67108864) hk.1 hk.2 (by omega) (by omega)
  unfold qmul
  rw [hold_in (a := k) (by omega) (by omega), hold_in (a := x) (by omega) (by omega), hold_in (by omega) (by omega)]
  omega
theorem ap_md {k l a c d : Int} (hk : Mx 65536 k) (hl : Mx 65536 l) (ha : Nr a) (hc : Nr c) (hd : Nr d) : ap1 k l (mdE a k c l d) c d = a := by
  have h1 := qmul_small hk hc
  have h2 := qmul_small hl hd
  unfold ap1 mdE
  have ht : Mx 134217728 (two k c l d) := by unfold two; rw [qadd_in (by omega) (by omega) (by omega)]; omega
  generalize two k c l d = t at *
  rw [qadd_in (x := a) (by omega) (by omega) (by omega), qadd_in (by omega) (by omega) (by omega), place_in (by omega) (by omega)]; omega
theorem tmods_w {n : Int} (h : Mx 9223372036854775807 n) : IntKind.i64.wrap n = n := wi (by omega) (by omega)
theorem mmoves (x y ax ay px py t : Int) (H : AH) : SemCall Try.prog 9 [.int .i64 x, .int .i64 y, .int .i64 ax, .int .i64 ay, pt px py, .int .i64 t] H (.bool true) H [] := by
  refine pure_of ?_ rfl
  have h1 := tm_b x (n := 67108864) (by omega)
  have h2 := tm_b y (n := 67108864) (by omega)
  have h3 := tm_b ax (n := 67108864) (by omega)
  have h4 := tm_b ay (n := 67108864) (by omega)
  have h5 := tm_b px (n := 67108864) (by omega)
  have h6 := tm_b py (n := 67108864) (by omega)
  generalize gA : x.tmod 67108864 = A at *
  generalize gB : y.tmod 67108864 = B at *
  generalize gC : ax.tmod 67108864 = C at *
  generalize gD : ay.tmod 67108864 = D at *
  generalize gX : px.tmod 67108864 = X at *
  generalize gY : py.tmod 67108864 = Y at *
  have e1 : mdE A 65536 C 0 D = A - C := md_10 h1 h3
  have e2 : mdE B 0 C 65536 D = B - D := md_01 h2 h4
  have e3 : ap1 65536 0 (A - C) X Y = X + A - C := by rw [ap_10 (by omega) (by omega)]; omega
  have e4 : ap1 0 65536 (B - D) X Y = Y + B - D := by rw [ap_01 (by omega) (by omega)]; omega
  have k1 : Mx 65536 (qmul (cs (t.tmod 1099511627776)) 65536) := by rw [qmul_one]; have := cs_b (t.tmod 1099511627776); rw [hold_in (by omega) (by omega)]; exact this
  have k2 : Mx 65536 (qmul (sn (t.tmod 1099511627776)) 65536) := by rw [qmul_one]; have := sn_b (t.tmod 1099511627776); rw [hold_in (by omega) (by omega)]; exact this
  have k3 : Mx 65536 (qmul (-(sn (t.tmod 1099511627776))) 65536) := by rw [qmul_one]; have := sn_b (t.tmod 1099511627776); rw [hold_in (by omega) (by omega)]; omega
  have z1 := ap_md k1 k3 h1 h3 h4
  have z2 := ap_md k2 k1 h2 h3 h4
  have w1 : IntKind.i64.wrap (IntKind.i64.wrap (X + A) - C) = X + A - C := by rw [wi (n := X + A) (by omega) (by omega), wi (by omega) (by omega)]
  have w2 : IntKind.i64.wrap (IntKind.i64.wrap (Y + B) - D) = Y + B - D := by rw [wi (n := Y + B) (by omega) (by omega), wi (by omega) (by omega)]
  have c1 : decide (IntKind.i64.wrap (A - 3) ≤ A) = true := dt (by rw [wi (by omega) (by omega)]; omega)
  have c2 : decide (A ≤ IntKind.i64.wrap (A + 3)) = true := dt (by rw [wi (by omega) (by omega)]; omega)
  have c3 : decide (IntKind.i64.wrap (B - 3) ≤ B) = true := dt (by rw [wi (by omega) (by omega)]; omega)
  have c4 : decide (B ≤ IntKind.i64.wrap (B + 3)) = true := dt (by rw [wi (by omega) (by omega)]; omega)
  have f1 : hold (A - C) = A - C := hold_in (by omega) (by omega)
  have f2 : hold (B - D) = B - D := hold_in (by omega) (by omega)
  refine XCal.of hm Try.func9 rfl (fun xs w => Try.call9 xs w) Try.ntmps9 Try.results9 rfl ?_
  simp only [go_sem, Nat.reduceEqDiff, Nat.reduceAdd, Nat.reduceSub, Nat.reduceMul, Nat.reduceLT, Nat.reduceLeDiff, Int.reducePow, Int.reduceBEq, Int.reduceBNe, Int.reduceDiv, Int.reduceMod, Int.reduceEq, Int.reduceLT, Int.reduceLE, Int.reduceAdd, Int.reduceSub, Int.reduceMul, Int.reduceNeg, Int.reduceToNat, Int.reduceTDiv, Int.reduceTMod, decide_true, decide_false, Int.cast_ofNat_Int, Bool.not_true, Bool.not_false, Bool.true_beq, Bool.false_beq, Bool.true_and, Bool.and_true, Bool.false_and, Bool.and_false, Bool.true_or, Bool.or_true, Bool.false_or, Bool.or_false, BEq.rfl, Bool.false_eq_true, List.append_eq, List.append_nil, List.cons_append, List.nil_append, List.set_cons_zero, List.set_cons_succ, List.getElem?_cons_zero, List.getElem?_cons_succ, ↓reduceIte, mt, pt, gA, gB, gC, gD, gX, gY]
  repeat (first | (refine (made_ _ _ _ _ _ _ _ _).x ?_; simp only [go_sem, Nat.reduceEqDiff, Nat.reduceAdd, Nat.reduceSub, Nat.reduceMul, Nat.reduceLT, Nat.reduceLeDiff, Int.reducePow, Int.reduceBEq, Int.reduceBNe, Int.reduceDiv, Int.reduceMod, Int.reduceEq, Int.reduceLT, Int.reduceLE, Int.reduceAdd, Int.reduceSub, Int.reduceMul, Int.reduceNeg, Int.reduceToNat, Int.reduceTDiv, Int.reduceTMod, decide_true, decide_false, Int.cast_ofNat_Int, Bool.not_true, Bool.not_false, Bool.true_beq, Bool.false_beq, Bool.true_and, Bool.and_true, Bool.false_and, Bool.and_false, Bool.true_or, Bool.or_true, Bool.false_or, Bool.or_false, BEq.rfl, Bool.false_eq_true, List.append_eq, List.append_nil, List.cons_append, List.nil_append, List.set_cons_zero, List.set_cons_succ, List.getElem?_cons_zero, List.getElem?_cons_succ, ↓reduceIte, mt, pt, gA, gB, gC, gD, gX, gY, cs0, sn0, sn0', e1, e2, e3, e4, z1, z2, w1, w2, c1, c2, c3, c4, two_x10, two_x01, two_x00, two_10, two_01, qadd_zero, qadd_zero', f1, f2, show hold 65536 = 65536 from rfl, show hold 0 = 0 from rfl, bne_self_eq_false]) | (refine (apply_ _ _ _ _ _ _ _ _ _).x ?_; simp only [go_sem, Nat.reduceEqDiff, Nat.reduceAdd, Nat.reduceSub, Nat.reduceMul, Nat.reduceLT, Nat.reduceLeDiff, Int.reducePow, Int.reduceBEq, Int.reduceBNe, Int.reduceDiv, Int.reduceMod, Int.reduceEq, Int.reduceLT, Int.reduceLE, Int.reduceAdd, Int.reduceSub, Int.reduceMul, Int.reduceNeg, Int.reduceToNat, Int.reduceTDiv, Int.reduceTMod, decide_true, decide_false, Int.cast_ofNat_Int, Bool.not_true, Bool.not_false, Bool.true_beq, Bool.false_beq, Bool.true_and, Bool.and_true, Bool.false_and, Bool.and_false, Bool.true_or, Bool.or_true, Bool.false_or, Bool.or_false, BEq.rfl, Bool.false_eq_true, List.append_eq, List.append_nil, List.cons_append, List.nil_append, List.set_cons_zero, List.set_cons_succ, List.getElem?_cons_zero, List.getElem?_cons_succ, ↓reduceIte, mt, pt, gA, gB, gC, gD, gX, gY, cs0, sn0, sn0', e1, e2, e3, e4, z1, z2, w1, w2, c1, c2, c3, c4, two_x10, two_x01, two_x00, two_10, two_01, qadd_zero, qadd_zero', f1, f2, show hold 65536 = 65536 from rfl, show hold 0 = 0 from rfl, bne_self_eq_false]) | (refine (after_ _ _ _ _ _ _ _ _ _ _ _ _ _).x ?_; simp only [go_sem, Nat.reduceEqDiff, Nat.reduceAdd, Nat.reduceSub, Nat.reduceMul, Nat.reduceLT, Nat.reduceLeDiff, Int.reducePow, Int.reduceBEq, Int.reduceBNe, Int.reduceDiv, Int.reduceMod, Int.reduceEq, Int.reduceLT, Int.reduceLE, Int.reduceAdd, Int.reduceSub, Int.reduceMul, Int.reduceNeg, Int.reduceToNat, Int.reduceTDiv, Int.reduceTMod, decide_true, decide_false, Int.cast_ofNat_Int, Bool.not_true, Bool.not_false, Bool.true_beq, Bool.false_beq, Bool.true_and, Bool.and_true, Bool.false_and, Bool.and_false, Bool.true_or, Bool.or_true, Bool.false_or, Bool.or_false, BEq.rfl, Bool.false_eq_true, List.append_eq, List.append_nil, List.cons_append, List.nil_append, List.set_cons_zero, List.set_cons_succ, List.getElem?_cons_zero, List.getElem?_cons_succ, ↓reduceIte, mt, pt, gA, gB, gC, gD, gX, gY, cs0, sn0, sn0', e1, e2, e3, e4, z1, z2, w1, w2, c1, c2, c3, c4, two_x10, two_x01, two_x00, two_10, two_01, qadd_zero, qadd_zero', f1, f2, show hold 65536 = 65536 from rfl, show hold 0 = 0 from rfl, bne_self_eq_false]) | (refine (msame_ _).x ?_; simp only [go_sem, Nat.reduceEqDiff, Nat.reduceAdd, Nat.reduceSub, Nat.reduceMul, Nat.reduceLT, Nat.reduceLeDiff, Int.reducePow, Int.reduceBEq, Int.reduceBNe, Int.reduceDiv, Int.reduceMod, Int.reduceEq, Int.reduceLT, Int.reduceLE, Int.reduceAdd, Int.reduceSub, Int.reduceMul, Int.reduceNeg, Int.reduceToNat, Int.reduceTDiv, Int.reduceTMod, decide_true, decide_false, Int.cast_ofNat_Int, Bool.not_true, Bool.not_false, Bool.true_beq, Bool.false_beq, Bool.true_and, Bool.and_true, Bool.false_and, Bool.and_false, Bool.true_or, Bool.or_true, Bool.false_or, Bool.or_false, BEq.rfl, Bool.false_eq_true, List.append_eq, List.append_nil, List.cons_append, List.nil_append, List.set_cons_zero, List.set_cons_succ, List.getElem?_cons_zero, List.getElem?_cons_succ, ↓reduceIte, mt, pt, gA, gB, gC, gD, gX, gY, cs0, sn0, sn0', e1, e2, e3, e4, z1, z2, w1, w2, c1, c2, c3, c4, two_x10, two_x01, two_x00, two_10, two_01, qadd_zero, qadd_zero', f1, f2, show hold 65536 = 65536 from rfl, show hold 0 = 0 from rfl, bne_self_eq_false]) | (refine (mknown_ _).x ?_; simp only [go_sem, Nat.reduceEqDiff, Nat.reduceAdd, Nat.reduceSub, Nat.reduceMul, Nat.reduceLT, Nat.reduceLeDiff, Int.reducePow, Int.reduceBEq, Int.reduceBNe, Int.reduceDiv, Int.reduceMod, Int.reduceEq, Int.reduceLT, Int.reduceLE, Int.reduceAdd, Int.reduceSub, Int.reduceMul, Int.reduceNeg, Int.reduceToNat, Int.reduceTDiv, Int.reduceTMod, decide_true, decide_false, Int.cast_ofNat_Int, Bool.not_true, Bool.not_false, Bool.true_beq, Bool.false_beq, Bool.true_and, Bool.and_true, Bool.false_and, Bool.and_false, Bool.true_or, Bool.or_true, Bool.false_or, Bool.or_false, BEq.rfl, Bool.false_eq_true, List.append_eq, List.append_nil, List.cons_append, List.nil_append, List.set_cons_zero, List.set_cons_succ, List.getElem?_cons_zero, List.getElem?_cons_succ, ↓reduceIte, mt, pt, gA, gB, gC, gD, gX, gY, cs0, sn0, sn0', e1, e2, e3, e4, z1, z2, w1, w2, c1, c2, c3, c4, two_x10, two_x01, two_x00, two_10, two_01, qadd_zero, qadd_zero', f1, f2, show hold 65536 = 65536 from rfl, show hold 0 = 0 from rfl, bne_self_eq_false]) | (refine drawnF ?_ (by decide +kernel); simp only [go_sem, Nat.reduceEqDiff, Nat.reduceAdd, Nat.reduceSub, Nat.reduceMul, Nat.reduceLT, Nat.reduceLeDiff, Int.reducePow, Int.reduceBEq, Int.reduceBNe, Int.reduceDiv, Int.reduceMod, Int.reduceEq, Int.reduceLT, Int.reduceLE, Int.reduceAdd, Int.reduceSub, Int.reduceMul, Int.reduceNeg, Int.reduceToNat, Int.reduceTDiv, Int.reduceTMod, decide_true, decide_false, Int.cast_ofNat_Int, Bool.not_true, Bool.not_false, Bool.true_beq, Bool.false_beq, Bool.true_and, Bool.and_true, Bool.false_and, Bool.and_false, Bool.true_or, Bool.or_true, Bool.false_or, Bool.or_false, BEq.rfl, Bool.false_eq_true, List.append_eq, List.append_nil, List.cons_append, List.nil_append, List.set_cons_zero, List.set_cons_succ, List.getElem?_cons_zero, List.getElem?_cons_succ, ↓reduceIte, mt, pt, gA, gB, gC, gD, gX, gY, cs0, sn0, sn0', e1, e2, e3, e4, z1, z2, w1, w2, c1, c2, c3, c4, two_x10, two_x01, two_x00, two_10, two_01, qadd_zero, qadd_zero', f1, f2, show hold 65536 = 65536 from rfl, show hold 0 = 0 from rfl, bne_self_eq_false]))
theorem mchains (a b c d px py : Int) (H : AH) : SemCall Try.prog 10 [.int .i64 a, .int .i64 b, .int .i64 c, .int .i64 d, pt px py] H (.bool true) H [] := by
  refine pure_of ?_ rfl
  have h1 := tm_b a (n := 67108864) (by omega)
  have h2 := tm_b b (n := 67108864) (by omega)
  have h3 := tm_b c (n := 67108864) (by omega)
  have h4 := tm_b d (n := 67108864) (by omega)
  have h5 := tm_b px (n := 67108864) (by omega)
  have h6 := tm_b py (n := 67108864) (by omega)
  generalize gA : a.tmod 67108864 = A at *
  generalize gB : b.tmod 67108864 = B at *
  generalize gC : c.tmod 67108864 = C at *
  generalize gD : d.tmod 67108864 = D at *
  generalize gX : px.tmod 67108864 = X at *
  generalize gY : py.tmod 67108864 = Y at *
  have e1 : mdE A 65536 0 0 0 = A := by rw [md_10 h1 (by omega)]; omega
  have e2 : mdE B 0 0 65536 0 = B := by rw [md_01 h2 (by omega)]; omega
  have e3 : mdE C 65536 0 0 0 = C := by rw [md_10 h3 (by omega)]; omega
  have e4 : mdE D 0 0 65536 0 = D := by rw [md_01 h4 (by omega)]; omega
  have fA : hold A = A := hold_in (by omega) (by omega)
  have fB : hold B = B := hold_in (by omega) (by omega)
  have fC : hold C = C := hold_in (by omega) (by omega)
  have fD : hold D = D := hold_in (by omega) (by omega)
  have s1 : qadd C A = A + C := by rw [qadd_in (by omega) (by omega) (by omega)]; omega
  have s2 : qadd A C = A + C := by rw [qadd_in (by omega) (by omega) (by omega)]
  have s3 : qadd D B = B + D := by rw [qadd_in (by omega) (by omega) (by omega)]; omega
  have s4 : qadd B D = B + D := by rw [qadd_in (by omega) (by omega) (by omega)]
  have p1 : ap1 65536 0 (A + C) X Y = X + (A + C) := by rw [ap_10 (by omega) (by omega)]
  have p2 : ap1 0 65536 (B + D) X Y = Y + (B + D) := by rw [ap_01 (by omega) (by omega)]
  have p3 : ap1 65536 0 C X Y = X + C := by rw [ap_10 (by omega) (by omega)]
  have p4 : ap1 0 65536 D X Y = Y + D := by rw [ap_01 (by omega) (by omega)]
  have p5 : ap1 65536 0 A (X + C) (Y + D) = X + (A + C) := by rw [ap_10 (by omega) (by omega)]; omega
  have p6 : ap1 0 65536 B (X + C) (Y + D) = Y + (B + D) := by rw [ap_01 (by omega) (by omega)]; omega
  have p7 : ap1 65536 0 0 X Y = X := by rw [ap_10 (by omega) (by omega)]; omega
  have p8 : ap1 0 65536 0 X Y = Y := by rw [ap_01 (by omega) (by omega)]; omega
  refine XCal.of hm Try.func10 rfl (fun xs w => Try.call10 xs w) Try.ntmps10 Try.results10 rfl ?_
  simp only [go_sem, Nat.reduceEqDiff, Nat.reduceAdd, Nat.reduceSub, Nat.reduceMul, Nat.reduceLT, Nat.reduceLeDiff, Int.reducePow, Int.reduceBEq, Int.reduceBNe, Int.reduceDiv, Int.reduceMod, Int.reduceEq, Int.reduceLT, Int.reduceLE, Int.reduceAdd, Int.reduceSub, Int.reduceMul, Int.reduceNeg, Int.reduceToNat, Int.reduceTDiv, Int.reduceTMod, decide_true, decide_false, Int.cast_ofNat_Int, Bool.not_true, Bool.not_false, Bool.true_beq, Bool.false_beq, Bool.true_and, Bool.and_true, Bool.false_and, Bool.and_false, Bool.true_or, Bool.or_true, Bool.false_or, Bool.or_false, BEq.rfl, Bool.false_eq_true, List.append_eq, List.append_nil, List.cons_append, List.nil_append, List.set_cons_zero, List.set_cons_succ, List.getElem?_cons_zero, List.getElem?_cons_succ, ↓reduceIte, mt, pt, gA, gB, gC, gD, gX, gY]
  repeat (first | (refine (made_ _ _ _ _ _ _ _ _).x ?_; simp only [go_sem, Nat.reduceEqDiff, Nat.reduceAdd, Nat.reduceSub, Nat.reduceMul, Nat.reduceLT, Nat.reduceLeDiff, Int.reducePow, Int.reduceBEq, Int.reduceBNe, Int.reduceDiv, Int.reduceMod, Int.reduceEq, Int.reduceLT, Int.reduceLE, Int.reduceAdd, Int.reduceSub, Int.reduceMul, Int.reduceNeg, Int.reduceToNat, Int.reduceTDiv, Int.reduceTMod, decide_true, decide_false, Int.cast_ofNat_Int, Bool.not_true, Bool.not_false, Bool.true_beq, Bool.false_beq, Bool.true_and, Bool.and_true, Bool.false_and, Bool.and_false, Bool.true_or, Bool.or_true, Bool.false_or, Bool.or_false, BEq.rfl, Bool.false_eq_true, List.append_eq, List.append_nil, List.cons_append, List.nil_append, List.set_cons_zero, List.set_cons_succ, List.getElem?_cons_zero, List.getElem?_cons_succ, ↓reduceIte, mt, pt, gA, gB, gC, gD, gX, gY, cs0, sn0, sn0', e1, e2, e3, e4, two_x10, two_x01, two_x00, two_10, two_01, qadd_zero, qadd_zero', fA, fB, fC, fD, s1, s2, s3, s4, p1, p2, p3, p4, p5, p6, p7, p8, show hold 65536 = 65536 from rfl, show hold 0 = 0 from rfl]) | (refine (apply_ _ _ _ _ _ _ _ _ _).x ?_; simp only [go_sem, Nat.reduceEqDiff, Nat.reduceAdd, Nat.reduceSub, Nat.reduceMul, Nat.reduceLT, Nat.reduceLeDiff, Int.reducePow, Int.reduceBEq, Int.reduceBNe, Int.reduceDiv, Int.reduceMod, Int.reduceEq, Int.reduceLT, Int.reduceLE, Int.reduceAdd, Int.reduceSub, Int.reduceMul, Int.reduceNeg, Int.reduceToNat, Int.reduceTDiv, Int.reduceTMod, decide_true, decide_false, Int.cast_ofNat_Int, Bool.not_true, Bool.not_false, Bool.true_beq, Bool.false_beq, Bool.true_and, Bool.and_true, Bool.false_and, Bool.and_false, Bool.true_or, Bool.or_true, Bool.false_or, Bool.or_false, BEq.rfl, Bool.false_eq_true, List.append_eq, List.append_nil, List.cons_append, List.nil_append, List.set_cons_zero, List.set_cons_succ, List.getElem?_cons_zero, List.getElem?_cons_succ, ↓reduceIte, mt, pt, gA, gB, gC, gD, gX, gY, cs0, sn0, sn0', e1, e2, e3, e4, two_x10, two_x01, two_x00, two_10, two_01, qadd_zero, qadd_zero', fA, fB, fC, fD, s1, s2, s3, s4, p1, p2, p3, p4, p5, p6, p7, p8, show hold 65536 = 65536 from rfl, show hold 0 = 0 from rfl]) | (refine (after_ _ _ _ _ _ _ _ _ _ _ _ _ _).x ?_; simp only [go_sem, Nat.reduceEqDiff, Nat.reduceAdd, Nat.reduceSub, Nat.reduceMul, Nat.reduceLT, Nat.reduceLeDiff, Int.reducePow, Int.reduceBEq, Int.reduceBNe, Int.reduceDiv, Int.reduceMod, Int.reduceEq, Int.reduceLT, Int.reduceLE, Int.reduceAdd, Int.reduceSub, Int.reduceMul, Int.reduceNeg, Int.reduceToNat, Int.reduceTDiv, Int.reduceTMod, decide_true, decide_false, Int.cast_ofNat_Int, Bool.not_true, Bool.not_false, Bool.true_beq, Bool.false_beq, Bool.true_and, Bool.and_true, Bool.false_and, Bool.and_false, Bool.true_or, Bool.or_true, Bool.false_or, Bool.or_false, BEq.rfl, Bool.false_eq_true, List.append_eq, List.append_nil, List.cons_append, List.nil_append, List.set_cons_zero, List.set_cons_succ, List.getElem?_cons_zero, List.getElem?_cons_succ, ↓reduceIte, mt, pt, gA, gB, gC, gD, gX, gY, cs0, sn0, sn0', e1, e2, e3, e4, two_x10, two_x01, two_x00, two_10, two_01, qadd_zero, qadd_zero', fA, fB, fC, fD, s1, s2, s3, s4, p1, p2, p3, p4, p5, p6, p7, p8, show hold 65536 = 65536 from rfl, show hold 0 = 0 from rfl]) | (refine (msame_ _).x ?_; simp only [go_sem, Nat.reduceEqDiff, Nat.reduceAdd, Nat.reduceSub, Nat.reduceMul, Nat.reduceLT, Nat.reduceLeDiff, Int.reducePow, Int.reduceBEq, Int.reduceBNe, Int.reduceDiv, Int.reduceMod, Int.reduceEq, Int.reduceLT, Int.reduceLE, Int.reduceAdd, Int.reduceSub, Int.reduceMul, Int.reduceNeg, Int.reduceToNat, Int.reduceTDiv, Int.reduceTMod, decide_true, decide_false, Int.cast_ofNat_Int, Bool.not_true, Bool.not_false, Bool.true_beq, Bool.false_beq, Bool.true_and, Bool.and_true, Bool.false_and, Bool.and_false, Bool.true_or, Bool.or_true, Bool.false_or, Bool.or_false, BEq.rfl, Bool.false_eq_true, List.append_eq, List.append_nil, List.cons_append, List.nil_append, List.set_cons_zero, List.set_cons_succ, List.getElem?_cons_zero, List.getElem?_cons_succ, ↓reduceIte, mt, pt, gA, gB, gC, gD, gX, gY, cs0, sn0, sn0', e1, e2, e3, e4, two_x10, two_x01, two_x00, two_10, two_01, qadd_zero, qadd_zero', fA, fB, fC, fD, s1, s2, s3, s4, p1, p2, p3, p4, p5, p6, p7, p8, show hold 65536 = 65536 from rfl, show hold 0 = 0 from rfl]) | (refine (mknown_ _).x ?_; simp only [go_sem, Nat.reduceEqDiff, Nat.reduceAdd, Nat.reduceSub, Nat.reduceMul, Nat.reduceLT, Nat.reduceLeDiff, Int.reducePow, Int.reduceBEq, Int.reduceBNe, Int.reduceDiv, Int.reduceMod, Int.reduceEq, Int.reduceLT, Int.reduceLE, Int.reduceAdd, Int.reduceSub, Int.reduceMul, Int.reduceNeg, Int.reduceToNat, Int.reduceTDiv, Int.reduceTMod, decide_true, decide_false, Int.cast_ofNat_Int, Bool.not_true, Bool.not_false, Bool.true_beq, Bool.false_beq, Bool.true_and, Bool.and_true, Bool.false_and, Bool.and_false, Bool.true_or, Bool.or_true, Bool.false_or, Bool.or_false, BEq.rfl, Bool.false_eq_true, List.append_eq, List.append_nil, List.cons_append, List.nil_append, List.set_cons_zero, List.set_cons_succ, List.getElem?_cons_zero, List.getElem?_cons_succ, ↓reduceIte, mt, pt, gA, gB, gC, gD, gX, gY, cs0, sn0, sn0', e1, e2, e3, e4, two_x10, two_x01, two_x00, two_10, two_01, qadd_zero, qadd_zero', fA, fB, fC, fD, s1, s2, s3, s4, p1, p2, p3, p4, p5, p6, p7, p8, show hold 65536 = 65536 from rfl, show hold 0 = 0 from rfl]) | (refine drawnF ?_ (by decide +kernel); simp only [go_sem, Nat.reduceEqDiff, Nat.reduceAdd, Nat.reduceSub, Nat.reduceMul, Nat.reduceLT, Nat.reduceLeDiff, Int.reducePow, Int.reduceBEq, Int.reduceBNe, Int.reduceDiv, Int.reduceMod, Int.reduceEq, Int.reduceLT, Int.reduceLE, Int.reduceAdd, Int.reduceSub, Int.reduceMul, Int.reduceNeg, Int.reduceToNat, Int.reduceTDiv, Int.reduceTMod, decide_true, decide_false, Int.cast_ofNat_Int, Bool.not_true, Bool.not_false, Bool.true_beq, Bool.false_beq, Bool.true_and, Bool.and_true, Bool.false_and, Bool.and_false, Bool.true_or, Bool.or_true, Bool.false_or, Bool.or_false, BEq.rfl, Bool.false_eq_true, List.append_eq, List.append_nil, List.cons_append, List.nil_append, List.set_cons_zero, List.set_cons_succ, List.getElem?_cons_zero, List.getElem?_cons_succ, ↓reduceIte, mt, pt, gA, gB, gC, gD, gX, gY, cs0, sn0, sn0', e1, e2, e3, e4, two_x10, two_x01, two_x00, two_10, two_01, qadd_zero, qadd_zero', fA, fB, fC, fD, s1, s2, s3, s4, p1, p2, p3, p4, p5, p6, p7, p8, show hold 65536 = 65536 from rfl, show hold 0 = 0 from rfl]))
end Go.Proofs.Ytockblbbcikkmaa
