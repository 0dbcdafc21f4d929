/- Merged texts: Stroke1 Stroke2 Stroke3 Stroke4 Stroke5 Polys. -/
import Derived.Test.YthoclopeajkcpaaZF
/- Chapter 9's plain form: the walks of its small functions. -/
namespace Go.Proofs.Ythoclopeajkcpaa
open Go Go.RowKit E
attribute [local irreducible] XRun XOps XCode XCal XLoop XQ SemCall
set_option linter.unusedSimpArgs false
set_option linter.unusedVariables false
theorem wr_b (x : Int) : I64 (IntKind.i64.wrap x) := by
  rw [IntKind.wrap_i64]; constructor <;> omega
def plp (p : Pt) : Pt := (place p.1, place p.2)
theorem rplaced_ (p : Pt) (H : AH) : SemCall Try.prog 102 [ptv p] H (ptv (plp p)) H [] := by
  refine pure_of ?_ rfl
  refine XCal.of hm Try.func102 rfl (fun xs w => Try.call102 xs w) Try.ntmps102 Try.results102 rfl ?_
  simp only [go_sem, Nat.reduceEqDiff, Nat.reduceAdd, Nat.reduceSub, Nat.reduceMul, Nat.reduceLT, Nat.reduceLeDiff, Int.reducePow, Int.reduceBEq, Int.reduceBNe, Int.reduceDiv, Int.reduceMod, Int.reduceEq, Int.reduceLT, Int.reduceLE, Int.reduceAdd, Int.reduceSub, Int.reduceMul, Int.reduceNeg, Int.reduceToNat, Int.reduceTDiv, Int.reduceTMod, ↓reduceIte, ptv]
  repeat ((first | refine (rplace_ _ _).x ?_ | refine drawnF ?_ (by decide +kernel) | refine drawnU [(2, 3), (2, 4)] (by decide +kernel) ?_); simp only [go_sem, Nat.reduceEqDiff, Nat.reduceAdd, Nat.reduceSub, Nat.reduceMul, Nat.reduceLT, Nat.reduceLeDiff, Int.reducePow, Int.reduceBEq, Int.reduceBNe, Int.reduceDiv, Int.reduceMod, Int.reduceEq, Int.reduceLT, Int.reduceLE, Int.reduceAdd, Int.reduceSub, Int.reduceMul, Int.reduceNeg, Int.reduceToNat, Int.reduceTDiv, Int.reduceTMod, ↓reduceIte, plp])
def sidesN (c : Bool) (n : Nat) : Nat := if n < 2 then 0 else if c = true then n else n - 1
theorem rsides_ (c : Bool) (l : List Pt) (pv : Value) (H : AH) (h : Pts H pv l) (hl : l.length ≤ 100000) : SemCall Try.prog 97 [.agg [.bool c, pv].toArray] H (.int .i64 (sidesN c l.length : Nat)) H [] := by
  obtain ⟨a, e, rfl⟩ := h.form
  refine pure_of ?_ rfl
  unfold sidesN
  by_cases h2 : l.length < 2
  · rw [if_pos h2]
    refine XCal.of hm Try.func97 rfl (fun xs w => Try.call97 xs w) Try.ntmps97 Try.results97 rfl ?_
    simp only [go_sem, Nat.reduceEqDiff, Nat.reduceAdd, Nat.reduceSub, Nat.reduceMul, Nat.reduceLT, Nat.reduceLeDiff, Int.reducePow, Int.reduceBEq, Int.reduceBNe, Int.reduceDiv, Int.reduceMod, Int.reduceEq, Int.reduceLT, Int.reduceLE, Int.reduceAdd, Int.reduceSub, Int.reduceMul, Int.reduceNeg, Int.reduceToNat, Int.reduceTDiv, Int.reduceTMod, ↓reduceIte, dt (show (l.length : Int) < 2 by omega)]
  · rw [if_neg h2]
    have w : IntKind.i64.wrap ((l.length : Int) - 1) = ((l.length - 1 : Nat) : Int) := by rw [wi (by omega) (by omega)]; omega
    cases c
    · refine XCal.of hm Try.func97 rfl (fun xs w => Try.call97 xs w) Try.ntmps97 Try.results97 rfl ?_
      simp only [go_sem, Nat.reduceEqDiff, Nat.reduceAdd, Nat.reduceSub, Nat.reduceMul, Nat.reduceLT, Nat.reduceLeDiff, Int.reducePow, Int.reduceBEq, Int.reduceBNe, Int.reduceDiv, Int.reduceMod, Int.reduceEq, Int.reduceLT, Int.reduceLE, Int.reduceAdd, Int.reduceSub, Int.reduceMul, Int.reduceNeg, Int.reduceToNat, Int.reduceTDiv, Int.reduceTMod, ↓reduceIte, df (show ¬ (l.length : Int) < 2 by omega), w]
    · refine XCal.of hm Try.func97 rfl (fun xs w => Try.call97 xs w) Try.ntmps97 Try.results97 rfl ?_
      simp only [go_sem, Nat.reduceEqDiff, Nat.reduceAdd, Nat.reduceSub, Nat.reduceMul, Nat.reduceLT, Nat.reduceLeDiff, Int.reducePow, Int.reduceBEq, Int.reduceBNe, Int.reduceDiv, Int.reduceMod, Int.reduceEq, Int.reduceLT, Int.reduceLE, Int.reduceAdd, Int.reduceSub, Int.reduceMul, Int.reduceNeg, Int.reduceToNat, Int.reduceTDiv, Int.reduceTMod, ↓reduceIte, df (show ¬ (l.length : Int) < 2 by omega), w]
def pplus (a b : Pt) (k : Int) : Pt := (IntKind.i64.wrap (a.1 + IntKind.i64.wrap (k * b.1)), IntKind.i64.wrap (a.2 + IntKind.i64.wrap (k * b.2)))
theorem rplus_ (a b : Pt) (k : Int) (H : AH) : SemCall Try.prog 85 [ptv a, ptv b, .int .i64 k] H (ptv (pplus a b k)) H [] := by
  refine pure_of ?_ rfl
  refine XCal.of hm Try.func85 rfl (fun xs w => Try.call85 xs w) Try.ntmps85 Try.results85 rfl ?_
  simp only [go_sem, Nat.reduceEqDiff, Nat.reduceAdd, Nat.reduceSub, Nat.reduceMul, Nat.reduceLT, Nat.reduceLeDiff, Int.reducePow, Int.reduceBEq, Int.reduceBNe, Int.reduceDiv, Int.reduceMod, Int.reduceEq, Int.reduceLT, Int.reduceLE, Int.reduceAdd, Int.reduceSub, Int.reduceMul, Int.reduceNeg, Int.reduceToNat, Int.reduceTDiv, Int.reduceTMod, ↓reduceIte, ptv, pplus]
def pfar (a b : Pt) : Int := hyp (IntKind.i64.wrap (b.1 - a.1)) (IntKind.i64.wrap (b.2 - a.2))
theorem rfar_ (a b : Pt) (H : AH) : SemCall Try.prog 99 [ptv a, ptv b] H (.int .i64 (pfar a b)) H [] := by
  refine pure_of ?_ rfl
  refine XCal.of hm Try.func99 rfl (fun xs w => Try.call99 xs w) Try.ntmps99 Try.results99 rfl ?_
  simp only [go_sem, Nat.reduceEqDiff, Nat.reduceAdd, Nat.reduceSub, Nat.reduceMul, Nat.reduceLT, Nat.reduceLeDiff, Int.reducePow, Int.reduceBEq, Int.reduceBNe, Int.reduceDiv, Int.reduceMod, Int.reduceEq, Int.reduceLT, Int.reduceLE, Int.reduceAdd, Int.reduceSub, Int.reduceMul, Int.reduceNeg, Int.reduceToNat, Int.reduceTDiv, Int.reduceTMod, ↓reduceIte, ptv]
  repeat ((first | refine (rhyp_ _ _ _).x ?_ | refine drawnF ?_ (by decide +kernel)); simp only [go_sem, Nat.reduceEqDiff, Nat.reduceAdd, Nat.reduceSub, Nat.reduceMul, Nat.reduceLT, Nat.reduceLeDiff, Int.reducePow, Int.reduceBEq, Int.reduceBNe, Int.reduceDiv, Int.reduceMod, Int.reduceEq, Int.reduceLT, Int.reduceLE, Int.reduceAdd, Int.reduceSub, Int.reduceMul, Int.reduceNeg, Int.reduceToNat, Int.reduceTDiv, Int.reduceTMod, ↓reduceIte, pfar])
/-- No further than M. -/
abbrev Bd (M : Int) (p : Pt) : Prop := (-M ≤ p.1 ∧ p.1 ≤ M) ∧ -M ≤ p.2 ∧ p.2 ≤ M
theorem place_bd {a M : Int} (h0 : 0 ≤ M) (h : -M ≤ a ∧ a ≤ M) : -M ≤ place a ∧ place a ≤ M := by
  unfold place clamp; split
  · omega
  · split <;> omega
theorem plp_bd {p : Pt} {M : Int} (h0 : 0 ≤ M) (h : Bd M p) : Bd M (plp p) := ⟨place_bd h0 h.1, place_bd h0 h.2⟩
theorem Bd.mono {p : Pt} {M N : Int} (h : Bd M p) (hM : M ≤ N) : Bd N p := ⟨⟨by omega, by omega⟩, by omega, by omega⟩
theorem sq_lt1 {d n : Int} (h : ¬ (-n ≤ d ∧ d ≤ n)) (h0 : 0 ≤ n) : (n + 1) * (n + 1) ≤ d * d := by
  by_cases hd : 0 ≤ d
  · exact Int.mul_le_mul (by omega) (by omega) (by omega) (by omega)
  · have := Int.mul_le_mul (show n + 1 ≤ -d by omega) (show n + 1 ≤ -d by omega) (by omega) (by omega)
    rwa [Int.neg_mul_neg] at this
theorem sq_00 (d : Int) : 0 ≤ d * d := by
  by_cases hd : 0 ≤ d
  · exact Int.mul_nonneg hd hd
  · have := Int.mul_nonneg (show 0 ≤ -d by omega) (show 0 ≤ -d by omega)
    rwa [Int.neg_mul_neg] at this
theorem pfar_ge {p q : Pt} (hp : Bd 1048576 p) (hq : Bd 1048576 q) : (-(pfar p q) ≤ q.1 - p.1 ∧ q.1 - p.1 ≤ pfar p q) ∧ (-(pfar p q) ≤ q.2 - p.2 ∧ q.2 - p.2 ≤ pfar p q) ∧ pfar p q ≤ 1518500250 := by
  have hb := hyp_b (IntKind.i64.wrap (q.1 - p.1)) (IntKind.i64.wrap (q.2 - p.2))
  have w1 : IntKind.i64.wrap (q.1 - p.1) = q.1 - p.1 := wi (by omega) (by omega)
  have w2 : IntKind.i64.wrap (q.2 - p.2) = q.2 - p.2 := wi (by omega) (by omega)
  have ha := hyp_arg (q.1 - p.1) (q.2 - p.2)
  unfold pfar
  rw [w1, w2] at hb ⊢
  have e : hyp (q.1 - p.1) (q.2 - p.2) = isq ((q.1 - p.1) * (q.1 - p.1) + (q.2 - p.2) * (q.2 - p.2)) := by
    unfold hyp
    rw [clamp_in (a := q.1 - p.1) (by omega) (by omega), clamp_in (a := q.2 - p.2) (by omega) (by omega)]
  rw [clamp_in (a := q.1 - p.1) (by omega) (by omega), clamp_in (a := q.2 - p.2) (by omega) (by omega)] at ha
  have ho := isq_ok ha.1 (by omega)
  have s1 := sq_00 (q.1 - p.1)
  have s2 := sq_00 (q.2 - p.2)
  rw [← e] at ho
  generalize hyp (q.1 - p.1) (q.2 - p.2) = n at *
  refine ⟨?_, ?_, hb.2⟩
  · by_cases h : -n ≤ q.1 - p.1 ∧ q.1 - p.1 ≤ n
    · exact h
    · have := sq_lt1 h hb.1; omega
  · by_cases h : -n ≤ q.2 - p.2 ∧ q.2 - p.2 ≤ n
    · exact h
    · have := sq_lt1 h hb.1; omega
theorem qdiv_65 {d l : Int} (h : -l ≤ d ∧ d ≤ l) (h0 : 0 < l) (h1 : l ≤ 1518500250) : -65536 ≤ qdiv d l ∧ qdiv d l ≤ 65536 := by
  unfold qdiv
  rw [hold_in (a := l) (by omega) (by omega), hold_in (a := d) (by omega) (by omega), if_neg (by omega), Int.fdiv_eq_ediv_of_nonneg _ (by omega)]
  have a1 : d * 65536 / l ≤ 65536 := Int.ediv_le_of_le_mul h0 (by omega)
  have a2 : -65536 ≤ d * 65536 / l := (Int.le_ediv_iff_mul_le h0).2 (by omega)
  rw [hold_in (by omega) (by omega)]
  exact ⟨a2, a1⟩
theorem qmul_65 {u h : Int} (hu : -65536 ≤ u ∧ u ≤ 65536) (hh : 0 ≤ h ∧ h ≤ 131072) : -131072 ≤ qmul u h ∧ qmul u h ≤ 131072 := by
  unfold qmul
  rw [hold_in (a := u) (by omega) (by omega), hold_in (a := h) (by omega) (by omega)]
  have m : (u * h).natAbs ≤ 65536 * 131072 := by rw [Int.natAbs_mul]; exact Nat.mul_le_mul (by omega) (by omega)
  rw [hold_in (by omega) (by omega)]
  omega
theorem pplus_bd {a b : Pt} {M N k : Int} (ha : Bd M a) (hb : Bd N b) (hk : k = 1 ∨ k = -1) (hM : M ≤ 100000000) (hN : N ≤ 100000000) : Bd (M + N) (pplus a b k) := by
  unfold pplus
  rcases hk with rfl | rfl
  · rw [wi (n := 1 * b.1) (by omega) (by omega), wi (n := 1 * b.2) (by omega) (by omega), wi (by omega) (by omega), wi (by omega) (by omega)]
    exact ⟨⟨by simp only; omega, by simp only; omega⟩, by simp only; omega, by simp only; omega⟩
  · rw [wi (n := -1 * b.1) (by omega) (by omega), wi (n := -1 * b.2) (by omega) (by omega), wi (by omega) (by omega), wi (by omega) (by omega)]
    exact ⟨⟨by simp only; omega, by simp only; omega⟩, by simp only; omega, by simp only; omega⟩
theorem rside_ (c : Bool) (l : List Pt) (pv : Value) (H : AH) (h : Pts H pv l) (hl : l.length ≤ 100000) (i : Nat) (hi : i < l.length) : ∃ q1 q2 : Pt, SemCall Try.prog 98 [.agg [.bool c, pv].toArray, .int .i64 (i : Int)] H (.tuple [ptv q1, ptv q2].toArray) H [] ∧ ∀ M : Int, 0 ≤ M → (∀ p ∈ l, Bd M p) → Bd M q1 ∧ Bd M q2 := by
  obtain ⟨b, g, rest, rw_, rfl, hb, _⟩ := h.ne (fun e => by rw [e] at hi; simp at hi)
  obtain ⟨p, hp, _⟩ := getD_some hi
  have w1 : IntKind.i64.wrap ((i : Int) + 1) = ((i + 1 : Nat) : Int) := by rw [wi (by omega) (by omega)]; rfl
  obtain ⟨j, hj, hjl⟩ : ∃ j : Nat, ((i + 1 : Nat) : Int).tmod (l.length : Int) = (j : Int) ∧ j < l.length := ⟨(i + 1) % l.length, by rw [Int.tmod_eq_emod_of_nonneg (by omega)]; rfl, Nat.mod_lt _ (by omega)⟩
  obtain ⟨p', hp', _⟩ := getD_some hjl
  have ld := fun (c : Nat) => ald_pt (b := c) (g := g) (rw_ := rw_) rest hp
  have ld' := fun (c : Nat) => ald_pt (b := c) (g := g) (rw_ := rw_) rest hp'
  refine ⟨plp p, plp p', pure_of ?_ rfl, fun M h0 hM => ⟨plp_bd h0 (hM p (List.mem_of_getElem? hp)), plp_bd h0 (hM p' (List.mem_of_getElem? hp'))⟩⟩
  have q0 : ∀ x : Nat, (0 : Int) ≤ (x : Int) := fun x => by omega
  refine XCal.of hm Try.func98 rfl (fun xs w => Try.call98 xs w) Try.ntmps98 Try.results98 rfl ?_
  simp only [go_sem, Nat.reduceEqDiff, Nat.reduceAdd, Nat.reduceSub, Nat.reduceMul, Nat.reduceLT, Nat.reduceLeDiff, Int.reducePow, Int.reduceBEq, Int.reduceBNe, Int.reduceDiv, Int.reduceMod, Int.reduceEq, Int.reduceLT, Int.reduceLE, Int.reduceAdd, Int.reduceSub, Int.reduceMul, Int.reduceNeg, Int.reduceToNat, Int.reduceTDiv, Int.reduceTMod, ↓reduceIte, ptv]
  repeat ((first | refine (rplaced_ p _).x ?_ | refine (rplaced_ p' _).x ?_ | refine drawnF ?_ (by decide +kernel) | refine drawnU [(5, 6), (5, 7), (5, 8), (5, 9), (5, 10), (5, 11), (5, 12), (5, 13), (5, 14), (5, 15)] (by decide +kernel) ?_); simp only [go_sem, Nat.reduceEqDiff, Nat.reduceAdd, Nat.reduceSub, Nat.reduceMul, Nat.reduceLT, Nat.reduceLeDiff, Int.reducePow, Int.reduceBEq, Int.reduceBNe, Int.reduceDiv, Int.reduceMod, Int.reduceEq, Int.reduceLT, Int.reduceLE, Int.reduceAdd, Int.reduceSub, Int.reduceMul, Int.reduceNeg, Int.reduceToNat, Int.reduceTDiv, Int.reduceTMod, ↓reduceIte, ptv, w1, hj, q0, show ((l.length : Int) = 0) = False from eq_false (by omega), show (i : Int) < (l.length : Int) by omega, show (j : Int) < (l.length : Int) by omega, Int.toNat_natCast, Nat.zero_add, old_get hb, ld, ld'])
end Go.Proofs.Ythoclopeajkcpaa
/- Chapter 9's plain form: the walk of a stroke's lines. -/
namespace Go.Proofs.Ythoclopeajkcpaa
open Go Go.RowKit E
attribute [local irreducible] XRun XOps XCode XCal XLoop XQ SemCall
set_option linter.unusedSimpArgs false
set_option linter.unusedVariables false
structure Ln where
  a : Pt
  b : Pt
  c : Pt
  d : Pt
abbrev Ln.val (n : Ln) : Value := .agg [.int .i64 n.a.1, .int .i64 n.a.2, .int .i64 n.b.1, .int .i64 n.b.2, .int .i64 n.c.1, .int .i64 n.c.2, .int .i64 n.d.1, .int .i64 n.d.2].toArray
def lnC (l : List Ln) : List Value := l.flatMap fun n => [.int .i64 n.a.1, .int .i64 n.a.2, .int .i64 n.b.1, .int .i64 n.b.2, .int .i64 n.c.1, .int .i64 n.c.2, .int .i64 n.d.1, .int .i64 n.d.2]
theorem lnC_app (l m : List Ln) : lnC (l ++ m) = lnC l ++ lnC m := by simp [lnC]
theorem lnC_len (l : List Ln) : (lnC l).length = l.length * 8 := by
  induction l with
  | nil => rfl
  | cons x l ih =>
    show (_ :: _ :: _ :: _ :: _ :: _ :: _ :: _ :: lnC l).length = _
    simp only [List.length_cons, ih]; omega
theorem lnC_drop : ∀ (l : List Ln) (i : Nat) (n : Ln), l[i]? = some n → (lnC l).drop (i * 8) = lnC [n] ++ lnC (l.drop (i + 1))
  | [], i, n, h => by simp at h
  | x :: l, 0, n, h => by simp at h; subst h; rfl
  | x :: l, i + 1, n, h => by
    have := lnC_drop l i n (by simpa using h)
    rw [show (i + 1) * 8 = i * 8 + 8 by omega]
    show (lnC [x] ++ lnC l).drop (i * 8 + 8) = _
    rw [Nat.add_comm, ← List.drop_drop]
    exact this
theorem lnC_get (l : List Ln) (i : Nat) (n : Ln) (h : l[i]? = some n) (j : Nat) (hj : j < 8) : (lnC l)[i * 8 + j]? = (lnC [n])[j]? := by
  rw [← List.getElem?_drop, lnC_drop l i n h, List.getElem?_append_left (by rw [lnC_len]; simpa using hj)]
theorem ald_ln {l : List Ln} {i b g : Nat} {n : Ln} (h : l[i]? = some n) : ald (some true) (some 8) (some ⟨lnC l, g, true⟩) b (i * 8) g = some (n.val, b) := by
  have hi := (List.getElem?_eq_some_iff.1 h).1
  have : i * 8 + 8 ≤ (lnC l).length := by rw [lnC_len]; omega
  simp only [ald, true_and, this, if_true]
  rw [lnC_drop l i n h]
  rfl
theorem ald_lnp {l : List Ln} {i b g : Nat} {n : Ln} (h : l[i]? = some n) (j : Nat) (p : Pt) (hj : j + 2 ≤ 8) (hp : ((lnC [n]).drop j).take 2 = [.int .i64 p.1, .int .i64 p.2]) : ald (some true) (some 2) (some ⟨lnC l, g, true⟩) b (i * 8 + j) g = some (ptv p, b) := by
  have hi := (List.getElem?_eq_some_iff.1 h).1
  have : i * 8 + j + 2 ≤ (lnC l).length := by rw [lnC_len]; omega
  simp only [ald, true_and, this, if_true]
  rw [← List.drop_drop, lnC_drop l i n h, List.drop_append_of_le_length (by rw [lnC_len]; simp; omega), List.take_append_of_le_length (by rw [List.length_drop, lnC_len]; simp; omega), hp]
def LnO (n0 : Nat) (K : AH) (v : Value) (r : List Ln) : Prop :=
  (r = [] ∧ v = .slice none 0 0) ∨ ∃ b g, n0 ≤ b ∧ v = sl b 0 g r.length 8 ∧ K[b]? = some ⟨lnC r, g, true⟩
theorem LnO.old {n0 : Nat} {K J : AH} {v : Value} {r : List Ln} (h : LnO n0 K v r) (o : Old K J) : LnO n0 J v r := by
  rcases h with h | ⟨b, g, h0, h1, h2⟩
  · exact .inl h
  · exact .inr ⟨b, g, h0, h1, o _ _ h2⟩
theorem LnO.low {n0 n1 : Nat} {K : AH} {v : Value} {r : List Ln} (h : LnO n0 K v r) (hn : n1 ≤ n0) : LnO n1 K v r := by
  rcases h with h | ⟨b, g, h0, h1, h2⟩
  · exact .inl h
  · exact .inr ⟨b, g, by omega, h1, h2⟩
abbrev LnB (n : Ln) : Prop := Bd 1048576 n.a ∧ Bd 1048576 n.b ∧ Bd 131072 n.c ∧ Bd 131072 n.d
theorem lnB_mk {p q : Pt} {f w : Int} (hp : Bd 1048576 p) (hq : Bd 1048576 q) (hw : 0 ≤ w ∧ w ≤ 131072) (h0 : 0 < f) (hf : (-f ≤ q.1 - p.1 ∧ q.1 - p.1 ≤ f) ∧ (-f ≤ q.2 - p.2 ∧ q.2 - p.2 ≤ f) ∧ f ≤ 1518500250) :
    LnB ⟨p, q, (qmul (qdiv (IntKind.i64.wrap (q.1 - p.1)) f) w, qmul (qdiv (IntKind.i64.wrap (q.2 - p.2)) f) w), (qmul (IntKind.i64.wrap (0 - qdiv (IntKind.i64.wrap (q.2 - p.2)) f)) w, qmul (qdiv (IntKind.i64.wrap (q.1 - p.1)) f) w)⟩ := by
  rw [wi (n := q.1 - p.1) (by omega) (by omega), wi (n := q.2 - p.2) (by omega) (by omega)]
  have d1 := qdiv_65 hf.1 h0 hf.2.2
  have d2 := qdiv_65 hf.2.1 h0 hf.2.2
  generalize qdiv (q.1 - p.1) f = u at *
  generalize qdiv (q.2 - p.2) f = v at *
  rw [wi (n := 0 - v) (by omega) (by omega)]
  exact ⟨hp, hq, ⟨qmul_65 d1 hw, qmul_65 d2 hw⟩, qmul_65 (by omega) hw, qmul_65 d1 hw⟩
theorem rlns_ (c : Bool) (l : List Pt) (pv : Value) (w : Int) (H : AH) (h : Pts H pv l) (hl : l.length ≤ 100000) (hB : ∀ p ∈ l, Bd 1048576 p) (hw : 0 ≤ w ∧ w ≤ 131072) : Cal Try.prog 84 [.agg [.bool c, pv].toArray, .int .i64 w] H fun v H' W => W = [] ∧ (∃ L, H' = H ++ L) ∧ ∃ r : List Ln, LnO H.length H' v r ∧ r.length ≤ l.length ∧ ∀ n ∈ r, LnB n := by
  refine adds_of ?_
  have hsd : sidesN c l.length ≤ l.length := by unfold sidesN; split <;> (try split) <;> omega
  obtain ⟨a, e, hpv⟩ := h.form
  have h0 : (H ++ ([⟨[.bool c, pv], 0, true⟩] : AH))[H.length]? = some (⟨[.bool c, pv], 0, true⟩ : Blk) := by rw [hget_app0]; rfl
  subst hpv
  refine XCal.of hm Try.func84 rfl (fun xs w => Try.call84 xs w) Try.ntmps84 Try.results84 rfl ?_
  simp only [go_sem, Nat.reduceEqDiff, Nat.reduceAdd, Nat.reduceSub, Nat.reduceMul, Nat.reduceLT, Nat.reduceLeDiff, Int.reducePow, Int.reduceBEq, Int.reduceBNe, Int.reduceDiv, Int.reduceMod, Int.reduceEq, Int.reduceLT, Int.reduceLE, Int.reduceAdd, Int.reduceSub, Int.reduceMul, Int.reduceNeg, Int.reduceToNat, Int.reduceTDiv, Int.reduceTMod, ↓reduceIte]
  refine keep (fun k T K D => D = [] ∧ ∃ (i : Nat) (r : List Ln), i + k = sidesN c l.length ∧ Old (H ++ [⟨[.bool c, .slice a l.length e], 0, true⟩]) K ∧ H.length + 1 ≤ K.length ∧ T 2 = ap H.length 0 0 ∧ T 1 = .int .i64 w ∧ T 6 = .int .i64 (i : Int) ∧ LnO (H.length + 1) K (T 5) r ∧ r.length ≤ i ∧ ∀ n ∈ r, LnB n) (sidesN c l.length)
    ⟨rfl, 0, [], by omega, Old.refl _, by simp, by simp only [go_sem, Nat.reduceEqDiff, Nat.reduceAdd, Nat.reduceSub, Nat.reduceMul, Nat.reduceLT, Nat.reduceLeDiff, Int.reducePow, Int.reduceBEq, Int.reduceBNe, Int.reduceDiv, Int.reduceMod, Int.reduceEq, Int.reduceLT, Int.reduceLE, Int.reduceAdd, Int.reduceSub, Int.reduceMul, Int.reduceNeg, Int.reduceToNat, Int.reduceTDiv, Int.reduceTMod, ↓reduceIte] <;> rfl, by simp only [go_sem, Nat.reduceEqDiff, Nat.reduceAdd, Nat.reduceSub, Nat.reduceMul, Nat.reduceLT, Nat.reduceLeDiff, Int.reducePow, Int.reduceBEq, Int.reduceBNe, Int.reduceDiv, Int.reduceMod, Int.reduceEq, Int.reduceLT, Int.reduceLE, Int.reduceAdd, Int.reduceSub, Int.reduceMul, Int.reduceNeg, Int.reduceToNat, Int.reduceTDiv, Int.reduceTMod, ↓reduceIte], by simp only [go_sem, Nat.reduceEqDiff, Nat.reduceAdd, Nat.reduceSub, Nat.reduceMul, Nat.reduceLT, Nat.reduceLeDiff, Int.reducePow, Int.reduceBEq, Int.reduceBNe, Int.reduceDiv, Int.reduceMod, Int.reduceEq, Int.reduceLT, Int.reduceLE, Int.reduceAdd, Int.reduceSub, Int.reduceMul, Int.reduceNeg, Int.reduceToNat, Int.reduceTDiv, Int.reduceTMod, ↓reduceIte] <;> rfl, .inl ⟨rfl, by simp only [go_sem, Nat.reduceEqDiff, Nat.reduceAdd, Nat.reduceSub, Nat.reduceMul, Nat.reduceLT, Nat.reduceLeDiff, Int.reducePow, Int.reduceBEq, Int.reduceBNe, Int.reduceDiv, Int.reduceMod, Int.reduceEq, Int.reduceLT, Int.reduceLE, Int.reduceAdd, Int.reduceSub, Int.reduceMul, Int.reduceNeg, Int.reduceToNat, Int.reduceTDiv, Int.reduceTMod, ↓reduceIte] <;> rfl⟩, by simp, by simp⟩ ?_
  rintro k T K D ⟨rfl, i, r, hik, hold, hKl, h2, h1, h6, hO, hr, hrB⟩
  have km := hold _ _ h0
  have hp := (h.app [⟨[.bool c, .slice a l.length e], 0, true⟩]).old hold
  have rs := fun M => rsides_ c l _ (K ++ M) (hp.app M) hl
  have kd : ∀ n, decide (K.length + n < H.length) = false := fun n => df (by omega)
  have kd0 : decide (K.length < H.length) = false := df (by omega)
  have rs0 := rs []
  rw [List.append_nil] at rs0
  by_cases hk : i < sidesN c l.length
  · obtain ⟨q1, q2, rd, hqB⟩ := rside_ c l _ K hp hl i (by omega)
    obtain ⟨hb1, hb2⟩ := hqB 1048576 (by omega) hB
    have hfar := pfar_ge hb1 hb2
    simp only [go_sem, Nat.reduceEqDiff, Nat.reduceAdd, Nat.reduceSub, Nat.reduceMul, Nat.reduceLT, Nat.reduceLeDiff, Int.reducePow, Int.reduceBEq, Int.reduceBNe, Int.reduceDiv, Int.reduceMod, Int.reduceEq, Int.reduceLT, Int.reduceLE, Int.reduceAdd, Int.reduceSub, Int.reduceMul, Int.reduceNeg, Int.reduceToNat, Int.reduceTDiv, Int.reduceTMod, ↓reduceIte, h2, h1, h6, kd, kd0, km]
    refine rs0.x ?_
    simp only [go_sem, Nat.reduceEqDiff, Nat.reduceAdd, Nat.reduceSub, Nat.reduceMul, Nat.reduceLT, Nat.reduceLeDiff, Int.reducePow, Int.reduceBEq, Int.reduceBNe, Int.reduceDiv, Int.reduceMod, Int.reduceEq, Int.reduceLT, Int.reduceLE, Int.reduceAdd, Int.reduceSub, Int.reduceMul, Int.reduceNeg, Int.reduceToNat, Int.reduceTDiv, Int.reduceTMod, ↓reduceIte, h2, h1, h6, kd, kd0, km, dt (show (i : Int) < (sidesN c l.length : Nat) by omega)]
    refine rd.x ?_
    simp only [go_sem, Nat.reduceEqDiff, Nat.reduceAdd, Nat.reduceSub, Nat.reduceMul, Nat.reduceLT, Nat.reduceLeDiff, Int.reducePow, Int.reduceBEq, Int.reduceBNe, Int.reduceDiv, Int.reduceMod, Int.reduceEq, Int.reduceLT, Int.reduceLE, Int.reduceAdd, Int.reduceSub, Int.reduceMul, Int.reduceNeg, Int.reduceToNat, Int.reduceTDiv, Int.reduceTMod, ↓reduceIte, h2, h1, h6, kd, kd0, km, ptv]
    refine (rfar_ q1 q2 _).x ?_
    generalize pfar q1 q2 = fr at *
    have w1 : IntKind.i64.wrap ((i : Int) + 1) = ((i + 1 : Nat) : Int) := by rw [wi (by omega) (by omega)]; rfl
    have s1 : (r.length + 1) * 64 - 140737488355328 = 0 := Nat.sub_eq_zero_of_le (Nat.le_trans (Nat.mul_le_mul_right 64 (show r.length + 1 ≤ 200000 by omega)) (by decide))
    have s2 : r.length + 1 - 140737488355328 = 0 := Nat.sub_eq_zero_of_le (Nat.le_trans (show r.length + 1 ≤ 200000 by omega) (by decide))
    have hcl := lnC_len r
    by_cases hf : 0 < fr
    · have hnew := lnB_mk hb1 hb2 hw hf hfar
      rcases hO with ⟨ho, h5⟩ | ⟨bo, go, hbo, h5, hbk⟩
      · simp only [go_sem, Nat.reduceEqDiff, Nat.reduceAdd, Nat.reduceSub, Nat.reduceMul, Nat.reduceLT, Nat.reduceLeDiff, Int.reducePow, Int.reduceBEq, Int.reduceBNe, Int.reduceDiv, Int.reduceMod, Int.reduceEq, Int.reduceLT, Int.reduceLE, Int.reduceAdd, Int.reduceSub, Int.reduceMul, Int.reduceNeg, Int.reduceToNat, Int.reduceTDiv, Int.reduceTMod, ↓reduceIte, h2, h1, h6, h5, kd, kd0, km, ptv, dt hf]
        repeat ((first | refine (rdiv_ _ _ _).x ?_ | refine (rmul_ _ _ _).x ?_ | refine drawnF ?_ (by decide +kernel) | refine drawnU [(6, 7), (6, 8), (6, 9), (6, 10), (6, 11), (6, 12)] (by decide +kernel) ?_ | refine drawnU [(0, 5), (1, 5), (2, 5), (5, 6), (5, 7), (0, 8), (1, 8), (2, 8), (5, 10), (8, 10), (5, 11), (8, 11), (5, 12), (8, 12), (0, 13), (1, 13), (2, 13), (9, 13), (5, 14), (8, 14), (13, 14), (5, 15), (8, 15), (13, 15), (0, 16), (1, 16), (2, 16), (9, 16)] (by decide +kernel) ?_); simp only [go_sem, Nat.reduceEqDiff, Nat.reduceAdd, Nat.reduceSub, Nat.reduceMul, Nat.reduceLT, Nat.reduceLeDiff, Int.reducePow, Int.reduceBEq, Int.reduceBNe, Int.reduceDiv, Int.reduceMod, Int.reduceEq, Int.reduceLT, Int.reduceLE, Int.reduceAdd, Int.reduceSub, Int.reduceMul, Int.reduceNeg, Int.reduceToNat, Int.reduceTDiv, Int.reduceTMod, ↓reduceIte, h2, h1, h6, h5, kd, kd0, km, ptv, w1])
        exact ⟨k - 1, by omega, i + 1, [⟨q1, q2, (qmul (qdiv (IntKind.i64.wrap (q2.1 - q1.1)) fr) w, qmul (qdiv (IntKind.i64.wrap (q2.2 - q1.2)) fr) w), (qmul (IntKind.i64.wrap (0 - qdiv (IntKind.i64.wrap (q2.2 - q1.2)) fr)) w, qmul (qdiv (IntKind.i64.wrap (q2.1 - q1.1)) fr) w)⟩], by omega, hold.app _, by omega, rfl, .inr ⟨K.length + 3, 0, by omega, rfl, by rw [hget_app]; rfl⟩, by simp, fun n hn => by rw [List.mem_singleton.1 hn]; exact hnew⟩
      · simp only [go_sem, Nat.reduceEqDiff, Nat.reduceAdd, Nat.reduceSub, Nat.reduceMul, Nat.reduceLT, Nat.reduceLeDiff, Int.reducePow, Int.reduceBEq, Int.reduceBNe, Int.reduceDiv, Int.reduceMod, Int.reduceEq, Int.reduceLT, Int.reduceLE, Int.reduceAdd, Int.reduceSub, Int.reduceMul, Int.reduceNeg, Int.reduceToNat, Int.reduceTDiv, Int.reduceTMod, ↓reduceIte, h2, h1, h6, h5, kd, kd0, km, ptv, dt hf]
        repeat ((first | refine (rdiv_ _ _ _).x ?_ | refine (rmul_ _ _ _).x ?_ | refine drawnF ?_ (by decide +kernel) | refine drawnU [(6, 7), (6, 8), (6, 9), (6, 10), (6, 11), (6, 12)] (by decide +kernel) ?_ | refine drawnU [(0, 5), (1, 5), (2, 5), (5, 6), (5, 7), (0, 8), (1, 8), (2, 8), (5, 10), (8, 10), (5, 11), (8, 11), (5, 12), (8, 12), (0, 13), (1, 13), (2, 13), (9, 13), (5, 14), (8, 14), (13, 14), (5, 15), (8, 15), (13, 15), (0, 16), (1, 16), (2, 16), (9, 16)] (by decide +kernel) ?_); simp only [go_sem, Nat.reduceEqDiff, Nat.reduceAdd, Nat.reduceSub, Nat.reduceMul, Nat.reduceLT, Nat.reduceLeDiff, Int.reducePow, Int.reduceBEq, Int.reduceBNe, Int.reduceDiv, Int.reduceMod, Int.reduceEq, Int.reduceLT, Int.reduceLE, Int.reduceAdd, Int.reduceSub, Int.reduceMul, Int.reduceNeg, Int.reduceToNat, Int.reduceTDiv, Int.reduceTMod, ↓reduceIte, h2, h1, h6, h5, kd, kd0, km, ptv, w1, old_get hbk, old_set hbk, hcl, s1, s2, df (show ¬ bo < H.length by omega)])
        exact ⟨k - 1, by omega, i + 1, r ++ [⟨q1, q2, (qmul (qdiv (IntKind.i64.wrap (q2.1 - q1.1)) fr) w, qmul (qdiv (IntKind.i64.wrap (q2.2 - q1.2)) fr) w), (qmul (IntKind.i64.wrap (0 - qdiv (IntKind.i64.wrap (q2.2 - q1.2)) fr)) w, qmul (qdiv (IntKind.i64.wrap (q2.1 - q1.1)) fr) w)⟩], by omega, hold.olx (Olx.set1 bo K _ _) (by simp; omega), by omega, rfl, .inr ⟨bo, go + 1, hbo, by rw [List.length_append]; rfl, by rw [old_sget hbk, lnC_app]; rfl⟩, by rw [List.length_append, List.length_singleton]; omega, fun n hn => (List.mem_append.1 hn).elim (hrB n) (fun h => by rw [List.mem_singleton.1 h]; exact hnew)⟩
    · simp only [go_sem, Nat.reduceEqDiff, Nat.reduceAdd, Nat.reduceSub, Nat.reduceMul, Nat.reduceLT, Nat.reduceLeDiff, Int.reducePow, Int.reduceBEq, Int.reduceBNe, Int.reduceDiv, Int.reduceMod, Int.reduceEq, Int.reduceLT, Int.reduceLE, Int.reduceAdd, Int.reduceSub, Int.reduceMul, Int.reduceNeg, Int.reduceToNat, Int.reduceTDiv, Int.reduceTMod, ↓reduceIte, h2, h1, h6, kd, kd0, km, ptv, df hf, w1]
      exact ⟨k - 1, by omega, i + 1, r, by omega, hold.app _, by omega, rfl, hO.old (Old.app' _ _), by omega, hrB⟩
  · simp only [go_sem, Nat.reduceEqDiff, Nat.reduceAdd, Nat.reduceSub, Nat.reduceMul, Nat.reduceLT, Nat.reduceLeDiff, Int.reducePow, Int.reduceBEq, Int.reduceBNe, Int.reduceDiv, Int.reduceMod, Int.reduceEq, Int.reduceLT, Int.reduceLE, Int.reduceAdd, Int.reduceSub, Int.reduceMul, Int.reduceNeg, Int.reduceToNat, Int.reduceTDiv, Int.reduceTMod, ↓reduceIte, h2, h1, h6, kd, kd0, km]
    refine rs0.x ?_
    simp only [go_sem, Nat.reduceEqDiff, Nat.reduceAdd, Nat.reduceSub, Nat.reduceMul, Nat.reduceLT, Nat.reduceLeDiff, Int.reducePow, Int.reduceBEq, Int.reduceBNe, Int.reduceDiv, Int.reduceMod, Int.reduceEq, Int.reduceLT, Int.reduceLE, Int.reduceAdd, Int.reduceSub, Int.reduceMul, Int.reduceNeg, Int.reduceToNat, Int.reduceTDiv, Int.reduceTMod, ↓reduceIte, h2, h1, h6, kd, kd0, km, df (show ¬ (i : Int) < (sidesN c l.length : Nat) by omega)]
    exact ⟨r, hO.low (by omega), by omega, hrB⟩
end Go.Proofs.Ythoclopeajkcpaa
/- Chapter 9's plain form: the walks of a stroke's shapes. -/
namespace Go.Proofs.Ythoclopeajkcpaa
open Go Go.RowKit E
attribute [local irreducible] XRun XOps XCode XCal XLoop XQ SemCall
set_option linter.unusedSimpArgs false
set_option linter.unusedVariables false
theorem rarea_ (l : List Pt) (pv : Value) (H : AH) (h : Pts H pv l) (hl : l.length ≤ 100000) : Cal Try.prog 112 [pv] H fun v H' W => ∃ n : Int, True ∧ v = .int .i64 n ∧ H' = H ∧ W = [] := by
  refine pures_of (fun _ : Int => True) (fun n => .int .i64 n) ?_ (fun _ _ => rfl)
  by_cases hn : l = []
  · obtain ⟨a, e, rfl⟩ := h.form
    subst hn
    refine XCal.of hm Try.func112 rfl (fun xs w => Try.call112 xs w) Try.ntmps112 Try.results112 rfl ?_
    simp only [go_sem, Nat.reduceEqDiff, Nat.reduceAdd, Nat.reduceSub, Nat.reduceMul, Nat.reduceLT, Nat.reduceLeDiff, Int.reducePow, Int.reduceBEq, Int.reduceBNe, Int.reduceDiv, Int.reduceMod, Int.reduceEq, Int.reduceLT, Int.reduceLE, Int.reduceAdd, Int.reduceSub, Int.reduceMul, Int.reduceNeg, Int.reduceToNat, Int.reduceTDiv, Int.reduceTMod, ↓reduceIte, List.length_nil, show ((0 : Nat) : Int) = 0 from rfl]
    refine rounds 1 ?_
    simp only [go_sem, Nat.reduceEqDiff, Nat.reduceAdd, Nat.reduceSub, Nat.reduceMul, Nat.reduceLT, Nat.reduceLeDiff, Int.reducePow, Int.reduceBEq, Int.reduceBNe, Int.reduceDiv, Int.reduceMod, Int.reduceEq, Int.reduceLT, Int.reduceLE, Int.reduceAdd, Int.reduceSub, Int.reduceMul, Int.reduceNeg, Int.reduceToNat, Int.reduceTDiv, Int.reduceTMod, ↓reduceIte, List.length_nil, show ((0 : Nat) : Int) = 0 from rfl]
    exact ⟨_, rfl⟩
  · obtain ⟨b, g, rest, rw_, rfl, hb, _⟩ := h.ne hn
    refine XCal.of hm Try.func112 rfl (fun xs w => Try.call112 xs w) Try.ntmps112 Try.results112 rfl ?_
    simp only [go_sem, Nat.reduceEqDiff, Nat.reduceAdd, Nat.reduceSub, Nat.reduceMul, Nat.reduceLT, Nat.reduceLeDiff, Int.reducePow, Int.reduceBEq, Int.reduceBNe, Int.reduceDiv, Int.reduceMod, Int.reduceEq, Int.reduceLT, Int.reduceLE, Int.reduceAdd, Int.reduceSub, Int.reduceMul, Int.reduceNeg, Int.reduceToNat, Int.reduceTDiv, Int.reduceTMod, ↓reduceIte]
    refine keep (fun k T K D => D = [] ∧ ∃ (i : Nat) (x : Int), i + k = l.length ∧ Old H K ∧ H.length ≤ K.length ∧ T 0 = sl b 0 g l.length 2 ∧ T 3 = .int .i64 x ∧ T 4 = .int .i64 (i : Int)) l.length
      ⟨rfl, 0, 0, by omega, Old.refl _, by simp, by simp only [go_sem, Nat.reduceEqDiff, Nat.reduceAdd, Nat.reduceSub, Nat.reduceMul, Nat.reduceLT, Nat.reduceLeDiff, Int.reducePow, Int.reduceBEq, Int.reduceBNe, Int.reduceDiv, Int.reduceMod, Int.reduceEq, Int.reduceLT, Int.reduceLE, Int.reduceAdd, Int.reduceSub, Int.reduceMul, Int.reduceNeg, Int.reduceToNat, Int.reduceTDiv, Int.reduceTMod, ↓reduceIte], by simp only [go_sem, Nat.reduceEqDiff, Nat.reduceAdd, Nat.reduceSub, Nat.reduceMul, Nat.reduceLT, Nat.reduceLeDiff, Int.reducePow, Int.reduceBEq, Int.reduceBNe, Int.reduceDiv, Int.reduceMod, Int.reduceEq, Int.reduceLT, Int.reduceLE, Int.reduceAdd, Int.reduceSub, Int.reduceMul, Int.reduceNeg, Int.reduceToNat, Int.reduceTDiv, Int.reduceTMod, ↓reduceIte] <;> rfl, by simp only [go_sem, Nat.reduceEqDiff, Nat.reduceAdd, Nat.reduceSub, Nat.reduceMul, Nat.reduceLT, Nat.reduceLeDiff, Int.reducePow, Int.reduceBEq, Int.reduceBNe, Int.reduceDiv, Int.reduceMod, Int.reduceEq, Int.reduceLT, Int.reduceLE, Int.reduceAdd, Int.reduceSub, Int.reduceMul, Int.reduceNeg, Int.reduceToNat, Int.reduceTDiv, Int.reduceTMod, ↓reduceIte] <;> rfl⟩ ?_
    rintro k T K D ⟨rfl, i, x, hik, hold, hKl, h0, h3, h4⟩
    by_cases hk : i < l.length
    · have kb := hold _ _ hb
      have kd : ∀ n, decide (K.length + n < H.length) = false := fun n => df (by omega)
      have kd0 : decide (K.length < H.length) = false := df (by omega)
      obtain ⟨p, hp, _⟩ := getD_some hk
      have w1 : IntKind.i64.wrap ((i : Int) + 1) = ((i + 1 : Nat) : Int) := by rw [wi (by omega) (by omega)]; rfl
      obtain ⟨j, hj, hjl⟩ : ∃ j : Nat, ((i + 1 : Nat) : Int).tmod (l.length : Int) = (j : Int) ∧ j < l.length := ⟨(i + 1) % l.length, by rw [Int.tmod_eq_emod_of_nonneg (by omega)]; rfl, Nat.mod_lt _ (by omega)⟩
      obtain ⟨p', hp', _⟩ := getD_some hjl
      have ld := fun (c : Nat) => ald_pt (b := c) (g := g) (rw_ := rw_) rest hp
      have ld' := fun (c : Nat) => ald_pt (b := c) (g := g) (rw_ := rw_) rest hp'
      have q0 : ∀ x : Nat, (0 : Int) ≤ (x : Int) := fun x => by omega
      simp only [go_sem, Nat.reduceEqDiff, Nat.reduceAdd, Nat.reduceSub, Nat.reduceMul, Nat.reduceLT, Nat.reduceLeDiff, Int.reducePow, Int.reduceBEq, Int.reduceBNe, Int.reduceDiv, Int.reduceMod, Int.reduceEq, Int.reduceLT, Int.reduceLE, Int.reduceAdd, Int.reduceSub, Int.reduceMul, Int.reduceNeg, Int.reduceToNat, Int.reduceTDiv, Int.reduceTMod, ↓reduceIte, h0, h3, h4, dt (show (i : Int) < (l.length : Int) by omega)]
      repeat ((first | refine (rplaced_ p _).x ?_ | refine (rplaced_ p' _).x ?_ | refine drawnF ?_ (by decide +kernel) | refine drawnU [(4, 5), (4, 6), (4, 7), (4, 8), (4, 9), (4, 10), (4, 11), (4, 12), (4, 14), (13, 14), (4, 15), (13, 15)] (by decide +kernel) ?_); simp only [go_sem, Nat.reduceEqDiff, Nat.reduceAdd, Nat.reduceSub, Nat.reduceMul, Nat.reduceLT, Nat.reduceLeDiff, Int.reducePow, Int.reduceBEq, Int.reduceBNe, Int.reduceDiv, Int.reduceMod, Int.reduceEq, Int.reduceLT, Int.reduceLE, Int.reduceAdd, Int.reduceSub, Int.reduceMul, Int.reduceNeg, Int.reduceToNat, Int.reduceTDiv, Int.reduceTMod, ↓reduceIte, h0, h3, h4, ptv, w1, hj, q0, kd, kd0, show ((l.length : Int) = 0) = False from eq_false (by omega), show (i : Int) < (l.length : Int) by omega, show (j : Int) < (l.length : Int) by omega, Int.toNat_natCast, Nat.zero_add, old_get kb, kb, ld, ld'])
      exact ⟨k - 1, by omega, i + 1, _, by omega, hold.app _, by omega, rfl, rfl⟩
    · simp only [go_sem, Nat.reduceEqDiff, Nat.reduceAdd, Nat.reduceSub, Nat.reduceMul, Nat.reduceLT, Nat.reduceLeDiff, Int.reducePow, Int.reduceBEq, Int.reduceBNe, Int.reduceDiv, Int.reduceMod, Int.reduceEq, Int.reduceLT, Int.reduceLE, Int.reduceAdd, Int.reduceSub, Int.reduceMul, Int.reduceNeg, Int.reduceToNat, Int.reduceTDiv, Int.reduceTMod, ↓reduceIte, h0, h3, h4, df (show ¬ (i : Int) < (l.length : Int) by omega)]
      exact ⟨_, rfl⟩
theorem rturned_ (l : List Pt) (pv : Value) (H : AH) (h : Pts H pv l) (hl : l.length ≤ 100000) : Cal Try.prog 103 [pv] H fun v H' W => W = [] ∧ (∃ L, H' = H ++ L) ∧ ∃ q : List Pt, PtsF H.length H'.length H' v q ∧ q.length = l.length ∧ ∀ p ∈ q, p ∈ l := by
  refine adds_of ?_
  have ra := rarea_ l pv H h hl
  by_cases hn : l = []
  · obtain ⟨a, e, rfl⟩ := h.form
    subst hn
    refine XCal.of hm Try.func103 rfl (fun xs w => Try.call103 xs w) Try.ntmps103 Try.results103 rfl ?_
    simp only [go_sem, Nat.reduceEqDiff, Nat.reduceAdd, Nat.reduceSub, Nat.reduceMul, Nat.reduceLT, Nat.reduceLeDiff, Int.reducePow, Int.reduceBEq, Int.reduceBNe, Int.reduceDiv, Int.reduceMod, Int.reduceEq, Int.reduceLT, Int.reduceLE, Int.reduceAdd, Int.reduceSub, Int.reduceMul, Int.reduceNeg, Int.reduceToNat, Int.reduceTDiv, Int.reduceTMod, ↓reduceIte]
    refine ra.x ?_
    rintro v H1 W1 ⟨n, _, rfl, rfl, rfl⟩
    simp only [go_sem, Nat.reduceEqDiff, Nat.reduceAdd, Nat.reduceSub, Nat.reduceMul, Nat.reduceLT, Nat.reduceLeDiff, Int.reducePow, Int.reduceBEq, Int.reduceBNe, Int.reduceDiv, Int.reduceMod, Int.reduceEq, Int.reduceLT, Int.reduceLE, Int.reduceAdd, Int.reduceSub, Int.reduceMul, Int.reduceNeg, Int.reduceToNat, Int.reduceTDiv, Int.reduceTMod, ↓reduceIte]
    refine rounds 1 ?_
    simp only [go_sem, Nat.reduceEqDiff, Nat.reduceAdd, Nat.reduceSub, Nat.reduceMul, Nat.reduceLT, Nat.reduceLeDiff, Int.reducePow, Int.reduceBEq, Int.reduceBNe, Int.reduceDiv, Int.reduceMod, Int.reduceEq, Int.reduceLT, Int.reduceLE, Int.reduceAdd, Int.reduceSub, Int.reduceMul, Int.reduceNeg, Int.reduceToNat, Int.reduceTDiv, Int.reduceTMod, ↓reduceIte, List.length_nil, show ((0 : Nat) : Int) = 0 from rfl]
    exact ⟨[], .inl ⟨rfl, rfl⟩, rfl, by simp⟩
  · obtain ⟨b, g, rest, rw_, rfl, hb, _⟩ := h.ne hn
    refine XCal.of hm Try.func103 rfl (fun xs w => Try.call103 xs w) Try.ntmps103 Try.results103 rfl ?_
    simp only [go_sem, Nat.reduceEqDiff, Nat.reduceAdd, Nat.reduceSub, Nat.reduceMul, Nat.reduceLT, Nat.reduceLeDiff, Int.reducePow, Int.reduceBEq, Int.reduceBNe, Int.reduceDiv, Int.reduceMod, Int.reduceEq, Int.reduceLT, Int.reduceLE, Int.reduceAdd, Int.reduceSub, Int.reduceMul, Int.reduceNeg, Int.reduceToNat, Int.reduceTDiv, Int.reduceTMod, ↓reduceIte]
    refine ra.x ?_
    rintro v H1 W1 ⟨n, _, rfl, rfl, rfl⟩
    simp only [go_sem, Nat.reduceEqDiff, Nat.reduceAdd, Nat.reduceSub, Nat.reduceMul, Nat.reduceLT, Nat.reduceLeDiff, Int.reducePow, Int.reduceBEq, Int.reduceBNe, Int.reduceDiv, Int.reduceMod, Int.reduceEq, Int.reduceLT, Int.reduceLE, Int.reduceAdd, Int.reduceSub, Int.reduceMul, Int.reduceNeg, Int.reduceToNat, Int.reduceTDiv, Int.reduceTMod, ↓reduceIte]
    generalize decide (n < 0) = tn
    refine keep (fun k T H' D => D = [] ∧ ∃ (i : Nat) (o : List Pt), i + k = l.length ∧ T 0 = sl b 0 g l.length 2 ∧ T 4 = .bool tn ∧ T 5 = .int .i64 (i : Int) ∧ o.length = i ∧ (∀ p ∈ o, p ∈ l) ∧ ((i = 0 ∧ T 3 = .slice none 0 0 ∧ H' = H1) ∨ ∃ g1 X G, 0 < i ∧ T 3 = sl (H1.length + 1) 0 g1 i 2 ∧ H' = H1 ++ (X :: ⟨ptC o, g1, true⟩ :: G))) l.length
      ⟨rfl, 0, [], by omega, by simp only [go_sem, Nat.reduceEqDiff, Nat.reduceAdd, Nat.reduceSub, Nat.reduceMul, Nat.reduceLT, Nat.reduceLeDiff, Int.reducePow, Int.reduceBEq, Int.reduceBNe, Int.reduceDiv, Int.reduceMod, Int.reduceEq, Int.reduceLT, Int.reduceLE, Int.reduceAdd, Int.reduceSub, Int.reduceMul, Int.reduceNeg, Int.reduceToNat, Int.reduceTDiv, Int.reduceTMod, ↓reduceIte], by simp only [go_sem, Nat.reduceEqDiff, Nat.reduceAdd, Nat.reduceSub, Nat.reduceMul, Nat.reduceLT, Nat.reduceLeDiff, Int.reducePow, Int.reduceBEq, Int.reduceBNe, Int.reduceDiv, Int.reduceMod, Int.reduceEq, Int.reduceLT, Int.reduceLE, Int.reduceAdd, Int.reduceSub, Int.reduceMul, Int.reduceNeg, Int.reduceToNat, Int.reduceTDiv, Int.reduceTMod, ↓reduceIte], by simp only [go_sem, Nat.reduceEqDiff, Nat.reduceAdd, Nat.reduceSub, Nat.reduceMul, Nat.reduceLT, Nat.reduceLeDiff, Int.reducePow, Int.reduceBEq, Int.reduceBNe, Int.reduceDiv, Int.reduceMod, Int.reduceEq, Int.reduceLT, Int.reduceLE, Int.reduceAdd, Int.reduceSub, Int.reduceMul, Int.reduceNeg, Int.reduceToNat, Int.reduceTDiv, Int.reduceTMod, ↓reduceIte] <;> rfl, rfl, by simp, .inl ⟨rfl, by simp only [go_sem, Nat.reduceEqDiff, Nat.reduceAdd, Nat.reduceSub, Nat.reduceMul, Nat.reduceLT, Nat.reduceLeDiff, Int.reducePow, Int.reduceBEq, Int.reduceBNe, Int.reduceDiv, Int.reduceMod, Int.reduceEq, Int.reduceLT, Int.reduceLE, Int.reduceAdd, Int.reduceSub, Int.reduceMul, Int.reduceNeg, Int.reduceToNat, Int.reduceTDiv, Int.reduceTMod, ↓reduceIte] <;> rfl, rfl⟩⟩ ?_
    rintro k T H' D ⟨rfl, i, o, hik, h0, h4, h5, ho, hm', hC⟩
    by_cases hk : i < l.length
    · have w1 : IntKind.i64.wrap ((i : Int) + 1) = ((i + 1 : Nat) : Int) := by rw [wi (by omega) (by omega)]; rfl
      have w2 : IntKind.i64.wrap ((l.length : Int) - 1) = ((l.length - 1 : Nat) : Int) := by rw [wi (by omega) (by omega)]; omega
      have w3 : IntKind.i64.wrap (((l.length - 1 : Nat) : Int) - (i : Int)) = ((l.length - 1 - i : Nat) : Int) := by rw [wi (by omega) (by omega)]; omega
      have hs := small_o (o := o) (n := 1) (by omega) (by omega)
      rw [ho] at hs
      have q0 : ∀ x : Nat, (0 : Int) ≤ (x : Int) := fun x => by omega
      have step : ∀ (j : Nat) (hj : j < l.length), tn = decide (j ≠ i) ∨ True := fun _ _ => .inr trivial
      cases tn with
      | true =>
        obtain ⟨p, hp, _⟩ := getD_some (show l.length - 1 - i < l.length by omega)
        have ld := fun (c : Nat) => ald_pt (b := c) (g := g) (rw_ := rw_) rest hp
        have pm := List.mem_of_getElem? hp
        rcases hC with ⟨hi0, h3, rfl⟩ | ⟨g1, X, G, hi0, h3, rfl⟩
        · simp only [go_sem, Nat.reduceEqDiff, Nat.reduceAdd, Nat.reduceSub, Nat.reduceMul, Nat.reduceLT, Nat.reduceLeDiff, Int.reducePow, Int.reduceBEq, Int.reduceBNe, Int.reduceDiv, Int.reduceMod, Int.reduceEq, Int.reduceLT, Int.reduceLE, Int.reduceAdd, Int.reduceSub, Int.reduceMul, Int.reduceNeg, Int.reduceToNat, Int.reduceTDiv, Int.reduceTMod, ↓reduceIte, h0, h4, h5, h3, dt (show (i : Int) < (l.length : Int) by omega), w1, w2, w3, q0, show ((l.length - 1 - i : Nat) : Int) < (l.length : Int) by omega, Int.toNat_natCast, Nat.zero_add, hb, ld, ptv]
          exact ⟨k - 1, by omega, i + 1, [p], by omega, rfl, by rw [hi0]; rfl, by simpa using pm, .inr ⟨0, _, [], by omega, by rw [hi0], rfl⟩⟩
        · simp only [go_sem, Nat.reduceEqDiff, Nat.reduceAdd, Nat.reduceSub, Nat.reduceMul, Nat.reduceLT, Nat.reduceLeDiff, Int.reducePow, Int.reduceBEq, Int.reduceBNe, Int.reduceDiv, Int.reduceMod, Int.reduceEq, Int.reduceLT, Int.reduceLE, Int.reduceAdd, Int.reduceSub, Int.reduceMul, Int.reduceNeg, Int.reduceToNat, Int.reduceTDiv, Int.reduceTMod, ↓reduceIte, h0, h4, h5, h3, dt (show (i : Int) < (l.length : Int) by omega), w1, w2, w3, q0, show ((l.length - 1 - i : Nat) : Int) < (l.length : Int) by omega, Int.toNat_natCast, Nat.zero_add, old_get hb, ld, ptv, hs.1.symm, hs.2.1, hs.2.2]
          exact ⟨k - 1, by omega, i + 1, o ++ [p], by omega, rfl, by rw [List.length_append, ho]; rfl, fun x hx => (List.mem_append.1 hx).elim (hm' x) (fun h => by rw [List.mem_singleton.1 h]; exact pm), .inr ⟨g1 + 1, X, _, by omega, rfl, by rw [ptC_app]; rfl⟩⟩
      | false =>
        obtain ⟨p, hp, _⟩ := getD_some hk
        have ld := fun (c : Nat) => ald_pt (b := c) (g := g) (rw_ := rw_) rest hp
        have pm := List.mem_of_getElem? hp
        rcases hC with ⟨hi0, h3, rfl⟩ | ⟨g1, X, G, hi0, h3, rfl⟩
        · simp only [go_sem, Nat.reduceEqDiff, Nat.reduceAdd, Nat.reduceSub, Nat.reduceMul, Nat.reduceLT, Nat.reduceLeDiff, Int.reducePow, Int.reduceBEq, Int.reduceBNe, Int.reduceDiv, Int.reduceMod, Int.reduceEq, Int.reduceLT, Int.reduceLE, Int.reduceAdd, Int.reduceSub, Int.reduceMul, Int.reduceNeg, Int.reduceToNat, Int.reduceTDiv, Int.reduceTMod, ↓reduceIte, h0, h4, h5, h3, dt (show (i : Int) < (l.length : Int) by omega), w1, q0, show (i : Int) < (l.length : Int) by omega, Int.toNat_natCast, Nat.zero_add, hb, ld, ptv]
          exact ⟨k - 1, by omega, i + 1, [p], by omega, rfl, by rw [hi0]; rfl, by simpa using pm, .inr ⟨0, _, [], by omega, by rw [hi0], rfl⟩⟩
        · simp only [go_sem, Nat.reduceEqDiff, Nat.reduceAdd, Nat.reduceSub, Nat.reduceMul, Nat.reduceLT, Nat.reduceLeDiff, Int.reducePow, Int.reduceBEq, Int.reduceBNe, Int.reduceDiv, Int.reduceMod, Int.reduceEq, Int.reduceLT, Int.reduceLE, Int.reduceAdd, Int.reduceSub, Int.reduceMul, Int.reduceNeg, Int.reduceToNat, Int.reduceTDiv, Int.reduceTMod, ↓reduceIte, h0, h4, h5, h3, dt (show (i : Int) < (l.length : Int) by omega), w1, q0, show (i : Int) < (l.length : Int) by omega, Int.toNat_natCast, Nat.zero_add, old_get hb, ld, ptv, hs.1.symm, hs.2.1, hs.2.2]
          exact ⟨k - 1, by omega, i + 1, o ++ [p], by omega, rfl, by rw [List.length_append, ho]; rfl, fun x hx => (List.mem_append.1 hx).elim (hm' x) (fun h => by rw [List.mem_singleton.1 h]; exact pm), .inr ⟨g1 + 1, X, _, by omega, rfl, by rw [ptC_app]; rfl⟩⟩
    · simp only [go_sem, Nat.reduceEqDiff, Nat.reduceAdd, Nat.reduceSub, Nat.reduceMul, Nat.reduceLT, Nat.reduceLeDiff, Int.reducePow, Int.reduceBEq, Int.reduceBNe, Int.reduceDiv, Int.reduceMod, Int.reduceEq, Int.reduceLT, Int.reduceLE, Int.reduceAdd, Int.reduceSub, Int.reduceMul, Int.reduceNeg, Int.reduceToNat, Int.reduceTDiv, Int.reduceTMod, ↓reduceIte, h0, h4, h5, df (show ¬ (i : Int) < (l.length : Int) by omega)]
      refine ⟨o, ?_, by omega, hm'⟩
      rcases hC with ⟨e, h3, rfl⟩ | ⟨g1, X, G, hi0, h3, rfl⟩
      · exact absurd (List.eq_nil_of_length_eq_zero (by omega)) hn
      · exact .inr ⟨H1.length + 1, g1, [], true, by omega, by simp, by rw [ho]; exact h3, by rw [hget_app, List.append_nil]; rfl, by omega⟩
abbrev Pb (p : Pt) : Prop := (-536870912 ≤ p.1 ∧ p.1 ≤ 536870912) ∧ -536870912 ≤ p.2 ∧ p.2 ≤ 536870912
theorem Pb.ip {p : Pt} (h : Pb p) : Ip p := ⟨⟨by omega, by omega⟩, by omega, by omega⟩
theorem plp_b (p : Pt) : Pb (plp p) := ⟨place_b p.1, place_b p.2⟩
theorem Olx.cell (H : AH) (x y : Blk) (A : AH) : Olx H.length (H ++ (x :: A)) (H ++ (y :: A)) := fun c k hc e => by
  by_cases h : c < H.length
  · rw [List.getElem?_append_left h] at e ⊢; exact e
  · obtain ⟨d, rfl⟩ : ∃ d, c = H.length + (d + 1) := ⟨c - H.length - 1, by omega⟩
    rw [hget_app] at e ⊢; exact e
theorem rshape_ (l : List Pt) (pv : Value) (H : AH) (h : Pts H pv l) (hl : l.length ≤ 100000) : Cal Try.prog 86 [pv] H fun v H' W => W = [] ∧ (∃ L, H' = H ++ L) ∧ ∃ pv' q, v = poly true pv' ∧ PtsF H.length H'.length H' pv' q ∧ q.length = l.length ∧ ∀ p ∈ q, ∃ z ∈ l, p = plp z := by
  refine adds_of ?_
  by_cases hn : l = []
  · obtain ⟨a, e, rfl⟩ := h.form
    subst hn
    refine XCal.of hm Try.func86 rfl (fun xs w => Try.call86 xs w) Try.ntmps86 Try.results86 rfl ?_
    simp only [go_sem, Nat.reduceEqDiff, Nat.reduceAdd, Nat.reduceSub, Nat.reduceMul, Nat.reduceLT, Nat.reduceLeDiff, Int.reducePow, Int.reduceBEq, Int.reduceBNe, Int.reduceDiv, Int.reduceMod, Int.reduceEq, Int.reduceLT, Int.reduceLE, Int.reduceAdd, Int.reduceSub, Int.reduceMul, Int.reduceNeg, Int.reduceToNat, Int.reduceTDiv, Int.reduceTMod, ↓reduceIte]
    refine rounds 1 ?_
    simp only [go_sem, Nat.reduceEqDiff, Nat.reduceAdd, Nat.reduceSub, Nat.reduceMul, Nat.reduceLT, Nat.reduceLeDiff, Int.reducePow, Int.reduceBEq, Int.reduceBNe, Int.reduceDiv, Int.reduceMod, Int.reduceEq, Int.reduceLT, Int.reduceLE, Int.reduceAdd, Int.reduceSub, Int.reduceMul, Int.reduceNeg, Int.reduceToNat, Int.reduceTDiv, Int.reduceTMod, ↓reduceIte, List.length_nil, show ((0 : Nat) : Int) = 0 from rfl]
    refine (rturned_ [] _ _ (.inl ⟨rfl, .inr rfl⟩) (by simp)).x ?_
    rintro v H1 W1 ⟨rfl, ⟨L, rfl⟩, q, hq, hql, hqm⟩
    obtain ⟨a1, e1, hqe⟩ := hq.form
    subst hqe
    simp only [go_sem, Nat.reduceEqDiff, Nat.reduceAdd, Nat.reduceSub, Nat.reduceMul, Nat.reduceLT, Nat.reduceLeDiff, Int.reducePow, Int.reduceBEq, Int.reduceBNe, Int.reduceDiv, Int.reduceMod, Int.reduceEq, Int.reduceLT, Int.reduceLE, Int.reduceAdd, Int.reduceSub, Int.reduceMul, Int.reduceNeg, Int.reduceToNat, Int.reduceTDiv, Int.reduceTMod, ↓reduceIte, List.append_assoc, List.cons_append, List.nil_append]
    refine ⟨_, q, rfl, ?_, hql, fun p hp => absurd (hqm p hp) (by simp)⟩
    have k1 := hq.weak (n1 := H.length) (bad' := H.length) (by simp) (by simp)
    have k2 := k1.olx (J := H ++ (⟨[.bool true, .slice a1 q.length e1], 0, true⟩ :: L)) (by rw [List.append_assoc]; exact Olx.cell _ _ _ _)
    exact k2.bad (by simp)
  · obtain ⟨b, g, rest, rw_, rfl, hb, _⟩ := h.ne hn
    refine XCal.of hm Try.func86 rfl (fun xs w => Try.call86 xs w) Try.ntmps86 Try.results86 rfl ?_
    simp only [go_sem, Nat.reduceEqDiff, Nat.reduceAdd, Nat.reduceSub, Nat.reduceMul, Nat.reduceLT, Nat.reduceLeDiff, Int.reducePow, Int.reduceBEq, Int.reduceBNe, Int.reduceDiv, Int.reduceMod, Int.reduceEq, Int.reduceLT, Int.reduceLE, Int.reduceAdd, Int.reduceSub, Int.reduceMul, Int.reduceNeg, Int.reduceToNat, Int.reduceTDiv, Int.reduceTMod, ↓reduceIte]
    refine keep (fun k T H' D => D = [] ∧ ∃ (i : Nat) (o : List Pt), i + k = l.length ∧ T 0 = sl b 0 g l.length 2 ∧ T 2 = ap H.length 0 0 ∧ T 4 = .int .i64 (i : Int) ∧ o.length = i ∧ (∀ p ∈ o, ∃ z ∈ l, p = plp z) ∧ ((i = 0 ∧ T 3 = .slice none 0 0 ∧ H' = H ++ [⟨[.bool false, .slice none 0 0], 0, true⟩]) ∨ ∃ g1 X G, 0 < i ∧ T 3 = sl (H.length + 2) 0 g1 i 2 ∧ H' = H ++ (⟨[.bool false, .slice none 0 0], 0, true⟩ :: X :: ⟨ptC o, g1, true⟩ :: G))) l.length
      ⟨rfl, 0, [], by omega, by simp only [go_sem, Nat.reduceEqDiff, Nat.reduceAdd, Nat.reduceSub, Nat.reduceMul, Nat.reduceLT, Nat.reduceLeDiff, Int.reducePow, Int.reduceBEq, Int.reduceBNe, Int.reduceDiv, Int.reduceMod, Int.reduceEq, Int.reduceLT, Int.reduceLE, Int.reduceAdd, Int.reduceSub, Int.reduceMul, Int.reduceNeg, Int.reduceToNat, Int.reduceTDiv, Int.reduceTMod, ↓reduceIte], by simp only [go_sem, Nat.reduceEqDiff, Nat.reduceAdd, Nat.reduceSub, Nat.reduceMul, Nat.reduceLT, Nat.reduceLeDiff, Int.reducePow, Int.reduceBEq, Int.reduceBNe, Int.reduceDiv, Int.reduceMod, Int.reduceEq, Int.reduceLT, Int.reduceLE, Int.reduceAdd, Int.reduceSub, Int.reduceMul, Int.reduceNeg, Int.reduceToNat, Int.reduceTDiv, Int.reduceTMod, ↓reduceIte], by simp only [go_sem, Nat.reduceEqDiff, Nat.reduceAdd, Nat.reduceSub, Nat.reduceMul, Nat.reduceLT, Nat.reduceLeDiff, Int.reducePow, Int.reduceBEq, Int.reduceBNe, Int.reduceDiv, Int.reduceMod, Int.reduceEq, Int.reduceLT, Int.reduceLE, Int.reduceAdd, Int.reduceSub, Int.reduceMul, Int.reduceNeg, Int.reduceToNat, Int.reduceTDiv, Int.reduceTMod, ↓reduceIte] <;> rfl, rfl, by simp, .inl ⟨rfl, by simp only [go_sem, Nat.reduceEqDiff, Nat.reduceAdd, Nat.reduceSub, Nat.reduceMul, Nat.reduceLT, Nat.reduceLeDiff, Int.reducePow, Int.reduceBEq, Int.reduceBNe, Int.reduceDiv, Int.reduceMod, Int.reduceEq, Int.reduceLT, Int.reduceLE, Int.reduceAdd, Int.reduceSub, Int.reduceMul, Int.reduceNeg, Int.reduceToNat, Int.reduceTDiv, Int.reduceTMod, ↓reduceIte] <;> rfl, rfl⟩⟩ ?_
    rintro k T H' D ⟨rfl, i, o, hik, h0, h2, h4, ho, hm', hC⟩
    by_cases hk : i < l.length
    · have w1 : IntKind.i64.wrap ((i : Int) + 1) = ((i + 1 : Nat) : Int) := by rw [wi (by omega) (by omega)]; rfl
      have hs := small_o (o := o) (n := 1) (by omega) (by omega)
      rw [ho] at hs
      have q0 : ∀ x : Nat, (0 : Int) ≤ (x : Int) := fun x => by omega
      obtain ⟨p, hp, _⟩ := getD_some hk
      have ld := fun (c : Nat) => ald_pt (b := c) (g := g) (rw_ := rw_) rest hp
      have pm : ∃ z ∈ l, plp p = plp z := ⟨p, List.mem_of_getElem? hp, rfl⟩
      rcases hC with ⟨hi0, h3, rfl⟩ | ⟨g1, X, G, hi0, h3, rfl⟩
      · simp only [go_sem, Nat.reduceEqDiff, Nat.reduceAdd, Nat.reduceSub, Nat.reduceMul, Nat.reduceLT, Nat.reduceLeDiff, Int.reducePow, Int.reduceBEq, Int.reduceBNe, Int.reduceDiv, Int.reduceMod, Int.reduceEq, Int.reduceLT, Int.reduceLE, Int.reduceAdd, Int.reduceSub, Int.reduceMul, Int.reduceNeg, Int.reduceToNat, Int.reduceTDiv, Int.reduceTMod, ↓reduceIte, h0, h2, h4, h3, dt (show (i : Int) < (l.length : Int) by omega), w1, q0, show (i : Int) < (l.length : Int) by omega, Int.toNat_natCast, Nat.zero_add, old_get hb, ld, ptv]
        refine (rplaced_ p _).x ?_
        simp only [go_sem, Nat.reduceEqDiff, Nat.reduceAdd, Nat.reduceSub, Nat.reduceMul, Nat.reduceLT, Nat.reduceLeDiff, Int.reducePow, Int.reduceBEq, Int.reduceBNe, Int.reduceDiv, Int.reduceMod, Int.reduceEq, Int.reduceLT, Int.reduceLE, Int.reduceAdd, Int.reduceSub, Int.reduceMul, Int.reduceNeg, Int.reduceToNat, Int.reduceTDiv, Int.reduceTMod, ↓reduceIte, h0, h2, h4, h3, w1, ptv]
        exact ⟨k - 1, by omega, i + 1, [plp p], by omega, rfl, by rw [hi0]; rfl, fun x hx => by rw [List.mem_singleton.1 hx]; exact pm, .inr ⟨0, _, [], by omega, by rw [hi0], rfl⟩⟩
      · simp only [go_sem, Nat.reduceEqDiff, Nat.reduceAdd, Nat.reduceSub, Nat.reduceMul, Nat.reduceLT, Nat.reduceLeDiff, Int.reducePow, Int.reduceBEq, Int.reduceBNe, Int.reduceDiv, Int.reduceMod, Int.reduceEq, Int.reduceLT, Int.reduceLE, Int.reduceAdd, Int.reduceSub, Int.reduceMul, Int.reduceNeg, Int.reduceToNat, Int.reduceTDiv, Int.reduceTMod, ↓reduceIte, h0, h2, h4, h3, dt (show (i : Int) < (l.length : Int) by omega), w1, q0, show (i : Int) < (l.length : Int) by omega, Int.toNat_natCast, Nat.zero_add, old_get hb, ld, ptv]
        refine (rplaced_ p _).x ?_
        simp only [go_sem, Nat.reduceEqDiff, Nat.reduceAdd, Nat.reduceSub, Nat.reduceMul, Nat.reduceLT, Nat.reduceLeDiff, Int.reducePow, Int.reduceBEq, Int.reduceBNe, Int.reduceDiv, Int.reduceMod, Int.reduceEq, Int.reduceLT, Int.reduceLE, Int.reduceAdd, Int.reduceSub, Int.reduceMul, Int.reduceNeg, Int.reduceToNat, Int.reduceTDiv, Int.reduceTMod, ↓reduceIte, h0, h2, h4, h3, w1, ptv, hs.1.symm, hs.2.1, hs.2.2]
        exact ⟨k - 1, by omega, i + 1, o ++ [plp p], by omega, rfl, by rw [List.length_append, ho]; rfl, fun x hx => (List.mem_append.1 hx).elim (hm' x) (fun h => by rw [List.mem_singleton.1 h]; exact pm), .inr ⟨g1 + 1, X, _, by omega, rfl, by rw [ptC_app]; rfl⟩⟩
    · simp only [go_sem, Nat.reduceEqDiff, Nat.reduceAdd, Nat.reduceSub, Nat.reduceMul, Nat.reduceLT, Nat.reduceLeDiff, Int.reducePow, Int.reduceBEq, Int.reduceBNe, Int.reduceDiv, Int.reduceMod, Int.reduceEq, Int.reduceLT, Int.reduceLE, Int.reduceAdd, Int.reduceSub, Int.reduceMul, Int.reduceNeg, Int.reduceToNat, Int.reduceTDiv, Int.reduceTMod, ↓reduceIte, h0, h2, h4, df (show ¬ (i : Int) < (l.length : Int) by omega)]
      rcases hC with ⟨e, h3, rfl⟩ | ⟨g1, X, G, hi0, h3, rfl⟩
      · exact absurd (List.eq_nil_of_length_eq_zero (by omega)) hn
      · have hpo : Pts (H ++ (⟨[.bool false, .slice none 0 0], 0, true⟩ :: X :: ⟨ptC o, g1, true⟩ :: G)) (sl (H.length + 2) 0 g1 i 2) o := .inr ⟨H.length + 2, g1, [], true, by rw [ho], by rw [hget_app, List.append_nil]; rfl, by omega⟩
        simp only [go_sem, Nat.reduceEqDiff, Nat.reduceAdd, Nat.reduceSub, Nat.reduceMul, Nat.reduceLT, Nat.reduceLeDiff, Int.reducePow, Int.reduceBEq, Int.reduceBNe, Int.reduceDiv, Int.reduceMod, Int.reduceEq, Int.reduceLT, Int.reduceLE, Int.reduceAdd, Int.reduceSub, Int.reduceMul, Int.reduceNeg, Int.reduceToNat, Int.reduceTDiv, Int.reduceTMod, ↓reduceIte, h3]
        refine (rturned_ o _ _ hpo (by omega)).x ?_
        rintro v H1 W1 ⟨rfl, ⟨L, rfl⟩, q, hq, hql, hqm⟩
        obtain ⟨a1, e1, hqe⟩ := hq.form
        subst hqe
        simp only [go_sem, Nat.reduceEqDiff, Nat.reduceAdd, Nat.reduceSub, Nat.reduceMul, Nat.reduceLT, Nat.reduceLeDiff, Int.reducePow, Int.reduceBEq, Int.reduceBNe, Int.reduceDiv, Int.reduceMod, Int.reduceEq, Int.reduceLT, Int.reduceLE, Int.reduceAdd, Int.reduceSub, Int.reduceMul, Int.reduceNeg, Int.reduceToNat, Int.reduceTDiv, Int.reduceTMod, ↓reduceIte, h0, h2, h4, List.append_assoc, List.cons_append]
        refine ⟨_, q, rfl, ?_, by omega, fun p hp => hm' p (hqm p hp)⟩
        have k1 := hq.weak (n1 := H.length) (bad' := H.length) (by simp) (by simp)
        have k2 := k1.olx (J := H ++ (⟨[.bool true, .slice a1 q.length e1], 0, true⟩ :: X :: ⟨ptC o, g1, true⟩ :: (G ++ L))) (by rw [List.append_assoc]; exact Olx.cell _ _ _ _)
        exact k2.bad (by simp)
end Go.Proofs.Ythoclopeajkcpaa
/- Chapter 9's plain form: the walks of joints and strokes. -/
namespace Go.Proofs.Ythoclopeajkcpaa
open Go Go.RowKit E
attribute [local irreducible] XRun XOps XCode XCal XLoop XQ SemCall
set_option linter.unusedSimpArgs false
set_option linter.unusedVariables false
abbrev SmallP (x : PL) : Prop := x.2.length ≤ 1000 ∧ ∀ p ∈ x.2, Bd 2097152 p
theorem Bd.ip {p : Pt} (h : Bd 2097152 p) : Ip p := ⟨⟨by omega, by omega⟩, by omega, by omega⟩
theorem OutP.pair {n0 n1 n2 bad1 bad2 : Nat} {K1 K2 J : AH} {c1 c2 : Bool} {pv1 pv2 : Value} {q1 q2 : List Pt} (h1 : PtsF n1 bad1 K1 pv1 q1) (o1 : Old K1 J) (h2 : PtsF n2 bad2 K2 pv2 q2) (o2 : Old K2 J) {b g : Nat} (b1 : K1.length ≤ b) (b2 : K2.length ≤ b) (m1 : n0 ≤ n1) (m2 : n0 ≤ n2) (mb : n0 ≤ b) (hb : J[b]? = some ⟨[.bool c1, pv1, .bool c2, pv2], g, true⟩) : OutP n0 J (sl b 0 g 2 2) [(c1, q1), (c2, q2)] :=
  .inr ⟨b, g, [(c1, pv1), (c2, pv2)], mb, rfl, hb, rfl, fun i x hx => by
    match i, hx with
    | 0, hx => simp at hx; subst hx; exact ⟨pv1, rfl, ((h1.bad b1).low m1).old o1⟩
    | 1, hx => simp at hx; subst hx; exact ⟨pv2, rfl, ((h2.bad b2).low m2).old o2⟩
    | i + 2, hx => simp at hx⟩
theorem rjoint_ (n1 n2 : Ln) (hn1 : LnB n1) (hn2 : LnB n2) (H : AH) : Cal Try.prog 87 [n1.val, n2.val] H fun v H' W => W = [] ∧ (∃ L, H' = H ++ L) ∧ ∃ qs, OutP H.length H' v qs ∧ qs.length = 2 ∧ ∀ x ∈ qs, SmallP x := by
  refine adds_of ?_
  refine XCal.of hm Try.func87 rfl (fun xs w => Try.call87 xs w) Try.ntmps87 Try.results87 rfl ?_
  simp only [go_sem, Nat.reduceEqDiff, Nat.reduceAdd, Nat.reduceSub, Nat.reduceMul, Nat.reduceLT, Nat.reduceLeDiff, Int.reducePow, Int.reduceBEq, Int.reduceBNe, Int.reduceDiv, Int.reduceMod, Int.reduceEq, Int.reduceLT, Int.reduceLE, Int.reduceAdd, Int.reduceSub, Int.reduceMul, Int.reduceNeg, Int.reduceToNat, Int.reduceTDiv, Int.reduceTMod, ↓reduceIte]
  have p1 := fun a b k H => rplus_ a b k H
  refine drawnF ?_ (by decide +kernel)
  simp only [go_sem, Nat.reduceEqDiff, Nat.reduceAdd, Nat.reduceSub, Nat.reduceMul, Nat.reduceLT, Nat.reduceLeDiff, Int.reducePow, Int.reduceBEq, Int.reduceBNe, Int.reduceDiv, Int.reduceMod, Int.reduceEq, Int.reduceLT, Int.reduceLE, Int.reduceAdd, Int.reduceSub, Int.reduceMul, Int.reduceNeg, Int.reduceToNat, Int.reduceTDiv, Int.reduceTMod, ↓reduceIte]
  repeat ((first | refine (rplus_ n2.a n1.d _ _).x ?_ | refine (rplus_ n2.a n2.d _ _).x ?_ | refine drawnF ?_ (by decide +kernel) | refine drawnU [(0, 4), (4, 5), (4, 6), (4, 7), (0, 8), (4, 11), (8, 11), (10, 11), (4, 12), (8, 12), (10, 12), (4, 13), (8, 13), (10, 13), (4, 14), (8, 14), (10, 14), (11, 15), (4, 16), (8, 16), (10, 16), (15, 16), (4, 17), (8, 17), (10, 17), (15, 17), (4, 18), (8, 18), (10, 18), (15, 18), (11, 19)] (by decide +kernel) ?_); simp only [go_sem, Nat.reduceEqDiff, Nat.reduceAdd, Nat.reduceSub, Nat.reduceMul, Nat.reduceLT, Nat.reduceLeDiff, Int.reducePow, Int.reduceBEq, Int.reduceBNe, Int.reduceDiv, Int.reduceMod, Int.reduceEq, Int.reduceLT, Int.reduceLE, Int.reduceAdd, Int.reduceSub, Int.reduceMul, Int.reduceNeg, Int.reduceToNat, Int.reduceTDiv, Int.reduceTMod, ↓reduceIte, ptv])
  refine (rshape_ [n2.a, pplus n2.a n1.d 1, pplus n2.a n2.d 1] _ _ (.inr ⟨H.length + 3, 0, [], true, rfl, by rw [hget_app]; rfl, by simp⟩) (by simp)).x ?_
  rintro v H1 W1 ⟨rfl, ⟨L1, rfl⟩, pv1, q1, rfl, hq1, hl1, hb1⟩
  obtain ⟨a1, e1, hqe⟩ := hq1.form
  subst hqe
  simp only [go_sem, Nat.reduceEqDiff, Nat.reduceAdd, Nat.reduceSub, Nat.reduceMul, Nat.reduceLT, Nat.reduceLeDiff, Int.reducePow, Int.reduceBEq, Int.reduceBNe, Int.reduceDiv, Int.reduceMod, Int.reduceEq, Int.reduceLT, Int.reduceLE, Int.reduceAdd, Int.reduceSub, Int.reduceMul, Int.reduceNeg, Int.reduceToNat, Int.reduceTDiv, Int.reduceTMod, ↓reduceIte, poly, List.append_assoc, List.cons_append, List.nil_append]
  repeat ((first | refine (rplus_ n2.a n1.d _ _).x ?_ | refine (rplus_ n2.a n2.d _ _).x ?_ | refine drawnF ?_ (by decide +kernel) | refine drawnU [(0, 4), (4, 5), (4, 6), (4, 7), (0, 8), (4, 11), (8, 11), (10, 11), (4, 12), (8, 12), (10, 12), (4, 13), (8, 13), (10, 13), (4, 14), (8, 14), (10, 14), (11, 15), (4, 16), (8, 16), (10, 16), (15, 16), (4, 17), (8, 17), (10, 17), (15, 17), (4, 18), (8, 18), (10, 18), (15, 18), (11, 19)] (by decide +kernel) ?_); simp only [go_sem, Nat.reduceEqDiff, Nat.reduceAdd, Nat.reduceSub, Nat.reduceMul, Nat.reduceLT, Nat.reduceLeDiff, Int.reducePow, Int.reduceBEq, Int.reduceBNe, Int.reduceDiv, Int.reduceMod, Int.reduceEq, Int.reduceLT, Int.reduceLE, Int.reduceAdd, Int.reduceSub, Int.reduceMul, Int.reduceNeg, Int.reduceToNat, Int.reduceTDiv, Int.reduceTMod, ↓reduceIte, ptv, List.append_assoc, List.cons_append, List.nil_append])
  refine (rshape_ [n2.a, pplus n2.a n1.d (-1), pplus n2.a n2.d (-1)] _ _ (.inr ⟨_, 0, [], true, rfl, by rw [hget_app]; show (L1 ++ _)[L1.length]? = _; rw [hget_app0]; rfl, by simp⟩) (by simp)).x ?_
  rintro v H1 W1 ⟨rfl, ⟨L2, rfl⟩, pv2, q2, rfl, hq2, hl2, hb2⟩
  obtain ⟨a2, e2, hqe⟩ := hq2.form
  subst hqe
  simp only [go_sem, Nat.reduceEqDiff, Nat.reduceAdd, Nat.reduceSub, Nat.reduceMul, Nat.reduceLT, Nat.reduceLeDiff, Int.reducePow, Int.reduceBEq, Int.reduceBNe, Int.reduceDiv, Int.reduceMod, Int.reduceEq, Int.reduceLT, Int.reduceLE, Int.reduceAdd, Int.reduceSub, Int.reduceMul, Int.reduceNeg, Int.reduceToNat, Int.reduceTDiv, Int.reduceTMod, ↓reduceIte, poly]
  refine ⟨[(true, q1), (true, q2)], OutP.pair hq1 (old_pre (by simp only [List.append_assoc, List.cons_append, List.nil_append]; exact ⟨_, rfl⟩)) hq2 (old_pre (by simp only [List.append_assoc, List.cons_append, List.nil_append]; exact ⟨_, rfl⟩)) (by first | omega | (simp; done) | (simp; omega)) (by first | omega | (simp; done) | (simp; omega)) (by first | omega | (simp; done) | (simp; omega)) (by first | omega | (simp; done) | (simp; omega)) (by first | omega | (simp; done) | (simp; omega)) ?_, rfl, ?_⟩
  · exact last2 _ _ _ _ (by simp <;> omega)
  · intro x hx
    have f0 : Bd 2097152 n2.a := hn2.1.mono (by omega)
    have f1 : Bd 2097152 (pplus n2.a n1.d 1) := (pplus_bd hn2.1 hn1.2.2.2 (.inl rfl) (by omega) (by omega)).mono (by omega)
    have f2 : Bd 2097152 (pplus n2.a n2.d 1) := (pplus_bd hn2.1 hn2.2.2.2 (.inl rfl) (by omega) (by omega)).mono (by omega)
    have f3 : Bd 2097152 (pplus n2.a n1.d (-1)) := (pplus_bd hn2.1 hn1.2.2.2 (.inr rfl) (by omega) (by omega)).mono (by omega)
    have f4 : Bd 2097152 (pplus n2.a n2.d (-1)) := (pplus_bd hn2.1 hn2.2.2.2 (.inr rfl) (by omega) (by omega)).mono (by omega)
    simp at hx
    rcases hx with rfl | rfl
    · refine ⟨by rw [hl1]; simp, fun p hp => ?_⟩
      obtain ⟨z, hz, rfl⟩ := hb1 p hp
      simp at hz
      rcases hz with rfl | rfl | rfl
      · exact plp_bd (by omega) f0
      · exact plp_bd (by omega) f1
      · exact plp_bd (by omega) f2
    · refine ⟨by rw [hl2]; simp, fun p hp => ?_⟩
      obtain ⟨z, hz, rfl⟩ := hb2 p hp
      simp at hz
      rcases hz with rfl | rfl | rfl
      · exact plp_bd (by omega) f0
      · exact plp_bd (by omega) f3
      · exact plp_bd (by omega) f4
end Go.Proofs.Ythoclopeajkcpaa
/- Chapter 9's plain form: the walk of strokes. -/
namespace Go.Proofs.Ythoclopeajkcpaa
open Go Go.RowKit E
attribute [local irreducible] XRun XOps XCode XCal XLoop XQ SemCall
set_option linter.unusedSimpArgs false
set_option linter.unusedVariables false
theorem LnO.form {n0 : Nat} {K : AH} {v : Value} {r : List Ln} (h : LnO n0 K v r) : ∃ a e, v = .slice a r.length e := by
  rcases h with ⟨rfl, rfl⟩ | ⟨b, g, _, rfl, _⟩
  · exact ⟨_, _, rfl⟩
  · exact ⟨_, _, rfl⟩
theorem OutP.firsts {n0 n1 bj : Nat} {K1 J : AH} {vj : List (Bool × Value)} {js : List PL} (h : OutN n1 K1 bj vj js) (o : Old K1 J) (hn : n0 ≤ n1) {b g m : Nat} (hm' : js.length = m) (hb : J[b]? = some ⟨plC vj, g, true⟩) (hbl : K1.length ≤ b) (hnb : n0 ≤ b) : OutP n0 J (sl b 0 g m 2) js :=
  .inr ⟨b, g, vj, hnb, by rw [hm'], hb, h.mono fun _ _ p => ((p.bad hbl).low hn).old o⟩
theorem OutP.nexts {n0 n1 bj bo go m : Nat} {K K1 J : AH} {vo vj : List (Bool × Value)} {qs js : List PL} (hov : OutN n0 K bo vo qs) (hbo : n0 ≤ bo) (o : Olx bo K J) (h : OutN n1 K1 bj vj js) (o1 : Olx bo K1 J) (hn : bo < n1) (hn0 : n0 ≤ n1) (hm' : js.length = m) (hb : J[bo]? = some ⟨plC vo ++ plC vj, go, true⟩) : OutP n0 J (sl bo 0 go (qs.length + m) 2) (qs ++ js) :=
  .inr ⟨bo, go, vo ++ vj, hbo, by rw [List.length_append, hm'], by rw [plC_app]; exact hb, (hov.mono fun _ _ p => p.olx o).push (h.mono fun _ _ p => (p.weak hn0 hn).olx o1)⟩
set_option maxHeartbeats 4000000 in
theorem rstroke_ (c : Bool) (l : List Pt) (pv : Value) (w cap : Int) (H : AH) (h : Pts H pv l) (hl : l.length ≤ 10000) (hB : ∀ p ∈ l, Bd 1048576 p) (hw0 : 0 ≤ w ∧ w ≤ 262144) : Cal Try.prog 62 [.agg [.bool c, pv].toArray, .int .i64 w, .int .i64 cap] H fun v H' W => W = [] ∧ (∃ L, H' = H ++ L) ∧ ∃ qs, OutP H.length H' v qs ∧ qs.length ≤ 4 * l.length + 4 ∧ ∀ x ∈ qs, SmallP x := by
  refine adds_of ?_
  obtain ⟨a, e, hpv⟩ := h.form
  subst hpv
  refine XCal.of hm Try.func62 rfl (fun xs w => Try.call62 xs w) Try.ntmps62 Try.results62 rfl ?_
  simp only [go_sem, Nat.reduceEqDiff, Nat.reduceAdd, Nat.reduceSub, Nat.reduceMul, Nat.reduceLT, Nat.reduceLeDiff, Int.reducePow, Int.reduceBEq, Int.reduceBNe, Int.reduceDiv, Int.reduceMod, Int.reduceEq, Int.reduceLT, Int.reduceLE, Int.reduceAdd, Int.reduceSub, Int.reduceMul, Int.reduceNeg, Int.reduceToNat, Int.reduceTDiv, Int.reduceTMod, ↓reduceIte]
  refine (rclamp_ _ _ _ _).x ?_
  have hw' : 0 ≤ clamp (w / 2) 0 67108864 ∧ clamp (w / 2) 0 67108864 ≤ 131072 := by rw [clamp_in (by omega) (by omega)]; omega
  generalize clamp (w / 2) 0 67108864 = w' at *
  by_cases hw : w' = 0
  · simp only [go_sem, Nat.reduceEqDiff, Nat.reduceAdd, Nat.reduceSub, Nat.reduceMul, Nat.reduceLT, Nat.reduceLeDiff, Int.reducePow, Int.reduceBEq, Int.reduceBNe, Int.reduceDiv, Int.reduceMod, Int.reduceEq, Int.reduceLT, Int.reduceLE, Int.reduceAdd, Int.reduceSub, Int.reduceMul, Int.reduceNeg, Int.reduceToNat, Int.reduceTDiv, Int.reduceTMod, ↓reduceIte, bt hw]
    exact ⟨[], .inl ⟨rfl, rfl⟩, by simp, by simp⟩
  simp only [go_sem, Nat.reduceEqDiff, Nat.reduceAdd, Nat.reduceSub, Nat.reduceMul, Nat.reduceLT, Nat.reduceLeDiff, Int.reducePow, Int.reduceBEq, Int.reduceBNe, Int.reduceDiv, Int.reduceMod, Int.reduceEq, Int.reduceLT, Int.reduceLE, Int.reduceAdd, Int.reduceSub, Int.reduceMul, Int.reduceNeg, Int.reduceToNat, Int.reduceTDiv, Int.reduceTMod, ↓reduceIte, bf hw]
  refine (rlns_ c l _ w' _ (h.app _) (by omega) hB hw').x ?_
  rintro v H1 W1 ⟨rfl, ⟨L0, rfl⟩, r, hr, hrl, hrB⟩
  have h0 : (H ++ [⟨[.bool c, .slice a l.length e], 0, true⟩] ++ L0)[H.length]? = some (⟨[.bool c, .slice a l.length e], 0, true⟩ : Blk) := by rw [List.append_assoc, hget_app0]; rfl
  have hK0 : H.length + 1 ≤ (H ++ ([⟨[.bool c, .slice a l.length e], 0, true⟩] : AH) ++ L0).length := by simp
  obtain ⟨ra, re, hrv⟩ := hr.form
  generalize H ++ [⟨[.bool c, .slice a l.length e], 0, true⟩] ++ L0 = K0 at *
  subst hrv
  simp only [go_sem, Nat.reduceEqDiff, Nat.reduceAdd, Nat.reduceSub, Nat.reduceMul, Nat.reduceLT, Nat.reduceLeDiff, Int.reducePow, Int.reduceBEq, Int.reduceBNe, Int.reduceDiv, Int.reduceMod, Int.reduceEq, Int.reduceLT, Int.reduceLE, Int.reduceAdd, Int.reduceSub, Int.reduceMul, Int.reduceNeg, Int.reduceToNat, Int.reduceTDiv, Int.reduceTMod, ↓reduceIte]
  refine keep (fun k T K D => D = [] ∧ ∃ (i : Nat) (qs : List PL), i + k = r.length ∧ Old K0 K ∧ K0.length ≤ K.length ∧ T 2 = .int .i64 cap ∧ T 3 = ap H.length 0 0 ∧ T 8 = .slice ra r.length re ∧ T 10 = .int .i64 (i : Int) ∧ OutP K0.length K (T 9) qs ∧ qs.length ≤ i ∧ ∀ x ∈ qs, SmallP x) r.length
    ⟨rfl, 0, [], by omega, Old.refl _, by omega, by simp only [go_sem, Nat.reduceEqDiff, Nat.reduceAdd, Nat.reduceSub, Nat.reduceMul, Nat.reduceLT, Nat.reduceLeDiff, Int.reducePow, Int.reduceBEq, Int.reduceBNe, Int.reduceDiv, Int.reduceMod, Int.reduceEq, Int.reduceLT, Int.reduceLE, Int.reduceAdd, Int.reduceSub, Int.reduceMul, Int.reduceNeg, Int.reduceToNat, Int.reduceTDiv, Int.reduceTMod, ↓reduceIte], by simp only [go_sem, Nat.reduceEqDiff, Nat.reduceAdd, Nat.reduceSub, Nat.reduceMul, Nat.reduceLT, Nat.reduceLeDiff, Int.reducePow, Int.reduceBEq, Int.reduceBNe, Int.reduceDiv, Int.reduceMod, Int.reduceEq, Int.reduceLT, Int.reduceLE, Int.reduceAdd, Int.reduceSub, Int.reduceMul, Int.reduceNeg, Int.reduceToNat, Int.reduceTDiv, Int.reduceTMod, ↓reduceIte], by simp only [go_sem, Nat.reduceEqDiff, Nat.reduceAdd, Nat.reduceSub, Nat.reduceMul, Nat.reduceLT, Nat.reduceLeDiff, Int.reducePow, Int.reduceBEq, Int.reduceBNe, Int.reduceDiv, Int.reduceMod, Int.reduceEq, Int.reduceLT, Int.reduceLE, Int.reduceAdd, Int.reduceSub, Int.reduceMul, Int.reduceNeg, Int.reduceToNat, Int.reduceTDiv, Int.reduceTMod, ↓reduceIte], by simp only [go_sem, Nat.reduceEqDiff, Nat.reduceAdd, Nat.reduceSub, Nat.reduceMul, Nat.reduceLT, Nat.reduceLeDiff, Int.reducePow, Int.reduceBEq, Int.reduceBNe, Int.reduceDiv, Int.reduceMod, Int.reduceEq, Int.reduceLT, Int.reduceLE, Int.reduceAdd, Int.reduceSub, Int.reduceMul, Int.reduceNeg, Int.reduceToNat, Int.reduceTDiv, Int.reduceTMod, ↓reduceIte] <;> rfl, .inl ⟨rfl, by simp only [go_sem, Nat.reduceEqDiff, Nat.reduceAdd, Nat.reduceSub, Nat.reduceMul, Nat.reduceLT, Nat.reduceLeDiff, Int.reducePow, Int.reduceBEq, Int.reduceBNe, Int.reduceDiv, Int.reduceMod, Int.reduceEq, Int.reduceLT, Int.reduceLE, Int.reduceAdd, Int.reduceSub, Int.reduceMul, Int.reduceNeg, Int.reduceToNat, Int.reduceTDiv, Int.reduceTMod, ↓reduceIte] <;> rfl⟩, by simp, by simp⟩ ?_
  rintro k T K D ⟨rfl, i, qs, hik, hold, hKl, h2, h3, h8, h10, hO, hql, hqs⟩
  have km := hold _ _ h0
  have kd : ∀ n, decide (K.length + n < H.length) = false := fun n => df (by omega)
  have kd0 : decide (K.length < H.length) = false := df (by omega)
  have w1 : IntKind.i64.wrap ((i : Int) + 1) = ((i + 1 : Nat) : Int) := by rw [wi (by omega) (by omega)]; rfl
  by_cases hk : i < r.length
  · obtain ⟨b, g, hbn, hve, hb⟩ := hr.resolve_left (fun e => by rw [e.1] at hk; simp at hk)
    have kb := hold _ _ hb
    rw [hve] at h8
    obtain ⟨n, hn, _⟩ := getD_some hk
    obtain ⟨na, nb, nc, nd⟩ := hrB n (List.mem_of_getElem? hn)
    have ma := pplus_bd na nc (k := -1) (.inr rfl) (by omega) (by omega)
    have mb := pplus_bd nb nc (k := 1) (.inl rfl) (by omega) (by omega)
    have eb1 : Bd 2097152 (pplus n.a n.d 1) := (pplus_bd na nd (.inl rfl) (by omega) (by omega)).mono (by omega)
    have eb2 : Bd 2097152 (pplus n.a n.d (-1)) := (pplus_bd na nd (.inr rfl) (by omega) (by omega)).mono (by omega)
    have eb3 : Bd 2097152 (pplus n.b n.d 1) := (pplus_bd nb nd (.inl rfl) (by omega) (by omega)).mono (by omega)
    have eb4 : Bd 2097152 (pplus n.b n.d (-1)) := (pplus_bd nb nd (.inr rfl) (by omega) (by omega)).mono (by omega)
    have eb5 : Bd 2097152 (pplus (pplus n.a n.c (-1)) n.d 1) := (pplus_bd ma nd (.inl rfl) (by omega) (by omega)).mono (by omega)
    have eb6 : Bd 2097152 (pplus (pplus n.a n.c (-1)) n.d (-1)) := (pplus_bd ma nd (.inr rfl) (by omega) (by omega)).mono (by omega)
    have eb7 : Bd 2097152 (pplus (pplus n.b n.c 1) n.d 1) := (pplus_bd mb nd (.inl rfl) (by omega) (by omega)).mono (by omega)
    have eb8 : Bd 2097152 (pplus (pplus n.b n.c 1) n.d (-1)) := (pplus_bd mb nd (.inr rfl) (by omega) (by omega)).mono (by omega)
    have la := fun (c : Nat) => ald_lnp (b := c) (g := g) hn 0 n.a (by decide) rfl
    have lb := fun (c : Nat) => ald_lnp (b := c) (g := g) hn 2 n.b (by decide) rfl
    have lc := fun (c : Nat) => ald_lnp (b := c) (g := g) hn 4 n.c (by decide) rfl
    have ld := fun (c : Nat) => ald_lnp (b := c) (g := g) hn 6 n.d (by decide) rfl
    simp only [Nat.add_zero] at la
    have w2 : IntKind.i64.wrap ((r.length : Int) - 1) = ((r.length - 1 : Nat) : Int) := by rw [wi (by omega) (by omega)]; omega
    have q0 : (0 : Int) ≤ (i : Int) := by omega
    have q1 : (i : Int) < (r.length : Int) := by omega
    simp only [go_sem, Nat.reduceEqDiff, Nat.reduceAdd, Nat.reduceSub, Nat.reduceMul, Nat.reduceLT, Nat.reduceLeDiff, Int.reducePow, Int.reduceBEq, Int.reduceBNe, Int.reduceDiv, Int.reduceMod, Int.reduceEq, Int.reduceLT, Int.reduceLE, Int.reduceAdd, Int.reduceSub, Int.reduceMul, Int.reduceNeg, Int.reduceToNat, Int.reduceTDiv, Int.reduceTMod, ↓reduceIte, h2, h3, h8, h10, dt q1]
    refine drawnU [(5, 12), (6, 12), (7, 12), (8, 12), (9, 12)] (by decide +kernel) ?_
    simp only [go_sem, Nat.reduceEqDiff, Nat.reduceAdd, Nat.reduceSub, Nat.reduceMul, Nat.reduceLT, Nat.reduceLeDiff, Int.reducePow, Int.reduceBEq, Int.reduceBNe, Int.reduceDiv, Int.reduceMod, Int.reduceEq, Int.reduceLT, Int.reduceLE, Int.reduceAdd, Int.reduceSub, Int.reduceMul, Int.reduceNeg, Int.reduceToNat, Int.reduceTDiv, Int.reduceTMod, ↓reduceIte, h2, h3, h8, h10, q0, q1, kd, kd0, Int.toNat_natCast, Nat.zero_add, Nat.add_zero, old_get kb, kb, la, lb, lc, ld, old_ne kb, old_ne' kb, old_ne0 kb, old_ne0' kb]
    obtain ⟨u, hu⟩ : ∃ u, (cap == 1) = u := ⟨_, rfl⟩
    obtain ⟨v0, hv0⟩ : ∃ u, ((i : Int) == 0) = u := ⟨_, rfl⟩
    obtain ⟨v1, hv1⟩ : ∃ u, ((i : Int) == ((r.length - 1 : Nat) : Int)) = u := ⟨_, rfl⟩
    have s1 := small_p (n := qs.length) (k := 1) (by omega) (by omega)
    cases u
    case' true =>
      cases c
      case' false => cases v0 <;> cases v1
    all_goals
      simp only [go_sem, Nat.reduceEqDiff, Nat.reduceAdd, Nat.reduceSub, Nat.reduceMul, Nat.reduceLT, Nat.reduceLeDiff, Int.reducePow, Int.reduceBEq, Int.reduceBNe, Int.reduceDiv, Int.reduceMod, Int.reduceEq, Int.reduceLT, Int.reduceLE, Int.reduceAdd, Int.reduceSub, Int.reduceMul, Int.reduceNeg, Int.reduceToNat, Int.reduceTDiv, Int.reduceTMod, ↓reduceIte, h2, h3, h8, h10, hu, hv0, hv1, w2, old_get km, km, kd, kd0]
      repeat ((first | refine (rplus_ _ _ _ _).x ?_ | refine drawnF ?_ (by decide +kernel) | refine drawnU [(5, 12), (6, 12), (7, 12), (8, 12), (9, 12)] (by decide +kernel) ?_ | refine drawnU [(0, 7), (7, 8), (7, 9), (7, 10), (7, 11), (7, 12), (7, 13), (0, 14), (7, 15), (14, 15), (7, 16), (14, 16), (7, 17), (14, 17), (7, 18), (14, 18), (7, 19), (14, 19), (7, 20), (14, 20), (0, 21), (7, 22), (14, 22), (21, 22), (7, 23), (14, 23), (21, 23), (7, 24), (14, 24), (21, 24), (7, 25), (14, 25), (21, 25), (7, 26), (14, 26), (21, 26), (7, 27), (14, 27), (21, 27), (0, 28), (0, 30)] (by decide +kernel) ?_ | refine drawnU [(0, 10)] (by decide +kernel) ?_); simp only [go_sem, Nat.reduceEqDiff, Nat.reduceAdd, Nat.reduceSub, Nat.reduceMul, Nat.reduceLT, Nat.reduceLeDiff, Int.reducePow, Int.reduceBEq, Int.reduceBNe, Int.reduceDiv, Int.reduceMod, Int.reduceEq, Int.reduceLT, Int.reduceLE, Int.reduceAdd, Int.reduceSub, Int.reduceMul, Int.reduceNeg, Int.reduceToNat, Int.reduceTDiv, Int.reduceTMod, ↓reduceIte, h2, h3, h8, h10, hu, hv0, hv1, w2, old_get km, km, kd, kd0, q0, q1, Int.toNat_natCast, Nat.zero_add, Nat.add_zero, old_get kb, kb, la, lc, ld, ptv])
      refine (rshape_ [_, _, _, _] _ _ (.inr ⟨K.length + 2, 0, [], true, rfl, by rw [hget_app]; rfl, by simp⟩) (by simp)).x ?_
      rintro v H1 W1 ⟨rfl, ⟨L1, rfl⟩, pv1, q, rfl, hq1, hl1, hb1⟩
      obtain ⟨a1, e1, hqe⟩ := hq1.form
      subst hqe
      have hsm : SmallP (true, q) := ⟨by show q.length ≤ 1000; rw [hl1]; simp, fun p hp => by
        obtain ⟨z, hz, rfl⟩ := hb1 p hp
        refine plp_bd (by omega) ?_
        simp only [List.mem_cons, List.not_mem_nil, or_false] at hz
        rcases hz with rfl | rfl | rfl | rfl <;> first | exact eb1 | exact eb2 | exact eb3 | exact eb4 | exact eb5 | exact eb6 | exact eb7 | exact eb8⟩
      rcases hO with ⟨ho, h9⟩ | ⟨bo, go, vo, hbo, h9, hbk, hov⟩
      · simp only [go_sem, Nat.reduceEqDiff, Nat.reduceAdd, Nat.reduceSub, Nat.reduceMul, Nat.reduceLT, Nat.reduceLeDiff, Int.reducePow, Int.reduceBEq, Int.reduceBNe, Int.reduceDiv, Int.reduceMod, Int.reduceEq, Int.reduceLT, Int.reduceLE, Int.reduceAdd, Int.reduceSub, Int.reduceMul, Int.reduceNeg, Int.reduceToNat, Int.reduceTDiv, Int.reduceTMod, ↓reduceIte, h2, h3, h8, h10, h9, w1, poly, List.append_assoc, List.cons_append, List.nil_append, kd, kd0]
        exact ⟨k - 1, by omega, i + 1, [(true, q)], by omega, hold.app _, by omega, hve.symm, rfl, OutP.first hq1 (old_pre (by simp only [List.append_assoc, List.cons_append, List.nil_append]; exact ⟨_, rfl⟩)) (by first | omega | (simp; done) | (simp; omega)) (by rw [hget_app]; show (L1 ++ _)[L1.length + 1]? = _; rw [hget_app]; rfl) (by first | omega | (simp; done) | (simp; omega)) (by omega), by simp, by simpa using hsm⟩
      · have hco : (plC vo).length = qs.length * 2 := by rw [plC_len, hov.1]
        simp only [go_sem, Nat.reduceEqDiff, Nat.reduceAdd, Nat.reduceSub, Nat.reduceMul, Nat.reduceLT, Nat.reduceLeDiff, Int.reducePow, Int.reduceBEq, Int.reduceBNe, Int.reduceDiv, Int.reduceMod, Int.reduceEq, Int.reduceLT, Int.reduceLE, Int.reduceAdd, Int.reduceSub, Int.reduceMul, Int.reduceNeg, Int.reduceToNat, Int.reduceTDiv, Int.reduceTMod, ↓reduceIte, h2, h3, h8, h10, h9, w1, poly, List.append_assoc, List.cons_append, List.nil_append, kd, kd0, old_get hbk, old_set hbk, hco, s1.1, s1.2, df (show ¬ bo < H.length by omega)]
        exact ⟨k - 1, by omega, i + 1, qs ++ [(true, q)], by omega, hold.olx (Olx.set1 bo K _ _) (by omega), by omega, hve.symm, rfl, OutP.next hov hbo (Olx.set1 bo K _ _) hq1 (olx_pre (List.getElem?_eq_some_iff.1 hbk).1 (by simp only [List.append_assoc, List.cons_append, List.nil_append]; exact ⟨_, _, rfl, rfl⟩)) (by have := (List.getElem?_eq_some_iff.1 hbk).1; first | omega | (simp; omega)) (old_sget hbk _ _), by rw [List.length_append]; simp; omega, fun x hx => (List.mem_append.1 hx).elim (hqs x) (fun h => by rw [List.mem_singleton.1 h]; exact hsm)⟩
  have hi : i = r.length := by omega
  subst hi
  simp only [go_sem, Nat.reduceEqDiff, Nat.reduceAdd, Nat.reduceSub, Nat.reduceMul, Nat.reduceLT, Nat.reduceLeDiff, Int.reducePow, Int.reduceBEq, Int.reduceBNe, Int.reduceDiv, Int.reduceMod, Int.reduceEq, Int.reduceLT, Int.reduceLE, Int.reduceAdd, Int.reduceSub, Int.reduceMul, Int.reduceNeg, Int.reduceToNat, Int.reduceTDiv, Int.reduceTMod, ↓reduceIte, h2, h3, h8, h10, df (show ¬ ((r.length : Nat) : Int) < (r.length : Int) by omega), kd, kd0]
  refine keep (fun k T K D => D = [] ∧ ∃ (i : Nat) (qs : List PL), i + k = r.length + 1 ∧ 1 ≤ i ∧ Old K0 K ∧ K0.length ≤ K.length ∧ T 3 = ap H.length 0 0 ∧ T 8 = .slice ra r.length re ∧ T 13 = .int .i64 (i : Int) ∧ OutP K0.length K (T 9) qs ∧ qs.length + 2 ≤ r.length + 2 * i ∧ ∀ x ∈ qs, SmallP x) r.length
    ⟨rfl, 1, qs, by omega, by omega, hold, by omega, by simp only [go_sem, Nat.reduceEqDiff, Nat.reduceAdd, Nat.reduceSub, Nat.reduceMul, Nat.reduceLT, Nat.reduceLeDiff, Int.reducePow, Int.reduceBEq, Int.reduceBNe, Int.reduceDiv, Int.reduceMod, Int.reduceEq, Int.reduceLT, Int.reduceLE, Int.reduceAdd, Int.reduceSub, Int.reduceMul, Int.reduceNeg, Int.reduceToNat, Int.reduceTDiv, Int.reduceTMod, ↓reduceIte, h3], by simp only [go_sem, Nat.reduceEqDiff, Nat.reduceAdd, Nat.reduceSub, Nat.reduceMul, Nat.reduceLT, Nat.reduceLeDiff, Int.reducePow, Int.reduceBEq, Int.reduceBNe, Int.reduceDiv, Int.reduceMod, Int.reduceEq, Int.reduceLT, Int.reduceLE, Int.reduceAdd, Int.reduceSub, Int.reduceMul, Int.reduceNeg, Int.reduceToNat, Int.reduceTDiv, Int.reduceTMod, ↓reduceIte, h8], by simp only [go_sem, Nat.reduceEqDiff, Nat.reduceAdd, Nat.reduceSub, Nat.reduceMul, Nat.reduceLT, Nat.reduceLeDiff, Int.reducePow, Int.reduceBEq, Int.reduceBNe, Int.reduceDiv, Int.reduceMod, Int.reduceEq, Int.reduceLT, Int.reduceLE, Int.reduceAdd, Int.reduceSub, Int.reduceMul, Int.reduceNeg, Int.reduceToNat, Int.reduceTDiv, Int.reduceTMod, ↓reduceIte] <;> rfl, by simp only [go_sem, Nat.reduceEqDiff, Nat.reduceAdd, Nat.reduceSub, Nat.reduceMul, Nat.reduceLT, Nat.reduceLeDiff, Int.reducePow, Int.reduceBEq, Int.reduceBNe, Int.reduceDiv, Int.reduceMod, Int.reduceEq, Int.reduceLT, Int.reduceLE, Int.reduceAdd, Int.reduceSub, Int.reduceMul, Int.reduceNeg, Int.reduceToNat, Int.reduceTDiv, Int.reduceTMod, ↓reduceIte] <;> exact hO, by omega, hqs⟩ ?_
  clear hold hKl h2 h3 h8 h10 hO hql hqs km kd kd0 w1 hk
  rintro k T K D ⟨rfl, i, qs, hik, hi1, hold, hKl, h3, h8, h13, hO, hql, hqs⟩
  have km := hold _ _ h0
  have kd : ∀ n, decide (K.length + n < H.length) = false := fun n => df (by omega)
  have kd0 : decide (K.length < H.length) = false := df (by omega)
  have w1 : IntKind.i64.wrap ((i : Int) + 1) = ((i + 1 : Nat) : Int) := by rw [wi (by omega) (by omega)]; rfl
  have w2 : IntKind.i64.wrap ((i : Int) - 1) = ((i - 1 : Nat) : Int) := by rw [wi (by omega) (by omega)]; omega
  have w3 : IntKind.i64.wrap ((r.length : Int) - 1) = ((r.length - 1 : Nat) : Int) ∨ r.length = 0 := by
    by_cases h : r.length = 0
    · exact .inr h
    · left; rw [wi (by omega) (by omega)]; omega
  have s1 := small_p (n := qs.length) (k := 2) (by omega) (by omega)
  by_cases hk : i < r.length
  · obtain ⟨b, g, hbn, hve, hb⟩ := hr.resolve_left (fun e => by rw [e.1] at hk; simp at hk)
    have kb := hold _ _ hb
    rw [hve] at h8
    obtain ⟨n1, hn1, _⟩ := getD_some (show i - 1 < r.length by omega)
    obtain ⟨n2, hn2, _⟩ := getD_some hk
    have l1 := fun (c : Nat) => ald_ln (b := c) (g := g) hn1
    have hm1 := hrB n1 (List.mem_of_getElem? hn1)
    have hm2 := hrB n2 (List.mem_of_getElem? hn2)
    have l2 := fun (c : Nat) => ald_ln (b := c) (g := g) hn2
    have q0 : ∀ x : Nat, (0 : Int) ≤ (x : Int) := fun x => by omega
    have q1 : (i : Int) < (r.length : Int) := by omega
    have q2 : ((i - 1 : Nat) : Int) < (r.length : Int) := by omega
    rcases hO with ⟨ho, h9⟩ | ⟨bo, go, vo, hbo, h9, hbk, hov⟩
    · simp only [go_sem, Nat.reduceEqDiff, Nat.reduceAdd, Nat.reduceSub, Nat.reduceMul, Nat.reduceLT, Nat.reduceLeDiff, Int.reducePow, Int.reduceBEq, Int.reduceBNe, Int.reduceDiv, Int.reduceMod, Int.reduceEq, Int.reduceLT, Int.reduceLE, Int.reduceAdd, Int.reduceSub, Int.reduceMul, Int.reduceNeg, Int.reduceToNat, Int.reduceTDiv, Int.reduceTMod, ↓reduceIte, h3, h8, h13, h9, dt q1]
      repeat ((first | refine (rjoint_ n1 n2 hm1 hm2 _).x ?_ | refine drawnF ?_ (by decide +kernel) | refine drawnU [(5, 12), (6, 12), (7, 12), (8, 12), (9, 12)] (by decide +kernel) ?_ | refine drawnU [(0, 7), (7, 8), (7, 9), (7, 10), (7, 11), (7, 12), (7, 13), (0, 14), (7, 15), (14, 15), (7, 16), (14, 16), (7, 17), (14, 17), (7, 18), (14, 18), (7, 19), (14, 19), (7, 20), (14, 20), (0, 21), (7, 22), (14, 22), (21, 22), (7, 23), (14, 23), (21, 23), (7, 24), (14, 24), (21, 24), (7, 25), (14, 25), (21, 25), (7, 26), (14, 26), (21, 26), (7, 27), (14, 27), (21, 27), (0, 28), (0, 30)] (by decide +kernel) ?_ | refine drawnU [(0, 10)] (by decide +kernel) ?_); simp only [go_sem, Nat.reduceEqDiff, Nat.reduceAdd, Nat.reduceSub, Nat.reduceMul, Nat.reduceLT, Nat.reduceLeDiff, Int.reducePow, Int.reduceBEq, Int.reduceBNe, Int.reduceDiv, Int.reduceMod, Int.reduceEq, Int.reduceLT, Int.reduceLE, Int.reduceAdd, Int.reduceSub, Int.reduceMul, Int.reduceNeg, Int.reduceToNat, Int.reduceTDiv, Int.reduceTMod, ↓reduceIte, h3, h8, h13, h9, w2, q0, q1, q2, Int.toNat_natCast, Nat.zero_add, kb, l1, l2])
      rintro v H1 W1 ⟨rfl, ⟨L1, rfl⟩, js, hj, hjl, hjs⟩
      obtain ⟨bj, gj, vj, hbj, hve', hbk', hov'⟩ := hj.resolve_left (fun e => by rw [e.1] at hjl; simp at hjl)
      subst hve'
      have p4 : (plC vj).length = 4 := by rw [plC_len, hov'.1, hjl]
      have t4 : (plC vj).take 4 = plC vj := List.take_of_length_le (by omega)
      rw [hjl]
      simp only [go_sem, Nat.reduceEqDiff, Nat.reduceAdd, Nat.reduceSub, Nat.reduceMul, Nat.reduceLT, Nat.reduceLeDiff, Int.reducePow, Int.reduceBEq, Int.reduceBNe, Int.reduceDiv, Int.reduceMod, Int.reduceEq, Int.reduceLT, Int.reduceLE, Int.reduceAdd, Int.reduceSub, Int.reduceMul, Int.reduceNeg, Int.reduceToNat, Int.reduceTDiv, Int.reduceTMod, ↓reduceIte, h3, h8, h13, h9, w1, hbk', p4, t4, kd, kd0]
      exact ⟨k - 1, by omega, i + 1, js, by omega, by omega, hold.app _, by omega, hve.symm, rfl, OutP.firsts hov' (old_pre (by simp only [List.append_assoc]; exact ⟨_, rfl⟩)) (by omega) hjl (last2 _ _ _ _ rfl) (by simp) (by omega), by omega, hjs⟩
    · simp only [go_sem, Nat.reduceEqDiff, Nat.reduceAdd, Nat.reduceSub, Nat.reduceMul, Nat.reduceLT, Nat.reduceLeDiff, Int.reducePow, Int.reduceBEq, Int.reduceBNe, Int.reduceDiv, Int.reduceMod, Int.reduceEq, Int.reduceLT, Int.reduceLE, Int.reduceAdd, Int.reduceSub, Int.reduceMul, Int.reduceNeg, Int.reduceToNat, Int.reduceTDiv, Int.reduceTMod, ↓reduceIte, h3, h8, h13, h9, dt q1]
      repeat ((first | refine (rjoint_ n1 n2 hm1 hm2 _).x ?_ | refine drawnF ?_ (by decide +kernel) | refine drawnU [(5, 12), (6, 12), (7, 12), (8, 12), (9, 12)] (by decide +kernel) ?_ | refine drawnU [(0, 7), (7, 8), (7, 9), (7, 10), (7, 11), (7, 12), (7, 13), (0, 14), (7, 15), (14, 15), (7, 16), (14, 16), (7, 17), (14, 17), (7, 18), (14, 18), (7, 19), (14, 19), (7, 20), (14, 20), (0, 21), (7, 22), (14, 22), (21, 22), (7, 23), (14, 23), (21, 23), (7, 24), (14, 24), (21, 24), (7, 25), (14, 25), (21, 25), (7, 26), (14, 26), (21, 26), (7, 27), (14, 27), (21, 27), (0, 28), (0, 30)] (by decide +kernel) ?_ | refine drawnU [(0, 10)] (by decide +kernel) ?_); simp only [go_sem, Nat.reduceEqDiff, Nat.reduceAdd, Nat.reduceSub, Nat.reduceMul, Nat.reduceLT, Nat.reduceLeDiff, Int.reducePow, Int.reduceBEq, Int.reduceBNe, Int.reduceDiv, Int.reduceMod, Int.reduceEq, Int.reduceLT, Int.reduceLE, Int.reduceAdd, Int.reduceSub, Int.reduceMul, Int.reduceNeg, Int.reduceToNat, Int.reduceTDiv, Int.reduceTMod, ↓reduceIte, h3, h8, h13, h9, w2, q0, q1, q2, Int.toNat_natCast, Nat.zero_add, kb, l1, l2])
      rintro v H1 W1 ⟨rfl, ⟨L1, rfl⟩, js, hj, hjl, hjs⟩
      obtain ⟨bj, gj, vj, hbj, hve', hbk', hov'⟩ := hj.resolve_left (fun e => by rw [e.1] at hjl; simp at hjl)
      subst hve'
      have p4 : (plC vj).length = 4 := by rw [plC_len, hov'.1, hjl]
      have t4 : (plC vj).take 4 = plC vj := List.take_of_length_le (by omega)
      have hco : (plC vo).length = qs.length * 2 := by rw [plC_len, hov.1]
      rw [hjl]
      simp only [go_sem, Nat.reduceEqDiff, Nat.reduceAdd, Nat.reduceSub, Nat.reduceMul, Nat.reduceLT, Nat.reduceLeDiff, Int.reducePow, Int.reduceBEq, Int.reduceBNe, Int.reduceDiv, Int.reduceMod, Int.reduceEq, Int.reduceLT, Int.reduceLE, Int.reduceAdd, Int.reduceSub, Int.reduceMul, Int.reduceNeg, Int.reduceToNat, Int.reduceTDiv, Int.reduceTMod, ↓reduceIte, h3, h8, h13, h9, w1, hbk', p4, t4, kd, kd0, old_get hbk, old_set hbk, hco, s1.1, s1.2, df (show ¬ bo < H.length by omega)]
      have hbl := (List.getElem?_eq_some_iff.1 hbk).1
      exact ⟨k - 1, by omega, i + 1, qs ++ js, by omega, by omega, hold.olx (Olx.set1 bo K _ _) (by omega), by omega, hve.symm, rfl, OutP.nexts hov hbo (Olx.set1 bo K _ _) hov' (olx_pre hbl ⟨L1, [], rfl, by rw [List.append_nil]⟩) hbl (by omega) hjl (old_sget hbk _ _), by rw [List.length_append]; omega, fun x hx => (List.mem_append.1 hx).elim (hqs x) (hjs x)⟩
  cases c with
  | false =>
    simp only [go_sem, Nat.reduceEqDiff, Nat.reduceAdd, Nat.reduceSub, Nat.reduceMul, Nat.reduceLT, Nat.reduceLeDiff, Int.reducePow, Int.reduceBEq, Int.reduceBNe, Int.reduceDiv, Int.reduceMod, Int.reduceEq, Int.reduceLT, Int.reduceLE, Int.reduceAdd, Int.reduceSub, Int.reduceMul, Int.reduceNeg, Int.reduceToNat, Int.reduceTDiv, Int.reduceTMod, ↓reduceIte, h3, h8, h13, df (show ¬ (i : Int) < (r.length : Int) by omega), old_get km, km]
    exact ⟨qs, hO.low (by omega), by omega, hqs⟩
  | true =>
    by_cases h2l : 2 ≤ r.length
    · obtain ⟨b, g, hbn, hve, hb⟩ := hr.resolve_left (fun e => by rw [e.1] at h2l; simp at h2l)
      have kb := hold _ _ hb
      rw [hve] at h8
      obtain ⟨n1, hn1, _⟩ := getD_some (show r.length - 1 < r.length by omega)
      obtain ⟨n2, hn2, _⟩ := getD_some (show 0 < r.length by omega)
      have l1 := fun (c : Nat) => ald_ln (b := c) (g := g) hn1
      have hm1 := hrB n1 (List.mem_of_getElem? hn1)
      have hm2 := hrB n2 (List.mem_of_getElem? hn2)
      have l2 := fun (c : Nat) => ald_ln (b := c) (g := g) hn2
      rw [Nat.zero_mul] at l2
      have w3 := w3.resolve_right (by omega)
      have q0 : ∀ x : Nat, (0 : Int) ≤ (x : Int) := fun x => by omega
      have q1 : (0 : Int) < (r.length : Int) := by omega
      have q2 : ((r.length - 1 : Nat) : Int) < (r.length : Int) := by omega
      rcases hO with ⟨ho, h9⟩ | ⟨bo, go, vo, hbo, h9, hbk, hov⟩
      · simp only [go_sem, Nat.reduceEqDiff, Nat.reduceAdd, Nat.reduceSub, Nat.reduceMul, Nat.reduceLT, Nat.reduceLeDiff, Int.reducePow, Int.reduceBEq, Int.reduceBNe, Int.reduceDiv, Int.reduceMod, Int.reduceEq, Int.reduceLT, Int.reduceLE, Int.reduceAdd, Int.reduceSub, Int.reduceMul, Int.reduceNeg, Int.reduceToNat, Int.reduceTDiv, Int.reduceTMod, ↓reduceIte, h3, h8, h13, h9, df (show ¬ (i : Int) < (r.length : Int) by omega), old_get km, km, dt (show (2 : Int) ≤ (r.length : Int) by omega)]
        repeat ((first | refine (rjoint_ n1 n2 hm1 hm2 _).x ?_ | refine drawnF ?_ (by decide +kernel) | refine drawnU [(5, 12), (6, 12), (7, 12), (8, 12), (9, 12)] (by decide +kernel) ?_ | refine drawnU [(0, 7), (7, 8), (7, 9), (7, 10), (7, 11), (7, 12), (7, 13), (0, 14), (7, 15), (14, 15), (7, 16), (14, 16), (7, 17), (14, 17), (7, 18), (14, 18), (7, 19), (14, 19), (7, 20), (14, 20), (0, 21), (7, 22), (14, 22), (21, 22), (7, 23), (14, 23), (21, 23), (7, 24), (14, 24), (21, 24), (7, 25), (14, 25), (21, 25), (7, 26), (14, 26), (21, 26), (7, 27), (14, 27), (21, 27), (0, 28), (0, 30)] (by decide +kernel) ?_ | refine drawnU [(0, 10)] (by decide +kernel) ?_); simp only [go_sem, Nat.reduceEqDiff, Nat.reduceAdd, Nat.reduceSub, Nat.reduceMul, Nat.reduceLT, Nat.reduceLeDiff, Int.reducePow, Int.reduceBEq, Int.reduceBNe, Int.reduceDiv, Int.reduceMod, Int.reduceEq, Int.reduceLT, Int.reduceLE, Int.reduceAdd, Int.reduceSub, Int.reduceMul, Int.reduceNeg, Int.reduceToNat, Int.reduceTDiv, Int.reduceTMod, ↓reduceIte, h3, h8, h13, h9, w3, q0, q1, q2, Int.toNat_natCast, Nat.zero_add, Nat.zero_mul, Int.reduceToNat, kb, l1, l2])
        rintro v H1 W1 ⟨rfl, ⟨L1, rfl⟩, js, hj, hjl, hjs⟩
        obtain ⟨bj, gj, vj, hbj, hve', hbk', hov'⟩ := hj.resolve_left (fun e => by rw [e.1] at hjl; simp at hjl)
        subst hve'
        have p4 : (plC vj).length = 4 := by rw [plC_len, hov'.1, hjl]
        have t4 : (plC vj).take 4 = plC vj := List.take_of_length_le (by omega)
        rw [hjl]
        simp only [go_sem, Nat.reduceEqDiff, Nat.reduceAdd, Nat.reduceSub, Nat.reduceMul, Nat.reduceLT, Nat.reduceLeDiff, Int.reducePow, Int.reduceBEq, Int.reduceBNe, Int.reduceDiv, Int.reduceMod, Int.reduceEq, Int.reduceLT, Int.reduceLE, Int.reduceAdd, Int.reduceSub, Int.reduceMul, Int.reduceNeg, Int.reduceToNat, Int.reduceTDiv, Int.reduceTMod, ↓reduceIte, h3, h8, h13, h9, hbk', p4, t4, kd, kd0]
        exact ⟨js, (OutP.firsts hov' (old_pre (by simp only [List.append_assoc]; exact ⟨_, rfl⟩)) (n0 := K0.length) (by omega) hjl (last2 _ _ _ _ rfl) (by simp) (by omega)).low (by omega), by omega, hjs⟩
      · simp only [go_sem, Nat.reduceEqDiff, Nat.reduceAdd, Nat.reduceSub, Nat.reduceMul, Nat.reduceLT, Nat.reduceLeDiff, Int.reducePow, Int.reduceBEq, Int.reduceBNe, Int.reduceDiv, Int.reduceMod, Int.reduceEq, Int.reduceLT, Int.reduceLE, Int.reduceAdd, Int.reduceSub, Int.reduceMul, Int.reduceNeg, Int.reduceToNat, Int.reduceTDiv, Int.reduceTMod, ↓reduceIte, h3, h8, h13, h9, df (show ¬ (i : Int) < (r.length : Int) by omega), old_get km, km, dt (show (2 : Int) ≤ (r.length : Int) by omega)]
        repeat ((first | refine (rjoint_ n1 n2 hm1 hm2 _).x ?_ | refine drawnF ?_ (by decide +kernel) | refine drawnU [(5, 12), (6, 12), (7, 12), (8, 12), (9, 12)] (by decide +kernel) ?_ | refine drawnU [(0, 7), (7, 8), (7, 9), (7, 10), (7, 11), (7, 12), (7, 13), (0, 14), (7, 15), (14, 15), (7, 16), (14, 16), (7, 17), (14, 17), (7, 18), (14, 18), (7, 19), (14, 19), (7, 20), (14, 20), (0, 21), (7, 22), (14, 22), (21, 22), (7, 23), (14, 23), (21, 23), (7, 24), (14, 24), (21, 24), (7, 25), (14, 25), (21, 25), (7, 26), (14, 26), (21, 26), (7, 27), (14, 27), (21, 27), (0, 28), (0, 30)] (by decide +kernel) ?_ | refine drawnU [(0, 10)] (by decide +kernel) ?_); simp only [go_sem, Nat.reduceEqDiff, Nat.reduceAdd, Nat.reduceSub, Nat.reduceMul, Nat.reduceLT, Nat.reduceLeDiff, Int.reducePow, Int.reduceBEq, Int.reduceBNe, Int.reduceDiv, Int.reduceMod, Int.reduceEq, Int.reduceLT, Int.reduceLE, Int.reduceAdd, Int.reduceSub, Int.reduceMul, Int.reduceNeg, Int.reduceToNat, Int.reduceTDiv, Int.reduceTMod, ↓reduceIte, h3, h8, h13, h9, w3, q0, q1, q2, Int.toNat_natCast, Nat.zero_add, Nat.zero_mul, Int.reduceToNat, kb, l1, l2])
        rintro v H1 W1 ⟨rfl, ⟨L1, rfl⟩, js, hj, hjl, hjs⟩
        obtain ⟨bj, gj, vj, hbj, hve', hbk', hov'⟩ := hj.resolve_left (fun e => by rw [e.1] at hjl; simp at hjl)
        subst hve'
        have p4 : (plC vj).length = 4 := by rw [plC_len, hov'.1, hjl]
        have t4 : (plC vj).take 4 = plC vj := List.take_of_length_le (by omega)
        have hco : (plC vo).length = qs.length * 2 := by rw [plC_len, hov.1]
        rw [hjl]
        simp only [go_sem, Nat.reduceEqDiff, Nat.reduceAdd, Nat.reduceSub, Nat.reduceMul, Nat.reduceLT, Nat.reduceLeDiff, Int.reducePow, Int.reduceBEq, Int.reduceBNe, Int.reduceDiv, Int.reduceMod, Int.reduceEq, Int.reduceLT, Int.reduceLE, Int.reduceAdd, Int.reduceSub, Int.reduceMul, Int.reduceNeg, Int.reduceToNat, Int.reduceTDiv, Int.reduceTMod, ↓reduceIte, h3, h8, h13, h9, hbk', p4, t4, kd, kd0, old_get hbk, old_set hbk, hco, s1.1, s1.2, df (show ¬ bo < H.length by omega)]
        have hbl := (List.getElem?_eq_some_iff.1 hbk).1
        exact ⟨qs ++ js, (OutP.nexts hov hbo (Olx.set1 bo K _ _) hov' (olx_pre hbl ⟨L1, [], rfl, by rw [List.append_nil]⟩) hbl (by omega) hjl (old_sget hbk _ _)).low (by omega), by rw [List.length_append]; omega, fun x hx => (List.mem_append.1 hx).elim (hqs x) (hjs x)⟩
    · simp only [go_sem, Nat.reduceEqDiff, Nat.reduceAdd, Nat.reduceSub, Nat.reduceMul, Nat.reduceLT, Nat.reduceLeDiff, Int.reducePow, Int.reduceBEq, Int.reduceBNe, Int.reduceDiv, Int.reduceMod, Int.reduceEq, Int.reduceLT, Int.reduceLE, Int.reduceAdd, Int.reduceSub, Int.reduceMul, Int.reduceNeg, Int.reduceToNat, Int.reduceTDiv, Int.reduceTMod, ↓reduceIte, h3, h8, h13, df (show ¬ (i : Int) < (r.length : Int) by omega), old_get km, km, df (show ¬ (2 : Int) ≤ (r.length : Int) by omega)]
      exact ⟨qs, hO.low (by omega), by omega, hqs⟩
end Go.Proofs.Ythoclopeajkcpaa
/- The walk of rows of polys that a tape makes. -/
namespace Go.Proofs.Ythoclopeajkcpaa
open Go Go.RowKit E
attribute [local irreducible] XRun XOps XCode XCal XLoop XQ SemCall
set_option linter.unusedSimpArgs false
set_option linter.unusedVariables false
theorem PtsF.olt {n0 bad tb : Nat} {K J : AH} {pv : Value} {l : List Pt} (h : PtsF n0 bad K pv l) (ht : tb < n0) (o : Olx tb K J) : PtsF n0 bad J pv l := by
  rcases h with h | ⟨b, g, rest, rw_, h0, h0', h1, h2, h3⟩
  · exact .inl h
  · exact .inr ⟨b, g, rest, rw_, h0, h0', h1, o _ _ (by omega) h2, h3⟩
theorem OutP.olt {n0 tb : Nat} {K J : AH} {v : Value} {qs : List PL} (h : OutP n0 K v qs) (ht : tb < n0) (o : Olx tb K J) : OutP n0 J v qs := by
  rcases h with h | ⟨b, g, vs, h0, h2, h3, h4⟩
  · exact .inl h
  · exact .inr ⟨b, g, vs, h0, h2, o _ _ (by omega) h3, h4.mono fun _ _ p => p.olt ht o⟩
theorem OutP.old {n0 : Nat} {K J : AH} {v : Value} {qs : List PL} (h : OutP n0 K v qs) (o : Old K J) : OutP n0 J v qs := by
  rcases h with h | ⟨b, g, vs, h0, h2, h3, h4⟩
  · exact .inl h
  · exact .inr ⟨b, g, vs, h0, h2, o _ _ h3, h4.mono fun _ _ p => p.old o⟩
theorem flatGo_bd : ∀ (n : Nat) (l : List Pt), l.length ≤ n → (∀ p ∈ l, Bp p) → ∀ p ∈ flatGo l, Bd 1048576 p
  | 0, l, h, _, p, hp => by obtain rfl := List.eq_nil_of_length_eq_zero (Nat.le_zero.1 h); simp [flatGo] at hp
  | n + 1, l, h, hB, p, hp => by
    match l, h, hB, hp with
    | [], _, _, hp => simp [flatGo] at hp
    | [_], _, _, hp => simp [flatGo] at hp
    | [_, _], _, _, hp => simp [flatGo] at hp
    | [_, _, _], _, _, hp => simp [flatGo] at hp
    | a :: b :: c :: d :: t, h, hB, hp =>
      have e : flatGo (a :: b :: c :: d :: t) = (if b = a ∧ c = d then [d] else bentL 3 a b c d) ++ flatGo (d :: t) := rfl
      have ha := hB a (by simp)
      have hb := hB b (by simp)
      have hc := hB c (by simp)
      have hd := hB d (by simp)
      rw [e, List.mem_append] at hp
      rcases hp with hp | hp
      · split at hp
        · simp at hp; subst hp; exact ⟨⟨by omega, by omega⟩, by omega, by omega⟩
        · exact ⟨bent_in 3 a b c d _ _ (by omega) (by omega) (by omega) (by omega) p hp, bent_in2 3 a b c d _ _ (by omega) (by omega) (by omega) (by omega) p hp⟩
      · exact flatGo_bd n (d :: t) (by simp at h ⊢; omega) (fun x hx => hB x (by simp at hx ⊢; rcases hx with rfl | hx <;> simp [*])) p hp
theorem fL_b (c : Bool) (l : List Pt) (hB : ∀ p ∈ l, Bp p) : ∀ p ∈ fL c l, Bd 1048576 p := by
  intro p hp
  unfold fL at hp
  split at hp
  · cases l with
    | nil => simp [flatL] at hp
    | cons x t =>
      simp only [flatL, List.mem_cons] at hp
      rcases hp with rfl | hp
      · have := hB p (by simp); exact ⟨⟨by omega, by omega⟩, by omega, by omega⟩
      · exact flatGo_bd _ _ (Nat.le_refl _) hB p hp
  · simp at hp
theorem Ints.olx {H K : AH} {tb : Nat} {lv : Value} {ls : List Int} (h : Ints H tb lv ls) (o : Olx tb H K) : Ints K tb lv ls := by
  rcases h with h | ⟨b, g, rest, rw_, e1, hne, hb, hl⟩
  · exact .inl h
  · exact .inr ⟨b, g, rest, rw_, e1, hne, o b _ hne hb, hl⟩
theorem tape_re {H K J : AH} {tb bo g : Nat} {lv : Value} {ls : List Int} (h : TapeAt H tb g lv ls) (hT : TapeAt K tb g lv ls) (o : Olx tb H J) (o2 : Olx bo K J) (hne : tb ≠ bo) : TapeAt J tb g lv ls := by
  obtain ⟨_, a, h1, h2, h3⟩ := hT
  exact ⟨_root_.Go.Proofs.Ythoclopeajkcpaa.Ints.olx h.1 o, a, h1, h2, o2 _ _ hne h3⟩
abbrev PolyB (x : PL) : Prop := x.2.length ≤ 1000 ∧ ∀ p ∈ x.2, Bd 2097152 p
set_option maxHeartbeats 4000000 in
theorem polysOf_ (H : AH) {tb g : Nat} {lv : Value} {ls : List Int} (h : TapeAt H tb g lv ls) : Cal Try.prog 31 [ap tb 0 g] H fun v H' W => SameW W [tb] ∧ Olx tb H H' ∧ H.length ≤ H'.length ∧ ∃ ps, Polys H' v ps ∧ ps.length ≤ 20000 ∧ ∀ x ∈ ps, PolyB x := by
  have htb := h.lt
  have dtb : decide (tb < H.length) = true := dt htb
  refine of_x ?_
  refine XCal.of hm Try.func31 rfl (fun xs w => Try.call31 xs w) Try.ntmps31 Try.results31 rfl ?_
  simp only [go_sem, Nat.reduceEqDiff, Nat.reduceAdd, Nat.reduceSub, Nat.reduceMul, Nat.reduceLT, Nat.reduceLeDiff, Int.reducePow, Int.reduceBEq, Int.reduceBNe, Int.reduceDiv, Int.reduceMod, Int.reduceEq, Int.reduceLT, Int.reduceLE, Int.reduceAdd, Int.reduceSub, Int.reduceMul, Int.reduceNeg, Int.reduceToNat, Int.reduceTDiv, Int.reduceTMod, ↓reduceIte]
  refine (next_ 4 (by omega) _ h).x ?_
  rintro v H1 W1 ⟨⟨q, a1⟩, ⟨q0, q1, a0, a2⟩, rfl, rfl, rfl⟩
  have q0 : 0 ≤ q := q0
  have q1 : q < 4 := q1
  have hT := h.set (at_ := a1) a0 a2
  have hO1 := Olx.set0 tb H (tblk lv g a1)
  have hL1 : H.length ≤ (H.set tb (tblk lv g a1)).length := by simp
  generalize H.set tb (tblk lv g a1) = K0 at *
  simp only [go_sem, Nat.reduceEqDiff, Nat.reduceAdd, Nat.reduceSub, Nat.reduceMul, Nat.reduceLT, Nat.reduceLeDiff, Int.reducePow, Int.reduceBEq, Int.reduceBNe, Int.reduceDiv, Int.reduceMod, Int.reduceEq, Int.reduceLT, Int.reduceLE, Int.reduceAdd, Int.reduceSub, Int.reduceMul, Int.reduceNeg, Int.reduceToNat, Int.reduceTDiv, Int.reduceTMod, ↓reduceIte, dtb]
  obtain ⟨nq, rfl⟩ : ∃ n : Nat, q = (n : Int) := ⟨q.toNat, by omega⟩
  refine keep (fun k T K D => SameW D [tb] ∧ k ≤ 3 ∧ T 4 = .int .i64 (k : Int) ∧ T 0 = ap tb 0 g ∧ TapeAt K tb g lv ls ∧ Olx tb H K ∧ H.length ≤ K.length ∧ ∃ qs, OutP H.length K (T 3) qs ∧ qs.length ≤ 4100 * (3 - k) ∧ ∀ x ∈ qs, PolyB x) nq
    ⟨SameW.rfl', by omega, by simp only [go_sem, Nat.reduceEqDiff, Nat.reduceAdd, Nat.reduceSub, Nat.reduceMul, Nat.reduceLT, Nat.reduceLeDiff, Int.reducePow, Int.reduceBEq, Int.reduceBNe, Int.reduceDiv, Int.reduceMod, Int.reduceEq, Int.reduceLT, Int.reduceLE, Int.reduceAdd, Int.reduceSub, Int.reduceMul, Int.reduceNeg, Int.reduceToNat, Int.reduceTDiv, Int.reduceTMod, ↓reduceIte], by simp only [go_sem, Nat.reduceEqDiff, Nat.reduceAdd, Nat.reduceSub, Nat.reduceMul, Nat.reduceLT, Nat.reduceLeDiff, Int.reducePow, Int.reduceBEq, Int.reduceBNe, Int.reduceDiv, Int.reduceMod, Int.reduceEq, Int.reduceLT, Int.reduceLE, Int.reduceAdd, Int.reduceSub, Int.reduceMul, Int.reduceNeg, Int.reduceToNat, Int.reduceTDiv, Int.reduceTMod, ↓reduceIte], hT, hO1, hL1, [], .inl ⟨rfl, by simp only [go_sem, Nat.reduceEqDiff, Nat.reduceAdd, Nat.reduceSub, Nat.reduceMul, Nat.reduceLT, Nat.reduceLeDiff, Int.reducePow, Int.reduceBEq, Int.reduceBNe, Int.reduceDiv, Int.reduceMod, Int.reduceEq, Int.reduceLT, Int.reduceLE, Int.reduceAdd, Int.reduceSub, Int.reduceMul, Int.reduceNeg, Int.reduceToNat, Int.reduceTDiv, Int.reduceTMod, ↓reduceIte] <;> rfl⟩, by simp, by simp⟩ ?_
  clear hT hO1 hL1
  rintro k T K D ⟨hD, hk3, h4, h0, hT, hOx, hKl, qs, hO, hql, hqs⟩
  by_cases hk : 0 < k
  · have w1 : IntKind.i64.wrap ((k : Int) - 1) = ((k - 1 : Nat) : Int) := by rw [wi (by omega) (by omega)]; omega
    generalize hv3 : T 3 = v3 at *
    simp only [go_sem, Nat.reduceEqDiff, Nat.reduceAdd, Nat.reduceSub, Nat.reduceMul, Nat.reduceLT, Nat.reduceLeDiff, Int.reducePow, Int.reduceBEq, Int.reduceBNe, Int.reduceDiv, Int.reduceMod, Int.reduceEq, Int.reduceLT, Int.reduceLE, Int.reduceAdd, Int.reduceSub, Int.reduceMul, Int.reduceNeg, Int.reduceToNat, Int.reduceTDiv, Int.reduceTMod, ↓reduceIte, h4, h0, dt (show (0 : Int) < (k : Int) by omega)]
    refine (next_ 3 (by omega) _ hT).x ?_
    rintro v H1 W1 ⟨⟨q, a1⟩, ⟨q0, q1, a0, a2⟩, rfl, rfl, rfl⟩
    have hT := hT.set (at_ := a1) a0 a2
    have hOx := hOx.trans (Olx.set0 tb K (tblk lv g a1))
    have hO := hO.olt htb (Olx.set0 tb K (tblk lv g a1))
    have hKl : H.length ≤ (K.set tb (tblk lv g a1)).length := by simpa using hKl
    generalize K.set tb (tblk lv g a1) = K1 at *
    simp only [go_sem, Nat.reduceEqDiff, Nat.reduceAdd, Nat.reduceSub, Nat.reduceMul, Nat.reduceLT, Nat.reduceLeDiff, Int.reducePow, Int.reduceBEq, Int.reduceBNe, Int.reduceDiv, Int.reduceMod, Int.reduceEq, Int.reduceLT, Int.reduceLE, Int.reduceAdd, Int.reduceSub, Int.reduceMul, Int.reduceNeg, Int.reduceToNat, Int.reduceTDiv, Int.reduceTMod, ↓reduceIte, h4, h0, dtb, hv3]
    refine (next_ 2 (by omega) _ hT).x ?_
    rintro v H1 W1 ⟨⟨u, b1⟩, ⟨u0, u1, b0, b2⟩, rfl, rfl, rfl⟩
    have hT := hT.set (at_ := b1) b0 b2
    have hOx := hOx.trans (Olx.set0 tb K1 (tblk lv g b1))
    have hO := hO.olt htb (Olx.set0 tb K1 (tblk lv g b1))
    have hKl : H.length ≤ (K1.set tb (tblk lv g b1)).length := by simpa using hKl
    generalize K1.set tb (tblk lv g b1) = K2 at *
    obtain ⟨parts, hparts⟩ : ∃ n : Nat, (n : Int) = 1 + q := ⟨(1 + q).toNat, by have : 0 ≤ q := q0; omega⟩
    have w2 : IntKind.i64.wrap (1 + q) = (parts : Int) := by rw [← hparts]; exact wi (by omega) (by have : q < 3 := q1; omega)
    have hp1 : parts ≤ 3 := by have : q < 3 := q1; omega
    simp only [go_sem, Nat.reduceEqDiff, Nat.reduceAdd, Nat.reduceSub, Nat.reduceMul, Nat.reduceLT, Nat.reduceLeDiff, Int.reducePow, Int.reduceBEq, Int.reduceBNe, Int.reduceDiv, Int.reduceMod, Int.reduceEq, Int.reduceLT, Int.reduceLE, Int.reduceAdd, Int.reduceSub, Int.reduceMul, Int.reduceNeg, Int.reduceToNat, Int.reduceTDiv, Int.reduceTMod, ↓reduceIte, h4, h0, dtb, hv3, w2]
    generalize (u == 0) = c
    refine (path_ parts c (by omega) _ hT).x ?_
    rintro v H1 W1 ⟨⟨l, c1⟩, ⟨hl, hB, c0, c2⟩, rfl, rfl, rfl⟩
    have hl : l.length = 3 * parts + 1 := hl
    have hB : ∀ p ∈ l, Bp p := hB
    have hT := (hT.set (at_ := c1) c0 c2).app [⟨ptC l, 0, true⟩]
    have hOx := hOx.trans (Olx.set1 tb K2 [⟨ptC l, 0, true⟩] (tblk lv g c1))
    have hO := hO.olt htb (Olx.set1 tb K2 [⟨ptC l, 0, true⟩] (tblk lv g c1))
    have hP : Pts (K2.set tb (tblk lv g c1) ++ [⟨ptC l, 0, true⟩]) (sl K2.length 0 0 l.length 2) l := .inr ⟨K2.length, 0, [], true, rfl, by rw [show K2.length = (K2.set tb (tblk lv g c1)).length by simp, hget_app0, List.append_nil]; rfl, by omega⟩
    have hKl : H.length ≤ (K2.set tb (tblk lv g c1) ++ [(⟨ptC l, 0, true⟩ : Blk)]).length := by simp; omega
    generalize K2.set tb (tblk lv g c1) ++ [⟨ptC l, 0, true⟩] = K3 at *
    generalize sl K2.length 0 0 l.length 2 = pv at *
    simp only [go_sem, Nat.reduceEqDiff, Nat.reduceAdd, Nat.reduceSub, Nat.reduceMul, Nat.reduceLT, Nat.reduceLeDiff, Int.reducePow, Int.reduceBEq, Int.reduceBNe, Int.reduceDiv, Int.reduceMod, Int.reduceEq, Int.reduceLT, Int.reduceLE, Int.reduceAdd, Int.reduceSub, Int.reduceMul, Int.reduceNeg, Int.reduceToNat, Int.reduceTDiv, Int.reduceTMod, ↓reduceIte, h4, h0, dtb, hv3]
    refine (rflat_ c l pv (fun p hp => (hB p hp).ip) _ hP).x ?_
    rintro v H1 W1 ⟨rfl, ⟨L, rfl⟩, pv', rfl, hF⟩
    obtain ⟨a, e, hpe⟩ := hF.form
    have hfl := fL_len c l
    have hfb := fL_b c l hB
    generalize fL c l = f at *
    subst hpe
    simp only [go_sem, Nat.reduceEqDiff, Nat.reduceAdd, Nat.reduceSub, Nat.reduceMul, Nat.reduceLT, Nat.reduceLeDiff, Int.reducePow, Int.reduceBEq, Int.reduceBNe, Int.reduceDiv, Int.reduceMod, Int.reduceEq, Int.reduceLT, Int.reduceLE, Int.reduceAdd, Int.reduceSub, Int.reduceMul, Int.reduceNeg, Int.reduceToNat, Int.reduceTDiv, Int.reduceTMod, ↓reduceIte, h4, h0, dtb, hv3, poly]
    have hlt : ∀ b g n s, v3 = sl b 0 g n s → b < K3.length := fun b g n s e => by
      rcases hO with ⟨_, h3⟩ | ⟨bo, go, vo, hbo, h3, hbk, hov⟩
      · rw [h3] at e; cases e
      · rw [h3] at e; cases e; exact (List.getElem?_eq_some_iff.1 hbk).1
    have hT := hT.app (L ++ [⟨[.bool c, .slice a f.length e], 0, true⟩])
    refine (next_ 4 (by omega) _ hT).x ?_
    rintro v H1 W1 ⟨⟨s, d1⟩, ⟨s0, s1, d0, d2⟩, rfl, rfl, rfl⟩
    have o3 : Old K3 (K3 ++ (L ++ [⟨[.bool c, .slice a f.length e], 0, true⟩])) := Old.app' _ _
    have h5 : (K3 ++ (L ++ [⟨[.bool c, .slice a f.length e], 0, true⟩]))[K3.length + L.length]? = some (⟨[.bool c, .slice a f.length e], 0, true⟩ : Blk) := last2 _ _ _ _ rfl
    have hF := hF.old (J := K3 ++ (L ++ [⟨[.bool c, .slice a f.length e], 0, true⟩])) (by rw [← List.append_assoc]; exact Old.app' _ _)
    have hm4 : H.length ≤ K3.length + L.length := by omega
    have hO := hO.old o3
    have hOx := hOx.trans (Olx.old o3)
    have hl4 : K3.length + L.length < (K3 ++ (L ++ [(⟨[.bool c, .slice a f.length e], 0, true⟩ : Blk)])).length := by simp
    have hF := hF.weak (n1 := K3.length) (bad' := tb) (Nat.le_refl _) (by omega)
    generalize K3 ++ (L ++ [⟨[.bool c, .slice a f.length e], 0, true⟩]) = K4 at *
    have hT := hT.set (at_ := d1) d0 d2
    have hOx := hOx.trans (Olx.set0 tb K4 (tblk lv g d1))
    have hO := hO.olt htb (Olx.set0 tb K4 (tblk lv g d1))
    have hF := hF.olt (by omega) (Olx.set0 tb K4 (tblk lv g d1))
    have kd3 : decide (K3.length + L.length < H.length) = false := df (by omega)
    have h5 := Olx.set0 tb K4 (tblk lv g d1) (K3.length + L.length) _ (by omega) h5
    have hl4 : K3.length + L.length < (K4.set tb (tblk lv g d1)).length := by simpa using hl4
    generalize K4.set tb (tblk lv g d1) = K5 at *
    have hKl : H.length ≤ K5.length := by omega
    have kd : ∀ n, decide (K5.length + n < H.length) = false := fun n => df (by omega)
    have kd0 : decide (K5.length < H.length) = false := df (by omega)
    have hD5 : SameW (D ++ [tb] ++ [tb] ++ [tb] ++ [tb]) [tb] := snoc (snoc (snoc (snoc hD)))
    have hpb : PolyB (c, f) := ⟨hfl, fun p hp => (hfb p hp).mono (by omega)⟩
    obtain ⟨z, hz⟩ : ∃ z, ((s : Int) == 0) = z := ⟨_, rfl⟩
    cases z with
    | true =>
      simp only [go_sem, Nat.reduceEqDiff, Nat.reduceAdd, Nat.reduceSub, Nat.reduceMul, Nat.reduceLT, Nat.reduceLeDiff, Int.reducePow, Int.reduceBEq, Int.reduceBNe, Int.reduceDiv, Int.reduceMod, Int.reduceEq, Int.reduceLT, Int.reduceLE, Int.reduceAdd, Int.reduceSub, Int.reduceMul, Int.reduceNeg, Int.reduceToNat, Int.reduceTDiv, Int.reduceTMod, ↓reduceIte, h4, h0, dtb, hv3, hz]
      refine drawnU [(0, 3), (1, 3), (3, 4), (0, 5), (1, 5), (0, 6)] (by decide +kernel) ?_
      simp only [go_sem, Nat.reduceEqDiff, Nat.reduceAdd, Nat.reduceSub, Nat.reduceMul, Nat.reduceLT, Nat.reduceLeDiff, Int.reducePow, Int.reduceBEq, Int.reduceBNe, Int.reduceDiv, Int.reduceMod, Int.reduceEq, Int.reduceLT, Int.reduceLE, Int.reduceAdd, Int.reduceSub, Int.reduceMul, Int.reduceNeg, Int.reduceToNat, Int.reduceTDiv, Int.reduceTMod, ↓reduceIte, h4, h0, dtb, hv3, hz, h5, kd3]
      refine (number_ 0 3 (by omega) (by omega) (by omega) _ hT).x ?_
      rintro v H1 W1 ⟨⟨nn, d1⟩, ⟨n0, n1, d0, d2⟩, rfl, rfl, rfl⟩
      have hT := hT.set (at_ := d1) d0 d2
      have hOx := hOx.trans (Olx.set0 tb K5 (tblk lv g d1))
      have hO := hO.olt htb (Olx.set0 tb K5 (tblk lv g d1))
      have hF := hF.olt (by omega) (Olx.set0 tb K5 (tblk lv g d1))
      have hKl : H.length ≤ (K5.set tb (tblk lv g d1)).length := by simpa using hKl
      generalize K5.set tb (tblk lv g d1) = K6 at *
      simp only [go_sem, Nat.reduceEqDiff, Nat.reduceAdd, Nat.reduceSub, Nat.reduceMul, Nat.reduceLT, Nat.reduceLeDiff, Int.reducePow, Int.reduceBEq, Int.reduceBNe, Int.reduceDiv, Int.reduceMod, Int.reduceEq, Int.reduceLT, Int.reduceLE, Int.reduceAdd, Int.reduceSub, Int.reduceMul, Int.reduceNeg, Int.reduceToNat, Int.reduceTDiv, Int.reduceTMod, ↓reduceIte, h4, h0, dtb, hv3, hz, h5, kd3]
      refine (next_ 2 (by omega) _ hT).x ?_
      rintro v H1 W1 ⟨⟨cp, d1⟩, ⟨_, _, d0, d2⟩, rfl, rfl, rfl⟩
      have hT := hT.set (at_ := d1) d0 d2
      have hOx := hOx.trans (Olx.set0 tb K6 (tblk lv g d1))
      have hO := hO.olt htb (Olx.set0 tb K6 (tblk lv g d1))
      have hF := hF.olt (by omega) (Olx.set0 tb K6 (tblk lv g d1))
      have hKl : H.length ≤ (K6.set tb (tblk lv g d1)).length := by simpa using hKl
      generalize K6.set tb (tblk lv g d1) = K7 at *
      simp only [go_sem, Nat.reduceEqDiff, Nat.reduceAdd, Nat.reduceSub, Nat.reduceMul, Nat.reduceLT, Nat.reduceLeDiff, Int.reducePow, Int.reduceBEq, Int.reduceBNe, Int.reduceDiv, Int.reduceMod, Int.reduceEq, Int.reduceLT, Int.reduceLE, Int.reduceAdd, Int.reduceSub, Int.reduceMul, Int.reduceNeg, Int.reduceToNat, Int.reduceTDiv, Int.reduceTMod, ↓reduceIte, h4, h0, dtb, hv3, hz, h5, kd3]
      refine (rstroke_ c f _ nn cp _ hF.pts (by omega) hfb ⟨by have : 0 * 65536 ≤ nn := n0; omega, by have : nn < 3 * 65536 + 65536 := n1; omega⟩).x ?_
      rintro v H1 W1 ⟨rfl, ⟨L1, rfl⟩, js, hj, hjl, hjs⟩
      have hjp : ∀ x ∈ js, PolyB x := fun x hx => hjs x hx
      have hD7 : SameW (D ++ [tb] ++ [tb] ++ [tb] ++ [tb] ++ [tb] ++ [tb]) [tb] := snoc (snoc (snoc (snoc (snoc (snoc hD)))))
      have kd : ∀ n, decide (K7.length + n < H.length) = false := fun n => df (by omega)
      have kd0 : decide (K7.length < H.length) = false := df (by omega)
      have hO' := hO
      by_cases hjn : js.length = 0
      · rcases hj with ⟨hj0, hjv⟩ | ⟨bj, gj, vj, hbj, hjv, hbk', hov'⟩
        · subst hjv
          rcases hO with ⟨ho, h3⟩ | ⟨bo, go, vo, hbo, h3, hbk, hov⟩
          · simp only [go_sem, Nat.reduceEqDiff, Nat.reduceAdd, Nat.reduceSub, Nat.reduceMul, Nat.reduceLT, Nat.reduceLeDiff, Int.reducePow, Int.reduceBEq, Int.reduceBNe, Int.reduceDiv, Int.reduceMod, Int.reduceEq, Int.reduceLT, Int.reduceLE, Int.reduceAdd, Int.reduceSub, Int.reduceMul, Int.reduceNeg, Int.reduceToNat, Int.reduceTDiv, Int.reduceTMod, ↓reduceIte, h4, h0, dtb, hv3, h3, hz, h5, kd3, kd, kd0, w1]
            rw [h3] at hO'
            exact ⟨fun e => by omega, k - 1, by omega, hD7, by omega, rfl, hT.app _, hOx.trans (Olx.old (Old.app' _ _)), by omega, qs, hO'.app _, by omega, hqs⟩
          · have hco : (plC vo).length = qs.length * 2 := by rw [plC_len, hov.1]
            simp only [go_sem, Nat.reduceEqDiff, Nat.reduceAdd, Nat.reduceSub, Nat.reduceMul, Nat.reduceLT, Nat.reduceLeDiff, Int.reducePow, Int.reduceBEq, Int.reduceBNe, Int.reduceDiv, Int.reduceMod, Int.reduceEq, Int.reduceLT, Int.reduceLE, Int.reduceAdd, Int.reduceSub, Int.reduceMul, Int.reduceNeg, Int.reduceToNat, Int.reduceTDiv, Int.reduceTMod, ↓reduceIte, h4, h0, dtb, hv3, h3, hz, h5, kd3, kd, kd0, w1, old_get hbk, hco]
            rw [h3] at hO'
            exact ⟨fun e => by omega, k - 1, by omega, hD7, by omega, rfl, hT.app _, hOx.trans (Olx.old (Old.app' _ _)), by omega, qs, hO'.app _, by omega, hqs⟩
        · rw [hjn] at hjv
          subst hjv
          rcases hO with ⟨ho, h3⟩ | ⟨bo, go, vo, hbo, h3, hbk, hov⟩
          · simp only [go_sem, Nat.reduceEqDiff, Nat.reduceAdd, Nat.reduceSub, Nat.reduceMul, Nat.reduceLT, Nat.reduceLeDiff, Int.reducePow, Int.reduceBEq, Int.reduceBNe, Int.reduceDiv, Int.reduceMod, Int.reduceEq, Int.reduceLT, Int.reduceLE, Int.reduceAdd, Int.reduceSub, Int.reduceMul, Int.reduceNeg, Int.reduceToNat, Int.reduceTDiv, Int.reduceTMod, ↓reduceIte, h4, h0, dtb, hv3, h3, hz, h5, kd3, kd, kd0, w1]
            rw [h3] at hO'
            exact ⟨fun e => by omega, k - 1, by omega, hD7, by omega, rfl, hT.app _, hOx.trans (Olx.old (Old.app' _ _)), by omega, qs, hO'.app _, by omega, hqs⟩
          · have hco : (plC vo).length = qs.length * 2 := by rw [plC_len, hov.1]
            simp only [go_sem, Nat.reduceEqDiff, Nat.reduceAdd, Nat.reduceSub, Nat.reduceMul, Nat.reduceLT, Nat.reduceLeDiff, Int.reducePow, Int.reduceBEq, Int.reduceBNe, Int.reduceDiv, Int.reduceMod, Int.reduceEq, Int.reduceLT, Int.reduceLE, Int.reduceAdd, Int.reduceSub, Int.reduceMul, Int.reduceNeg, Int.reduceToNat, Int.reduceTDiv, Int.reduceTMod, ↓reduceIte, h4, h0, dtb, hv3, h3, hz, h5, kd3, kd, kd0, w1, old_get hbk, hco]
            rw [h3] at hO'
            exact ⟨fun e => by omega, k - 1, by omega, hD7, by omega, rfl, hT.app _, hOx.trans (Olx.old (Old.app' _ _)), by omega, qs, hO'.app _, by omega, hqs⟩
      · obtain ⟨bj, gj, vj, hbj, hjv, hbk', hov'⟩ := hj.resolve_left (fun e => hjn (by rw [e.1]; rfl))
        subst hjv
        have p4 : (plC vj).length = js.length * 2 := by rw [plC_len, hov'.1]
        have t4 : (plC vj).take (js.length * 2) = plC vj := List.take_of_length_le (by omega)
        have s1 := small_p (n := qs.length) (k := js.length) (by omega) (by omega)
        have s2 := small_p (n := 0) (k := js.length) (by omega) (by omega)
        rw [Nat.zero_add] at s2
        rcases hO with ⟨ho, h3⟩ | ⟨bo, go, vo, hbo, h3, hbk, hov⟩
        · simp only [go_sem, Nat.reduceEqDiff, Nat.reduceAdd, Nat.reduceSub, Nat.reduceMul, Nat.reduceLT, Nat.reduceLeDiff, Int.reducePow, Int.reduceBEq, Int.reduceBNe, Int.reduceDiv, Int.reduceMod, Int.reduceEq, Int.reduceLT, Int.reduceLE, Int.reduceAdd, Int.reduceSub, Int.reduceMul, Int.reduceNeg, Int.reduceToNat, Int.reduceTDiv, Int.reduceTMod, ↓reduceIte, h4, h0, dtb, hv3, h3, hz, h5, kd3, kd, kd0, w1, hbk', p4, t4, show (js.length = 0) = False from eq_false hjn, show 0 + js.length * 2 - js.length * 2 = 0 by omega, s2.1, s2.2]
          exact ⟨fun e => by omega, k - 1, by omega, hD7, by omega, rfl, hT.app _, hOx.trans (Olx.old (Old.app' _ _)), by omega, js, OutP.firsts hov' (old_pre ⟨_, by rw [List.append_assoc]⟩) (by omega) rfl (last2 _ _ _ _ rfl) (by simp) (by omega), by omega, hjp⟩
        · have hco : (plC vo).length = qs.length * 2 := by rw [plC_len, hov.1]
          simp only [go_sem, Nat.reduceEqDiff, Nat.reduceAdd, Nat.reduceSub, Nat.reduceMul, Nat.reduceLT, Nat.reduceLeDiff, Int.reducePow, Int.reduceBEq, Int.reduceBNe, Int.reduceDiv, Int.reduceMod, Int.reduceEq, Int.reduceLT, Int.reduceLE, Int.reduceAdd, Int.reduceSub, Int.reduceMul, Int.reduceNeg, Int.reduceToNat, Int.reduceTDiv, Int.reduceTMod, ↓reduceIte, h4, h0, dtb, hv3, h3, hz, h5, kd3, kd, kd0, w1, hbk', p4, t4, show (js.length = 0) = False from eq_false hjn, show 0 + js.length * 2 - js.length * 2 = 0 by omega, old_get hbk, old_set hbk, hco, s1.1, s1.2, df (show ¬ bo < H.length by omega)]
          have hbl := (List.getElem?_eq_some_iff.1 hbk).1
          have hOx' := hOx.bo hbo (Olx.set1 bo K7 L1 ⟨plC vo ++ plC vj, go + 1, true⟩)
          exact ⟨fun e => by omega, k - 1, by omega, hD7, by omega, rfl, tape_re h hT hOx' (Olx.set1 bo K7 _ _) (by omega), hOx', by omega, qs ++ js, OutP.nexts hov hbo (Olx.set1 bo K7 _ _) hov' (olx_pre hbl ⟨L1, [], rfl, by rw [List.append_nil]⟩) hbl (by omega) rfl (old_sget hbk _ _), by rw [List.length_append]; omega, fun x hx => (List.mem_append.1 hx).elim (hqs x) (hjp x)⟩
    | false =>
      rcases hO with ⟨ho, h3⟩ | ⟨bo, go, vo, hbo, h3, hbk, hov⟩
      · simp only [go_sem, Nat.reduceEqDiff, Nat.reduceAdd, Nat.reduceSub, Nat.reduceMul, Nat.reduceLT, Nat.reduceLeDiff, Int.reducePow, Int.reduceBEq, Int.reduceBNe, Int.reduceDiv, Int.reduceMod, Int.reduceEq, Int.reduceLT, Int.reduceLE, Int.reduceAdd, Int.reduceSub, Int.reduceMul, Int.reduceNeg, Int.reduceToNat, Int.reduceTDiv, Int.reduceTMod, ↓reduceIte, h4, h0, dtb, hv3, h3, hz, h5, kd, kd0, kd3, w1, List.append_nil]
        exact ⟨k - 1, by omega, hD5, by omega, rfl, hT.app _, hOx.trans (Olx.old (Old.app' _ _)), by omega, [(c, f)], OutP.first hF (Old.app' _ _) (by omega) (by rw [hget_app]; rfl) (by omega) (by omega), by simp; omega, by simpa using hpb⟩
      · have hco : (plC vo).length = qs.length * 2 := by rw [plC_len, hov.1]
        have s1 := small_p (n := qs.length) (k := 1) (by omega) (by omega)
        simp only [go_sem, Nat.reduceEqDiff, Nat.reduceAdd, Nat.reduceSub, Nat.reduceMul, Nat.reduceLT, Nat.reduceLeDiff, Int.reducePow, Int.reduceBEq, Int.reduceBNe, Int.reduceDiv, Int.reduceMod, Int.reduceEq, Int.reduceLT, Int.reduceLE, Int.reduceAdd, Int.reduceSub, Int.reduceMul, Int.reduceNeg, Int.reduceToNat, Int.reduceTDiv, Int.reduceTMod, ↓reduceIte, h4, h0, dtb, hv3, h3, hz, h5, old_get h5, kd, kd0, w1, old_get hbk, old_set hbk, hco, s1.1, s1.2, df (show ¬ bo < H.length by omega), kd3, List.append_nil]
        have hOx' := hOx.bo hbo (Olx.set1 bo K5 [⟨[.bool c, .slice a f.length e], 0, true⟩] ⟨plC vo ++ [.bool c, .slice a f.length e], go + 1, true⟩)
        exact ⟨k - 1, by omega, hD5, by omega, rfl, tape_re h hT hOx' (Olx.set1 bo K5 _ _) (by omega), hOx', by omega, qs ++ [(c, f)], OutP.next hov hbo (Olx.set1 bo K5 _ _) hF (Olx.set1 bo K5 _ _) (hlt _ _ _ _ h3) (old_sget hbk _ _), by rw [List.length_append]; simp; omega, fun x hx => (List.mem_append.1 hx).elim (hqs x) (fun h => by rw [List.mem_singleton.1 h]; exact hpb)⟩
  · simp only [go_sem, Nat.reduceEqDiff, Nat.reduceAdd, Nat.reduceSub, Nat.reduceMul, Nat.reduceLT, Nat.reduceLeDiff, Int.reducePow, Int.reduceBEq, Int.reduceBNe, Int.reduceDiv, Int.reduceMod, Int.reduceEq, Int.reduceLT, Int.reduceLE, Int.reduceAdd, Int.reduceSub, Int.reduceMul, Int.reduceNeg, Int.reduceToNat, Int.reduceTDiv, Int.reduceTMod, ↓reduceIte, h4, h0, df (show ¬ (0 : Int) < (k : Int) by omega)]
    exact ⟨hD, hOx, hKl, qs, hO.polys (by omega), by omega, hqs⟩
end Go.Proofs.Ythoclopeajkcpaa
