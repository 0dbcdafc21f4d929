/- Merged texts: Flat6 Flat7 Flat8 Flat9 FlatD. -/
import Derived.Test.YthoclopeajkcpaaZ6
/- Chapter 8: the walk of the plain form of straight lines. -/
namespace Go.Proofs.Ythoclopeajkcpaa
open Go Go.RowKit E
attribute [local irreducible] XRun XOps XCode XCal XLoop XQ SemCall
set_option linter.unusedSimpArgs false
set_option linter.unusedVariables false
theorem rbent_ : ∀ (k : Nat), k ≤ 8 → ∀ (a b c d : Pt), Ip a → Ip b → Ip c → Ip d → ∀ (H : AH),
    SemCall Try.prog 55 [ptv a, ptv b, ptv c, ptv d, .int .i64 (k : Int)] H (sl H.length 0 0 (2 ^ k) 2) (H ++ [⟨ptC (bentL k a b c d), 0, true⟩]) []
  | 0, _, a, b, c, d, ha, hb, hc, hd, H => by
    refine flat_of ?_
    refine XCal.of hm Try.func55 rfl (fun xs w => Try.call55 xs w) Try.ntmps55 Try.results55 rfl ?_
    simp only [go_sem, Nat.reduceEqDiff, Nat.reduceAdd, Nat.reduceSub, Nat.reduceMul, Nat.reduceLT, Nat.reduceLeDiff, Int.reducePow, Int.reduceBEq, Int.reduceBNe, Int.reduceDiv, Int.reduceMod, Int.reduceEq, Int.reduceLT, Int.reduceLE, Int.reduceAdd, Int.reduceSub, Int.reduceMul, Int.reduceNeg, Int.reduceToNat, Int.reduceTDiv, Int.reduceTMod, ↓reduceIte, ptv]
    exact ⟨H.length + 4, 0, by omega, by rw [hget_app]; rfl, ren_sl _ _ _ _ _ (by omega), ptC_ren _ _ _⟩
  | k + 1, hk, a, b, c, d, ha, hb, hc, hd, H => by
    have pk : 2 ^ k ≤ 256 := Nat.le_trans (Nat.pow_le_pow_right (by decide) (show k ≤ 8 by omega)) (by decide)
    have iab := hfp_b ha hb
    have ibc := hfp_b hb hc
    have icd := hfp_b hc hd
    have iabc := hfp_b iab ibc
    have ibcd := hfp_b ibc icd
    have im := hfp_b iabc ibcd
    have wk : IntKind.i64.wrap (((k + 1 : Nat) : Int) - 1) = (k : Int) := by rw [wi (by omega) (by omega)]; omega
    have l1 := bentL_len k a (hfp a b) (hfp (hfp a b) (hfp b c)) (hfp (hfp (hfp a b) (hfp b c)) (hfp (hfp b c) (hfp c d)))
    have l2 := bentL_len k (hfp (hfp (hfp a b) (hfp b c)) (hfp (hfp b c) (hfp c d))) (hfp (hfp b c) (hfp c d)) (hfp c d) d
    refine flat_of ?_
    refine XCal.of hm Try.func55 rfl (fun xs w => Try.call55 xs w) Try.ntmps55 Try.results55 rfl ?_
    simp only [go_sem, Nat.reduceEqDiff, Nat.reduceAdd, Nat.reduceSub, Nat.reduceMul, Nat.reduceLT, Nat.reduceLeDiff, Int.reducePow, Int.reduceBEq, Int.reduceBNe, Int.reduceDiv, Int.reduceMod, Int.reduceEq, Int.reduceLT, Int.reduceLE, Int.reduceAdd, Int.reduceSub, Int.reduceMul, Int.reduceNeg, Int.reduceToNat, Int.reduceTDiv, Int.reduceTMod, ↓reduceIte, ptv, bf (show ¬ ((k + 1 : Nat) : Int) = 0 by omega)]
    repeat ((first | refine (rHalf_ _ _ ha hb _).x ?_ | refine (rHalf_ _ _ hb hc _).x ?_ | refine (rHalf_ _ _ hc hd _).x ?_ | refine (rHalf_ _ _ iab ibc _).x ?_ | refine (rHalf_ _ _ ibc icd _).x ?_ | refine (rHalf_ _ _ iabc ibcd _).x ?_ | refine drawnU [(2, 3), (2, 4), (2, 6), (5, 6), (2, 7), (5, 7), (2, 9), (5, 9), (8, 9), (2, 10), (5, 10), (8, 10), (2, 11), (5, 11), (8, 11)] (by decide +kernel) ?_ | refine drawnU [(2, 3), (2, 4), (2, 6), (5, 6), (2, 7), (5, 7)] (by decide +kernel) ?_ | refine drawnU [(6, 7), (6, 8), (6, 9), (6, 10), (6, 11), (6, 12)] (by decide +kernel) ?_ | refine drawnF ?_ (by decide +kernel)); simp only [go_sem, Nat.reduceEqDiff, Nat.reduceAdd, Nat.reduceSub, Nat.reduceMul, Nat.reduceLT, Nat.reduceLeDiff, Int.reducePow, Int.reduceBEq, Int.reduceBNe, Int.reduceDiv, Int.reduceMod, Int.reduceEq, Int.reduceLT, Int.reduceLE, Int.reduceAdd, Int.reduceSub, Int.reduceMul, Int.reduceNeg, Int.reduceToNat, Int.reduceTDiv, Int.reduceTMod, ↓reduceIte, ptv, wk])
    have p1 : (ptC (bentL k a (hfp a b) (hfp (hfp a b) (hfp b c)) (hfp (hfp (hfp a b) (hfp b c)) (hfp (hfp b c) (hfp c d))))).length = 2 ^ k * 2 := by rw [ptC_len, l1]
    have p2 : (ptC (bentL k (hfp (hfp (hfp a b) (hfp b c)) (hfp (hfp b c) (hfp c d))) (hfp (hfp b c) (hfp c d)) (hfp c d) d)).length = 2 ^ k * 2 := by rw [ptC_len, l2]
    have e3 : 2 ^ k + 2 ^ k = 2 ^ (k + 1) := by rw [Nat.pow_succ]; omega
    refine (rbent_ k (by omega) _ _ _ _ ha iab iabc im _).x ?_
    simp only [go_sem, Nat.reduceEqDiff, Nat.reduceAdd, Nat.reduceSub, Nat.reduceMul, Nat.reduceLT, Nat.reduceLeDiff, Int.reducePow, Int.reduceBEq, Int.reduceBNe, Int.reduceDiv, Int.reduceMod, Int.reduceEq, Int.reduceLT, Int.reduceLE, Int.reduceAdd, Int.reduceSub, Int.reduceMul, Int.reduceNeg, Int.reduceToNat, Int.reduceTDiv, Int.reduceTMod, ↓reduceIte, ptv, wk]
    refine (rbent_ k (by omega) _ _ _ _ im ibcd icd hd _).x ?_
    have hAB : ptC (bentL (k + 1) a b c d) = _ ++ _ := ptC_app _ _
    generalize ptC (bentL k a (hfp a b) (hfp (hfp a b) (hfp b c)) (hfp (hfp (hfp a b) (hfp b c)) (hfp (hfp b c) (hfp c d)))) = A1 at *
    generalize ptC (bentL k (hfp (hfp (hfp a b) (hfp b c)) (hfp (hfp b c) (hfp c d))) (hfp (hfp b c) (hfp c d)) (hfp c d) d) = A2 at *
    have pk0 : 0 < 2 ^ k := Nat.pow_pos (by decide)
    generalize 2 ^ k = n at *
    have n0 : (n = 0) = False := eq_false (by omega)
    have t8 : A2.take (n * 2) = A2 := List.take_of_length_le (by omega)
    have u8 : 0 + n * 2 - A2.length = 0 := by omega
    have u9 : 0 + n * 2 - n * 2 = 0 := by omega
    simp only [go_sem, Nat.reduceEqDiff, Nat.reduceAdd, Nat.reduceSub, Nat.reduceMul, Nat.reduceLT, Nat.reduceLeDiff, Int.reducePow, Int.reduceBEq, Int.reduceBNe, Int.reduceDiv, Int.reduceMod, Int.reduceEq, Int.reduceLT, Int.reduceLE, Int.reduceAdd, Int.reduceSub, Int.reduceMul, Int.reduceNeg, Int.reduceToNat, Int.reduceTDiv, Int.reduceTMod, ↓reduceIte, ptv, wk, n0, p1, p2, t8, u8, u9, show (n + n) * 16 - 140737488355328 = 0 by omega, show n + n - 140737488355328 = 0 by omega]
    rw [e3]
    exact ⟨H.length + 10, 1, by omega, by rw [hAB, hget_app]; rfl, ren_sl _ _ _ _ _ (by omega), ptC_ren _ _ _⟩
theorem rbend_ (a b c d : Pt) (ha : Ip a) (hb : Ip b) (hc : Ip c) (hd : Ip d) (H : AH) : SemCall Try.prog 24 [ptv a, ptv b, ptv c, ptv d] H (sl H.length 0 0 8 2) (H ++ [⟨ptC (bentL 3 a b c d), 0, true⟩]) [] := by
  refine flat_of ?_
  have h := fun H => rbent_ 3 (by decide) a b c d ha hb hc hd H
  have e : ((3 : Nat) : Int) = 3 := rfl
  rw [e] at h
  refine XCal.of hm Try.func24 rfl (fun xs w => Try.call24 xs w) Try.ntmps24 Try.results24 rfl ?_
  simp only [go_sem, Nat.reduceEqDiff, Nat.reduceAdd, Nat.reduceSub, Nat.reduceMul, Nat.reduceLT, Nat.reduceLeDiff, Int.reducePow, Int.reduceBEq, Int.reduceBNe, Int.reduceDiv, Int.reduceMod, Int.reduceEq, Int.reduceLT, Int.reduceLE, Int.reduceAdd, Int.reduceSub, Int.reduceMul, Int.reduceNeg, Int.reduceToNat, Int.reduceTDiv, Int.reduceTMod, ↓reduceIte, ptv]
  repeat ((first | refine (h _).x ?_ | refine drawnF ?_ (by decide +kernel)); simp only [go_sem, Nat.reduceEqDiff, Nat.reduceAdd, Nat.reduceSub, Nat.reduceMul, Nat.reduceLT, Nat.reduceLeDiff, Int.reducePow, Int.reduceBEq, Int.reduceBNe, Int.reduceDiv, Int.reduceMod, Int.reduceEq, Int.reduceLT, Int.reduceLE, Int.reduceAdd, Int.reduceSub, Int.reduceMul, Int.reduceNeg, Int.reduceToNat, Int.reduceTDiv, Int.reduceTMod, ↓reduceIte, ptv])
  exact ⟨H.length + 4, 0, by omega, by rw [hget_app]; rfl, ren_sl _ _ _ _ _ (by omega), ptC_ren _ _ _⟩
theorem rright_ (c : Bool) (l : List Pt) (pv : Value) (H : AH) (h : Pts H pv l) : SemCall Try.prog 69 [.agg [.bool c, pv].toArray] H (.bool (rightB c l)) H [] := by
  have hlen := h.len
  refine pure_of ?_ rfl
  unfold rightB
  by_cases hn : l = []
  · obtain ⟨a, e, rfl⟩ := h.form
    subst hn
    refine XCal.of hm Try.func69 rfl (fun xs w => Try.call69 xs w) Try.ntmps69 Try.results69 rfl ?_
    simp only [go_sem, Nat.reduceEqDiff, Nat.reduceAdd, Nat.reduceSub, Nat.reduceMul, Nat.reduceLT, Nat.reduceLeDiff, Int.reducePow, Int.reduceBEq, Int.reduceBNe, Int.reduceDiv, Int.reduceMod, Int.reduceEq, Int.reduceLT, Int.reduceLE, Int.reduceAdd, Int.reduceSub, Int.reduceMul, Int.reduceNeg, Int.reduceToNat, Int.reduceTDiv, Int.reduceTMod, ↓reduceIte, List.length_nil, show ((0 : Nat) : Int) = 0 from rfl]
  · have hn0 : ¬ l.length = 0 := fun e => hn (List.eq_nil_of_length_eq_zero e)
    obtain ⟨b, g, rest, rw_, rfl, hb, _⟩ := h.ne hn
    rw [if_neg hn0]
    refine XCal.of hm Try.func69 rfl (fun xs w => Try.call69 xs w) Try.ntmps69 Try.results69 rfl ?_
    simp only [go_sem, Nat.reduceEqDiff, Nat.reduceAdd, Nat.reduceSub, Nat.reduceMul, Nat.reduceLT, Nat.reduceLeDiff, Int.reducePow, Int.reduceBEq, Int.reduceBNe, Int.reduceDiv, Int.reduceMod, Int.reduceEq, Int.reduceLT, Int.reduceLE, Int.reduceAdd, Int.reduceSub, Int.reduceMul, Int.reduceNeg, Int.reduceToNat, Int.reduceTDiv, Int.reduceTMod, ↓reduceIte, bf (show ¬ ((l.length : Nat) : Int) = 0 by omega)]
    refine keep (fun k T H' D => D = [] ∧ ∃ (i : Nat) (G : AH), i + k = l.length ∧ (l.drop i).all nrp = l.all nrp ∧ H' = H ++ (⟨[.bool c, sl b 0 g l.length 2], 0, true⟩ :: G) ∧ T 1 = ap H.length 0 0 ∧ T 3 = .int .i64 (l.length : Int) ∧ T 4 = .int .i64 (i : Int)) l.length
      ⟨rfl, 0, [], by omega, rfl, rfl, rfl, rfl, rfl⟩ ?_
    rintro k T H' D ⟨rfl, i, G, hik, hx, rfl, h1, h3, h4⟩
    by_cases hk : i < l.length
    · obtain ⟨p, hp, hdr⟩ := getD_some hk
      have ld := fun (b : Nat) => ald_pt (b := b) (g := g) (rw_ := rw_) rest hp
      rw [hdr, List.all_cons] at hx
      simp only [go_sem, Nat.reduceEqDiff, Nat.reduceAdd, Nat.reduceSub, Nat.reduceMul, Nat.reduceLT, Nat.reduceLeDiff, Int.reducePow, Int.reduceBEq, Int.reduceBNe, Int.reduceDiv, Int.reduceMod, Int.reduceEq, Int.reduceLT, Int.reduceLE, Int.reduceAdd, Int.reduceSub, Int.reduceMul, Int.reduceNeg, Int.reduceToNat, Int.reduceTDiv, Int.reduceTMod, ↓reduceIte, h1, h3, h4, dt (show (i : Int) < (l.length : Int) by omega), show (0 : Int) ≤ (i : Int) by omega, show (i : Int) < (l.length : Int) by omega, Int.toNat_natCast, Nat.zero_add, old_get hb, ld, ptv]
      refine (rnearp_ p _).x ?_
      cases hq : nrp p with
      | true =>
        rw [hq, Bool.true_and] at hx
        simp only [go_sem, Nat.reduceEqDiff, Nat.reduceAdd, Nat.reduceSub, Nat.reduceMul, Nat.reduceLT, Nat.reduceLeDiff, Int.reducePow, Int.reduceBEq, Int.reduceBNe, Int.reduceDiv, Int.reduceMod, Int.reduceEq, Int.reduceLT, Int.reduceLE, Int.reduceAdd, Int.reduceSub, Int.reduceMul, Int.reduceNeg, Int.reduceToNat, Int.reduceTDiv, Int.reduceTMod, ↓reduceIte, h1, h3, h4]
        exact ⟨k - 1, by omega, i + 1, _, by omega, hx, rfl, by rw [wi (by omega) (by omega)]; rfl⟩
      | false =>
        rw [hq, Bool.false_and] at hx
        simp only [go_sem, Nat.reduceEqDiff, Nat.reduceAdd, Nat.reduceSub, Nat.reduceMul, Nat.reduceLT, Nat.reduceLeDiff, Int.reducePow, Int.reduceBEq, Int.reduceBNe, Int.reduceDiv, Int.reduceMod, Int.reduceEq, Int.reduceLT, Int.reduceLE, Int.reduceAdd, Int.reduceSub, Int.reduceMul, Int.reduceNeg, Int.reduceToNat, Int.reduceTDiv, Int.reduceTMod, ↓reduceIte, h1, h3, h4]
        rw [← hx, Bool.and_false]
    · have : l.drop i = [] := List.drop_eq_nil_of_le (by omega)
      rw [this] at hx
      rw [← hx]
      cases k1 : decide ((4 : Int) ≤ l.length) with
      | false =>
        simp only [go_sem, Nat.reduceEqDiff, Nat.reduceAdd, Nat.reduceSub, Nat.reduceMul, Nat.reduceLT, Nat.reduceLeDiff, Int.reducePow, Int.reduceBEq, Int.reduceBNe, Int.reduceDiv, Int.reduceMod, Int.reduceEq, Int.reduceLT, Int.reduceLE, Int.reduceAdd, Int.reduceSub, Int.reduceMul, Int.reduceNeg, Int.reduceToNat, Int.reduceTDiv, Int.reduceTMod, ↓reduceIte, h1, h3, h4, df (show ¬ (i : Int) < (l.length : Int) by omega), k1]
        try rfl
      | true =>
        cases k2 : decide ((l.length : Int) ≤ 97) with
        | false =>
          simp only [go_sem, Nat.reduceEqDiff, Nat.reduceAdd, Nat.reduceSub, Nat.reduceMul, Nat.reduceLT, Nat.reduceLeDiff, Int.reducePow, Int.reduceBEq, Int.reduceBNe, Int.reduceDiv, Int.reduceMod, Int.reduceEq, Int.reduceLT, Int.reduceLE, Int.reduceAdd, Int.reduceSub, Int.reduceMul, Int.reduceNeg, Int.reduceToNat, Int.reduceTDiv, Int.reduceTMod, ↓reduceIte, h1, h3, h4, df (show ¬ (i : Int) < (l.length : Int) by omega), k1, k2]
          try rfl
        | true =>
          cases k3 : ((l.length : Int).tmod 3 == 1) with
          | false =>
            simp only [go_sem, Nat.reduceEqDiff, Nat.reduceAdd, Nat.reduceSub, Nat.reduceMul, Nat.reduceLT, Nat.reduceLeDiff, Int.reducePow, Int.reduceBEq, Int.reduceBNe, Int.reduceDiv, Int.reduceMod, Int.reduceEq, Int.reduceLT, Int.reduceLE, Int.reduceAdd, Int.reduceSub, Int.reduceMul, Int.reduceNeg, Int.reduceToNat, Int.reduceTDiv, Int.reduceTMod, ↓reduceIte, h1, h3, h4, df (show ¬ (i : Int) < (l.length : Int) by omega), k1, k2, k3]
            try rfl
          | true =>
            simp only [go_sem, Nat.reduceEqDiff, Nat.reduceAdd, Nat.reduceSub, Nat.reduceMul, Nat.reduceLT, Nat.reduceLeDiff, Int.reducePow, Int.reduceBEq, Int.reduceBNe, Int.reduceDiv, Int.reduceMod, Int.reduceEq, Int.reduceLT, Int.reduceLE, Int.reduceAdd, Int.reduceSub, Int.reduceMul, Int.reduceNeg, Int.reduceToNat, Int.reduceTDiv, Int.reduceTMod, ↓reduceIte, h1, h3, h4, df (show ¬ (i : Int) < (l.length : Int) by omega), k1, k2, k3]
            try rfl
theorem rflat_no (c : Bool) (l : List Pt) (pv : Value) (H : AH) (h : Pts H pv l) (hr : l = [] ∨ rightB c l = false) : SemCall Try.prog 40 [.agg [.bool c, pv].toArray] H (poly c (.slice none 0 0)) H [] := by
  have e2 := fun L => rright_ c l pv (H ++ L) (h.app L)
  obtain ⟨a, e, rfl⟩ := h.form
  refine pure_of ?_ rfl
  cases hq : rightB c l with
  | false =>
    refine XCal.of hm Try.func40 rfl (fun xs w => Try.call40 xs w) Try.ntmps40 Try.results40 rfl ?_
    simp only [go_sem, Nat.reduceEqDiff, Nat.reduceAdd, Nat.reduceSub, Nat.reduceMul, Nat.reduceLT, Nat.reduceLeDiff, Int.reducePow, Int.reduceBEq, Int.reduceBNe, Int.reduceDiv, Int.reduceMod, Int.reduceEq, Int.reduceLT, Int.reduceLE, Int.reduceAdd, Int.reduceSub, Int.reduceMul, Int.reduceNeg, Int.reduceToNat, Int.reduceTDiv, Int.reduceTMod, ↓reduceIte]
    repeat ((first | refine (e2 _).x ?_ | refine drawnF ?_ (by decide +kernel) | refine drawnU [(5, 27), (6, 27), (7, 27), (8, 27), (9, 27), (10, 27), (11, 27), (12, 27), (13, 27), (14, 27), (15, 27), (16, 27), (17, 27), (18, 27), (19, 27), (20, 27), (21, 27), (22, 27), (11, 28), (12, 28), (13, 28), (14, 28), (15, 28), (16, 28), (17, 28), (18, 28), (19, 28), (20, 28), (21, 28), (22, 28), (17, 29), (18, 29), (19, 29), (20, 29), (21, 29), (22, 29)] (by decide +kernel) ?_ | refine drawnU [(0, 6), (1, 6)] (by decide +kernel) ?_); simp only [go_sem, Nat.reduceEqDiff, Nat.reduceAdd, Nat.reduceSub, Nat.reduceMul, Nat.reduceLT, Nat.reduceLeDiff, Int.reducePow, Int.reduceBEq, Int.reduceBNe, Int.reduceDiv, Int.reduceMod, Int.reduceEq, Int.reduceLT, Int.reduceLE, Int.reduceAdd, Int.reduceSub, Int.reduceMul, Int.reduceNeg, Int.reduceToNat, Int.reduceTDiv, Int.reduceTMod, ↓reduceIte, hq])
  | true =>
    obtain rfl := hr.resolve_right (by rw [hq]; decide)
    refine XCal.of hm Try.func40 rfl (fun xs w => Try.call40 xs w) Try.ntmps40 Try.results40 rfl ?_
    simp only [go_sem, Nat.reduceEqDiff, Nat.reduceAdd, Nat.reduceSub, Nat.reduceMul, Nat.reduceLT, Nat.reduceLeDiff, Int.reducePow, Int.reduceBEq, Int.reduceBNe, Int.reduceDiv, Int.reduceMod, Int.reduceEq, Int.reduceLT, Int.reduceLE, Int.reduceAdd, Int.reduceSub, Int.reduceMul, Int.reduceNeg, Int.reduceToNat, Int.reduceTDiv, Int.reduceTMod, ↓reduceIte]
    repeat ((first | refine (e2 _).x ?_ | refine drawnF ?_ (by decide +kernel) | refine drawnU [(5, 27), (6, 27), (7, 27), (8, 27), (9, 27), (10, 27), (11, 27), (12, 27), (13, 27), (14, 27), (15, 27), (16, 27), (17, 27), (18, 27), (19, 27), (20, 27), (21, 27), (22, 27), (11, 28), (12, 28), (13, 28), (14, 28), (15, 28), (16, 28), (17, 28), (18, 28), (19, 28), (20, 28), (21, 28), (22, 28), (17, 29), (18, 29), (19, 29), (20, 29), (21, 29), (22, 29)] (by decide +kernel) ?_ | refine drawnU [(0, 6), (1, 6)] (by decide +kernel) ?_); simp only [go_sem, Nat.reduceEqDiff, Nat.reduceAdd, Nat.reduceSub, Nat.reduceMul, Nat.reduceLT, Nat.reduceLeDiff, Int.reducePow, Int.reduceBEq, Int.reduceBNe, Int.reduceDiv, Int.reduceMod, Int.reduceEq, Int.reduceLT, Int.reduceLE, Int.reduceAdd, Int.reduceSub, Int.reduceMul, Int.reduceNeg, Int.reduceToNat, Int.reduceTDiv, Int.reduceTMod, ↓reduceIte, hq, List.length_nil])
theorem rflat_yes (c : Bool) (l : List Pt) (pv : Value) (hB : ∀ p ∈ l, Ip p) (H : AH) (h : Pts H pv l) (hn : ¬ l = []) (hr : rightB c l = true) (hl : l.length ≤ 97) : SemCall Try.prog 40 [.agg [.bool c, pv].toArray] H (poly c (sl H.length 0 0 (flatL l).length 2)) (H ++ [⟨ptC (flatL l), 0, true⟩]) [] := by
  have e2 := fun L => rright_ c l pv (H ++ L) (h.app L)
  have hn' : ((l.length : Int) == 0) = false := bf (by have : l.length ≠ 0 := fun h => hn (List.eq_nil_of_length_eq_zero h); omega)
  have l0 : 0 < l.length := List.length_pos_iff.2 hn
  obtain ⟨b, g, rest, rw_, rfl, hb, _⟩ := h.ne hn
  have hel0 : l[0]? = some l[0] := List.getElem?_eq_getElem l0
  have hld0 := fun (b : Nat) => ald_pt (b := b) (g := g) (rw_ := rw_) rest hel0
  rw [Nat.zero_mul] at hld0
  refine flat_of ?_
  refine XCal.of hm Try.func40 rfl (fun xs w => Try.call40 xs w) Try.ntmps40 Try.results40 rfl ?_
  simp only [go_sem, Nat.reduceEqDiff, Nat.reduceAdd, Nat.reduceSub, Nat.reduceMul, Nat.reduceLT, Nat.reduceLeDiff, Int.reducePow, Int.reduceBEq, Int.reduceBNe, Int.reduceDiv, Int.reduceMod, Int.reduceEq, Int.reduceLT, Int.reduceLE, Int.reduceAdd, Int.reduceSub, Int.reduceMul, Int.reduceNeg, Int.reduceToNat, Int.reduceTDiv, Int.reduceTMod, ↓reduceIte]
  refine (e2 _).x ?_
  simp only [go_sem, Nat.reduceEqDiff, Nat.reduceAdd, Nat.reduceSub, Nat.reduceMul, Nat.reduceLT, Nat.reduceLeDiff, Int.reducePow, Int.reduceBEq, Int.reduceBNe, Int.reduceDiv, Int.reduceMod, Int.reduceEq, Int.reduceLT, Int.reduceLE, Int.reduceAdd, Int.reduceSub, Int.reduceMul, Int.reduceNeg, Int.reduceToNat, Int.reduceTDiv, Int.reduceTMod, ↓reduceIte, hr, hn', old_get hb, Int.reduceToNat, show (0 : Int) < (l.length : Int) by omega, Nat.zero_mul, Nat.add_zero, hld0]
  repeat ((first | refine (e2 _).x ?_ | refine drawnF ?_ (by decide +kernel) | refine drawnU [(5, 27), (6, 27), (7, 27), (8, 27), (9, 27), (10, 27), (11, 27), (12, 27), (13, 27), (14, 27), (15, 27), (16, 27), (17, 27), (18, 27), (19, 27), (20, 27), (21, 27), (22, 27), (11, 28), (12, 28), (13, 28), (14, 28), (15, 28), (16, 28), (17, 28), (18, 28), (19, 28), (20, 28), (21, 28), (22, 28), (17, 29), (18, 29), (19, 29), (20, 29), (21, 29), (22, 29)] (by decide +kernel) ?_ | refine drawnU [(0, 6), (1, 6)] (by decide +kernel) ?_); simp only [go_sem, Nat.reduceEqDiff, Nat.reduceAdd, Nat.reduceSub, Nat.reduceMul, Nat.reduceLT, Nat.reduceLeDiff, Int.reducePow, Int.reduceBEq, Int.reduceBNe, Int.reduceDiv, Int.reduceMod, Int.reduceEq, Int.reduceLT, Int.reduceLE, Int.reduceAdd, Int.reduceSub, Int.reduceMul, Int.reduceNeg, Int.reduceToNat, Int.reduceTDiv, Int.reduceTMod, ↓reduceIte, hr, hn', old_get hb, Int.reduceToNat, show (0 : Int) < (l.length : Int) by omega, Nat.zero_mul, Nat.add_zero, hld0, ptv])
  refine keep (fun k T H' D => D = [] ∧ ∃ (o : List Pt) (g1 : Nat) (G : AH) (i : Nat), i + 3 * k = 300 ∧ i ≤ l.length + 3 ∧ o ++ flatGo (l.drop i) = flatL l ∧ o.length ≤ 8 * i + 1 ∧
    H' = H ++ (⟨[.bool c, sl b 0 g l.length 2], 0, true⟩ :: ⟨[.bool false, .slice none 0 0], 0, true⟩ :: ⟨ptC o, g1, true⟩ :: ⟨[.bool c, sl (H.length + 2) 0 g1 o.length 2], 0, true⟩ :: G) ∧ T 4 = .int .i64 (i : Int) ∧ T 1 = ap H.length 0 0 ∧ T 2 = ap (H.length + 1) 0 0 ∧ T 3 = ap (H.length + 3) 0 0) 100
    ⟨rfl, [l[0]], 0, [], 0, by omega, by omega, by cases l with | nil => simp at l0 | cons x t => rfl, by simp, rfl, by simp only [go_sem, Nat.reduceEqDiff, Nat.reduceAdd, Nat.reduceSub, Nat.reduceMul, Nat.reduceLT, Nat.reduceLeDiff, Int.reducePow, Int.reduceBEq, Int.reduceBNe, Int.reduceDiv, Int.reduceMod, Int.reduceEq, Int.reduceLT, Int.reduceLE, Int.reduceAdd, Int.reduceSub, Int.reduceMul, Int.reduceNeg, Int.reduceToNat, Int.reduceTDiv, Int.reduceTMod, ↓reduceIte] <;> rfl, by simp only [go_sem, Nat.reduceEqDiff, Nat.reduceAdd, Nat.reduceSub, Nat.reduceMul, Nat.reduceLT, Nat.reduceLeDiff, Int.reducePow, Int.reduceBEq, Int.reduceBNe, Int.reduceDiv, Int.reduceMod, Int.reduceEq, Int.reduceLT, Int.reduceLE, Int.reduceAdd, Int.reduceSub, Int.reduceMul, Int.reduceNeg, Int.reduceToNat, Int.reduceTDiv, Int.reduceTMod, ↓reduceIte], by simp only [go_sem, Nat.reduceEqDiff, Nat.reduceAdd, Nat.reduceSub, Nat.reduceMul, Nat.reduceLT, Nat.reduceLeDiff, Int.reducePow, Int.reduceBEq, Int.reduceBNe, Int.reduceDiv, Int.reduceMod, Int.reduceEq, Int.reduceLT, Int.reduceLE, Int.reduceAdd, Int.reduceSub, Int.reduceMul, Int.reduceNeg, Int.reduceToNat, Int.reduceTDiv, Int.reduceTMod, ↓reduceIte], by simp only [go_sem, Nat.reduceEqDiff, Nat.reduceAdd, Nat.reduceSub, Nat.reduceMul, Nat.reduceLT, Nat.reduceLeDiff, Int.reducePow, Int.reduceBEq, Int.reduceBNe, Int.reduceDiv, Int.reduceMod, Int.reduceEq, Int.reduceLT, Int.reduceLE, Int.reduceAdd, Int.reduceSub, Int.reduceMul, Int.reduceNeg, Int.reduceToNat, Int.reduceTDiv, Int.reduceTMod, ↓reduceIte] <;> rfl⟩ ?_
  rintro k T H' D ⟨rfl, o, g1, G, i, hik, hil, hx, hol, rfl, h4, h1, h2, h3⟩
  have w3 : IntKind.i64.wrap ((i : Int) + 3) = ((i + 3 : Nat) : Int) := by rw [wi (by omega) (by omega)]; rfl
  by_cases hk : i + 3 < l.length
  · have w1 : IntKind.i64.wrap ((i : Int) + 1) = ((i + 1 : Nat) : Int) := by rw [wi (by omega) (by omega)]; rfl
    have w2 : IntKind.i64.wrap ((i : Int) + 2) = ((i + 2 : Nat) : Int) := by rw [wi (by omega) (by omega)]; rfl
    obtain ⟨pa, ha⟩ : ∃ p, l[i]? = some p := ⟨_, List.getElem?_eq_getElem (by omega)⟩
    obtain ⟨pb, hb1⟩ : ∃ p, l[i + 1]? = some p := ⟨_, List.getElem?_eq_getElem (by omega)⟩
    obtain ⟨pc, hc⟩ : ∃ p, l[i + 2]? = some p := ⟨_, List.getElem?_eq_getElem (by omega)⟩
    obtain ⟨pd, hd⟩ : ∃ p, l[i + 3]? = some p := ⟨_, List.getElem?_eq_getElem (by omega)⟩
    have ia := hB pa (List.mem_of_getElem? ha)
    have ib := hB pb (List.mem_of_getElem? hb1)
    have ic := hB pc (List.mem_of_getElem? hc)
    have id_ := hB pd (List.mem_of_getElem? hd)
    have la := fun (b : Nat) => ald_pt (b := b) (g := g) (rw_ := rw_) rest ha
    have lb := fun (b : Nat) => ald_pt (b := b) (g := g) (rw_ := rw_) rest hb1
    have lc := fun (b : Nat) => ald_pt (b := b) (g := g) (rw_ := rw_) rest hc
    have ld := fun (b : Nat) => ald_pt (b := b) (g := g) (rw_ := rw_) rest hd
    have hdrop : l.drop i = pa :: pb :: pc :: pd :: l.drop (i + 4) := by
      have g0 : ∀ j (h : j < l.length) p, l[j]? = some p → l.drop j = p :: l.drop (j + 1) := fun j h p e => by rw [drop_cons h]; congr 1; rw [List.getElem?_eq_getElem h] at e; exact Option.some.inj e
      rw [g0 i (by omega) pa ha, g0 (i + 1) (by omega) pb hb1, g0 (i + 2) (by omega) pc hc, g0 (i + 3) (by omega) pd hd]
    have hdrop3 : l.drop (i + 3) = pd :: l.drop (i + 4) := by
      rw [drop_cons (by omega)]; congr 1; rw [List.getElem?_eq_getElem (by omega)] at hd; exact Option.some.inj hd
    have hgo : flatGo (l.drop i) = (if pb = pa ∧ pc = pd then [pd] else bentL 3 pa pb pc pd) ++ flatGo (l.drop (i + 3)) := by rw [hdrop, hdrop3]; rfl
    have q0 : ∀ j : Nat, (0 : Int) ≤ (j : Int) := fun j => by omega
    have q1 : (i : Int) < (l.length : Int) := by omega
    have q2 : ((i + 1 : Nat) : Int) < (l.length : Int) := by omega
    have q3 : ((i + 2 : Nat) : Int) < (l.length : Int) := by omega
    have q4 : ((i + 3 : Nat) : Int) < (l.length : Int) := by omega
    have oc : o.length * 2 = (ptC o).length := (ptC_len o).symm
    have ob : ∀ n, n ≤ 8 → (o.length + n) * 16 - 140737488355328 = 0 := fun n hn => Nat.sub_eq_zero_of_le (Nat.le_trans (Nat.mul_le_mul_right 16 (show o.length + n ≤ 4000 by omega)) (by decide))
    have oc2 : ∀ n, n ≤ 8 → o.length + n - 140737488355328 = 0 := fun n hn => Nat.sub_eq_zero_of_le (Nat.le_trans (show o.length + n ≤ 4000 by omega) (by decide))
    have b8 := bend8 pa pb pc pd
    have t8 : (ptC (bentL 3 pa pb pc pd)).take 16 = ptC (bentL 3 pa pb pc pd) := List.take_of_length_le (by omega)
    have u8 : 0 + 16 - (ptC (bentL 3 pa pb pc pd)).length = 0 := by rw [b8]
    simp only [go_sem, Nat.reduceEqDiff, Nat.reduceAdd, Nat.reduceSub, Nat.reduceMul, Nat.reduceLT, Nat.reduceLeDiff, Int.reducePow, Int.reduceBEq, Int.reduceBNe, Int.reduceDiv, Int.reduceMod, Int.reduceEq, Int.reduceLT, Int.reduceLE, Int.reduceAdd, Int.reduceSub, Int.reduceMul, Int.reduceNeg, Int.reduceToNat, Int.reduceTDiv, Int.reduceTMod, ↓reduceIte, h1, h2, h3, h4, w3, dt q4, old_get hb]
    refine drawnU [(5, 27), (6, 27), (7, 27), (8, 27), (9, 27), (10, 27), (11, 27), (12, 27), (13, 27), (14, 27), (15, 27), (16, 27), (17, 27), (18, 27), (19, 27), (20, 27), (21, 27), (22, 27), (11, 28), (12, 28), (13, 28), (14, 28), (15, 28), (16, 28), (17, 28), (18, 28), (19, 28), (20, 28), (21, 28), (22, 28), (17, 29), (18, 29), (19, 29), (20, 29), (21, 29), (22, 29)] (by decide +kernel) ?_
    simp only [go_sem, Nat.reduceEqDiff, Nat.reduceAdd, Nat.reduceSub, Nat.reduceMul, Nat.reduceLT, Nat.reduceLeDiff, Int.reducePow, Int.reduceBEq, Int.reduceBNe, Int.reduceDiv, Int.reduceMod, Int.reduceEq, Int.reduceLT, Int.reduceLE, Int.reduceAdd, Int.reduceSub, Int.reduceMul, Int.reduceNeg, Int.reduceToNat, Int.reduceTDiv, Int.reduceTMod, ↓reduceIte, h1, h2, h3, h4, w1, w2, w3, q0, q1, q2, q3, q4, old_get hb, Int.toNat_natCast, Nat.zero_add, la, lb, lc, ld, ptv, old_ne hb, old_ne' hb, old_ne0 hb, old_ne0' hb]
    by_cases e1 : pb = pa
    · have e1' : ((pa.1 == pb.1) && (pa.2 == pb.2)) = true := by rw [pt_eq]; exact dt e1.symm
      by_cases e2 : pc = pd
      · have e2' : ((pc.1 == pd.1) && (pc.2 == pd.2)) = true := by rw [pt_eq]; exact dt e2
        simp only [go_sem, Nat.reduceEqDiff, Nat.reduceAdd, Nat.reduceSub, Nat.reduceMul, Nat.reduceLT, Nat.reduceLeDiff, Int.reducePow, Int.reduceBEq, Int.reduceBNe, Int.reduceDiv, Int.reduceMod, Int.reduceEq, Int.reduceLT, Int.reduceLE, Int.reduceAdd, Int.reduceSub, Int.reduceMul, Int.reduceNeg, Int.reduceToNat, Int.reduceTDiv, Int.reduceTMod, ↓reduceIte, h1, h2, h3, h4, e1', e2', oc, ob 1 (by omega), oc2 1 (by omega), w3]
        refine ⟨k - 1, by omega, o ++ [pd], g1 + 1, _, i + 3, by omega, by omega, ?_, by simp; omega, by rw [ptC_app, List.length_append]; rfl, rfl⟩
        rw [← hx, hgo, if_pos ⟨e1, e2⟩, List.append_assoc]
      · have e2' : ((pc.1 == pd.1) && (pc.2 == pd.2)) = false := by rw [pt_eq]; exact df e2
        simp only [go_sem, Nat.reduceEqDiff, Nat.reduceAdd, Nat.reduceSub, Nat.reduceMul, Nat.reduceLT, Nat.reduceLeDiff, Int.reducePow, Int.reduceBEq, Int.reduceBNe, Int.reduceDiv, Int.reduceMod, Int.reduceEq, Int.reduceLT, Int.reduceLE, Int.reduceAdd, Int.reduceSub, Int.reduceMul, Int.reduceNeg, Int.reduceToNat, Int.reduceTDiv, Int.reduceTMod, ↓reduceIte, h1, h2, h3, h4, e1', e2', oc]
        refine drawnF ?_ (by decide +kernel)
        simp only [go_sem, Nat.reduceEqDiff, Nat.reduceAdd, Nat.reduceSub, Nat.reduceMul, Nat.reduceLT, Nat.reduceLeDiff, Int.reducePow, Int.reduceBEq, Int.reduceBNe, Int.reduceDiv, Int.reduceMod, Int.reduceEq, Int.reduceLT, Int.reduceLE, Int.reduceAdd, Int.reduceSub, Int.reduceMul, Int.reduceNeg, Int.reduceToNat, Int.reduceTDiv, Int.reduceTMod, ↓reduceIte, h1, h2, h3, h4, e1', e2', oc, ptv]
        refine (rbend_ pa pb pc pd ia ib ic id_ _).x ?_
        simp only [go_sem, Nat.reduceEqDiff, Nat.reduceAdd, Nat.reduceSub, Nat.reduceMul, Nat.reduceLT, Nat.reduceLeDiff, Int.reducePow, Int.reduceBEq, Int.reduceBNe, Int.reduceDiv, Int.reduceMod, Int.reduceEq, Int.reduceLT, Int.reduceLE, Int.reduceAdd, Int.reduceSub, Int.reduceMul, Int.reduceNeg, Int.reduceToNat, Int.reduceTDiv, Int.reduceTMod, ↓reduceIte, h1, h2, h3, h4, oc, ob 8 (by omega), oc2 8 (by omega), w3, t8, u8]
        refine ⟨k - 1, by omega, o ++ bentL 3 pa pb pc pd, g1 + 1, _, i + 3, by omega, by omega, ?_, by rw [List.length_append, bentL_len]; omega, by rw [ptC_app, List.length_append, bentL_len], rfl⟩
        rw [← hx, hgo, if_neg (fun h => e2 h.2), List.append_assoc]
    · have e1' : ((pa.1 == pb.1) && (pa.2 == pb.2)) = false := by rw [pt_eq]; exact df (fun e => e1 e.symm)
      simp only [go_sem, Nat.reduceEqDiff, Nat.reduceAdd, Nat.reduceSub, Nat.reduceMul, Nat.reduceLT, Nat.reduceLeDiff, Int.reducePow, Int.reduceBEq, Int.reduceBNe, Int.reduceDiv, Int.reduceMod, Int.reduceEq, Int.reduceLT, Int.reduceLE, Int.reduceAdd, Int.reduceSub, Int.reduceMul, Int.reduceNeg, Int.reduceToNat, Int.reduceTDiv, Int.reduceTMod, ↓reduceIte, h1, h2, h3, h4, e1', oc]
      refine drawnF ?_ (by decide +kernel)
      simp only [go_sem, Nat.reduceEqDiff, Nat.reduceAdd, Nat.reduceSub, Nat.reduceMul, Nat.reduceLT, Nat.reduceLeDiff, Int.reducePow, Int.reduceBEq, Int.reduceBNe, Int.reduceDiv, Int.reduceMod, Int.reduceEq, Int.reduceLT, Int.reduceLE, Int.reduceAdd, Int.reduceSub, Int.reduceMul, Int.reduceNeg, Int.reduceToNat, Int.reduceTDiv, Int.reduceTMod, ↓reduceIte, h1, h2, h3, h4, e1', oc, ptv]
      refine (rbend_ pa pb pc pd ia ib ic id_ _).x ?_
      simp only [go_sem, Nat.reduceEqDiff, Nat.reduceAdd, Nat.reduceSub, Nat.reduceMul, Nat.reduceLT, Nat.reduceLeDiff, Int.reducePow, Int.reduceBEq, Int.reduceBNe, Int.reduceDiv, Int.reduceMod, Int.reduceEq, Int.reduceLT, Int.reduceLE, Int.reduceAdd, Int.reduceSub, Int.reduceMul, Int.reduceNeg, Int.reduceToNat, Int.reduceTDiv, Int.reduceTMod, ↓reduceIte, h1, h2, h3, h4, oc, ob 8 (by omega), oc2 8 (by omega), w3, t8, u8]
      refine ⟨k - 1, by omega, o ++ bentL 3 pa pb pc pd, g1 + 1, _, i + 3, by omega, by omega, ?_, by rw [List.length_append, bentL_len]; omega, by rw [ptC_app, List.length_append, bentL_len], rfl⟩
      rw [← hx, hgo, if_neg (fun h => e1 h.1), List.append_assoc]
  · have hend : flatGo (l.drop i) = [] := by
      have : (l.drop i).length ≤ 3 := by rw [List.length_drop]; omega
      match hq : l.drop i, this with
      | [], _ => rfl
      | [_], _ => rfl
      | [_, _], _ => rfl
      | [_, _, _], _ => rfl
      | _ :: _ :: _ :: _ :: _, h => simp at h
    rw [hend, List.append_nil] at hx
    simp only [go_sem, Nat.reduceEqDiff, Nat.reduceAdd, Nat.reduceSub, Nat.reduceMul, Nat.reduceLT, Nat.reduceLeDiff, Int.reducePow, Int.reduceBEq, Int.reduceBNe, Int.reduceDiv, Int.reduceMod, Int.reduceEq, Int.reduceLT, Int.reduceLE, Int.reduceAdd, Int.reduceSub, Int.reduceMul, Int.reduceNeg, Int.reduceToNat, Int.reduceTDiv, Int.reduceTMod, ↓reduceIte, h1, h2, h3, h4, w3, df (show ¬ ((i + 3 : Nat) : Int) < (l.length : Int) by omega), old_get hb]
    subst hx
    exact ⟨H.length + 2, g1, by omega, by rw [hget_app]; rfl, ren_path _ _ _ _ _ (by omega), ptC_ren _ _ _⟩
end Go.Proofs.Ythoclopeajkcpaa
/- Chapter 8: the walks of what compares points and rows of points. -/
namespace Go.Proofs.Ythoclopeajkcpaa
open Go Go.RowKit E
/-- A call that only adds blocks. -/
theorem adds_of {P : Program} {f : FuncId} {args : List Value} {H : AH} {Q : Value → AH → Prop} (h : @XCal P f args H ⟨fun v H1 W => W = [] ∧ Q v H1⟩) :
    Cal P f args H fun v H' W => W = [] ∧ (∃ L, H' = H ++ L) ∧ Q v H' := by
  unfold XCal at h
  obtain ⟨v, H1, W1, h1, rfl, hq⟩ := h
  refine ⟨v, H1, [], h1, rfl, ⟨H1.drop H.length, ?_⟩, hq⟩
  apply List.ext_getElem?
  intro i
  by_cases hi : i < H.length
  · rw [List.getElem?_append_left hi]; exact h1.1.2.2 i hi (by simp)
  · rw [List.getElem?_append_right (by omega), List.getElem?_drop]; congr 1; omega
attribute [local irreducible] XRun XOps XCode XCal XLoop XQ SemCall
set_option linter.unusedSimpArgs false
set_option linter.unusedVariables false
theorem rpoints_ (l : List Pt) (pv pv' : Value) (H : AH) (h : Pts H pv l) (h' : Pts H pv' l) : SemCall Try.prog 23 [pv, pv'] H (.bool true) H [] := by
  have hlen := h.len
  refine pure_of ?_ rfl
  by_cases hn : l = []
  · obtain ⟨a, e, rfl⟩ := h.form
    obtain ⟨a', e', rfl⟩ := h'.form
    subst hn
    refine XCal.of hm Try.func23 rfl (fun xs w => Try.call23 xs w) Try.ntmps23 Try.results23 rfl ?_
    simp only [go_sem, Nat.reduceEqDiff, Nat.reduceAdd, Nat.reduceSub, Nat.reduceMul, Nat.reduceLT, Nat.reduceLeDiff, Int.reducePow, Int.reduceBEq, Int.reduceBNe, Int.reduceDiv, Int.reduceMod, Int.reduceEq, Int.reduceLT, Int.reduceLE, Int.reduceAdd, Int.reduceSub, Int.reduceMul, Int.reduceNeg, Int.reduceToNat, Int.reduceTDiv, Int.reduceTMod, ↓reduceIte, List.length_nil, show ((0 : Nat) : Int) = 0 from rfl]
    refine rounds 1 ?_
    simp only [go_sem, Nat.reduceEqDiff, Nat.reduceAdd, Nat.reduceSub, Nat.reduceMul, Nat.reduceLT, Nat.reduceLeDiff, Int.reducePow, Int.reduceBEq, Int.reduceBNe, Int.reduceDiv, Int.reduceMod, Int.reduceEq, Int.reduceLT, Int.reduceLE, Int.reduceAdd, Int.reduceSub, Int.reduceMul, Int.reduceNeg, Int.reduceToNat, Int.reduceTDiv, Int.reduceTMod, ↓reduceIte, List.length_nil, show ((0 : Nat) : Int) = 0 from rfl]
  · obtain ⟨b, g, rest, rw_, rfl, hb, _⟩ := h.ne hn
    obtain ⟨b', g', rest', rw', rfl, hb', _⟩ := h'.ne hn
    refine XCal.of hm Try.func23 rfl (fun xs w => Try.call23 xs w) Try.ntmps23 Try.results23 rfl ?_
    simp only [go_sem, Nat.reduceEqDiff, Nat.reduceAdd, Nat.reduceSub, Nat.reduceMul, Nat.reduceLT, Nat.reduceLeDiff, Int.reducePow, Int.reduceBEq, Int.reduceBNe, Int.reduceDiv, Int.reduceMod, Int.reduceEq, Int.reduceLT, Int.reduceLE, Int.reduceAdd, Int.reduceSub, Int.reduceMul, Int.reduceNeg, Int.reduceToNat, Int.reduceTDiv, Int.reduceTMod, ↓reduceIte, nt (show ((l.length : Nat) : Int) = (l.length : Nat) from rfl)]
    refine keep (fun k T H' D => D = [] ∧ H' = H ∧ ∃ (i : Nat), i + k = l.length ∧ T 0 = sl b 0 g l.length 2 ∧ T 1 = sl b' 0 g' l.length 2 ∧ T 5 = .int .i64 (i : Int)) l.length
      ⟨rfl, rfl, 0, by omega, rfl, rfl, rfl⟩ ?_
    rintro k T H' D ⟨rfl, rfl, i, hik, h0, h1, h5⟩
    by_cases hk : i < l.length
    · obtain ⟨p, hp, _⟩ := getD_some hk
      have ld := fun (c : Nat) => ald_pt (b := c) (g := g) (rw_ := rw_) rest hp
      have ld' := fun (c : Nat) => ald_pt (b := c) (g := g') (rw_ := rw') rest' hp
      simp only [go_sem, Nat.reduceEqDiff, Nat.reduceAdd, Nat.reduceSub, Nat.reduceMul, Nat.reduceLT, Nat.reduceLeDiff, Int.reducePow, Int.reduceBEq, Int.reduceBNe, Int.reduceDiv, Int.reduceMod, Int.reduceEq, Int.reduceLT, Int.reduceLE, Int.reduceAdd, Int.reduceSub, Int.reduceMul, Int.reduceNeg, Int.reduceToNat, Int.reduceTDiv, Int.reduceTMod, ↓reduceIte, h0, h1, h5, dt (show (i : Int) < (l.length : Int) by omega)]
      repeat ((first | refine (rnearp_ p _).x ?_ | refine drawnF ?_ (by decide +kernel)); simp only [go_sem, Nat.reduceEqDiff, Nat.reduceAdd, Nat.reduceSub, Nat.reduceMul, Nat.reduceLT, Nat.reduceLeDiff, Int.reducePow, Int.reduceBEq, Int.reduceBNe, Int.reduceDiv, Int.reduceMod, Int.reduceEq, Int.reduceLT, Int.reduceLE, Int.reduceAdd, Int.reduceSub, Int.reduceMul, Int.reduceNeg, Int.reduceToNat, Int.reduceTDiv, Int.reduceTMod, ↓reduceIte, h0, h1, h5, show (0 : Int) ≤ (i : Int) by omega, show (i : Int) < (l.length : Int) by omega, Int.toNat_natCast, Nat.zero_add, hb, hb', ld, ld', ptv, beq_self_eq_true, bne_self_eq_false])
      exact ⟨k - 1, by omega, i + 1, by omega, by rw [wi (by omega) (by omega)]; rfl⟩
    · simp only [go_sem, Nat.reduceEqDiff, Nat.reduceAdd, Nat.reduceSub, Nat.reduceMul, Nat.reduceLT, Nat.reduceLeDiff, Int.reducePow, Int.reduceBEq, Int.reduceBNe, Int.reduceDiv, Int.reduceMod, Int.reduceEq, Int.reduceLT, Int.reduceLE, Int.reduceAdd, Int.reduceSub, Int.reduceMul, Int.reduceNeg, Int.reduceToNat, Int.reduceTDiv, Int.reduceTMod, ↓reduceIte, h0, h1, h5, df (show ¬ (i : Int) < (l.length : Int) by omega)]
theorem rpolys_ (ps : List PL) (v v' : Value) (H : AH) (h : Polys H v ps) (h' : Polys H v' ps) : SemCall Try.prog 50 [v, v'] H (.bool true) H [] := by
  refine pure_of ?_ rfl
  by_cases hn : ps = []
  · obtain ⟨a, e, rfl⟩ := h.form
    obtain ⟨a', e', rfl⟩ := h'.form
    subst hn
    refine XCal.of hm Try.func50 rfl (fun xs w => Try.call50 xs w) Try.ntmps50 Try.results50 rfl ?_
    simp only [go_sem, Nat.reduceEqDiff, Nat.reduceAdd, Nat.reduceSub, Nat.reduceMul, Nat.reduceLT, Nat.reduceLeDiff, Int.reducePow, Int.reduceBEq, Int.reduceBNe, Int.reduceDiv, Int.reduceMod, Int.reduceEq, Int.reduceLT, Int.reduceLE, Int.reduceAdd, Int.reduceSub, Int.reduceMul, Int.reduceNeg, Int.reduceToNat, Int.reduceTDiv, Int.reduceTMod, ↓reduceIte, List.length_nil, show ((0 : Nat) : Int) = 0 from rfl]
    refine rounds 1 ?_
    simp only [go_sem, Nat.reduceEqDiff, Nat.reduceAdd, Nat.reduceSub, Nat.reduceMul, Nat.reduceLT, Nat.reduceLeDiff, Int.reducePow, Int.reduceBEq, Int.reduceBNe, Int.reduceDiv, Int.reduceMod, Int.reduceEq, Int.reduceLT, Int.reduceLE, Int.reduceAdd, Int.reduceSub, Int.reduceMul, Int.reduceNeg, Int.reduceToNat, Int.reduceTDiv, Int.reduceTMod, ↓reduceIte, List.length_nil, show ((0 : Nat) : Int) = 0 from rfl]
  · obtain ⟨b, g, rest, rw_, vs, rfl, hb, hvl, hlen, hel⟩ := h.ne hn
    obtain ⟨b', g', rest', rw', vs', rfl, hb', hvl', _, hel'⟩ := h'.ne hn
    refine XCal.of hm Try.func50 rfl (fun xs w => Try.call50 xs w) Try.ntmps50 Try.results50 rfl ?_
    simp only [go_sem, Nat.reduceEqDiff, Nat.reduceAdd, Nat.reduceSub, Nat.reduceMul, Nat.reduceLT, Nat.reduceLeDiff, Int.reducePow, Int.reduceBEq, Int.reduceBNe, Int.reduceDiv, Int.reduceMod, Int.reduceEq, Int.reduceLT, Int.reduceLE, Int.reduceAdd, Int.reduceSub, Int.reduceMul, Int.reduceNeg, Int.reduceToNat, Int.reduceTDiv, Int.reduceTMod, ↓reduceIte, nt (show ((ps.length : Nat) : Int) = (ps.length : Nat) from rfl)]
    refine keep (fun k T H' D => D = [] ∧ H' = H ∧ ∃ (i : Nat), i + k = ps.length ∧ T 0 = sl b 0 g ps.length 2 ∧ T 1 = sl b' 0 g' ps.length 2 ∧ T 5 = .int .i64 (i : Int)) ps.length
      ⟨rfl, rfl, 0, by omega, rfl, rfl, rfl⟩ ?_
    rintro k T H' D ⟨rfl, rfl, i, hik, h0, h1, h5⟩
    by_cases hk : i < ps.length
    · obtain ⟨x, hxi, hdr⟩ := getD_some hk
      obtain ⟨pv, hvi, hp⟩ := hel i x hxi
      obtain ⟨pv', hvi', hp'⟩ := hel' i x hxi
      have g1 := plC_get vs i _ rest hvi
      have g2 := plC_get vs' i _ rest' hvi'
      have rp := rpoints_ x.2 pv pv' H' hp hp'
      have q0 : (0 : Int) ≤ (i : Int) := by omega
      have q1 : (i : Int) < (ps.length : Int) := by omega
      simp only [go_sem, Nat.reduceEqDiff, Nat.reduceAdd, Nat.reduceSub, Nat.reduceMul, Nat.reduceLT, Nat.reduceLeDiff, Int.reducePow, Int.reduceBEq, Int.reduceBNe, Int.reduceDiv, Int.reduceMod, Int.reduceEq, Int.reduceLT, Int.reduceLE, Int.reduceAdd, Int.reduceSub, Int.reduceMul, Int.reduceNeg, Int.reduceToNat, Int.reduceTDiv, Int.reduceTMod, ↓reduceIte, h0, h1, h5, dt q1]
      repeat ((first | refine (rp).x ?_ | refine drawnF ?_ (by decide +kernel)); simp only [go_sem, Nat.reduceEqDiff, Nat.reduceAdd, Nat.reduceSub, Nat.reduceMul, Nat.reduceLT, Nat.reduceLeDiff, Int.reducePow, Int.reduceBEq, Int.reduceBNe, Int.reduceDiv, Int.reduceMod, Int.reduceEq, Int.reduceLT, Int.reduceLE, Int.reduceAdd, Int.reduceSub, Int.reduceMul, Int.reduceNeg, Int.reduceToNat, Int.reduceTDiv, Int.reduceTMod, ↓reduceIte, h0, h1, h5, q0, q1, Int.toNat_natCast, Nat.zero_add, Nat.add_zero, hb, hb', g1.1, g1.2, g2.1, g2.2, beq_self_eq_true, bne_self_eq_false])
      exact ⟨k - 1, by omega, i + 1, by omega, by rw [wi (by omega) (by omega)]; rfl⟩
    · simp only [go_sem, Nat.reduceEqDiff, Nat.reduceAdd, Nat.reduceSub, Nat.reduceMul, Nat.reduceLT, Nat.reduceLeDiff, Int.reducePow, Int.reduceBEq, Int.reduceBNe, Int.reduceDiv, Int.reduceMod, Int.reduceEq, Int.reduceLT, Int.reduceLE, Int.reduceAdd, Int.reduceSub, Int.reduceMul, Int.reduceNeg, Int.reduceToNat, Int.reduceTDiv, Int.reduceTMod, ↓reduceIte, h0, h1, h5, df (show ¬ (i : Int) < (ps.length : Int) by omega)]
end Go.Proofs.Ythoclopeajkcpaa
/- Chapter 8: rows of points and of polys that are being made; the walks of maps. -/
namespace Go.Proofs.Ythoclopeajkcpaa
open Go Go.RowKit E
theorem of_x {P : Program} {f : FuncId} {args : List Value} {H : AH} {Q : Value → AH → List Nat → Prop} (h : @XCal P f args H ⟨Q⟩) : Cal P f args H Q := h
attribute [local irreducible] XRun XOps XCode XCal XLoop XQ SemCall
set_option linter.unusedSimpArgs false
set_option linter.unusedVariables false
/-- What was, is. -/
def Old (H K : AH) : Prop := ∀ (c : Nat) (k : Blk), H[c]? = some k → K[c]? = some k
theorem Old.refl (H : AH) : Old H H := fun _ _ h => h
theorem Old.app {H K : AH} (h : Old H K) (L : AH) : Old H (K ++ L) := fun c k e => old_get (h c k e) L
theorem Old.app' (H L : AH) : Old H (H ++ L) := fun c k e => old_get e L
theorem Old.set {H K : AH} (h : Old H K) {b : Nat} (hb : H.length ≤ b) (x : Blk) (L : AH) : Old H (K.set b x ++ L) := fun c k e => by
  have hc := (List.getElem?_eq_some_iff.1 e).1
  refine old_get ?_ L
  rw [List.getElem?_set_ne (by omega)]; exact h c k e
theorem Old.trans {H K J : AH} (h : Old H K) (h' : Old K J) : Old H J := fun c k e => h' c k (h c k e)
theorem Pts.old {H K : AH} {pv : Value} {l : List Pt} (h : Pts H pv l) (o : Old H K) : Pts K pv l := by
  rcases h with h | ⟨b, g, rest, rw_, h1, h2, h3⟩
  · exact .inl h
  · exact .inr ⟨b, g, rest, rw_, h1, o _ _ h2, h3⟩
theorem Polys.old {H K : AH} {v : Value} {ps : List PL} (h : Polys H v ps) (o : Old H K) : Polys K v ps := by
  rcases h with h | ⟨b, g, rest, rw_, vs, h1, h2, h3, h4, h5⟩
  · exact .inl h
  · exact .inr ⟨b, g, rest, rw_, vs, h1, o _ _ h2, h3, h4, fun i x hx => by obtain ⟨pv, e1, e2⟩ := h5 i x hx; exact ⟨pv, e1, e2.old o⟩⟩
/-- Points that lie in a new block, apart from one block. -/
def PtsF (n0 bad : Nat) (K : AH) (pv : Value) (l : List Pt) : Prop :=
  (l = [] ∧ pv = .slice none 0 0) ∨ ∃ b g rest rw_, n0 ≤ b ∧ b ≠ bad ∧ pv = sl b 0 g l.length 2 ∧ K[b]? = some ⟨ptC l ++ rest, g, rw_⟩ ∧ l.length ≤ 9223372036854775807
theorem PtsF.pts {n0 bad : Nat} {K : AH} {pv : Value} {l : List Pt} (h : PtsF n0 bad K pv l) : Pts K pv l := by
  rcases h with ⟨h1, h2⟩ | ⟨b, g, rest, rw_, _, _, h1, h2, h3⟩
  · exact .inl ⟨h1, .inr h2⟩
  · exact .inr ⟨b, g, rest, rw_, h1, h2, h3⟩
theorem PtsF.app {n0 bad : Nat} {K : AH} {pv : Value} {l : List Pt} (h : PtsF n0 bad K pv l) (L : AH) : PtsF n0 bad (K ++ L) pv l := by
  rcases h with h | ⟨b, g, rest, rw_, h0, h0', h1, h2, h3⟩
  · exact .inl h
  · exact .inr ⟨b, g, rest, rw_, h0, h0', h1, old_get h2 L, h3⟩
theorem PtsF.set {n0 bad : Nat} {K : AH} {pv : Value} {l : List Pt} (h : PtsF n0 bad K pv l) (x : Blk) : PtsF n0 bad (K.set bad x) pv l := by
  rcases h with h | ⟨b, g, rest, rw_, h0, h0', h1, h2, h3⟩
  · exact .inl h
  · exact .inr ⟨b, g, rest, rw_, h0, h0', h1, by rw [List.getElem?_set_ne (fun e => h0' e.symm)]; exact h2, h3⟩
theorem PtsF.weak {n0 n1 bad bad' : Nat} {K : AH} {pv : Value} {l : List Pt} (h : PtsF n0 bad K pv l) (h1 : n1 ≤ n0) (h2 : bad' < n0) : PtsF n1 bad' K pv l := by
  rcases h with h | ⟨b, g, rest, rw_, h0, h0', h⟩
  · exact .inl h
  · exact .inr ⟨b, g, rest, rw_, by omega, by omega, h⟩
theorem PtsF.bad {n0 bad : Nat} {K : AH} {pv : Value} {l : List Pt} (h : PtsF n0 bad K pv l) {b' : Nat} (h' : K.length ≤ b') : PtsF n0 b' K pv l := by
  rcases h with h | ⟨b, g, rest, rw_, h0, h0', h1, h2, h3⟩
  · exact .inl h
  · exact .inr ⟨b, g, rest, rw_, h0, by have := (List.getElem?_eq_some_iff.1 h2).1; omega, h1, h2, h3⟩
/-- A row of polys that is being made. -/
def OutN (n0 : Nat) (K : AH) (b : Nat) (vs : List (Bool × Value)) (qs : List PL) : Prop :=
  vs.length = qs.length ∧ ∀ (i : Nat) x, qs[i]? = some x → ∃ pv, vs[i]? = some (x.1, pv) ∧ PtsF n0 b K pv x.2
def OutP (n0 : Nat) (K : AH) (v : Value) (qs : List PL) : Prop :=
  (qs = [] ∧ v = .slice none 0 0) ∨ ∃ b g vs, n0 ≤ b ∧ v = sl b 0 g qs.length 2 ∧ K[b]? = some ⟨plC vs, g, true⟩ ∧ OutN n0 K b vs qs
theorem OutP.polys {n0 : Nat} {K : AH} {v : Value} {qs : List PL} (h : OutP n0 K v qs) (hl : qs.length ≤ 9223372036854775807) : Polys K v qs := by
  rcases h with ⟨h1, h2⟩ | ⟨b, g, vs, h0, h1, h2, h3, h4⟩
  · exact .inl ⟨h1, .inr h2⟩
  · exact .inr ⟨b, g, [], true, vs, h1, by rw [List.append_nil]; exact h2, h3, hl, fun i x hx => by obtain ⟨pv, e1, e2⟩ := h4 i x hx; exact ⟨pv, e1, e2.pts⟩⟩
theorem OutP.app {n0 : Nat} {K : AH} {v : Value} {qs : List PL} (h : OutP n0 K v qs) (L : AH) : OutP n0 (K ++ L) v qs := by
  rcases h with h | ⟨b, g, vs, h0, h1, h2, h3, h4⟩
  · exact .inl h
  · exact .inr ⟨b, g, vs, h0, h1, old_get h2 L, h3, fun i x hx => by obtain ⟨pv, e1, e2⟩ := h4 i x hx; exact ⟨pv, e1, e2.app L⟩⟩
theorem OutN.push {n0 : Nat} {K : AH} {b : Nat} {vs ws : List (Bool × Value)} {qs rs : List PL} (h : OutN n0 K b vs qs) (h' : OutN n0 K b ws rs) : OutN n0 K b (vs ++ ws) (qs ++ rs) := by
  refine ⟨by rw [List.length_append, List.length_append, h.1, h'.1], fun i x hx => ?_⟩
  by_cases hi : i < qs.length
  · rw [List.getElem?_append_left hi] at hx
    rw [List.getElem?_append_left (by rw [h.1]; exact hi)]
    exact h.2 i x hx
  · rw [List.getElem?_append_right (by omega)] at hx
    rw [List.getElem?_append_right (by rw [h.1]; omega), h.1]
    exact h'.2 _ x hx
theorem OutN.mono {n0 n1 : Nat} {K J : AH} {b b' : Nat} {vs : List (Bool × Value)} {qs : List PL} (h : OutN n0 K b vs qs) (m : ∀ pv l, PtsF n0 b K pv l → PtsF n1 b' J pv l) : OutN n1 J b' vs qs :=
  ⟨h.1, fun i x hx => by obtain ⟨pv, e1, e2⟩ := h.2 i x hx; exact ⟨pv, e1, m _ _ e2⟩⟩
theorem OutN.one {n0 : Nat} {K : AH} {b : Nat} {c : Bool} {pv : Value} {l : List Pt} (h : PtsF n0 b K pv l) : OutN n0 K b [(c, pv)] [(c, l)] :=
  ⟨rfl, fun i x hx => by
    cases i with
    | zero => simp at hx; subst hx; exact ⟨pv, rfl, h⟩
    | succ i => simp at hx⟩
theorem PtsF.old {n0 bad : Nat} {K J : AH} {pv : Value} {l : List Pt} (h : PtsF n0 bad K pv l) (o : Old K J) : PtsF n0 bad J pv l := by
  rcases h with h | ⟨b, g, rest, rw_, h0, h0', h1, h2, h3⟩
  · exact .inl h
  · exact .inr ⟨b, g, rest, rw_, h0, h0', h1, o _ _ h2, h3⟩
theorem PtsF.form {n0 bad : Nat} {K : AH} {pv : Value} {l : List Pt} (h : PtsF n0 bad K pv l) : ∃ a e, pv = .slice a l.length e := by
  rcases h with ⟨rfl, rfl⟩ | ⟨b, g, rest, rw_, _, _, rfl, _⟩
  · exact ⟨_, _, rfl⟩
  · exact ⟨_, _, rfl⟩
/-- What was, is, apart from one block. -/
def Olx (bo : Nat) (K J : AH) : Prop := ∀ (c : Nat) (k : Blk), c ≠ bo → K[c]? = some k → J[c]? = some k
theorem Olx.set1 (bo : Nat) (K M : AH) (x : Blk) : Olx bo K (K.set bo x ++ M) := fun c k hc e => old_get (by rw [List.getElem?_set_ne (fun e => hc e.symm)]; exact e) M
theorem Olx.set2 (bo : Nat) (K L M : AH) (x : Blk) (hb : bo < K.length) : Olx bo (K ++ L) (K.set bo x ++ (L ++ M)) := fun c k hc e => by
  have h := Olx.set1 bo (K ++ L) M x c k hc e
  rw [List.set_append_left _ _ hb, List.append_assoc] at h
  exact h
theorem Olx.old {bo : Nat} {K J : AH} (o : Old K J) : Olx bo K J := fun c k _ e => o c k e
theorem PtsF.olx {n0 bad : Nat} {K J : AH} {pv : Value} {l : List Pt} (h : PtsF n0 bad K pv l) (o : Olx bad K J) : PtsF n0 bad J pv l := by
  rcases h with h | ⟨b, g, rest, rw_, h0, h0', h1, h2, h3⟩
  · exact .inl h
  · exact .inr ⟨b, g, rest, rw_, h0, h0', h1, o _ _ h0' h2, h3⟩
theorem Old.olx {H K J : AH} {bo : Nat} (h : Old H K) (o : Olx bo K J) (hb : H.length ≤ bo) : Old H J := fun c k e => o c k (by have := (List.getElem?_eq_some_iff.1 e).1; omega) (h c k e)
/-- The first of a row that is being made. -/
theorem OutP.first {n0 n1 bad : Nat} {K1 J : AH} {c : Bool} {pv : Value} {l : List Pt} (h : PtsF n1 bad K1 pv l) (o : Old K1 J) (hn : n0 ≤ n1) {b g : Nat} (hb : J[b]? = some ⟨[.bool c, pv], g, true⟩) (hbl : K1.length ≤ b) (hnb : n0 ≤ b) : OutP n0 J (sl b 0 g 1 2) [(c, l)] := by
  refine .inr ⟨b, g, [(c, pv)], hnb, rfl, hb, OutN.one (PtsF.old ?_ o)⟩
  have := h.bad hbl
  rcases this with h | ⟨b, g, rest, rw_, h0, h⟩
  · exact .inl h
  · exact .inr ⟨b, g, rest, rw_, by omega, h⟩
/-- One more of a row that is being made. -/
theorem OutP.next {n0 n1 bad bo go : Nat} {K K1 J : AH} {c : Bool} {pv : Value} {l : List Pt} {vo : List (Bool × Value)} {qs : List PL} (hov : OutN n0 K bo vo qs) (hbo : n0 ≤ bo) (o : Olx bo K J) (h : PtsF n1 bad K1 pv l) (o1 : Olx bo K1 J) (hn : bo < n1) (hb : J[bo]? = some ⟨plC vo ++ [.bool c, pv], go, true⟩) : OutP n0 J (sl bo 0 go (qs.length + 1) 2) (qs ++ [(c, l)]) := by
  refine .inr ⟨bo, go, vo ++ [(c, pv)], hbo, by rw [List.length_append]; rfl, by rw [plC_app]; exact hb, (hov.mono fun _ _ p => p.olx o).push (OutN.one ?_)⟩
  exact PtsF.olx (h.weak (by omega) hn) o1
theorem small_p {n k : Nat} (h : n ≤ 1000000) (hk : k ≤ 1000000) : (n + k) * 32 - 140737488355328 = 0 ∧ n + k - 140737488355328 = 0 := ⟨Nat.sub_eq_zero_of_le (Nat.le_trans (Nat.mul_le_mul_right 32 (show n + k ≤ 2000000 by omega)) (by decide)), Nat.sub_eq_zero_of_le (Nat.le_trans (show n + k ≤ 2000000 by omega) (by decide))⟩
theorem PtsF.low {n0 n1 bad : Nat} {K : AH} {pv : Value} {l : List Pt} (h : PtsF n0 bad K pv l) (h1 : n1 ≤ n0) : PtsF n1 bad K pv l := by
  rcases h with h | ⟨b, g, rest, rw_, h0, h0', h⟩
  · exact .inl h
  · exact .inr ⟨b, g, rest, rw_, by omega, h0', h⟩
theorem OutP.low {n0 n1 : Nat} {K : AH} {v : Value} {qs : List PL} (h : OutP n0 K v qs) (h1 : n1 ≤ n0) : OutP n1 K v qs := by
  rcases h with h | ⟨b, g, vs, h0, h2, h3, h4⟩
  · exact .inl h
  · exact .inr ⟨b, g, vs, by omega, h2, h3, h4.mono fun _ _ p => p.low h1⟩
theorem Old.app2 (K A M : AH) : Old (K ++ A) (K ++ (A ++ M)) := by rw [← List.append_assoc]; exact Old.app' _ _
theorem Old.apx (K A M : AH) : Old (K ++ A) (K ++ (A ++ M)) := by rw [← List.append_assoc]; exact Old.app' _ _
theorem Olx.trans {b : Nat} {H K J : AH} (h : Olx b H K) (h' : Olx b K J) : Olx b H J := fun c k hc e => h' c k hc (h c k hc e)
theorem Olx.set0 (b : Nat) (K : AH) (x : Blk) : Olx b K (K.set b x) := fun c k hc e => by rw [List.getElem?_set_ne (fun e => hc e.symm)]; exact e
theorem Olx.refl (b : Nat) (K : AH) : Olx b K K := fun _ _ _ e => e
theorem Olx.app {b : Nat} {H K : AH} (h : Olx b H K) (L : AH) : Olx b H (K ++ L) := fun c k hc e => old_get (h c k hc e) L
theorem Olx.bo {tb bo : Nat} {H K J : AH} (h : Olx tb H K) (hb : H.length ≤ bo) (o : Olx bo K J) : Olx tb H J := fun c k hc e => o c k (by have := (List.getElem?_eq_some_iff.1 e).1; omega) (h c k hc e)
theorem old_pre {K J : AH} (h : ∃ M, J = K ++ M) : Old K J := by obtain ⟨M, rfl⟩ := h; exact Old.app' _ _
theorem last2 (A L : AH) (x : Blk) (n : Nat) (h : n = A.length + L.length) : (A ++ (L ++ [x]))[n]? = some x := by
  subst h; rw [hget_app, hget_app0]; rfl
theorem olx_pre {bo : Nat} {K K1 J : AH} {x : Blk} (hb : bo < K.length) (h : ∃ L M, K1 = K ++ L ∧ J = K.set bo x ++ (L ++ M)) : Olx bo K1 J := by
  obtain ⟨L, M, rfl, rfl⟩ := h
  exact Olx.set2 bo K L M x hb
end Go.Proofs.Ythoclopeajkcpaa
/- Chapter 8: the walks of maps of points and of rows of points. -/
namespace Go.Proofs.Ythoclopeajkcpaa
open Go Go.RowKit E
attribute [local irreducible] XRun XOps XCode XCal XLoop XQ SemCall
set_option linter.unusedSimpArgs false
set_option linter.unusedVariables false
structure M6 where
  a : Int
  b : Int
  c : Int
  d : Int
  e : Int
  f : Int
abbrev M6.val (m : M6) : Value := mt m.a m.b m.c m.d m.e m.f
abbrev m6C (m : M6) : List Value := [.int .i64 m.a, .int .i64 m.b, .int .i64 m.c, .int .i64 m.d, .int .i64 m.e, .int .i64 m.f]
def M6.app (m : M6) (p : Pt) : Pt := (ap1 m.a m.c m.e p.1 p.2, ap1 m.b m.d m.f p.1 p.2)
/-- A row of points that is being made, behind n blocks. -/
def TP (n : Nat) (K : AH) (o : List Pt) (v : Value) (G : AH) : Prop :=
  (o = [] ∧ v = .slice none 0 0) ∨ ∃ g, v = sl n 0 g o.length 2 ∧ G = G
theorem small_o {o : List Pt} {n : Nat} (h : o.length ≤ 1000000) (hn : n ≤ 1000000) : o.length * 2 = (ptC o).length ∧ (o.length + n) * 16 - 140737488355328 = 0 ∧ o.length + n - 140737488355328 = 0 := ⟨(ptC_len o).symm, Nat.sub_eq_zero_of_le (Nat.le_trans (Nat.mul_le_mul_right 16 (show o.length + n ≤ 2000000 by omega)) (by decide)), Nat.sub_eq_zero_of_le (Nat.le_trans (show o.length + n ≤ 2000000 by omega) (by decide))⟩
theorem rmap_ (m : M6) (l : List Pt) (pv : Value) (H : AH) (h : Pts H pv l) (hl : l.length ≤ 100000) : Cal Try.prog 80 [m.val, pv] H fun v H' W => W = [] ∧ (∃ L, H' = H ++ L) ∧ PtsF H.length H'.length H' v (l.map m.app) := by
  refine adds_of ?_
  by_cases hn : l = []
  · obtain ⟨a, e, rfl⟩ := h.form
    subst hn
    refine XCal.of hm Try.func80 rfl (fun xs w => Try.call80 xs w) Try.ntmps80 Try.results80 rfl ?_
    simp only [go_sem, Nat.reduceEqDiff, Nat.reduceAdd, Nat.reduceSub, Nat.reduceMul, Nat.reduceLT, Nat.reduceLeDiff, Int.reducePow, Int.reduceBEq, Int.reduceBNe, Int.reduceDiv, Int.reduceMod, Int.reduceEq, Int.reduceLT, Int.reduceLE, Int.reduceAdd, Int.reduceSub, Int.reduceMul, Int.reduceNeg, Int.reduceToNat, Int.reduceTDiv, Int.reduceTMod, ↓reduceIte, mt]
    refine rounds 1 ?_
    simp only [go_sem, Nat.reduceEqDiff, Nat.reduceAdd, Nat.reduceSub, Nat.reduceMul, Nat.reduceLT, Nat.reduceLeDiff, Int.reducePow, Int.reduceBEq, Int.reduceBNe, Int.reduceDiv, Int.reduceMod, Int.reduceEq, Int.reduceLT, Int.reduceLE, Int.reduceAdd, Int.reduceSub, Int.reduceMul, Int.reduceNeg, Int.reduceToNat, Int.reduceTDiv, Int.reduceTMod, ↓reduceIte, List.length_nil, show ((0 : Nat) : Int) = 0 from rfl]
    exact .inl ⟨rfl, rfl⟩
  · obtain ⟨b, g, rest, rw_, rfl, hb, _⟩ := h.ne hn
    refine XCal.of hm Try.func80 rfl (fun xs w => Try.call80 xs w) Try.ntmps80 Try.results80 rfl ?_
    simp only [go_sem, Nat.reduceEqDiff, Nat.reduceAdd, Nat.reduceSub, Nat.reduceMul, Nat.reduceLT, Nat.reduceLeDiff, Int.reducePow, Int.reduceBEq, Int.reduceBNe, Int.reduceDiv, Int.reduceMod, Int.reduceEq, Int.reduceLT, Int.reduceLE, Int.reduceAdd, Int.reduceSub, Int.reduceMul, Int.reduceNeg, Int.reduceToNat, Int.reduceTDiv, Int.reduceTMod, ↓reduceIte, mt]
    refine keep (fun k T H' D => D = [] ∧ ∃ (i : Nat), i + k = l.length ∧ T 2 = ap H.length 0 0 ∧ T 1 = sl b 0 g l.length 2 ∧ T 6 = .int .i64 (i : Int) ∧ ((i = 0 ∧ T 5 = .slice none 0 0 ∧ H' = H ++ [⟨m6C m, 0, true⟩]) ∨ ∃ g1 X G, 0 < i ∧ T 5 = sl (H.length + 2) 0 g1 i 2 ∧ H' = H ++ (⟨m6C m, 0, true⟩ :: X :: ⟨ptC ((l.map m.app).take i), g1, true⟩ :: G))) l.length
      ⟨rfl, 0, by omega, by simp only [go_sem, Nat.reduceEqDiff, Nat.reduceAdd, Nat.reduceSub, Nat.reduceMul, Nat.reduceLT, Nat.reduceLeDiff, Int.reducePow, Int.reduceBEq, Int.reduceBNe, Int.reduceDiv, Int.reduceMod, Int.reduceEq, Int.reduceLT, Int.reduceLE, Int.reduceAdd, Int.reduceSub, Int.reduceMul, Int.reduceNeg, Int.reduceToNat, Int.reduceTDiv, Int.reduceTMod, ↓reduceIte] <;> rfl, by simp only [go_sem, Nat.reduceEqDiff, Nat.reduceAdd, Nat.reduceSub, Nat.reduceMul, Nat.reduceLT, Nat.reduceLeDiff, Int.reducePow, Int.reduceBEq, Int.reduceBNe, Int.reduceDiv, Int.reduceMod, Int.reduceEq, Int.reduceLT, Int.reduceLE, Int.reduceAdd, Int.reduceSub, Int.reduceMul, Int.reduceNeg, Int.reduceToNat, Int.reduceTDiv, Int.reduceTMod, ↓reduceIte], by simp only [go_sem, Nat.reduceEqDiff, Nat.reduceAdd, Nat.reduceSub, Nat.reduceMul, Nat.reduceLT, Nat.reduceLeDiff, Int.reducePow, Int.reduceBEq, Int.reduceBNe, Int.reduceDiv, Int.reduceMod, Int.reduceEq, Int.reduceLT, Int.reduceLE, Int.reduceAdd, Int.reduceSub, Int.reduceMul, Int.reduceNeg, Int.reduceToNat, Int.reduceTDiv, Int.reduceTMod, ↓reduceIte] <;> rfl, .inl ⟨rfl, by simp only [go_sem, Nat.reduceEqDiff, Nat.reduceAdd, Nat.reduceSub, Nat.reduceMul, Nat.reduceLT, Nat.reduceLeDiff, Int.reducePow, Int.reduceBEq, Int.reduceBNe, Int.reduceDiv, Int.reduceMod, Int.reduceEq, Int.reduceLT, Int.reduceLE, Int.reduceAdd, Int.reduceSub, Int.reduceMul, Int.reduceNeg, Int.reduceToNat, Int.reduceTDiv, Int.reduceTMod, ↓reduceIte] <;> rfl, rfl⟩⟩ ?_
    rintro k T H' D ⟨rfl, i, hik, h2, h1, h6, hC⟩
    by_cases hk : i < l.length
    · obtain ⟨p, hp, _⟩ := getD_some hk
      have ld := fun (c : Nat) => ald_pt (b := c) (g := g) (rw_ := rw_) rest hp
      have q0 : (0 : Int) ≤ (i : Int) := by omega
      have q1 : (i : Int) < (l.length : Int) := by omega
      have w1 : IntKind.i64.wrap ((i : Int) + 1) = ((i + 1 : Nat) : Int) := by rw [wi (by omega) (by omega)]; rfl
      have htk : (l.map m.app).take (i + 1) = (l.map m.app).take i ++ [m.app p] := by rw [List.take_add_one, List.getElem?_map, hp]; rfl
      have hlen : ((l.map m.app).take i).length = i := by rw [List.length_take, List.length_map]; omega
      have hs := small_o (o := (l.map m.app).take i) (n := 1) (by rw [hlen]; omega) (by omega)
      rw [hlen] at hs
      rcases hC with ⟨hi0, h5, rfl⟩ | ⟨g1, X, G, hi0, h5, rfl⟩
      · simp only [go_sem, Nat.reduceEqDiff, Nat.reduceAdd, Nat.reduceSub, Nat.reduceMul, Nat.reduceLT, Nat.reduceLeDiff, Int.reducePow, Int.reduceBEq, Int.reduceBNe, Int.reduceDiv, Int.reduceMod, Int.reduceEq, Int.reduceLT, Int.reduceLE, Int.reduceAdd, Int.reduceSub, Int.reduceMul, Int.reduceNeg, Int.reduceToNat, Int.reduceTDiv, Int.reduceTMod, ↓reduceIte, h2, h1, h6, h5, dt q1]
        repeat ((first | refine (rapply_ _ _ _ _ _ _ _ _ _).x ?_ | refine drawnF ?_ (by decide +kernel) | refine drawnU [(0, 6)] (by decide +kernel) ?_); simp only [go_sem, Nat.reduceEqDiff, Nat.reduceAdd, Nat.reduceSub, Nat.reduceMul, Nat.reduceLT, Nat.reduceLeDiff, Int.reducePow, Int.reduceBEq, Int.reduceBNe, Int.reduceDiv, Int.reduceMod, Int.reduceEq, Int.reduceLT, Int.reduceLE, Int.reduceAdd, Int.reduceSub, Int.reduceMul, Int.reduceNeg, Int.reduceToNat, Int.reduceTDiv, Int.reduceTMod, ↓reduceIte, h2, h1, h6, h5, q0, q1, Int.toNat_natCast, Nat.zero_add, old_get hb, ld, ptv, pt, mt, w1])
        exact ⟨k - 1, by omega, i + 1, by omega, rfl, .inr ⟨0, _, [], by omega, by rw [hi0], by rw [htk, hi0]; rfl⟩⟩
      · simp only [go_sem, Nat.reduceEqDiff, Nat.reduceAdd, Nat.reduceSub, Nat.reduceMul, Nat.reduceLT, Nat.reduceLeDiff, Int.reducePow, Int.reduceBEq, Int.reduceBNe, Int.reduceDiv, Int.reduceMod, Int.reduceEq, Int.reduceLT, Int.reduceLE, Int.reduceAdd, Int.reduceSub, Int.reduceMul, Int.reduceNeg, Int.reduceToNat, Int.reduceTDiv, Int.reduceTMod, ↓reduceIte, h2, h1, h6, h5, dt q1]
        repeat ((first | refine (rapply_ _ _ _ _ _ _ _ _ _).x ?_ | refine drawnF ?_ (by decide +kernel) | refine drawnU [(0, 6)] (by decide +kernel) ?_); simp only [go_sem, Nat.reduceEqDiff, Nat.reduceAdd, Nat.reduceSub, Nat.reduceMul, Nat.reduceLT, Nat.reduceLeDiff, Int.reducePow, Int.reduceBEq, Int.reduceBNe, Int.reduceDiv, Int.reduceMod, Int.reduceEq, Int.reduceLT, Int.reduceLE, Int.reduceAdd, Int.reduceSub, Int.reduceMul, Int.reduceNeg, Int.reduceToNat, Int.reduceTDiv, Int.reduceTMod, ↓reduceIte, h2, h1, h6, h5, q0, q1, Int.toNat_natCast, Nat.zero_add, old_get hb, ld, ptv, pt, mt, w1, hs.1.symm, hs.2.1, hs.2.2])
        exact ⟨k - 1, by omega, i + 1, by omega, rfl, .inr ⟨g1 + 1, _, _, by omega, rfl, by rw [htk, ptC_app]; rfl⟩⟩
    · have hi : i = l.length := by omega
      subst hi
      simp only [go_sem, Nat.reduceEqDiff, Nat.reduceAdd, Nat.reduceSub, Nat.reduceMul, Nat.reduceLT, Nat.reduceLeDiff, Int.reducePow, Int.reduceBEq, Int.reduceBNe, Int.reduceDiv, Int.reduceMod, Int.reduceEq, Int.reduceLT, Int.reduceLE, Int.reduceAdd, Int.reduceSub, Int.reduceMul, Int.reduceNeg, Int.reduceToNat, Int.reduceTDiv, Int.reduceTMod, ↓reduceIte, h2, h1, h6, df (show ¬ ((l.length : Nat) : Int) < (l.length : Int) by omega)]
      rcases hC with ⟨e, h5, rfl⟩ | ⟨g1, X, G, hi0, h5, rfl⟩
      · exact absurd (List.eq_nil_of_length_eq_zero e) hn
      · have hlen : (l.map m.app).length = l.length := List.length_map ..
        refine .inr ⟨H.length + 2, g1, [], true, by omega, ?_, by rw [hlen]; exact h5, ?_, by rw [hlen]; omega⟩
        · simp
        · rw [hget_app, List.append_nil, List.take_of_length_le (by omega)]; rfl
def M6.pl (m : M6) (x : PL) : PL := (x.1, x.2.map m.app)
theorem rlines_ (m : M6) (ps : List PL) (v : Value) (H : AH) (h : Polys H v ps) (hl : ps.length ≤ 100000) (hl2 : ∀ x ∈ ps, x.2.length ≤ 100000) : Cal Try.prog 52 [m.val, v] H fun v' H' W => W = [] ∧ (∃ L, H' = H ++ L) ∧ OutP H.length H' v' (ps.map m.pl) := by
  refine adds_of ?_
  by_cases hn : ps = []
  · obtain ⟨a, e, rfl⟩ := h.form
    subst hn
    refine XCal.of hm Try.func52 rfl (fun xs w => Try.call52 xs w) Try.ntmps52 Try.results52 rfl ?_
    simp only [go_sem, Nat.reduceEqDiff, Nat.reduceAdd, Nat.reduceSub, Nat.reduceMul, Nat.reduceLT, Nat.reduceLeDiff, Int.reducePow, Int.reduceBEq, Int.reduceBNe, Int.reduceDiv, Int.reduceMod, Int.reduceEq, Int.reduceLT, Int.reduceLE, Int.reduceAdd, Int.reduceSub, Int.reduceMul, Int.reduceNeg, Int.reduceToNat, Int.reduceTDiv, Int.reduceTMod, ↓reduceIte, mt]
    refine rounds 1 ?_
    simp only [go_sem, Nat.reduceEqDiff, Nat.reduceAdd, Nat.reduceSub, Nat.reduceMul, Nat.reduceLT, Nat.reduceLeDiff, Int.reducePow, Int.reduceBEq, Int.reduceBNe, Int.reduceDiv, Int.reduceMod, Int.reduceEq, Int.reduceLT, Int.reduceLE, Int.reduceAdd, Int.reduceSub, Int.reduceMul, Int.reduceNeg, Int.reduceToNat, Int.reduceTDiv, Int.reduceTMod, ↓reduceIte, List.length_nil, show ((0 : Nat) : Int) = 0 from rfl]
    exact .inl ⟨rfl, rfl⟩
  · obtain ⟨b, g, rest, rw_, vs, rfl, hb, hvl, hlen, hel⟩ := h.ne hn
    refine XCal.of hm Try.func52 rfl (fun xs w => Try.call52 xs w) Try.ntmps52 Try.results52 rfl ?_
    simp only [go_sem, Nat.reduceEqDiff, Nat.reduceAdd, Nat.reduceSub, Nat.reduceMul, Nat.reduceLT, Nat.reduceLeDiff, Int.reducePow, Int.reduceBEq, Int.reduceBNe, Int.reduceDiv, Int.reduceMod, Int.reduceEq, Int.reduceLT, Int.reduceLE, Int.reduceAdd, Int.reduceSub, Int.reduceMul, Int.reduceNeg, Int.reduceToNat, Int.reduceTDiv, Int.reduceTMod, ↓reduceIte, mt]
    have H0 : (H ++ [⟨m6C m, 0, true⟩])[H.length]? = some (⟨m6C m, 0, true⟩ : Blk) := by rw [hget_app0]; rfl
    refine keep (fun k T K D => D = [] ∧ ∃ (i : Nat), i + k = ps.length ∧ Old (H ++ [⟨m6C m, 0, true⟩]) K ∧ H.length + 1 ≤ K.length ∧ T 2 = ap H.length 0 0 ∧ T 1 = sl b 0 g ps.length 2 ∧ T 6 = .int .i64 (i : Int) ∧ OutP (H.length + 1) K (T 5) ((ps.map m.pl).take i)) ps.length
      ⟨rfl, 0, by omega, Old.refl _, by simp, by simp only [go_sem, Nat.reduceEqDiff, Nat.reduceAdd, Nat.reduceSub, Nat.reduceMul, Nat.reduceLT, Nat.reduceLeDiff, Int.reducePow, Int.reduceBEq, Int.reduceBNe, Int.reduceDiv, Int.reduceMod, Int.reduceEq, Int.reduceLT, Int.reduceLE, Int.reduceAdd, Int.reduceSub, Int.reduceMul, Int.reduceNeg, Int.reduceToNat, Int.reduceTDiv, Int.reduceTMod, ↓reduceIte] <;> rfl, by simp only [go_sem, Nat.reduceEqDiff, Nat.reduceAdd, Nat.reduceSub, Nat.reduceMul, Nat.reduceLT, Nat.reduceLeDiff, Int.reducePow, Int.reduceBEq, Int.reduceBNe, Int.reduceDiv, Int.reduceMod, Int.reduceEq, Int.reduceLT, Int.reduceLE, Int.reduceAdd, Int.reduceSub, Int.reduceMul, Int.reduceNeg, Int.reduceToNat, Int.reduceTDiv, Int.reduceTMod, ↓reduceIte], by simp only [go_sem, Nat.reduceEqDiff, Nat.reduceAdd, Nat.reduceSub, Nat.reduceMul, Nat.reduceLT, Nat.reduceLeDiff, Int.reducePow, Int.reduceBEq, Int.reduceBNe, Int.reduceDiv, Int.reduceMod, Int.reduceEq, Int.reduceLT, Int.reduceLE, Int.reduceAdd, Int.reduceSub, Int.reduceMul, Int.reduceNeg, Int.reduceToNat, Int.reduceTDiv, Int.reduceTMod, ↓reduceIte] <;> rfl, .inl ⟨rfl, by simp only [go_sem, Nat.reduceEqDiff, Nat.reduceAdd, Nat.reduceSub, Nat.reduceMul, Nat.reduceLT, Nat.reduceLeDiff, Int.reducePow, Int.reduceBEq, Int.reduceBNe, Int.reduceDiv, Int.reduceMod, Int.reduceEq, Int.reduceLT, Int.reduceLE, Int.reduceAdd, Int.reduceSub, Int.reduceMul, Int.reduceNeg, Int.reduceToNat, Int.reduceTDiv, Int.reduceTMod, ↓reduceIte] <;> rfl⟩⟩ ?_
    rintro k T K D ⟨rfl, i, hik, hold, hKl, h2, h1, h6, hO⟩
    by_cases hk : i < ps.length
    · obtain ⟨x, hxi, hdr⟩ := getD_some hk
      obtain ⟨pv, hvi, hp⟩ := hel i x hxi
      have g1 := plC_get vs i _ rest hvi
      have q0 : (0 : Int) ≤ (i : Int) := by omega
      have q1 : (i : Int) < (ps.length : Int) := by omega
      have w1 : IntKind.i64.wrap ((i : Int) + 1) = ((i + 1 : Nat) : Int) := by rw [wi (by omega) (by omega)]; rfl
      have km := hold _ _ H0
      have kb := hold _ _ (old_get hb _)
      have hpk := (hp.app [⟨m6C m, 0, true⟩]).old hold
      have htk : (ps.map m.pl).take (i + 1) = (ps.map m.pl).take i ++ [(x.1, x.2.map m.app)] := by rw [List.take_add_one, List.getElem?_map, hxi]; rfl
      have hle : ((ps.map m.pl).take i).length = i := by rw [List.length_take, List.length_map]; omega
      have hs := small_p (n := i) (k := 1) (by omega) (by omega)
      have rm := rmap_ m x.2 pv K hpk (hl2 x (List.mem_of_getElem? hxi))
      simp only [go_sem, Nat.reduceEqDiff, Nat.reduceAdd, Nat.reduceSub, Nat.reduceMul, Nat.reduceLT, Nat.reduceLeDiff, Int.reducePow, Int.reduceBEq, Int.reduceBNe, Int.reduceDiv, Int.reduceMod, Int.reduceEq, Int.reduceLT, Int.reduceLE, Int.reduceAdd, Int.reduceSub, Int.reduceMul, Int.reduceNeg, Int.reduceToNat, Int.reduceTDiv, Int.reduceTMod, ↓reduceIte, h2, h1, h6, dt q1]
      rcases hO with ⟨ho, h5⟩ | ⟨bo, go, vo, hbo, h5, hbk, hov⟩
      · repeat ((first | refine (rm).x ?_ | refine drawnF ?_ (by decide +kernel) | refine drawnU [(0, 12), (1, 12), (2, 12), (3, 12), (4, 12), (5, 12)] (by decide +kernel) ?_); simp only [go_sem, Nat.reduceEqDiff, Nat.reduceAdd, Nat.reduceSub, Nat.reduceMul, Nat.reduceLT, Nat.reduceLeDiff, Int.reducePow, Int.reduceBEq, Int.reduceBNe, Int.reduceDiv, Int.reduceMod, Int.reduceEq, Int.reduceLT, Int.reduceLE, Int.reduceAdd, Int.reduceSub, Int.reduceMul, Int.reduceNeg, Int.reduceToNat, Int.reduceTDiv, Int.reduceTMod, ↓reduceIte, h2, h1, h6, h5, q0, q1, Int.toNat_natCast, Nat.zero_add, Nat.add_zero, km, kb, g1.1, g1.2, mt, w1])
        rintro v H1 W1 ⟨rfl, ⟨L, rfl⟩, hv⟩
        obtain ⟨a1, e1, hve⟩ := hv.form
        subst hve
        simp only [go_sem, Nat.reduceEqDiff, Nat.reduceAdd, Nat.reduceSub, Nat.reduceMul, Nat.reduceLT, Nat.reduceLeDiff, Int.reducePow, Int.reduceBEq, Int.reduceBNe, Int.reduceDiv, Int.reduceMod, Int.reduceEq, Int.reduceLT, Int.reduceLE, Int.reduceAdd, Int.reduceSub, Int.reduceMul, Int.reduceNeg, Int.reduceToNat, Int.reduceTDiv, Int.reduceTMod, ↓reduceIte, h2, h1, h6, h5, w1]
        refine ⟨k - 1, by omega, i + 1, by omega, hold.app _, by omega, rfl, ?_⟩
        rw [htk, ho]
        exact OutP.first hv (by rw [← List.append_assoc]; exact Old.app' _ _) hKl (by rw [hget_app, List.getElem?_append_right (by omega), Nat.add_sub_cancel_left]; rfl) (by simp) (by omega)
      · repeat ((first | refine (rm).x ?_ | refine drawnF ?_ (by decide +kernel) | refine drawnU [(0, 12), (1, 12), (2, 12), (3, 12), (4, 12), (5, 12)] (by decide +kernel) ?_); simp only [go_sem, Nat.reduceEqDiff, Nat.reduceAdd, Nat.reduceSub, Nat.reduceMul, Nat.reduceLT, Nat.reduceLeDiff, Int.reducePow, Int.reduceBEq, Int.reduceBNe, Int.reduceDiv, Int.reduceMod, Int.reduceEq, Int.reduceLT, Int.reduceLE, Int.reduceAdd, Int.reduceSub, Int.reduceMul, Int.reduceNeg, Int.reduceToNat, Int.reduceTDiv, Int.reduceTMod, ↓reduceIte, h2, h1, h6, h5, q0, q1, Int.toNat_natCast, Nat.zero_add, Nat.add_zero, km, kb, g1.1, g1.2, mt, w1])
        rintro v H1 W1 ⟨rfl, ⟨L, rfl⟩, hv⟩
        obtain ⟨a1, e1, hve⟩ := hv.form
        subst hve
        have hlo : vo.length = i := by rw [hov.1, hle]
        have hco : (plC vo).length = i * 2 := by rw [plC_len, hlo]
        simp only [go_sem, Nat.reduceEqDiff, Nat.reduceAdd, Nat.reduceSub, Nat.reduceMul, Nat.reduceLT, Nat.reduceLeDiff, Int.reducePow, Int.reduceBEq, Int.reduceBNe, Int.reduceDiv, Int.reduceMod, Int.reduceEq, Int.reduceLT, Int.reduceLE, Int.reduceAdd, Int.reduceSub, Int.reduceMul, Int.reduceNeg, Int.reduceToNat, Int.reduceTDiv, Int.reduceTMod, ↓reduceIte, h2, h1, h6, h5, w1, old_get hbk, old_set hbk, hle, hco, hs.1, hs.2, df (show ¬ bo < H.length by omega)]
        refine ⟨k - 1, by omega, i + 1, by omega, hold.olx (Olx.set1 bo K _ _) (by simp; omega), by omega, rfl, ?_⟩
        rw [htk]
        have hnx := fun J o o1 hb => OutP.next (J := J) (go := go + 1) (c := x.1) hov hbo o hv o1 (List.getElem?_eq_some_iff.1 hbk).1 hb
        rw [hle] at hnx
        exact hnx _ (Olx.set1 bo K _ _) (Olx.set2 bo K L _ _ (List.getElem?_eq_some_iff.1 hbk).1) (old_sget hbk _ _)
    · have hi : i = ps.length := by omega
      subst hi
      simp only [go_sem, Nat.reduceEqDiff, Nat.reduceAdd, Nat.reduceSub, Nat.reduceMul, Nat.reduceLT, Nat.reduceLeDiff, Int.reducePow, Int.reduceBEq, Int.reduceBNe, Int.reduceDiv, Int.reduceMod, Int.reduceEq, Int.reduceLT, Int.reduceLE, Int.reduceAdd, Int.reduceSub, Int.reduceMul, Int.reduceNeg, Int.reduceToNat, Int.reduceTDiv, Int.reduceTMod, ↓reduceIte, h2, h1, h6, df (show ¬ ((ps.length : Nat) : Int) < (ps.length : Int) by omega)]
      have : (ps.map m.pl).take ps.length = ps.map m.pl := List.take_of_length_le (by rw [List.length_map]; omega)
      rw [this] at hO
      exact hO.low (by omega)
end Go.Proofs.Ythoclopeajkcpaa
/- Chapter 8: straight lines of both forms (FlatB without its last walk: fewer bytes for a claim). -/
namespace Go.Proofs.Ythoclopeajkcpaa
open Go Go.RowKit E
attribute [local irreducible] XRun XOps XCode XCal XLoop XQ SemCall
set_option linter.unusedSimpArgs false
set_option linter.unusedVariables false
theorem flatGo_len : ∀ (n : Nat) (l : List Pt), l.length ≤ n → (flatGo l).length ≤ 8 * l.length
  | 0, l, h => by obtain rfl := List.eq_nil_of_length_eq_zero (Nat.le_zero.1 h); simp [flatGo]
  | n + 1, l, h => by
    match l, h with
    | [], _ => simp [flatGo]
    | [_], _ => simp [flatGo]
    | [_, _], _ => simp [flatGo]
    | [_, _, _], _ => simp [flatGo]
    | a :: b :: c :: d :: t, h =>
      have ih := flatGo_len n (d :: t) (by simp at h ⊢; omega)
      have e : flatGo (a :: b :: c :: d :: t) = (if b = a ∧ c = d then [d] else bentL 3 a b c d) ++ flatGo (d :: t) := rfl
      rw [e, List.length_append]
      have : (if b = a ∧ c = d then [d] else bentL 3 a b c d).length ≤ 8 := by split <;> simp [bentL_len]
      simp only [List.length_cons] at ih ⊢
      omega
theorem flatL_len (l : List Pt) : (flatL l).length ≤ 8 * l.length + 1 := by
  cases l with
  | nil => simp [flatL]
  | cons p t => have := flatGo_len _ (p :: t) (Nat.le_refl _); simp only [flatL, List.length_cons] at this ⊢; omega
open Classical in
/-- The straight lines of a path, or none. -/
noncomputable def fL (c : Bool) (l : List Pt) : List Pt := if ¬ l = [] ∧ rightB c l = true then flatL l else []
theorem right_len {c : Bool} {l : List Pt} (hn : ¬ l = []) (h : rightB c l = true) : l.length ≤ 97 := by
  unfold rightB at h
  rw [if_neg (fun e => hn (List.eq_nil_of_length_eq_zero e))] at h
  simp only [Bool.and_eq_true, decide_eq_true_eq] at h
  omega
theorem fL_len (c : Bool) (l : List Pt) : (fL c l).length ≤ 1000 := by
  unfold fL
  split
  · rename_i h
    have := flatL_len l
    have := right_len h.1 h.2
    omega
  · simp
theorem flat_ (c : Bool) (l : List Pt) (pv : Value) (hB : ∀ p ∈ l, Ip p) (H : AH) (h : Pts H pv l) : Cal Try.prog 19 [.agg [.bool c, pv].toArray] H fun v H' W => W = [] ∧ (∃ L, H' = H ++ L) ∧ ∃ pv', v = poly c pv' ∧ PtsF H.length H'.length H' pv' (fL c l) := by
  by_cases hq : ¬ l = [] ∧ rightB c l = true
  · refine ⟨_, _, _, of_yes c l pv hB H h hq.1 hq.2 (right_len hq.1 hq.2), rfl, ⟨_, rfl⟩, _, rfl, ?_⟩
    have := flatL_len l
    have := right_len hq.1 hq.2
    unfold fL
    rw [if_pos hq]
    exact .inr ⟨H.length, 0, [], true, by omega, by simp, rfl, by rw [hget_app0, List.append_nil]; rfl, by omega⟩
  · have hq' : l = [] ∨ rightB c l = false := by
      by_cases hn : l = []
      · exact .inl hn
      · right; cases hr : rightB c l with | false => rfl | true => exact absurd ⟨hn, hr⟩ hq
    refine ⟨_, _, _, of_no c l pv H h hq', rfl, ⟨[], by simp⟩, _, rfl, ?_⟩
    unfold fL
    rw [if_neg hq]
    exact .inl ⟨rfl, rfl⟩
theorem rflat_ (c : Bool) (l : List Pt) (pv : Value) (hB : ∀ p ∈ l, Ip p) (H : AH) (h : Pts H pv l) : Cal Try.prog 40 [.agg [.bool c, pv].toArray] H fun v H' W => W = [] ∧ (∃ L, H' = H ++ L) ∧ ∃ pv', v = poly c pv' ∧ PtsF H.length H'.length H' pv' (fL c l) := by
  by_cases hq : ¬ l = [] ∧ rightB c l = true
  · refine ⟨_, _, _, rflat_yes c l pv hB H h hq.1 hq.2 (right_len hq.1 hq.2), rfl, ⟨_, rfl⟩, _, rfl, ?_⟩
    have := flatL_len l
    have := right_len hq.1 hq.2
    unfold fL
    rw [if_pos hq]
    exact .inr ⟨H.length, 0, [], true, by omega, by simp, rfl, by rw [hget_app0, List.append_nil]; rfl, by omega⟩
  · have hq' : l = [] ∨ rightB c l = false := by
      by_cases hn : l = []
      · exact .inl hn
      · right; cases hr : rightB c l with | false => rfl | true => exact absurd ⟨hn, hr⟩ hq
    refine ⟨_, _, _, rflat_no c l pv H h hq', rfl, ⟨[], by simp⟩, _, rfl, ?_⟩
    unfold fL
    rw [if_neg hq]
    exact .inl ⟨rfl, rfl⟩
theorem Polys.one {K : AH} {b g : Nat} {c : Bool} {pv : Value} {q : List Pt} (hb : K[b]? = some ⟨[.bool c, pv], g, true⟩) (h : Pts K pv q) : Polys K (sl b 0 g 1 2) [(c, q)] :=
  .inr ⟨b, g, [], true, [(c, pv)], rfl, hb, rfl, by simp, fun i x hx => by
    cases i with
    | zero => simp at hx; subst hx; exact ⟨pv, rfl, h⟩
    | succ i => simp at hx⟩
theorem Polys.two {K : AH} {b g : Nat} {c c' : Bool} {pv pv' : Value} {q q' : List Pt} (hb : K[b]? = some ⟨[.bool c, pv, .bool c', pv'], g, true⟩) (h : Pts K pv q) (h' : Pts K pv' q') : Polys K (sl b 0 g 2 2) [(c, q), (c', q')] :=
  .inr ⟨b, g, [], true, [(c, pv), (c', pv')], rfl, hb, rfl, by simp, fun i x hx => by
    match i, hx with
    | 0, hx => simp at hx; subst hx; exact ⟨pv, rfl, h⟩
    | 1, hx => simp at hx; subst hx; exact ⟨pv', rfl, h'⟩
    | i + 2, hx => simp at hx⟩
end Go.Proofs.Ythoclopeajkcpaa
