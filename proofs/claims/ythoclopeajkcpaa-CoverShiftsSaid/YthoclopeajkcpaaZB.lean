/- Merged texts: Box6 Box7 Box8. -/
import Derived.Test.YthoclopeajkcpaaZA
/- Chapter 14: the walks of the plain form of tiles, and of what compares both forms. -/
namespace Go.Proofs.Ythoclopeajkcpaa
open Go Go.RowKit E
attribute [local irreducible] XRun XOps XCode XCal XLoop XQ SemCall
set_option linter.unusedSimpArgs false
set_option linter.unusedVariables false
theorem boxes_ (a b : B4) (x y : Int) (H : AH) : SemCall Try.prog 29 [a.val, b.val, .int .i64 x, .int .i64 y] H (.bool true) H [] := by
  refine pure_of ?_ rfl
  have c1 := fun H => bempty_ a H
  have c2 := fun H => rempty_ a H
  have c3 := fun H => join_ a b H
  have c4 := fun H => rjoin_ a b H
  have c5 := fun H => meet_ a b H
  have c6 := fun H => rmeet_ a b H
  have c7 := fun H => has_ a x y H
  have c8 := fun H => rhas_ a x y H
  refine XCal.of hm Try.func29 rfl (fun xs w => Try.call29 xs w) Try.ntmps29 Try.results29 rfl ?_
  simp only [go_sem, Nat.reduceEqDiff, Nat.reduceAdd, Nat.reduceSub, Nat.reduceMul, Nat.reduceLT, Nat.reduceLeDiff, Int.reducePow, Int.reduceBEq, Int.reduceBNe, Int.reduceDiv, Int.reduceMod, Int.reduceEq, Int.reduceLT, Int.reduceLE, Int.reduceAdd, Int.reduceSub, Int.reduceMul, Int.reduceNeg, Int.reduceToNat, Int.reduceTDiv, Int.reduceTMod, ↓reduceIte]
  repeat ((first | refine (c1 _).x ?_ | refine (c2 _).x ?_ | refine (c3 _).x ?_ | refine (c4 _).x ?_ | refine (c5 _).x ?_ | refine (c6 _).x ?_ | refine (c7 _).x ?_ | refine (c8 _).x ?_ | refine drawnF ?_ (by decide +kernel) | refine drawnU [(1, 2), (8, 9), (8, 10), (17, 18), (17, 19), (27, 28), (27, 29), (27, 30)] (by decide +kernel) ?_); simp only [go_sem, Nat.reduceEqDiff, Nat.reduceAdd, Nat.reduceSub, Nat.reduceMul, Nat.reduceLT, Nat.reduceLeDiff, Int.reducePow, Int.reduceBEq, Int.reduceBNe, Int.reduceDiv, Int.reduceMod, Int.reduceEq, Int.reduceLT, Int.reduceLE, Int.reduceAdd, Int.reduceSub, Int.reduceMul, Int.reduceNeg, Int.reduceToNat, Int.reduceTDiv, Int.reduceTMod, ↓reduceIte, beq_self_eq_true])
theorem rowT_snoc (y : Int) : ∀ (n : Nat) (x0 : Int), rowT y x0 (n + 1) = rowT y x0 n ++ [(x0 + n, y)]
  | 0, x0 => by simp [rowT]
  | n + 1, x0 => by
    have := rowT_snoc y n (x0 + 1)
    rw [rowT, this, rowT, List.cons_append]
    congr 3
    simp; omega
theorem rowsT_snoc (x0 : Int) (nx : Nat) : ∀ (n : Nat) (y : Int), rowsT x0 nx y (n + 1) = rowsT x0 nx y n ++ rowT (y + n) x0 nx
  | 0, y => by simp [rowsT]
  | n + 1, y => by
    have := rowsT_snoc x0 nx n (y + 1)
    rw [rowsT, this, rowsT, List.append_assoc, show y + 1 + (n : Int) = y + ((n + 1 : Nat) : Int) by omega]
theorem emp_meet1 (a b : B4) : emp (meet a b) = emp (meet0 a b) := by
  unfold meet
  cases h : emp (meet0 a b) with
  | true => simp; rfl
  | false => simp [h]
def rect (x y w h : Int) : B4 := meet ⟨x * 8, y * 8, x * 8 + 8, y * 8 + 8⟩ ⟨0, 0, w, h⟩
theorem rrect_ (x y w h : Int) (hs : scr w h = true) (hx : 0 ≤ x ∧ x * 8 < w) (hy : 0 ≤ y ∧ y * 8 < h) (H : AH) : SemCall Try.prog 82 [.agg [.int .i64 x, .int .i64 y].toArray, .int .i64 w, .int .i64 h] H (rect x y w h).val H [] := by
  refine pure_of ?_ rfl
  have hw := scr_b hs
  have c1 := fun H => rsize_ w h H
  rw [hs] at c1
  have c2 := fun H => rmeet_ ⟨x * 8, y * 8, x * 8 + 8, y * 8 + 8⟩ ⟨0, 0, w, h⟩ H
  have w1 : IntKind.i64.wrap (x * 8) = x * 8 := wi (by omega) (by omega)
  have w2 : IntKind.i64.wrap (y * 8) = y * 8 := wi (by omega) (by omega)
  have w3 : IntKind.i64.wrap (x * 8 + 8) = x * 8 + 8 := wi (by omega) (by omega)
  have w4 : IntKind.i64.wrap (y * 8 + 8) = y * 8 + 8 := wi (by omega) (by omega)
  refine XCal.of hm Try.func82 rfl (fun xs w => Try.call82 xs w) Try.ntmps82 Try.results82 rfl ?_
  simp only [go_sem, Nat.reduceEqDiff, Nat.reduceAdd, Nat.reduceSub, Nat.reduceMul, Nat.reduceLT, Nat.reduceLeDiff, Int.reducePow, Int.reduceBEq, Int.reduceBNe, Int.reduceDiv, Int.reduceMod, Int.reduceEq, Int.reduceLT, Int.reduceLE, Int.reduceAdd, Int.reduceSub, Int.reduceMul, Int.reduceNeg, Int.reduceToNat, Int.reduceTDiv, Int.reduceTMod, ↓reduceIte]
  repeat ((first | refine (c1 _).x ?_ | refine (c2 _).x ?_ | refine drawnF ?_ (by decide +kernel)); simp only [go_sem, Nat.reduceEqDiff, Nat.reduceAdd, Nat.reduceSub, Nat.reduceMul, Nat.reduceLT, Nat.reduceLeDiff, Int.reducePow, Int.reduceBEq, Int.reduceBNe, Int.reduceDiv, Int.reduceMod, Int.reduceEq, Int.reduceLT, Int.reduceLE, Int.reduceAdd, Int.reduceSub, Int.reduceMul, Int.reduceNeg, Int.reduceToNat, Int.reduceTDiv, Int.reduceTMod, ↓reduceIte, df (show ¬ x < 0 by omega), df (show ¬ y < 0 by omega), df (show ¬ w ≤ x by omega), df (show ¬ h ≤ y by omega), w1, w2, w3, w4])
  try rfl
theorem rect_in (B : B4) (x y w h : Int) (hx : 0 ≤ x ∧ x * 8 < w) (hy : 0 ≤ y ∧ y * 8 < h) (hM : emp (meet0 B ⟨0, 0, w, h⟩) = false) : emp (meet B (rect x y w h)) = false ↔ ((meet0 B ⟨0, 0, w, h⟩).x0 / 8 ≤ x ∧ x ≤ ((meet0 B ⟨0, 0, w, h⟩).x1 - 1) / 8) ∧ (meet0 B ⟨0, 0, w, h⟩).y0 / 8 ≤ y ∧ y ≤ ((meet0 B ⟨0, 0, w, h⟩).y1 - 1) / 8 := by
  have f : ∀ b, emp b = false ↔ b.x0 < b.x1 ∧ b.y0 < b.y1 := fun b => by
    have := emp_def b
    cases he : emp b with
    | true => rw [he] at this; simp; have := this.1 rfl; omega
    | false =>
      rw [he] at this
      simp
      refine ⟨?_, ?_⟩ <;> (apply Int.lt_of_not_ge; intro hh; exact absurd (this.2 (by omega)) (by decide))
  rw [f] at hM
  have a1 := mx_c (x * 8) 0
  have a2 := mx_c (y * 8) 0
  have a3 := mn_c (x * 8 + 8) w
  have a4 := mn_c (y * 8 + 8) h
  have a5 := mx_le (x * 8) 0
  have a6 := mx_le (y * 8) 0
  have a7 := mn_le (x * 8 + 8) w
  have a8 := mn_le (y * 8 + 8) h
  have hr : rect x y w h = ⟨x * 8, y * 8, mn (x * 8 + 8) w, mn (y * 8 + 8) h⟩ := by
    have e1 : mx (x * 8) 0 = x * 8 := by omega
    have e2 : mx (y * 8) 0 = y * 8 := by omega
    have e : meet0 ⟨x * 8, y * 8, x * 8 + 8, y * 8 + 8⟩ ⟨0, 0, w, h⟩ = ⟨x * 8, y * 8, mn (x * 8 + 8) w, mn (y * 8 + 8) h⟩ := by unfold meet0; simp only [e1, e2]
    unfold rect meet
    rw [e, if_neg]
    rw [Bool.not_eq_true, f]
    simp only
    omega
  rw [emp_meet1, f, hr]
  simp only [meet0] at hM ⊢
  have b1 := mx_c B.x0 (x * 8)
  have b2 := mx_c B.y0 (y * 8)
  have b3 := mn_c B.x1 (mn (x * 8 + 8) w)
  have b4 := mn_c B.y1 (mn (y * 8 + 8) h)
  have b5 := mx_le B.x0 (x * 8)
  have b6 := mx_le B.y0 (y * 8)
  have b7 := mn_le B.x1 (mn (x * 8 + 8) w)
  have b8 := mn_le B.y1 (mn (y * 8 + 8) h)
  have c1 := mx_c B.x0 0
  have c2 := mx_c B.y0 0
  have c3 := mn_c B.x1 w
  have c4 := mn_c B.y1 h
  have c5 := mx_le B.x0 0
  have c6 := mx_le B.y0 0
  have c7 := mn_le B.x1 w
  have c8 := mn_le B.y1 h
  generalize mx B.x0 (x * 8) = A1 at *
  generalize mx B.y0 (y * 8) = A2 at *
  generalize mn B.x1 (mn (x * 8 + 8) w) = A3 at *
  generalize mn B.y1 (mn (y * 8 + 8) h) = A4 at *
  generalize mn (x * 8 + 8) w = A5 at *
  generalize mn (y * 8 + 8) h = A6 at *
  generalize mx B.x0 0 = A7 at *
  generalize mx B.y0 0 = A8 at *
  generalize mn B.x1 w = A9 at *
  generalize mn B.y1 h = A10 at *
  have hX : A1 < A3 ↔ A7 / 8 ≤ x ∧ x ≤ (A9 - 1) / 8 := by
    constructor
    · intro hh; omega
    · intro hh; omega
  have hY : A2 < A4 ↔ A8 / 8 ≤ y ∧ y ≤ (A10 - 1) / 8 := by
    constructor
    · intro hh; omega
    · intro hh; omega
  rw [hX, hY]
end Go.Proofs.Ythoclopeajkcpaa
/- Chapter 14: the walk of the plain form of tiles, and of what compares both. -/
namespace Go.Proofs.Ythoclopeajkcpaa
open Go Go.RowKit E
attribute [local irreducible] XRun XOps XCode XCal XLoop XQ SemCall
set_option linter.unusedSimpArgs false
set_option linter.unusedVariables false
theorem tile_st (B : B4) (w h : Int) (hs : scr w h = true) : ∃ st : Int → Int → List Pt, st 0 0 = [] ∧
    (∀ x y, 0 ≤ x → x * 8 < w → 0 ≤ y → y * 8 < h → st y (x + 1) = st y x ++ (if emp (meet B (rect x y w h)) = false then [(x, y)] else [])) ∧
    (∀ x y, w ≤ x * 8 → 0 ≤ y → y * 8 < h → st y x = st (y + 1) 0) ∧ (∀ y, h ≤ y * 8 → st y 0 = tilesOf B w h) := by
  have hw := scr_b hs
  cases hM : emp (meet0 B ⟨0, 0, w, h⟩) with
  | true =>
    have e2 : tilesOf B w h = [] := by
      have e1 : meet B ⟨0, 0, w, h⟩ = zero4 := by unfold meet; rw [if_pos hM]
      unfold tilesOf; rw [if_pos hs]; simp only [e1, show emp zero4 = true from rfl, if_true]
    refine ⟨fun _ _ => [], rfl, fun x y hx0 hx hy0 hy => ?_, fun _ _ _ _ _ => rfl, fun _ _ => e2.symm⟩
    have : emp (meet B (rect x y w h)) = true := by
      have h1 := (emp_def _).1 hM
      cases hc : emp (meet B (rect x y w h)) with
      | true => rfl
      | false =>
        rw [emp_meet1] at hc
        have n1 : ¬ ((meet0 B (rect x y w h)).x1 ≤ (meet0 B (rect x y w h)).x0 ∨ (meet0 B (rect x y w h)).y1 ≤ (meet0 B (rect x y w h)).y0) := fun k => by rw [(emp_def _).2 k] at hc; exact absurd hc (by decide)
        have a1 := mx_c B.x0 0
        have a2 := mx_c B.y0 0
        have a3 := mn_c B.x1 w
        have a4 := mn_c B.y1 h
        have r0 : rect x y w h = zero4 ∨ rect x y w h = meet0 ⟨x * 8, y * 8, x * 8 + 8, y * 8 + 8⟩ ⟨0, 0, w, h⟩ := by unfold rect meet; split <;> simp
        have b1 := mx_le (x * 8) 0
        have b2 := mx_le (y * 8) 0
        have b3 := mn_le (x * 8 + 8) w
        have b4 := mn_le (y * 8 + 8) h
        have c5 := mx_le B.x0 (rect x y w h).x0
        have c6 := mx_le B.y0 (rect x y w h).y0
        have c7 := mn_le B.x1 (rect x y w h).x1
        have c8 := mn_le B.y1 (rect x y w h).y1
        rcases r0 with r0 | r0 <;> rw [r0] at n1 c5 c6 c7 c8 <;> simp only [meet0, zero4] at n1 h1 c5 c6 c7 c8 <;> omega
    rw [this]; simp
  | false =>
    have hq := meet_in B hs (by rw [emp_meet1]; exact hM)
    have e1 : meet B ⟨0, 0, w, h⟩ = meet0 B ⟨0, 0, w, h⟩ := by unfold meet; rw [if_neg (by rw [hM]; decide)]
    rw [e1] at hq
    have hin := fun x y hx hy => rect_in B x y w h hx hy hM
    have e2 : tilesOf B w h = rowsT ((meet0 B ⟨0, 0, w, h⟩).x0 / 8) (((meet0 B ⟨0, 0, w, h⟩).x1 - 1) / 8 + 1 - (meet0 B ⟨0, 0, w, h⟩).x0 / 8).toNat ((meet0 B ⟨0, 0, w, h⟩).y0 / 8) (((meet0 B ⟨0, 0, w, h⟩).y1 - 1) / 8 + 1 - (meet0 B ⟨0, 0, w, h⟩).y0 / 8).toNat := by unfold tilesOf; rw [if_pos hs]; simp only [e1, hM, Bool.false_eq_true, if_false]
    rw [e2]
    generalize meet0 B ⟨0, 0, w, h⟩ = M at *
    obtain ⟨X0, hX0⟩ : ∃ n : Nat, M.x0 / 8 = (n : Int) := ⟨(M.x0 / 8).toNat, by omega⟩
    obtain ⟨Y0, hY0⟩ : ∃ n : Nat, M.y0 / 8 = (n : Int) := ⟨(M.y0 / 8).toNat, by omega⟩
    obtain ⟨nx, hnx⟩ : ∃ n : Nat, ((M.x1 - 1) / 8 + 1 - M.x0 / 8).toNat = n := ⟨_, rfl⟩
    obtain ⟨ny, hny⟩ : ∃ n : Nat, ((M.y1 - 1) / 8 + 1 - M.y0 / 8).toNat = n := ⟨_, rfl⟩
    rw [hX0] at hnx hin ⊢
    rw [hY0] at hny hin ⊢
    rw [hnx, hny]
    refine ⟨fun y x => rowsT X0 nx Y0 (min (y - Y0).toNat ny) ++ (if (Y0 : Int) ≤ y ∧ y < Y0 + ny then rowT y X0 (min (x - X0).toNat nx) else []), ?_, ?_, ?_, ?_⟩
    · have : ((0 : Int) - Y0).toNat = 0 := by omega
      have : ((0 : Int) - X0).toNat = 0 := by omega
      simp [*, rowsT, rowT]
    · intro x y hx0 hx hy0 hy
      have hin := hin x y ⟨hx0, hx⟩ ⟨hy0, hy⟩
      simp only
      by_cases hyr : (Y0 : Int) ≤ y ∧ y < Y0 + ny
      · rw [if_pos hyr, if_pos hyr]
        by_cases hxr : (X0 : Int) ≤ x ∧ x < X0 + nx
        · have hE := hin.2 ⟨⟨hxr.1, by omega⟩, hyr.1, by omega⟩
          rw [if_pos hE, List.append_assoc]
          congr 1
          have e3 : min (x + 1 - X0).toNat nx = min (x - X0).toNat nx + 1 := by omega
          have e4 : ((X0 : Int) + (min (x - X0).toNat nx : Nat)) = x := by omega
          rw [e3, rowT_snoc, e4]
        · rw [if_neg (fun hE => hxr (by have := hin.1 hE; omega)), List.append_nil]
          congr 2
          omega
      · rw [if_neg hyr, if_neg hyr, if_neg (fun hE => hyr (by have := hin.1 hE; omega)), List.append_nil, List.append_nil]
    · intro x y hx hy0 hy
      simp only
      have z0 : ((0 : Int) - X0).toNat = 0 := by omega
      have r0 : ∀ y' : Int, (if (Y0 : Int) ≤ y' ∧ y' < Y0 + ny then rowT y' X0 (min ((0 : Int) - X0).toNat nx) else []) = [] := fun y' => by rw [z0, Nat.zero_min]; simp [rowT]
      rw [r0, List.append_nil]
      by_cases hyr : (Y0 : Int) ≤ y ∧ y < Y0 + ny
      · rw [if_pos hyr]
        have e3 : min (y + 1 - Y0).toNat ny = min (y - Y0).toNat ny + 1 := by omega
        have e4 : ((Y0 : Int) + (min (y - Y0).toNat ny : Nat)) = y := by omega
        have e5 : min (x - X0).toNat nx = nx := by omega
        rw [e3, rowsT_snoc, e4, e5]
      · rw [if_neg hyr, List.append_nil]
        congr 1
        omega
    · intro y hy
      simp only
      have z0 : ((0 : Int) - X0).toNat = 0 := by omega
      rw [z0, Nat.zero_min]
      have : min (y - Y0).toNat ny = ny := by omega
      rw [this]
      split <;> simp [rowT]
theorem rtiles_ (b : B4) (w h : Int) (H : AH) : Cal Try.prog 61 [b.val, .int .i64 w, .int .i64 h] H fun v H' W => W = [] ∧ (∃ L, H' = H ++ L) ∧ Pts H' v (tilesOf b w h) := by
  refine adds_of ?_
  cases hs : scr w h with
  | false =>
    have e2 : tilesOf b w h = [] := by unfold tilesOf; rw [hs]; simp
    rw [e2]
    refine XCal.of hm Try.func61 rfl (fun xs w => Try.call61 xs w) Try.ntmps61 Try.results61 rfl ?_
    simp only [go_sem, Nat.reduceEqDiff, Nat.reduceAdd, Nat.reduceSub, Nat.reduceMul, Nat.reduceLT, Nat.reduceLeDiff, Int.reducePow, Int.reduceBEq, Int.reduceBNe, Int.reduceDiv, Int.reduceMod, Int.reduceEq, Int.reduceLT, Int.reduceLE, Int.reduceAdd, Int.reduceSub, Int.reduceMul, Int.reduceNeg, Int.reduceToNat, Int.reduceTDiv, Int.reduceTMod, ↓reduceIte]
    repeat ((first | refine (rsize_ _ _ _).x ?_ | refine drawnF ?_ (by decide +kernel) | refine drawnU [(0, 6)] (by decide +kernel) ?_); simp only [go_sem, Nat.reduceEqDiff, Nat.reduceAdd, Nat.reduceSub, Nat.reduceMul, Nat.reduceLT, Nat.reduceLeDiff, Int.reducePow, Int.reduceBEq, Int.reduceBNe, Int.reduceDiv, Int.reduceMod, Int.reduceEq, Int.reduceLT, Int.reduceLE, Int.reduceAdd, Int.reduceSub, Int.reduceMul, Int.reduceNeg, Int.reduceToNat, Int.reduceTDiv, Int.reduceTMod, ↓reduceIte, hs])
    exact .inl ⟨rfl, .inr rfl⟩
  | true =>
    have hw := scr_b hs
    obtain ⟨st, s0, s1, s2, s3⟩ := tile_st b w h hs
    have hlen := tiles_len b w h
    have hstl : ∀ (x y : Int), (st y x).length ≤ 100000 → (st y x).length * 2 = (ptC (st y x)).length ∧ ((st y x).length + 1) * 16 - 140737488355328 = 0 ∧ (st y x).length + 1 - 140737488355328 = 0 := fun x y hl => small_o (o := st y x) (n := 1) (by omega) (by omega)
    refine XCal.of hm Try.func61 rfl (fun xs w => Try.call61 xs w) Try.ntmps61 Try.results61 rfl ?_
    simp only [go_sem, Nat.reduceEqDiff, Nat.reduceAdd, Nat.reduceSub, Nat.reduceMul, Nat.reduceLT, Nat.reduceLeDiff, Int.reducePow, Int.reduceBEq, Int.reduceBNe, Int.reduceDiv, Int.reduceMod, Int.reduceEq, Int.reduceLT, Int.reduceLE, Int.reduceAdd, Int.reduceSub, Int.reduceMul, Int.reduceNeg, Int.reduceToNat, Int.reduceTDiv, Int.reduceTMod, ↓reduceIte]
    refine (rsize_ _ _ _).x ?_
    simp only [go_sem, Nat.reduceEqDiff, Nat.reduceAdd, Nat.reduceSub, Nat.reduceMul, Nat.reduceLT, Nat.reduceLeDiff, Int.reducePow, Int.reduceBEq, Int.reduceBNe, Int.reduceDiv, Int.reduceMod, Int.reduceEq, Int.reduceLT, Int.reduceLE, Int.reduceAdd, Int.reduceSub, Int.reduceMul, Int.reduceNeg, Int.reduceToNat, Int.reduceTDiv, Int.reduceTMod, ↓reduceIte, hs]
    refine keep (fun k T H' D => D = [] ∧ ∃ (y : Int), 0 ≤ y ∧ y ≤ 40 ∧ k = (40 - y).toNat ∧ T 1 = .int .i64 w ∧ T 2 = .int .i64 h ∧ T 3 = ap H.length 0 0 ∧ T 8 = .int .i64 y ∧ (st y 0).length ≤ 100 * y ∧ (y = 0 ∨ (y - 1) * 8 < h) ∧ TB H b (st y 0) (T 7) H') 40
      ⟨rfl, 0, by omega, by omega, by omega, by simp only [go_sem, Nat.reduceEqDiff, Nat.reduceAdd, Nat.reduceSub, Nat.reduceMul, Nat.reduceLT, Nat.reduceLeDiff, Int.reducePow, Int.reduceBEq, Int.reduceBNe, Int.reduceDiv, Int.reduceMod, Int.reduceEq, Int.reduceLT, Int.reduceLE, Int.reduceAdd, Int.reduceSub, Int.reduceMul, Int.reduceNeg, Int.reduceToNat, Int.reduceTDiv, Int.reduceTMod, ↓reduceIte], by simp only [go_sem, Nat.reduceEqDiff, Nat.reduceAdd, Nat.reduceSub, Nat.reduceMul, Nat.reduceLT, Nat.reduceLeDiff, Int.reducePow, Int.reduceBEq, Int.reduceBNe, Int.reduceDiv, Int.reduceMod, Int.reduceEq, Int.reduceLT, Int.reduceLE, Int.reduceAdd, Int.reduceSub, Int.reduceMul, Int.reduceNeg, Int.reduceToNat, Int.reduceTDiv, Int.reduceTMod, ↓reduceIte], by simp only [go_sem, Nat.reduceEqDiff, Nat.reduceAdd, Nat.reduceSub, Nat.reduceMul, Nat.reduceLT, Nat.reduceLeDiff, Int.reducePow, Int.reduceBEq, Int.reduceBNe, Int.reduceDiv, Int.reduceMod, Int.reduceEq, Int.reduceLT, Int.reduceLE, Int.reduceAdd, Int.reduceSub, Int.reduceMul, Int.reduceNeg, Int.reduceToNat, Int.reduceTDiv, Int.reduceTMod, ↓reduceIte], by simp only [go_sem, Nat.reduceEqDiff, Nat.reduceAdd, Nat.reduceSub, Nat.reduceMul, Nat.reduceLT, Nat.reduceLeDiff, Int.reducePow, Int.reduceBEq, Int.reduceBNe, Int.reduceDiv, Int.reduceMod, Int.reduceEq, Int.reduceLT, Int.reduceLE, Int.reduceAdd, Int.reduceSub, Int.reduceMul, Int.reduceNeg, Int.reduceToNat, Int.reduceTDiv, Int.reduceTMod, ↓reduceIte] <;> rfl, by rw [s0]; simp, .inl rfl, .inl ⟨s0, by simp only [go_sem, Nat.reduceEqDiff, Nat.reduceAdd, Nat.reduceSub, Nat.reduceMul, Nat.reduceLT, Nat.reduceLeDiff, Int.reducePow, Int.reduceBEq, Int.reduceBNe, Int.reduceDiv, Int.reduceMod, Int.reduceEq, Int.reduceLT, Int.reduceLE, Int.reduceAdd, Int.reduceSub, Int.reduceMul, Int.reduceNeg, Int.reduceToNat, Int.reduceTDiv, Int.reduceTMod, ↓reduceIte] <;> rfl, rfl⟩⟩ ?_
    rintro k T H' D ⟨rfl, y, hy0, hy4, hk, h1, h2, h3, h8, hl8, hyp, hC⟩
    have w8 : IntKind.i64.wrap (y * 8) = y * 8 := wi (by omega) (by omega)
    have wy : IntKind.i64.wrap (y + 1) = y + 1 := wi (by omega) (by omega)
    by_cases hyy : y * 8 < h
    · simp only [go_sem, Nat.reduceEqDiff, Nat.reduceAdd, Nat.reduceSub, Nat.reduceMul, Nat.reduceLT, Nat.reduceLeDiff, Int.reducePow, Int.reduceBEq, Int.reduceBNe, Int.reduceDiv, Int.reduceMod, Int.reduceEq, Int.reduceLT, Int.reduceLE, Int.reduceAdd, Int.reduceSub, Int.reduceMul, Int.reduceNeg, Int.reduceToNat, Int.reduceTDiv, Int.reduceTMod, ↓reduceIte, h1, h2, h3, h8, w8, dt hyy]
      refine keep (fun k' T H' D => D = [] ∧ ∃ (x : Int), 0 ≤ x ∧ x ≤ 40 ∧ k' = (40 - x).toNat ∧ T 1 = .int .i64 w ∧ T 2 = .int .i64 h ∧ T 3 = ap H.length 0 0 ∧ T 8 = .int .i64 y ∧ T 9 = .int .i64 x ∧ (st y x).length ≤ 100 * y + x ∧ TB H b (st y x) (T 7) H') 40
        ⟨rfl, 0, by omega, by omega, by omega, by simp only [go_sem, Nat.reduceEqDiff, Nat.reduceAdd, Nat.reduceSub, Nat.reduceMul, Nat.reduceLT, Nat.reduceLeDiff, Int.reducePow, Int.reduceBEq, Int.reduceBNe, Int.reduceDiv, Int.reduceMod, Int.reduceEq, Int.reduceLT, Int.reduceLE, Int.reduceAdd, Int.reduceSub, Int.reduceMul, Int.reduceNeg, Int.reduceToNat, Int.reduceTDiv, Int.reduceTMod, ↓reduceIte, h1], by simp only [go_sem, Nat.reduceEqDiff, Nat.reduceAdd, Nat.reduceSub, Nat.reduceMul, Nat.reduceLT, Nat.reduceLeDiff, Int.reducePow, Int.reduceBEq, Int.reduceBNe, Int.reduceDiv, Int.reduceMod, Int.reduceEq, Int.reduceLT, Int.reduceLE, Int.reduceAdd, Int.reduceSub, Int.reduceMul, Int.reduceNeg, Int.reduceToNat, Int.reduceTDiv, Int.reduceTMod, ↓reduceIte, h2], by simp only [go_sem, Nat.reduceEqDiff, Nat.reduceAdd, Nat.reduceSub, Nat.reduceMul, Nat.reduceLT, Nat.reduceLeDiff, Int.reducePow, Int.reduceBEq, Int.reduceBNe, Int.reduceDiv, Int.reduceMod, Int.reduceEq, Int.reduceLT, Int.reduceLE, Int.reduceAdd, Int.reduceSub, Int.reduceMul, Int.reduceNeg, Int.reduceToNat, Int.reduceTDiv, Int.reduceTMod, ↓reduceIte, h3], by simp only [go_sem, Nat.reduceEqDiff, Nat.reduceAdd, Nat.reduceSub, Nat.reduceMul, Nat.reduceLT, Nat.reduceLeDiff, Int.reducePow, Int.reduceBEq, Int.reduceBNe, Int.reduceDiv, Int.reduceMod, Int.reduceEq, Int.reduceLT, Int.reduceLE, Int.reduceAdd, Int.reduceSub, Int.reduceMul, Int.reduceNeg, Int.reduceToNat, Int.reduceTDiv, Int.reduceTMod, ↓reduceIte, h8], by simp only [go_sem, Nat.reduceEqDiff, Nat.reduceAdd, Nat.reduceSub, Nat.reduceMul, Nat.reduceLT, Nat.reduceLeDiff, Int.reducePow, Int.reduceBEq, Int.reduceBNe, Int.reduceDiv, Int.reduceMod, Int.reduceEq, Int.reduceLT, Int.reduceLE, Int.reduceAdd, Int.reduceSub, Int.reduceMul, Int.reduceNeg, Int.reduceToNat, Int.reduceTDiv, Int.reduceTMod, ↓reduceIte] <;> rfl, by omega, by simp only [go_sem, Nat.reduceEqDiff, Nat.reduceAdd, Nat.reduceSub, Nat.reduceMul, Nat.reduceLT, Nat.reduceLeDiff, Int.reducePow, Int.reduceBEq, Int.reduceBNe, Int.reduceDiv, Int.reduceMod, Int.reduceEq, Int.reduceLT, Int.reduceLE, Int.reduceAdd, Int.reduceSub, Int.reduceMul, Int.reduceNeg, Int.reduceToNat, Int.reduceTDiv, Int.reduceTMod, ↓reduceIte] <;> exact hC⟩ ?_
      clear h1 h2 h3 h8 hC
      rintro k' T H' D ⟨rfl, x, hx0, hx4, hk', h1, h2, h3, h8, h9, hlx, hC⟩
      have wx8 : IntKind.i64.wrap (x * 8) = x * 8 := wi (by omega) (by omega)
      have wx : IntKind.i64.wrap (x + 1) = x + 1 := wi (by omega) (by omega)
      have hmb : H'[H.length]? = some ⟨b4C b, 0, true⟩ := hC.m
      by_cases hxx : x * 8 < w
      · have hst := s1 x y hx0 hxx hy0 hyy
        have c1 := fun H => rrect_ x y w h hs ⟨hx0, hxx⟩ ⟨hy0, hyy⟩ H
        have c2 := fun H => rmeet_ b (rect x y w h) H
        have c3 := fun H => rempty_ (meet b (rect x y w h)) H
        obtain ⟨f1, f2, f3⟩ := hstl x y (by omega)
        cases hE : emp (meet b (rect x y w h)) with
        | true =>
          rw [hE] at c3 hst
          rw [if_neg (by decide), List.append_nil] at hst
          simp only [go_sem, Nat.reduceEqDiff, Nat.reduceAdd, Nat.reduceSub, Nat.reduceMul, Nat.reduceLT, Nat.reduceLeDiff, Int.reducePow, Int.reduceBEq, Int.reduceBNe, Int.reduceDiv, Int.reduceMod, Int.reduceEq, Int.reduceLT, Int.reduceLE, Int.reduceAdd, Int.reduceSub, Int.reduceMul, Int.reduceNeg, Int.reduceToNat, Int.reduceTDiv, Int.reduceTMod, ↓reduceIte, h1, h2, h3, h8, h9, wx8, dt hxx, hmb]
          repeat ((first | refine (c1 _).x ?_ | refine (c2 _).x ?_ | refine (c3 _).x ?_ | refine drawnF ?_ (by decide +kernel) | refine drawnU [(0, 6)] (by decide +kernel) ?_); simp only [go_sem, Nat.reduceEqDiff, Nat.reduceAdd, Nat.reduceSub, Nat.reduceMul, Nat.reduceLT, Nat.reduceLeDiff, Int.reducePow, Int.reduceBEq, Int.reduceBNe, Int.reduceDiv, Int.reduceMod, Int.reduceEq, Int.reduceLT, Int.reduceLE, Int.reduceAdd, Int.reduceSub, Int.reduceMul, Int.reduceNeg, Int.reduceToNat, Int.reduceTDiv, Int.reduceTMod, ↓reduceIte, h1, h2, h3, h8, h9, wx, hmb, b4C])
          exact ⟨k' - 1, by omega, x + 1, by omega, by omega, by omega, rfl, by rw [hst]; omega, by rw [hst]; exact hC⟩
        | false =>
          rw [hE] at c3 hst
          rw [if_pos rfl] at hst
          rcases hC with ⟨ho, h7, rfl⟩ | ⟨g, X, G, h7, rfl⟩
          · simp only [go_sem, Nat.reduceEqDiff, Nat.reduceAdd, Nat.reduceSub, Nat.reduceMul, Nat.reduceLT, Nat.reduceLeDiff, Int.reducePow, Int.reduceBEq, Int.reduceBNe, Int.reduceDiv, Int.reduceMod, Int.reduceEq, Int.reduceLT, Int.reduceLE, Int.reduceAdd, Int.reduceSub, Int.reduceMul, Int.reduceNeg, Int.reduceToNat, Int.reduceTDiv, Int.reduceTMod, ↓reduceIte, h1, h2, h3, h8, h9, h7, wx8, dt hxx, hmb]
            repeat ((first | refine (c1 _).x ?_ | refine (c2 _).x ?_ | refine (c3 _).x ?_ | refine drawnF ?_ (by decide +kernel) | refine drawnU [(0, 6)] (by decide +kernel) ?_); simp only [go_sem, Nat.reduceEqDiff, Nat.reduceAdd, Nat.reduceSub, Nat.reduceMul, Nat.reduceLT, Nat.reduceLeDiff, Int.reducePow, Int.reduceBEq, Int.reduceBNe, Int.reduceDiv, Int.reduceMod, Int.reduceEq, Int.reduceLT, Int.reduceLE, Int.reduceAdd, Int.reduceSub, Int.reduceMul, Int.reduceNeg, Int.reduceToNat, Int.reduceTDiv, Int.reduceTMod, ↓reduceIte, h1, h2, h3, h8, h9, h7, wx, hmb, b4C])
            exact ⟨k' - 1, by omega, x + 1, by omega, by omega, by omega, rfl, by rw [hst, List.length_append, List.length_singleton]; omega, by rw [hst, ho]; exact .inr ⟨0, _, [], rfl, rfl⟩⟩
          · simp only [go_sem, Nat.reduceEqDiff, Nat.reduceAdd, Nat.reduceSub, Nat.reduceMul, Nat.reduceLT, Nat.reduceLeDiff, Int.reducePow, Int.reduceBEq, Int.reduceBNe, Int.reduceDiv, Int.reduceMod, Int.reduceEq, Int.reduceLT, Int.reduceLE, Int.reduceAdd, Int.reduceSub, Int.reduceMul, Int.reduceNeg, Int.reduceToNat, Int.reduceTDiv, Int.reduceTMod, ↓reduceIte, h1, h2, h3, h8, h9, h7, wx8, dt hxx, hmb]
            repeat ((first | refine (c1 _).x ?_ | refine (c2 _).x ?_ | refine (c3 _).x ?_ | refine drawnF ?_ (by decide +kernel) | refine drawnU [(0, 6)] (by decide +kernel) ?_); simp only [go_sem, Nat.reduceEqDiff, Nat.reduceAdd, Nat.reduceSub, Nat.reduceMul, Nat.reduceLT, Nat.reduceLeDiff, Int.reducePow, Int.reduceBEq, Int.reduceBNe, Int.reduceDiv, Int.reduceMod, Int.reduceEq, Int.reduceLT, Int.reduceLE, Int.reduceAdd, Int.reduceSub, Int.reduceMul, Int.reduceNeg, Int.reduceToNat, Int.reduceTDiv, Int.reduceTMod, ↓reduceIte, h1, h2, h3, h8, h9, h7, wx, hmb, b4C, f1.symm, f2, f3])
            exact ⟨k' - 1, by omega, x + 1, by omega, by omega, by omega, rfl, by rw [hst, List.length_append, List.length_singleton]; omega, by rw [hst]; exact .inr ⟨g + 1, X, _, by rw [List.length_append]; rfl, by rw [ptC_app]; rfl⟩⟩
      · simp only [go_sem, Nat.reduceEqDiff, Nat.reduceAdd, Nat.reduceSub, Nat.reduceMul, Nat.reduceLT, Nat.reduceLeDiff, Int.reducePow, Int.reduceBEq, Int.reduceBNe, Int.reduceDiv, Int.reduceMod, Int.reduceEq, Int.reduceLT, Int.reduceLE, Int.reduceAdd, Int.reduceSub, Int.reduceMul, Int.reduceNeg, Int.reduceToNat, Int.reduceTDiv, Int.reduceTMod, ↓reduceIte, h1, h2, h3, h8, h9, wx8, df hxx, wy]
        have hst := s2 x y (by omega) hy0 hyy
        exact ⟨k - 1, by omega, y + 1, by omega, by omega, by omega, rfl, by rw [← hst]; omega, .inr (by omega), by rw [← hst]; exact hC⟩
    · have hst := s3 y (by omega)
      rw [hst] at hC
      simp only [go_sem, Nat.reduceEqDiff, Nat.reduceAdd, Nat.reduceSub, Nat.reduceMul, Nat.reduceLT, Nat.reduceLeDiff, Int.reducePow, Int.reduceBEq, Int.reduceBNe, Int.reduceDiv, Int.reduceMod, Int.reduceEq, Int.reduceLT, Int.reduceLE, Int.reduceAdd, Int.reduceSub, Int.reduceMul, Int.reduceNeg, Int.reduceToNat, Int.reduceTDiv, Int.reduceTMod, ↓reduceIte, h1, h2, h3, h8, w8, df hyy]
      rcases hC with ⟨ho, h7, rfl⟩ | ⟨g, X, G, h7, rfl⟩
      · exact .inl ⟨ho, .inr h7⟩
      · exact .inr ⟨H.length + 2, g, [], true, h7, by rw [hget_app, List.append_nil]; rfl, by omega⟩
theorem ptiles_ (b : B4) (w h : Int) (H : AH) : Cal Try.prog 26 [b.val, .int .i64 w, .int .i64 h] H fun v H' W => W = [] ∧ (∃ L, H' = H ++ L) ∧ Pts H' v (tilesOf b w h) := by
  have hlen := tiles_len b w h
  by_cases ht : scr w h = false ∨ emp (meet b ⟨0, 0, w, h⟩) = true
  · have e : tilesOf b w h = [] := by
      unfold tilesOf
      cases hs : scr w h with
      | false => simp
      | true => simp [ht.resolve_left (by rw [hs]; decide)]
    exact ⟨_, _, _, tiles_no b w h ht H, rfl, ⟨[], by simp⟩, .inl ⟨e, .inr rfl⟩⟩
  · have h1 : scr w h = true := by cases k : scr w h with | true => rfl | false => exact absurd (.inl k) ht
    have h2 : emp (meet b ⟨0, 0, w, h⟩) = false := by cases k : emp (meet b ⟨0, 0, w, h⟩) with | false => rfl | true => exact absurd (.inr k) ht
    exact ⟨_, _, _, tiles_yes b w h h1 h2 H, rfl, ⟨_, rfl⟩, .inr ⟨H.length, 0, [], true, rfl, by rw [hget_app0, List.append_nil]; rfl, by omega⟩⟩
theorem ctiles_ (b : B4) (w h : Int) (H : AH) : SemCall Try.prog 30 [b.val, .int .i64 w, .int .i64 h] H (.bool true) H [] := by
  refine pure_of ?_ rfl
  have t1 := fun H => ptiles_ b w h H
  have t2 := fun H => rtiles_ b w h H
  have hlen := tiles_len b w h
  generalize tilesOf b w h = l at *
  refine XCal.of hm Try.func30 rfl (fun xs w => Try.call30 xs w) Try.ntmps30 Try.results30 rfl ?_
  simp only [go_sem, Nat.reduceEqDiff, Nat.reduceAdd, Nat.reduceSub, Nat.reduceMul, Nat.reduceLT, Nat.reduceLeDiff, Int.reducePow, Int.reduceBEq, Int.reduceBNe, Int.reduceDiv, Int.reduceMod, Int.reduceEq, Int.reduceLT, Int.reduceLE, Int.reduceAdd, Int.reduceSub, Int.reduceMul, Int.reduceNeg, Int.reduceToNat, Int.reduceTDiv, Int.reduceTMod, ↓reduceIte]
  repeat ((first | refine (t1 _).x ?_ | refine drawnF ?_ (by decide +kernel) | refine drawnU [(3, 4), (3, 5), (3, 6)] (by decide +kernel) ?_); simp only [go_sem, Nat.reduceEqDiff, Nat.reduceAdd, Nat.reduceSub, Nat.reduceMul, Nat.reduceLT, Nat.reduceLeDiff, Int.reducePow, Int.reduceBEq, Int.reduceBNe, Int.reduceDiv, Int.reduceMod, Int.reduceEq, Int.reduceLT, Int.reduceLE, Int.reduceAdd, Int.reduceSub, Int.reduceMul, Int.reduceNeg, Int.reduceToNat, Int.reduceTDiv, Int.reduceTMod, ↓reduceIte])
  rintro v H1 W1 ⟨rfl, ⟨L1, rfl⟩, hp1⟩
  simp only [go_sem, Nat.reduceEqDiff, Nat.reduceAdd, Nat.reduceSub, Nat.reduceMul, Nat.reduceLT, Nat.reduceLeDiff, Int.reducePow, Int.reduceBEq, Int.reduceBNe, Int.reduceDiv, Int.reduceMod, Int.reduceEq, Int.reduceLT, Int.reduceLE, Int.reduceAdd, Int.reduceSub, Int.reduceMul, Int.reduceNeg, Int.reduceToNat, Int.reduceTDiv, Int.reduceTMod, ↓reduceIte, List.append_assoc, List.cons_append, List.nil_append]
  refine (t2 _).x ?_
  rintro v' H1 W1 ⟨rfl, ⟨L2, rfl⟩, hp2⟩
  have hp1 : Pts (H ++ (⟨b4C b, 0, true⟩ :: L1) ++ L2) v l := (by rw [List.append_assoc] at hp1; exact hp1 : Pts (H ++ (⟨b4C b, 0, true⟩ :: L1)) v l).app L2
  generalize H ++ (⟨b4C b, 0, true⟩ :: L1) ++ L2 = K at *
  obtain ⟨a1, e1, hv1⟩ := hp1.form
  obtain ⟨a2, e2, hv2⟩ := hp2.form
  subst hv1
  subst hv2
  simp only [go_sem, Nat.reduceEqDiff, Nat.reduceAdd, Nat.reduceSub, Nat.reduceMul, Nat.reduceLT, Nat.reduceLeDiff, Int.reducePow, Int.reduceBEq, Int.reduceBNe, Int.reduceDiv, Int.reduceMod, Int.reduceEq, Int.reduceLT, Int.reduceLE, Int.reduceAdd, Int.reduceSub, Int.reduceMul, Int.reduceNeg, Int.reduceToNat, Int.reduceTDiv, Int.reduceTMod, ↓reduceIte, nt (show ((l.length : Nat) : Int) = (l.length : Nat) from rfl)]
  refine keep (fun k T H' D => D = [] ∧ H' = K ∧ ∃ (i : Nat), i + k = l.length ∧ T 7 = .slice a1 l.length e1 ∧ T 8 = .slice a2 l.length e2 ∧ T 24 = .int .i64 (l.length : Int) ∧ T 25 = .int .i64 (i : Int)) l.length
    ⟨rfl, rfl, 0, by omega, by simp only [go_sem, Nat.reduceEqDiff, Nat.reduceAdd, Nat.reduceSub, Nat.reduceMul, Nat.reduceLT, Nat.reduceLeDiff, Int.reducePow, Int.reduceBEq, Int.reduceBNe, Int.reduceDiv, Int.reduceMod, Int.reduceEq, Int.reduceLT, Int.reduceLE, Int.reduceAdd, Int.reduceSub, Int.reduceMul, Int.reduceNeg, Int.reduceToNat, Int.reduceTDiv, Int.reduceTMod, ↓reduceIte], by simp only [go_sem, Nat.reduceEqDiff, Nat.reduceAdd, Nat.reduceSub, Nat.reduceMul, Nat.reduceLT, Nat.reduceLeDiff, Int.reducePow, Int.reduceBEq, Int.reduceBNe, Int.reduceDiv, Int.reduceMod, Int.reduceEq, Int.reduceLT, Int.reduceLE, Int.reduceAdd, Int.reduceSub, Int.reduceMul, Int.reduceNeg, Int.reduceToNat, Int.reduceTDiv, Int.reduceTMod, ↓reduceIte], by simp only [go_sem, Nat.reduceEqDiff, Nat.reduceAdd, Nat.reduceSub, Nat.reduceMul, Nat.reduceLT, Nat.reduceLeDiff, Int.reducePow, Int.reduceBEq, Int.reduceBNe, Int.reduceDiv, Int.reduceMod, Int.reduceEq, Int.reduceLT, Int.reduceLE, Int.reduceAdd, Int.reduceSub, Int.reduceMul, Int.reduceNeg, Int.reduceToNat, Int.reduceTDiv, Int.reduceTMod, ↓reduceIte], by simp only [go_sem, Nat.reduceEqDiff, Nat.reduceAdd, Nat.reduceSub, Nat.reduceMul, Nat.reduceLT, Nat.reduceLeDiff, Int.reducePow, Int.reduceBEq, Int.reduceBNe, Int.reduceDiv, Int.reduceMod, Int.reduceEq, Int.reduceLT, Int.reduceLE, Int.reduceAdd, Int.reduceSub, Int.reduceMul, Int.reduceNeg, Int.reduceToNat, Int.reduceTDiv, Int.reduceTMod, ↓reduceIte] <;> rfl⟩ ?_
  rintro k T H' D ⟨rfl, rfl, i, hik, h7, h8, h24, h25⟩
  by_cases hk : i < l.length
  · obtain ⟨b, g, rest, rw_, hv1, hb, _⟩ := hp1.ne (fun e => by rw [e] at hk; simp at hk)
    obtain ⟨b', g', rest', rw', hv2, hb', _⟩ := hp2.ne (fun e => by rw [e] at hk; simp at hk)
    rw [hv1] at h7
    rw [hv2] at h8
    obtain ⟨p, hp, _⟩ := getD_some hk
    have ld := fun (c : Nat) => ald_pt (b := c) (g := g) (rw_ := rw_) rest hp
    have ld' := fun (c : Nat) => ald_pt (b := c) (g := g') (rw_ := rw') rest' hp
    simp only [go_sem, Nat.reduceEqDiff, Nat.reduceAdd, Nat.reduceSub, Nat.reduceMul, Nat.reduceLT, Nat.reduceLeDiff, Int.reducePow, Int.reduceBEq, Int.reduceBNe, Int.reduceDiv, Int.reduceMod, Int.reduceEq, Int.reduceLT, Int.reduceLE, Int.reduceAdd, Int.reduceSub, Int.reduceMul, Int.reduceNeg, Int.reduceToNat, Int.reduceTDiv, Int.reduceTMod, ↓reduceIte, h7, h8, h24, h25, dt (show (i : Int) < (l.length : Int) by omega)]
    repeat ((first | refine (rnearp_ p _).x ?_ | refine drawnF ?_ (by decide +kernel) | refine drawnU [(3, 4), (3, 5), (3, 6)] (by decide +kernel) ?_); simp only [go_sem, Nat.reduceEqDiff, Nat.reduceAdd, Nat.reduceSub, Nat.reduceMul, Nat.reduceLT, Nat.reduceLeDiff, Int.reducePow, Int.reduceBEq, Int.reduceBNe, Int.reduceDiv, Int.reduceMod, Int.reduceEq, Int.reduceLT, Int.reduceLE, Int.reduceAdd, Int.reduceSub, Int.reduceMul, Int.reduceNeg, Int.reduceToNat, Int.reduceTDiv, Int.reduceTMod, ↓reduceIte, h7, h8, h24, h25, show (0 : Int) ≤ (i : Int) by omega, show (i : Int) < (l.length : Int) by omega, Int.toNat_natCast, Nat.zero_add, hb, hb', ld, ld', ptv, beq_self_eq_true, bne_self_eq_false])
    exact ⟨k - 1, by omega, i + 1, by omega, hv1.symm, hv2.symm, by rw [wi (by omega) (by omega)]; rfl⟩
  · simp only [go_sem, Nat.reduceEqDiff, Nat.reduceAdd, Nat.reduceSub, Nat.reduceMul, Nat.reduceLT, Nat.reduceLeDiff, Int.reducePow, Int.reduceBEq, Int.reduceBNe, Int.reduceDiv, Int.reduceMod, Int.reduceEq, Int.reduceLT, Int.reduceLE, Int.reduceAdd, Int.reduceSub, Int.reduceMul, Int.reduceNeg, Int.reduceToNat, Int.reduceTDiv, Int.reduceTMod, ↓reduceIte, h7, h8, h24, h25, df (show ¬ (i : Int) < (l.length : Int) by omega)]
end Go.Proofs.Ythoclopeajkcpaa
/- Chapter 14: the walk of the law on numbers. -/
namespace Go.Proofs.Ythoclopeajkcpaa
open Go Go.RowKit E
attribute [local irreducible] XRun XOps XCode XCal XLoop XQ SemCall
set_option linter.unusedSimpArgs false
set_option linter.unusedVariables false
theorem inC_app (l m : List Int) : intC (l ++ m) = intC l ++ intC m := by simp [intC]
theorem inC_len (l : List Int) : (intC l).length = l.length := by simp [intC]
theorem tapes_ (n : Int) (H : AH) : Cal Try.prog 32 [.int .i64 n] H fun v H' W => W = [] ∧ (∃ L, H' = H ++ L) ∧ ∃ b lv ls, v = ap b 0 0 ∧ H.length ≤ b ∧ TapeAt H' b 0 lv ls := by
  refine adds_of ?_
  refine XCal.of hm Try.func32 rfl (fun xs w => Try.call32 xs w) Try.ntmps32 Try.results32 rfl ?_
  simp only [go_sem, Nat.reduceEqDiff, Nat.reduceAdd, Nat.reduceSub, Nat.reduceMul, Nat.reduceLT, Nat.reduceLeDiff, Int.reducePow, Int.reduceBEq, Int.reduceBNe, Int.reduceDiv, Int.reduceMod, Int.reduceEq, Int.reduceLT, Int.reduceLE, Int.reduceAdd, Int.reduceSub, Int.reduceMul, Int.reduceNeg, Int.reduceToNat, Int.reduceTDiv, Int.reduceTMod, ↓reduceIte]
  refine keep (fun k T H' D => D = [] ∧ ∃ i : Nat, i + k = 90 ∧ T 0 = .int .i64 n ∧ T 4 = .int .i64 (i : Int) ∧ ((i = 0 ∧ T 3 = .slice none 0 0 ∧ H' = H) ∨ ∃ g X G ls, 0 < i ∧ T 3 = sl (H.length + 1) 0 g i 1 ∧ H' = H ++ (X :: ⟨intC ls, g, true⟩ :: G) ∧ ls.length = i)) 90
    ⟨rfl, 0, rfl, by simp only [go_sem, Nat.reduceEqDiff, Nat.reduceAdd, Nat.reduceSub, Nat.reduceMul, Nat.reduceLT, Nat.reduceLeDiff, Int.reducePow, Int.reduceBEq, Int.reduceBNe, Int.reduceDiv, Int.reduceMod, Int.reduceEq, Int.reduceLT, Int.reduceLE, Int.reduceAdd, Int.reduceSub, Int.reduceMul, Int.reduceNeg, Int.reduceToNat, Int.reduceTDiv, Int.reduceTMod, ↓reduceIte], by simp only [go_sem, Nat.reduceEqDiff, Nat.reduceAdd, Nat.reduceSub, Nat.reduceMul, Nat.reduceLT, Nat.reduceLeDiff, Int.reducePow, Int.reduceBEq, Int.reduceBNe, Int.reduceDiv, Int.reduceMod, Int.reduceEq, Int.reduceLT, Int.reduceLE, Int.reduceAdd, Int.reduceSub, Int.reduceMul, Int.reduceNeg, Int.reduceToNat, Int.reduceTDiv, Int.reduceTMod, ↓reduceIte] <;> rfl, .inl ⟨rfl, by simp only [go_sem, Nat.reduceEqDiff, Nat.reduceAdd, Nat.reduceSub, Nat.reduceMul, Nat.reduceLT, Nat.reduceLeDiff, Int.reducePow, Int.reduceBEq, Int.reduceBNe, Int.reduceDiv, Int.reduceMod, Int.reduceEq, Int.reduceLT, Int.reduceLE, Int.reduceAdd, Int.reduceSub, Int.reduceMul, Int.reduceNeg, Int.reduceToNat, Int.reduceTDiv, Int.reduceTMod, ↓reduceIte] <;> rfl, rfl⟩⟩ ?_
  rintro k T H' D ⟨rfl, i, hik, h0, h4, hC⟩
  by_cases hk : i < 90
  · have w1 : IntKind.i64.wrap ((i : Int) + 1) = ((i + 1 : Nat) : Int) := by rw [wi (by omega) (by omega)]; rfl
    rcases hC with ⟨hi0, h3, rfl⟩ | ⟨g, X, G, ls, hi0, h3, rfl, hls⟩
    · simp only [go_sem, Nat.reduceEqDiff, Nat.reduceAdd, Nat.reduceSub, Nat.reduceMul, Nat.reduceLT, Nat.reduceLeDiff, Int.reducePow, Int.reduceBEq, Int.reduceBNe, Int.reduceDiv, Int.reduceMod, Int.reduceEq, Int.reduceLT, Int.reduceLE, Int.reduceAdd, Int.reduceSub, Int.reduceMul, Int.reduceNeg, Int.reduceToNat, Int.reduceTDiv, Int.reduceTMod, ↓reduceIte, h0, h4, h3, dt (show (i : Int) < 90 by omega), w1]
      exact ⟨k - 1, by omega, i + 1, by omega, rfl, .inr ⟨0, _, [], [_], by omega, by rw [hi0], rfl, by rw [hi0]; rfl⟩⟩
    · have hcl : (intC ls).length = i := by rw [inC_len, hls]
      have s1 : (i + 1) * 8 - 140737488355328 = 0 := Nat.sub_eq_zero_of_le (Nat.le_trans (Nat.mul_le_mul_right 8 (show i + 1 ≤ 4000 by omega)) (by decide))
      have s2 : i + 1 - 140737488355328 = 0 := Nat.sub_eq_zero_of_le (Nat.le_trans (show i + 1 ≤ 4000 by omega) (by decide))
      simp only [go_sem, Nat.reduceEqDiff, Nat.reduceAdd, Nat.reduceSub, Nat.reduceMul, Nat.reduceLT, Nat.reduceLeDiff, Int.reducePow, Int.reduceBEq, Int.reduceBNe, Int.reduceDiv, Int.reduceMod, Int.reduceEq, Int.reduceLT, Int.reduceLE, Int.reduceAdd, Int.reduceSub, Int.reduceMul, Int.reduceNeg, Int.reduceToNat, Int.reduceTDiv, Int.reduceTMod, ↓reduceIte, h0, h4, h3, dt (show (i : Int) < 90 by omega), w1, hcl, s1, s2, Nat.mul_one]
      exact ⟨k - 1, by omega, i + 1, by omega, rfl, .inr ⟨g + 1, X, _, ls ++ [_], by omega, rfl, by rw [inC_app]; rfl, by rw [List.length_append, hls]; rfl⟩⟩
  · have hi : i = 90 := by omega
    subst hi
    rcases hC with ⟨hj0, _, _⟩ | ⟨g, X, G, ls, hi0, h3, rfl, hls⟩
    · omega
    simp only [go_sem, Nat.reduceEqDiff, Nat.reduceAdd, Nat.reduceSub, Nat.reduceMul, Nat.reduceLT, Nat.reduceLeDiff, Int.reducePow, Int.reduceBEq, Int.reduceBNe, Int.reduceDiv, Int.reduceMod, Int.reduceEq, Int.reduceLT, Int.reduceLE, Int.reduceAdd, Int.reduceSub, Int.reduceMul, Int.reduceNeg, Int.reduceToNat, Int.reduceTDiv, Int.reduceTMod, ↓reduceIte, h0, h4, h3]
    refine ⟨H.length + (G.length + 1 + 1), sl (H.length + 1) 0 g 90 1, ls, rfl, by omega, ?_⟩
    refine ⟨.inr ⟨H.length + 1, g, [], true, by rw [hls], by omega, by rw [hget_app, List.append_nil]; rfl, by omega⟩, 0, by omega, by omega, ?_⟩
    rw [hget_app]
    show (G ++ _)[G.length]? = _
    rw [hget_app0]; rfl
theorem bnums (H : AH) : SemCall Try.prog 7 [] H (.bool true) H [] := by
  refine pure_of ?_ rfl
  refine XCal.of hm Try.func7 rfl (fun xs w => Try.call7 xs w) Try.ntmps7 Try.results7 rfl ?_
  simp only [go_sem, Nat.reduceEqDiff, Nat.reduceAdd, Nat.reduceSub, Nat.reduceMul, Nat.reduceLT, Nat.reduceLeDiff, Int.reducePow, Int.reduceBEq, Int.reduceBNe, Int.reduceDiv, Int.reduceMod, Int.reduceEq, Int.reduceLT, Int.reduceLE, Int.reduceAdd, Int.reduceSub, Int.reduceMul, Int.reduceNeg, Int.reduceToNat, Int.reduceTDiv, Int.reduceTMod, ↓reduceIte]
  refine keep (fun k T K D => D = [] ∧ H.length ≤ K.length ∧ ∃ i : Nat, i + k = 625 ∧ T 1 = .int .i64 (i : Int)) 625 ⟨rfl, by simp, 0, rfl, by simp only [go_sem, Nat.reduceEqDiff, Nat.reduceAdd, Nat.reduceSub, Nat.reduceMul, Nat.reduceLT, Nat.reduceLeDiff, Int.reducePow, Int.reduceBEq, Int.reduceBNe, Int.reduceDiv, Int.reduceMod, Int.reduceEq, Int.reduceLT, Int.reduceLE, Int.reduceAdd, Int.reduceSub, Int.reduceMul, Int.reduceNeg, Int.reduceToNat, Int.reduceTDiv, Int.reduceTMod, ↓reduceIte] <;> rfl⟩ ?_
  rintro k T K D ⟨rfl, hKl, i, hik, h1⟩
  have kd : ∀ n, decide (K.length + n < H.length) = false := fun n => df (by omega)
  have kd0 : decide (K.length < H.length) = false := df (by omega)
  have w1 : ∀ x : Nat, x < 1000 → IntKind.i64.wrap ((x : Int) + 1) = ((x + 1 : Nat) : Int) := fun x hx => by rw [wi (by omega) (by omega)]; rfl
  by_cases hk : i < 625
  · simp only [go_sem, Nat.reduceEqDiff, Nat.reduceAdd, Nat.reduceSub, Nat.reduceMul, Nat.reduceLT, Nat.reduceLeDiff, Int.reducePow, Int.reduceBEq, Int.reduceBNe, Int.reduceDiv, Int.reduceMod, Int.reduceEq, Int.reduceLT, Int.reduceLE, Int.reduceAdd, Int.reduceSub, Int.reduceMul, Int.reduceNeg, Int.reduceToNat, Int.reduceTDiv, Int.reduceTMod, ↓reduceIte, h1, dt (show (i : Int) < 625 by omega), kd, kd0]
    refine keep (fun k' T K' D => D = [] ∧ H.length ≤ K'.length ∧ ∃ (A : B4) (j : Nat), j + k' = 700 ∧ K'[K.length]? = some ⟨b4C A, 0, true⟩ ∧ T 1 = .int .i64 (i : Int) ∧ T 2 = ap K.length 0 0 ∧ T 3 = .int .i64 (j : Int)) 700
      ⟨rfl, by simp; omega, ⟨_, _, _, _⟩, 0, rfl, by rw [hget_app0]; rfl, by simp only [go_sem, Nat.reduceEqDiff, Nat.reduceAdd, Nat.reduceSub, Nat.reduceMul, Nat.reduceLT, Nat.reduceLeDiff, Int.reducePow, Int.reduceBEq, Int.reduceBNe, Int.reduceDiv, Int.reduceMod, Int.reduceEq, Int.reduceLT, Int.reduceLE, Int.reduceAdd, Int.reduceSub, Int.reduceMul, Int.reduceNeg, Int.reduceToNat, Int.reduceTDiv, Int.reduceTMod, ↓reduceIte, h1], by simp only [go_sem, Nat.reduceEqDiff, Nat.reduceAdd, Nat.reduceSub, Nat.reduceMul, Nat.reduceLT, Nat.reduceLeDiff, Int.reducePow, Int.reduceBEq, Int.reduceBNe, Int.reduceDiv, Int.reduceMod, Int.reduceEq, Int.reduceLT, Int.reduceLE, Int.reduceAdd, Int.reduceSub, Int.reduceMul, Int.reduceNeg, Int.reduceToNat, Int.reduceTDiv, Int.reduceTMod, ↓reduceIte], by simp only [go_sem, Nat.reduceEqDiff, Nat.reduceAdd, Nat.reduceSub, Nat.reduceMul, Nat.reduceLT, Nat.reduceLeDiff, Int.reducePow, Int.reduceBEq, Int.reduceBNe, Int.reduceDiv, Int.reduceMod, Int.reduceEq, Int.reduceLT, Int.reduceLE, Int.reduceAdd, Int.reduceSub, Int.reduceMul, Int.reduceNeg, Int.reduceToNat, Int.reduceTDiv, Int.reduceTMod, ↓reduceIte] <;> rfl⟩ ?_
    clear h1 kd kd0
    rintro k' T K' D ⟨rfl, hKl', A, j, hjk, hA, h1, h2, h3⟩
    have kd : ∀ n, decide (K'.length + n < H.length) = false := fun n => df (by omega)
    have kd0 : decide (K'.length < H.length) = false := df (by omega)
    by_cases hj : j < 625
    · have w37 : IntKind.i64.wrap ((j : Int) + 37) = ((j + 37 : Nat) : Int) := by rw [wi (by omega) (by omega)]; rfl
      simp only [go_sem, Nat.reduceEqDiff, Nat.reduceAdd, Nat.reduceSub, Nat.reduceMul, Nat.reduceLT, Nat.reduceLeDiff, Int.reducePow, Int.reduceBEq, Int.reduceBNe, Int.reduceDiv, Int.reduceMod, Int.reduceEq, Int.reduceLT, Int.reduceLE, Int.reduceAdd, Int.reduceSub, Int.reduceMul, Int.reduceNeg, Int.reduceToNat, Int.reduceTDiv, Int.reduceTMod, ↓reduceIte, h1, h2, h3, dt (show (j : Int) < 625 by omega), kd, kd0, old_get hA]
      refine (boxes_ A ⟨_, _, _, _⟩ _ _ _).x ?_
      simp only [go_sem, Nat.reduceEqDiff, Nat.reduceAdd, Nat.reduceSub, Nat.reduceMul, Nat.reduceLT, Nat.reduceLeDiff, Int.reducePow, Int.reduceBEq, Int.reduceBNe, Int.reduceDiv, Int.reduceMod, Int.reduceEq, Int.reduceLT, Int.reduceLE, Int.reduceAdd, Int.reduceSub, Int.reduceMul, Int.reduceNeg, Int.reduceToNat, Int.reduceTDiv, Int.reduceTMod, ↓reduceIte, h1, h2, h3, kd, kd0, w37]
      exact ⟨k' - 37, by omega, by omega, A, j + 37, by omega, old_get hA _, rfl⟩
    · simp only [go_sem, Nat.reduceEqDiff, Nat.reduceAdd, Nat.reduceSub, Nat.reduceMul, Nat.reduceLT, Nat.reduceLeDiff, Int.reducePow, Int.reduceBEq, Int.reduceBNe, Int.reduceDiv, Int.reduceMod, Int.reduceEq, Int.reduceLT, Int.reduceLE, Int.reduceAdd, Int.reduceSub, Int.reduceMul, Int.reduceNeg, Int.reduceToNat, Int.reduceTDiv, Int.reduceTMod, ↓reduceIte, h1, h2, h3, df (show ¬ (j : Int) < 625 by omega), kd, kd0, w1 i (by omega)]
      exact ⟨k - 1, by omega, by omega, i + 1, by omega, rfl⟩
  · simp only [go_sem, Nat.reduceEqDiff, Nat.reduceAdd, Nat.reduceSub, Nat.reduceMul, Nat.reduceLT, Nat.reduceLeDiff, Int.reducePow, Int.reduceBEq, Int.reduceBNe, Int.reduceDiv, Int.reduceMod, Int.reduceEq, Int.reduceLT, Int.reduceLE, Int.reduceAdd, Int.reduceSub, Int.reduceMul, Int.reduceNeg, Int.reduceToNat, Int.reduceTDiv, Int.reduceTMod, ↓reduceIte, h1, df (show ¬ (i : Int) < 625 by omega), kd, kd0]
    have c12 : intC [(-1 : Int), 0, 1, 7, 8, 9, 16, 17, 255, 256, 257, 1099511627776] = [.int .i64 (-1), .int .i64 0, .int .i64 1, .int .i64 7, .int .i64 8, .int .i64 9, .int .i64 16, .int .i64 17, .int .i64 255, .int .i64 256, .int .i64 257, .int .i64 1099511627776] := rfl
    have hl12 : [(-1 : Int), 0, 1, 7, 8, 9, 16, 17, 255, 256, 257, 1099511627776].length = 12 := rfl
    rw [← c12]
    generalize [(-1 : Int), 0, 1, 7, 8, 9, 16, 17, 255, 256, 257, 1099511627776] = l12 at *
    refine keep (fun k T K' D => D = [] ∧ H.length ≤ K'.length ∧ ∃ (i : Nat), i + k = 12 ∧ K'[K.length]? = some ⟨intC l12, 0, true⟩ ∧ T 56 = sl K.length 0 0 12 1 ∧ T 57 = .int .i64 12 ∧ T 58 = .int .i64 (i : Int)) 12
      ⟨rfl, by simp; omega, 0, rfl, by rw [hget_app0]; rfl, by simp only [go_sem, Nat.reduceEqDiff, Nat.reduceAdd, Nat.reduceSub, Nat.reduceMul, Nat.reduceLT, Nat.reduceLeDiff, Int.reducePow, Int.reduceBEq, Int.reduceBNe, Int.reduceDiv, Int.reduceMod, Int.reduceEq, Int.reduceLT, Int.reduceLE, Int.reduceAdd, Int.reduceSub, Int.reduceMul, Int.reduceNeg, Int.reduceToNat, Int.reduceTDiv, Int.reduceTMod, ↓reduceIte], by simp only [go_sem, Nat.reduceEqDiff, Nat.reduceAdd, Nat.reduceSub, Nat.reduceMul, Nat.reduceLT, Nat.reduceLeDiff, Int.reducePow, Int.reduceBEq, Int.reduceBNe, Int.reduceDiv, Int.reduceMod, Int.reduceEq, Int.reduceLT, Int.reduceLE, Int.reduceAdd, Int.reduceSub, Int.reduceMul, Int.reduceNeg, Int.reduceToNat, Int.reduceTDiv, Int.reduceTMod, ↓reduceIte], by simp only [go_sem, Nat.reduceEqDiff, Nat.reduceAdd, Nat.reduceSub, Nat.reduceMul, Nat.reduceLT, Nat.reduceLeDiff, Int.reducePow, Int.reduceBEq, Int.reduceBNe, Int.reduceDiv, Int.reduceMod, Int.reduceEq, Int.reduceLT, Int.reduceLE, Int.reduceAdd, Int.reduceSub, Int.reduceMul, Int.reduceNeg, Int.reduceToNat, Int.reduceTDiv, Int.reduceTMod, ↓reduceIte] <;> rfl⟩ ?_
    clear h1 kd kd0 hik hk
    rintro k T K' D ⟨rfl, hKl', i, hik, hq, h56, h57, h58⟩
    have kd : ∀ n, decide (K'.length + n < H.length) = false := fun n => df (by omega)
    have kd0 : decide (K'.length < H.length) = false := df (by omega)
    by_cases hi : i < 12
    · obtain ⟨t6, ht6⟩ : ∃ v, l12[i]? = some v := ⟨_, List.getElem?_eq_getElem (by omega)⟩
      have g6 : (intC l12)[i]? = some (.int .i64 t6) := by simp [intC, ht6]
      simp only [go_sem, Nat.reduceEqDiff, Nat.reduceAdd, Nat.reduceSub, Nat.reduceMul, Nat.reduceLT, Nat.reduceLeDiff, Int.reducePow, Int.reduceBEq, Int.reduceBNe, Int.reduceDiv, Int.reduceMod, Int.reduceEq, Int.reduceLT, Int.reduceLE, Int.reduceAdd, Int.reduceSub, Int.reduceMul, Int.reduceNeg, Int.reduceToNat, Int.reduceTDiv, Int.reduceTMod, ↓reduceIte, h56, h57, h58, dt (show (i : Int) < 12 by omega), show (0 : Int) ≤ (i : Int) by omega, show (i : Int) < 12 by omega, Int.toNat_natCast, Nat.zero_add, Nat.mul_one, hq, g6, kd, kd0]
      have c6 : intC [(0 : Int), 1, 8, 23, 256, 300] = [.int .i64 0, .int .i64 1, .int .i64 8, .int .i64 23, .int .i64 256, .int .i64 300] := rfl
      have hl6 : [(0 : Int), 1, 8, 23, 256, 300].length = 6 := rfl
      rw [← c6]
      generalize [(0 : Int), 1, 8, 23, 256, 300] = l6 at *
      refine keep (fun k' T J D => D = [] ∧ H.length ≤ J.length ∧ ∃ (j : Nat), j + k' = 6 ∧ J[K.length]? = some ⟨intC l12, 0, true⟩ ∧ J[K'.length]? = some ⟨intC l6, 0, true⟩ ∧ T 56 = sl K.length 0 0 12 1 ∧ T 57 = .int .i64 12 ∧ T 58 = .int .i64 (i : Int) ∧ T 6 = .int .i64 t6 ∧ T 62 = sl K'.length 0 0 6 1 ∧ T 63 = .int .i64 6 ∧ T 64 = .int .i64 (j : Int)) 6
        ⟨rfl, by simp; omega, 0, rfl, old_get hq _, by rw [hget_app0]; rfl, by simp only [go_sem, Nat.reduceEqDiff, Nat.reduceAdd, Nat.reduceSub, Nat.reduceMul, Nat.reduceLT, Nat.reduceLeDiff, Int.reducePow, Int.reduceBEq, Int.reduceBNe, Int.reduceDiv, Int.reduceMod, Int.reduceEq, Int.reduceLT, Int.reduceLE, Int.reduceAdd, Int.reduceSub, Int.reduceMul, Int.reduceNeg, Int.reduceToNat, Int.reduceTDiv, Int.reduceTMod, ↓reduceIte, h56], by simp only [go_sem, Nat.reduceEqDiff, Nat.reduceAdd, Nat.reduceSub, Nat.reduceMul, Nat.reduceLT, Nat.reduceLeDiff, Int.reducePow, Int.reduceBEq, Int.reduceBNe, Int.reduceDiv, Int.reduceMod, Int.reduceEq, Int.reduceLT, Int.reduceLE, Int.reduceAdd, Int.reduceSub, Int.reduceMul, Int.reduceNeg, Int.reduceToNat, Int.reduceTDiv, Int.reduceTMod, ↓reduceIte, h57], by simp only [go_sem, Nat.reduceEqDiff, Nat.reduceAdd, Nat.reduceSub, Nat.reduceMul, Nat.reduceLT, Nat.reduceLeDiff, Int.reducePow, Int.reduceBEq, Int.reduceBNe, Int.reduceDiv, Int.reduceMod, Int.reduceEq, Int.reduceLT, Int.reduceLE, Int.reduceAdd, Int.reduceSub, Int.reduceMul, Int.reduceNeg, Int.reduceToNat, Int.reduceTDiv, Int.reduceTMod, ↓reduceIte, h58], by simp only [go_sem, Nat.reduceEqDiff, Nat.reduceAdd, Nat.reduceSub, Nat.reduceMul, Nat.reduceLT, Nat.reduceLeDiff, Int.reducePow, Int.reduceBEq, Int.reduceBNe, Int.reduceDiv, Int.reduceMod, Int.reduceEq, Int.reduceLT, Int.reduceLE, Int.reduceAdd, Int.reduceSub, Int.reduceMul, Int.reduceNeg, Int.reduceToNat, Int.reduceTDiv, Int.reduceTMod, ↓reduceIte], by simp only [go_sem, Nat.reduceEqDiff, Nat.reduceAdd, Nat.reduceSub, Nat.reduceMul, Nat.reduceLT, Nat.reduceLeDiff, Int.reducePow, Int.reduceBEq, Int.reduceBNe, Int.reduceDiv, Int.reduceMod, Int.reduceEq, Int.reduceLT, Int.reduceLE, Int.reduceAdd, Int.reduceSub, Int.reduceMul, Int.reduceNeg, Int.reduceToNat, Int.reduceTDiv, Int.reduceTMod, ↓reduceIte], by simp only [go_sem, Nat.reduceEqDiff, Nat.reduceAdd, Nat.reduceSub, Nat.reduceMul, Nat.reduceLT, Nat.reduceLeDiff, Int.reducePow, Int.reduceBEq, Int.reduceBNe, Int.reduceDiv, Int.reduceMod, Int.reduceEq, Int.reduceLT, Int.reduceLE, Int.reduceAdd, Int.reduceSub, Int.reduceMul, Int.reduceNeg, Int.reduceToNat, Int.reduceTDiv, Int.reduceTMod, ↓reduceIte], by simp only [go_sem, Nat.reduceEqDiff, Nat.reduceAdd, Nat.reduceSub, Nat.reduceMul, Nat.reduceLT, Nat.reduceLeDiff, Int.reducePow, Int.reduceBEq, Int.reduceBNe, Int.reduceDiv, Int.reduceMod, Int.reduceEq, Int.reduceLT, Int.reduceLE, Int.reduceAdd, Int.reduceSub, Int.reduceMul, Int.reduceNeg, Int.reduceToNat, Int.reduceTDiv, Int.reduceTMod, ↓reduceIte] <;> rfl⟩ ?_
      clear h56 h57 h58 hq kd kd0
      rintro k' T J D ⟨rfl, hJl, j, hjk, hq, hq6, h56, h57, h58, h6, h62, h63, h64⟩
      have kd : ∀ n, decide (J.length + n < H.length) = false := fun n => df (by omega)
      have kd0 : decide (J.length < H.length) = false := df (by omega)
      by_cases hj : j < 6
      · obtain ⟨t8, ht8⟩ : ∃ v, l6[j]? = some v := ⟨_, List.getElem?_eq_getElem (by omega)⟩
        have g8 : (intC l6)[j]? = some (.int .i64 t8) := by simp [intC, ht8]
        simp only [go_sem, Nat.reduceEqDiff, Nat.reduceAdd, Nat.reduceSub, Nat.reduceMul, Nat.reduceLT, Nat.reduceLeDiff, Int.reducePow, Int.reduceBEq, Int.reduceBNe, Int.reduceDiv, Int.reduceMod, Int.reduceEq, Int.reduceLT, Int.reduceLE, Int.reduceAdd, Int.reduceSub, Int.reduceMul, Int.reduceNeg, Int.reduceToNat, Int.reduceTDiv, Int.reduceTMod, ↓reduceIte, h56, h57, h58, h6, h62, h63, h64, dt (show (j : Int) < 6 by omega), show (0 : Int) ≤ (j : Int) by omega, show (j : Int) < 6 by omega, Int.toNat_natCast, Nat.zero_add, Nat.mul_one, hq6, g8, kd, kd0]
        repeat ((first | refine (ctiles_ ⟨_, _, _, _⟩ _ _ _).x ?_ | refine drawnF ?_ (by decide +kernel)); simp only [go_sem, Nat.reduceEqDiff, Nat.reduceAdd, Nat.reduceSub, Nat.reduceMul, Nat.reduceLT, Nat.reduceLeDiff, Int.reducePow, Int.reduceBEq, Int.reduceBNe, Int.reduceDiv, Int.reduceMod, Int.reduceEq, Int.reduceLT, Int.reduceLE, Int.reduceAdd, Int.reduceSub, Int.reduceMul, Int.reduceNeg, Int.reduceToNat, Int.reduceTDiv, Int.reduceTMod, ↓reduceIte, h56, h57, h58, h6, h62, h63, h64, w1 j (by omega)])
        exact ⟨k' - 1, by omega, hJl, j + 1, by omega, hq, hq6, rfl⟩
      · simp only [go_sem, Nat.reduceEqDiff, Nat.reduceAdd, Nat.reduceSub, Nat.reduceMul, Nat.reduceLT, Nat.reduceLeDiff, Int.reducePow, Int.reduceBEq, Int.reduceBNe, Int.reduceDiv, Int.reduceMod, Int.reduceEq, Int.reduceLT, Int.reduceLE, Int.reduceAdd, Int.reduceSub, Int.reduceMul, Int.reduceNeg, Int.reduceToNat, Int.reduceTDiv, Int.reduceTMod, ↓reduceIte, h56, h57, h58, h6, h62, h63, h64, df (show ¬ (j : Int) < 6 by omega), kd, kd0, w1 i (by omega)]
        exact ⟨k - 1, by omega, by omega, i + 1, by omega, hq, rfl⟩
    · simp only [go_sem, Nat.reduceEqDiff, Nat.reduceAdd, Nat.reduceSub, Nat.reduceMul, Nat.reduceLT, Nat.reduceLeDiff, Int.reducePow, Int.reduceBEq, Int.reduceBNe, Int.reduceDiv, Int.reduceMod, Int.reduceEq, Int.reduceLT, Int.reduceLE, Int.reduceAdd, Int.reduceSub, Int.reduceMul, Int.reduceNeg, Int.reduceToNat, Int.reduceTDiv, Int.reduceTMod, ↓reduceIte, h56, h57, h58, df (show ¬ (i : Int) < 12 by omega), kd, kd0]
      refine keep (fun k T J D => D = [] ∧ H.length ≤ J.length ∧ ∃ (i : Nat), i + k = 30 ∧ T 9 = .int .i64 (i : Int)) 30 ⟨rfl, hKl', 0, rfl, by simp only [go_sem, Nat.reduceEqDiff, Nat.reduceAdd, Nat.reduceSub, Nat.reduceMul, Nat.reduceLT, Nat.reduceLeDiff, Int.reducePow, Int.reduceBEq, Int.reduceBNe, Int.reduceDiv, Int.reduceMod, Int.reduceEq, Int.reduceLT, Int.reduceLE, Int.reduceAdd, Int.reduceSub, Int.reduceMul, Int.reduceNeg, Int.reduceToNat, Int.reduceTDiv, Int.reduceTMod, ↓reduceIte] <;> rfl⟩ ?_
      clear h56 h57 h58 hq kd kd0 hKl' hik hi
      rintro k T J D ⟨rfl, hJl, i, hik, h9⟩
      have kd : ∀ n, decide (J.length + n < H.length) = false := fun n => df (by omega)
      have kd0 : decide (J.length < H.length) = false := df (by omega)
      by_cases hi : i < 30
      · simp only [go_sem, Nat.reduceEqDiff, Nat.reduceAdd, Nat.reduceSub, Nat.reduceMul, Nat.reduceLT, Nat.reduceLeDiff, Int.reducePow, Int.reduceBEq, Int.reduceBNe, Int.reduceDiv, Int.reduceMod, Int.reduceEq, Int.reduceLT, Int.reduceLE, Int.reduceAdd, Int.reduceSub, Int.reduceMul, Int.reduceNeg, Int.reduceToNat, Int.reduceTDiv, Int.reduceTMod, ↓reduceIte, h9, dt (show (i : Int) < 30 by omega)]
        refine (tapes_ _ _).x ?_
        rintro v H1 W1 ⟨rfl, ⟨L, rfl⟩, tb, lv, ls, rfl, htb, hT⟩
        simp only [go_sem, Nat.reduceEqDiff, Nat.reduceAdd, Nat.reduceSub, Nat.reduceMul, Nat.reduceLT, Nat.reduceLeDiff, Int.reducePow, Int.reduceBEq, Int.reduceBNe, Int.reduceDiv, Int.reduceMod, Int.reduceEq, Int.reduceLT, Int.reduceLE, Int.reduceAdd, Int.reduceSub, Int.reduceMul, Int.reduceNeg, Int.reduceToNat, Int.reduceTDiv, Int.reduceTMod, ↓reduceIte, h9]
        refine (polysOf1 _ hT).x ?_
        rintro v H1 W1 ⟨rfl, _, hl1, ps, hP, hpl, hpb⟩
        have kdb : decide (tb < H.length) = false := df (by omega)
        have o1 := fun H2 (h : Polys H2 v ps) => boxof_ ps v (fun x hx p hp => ((hpb x hx).2 p hp).ip) H2 h
        have o2 := fun H2 (h : Polys H2 v ps) => rboxof_ ps v (fun x hx p hp => ((hpb x hx).2 p hp).ip) H2 h
        have hJ1 : H.length ≤ H1.length := by simp at hl1; omega
        simp only [go_sem, Nat.reduceEqDiff, Nat.reduceAdd, Nat.reduceSub, Nat.reduceMul, Nat.reduceLT, Nat.reduceLeDiff, Int.reducePow, Int.reduceBEq, Int.reduceBNe, Int.reduceDiv, Int.reduceMod, Int.reduceEq, Int.reduceLT, Int.reduceLE, Int.reduceAdd, Int.reduceSub, Int.reduceMul, Int.reduceNeg, Int.reduceToNat, Int.reduceTDiv, Int.reduceTMod, ↓reduceIte, h9, kdb]
        repeat ((first | refine (o1 _ hP).x ?_ | refine (o2 _ hP).x ?_ | refine drawnF ?_ (by decide +kernel)); simp only [go_sem, Nat.reduceEqDiff, Nat.reduceAdd, Nat.reduceSub, Nat.reduceMul, Nat.reduceLT, Nat.reduceLeDiff, Int.reducePow, Int.reduceBEq, Int.reduceBNe, Int.reduceDiv, Int.reduceMod, Int.reduceEq, Int.reduceLT, Int.reduceLE, Int.reduceAdd, Int.reduceSub, Int.reduceMul, Int.reduceNeg, Int.reduceToNat, Int.reduceTDiv, Int.reduceTMod, ↓reduceIte, h9, kdb, beq_self_eq_true, bne_self_eq_false, w1 i (by omega)])
        exact ⟨k - 1, by omega, hJ1, i + 1, by omega, rfl⟩
      · have ip : ∀ x ∈ [(false, ([] : List Pt)), (false, [((9223372036854775807 : Int), (-9223372036854775808 : Int))])], ∀ p ∈ x.2, Ip p := fun x hx p hp => by
          simp at hx
          rcases hx with rfl | rfl
          · simp at hp
          · simp at hp; subst hp; exact ⟨⟨by decide, by decide⟩, by decide, by decide⟩
        have pt := fun (M : AH) (b c : Nat) (hb : (J ++ M)[b]? = some ⟨[.bool false, .slice none 0 0, .bool false, sl c 0 0 1 2], 0, true⟩) (hc : (J ++ M)[c]? = some ⟨[.int .i64 9223372036854775807, .int .i64 (-9223372036854775808)], 0, true⟩) => (Polys.two hb (.inl ⟨rfl, .inr rfl⟩) (.inr ⟨c, 0, [], true, rfl, hc, by simp⟩) : Polys (J ++ M) (sl b 0 0 2 2) [(false, []), (false, [(9223372036854775807, -9223372036854775808)])])
        have o1 := fun (M : AH) (b c : Nat) hb hc => boxof_ _ _ ip _ (pt M b c hb hc)
        have o2 := fun (M : AH) (b c : Nat) hb hc => rboxof_ _ _ ip _ (pt M b c hb hc)
        simp only [go_sem, Nat.reduceEqDiff, Nat.reduceAdd, Nat.reduceSub, Nat.reduceMul, Nat.reduceLT, Nat.reduceLeDiff, Int.reducePow, Int.reduceBEq, Int.reduceBNe, Int.reduceDiv, Int.reduceMod, Int.reduceEq, Int.reduceLT, Int.reduceLE, Int.reduceAdd, Int.reduceSub, Int.reduceMul, Int.reduceNeg, Int.reduceToNat, Int.reduceTDiv, Int.reduceTMod, ↓reduceIte, h9, df (show ¬ (i : Int) < 30 by omega), kd, kd0]
        refine (o1 _ (J.length + 1) J.length (by rw [hget_app]; rfl) (by rw [hget_app0]; rfl)).x ?_
        simp only [go_sem, Nat.reduceEqDiff, Nat.reduceAdd, Nat.reduceSub, Nat.reduceMul, Nat.reduceLT, Nat.reduceLeDiff, Int.reducePow, Int.reduceBEq, Int.reduceBNe, Int.reduceDiv, Int.reduceMod, Int.reduceEq, Int.reduceLT, Int.reduceLE, Int.reduceAdd, Int.reduceSub, Int.reduceMul, Int.reduceNeg, Int.reduceToNat, Int.reduceTDiv, Int.reduceTMod, ↓reduceIte, kd, kd0]
        refine (o2 _ (J.length + 3) (J.length + 2) (by rw [hget_app]; rfl) (by rw [hget_app]; rfl)).x ?_
        simp only [go_sem, Nat.reduceEqDiff, Nat.reduceAdd, Nat.reduceSub, Nat.reduceMul, Nat.reduceLT, Nat.reduceLeDiff, Int.reducePow, Int.reduceBEq, Int.reduceBNe, Int.reduceDiv, Int.reduceMod, Int.reduceEq, Int.reduceLT, Int.reduceLE, Int.reduceAdd, Int.reduceSub, Int.reduceMul, Int.reduceNeg, Int.reduceToNat, Int.reduceTDiv, Int.reduceTMod, ↓reduceIte, beq_self_eq_true, bne_self_eq_false]
        repeat ((first | refine (bknown_ _).x ?_ | refine drawnF ?_ (by decide +kernel)); simp only [go_sem, Nat.reduceEqDiff, Nat.reduceAdd, Nat.reduceSub, Nat.reduceMul, Nat.reduceLT, Nat.reduceLeDiff, Int.reducePow, Int.reduceBEq, Int.reduceBNe, Int.reduceDiv, Int.reduceMod, Int.reduceEq, Int.reduceLT, Int.reduceLE, Int.reduceAdd, Int.reduceSub, Int.reduceMul, Int.reduceNeg, Int.reduceToNat, Int.reduceTDiv, Int.reduceTMod, ↓reduceIte, beq_self_eq_true])
end Go.Proofs.Ythoclopeajkcpaa
