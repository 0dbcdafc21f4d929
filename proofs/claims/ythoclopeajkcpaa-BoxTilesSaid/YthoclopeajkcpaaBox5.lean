/- Chapter 14: the walk of the law on tiles. -/
import Derived.Test.YthoclopeajkcpaaBox4
namespace Go.Proofs.Ythoclopeajkcpaa
open Go Go.RowKit E
attribute [local irreducible] XRun XOps XCode XCal XLoop XQ SemCall
set_option linter.unusedSimpArgs false
set_option linter.unusedVariables false
theorem bk1 : scr 16 16 = true := by decide
theorem bk2 : emp (meet ⟨0, 0, 9, 1⟩ ⟨0, 0, 16, 16⟩) = false := by decide
theorem bk3 : tilesOf ⟨0, 0, 9, 1⟩ 16 16 = [(0, 0), (1, 0)] := by decide
theorem bk4 : boxOf [(false, [(1, 0), (-1, 65536)])] = ⟨-1, 0, 1, 1⟩ := by decide
theorem bk5 : emp zero4 = true := by decide
theorem bk6 : has ⟨-1, 0, 1, 1⟩ 0 0 = true := by decide
theorem bk7 : has ⟨-1, 0, 1, 1⟩ 1 0 = false := by decide
theorem bknown_ (H : AH) : SemCall Try.prog 28 [] H (.bool true) H [] := by
  refine pure_of ?_ rfl
  have t := fun H => tiles_yes ⟨0, 0, 9, 1⟩ 16 16 bk1 bk2 H
  rw [bk3, show ptC [((0 : Int), (0 : Int)), (1, 0)] = [.int .i64 0, .int .i64 0, .int .i64 1, .int .i64 0] from rfl] at t
  have hB : ∀ x ∈ [(false, [((1 : Int), (0 : Int)), (-1, 65536)])], ∀ p ∈ x.2, Ip p := fun x hx p hp => by
    simp at hx; subst hx
    simp at hp
    rcases hp with rfl | rfl
    · exact ⟨⟨by decide, by decide⟩, by decide, by decide⟩
    · exact ⟨⟨by decide, by decide⟩, by decide, by decide⟩
  have o := fun (L : AH) (b c : Nat) (hb : (H ++ L)[b]? = some ⟨ptC [(1, 0), (-1, 65536)], 0, true⟩) (hc : (H ++ L)[c]? = some ⟨[.bool false, sl b 0 0 2 2], 0, true⟩) => boxof_ [(false, [(1, 0), (-1, 65536)])] (sl c 0 0 1 2) hB (H ++ L) (.inr ⟨c, 0, [], true, [(false, sl b 0 0 2 2)], rfl, hc, rfl, by simp, fun i x hx => by
    cases i with
    | zero => simp at hx; subst hx; exact ⟨_, rfl, .inr ⟨b, 0, [], true, rfl, by rw [hb, List.append_nil], by simp⟩⟩
    | succ i => simp at hx⟩)
  rw [bk4] at o
  have e := fun H => bempty_ zero4 H
  have h1 := fun H => has_ ⟨-1, 0, 1, 1⟩ 0 0 H
  have h2 := fun H => has_ ⟨-1, 0, 1, 1⟩ 1 0 H
  rw [bk5] at e
  rw [bk6] at h1
  rw [bk7] at h2
  refine XCal.of hm Try.func28 rfl (fun xs w => Try.call28 xs w) Try.ntmps28 Try.results28 rfl ?_
  simp only [go_sem, Nat.reduceEqDiff, Nat.reduceAdd, Nat.reduceSub, Nat.reduceMul, Nat.reduceLT, Nat.reduceLeDiff, Nat.left_eq_add, Nat.add_eq_left, Nat.add_left_cancel_iff, imp_self, implies_true, Int.reducePow, Int.reduceBEq, Int.reduceBNe, Int.reduceDiv, Int.reduceMod, Int.reduceEq, Int.reduceLT, Int.reduceLE, Int.reduceAdd, Int.reduceSub, Int.reduceMul, Int.reduceNeg, Int.reduceToNat, Int.reduceTDiv, Int.reduceTMod, decide_true, decide_false, Int.cast_ofNat_Int, Bool.not_true, Bool.not_false, Bool.true_beq, Bool.false_beq, Bool.true_and, Bool.and_true, Bool.false_and, Bool.and_false, Bool.true_or, Bool.or_true, Bool.false_or, Bool.or_false, BEq.rfl, Bool.false_eq_true, List.append_eq, List.append_nil, List.cons_append, List.nil_append, List.set_cons_zero, List.set_cons_succ, List.getElem?_cons_zero, List.getElem?_cons_succ, ↓reduceIte]
  refine (t _).x ?_
  simp only [go_sem, Nat.reduceEqDiff, Nat.reduceAdd, Nat.reduceSub, Nat.reduceMul, Nat.reduceLT, Nat.reduceLeDiff, Nat.left_eq_add, Nat.add_eq_left, Nat.add_left_cancel_iff, imp_self, implies_true, Int.reducePow, Int.reduceBEq, Int.reduceBNe, Int.reduceDiv, Int.reduceMod, Int.reduceEq, Int.reduceLT, Int.reduceLE, Int.reduceAdd, Int.reduceSub, Int.reduceMul, Int.reduceNeg, Int.reduceToNat, Int.reduceTDiv, Int.reduceTMod, decide_true, decide_false, Int.cast_ofNat_Int, Bool.not_true, Bool.not_false, Bool.true_beq, Bool.false_beq, Bool.true_and, Bool.and_true, Bool.false_and, Bool.and_false, Bool.true_or, Bool.or_true, Bool.false_or, Bool.or_false, BEq.rfl, Bool.false_eq_true, List.append_eq, List.append_nil, List.cons_append, List.nil_append, List.set_cons_zero, List.set_cons_succ, List.getElem?_cons_zero, List.getElem?_cons_succ, ↓reduceIte]
  refine (o [⟨[.int .i64 0, .int .i64 0, .int .i64 1, .int .i64 0], 0, true⟩, ⟨[.int .i64 1, .int .i64 0, .int .i64 (-1), .int .i64 65536], 0, true⟩, ⟨[.bool false, sl (H.length + 1) 0 0 2 2], 0, true⟩] (H.length + 1) (H.length + 2) (by rw [hget_app]; rfl) (by rw [hget_app]; rfl)).x ?_
  simp only [go_sem, Nat.reduceEqDiff, Nat.reduceAdd, Nat.reduceSub, Nat.reduceMul, Nat.reduceLT, Nat.reduceLeDiff, Nat.left_eq_add, Nat.add_eq_left, Nat.add_left_cancel_iff, imp_self, implies_true, Int.reducePow, Int.reduceBEq, Int.reduceBNe, Int.reduceDiv, Int.reduceMod, Int.reduceEq, Int.reduceLT, Int.reduceLE, Int.reduceAdd, Int.reduceSub, Int.reduceMul, Int.reduceNeg, Int.reduceToNat, Int.reduceTDiv, Int.reduceTMod, decide_true, decide_false, Int.cast_ofNat_Int, Bool.not_true, Bool.not_false, Bool.true_beq, Bool.false_beq, Bool.true_and, Bool.and_true, Bool.false_and, Bool.and_false, Bool.true_or, Bool.or_true, Bool.false_or, Bool.or_false, BEq.rfl, Bool.false_eq_true, List.append_eq, List.append_nil, List.cons_append, List.nil_append, List.set_cons_zero, List.set_cons_succ, List.getElem?_cons_zero, List.getElem?_cons_succ, ↓reduceIte]
  repeat (first | (refine (e _).x ?_; simp only [go_sem, Nat.reduceEqDiff, Nat.reduceAdd, Nat.reduceSub, Nat.reduceMul, Nat.reduceLT, Nat.reduceLeDiff, Nat.left_eq_add, Nat.add_eq_left, Nat.add_left_cancel_iff, imp_self, implies_true, Int.reducePow, Int.reduceBEq, Int.reduceBNe, Int.reduceDiv, Int.reduceMod, Int.reduceEq, Int.reduceLT, Int.reduceLE, Int.reduceAdd, Int.reduceSub, Int.reduceMul, Int.reduceNeg, Int.reduceToNat, Int.reduceTDiv, Int.reduceTMod, decide_true, decide_false, Int.cast_ofNat_Int, Bool.not_true, Bool.not_false, Bool.true_beq, Bool.false_beq, Bool.true_and, Bool.and_true, Bool.false_and, Bool.and_false, Bool.true_or, Bool.or_true, Bool.false_or, Bool.or_false, BEq.rfl, Bool.false_eq_true, List.append_eq, List.append_nil, List.cons_append, List.nil_append, List.set_cons_zero, List.set_cons_succ, List.getElem?_cons_zero, List.getElem?_cons_succ, ↓reduceIte, ptC_cons, ptC_nil, zero4]) | (refine (h1 _).x ?_; simp only [go_sem, Nat.reduceEqDiff, Nat.reduceAdd, Nat.reduceSub, Nat.reduceMul, Nat.reduceLT, Nat.reduceLeDiff, Nat.left_eq_add, Nat.add_eq_left, Nat.add_left_cancel_iff, imp_self, implies_true, Int.reducePow, Int.reduceBEq, Int.reduceBNe, Int.reduceDiv, Int.reduceMod, Int.reduceEq, Int.reduceLT, Int.reduceLE, Int.reduceAdd, Int.reduceSub, Int.reduceMul, Int.reduceNeg, Int.reduceToNat, Int.reduceTDiv, Int.reduceTMod, decide_true, decide_false, Int.cast_ofNat_Int, Bool.not_true, Bool.not_false, Bool.true_beq, Bool.false_beq, Bool.true_and, Bool.and_true, Bool.false_and, Bool.and_false, Bool.true_or, Bool.or_true, Bool.false_or, Bool.or_false, BEq.rfl, Bool.false_eq_true, List.append_eq, List.append_nil, List.cons_append, List.nil_append, List.set_cons_zero, List.set_cons_succ, List.getElem?_cons_zero, List.getElem?_cons_succ, ↓reduceIte, ptC_cons, ptC_nil, zero4]) | (refine (h2 _).x ?_; simp only [go_sem, Nat.reduceEqDiff, Nat.reduceAdd, Nat.reduceSub, Nat.reduceMul, Nat.reduceLT, Nat.reduceLeDiff, Nat.left_eq_add, Nat.add_eq_left, Nat.add_left_cancel_iff, imp_self, implies_true, Int.reducePow, Int.reduceBEq, Int.reduceBNe, Int.reduceDiv, Int.reduceMod, Int.reduceEq, Int.reduceLT, Int.reduceLE, Int.reduceAdd, Int.reduceSub, Int.reduceMul, Int.reduceNeg, Int.reduceToNat, Int.reduceTDiv, Int.reduceTMod, decide_true, decide_false, Int.cast_ofNat_Int, Bool.not_true, Bool.not_false, Bool.true_beq, Bool.false_beq, Bool.true_and, Bool.and_true, Bool.false_and, Bool.and_false, Bool.true_or, Bool.or_true, Bool.false_or, Bool.or_false, BEq.rfl, Bool.false_eq_true, List.append_eq, List.append_nil, List.cons_append, List.nil_append, List.set_cons_zero, List.set_cons_succ, List.getElem?_cons_zero, List.getElem?_cons_succ, ↓reduceIte, ptC_cons, ptC_nil, zero4]) | (refine drawnF ?_ (by decide +kernel); simp only [go_sem, Nat.reduceEqDiff, Nat.reduceAdd, Nat.reduceSub, Nat.reduceMul, Nat.reduceLT, Nat.reduceLeDiff, Nat.left_eq_add, Nat.add_eq_left, Nat.add_left_cancel_iff, imp_self, implies_true, Int.reducePow, Int.reduceBEq, Int.reduceBNe, Int.reduceDiv, Int.reduceMod, Int.reduceEq, Int.reduceLT, Int.reduceLE, Int.reduceAdd, Int.reduceSub, Int.reduceMul, Int.reduceNeg, Int.reduceToNat, Int.reduceTDiv, Int.reduceTMod, decide_true, decide_false, Int.cast_ofNat_Int, Bool.not_true, Bool.not_false, Bool.true_beq, Bool.false_beq, Bool.true_and, Bool.and_true, Bool.false_and, Bool.and_false, Bool.true_or, Bool.or_true, Bool.false_or, Bool.or_false, BEq.rfl, Bool.false_eq_true, List.append_eq, List.append_nil, List.cons_append, List.nil_append, List.set_cons_zero, List.set_cons_succ, List.getElem?_cons_zero, List.getElem?_cons_succ, ↓reduceIte, ptC_cons, ptC_nil, zero4]))
def mkn (f : Nat → Int) : List Value := (List.range 25).map fun j => .int .i64 (f j)
theorem mkn_len (f : Nat → Int) : (mkn f).length = 25 := by simp [mkn]
theorem mkn_get (f : Nat → Int) {i : Nat} (h : i < 25) : (mkn f)[i]? = some (.int .i64 (f i)) := by simp [mkn, List.getElem?_range h]
theorem mkn_set (f : Nat → Int) (i : Nat) (v : Int) : (mkn f).set i (.int .i64 v) = mkn (fun j => if j = i then v else f j) := by
  unfold mkn
  apply List.ext_getElem
  · simp
  · intro j h1 h2
    simp only [List.getElem_set, List.getElem_map, List.getElem_range]
    by_cases h : i = j
    · subst h; simp
    · rw [if_neg h, if_neg (fun e => h e.symm)]
theorem mkn_ast (H : AH) (f : Nat → Int) {d : Nat} (hd : d < 25) (v : Int) (b : Nat) : ast H (some ⟨mkn f, 0, true⟩) (some [.int .i64 v]) (some 1) b d 0 = some (H.set b ⟨mkn (fun j => if j = d then v else f j), 0, true⟩, b) := by
  have := mkn_len f
  have e : (mkn f).set d (.int .i64 v) = (mkn f).take d ++ .int .i64 v :: (mkn f).drop (d + 1) := by rw [List.set_eq_take_append_cons_drop, if_pos (by omega)]
  rw [ast_some (s := 1) rfl (by omega), ← mkn_set, e, splice_def]
  simp
theorem eqc_int : ∀ (l : List Int), eqc (List.replicate l.length .i) (l.map fun x => .int .i64 x) (l.map fun x => .int .i64 x) = some true
  | [] => rfl
  | x :: l => by
    show eqc (.i :: List.replicate l.length .i) (.int .i64 x :: l.map _) (.int .i64 x :: l.map _) = _
    rw [eqc_cons, eqc_int l]
    simp [eq1, oand]
theorem eqc_mkn (f : Nat → Int) : eqc (List.replicate 25 .i) (mkn f) (mkn f) = some true := by
  have := eqc_int ((List.range 25).map f)
  rw [List.map_map, List.length_map, List.length_range] at this
  exact this
theorem mkn_ext {f g : Nat → Int} (h : ∀ j, j < 25 → f j = g j) : mkn f = mkn g := by
  unfold mkn
  apply List.map_congr_left
  intro j hj
  rw [h j (List.mem_range.1 hj)]
def cntI : List Pt → Nat → Int
  | [], _ => 0
  | t :: l, j => (if t.2 * 5 + t.1 = (j : Int) then 1 else 0) + cntI l j
theorem cntI_app (l m : List Pt) (j : Nat) : cntI (l ++ m) j = cntI l j + cntI m j := by
  induction l with
  | nil => simp [cntI]
  | cons x l ih => simp only [List.cons_append, cntI, ih]; omega
theorem cntI_b (l : List Pt) (j : Nat) : 0 ≤ cntI l j ∧ cntI l j ≤ l.length := by
  induction l with
  | nil => simp [cntI]
  | cons x l ih => simp only [cntI, List.length_cons]; split <;> omega
theorem cnt_row (y : Int) (j : Nat) : ∀ (n : Nat) (x0 : Int), cntI (rowT y x0 n) j = if y * 5 + x0 ≤ (j : Int) ∧ (j : Int) < y * 5 + x0 + n then 1 else 0
  | 0, x0 => by rw [if_neg (by omega)]; rfl
  | n + 1, x0 => by
    simp only [rowT, cntI, cnt_row y j n (x0 + 1)]
    split <;> split <;> split <;> omega
theorem cnt_rows (x0 : Int) (nx : Nat) (h0 : 0 ≤ x0) (h1 : x0 + nx ≤ 5) (j : Nat) : ∀ (n : Nat) (y : Int), cntI (rowsT x0 nx y n) j = if y ≤ (j : Int) / 5 ∧ (j : Int) / 5 < y + n ∧ x0 ≤ (j : Int) % 5 ∧ (j : Int) % 5 < x0 + nx then 1 else 0
  | 0, y => by rw [if_neg (by omega)]; rfl
  | n + 1, y => by
    simp only [rowsT, cntI_app, cnt_row, cnt_rows x0 nx h0 h1 j n (y + 1)]
    split <;> split <;> split <;> omega
def mkP (B : B4) (W Y X : Int) (j : Nat) : Prop := ∃ x y : Int, 0 ≤ x ∧ 0 ≤ y ∧ (y < Y ∧ x < W ∨ y = Y ∧ x < X) ∧ has B x y = true ∧ (j : Int) = y / 8 * 5 + x / 8
open Classical in
noncomputable def mkf (B : B4) (W Y X : Int) (j : Nat) : Int := if mkP B W Y X j then 1 else 0
theorem mkf_ext {B : B4} {W Y X Y' X' : Int} {j : Nat} (h : mkP B W Y X j ↔ mkP B W Y' X' j) : mkf B W Y X j = mkf B W Y' X' j := by
  unfold mkf
  by_cases k : mkP B W Y X j
  · rw [if_pos k, if_pos (h.1 k)]
  · rw [if_neg k, if_neg (fun e => k (h.2 e))]
theorem mkf_yes {B : B4} {W Y X : Int} {j : Nat} (h : mkP B W Y X j) : mkf B W Y X j = 1 := by unfold mkf; rw [if_pos h]
theorem mkf_no {B : B4} {W Y X : Int} {j : Nat} (h : ¬ mkP B W Y X j) : mkf B W Y X j = 0 := by unfold mkf; rw [if_neg h]
theorem mkf_start (B : B4) (W : Int) (j : Nat) : mkf B W 0 0 j = 0 := mkf_no fun ⟨x, y, h1, h2, h3, _⟩ => by omega
theorem mkf_row (B : B4) (W Y : Int) (j : Nat) : mkf B W (Y + 1) 0 j = mkf B W Y W j := mkf_ext ⟨fun ⟨x, y, h1, h2, h3, h4⟩ => ⟨x, y, h1, h2, by omega, h4⟩, fun ⟨x, y, h1, h2, h3, h4⟩ => ⟨x, y, h1, h2, by omega, h4⟩⟩
theorem mkf_no1 {B : B4} {W Y X : Int} (h : has B X Y = false) (j : Nat) : mkf B W Y (X + 1) j = mkf B W Y X j := mkf_ext ⟨fun ⟨x, y, h1, h2, h3, h4, h5⟩ => ⟨x, y, h1, h2, by
    by_cases e : y = Y ∧ x = X
    · rw [e.1, e.2, h] at h4; exact absurd h4 (by decide)
    · omega, h4, h5⟩, fun ⟨x, y, h1, h2, h3, h4⟩ => ⟨x, y, h1, h2, by omega, h4⟩⟩
theorem mkf_yes1 {B : B4} {W Y X : Int} (hx : 0 ≤ X) (hy : 0 ≤ Y) (h : has B X Y = true) (j : Nat) : mkf B W Y (X + 1) j = if j = (Y / 8 * 5 + X / 8).toNat then 1 else mkf B W Y X j := by
  by_cases e : j = (Y / 8 * 5 + X / 8).toNat
  · rw [if_pos e]; exact mkf_yes ⟨X, Y, hx, hy, by omega, h, by omega⟩
  · rw [if_neg e]
    exact mkf_ext ⟨fun ⟨x, y, h1, h2, h3, h4, h5⟩ => ⟨x, y, h1, h2, by
      by_cases e' : y = Y ∧ x = X
      · rw [e'.1, e'.2] at h5; omega
      · omega, h4, h5⟩, fun ⟨x, y, h1, h2, h3, h4⟩ => ⟨x, y, h1, h2, by omega, h4⟩⟩
theorem mx_c (a b : Int) : mx a b = a ∨ mx a b = b := by unfold mx; split <;> simp
theorem mn_c (a b : Int) : mn a b = a ∨ mn a b = b := by unfold mn; split <;> simp
theorem has_in (B : B4) (W V x y : Int) : (has B x y = true ∧ 0 ≤ x ∧ x < W ∧ 0 ≤ y ∧ y < V) ↔ ((meet0 B ⟨0, 0, W, V⟩).x0 ≤ x ∧ x < (meet0 B ⟨0, 0, W, V⟩).x1 ∧ (meet0 B ⟨0, 0, W, V⟩).y0 ≤ y ∧ y < (meet0 B ⟨0, 0, W, V⟩).y1) := by
  simp only [has, meet0, Bool.and_eq_true, decide_eq_true_eq]
  have := mx_c B.x0 0
  have := mx_c B.y0 0
  have := mn_c B.x1 W
  have := mn_c B.y1 V
  have := mx_le B.x0 0
  have := mx_le B.y0 0
  have := mn_le B.x1 W
  have := mn_le B.y1 V
  omega
theorem tile_law (B : B4) (W V : Int) (hW : 1 ≤ W ∧ W ≤ 40) (hV : 1 ≤ V ∧ V ≤ 40) (j : Nat) : cntI (tilesOf B W V) j = mkf B W V 0 j := by
  have hs : scr W V = true := by simp only [scr, Bool.and_eq_true, decide_eq_true_eq]; omega
  have hi := has_in B W V
  have hm0 := fun h => meet_in (w := W) (h := V) B hs h
  cases he : emp (meet0 B ⟨0, 0, W, V⟩) with
  | true =>
    have e1 : meet B ⟨0, 0, W, V⟩ = zero4 := by unfold meet; rw [if_pos he]
    have e2 : tilesOf B W V = [] := by unfold tilesOf; rw [if_pos hs]; simp only [e1, show emp zero4 = true from rfl, if_true]
    rw [e2]
    refine (mkf_no ?_).symm
    rintro ⟨x, y, h1, h2, h3, h4, h5⟩
    have := (hi x y).1 ⟨h4, h1, by omega, h2, by omega⟩
    simp only [emp, Bool.or_eq_true, decide_eq_true_eq] at he
    omega
  | false =>
    have e1 : meet B ⟨0, 0, W, V⟩ = meet0 B ⟨0, 0, W, V⟩ := by unfold meet; rw [if_neg (by rw [he]; decide)]
    rw [e1] at hm0
    have q := hm0 he
    have e2 : tilesOf B W V = rowsT ((meet0 B ⟨0, 0, W, V⟩).x0 / 8) (((meet0 B ⟨0, 0, W, V⟩).x1 - 1) / 8 + 1 - (meet0 B ⟨0, 0, W, V⟩).x0 / 8).toNat ((meet0 B ⟨0, 0, W, V⟩).y0 / 8) (((meet0 B ⟨0, 0, W, V⟩).y1 - 1) / 8 + 1 - (meet0 B ⟨0, 0, W, V⟩).y0 / 8).toNat := by unfold tilesOf; rw [if_pos hs]; simp only [e1, he, Bool.false_eq_true, if_false]
    rw [e2]
    generalize meet0 B ⟨0, 0, W, V⟩ = M at *
    rw [cnt_rows _ _ (by omega) (by omega)]
    by_cases hj : M.y0 / 8 ≤ (j : Int) / 5 ∧ (j : Int) / 5 ≤ (M.y1 - 1) / 8 ∧ M.x0 / 8 ≤ (j : Int) % 5 ∧ (j : Int) % 5 ≤ (M.x1 - 1) / 8
    · rw [if_pos (by omega)]
      have hk : ∀ a b r : Int, a / 8 ≤ r → r ≤ (b - 1) / 8 → a < b → ∃ x, a ≤ x ∧ x < b ∧ x / 8 = r := fun a b r h1 h2 h3 => by
        by_cases h : 8 * r ≤ a
        · exact ⟨a, by omega, by omega, by omega⟩
        · exact ⟨8 * r, by omega, by omega, by omega⟩
      obtain ⟨x, x1, x2, x3⟩ := hk _ _ _ hj.2.2.1 hj.2.2.2 (by omega)
      obtain ⟨y, y1, y2, y3⟩ := hk _ _ _ hj.1 hj.2.1 (by omega)
      have := (hi x y).2 ⟨x1, x2, y1, y2⟩
      exact (mkf_yes ⟨x, y, this.2.1, this.2.2.2.1, by omega, this.1, by omega⟩).symm
    · rw [if_neg (by omega)]
      refine (mkf_no ?_).symm
      rintro ⟨x, y, h1, h2, h3, h4, h5⟩
      have := (hi x y).1 ⟨h4, h1, by omega, h2, by omega⟩
      omega
theorem tiles_ (b : B4) (w h : Int) (H : AH) (n : Nat) (hn : n = H.length) : ∃ L a e, SemCall Try.prog 26 [b.val, .int .i64 w, .int .i64 h] H (.slice a (tilesOf b w h).length e) (H ++ L) [] ∧ (¬ tilesOf b w h = [] → L = [⟨ptC (tilesOf b w h), 0, true⟩] ∧ a = some ⟨n, 0, some 0⟩ ∧ e = 2) := by
  subst hn
  by_cases ht : scr w h = false ∨ emp (meet b ⟨0, 0, w, h⟩) = true
  · have e : tilesOf b w h = [] := by
      unfold tilesOf
      cases hs : scr w h with
      | false => simp
      | true => simp [ht.resolve_left (by rw [hs]; decide)]
    have := tiles_no b w h ht H
    exact ⟨[], none, 0, by rw [e, List.append_nil]; exact this, fun k => absurd e k⟩
  · have h1 : scr w h = true := by cases k : scr w h with | true => rfl | false => exact absurd (.inl k) ht
    have h2 : emp (meet b ⟨0, 0, w, h⟩) = false := by cases k : emp (meet b ⟨0, 0, w, h⟩) with | false => rfl | true => exact absurd (.inr k) ht
    exact ⟨_, _, _, tiles_yes b w h h1 h2 H, fun _ => ⟨rfl, rfl, rfl⟩⟩
theorem and_6 (x : Int) : bits .and .i64 x 63 = x % 64 := and_i64 x 6 (by decide)
theorem tiles_in (B : B4) (W V : Int) (hW : 1 ≤ W ∧ W ≤ 40) (hV : 1 ≤ V ∧ V ≤ 40) : ∀ p ∈ tilesOf B W V, (0 ≤ p.1 ∧ p.1 ≤ 4) ∧ 0 ≤ p.2 ∧ p.2 ≤ 4 := by
  have hr : ∀ (y x0 : Int) (n : Nat), ∀ p ∈ rowT y x0 n, p.2 = y ∧ x0 ≤ p.1 ∧ p.1 < x0 + n := by
    intro y x0 n
    induction n generalizing x0 with
    | zero => intro p hp; simp [rowT] at hp
    | succ n ih =>
      intro p hp
      simp only [rowT, List.mem_cons] at hp
      rcases hp with rfl | hp
      · exact ⟨rfl, by show x0 ≤ x0; omega, by show x0 < _; omega⟩
      · have := ih (x0 + 1) p hp; omega
  have hrs : ∀ (x0 : Int) (nx n : Nat) (y : Int), ∀ p ∈ rowsT x0 nx y n, (x0 ≤ p.1 ∧ p.1 < x0 + nx) ∧ y ≤ p.2 ∧ p.2 < y + n := by
    intro x0 nx n
    induction n with
    | zero => intro y p hp; simp [rowsT] at hp
    | succ n ih =>
      intro y p hp
      simp only [rowsT, List.mem_append] at hp
      rcases hp with hp | hp
      · have := hr _ _ _ p hp; omega
      · have := ih (y + 1) p hp; omega
  intro p hp
  unfold tilesOf at hp
  have hs : scr W V = true := by simp only [scr, Bool.and_eq_true, decide_eq_true_eq]; omega
  rw [if_pos hs] at hp
  cases he : emp (meet B ⟨0, 0, W, V⟩) with
  | true => simp only [he, if_true] at hp; simp at hp
  | false =>
    simp only [he, Bool.false_eq_true, if_false] at hp
    have q := meet_in B hs he
    generalize meet B ⟨0, 0, W, V⟩ = M at *
    have := hrs _ _ _ _ p hp
    omega
theorem tiles_len (B : B4) (W V : Int) : (tilesOf B W V).length ≤ 1024 := by
  unfold tilesOf
  cases hs : scr W V with
  | false => simp
  | true =>
    cases he : emp (meet B ⟨0, 0, W, V⟩) with
    | true => simp [he]
    | false =>
      have q := meet_in B hs he
      have w := scr_b hs
      simp only [if_true, he, Bool.false_eq_true, if_false]
      generalize meet B ⟨0, 0, W, V⟩ = M at *
      rw [rowsT_len]
      exact Nat.le_trans (Nat.mul_le_mul (show ((M.y1 - 1) / 8 + 1 - M.y0 / 8).toNat ≤ 32 by omega) (show ((M.x1 - 1) / 8 + 1 - M.x0 / 8).toNat ≤ 32 by omega)) (by decide)
theorem btiles (b : B4) (w h : Int) (H : AH) : SemCall Try.prog 6 [b.val, .int .i64 w, .int .i64 h] H (.bool true) H [] := by
  refine pure_of ?_ rfl
  have hW := wth_b w (lo := 1) (hi := 40) (by omega)
  have hV := wth_b h (lo := 1) (hi := 40) (by omega)
  generalize gW : wth w 1 40 = W at *
  generalize gV : wth h 1 40 = V at *
  have w1 := fun H => within_ w 1 40 (by omega) (by omega) (by omega) H
  have w2 := fun H => within_ h 1 40 (by omega) (by omega) (by omega) H
  rw [gW] at w1
  rw [gV] at w2
  have hw1 : scr W V = true := by simp only [scr, Bool.and_eq_true, decide_eq_true_eq]; omega
  generalize hB : (⟨b.x0 % 64 - 8, b.y0 % 64 - 8, b.x1 % 64, b.y1 % 64⟩ : B4) = B
  have hB1 : b.x0 % 64 - 8 = B.x0 := by rw [← hB]
  have hB2 : b.y0 % 64 - 8 = B.y0 := by rw [← hB]
  have hB3 : b.x1 % 64 = B.x1 := by rw [← hB]
  have hB4 : b.y1 % 64 = B.y1 := by rw [← hB]
  have z1 : IntKind.i64.wrap B.x0 = B.x0 := wi (by omega) (by omega)
  have z2 : IntKind.i64.wrap B.y0 = B.y0 := wi (by omega) (by omega)
  obtain ⟨L, a, e, ht, hL⟩ := tiles_ B W V (H ++ [⟨b4C b, 0, true⟩, ⟨b4C B, 0, true⟩, ⟨mkn (fun _ => 0), 0, true⟩]) (H.length + 3) (by simp)
  have hlaw := tile_law B W V hW hV
  have htin := tiles_in B W V hW hV
  have hlen : (tilesOf B W V).length ≤ 1024 := tiles_len B W V
  generalize tilesOf B W V = tot at *
  refine XCal.of hm Try.func6 rfl (fun xs w => Try.call6 xs w) Try.ntmps6 Try.results6 rfl ?_
  simp only [go_sem, Nat.reduceEqDiff, Nat.reduceAdd, Nat.reduceSub, Nat.reduceMul, Nat.reduceLT, Nat.reduceLeDiff, Nat.left_eq_add, Nat.add_eq_left, Nat.add_left_cancel_iff, imp_self, implies_true, Int.reducePow, Int.reduceBEq, Int.reduceBNe, Int.reduceDiv, Int.reduceMod, Int.reduceEq, Int.reduceLT, Int.reduceLE, Int.reduceAdd, Int.reduceSub, Int.reduceMul, Int.reduceNeg, Int.reduceToNat, Int.reduceTDiv, Int.reduceTMod, decide_true, decide_false, Int.cast_ofNat_Int, Bool.not_true, Bool.not_false, Bool.true_beq, Bool.false_beq, Bool.true_and, Bool.and_true, Bool.false_and, Bool.and_false, Bool.true_or, Bool.or_true, Bool.false_or, Bool.or_false, BEq.rfl, Bool.false_eq_true, List.append_eq, List.append_nil, List.cons_append, List.nil_append, List.set_cons_zero, List.set_cons_succ, List.getElem?_cons_zero, List.getElem?_cons_succ, ↓reduceIte]
  repeat (first | (refine (w1 _).x ?_; simp only [go_sem, Nat.reduceEqDiff, Nat.reduceAdd, Nat.reduceSub, Nat.reduceMul, Nat.reduceLT, Nat.reduceLeDiff, Nat.left_eq_add, Nat.add_eq_left, Nat.add_left_cancel_iff, imp_self, implies_true, Int.reducePow, Int.reduceBEq, Int.reduceBNe, Int.reduceDiv, Int.reduceMod, Int.reduceEq, Int.reduceLT, Int.reduceLE, Int.reduceAdd, Int.reduceSub, Int.reduceMul, Int.reduceNeg, Int.reduceToNat, Int.reduceTDiv, Int.reduceTMod, decide_true, decide_false, Int.cast_ofNat_Int, Bool.not_true, Bool.not_false, Bool.true_beq, Bool.false_beq, Bool.true_and, Bool.and_true, Bool.false_and, Bool.and_false, Bool.true_or, Bool.or_true, Bool.false_or, Bool.or_false, BEq.rfl, Bool.false_eq_true, List.append_eq, List.append_nil, List.cons_append, List.nil_append, List.set_cons_zero, List.set_cons_succ, List.getElem?_cons_zero, List.getElem?_cons_succ, ↓reduceIte, and_6, hB1, hB2, hB3, hB4]) | (refine (w2 _).x ?_; simp only [go_sem, Nat.reduceEqDiff, Nat.reduceAdd, Nat.reduceSub, Nat.reduceMul, Nat.reduceLT, Nat.reduceLeDiff, Nat.left_eq_add, Nat.add_eq_left, Nat.add_left_cancel_iff, imp_self, implies_true, Int.reducePow, Int.reduceBEq, Int.reduceBNe, Int.reduceDiv, Int.reduceMod, Int.reduceEq, Int.reduceLT, Int.reduceLE, Int.reduceAdd, Int.reduceSub, Int.reduceMul, Int.reduceNeg, Int.reduceToNat, Int.reduceTDiv, Int.reduceTMod, decide_true, decide_false, Int.cast_ofNat_Int, Bool.not_true, Bool.not_false, Bool.true_beq, Bool.false_beq, Bool.true_and, Bool.and_true, Bool.false_and, Bool.and_false, Bool.true_or, Bool.or_true, Bool.false_or, Bool.or_false, BEq.rfl, Bool.false_eq_true, List.append_eq, List.append_nil, List.cons_append, List.nil_append, List.set_cons_zero, List.set_cons_succ, List.getElem?_cons_zero, List.getElem?_cons_succ, ↓reduceIte, and_6, hB1, hB2, hB3, hB4]) | (refine drawnF ?_ (by decide +kernel); simp only [go_sem, Nat.reduceEqDiff, Nat.reduceAdd, Nat.reduceSub, Nat.reduceMul, Nat.reduceLT, Nat.reduceLeDiff, Nat.left_eq_add, Nat.add_eq_left, Nat.add_left_cancel_iff, imp_self, implies_true, Int.reducePow, Int.reduceBEq, Int.reduceBNe, Int.reduceDiv, Int.reduceMod, Int.reduceEq, Int.reduceLT, Int.reduceLE, Int.reduceAdd, Int.reduceSub, Int.reduceMul, Int.reduceNeg, Int.reduceToNat, Int.reduceTDiv, Int.reduceTMod, decide_true, decide_false, Int.cast_ofNat_Int, Bool.not_true, Bool.not_false, Bool.true_beq, Bool.false_beq, Bool.true_and, Bool.and_true, Bool.false_and, Bool.and_false, Bool.true_or, Bool.or_true, Bool.false_or, Bool.or_false, BEq.rfl, Bool.false_eq_true, List.append_eq, List.append_nil, List.cons_append, List.nil_append, List.set_cons_zero, List.set_cons_succ, List.getElem?_cons_zero, List.getElem?_cons_succ, ↓reduceIte, and_6, hB1, hB2, hB3, hB4]))
  simp only [go_sem, Nat.reduceEqDiff, Nat.reduceAdd, Nat.reduceSub, Nat.reduceMul, Nat.reduceLT, Nat.reduceLeDiff, Nat.left_eq_add, Nat.add_eq_left, Nat.add_left_cancel_iff, imp_self, implies_true, Int.reducePow, Int.reduceBEq, Int.reduceBNe, Int.reduceDiv, Int.reduceMod, Int.reduceEq, Int.reduceLT, Int.reduceLE, Int.reduceAdd, Int.reduceSub, Int.reduceMul, Int.reduceNeg, Int.reduceToNat, Int.reduceTDiv, Int.reduceTMod, decide_true, decide_false, Int.cast_ofNat_Int, Bool.not_true, Bool.not_false, Bool.true_beq, Bool.false_beq, Bool.true_and, Bool.and_true, Bool.false_and, Bool.and_false, Bool.true_or, Bool.or_true, Bool.false_or, Bool.or_false, BEq.rfl, Bool.false_eq_true, List.append_eq, List.append_nil, List.cons_append, List.nil_append, List.set_cons_zero, List.set_cons_succ, List.getElem?_cons_zero, List.getElem?_cons_succ, ↓reduceIte, z1, z2]
  refine ht.x ?_
  simp only [go_sem, Nat.reduceEqDiff, Nat.reduceAdd, Nat.reduceSub, Nat.reduceMul, Nat.reduceLT, Nat.reduceLeDiff, Nat.left_eq_add, Nat.add_eq_left, Nat.add_left_cancel_iff, imp_self, implies_true, Int.reducePow, Int.reduceBEq, Int.reduceBNe, Int.reduceDiv, Int.reduceMod, Int.reduceEq, Int.reduceLT, Int.reduceLE, Int.reduceAdd, Int.reduceSub, Int.reduceMul, Int.reduceNeg, Int.reduceToNat, Int.reduceTDiv, Int.reduceTMod, decide_true, decide_false, Int.cast_ofNat_Int, Bool.not_true, Bool.not_false, Bool.true_beq, Bool.false_beq, Bool.true_and, Bool.and_true, Bool.false_and, Bool.and_false, Bool.true_or, Bool.or_true, Bool.false_or, Bool.or_false, BEq.rfl, Bool.false_eq_true, List.append_eq, List.append_nil, List.cons_append, List.nil_append, List.set_cons_zero, List.set_cons_succ, List.getElem?_cons_zero, List.getElem?_cons_succ, ↓reduceIte]
  refine keep (fun k T H' D => D = [] ∧ ∃ (i : Nat) (G : AH), i + k = tot.length ∧ H' = H ++ (⟨b4C b, 0, true⟩ :: ⟨b4C B, 0, true⟩ :: ⟨mkn (cntI (tot.take i)), 0, true⟩ :: (L ++ G)) ∧ T 7 = .int .i64 W ∧ T 8 = .int .i64 V ∧ T 9 = ap (H.length + 1) 0 0 ∧ T 10 = ap (H.length + 2) 0 0 ∧ T 38 = .slice a tot.length e ∧ T 39 = .int .i64 (tot.length : Int) ∧ T 40 = .int .i64 (i : Int)) tot.length
    ⟨rfl, 0, [], by omega, by rw [List.append_nil, List.append_assoc]; rfl, by simp only [go_sem, Nat.reduceEqDiff, Nat.reduceAdd, Nat.reduceSub, Nat.reduceMul, Nat.reduceLT, Nat.reduceLeDiff, Nat.left_eq_add, Nat.add_eq_left, Nat.add_left_cancel_iff, imp_self, implies_true, Int.reducePow, Int.reduceBEq, Int.reduceBNe, Int.reduceDiv, Int.reduceMod, Int.reduceEq, Int.reduceLT, Int.reduceLE, Int.reduceAdd, Int.reduceSub, Int.reduceMul, Int.reduceNeg, Int.reduceToNat, Int.reduceTDiv, Int.reduceTMod, decide_true, decide_false, Int.cast_ofNat_Int, Bool.not_true, Bool.not_false, Bool.true_beq, Bool.false_beq, Bool.true_and, Bool.and_true, Bool.false_and, Bool.and_false, Bool.true_or, Bool.or_true, Bool.false_or, Bool.or_false, BEq.rfl, Bool.false_eq_true, List.append_eq, List.append_nil, List.cons_append, List.nil_append, List.set_cons_zero, List.set_cons_succ, List.getElem?_cons_zero, List.getElem?_cons_succ, ↓reduceIte], by simp only [go_sem, Nat.reduceEqDiff, Nat.reduceAdd, Nat.reduceSub, Nat.reduceMul, Nat.reduceLT, Nat.reduceLeDiff, Nat.left_eq_add, Nat.add_eq_left, Nat.add_left_cancel_iff, imp_self, implies_true, Int.reducePow, Int.reduceBEq, Int.reduceBNe, Int.reduceDiv, Int.reduceMod, Int.reduceEq, Int.reduceLT, Int.reduceLE, Int.reduceAdd, Int.reduceSub, Int.reduceMul, Int.reduceNeg, Int.reduceToNat, Int.reduceTDiv, Int.reduceTMod, decide_true, decide_false, Int.cast_ofNat_Int, Bool.not_true, Bool.not_false, Bool.true_beq, Bool.false_beq, Bool.true_and, Bool.and_true, Bool.false_and, Bool.and_false, Bool.true_or, Bool.or_true, Bool.false_or, Bool.or_false, BEq.rfl, Bool.false_eq_true, List.append_eq, List.append_nil, List.cons_append, List.nil_append, List.set_cons_zero, List.set_cons_succ, List.getElem?_cons_zero, List.getElem?_cons_succ, ↓reduceIte], by simp only [go_sem, Nat.reduceEqDiff, Nat.reduceAdd, Nat.reduceSub, Nat.reduceMul, Nat.reduceLT, Nat.reduceLeDiff, Nat.left_eq_add, Nat.add_eq_left, Nat.add_left_cancel_iff, imp_self, implies_true, Int.reducePow, Int.reduceBEq, Int.reduceBNe, Int.reduceDiv, Int.reduceMod, Int.reduceEq, Int.reduceLT, Int.reduceLE, Int.reduceAdd, Int.reduceSub, Int.reduceMul, Int.reduceNeg, Int.reduceToNat, Int.reduceTDiv, Int.reduceTMod, decide_true, decide_false, Int.cast_ofNat_Int, Bool.not_true, Bool.not_false, Bool.true_beq, Bool.false_beq, Bool.true_and, Bool.and_true, Bool.false_and, Bool.and_false, Bool.true_or, Bool.or_true, Bool.false_or, Bool.or_false, BEq.rfl, Bool.false_eq_true, List.append_eq, List.append_nil, List.cons_append, List.nil_append, List.set_cons_zero, List.set_cons_succ, List.getElem?_cons_zero, List.getElem?_cons_succ, ↓reduceIte], by simp only [go_sem, Nat.reduceEqDiff, Nat.reduceAdd, Nat.reduceSub, Nat.reduceMul, Nat.reduceLT, Nat.reduceLeDiff, Nat.left_eq_add, Nat.add_eq_left, Nat.add_left_cancel_iff, imp_self, implies_true, Int.reducePow, Int.reduceBEq, Int.reduceBNe, Int.reduceDiv, Int.reduceMod, Int.reduceEq, Int.reduceLT, Int.reduceLE, Int.reduceAdd, Int.reduceSub, Int.reduceMul, Int.reduceNeg, Int.reduceToNat, Int.reduceTDiv, Int.reduceTMod, decide_true, decide_false, Int.cast_ofNat_Int, Bool.not_true, Bool.not_false, Bool.true_beq, Bool.false_beq, Bool.true_and, Bool.and_true, Bool.false_and, Bool.and_false, Bool.true_or, Bool.or_true, Bool.false_or, Bool.or_false, BEq.rfl, Bool.false_eq_true, List.append_eq, List.append_nil, List.cons_append, List.nil_append, List.set_cons_zero, List.set_cons_succ, List.getElem?_cons_zero, List.getElem?_cons_succ, ↓reduceIte], by simp only [go_sem, Nat.reduceEqDiff, Nat.reduceAdd, Nat.reduceSub, Nat.reduceMul, Nat.reduceLT, Nat.reduceLeDiff, Nat.left_eq_add, Nat.add_eq_left, Nat.add_left_cancel_iff, imp_self, implies_true, Int.reducePow, Int.reduceBEq, Int.reduceBNe, Int.reduceDiv, Int.reduceMod, Int.reduceEq, Int.reduceLT, Int.reduceLE, Int.reduceAdd, Int.reduceSub, Int.reduceMul, Int.reduceNeg, Int.reduceToNat, Int.reduceTDiv, Int.reduceTMod, decide_true, decide_false, Int.cast_ofNat_Int, Bool.not_true, Bool.not_false, Bool.true_beq, Bool.false_beq, Bool.true_and, Bool.and_true, Bool.false_and, Bool.and_false, Bool.true_or, Bool.or_true, Bool.false_or, Bool.or_false, BEq.rfl, Bool.false_eq_true, List.append_eq, List.append_nil, List.cons_append, List.nil_append, List.set_cons_zero, List.set_cons_succ, List.getElem?_cons_zero, List.getElem?_cons_succ, ↓reduceIte], by simp only [go_sem, Nat.reduceEqDiff, Nat.reduceAdd, Nat.reduceSub, Nat.reduceMul, Nat.reduceLT, Nat.reduceLeDiff, Nat.left_eq_add, Nat.add_eq_left, Nat.add_left_cancel_iff, imp_self, implies_true, Int.reducePow, Int.reduceBEq, Int.reduceBNe, Int.reduceDiv, Int.reduceMod, Int.reduceEq, Int.reduceLT, Int.reduceLE, Int.reduceAdd, Int.reduceSub, Int.reduceMul, Int.reduceNeg, Int.reduceToNat, Int.reduceTDiv, Int.reduceTMod, decide_true, decide_false, Int.cast_ofNat_Int, Bool.not_true, Bool.not_false, Bool.true_beq, Bool.false_beq, Bool.true_and, Bool.and_true, Bool.false_and, Bool.and_false, Bool.true_or, Bool.or_true, Bool.false_or, Bool.or_false, BEq.rfl, Bool.false_eq_true, List.append_eq, List.append_nil, List.cons_append, List.nil_append, List.set_cons_zero, List.set_cons_succ, List.getElem?_cons_zero, List.getElem?_cons_succ, ↓reduceIte], by simp only [go_sem, Nat.reduceEqDiff, Nat.reduceAdd, Nat.reduceSub, Nat.reduceMul, Nat.reduceLT, Nat.reduceLeDiff, Nat.left_eq_add, Nat.add_eq_left, Nat.add_left_cancel_iff, imp_self, implies_true, Int.reducePow, Int.reduceBEq, Int.reduceBNe, Int.reduceDiv, Int.reduceMod, Int.reduceEq, Int.reduceLT, Int.reduceLE, Int.reduceAdd, Int.reduceSub, Int.reduceMul, Int.reduceNeg, Int.reduceToNat, Int.reduceTDiv, Int.reduceTMod, decide_true, decide_false, Int.cast_ofNat_Int, Bool.not_true, Bool.not_false, Bool.true_beq, Bool.false_beq, Bool.true_and, Bool.and_true, Bool.false_and, Bool.and_false, Bool.true_or, Bool.or_true, Bool.false_or, Bool.or_false, BEq.rfl, Bool.false_eq_true, List.append_eq, List.append_nil, List.cons_append, List.nil_append, List.set_cons_zero, List.set_cons_succ, List.getElem?_cons_zero, List.getElem?_cons_succ, ↓reduceIte] <;> rfl⟩ ?_
  rintro k T H' D ⟨rfl, i, G, hik, rfl, h7, h8, h9, h10, h38, h39, h40⟩
  by_cases hk : i < tot.length
  · obtain ⟨rfl, rfl, rfl⟩ := hL (fun e => by rw [e] at hk; simp at hk)
    obtain ⟨p, hp, _⟩ := getD_some hk
    have hin := htin p (List.mem_of_getElem? hp)
    have ld := fun (b : Nat) => ald_pt0 (b := b) (g := 0) (rw_ := true) hp
    have wi1 : IntKind.i64.wrap (p.2 * 5) = p.2 * 5 := wi (by omega) (by omega)
    have wi2 : IntKind.i64.wrap (p.2 * 5 + p.1) = p.2 * 5 + p.1 := wi (by omega) (by omega)
    have wi3 : IntKind.i64.wrap ((i : Int) + 1) = ((i + 1 : Nat) : Int) := by rw [wi (by omega) (by omega)]; rfl
    obtain ⟨d, hd⟩ : ∃ d : Nat, p.2 * 5 + p.1 = (d : Int) := ⟨(p.2 * 5 + p.1).toNat, by omega⟩
    have hd25 : d < 25 := by omega
    have hcb := cntI_b (tot.take i) d
    have hlt : (tot.take i).length ≤ 1024 := by rw [List.length_take]; omega
    have wi4 : IntKind.i64.wrap (cntI (tot.take i) d + 1) = cntI (tot.take i) d + 1 := wi (by omega) (by omega)
    have hst : mkn (fun j => if j = d then cntI (tot.take i) d + 1 else cntI (tot.take i) j) = mkn (cntI (tot.take (i + 1))) := mkn_ext fun j _ => by
      rw [List.take_add_one, hp, cntI_app]
      simp only [Option.toList, cntI]
      by_cases h : j = d
      · subst h; rw [if_pos rfl, if_pos hd]; omega
      · rw [if_neg h, if_neg (by omega)]; omega
    rw [hd] at wi2
    simp only [go_sem, Nat.reduceEqDiff, Nat.reduceAdd, Nat.reduceSub, Nat.reduceMul, Nat.reduceLT, Nat.reduceLeDiff, Nat.left_eq_add, Nat.add_eq_left, Nat.add_left_cancel_iff, imp_self, implies_true, Int.reducePow, Int.reduceBEq, Int.reduceBNe, Int.reduceDiv, Int.reduceMod, Int.reduceEq, Int.reduceLT, Int.reduceLE, Int.reduceAdd, Int.reduceSub, Int.reduceMul, Int.reduceNeg, Int.reduceToNat, Int.reduceTDiv, Int.reduceTMod, decide_true, decide_false, Int.cast_ofNat_Int, Bool.not_true, Bool.not_false, Bool.true_beq, Bool.false_beq, Bool.true_and, Bool.and_true, Bool.false_and, Bool.and_false, Bool.true_or, Bool.or_true, Bool.false_or, Bool.or_false, BEq.rfl, Bool.false_eq_true, List.append_eq, List.append_nil, List.cons_append, List.nil_append, List.set_cons_zero, List.set_cons_succ, List.getElem?_cons_zero, List.getElem?_cons_succ, ↓reduceIte, h7, h8, h9, h10, h38, h39, h40, dt (show (i : Int) < (tot.length : Int) by omega), show (0 : Int) ≤ (i : Int) by omega, show (i : Int) < (tot.length : Int) by omega, Int.toNat_natCast, Nat.zero_add, ld, ptv, df (show ¬ p.1 < 0 by omega), df (show ¬ (4 < p.1) by omega), df (show ¬ p.2 < 0 by omega), df (show ¬ (4 < p.2) by omega), wi1, hd, wi2, wi3, wi4, Nat.mul_one, mkn_get _ hd25, mkn_ast _ _ hd25, show (0 : Int) ≤ (d : Int) by omega, show (d : Int) < 25 by omega, hst]
    exact ⟨k - 1, by omega, i + 1, _, by omega, rfl, rfl⟩
  · have hi : i = tot.length := by omega
    subst hi
    rw [List.take_length]
    simp only [go_sem, Nat.reduceEqDiff, Nat.reduceAdd, Nat.reduceSub, Nat.reduceMul, Nat.reduceLT, Nat.reduceLeDiff, Nat.left_eq_add, Nat.add_eq_left, Nat.add_left_cancel_iff, imp_self, implies_true, Int.reducePow, Int.reduceBEq, Int.reduceBNe, Int.reduceDiv, Int.reduceMod, Int.reduceEq, Int.reduceLT, Int.reduceLE, Int.reduceAdd, Int.reduceSub, Int.reduceMul, Int.reduceNeg, Int.reduceToNat, Int.reduceTDiv, Int.reduceTMod, decide_true, decide_false, Int.cast_ofNat_Int, Bool.not_true, Bool.not_false, Bool.true_beq, Bool.false_beq, Bool.true_and, Bool.and_true, Bool.false_and, Bool.and_false, Bool.true_or, Bool.or_true, Bool.false_or, Bool.or_false, BEq.rfl, Bool.false_eq_true, List.append_eq, List.append_nil, List.cons_append, List.nil_append, List.set_cons_zero, List.set_cons_succ, List.getElem?_cons_zero, List.getElem?_cons_succ, ↓reduceIte, h7, h8, h9, h10, h38, h39, h40, df (show ¬ ((tot.length : Nat) : Int) < (tot.length : Int) by omega)]
    have hz : mkn (fun _ => 0) = mkn (mkf B W 0 0) := mkn_ext fun j _ => (mkf_start B W j).symm
    have hc : mkn (cntI tot) = mkn (mkf B W V 0) := mkn_ext fun j _ => hlaw j
    rw [hc]
    generalize hCC : mkn (mkf B W V 0) = CC
    have vY : ∀ x : Int, 0 ≤ x → x ≤ 100 → IntKind.i64.wrap (x.tdiv 8) = x / 8 := fun x h1 h2 => by rw [Int.tdiv_eq_ediv_of_nonneg h1]; exact wi (by omega) (by omega)
    refine keep (fun k T H' D => D = [] ∧ ∃ (Y : Int) (Z : AH), 0 ≤ Y ∧ Y + k = V ∧ H' = H ++ (⟨b4C b, 0, true⟩ :: ⟨b4C B, 0, true⟩ :: ⟨CC, 0, true⟩ :: (L ++ (G ++ (⟨mkn (mkf B W Y 0), 0, true⟩ :: Z)))) ∧ T 7 = .int .i64 W ∧ T 8 = .int .i64 V ∧ T 9 = ap (H.length + 1) 0 0 ∧ T 10 = ap (H.length + 2) 0 0 ∧ T 13 = ap (H.length + (L.length + G.length + 1 + 1 + 1)) 0 0 ∧ T 14 = .int .i64 Y) V.toNat
      ⟨rfl, 0, [], by omega, by omega, by rw [← hz]; rfl, by simp only [go_sem, Nat.reduceEqDiff, Nat.reduceAdd, Nat.reduceSub, Nat.reduceMul, Nat.reduceLT, Nat.reduceLeDiff, Nat.left_eq_add, Nat.add_eq_left, Nat.add_left_cancel_iff, imp_self, implies_true, Int.reducePow, Int.reduceBEq, Int.reduceBNe, Int.reduceDiv, Int.reduceMod, Int.reduceEq, Int.reduceLT, Int.reduceLE, Int.reduceAdd, Int.reduceSub, Int.reduceMul, Int.reduceNeg, Int.reduceToNat, Int.reduceTDiv, Int.reduceTMod, decide_true, decide_false, Int.cast_ofNat_Int, Bool.not_true, Bool.not_false, Bool.true_beq, Bool.false_beq, Bool.true_and, Bool.and_true, Bool.false_and, Bool.and_false, Bool.true_or, Bool.or_true, Bool.false_or, Bool.or_false, BEq.rfl, Bool.false_eq_true, List.append_eq, List.append_nil, List.cons_append, List.nil_append, List.set_cons_zero, List.set_cons_succ, List.getElem?_cons_zero, List.getElem?_cons_succ, ↓reduceIte, h7], by simp only [go_sem, Nat.reduceEqDiff, Nat.reduceAdd, Nat.reduceSub, Nat.reduceMul, Nat.reduceLT, Nat.reduceLeDiff, Nat.left_eq_add, Nat.add_eq_left, Nat.add_left_cancel_iff, imp_self, implies_true, Int.reducePow, Int.reduceBEq, Int.reduceBNe, Int.reduceDiv, Int.reduceMod, Int.reduceEq, Int.reduceLT, Int.reduceLE, Int.reduceAdd, Int.reduceSub, Int.reduceMul, Int.reduceNeg, Int.reduceToNat, Int.reduceTDiv, Int.reduceTMod, decide_true, decide_false, Int.cast_ofNat_Int, Bool.not_true, Bool.not_false, Bool.true_beq, Bool.false_beq, Bool.true_and, Bool.and_true, Bool.false_and, Bool.and_false, Bool.true_or, Bool.or_true, Bool.false_or, Bool.or_false, BEq.rfl, Bool.false_eq_true, List.append_eq, List.append_nil, List.cons_append, List.nil_append, List.set_cons_zero, List.set_cons_succ, List.getElem?_cons_zero, List.getElem?_cons_succ, ↓reduceIte, h8], by simp only [go_sem, Nat.reduceEqDiff, Nat.reduceAdd, Nat.reduceSub, Nat.reduceMul, Nat.reduceLT, Nat.reduceLeDiff, Nat.left_eq_add, Nat.add_eq_left, Nat.add_left_cancel_iff, imp_self, implies_true, Int.reducePow, Int.reduceBEq, Int.reduceBNe, Int.reduceDiv, Int.reduceMod, Int.reduceEq, Int.reduceLT, Int.reduceLE, Int.reduceAdd, Int.reduceSub, Int.reduceMul, Int.reduceNeg, Int.reduceToNat, Int.reduceTDiv, Int.reduceTMod, decide_true, decide_false, Int.cast_ofNat_Int, Bool.not_true, Bool.not_false, Bool.true_beq, Bool.false_beq, Bool.true_and, Bool.and_true, Bool.false_and, Bool.and_false, Bool.true_or, Bool.or_true, Bool.false_or, Bool.or_false, BEq.rfl, Bool.false_eq_true, List.append_eq, List.append_nil, List.cons_append, List.nil_append, List.set_cons_zero, List.set_cons_succ, List.getElem?_cons_zero, List.getElem?_cons_succ, ↓reduceIte, h9], by simp only [go_sem, Nat.reduceEqDiff, Nat.reduceAdd, Nat.reduceSub, Nat.reduceMul, Nat.reduceLT, Nat.reduceLeDiff, Nat.left_eq_add, Nat.add_eq_left, Nat.add_left_cancel_iff, imp_self, implies_true, Int.reducePow, Int.reduceBEq, Int.reduceBNe, Int.reduceDiv, Int.reduceMod, Int.reduceEq, Int.reduceLT, Int.reduceLE, Int.reduceAdd, Int.reduceSub, Int.reduceMul, Int.reduceNeg, Int.reduceToNat, Int.reduceTDiv, Int.reduceTMod, decide_true, decide_false, Int.cast_ofNat_Int, Bool.not_true, Bool.not_false, Bool.true_beq, Bool.false_beq, Bool.true_and, Bool.and_true, Bool.false_and, Bool.and_false, Bool.true_or, Bool.or_true, Bool.false_or, Bool.or_false, BEq.rfl, Bool.false_eq_true, List.append_eq, List.append_nil, List.cons_append, List.nil_append, List.set_cons_zero, List.set_cons_succ, List.getElem?_cons_zero, List.getElem?_cons_succ, ↓reduceIte, h10], by simp only [go_sem, Nat.reduceEqDiff, Nat.reduceAdd, Nat.reduceSub, Nat.reduceMul, Nat.reduceLT, Nat.reduceLeDiff, Nat.left_eq_add, Nat.add_eq_left, Nat.add_left_cancel_iff, imp_self, implies_true, Int.reducePow, Int.reduceBEq, Int.reduceBNe, Int.reduceDiv, Int.reduceMod, Int.reduceEq, Int.reduceLT, Int.reduceLE, Int.reduceAdd, Int.reduceSub, Int.reduceMul, Int.reduceNeg, Int.reduceToNat, Int.reduceTDiv, Int.reduceTMod, decide_true, decide_false, Int.cast_ofNat_Int, Bool.not_true, Bool.not_false, Bool.true_beq, Bool.false_beq, Bool.true_and, Bool.and_true, Bool.false_and, Bool.and_false, Bool.true_or, Bool.or_true, Bool.false_or, Bool.or_false, BEq.rfl, Bool.false_eq_true, List.append_eq, List.append_nil, List.cons_append, List.nil_append, List.set_cons_zero, List.set_cons_succ, List.getElem?_cons_zero, List.getElem?_cons_succ, ↓reduceIte], by simp only [go_sem, Nat.reduceEqDiff, Nat.reduceAdd, Nat.reduceSub, Nat.reduceMul, Nat.reduceLT, Nat.reduceLeDiff, Nat.left_eq_add, Nat.add_eq_left, Nat.add_left_cancel_iff, imp_self, implies_true, Int.reducePow, Int.reduceBEq, Int.reduceBNe, Int.reduceDiv, Int.reduceMod, Int.reduceEq, Int.reduceLT, Int.reduceLE, Int.reduceAdd, Int.reduceSub, Int.reduceMul, Int.reduceNeg, Int.reduceToNat, Int.reduceTDiv, Int.reduceTMod, decide_true, decide_false, Int.cast_ofNat_Int, Bool.not_true, Bool.not_false, Bool.true_beq, Bool.false_beq, Bool.true_and, Bool.and_true, Bool.false_and, Bool.and_false, Bool.true_or, Bool.or_true, Bool.false_or, Bool.or_false, BEq.rfl, Bool.false_eq_true, List.append_eq, List.append_nil, List.cons_append, List.nil_append, List.set_cons_zero, List.set_cons_succ, List.getElem?_cons_zero, List.getElem?_cons_succ, ↓reduceIte] <;> rfl⟩ ?_
    clear h7 h8 h9 h10 h38 h39 h40
    rintro k T H' D ⟨rfl, Y, Z, hY0, hYk, rfl, h7, h8, h9, h10, h13, h14⟩
    by_cases hk : Y < V
    · simp only [go_sem, Nat.reduceEqDiff, Nat.reduceAdd, Nat.reduceSub, Nat.reduceMul, Nat.reduceLT, Nat.reduceLeDiff, Nat.left_eq_add, Nat.add_eq_left, Nat.add_left_cancel_iff, imp_self, implies_true, Int.reducePow, Int.reduceBEq, Int.reduceBNe, Int.reduceDiv, Int.reduceMod, Int.reduceEq, Int.reduceLT, Int.reduceLE, Int.reduceAdd, Int.reduceSub, Int.reduceMul, Int.reduceNeg, Int.reduceToNat, Int.reduceTDiv, Int.reduceTMod, decide_true, decide_false, Int.cast_ofNat_Int, Bool.not_true, Bool.not_false, Bool.true_beq, Bool.false_beq, Bool.true_and, Bool.and_true, Bool.false_and, Bool.and_false, Bool.true_or, Bool.or_true, Bool.false_or, Bool.or_false, BEq.rfl, Bool.false_eq_true, List.append_eq, List.append_nil, List.cons_append, List.nil_append, List.set_cons_zero, List.set_cons_succ, List.getElem?_cons_zero, List.getElem?_cons_succ, ↓reduceIte, h7, h8, h9, h10, h13, h14, dt hk]
      refine keep (fun k' T H' D => D = [] ∧ ∃ (X : Int) (Z : AH), 0 ≤ X ∧ X + k' = W ∧ H' = H ++ (⟨b4C b, 0, true⟩ :: ⟨b4C B, 0, true⟩ :: ⟨CC, 0, true⟩ :: (L ++ (G ++ (⟨mkn (mkf B W Y X), 0, true⟩ :: Z)))) ∧ T 7 = .int .i64 W ∧ T 8 = .int .i64 V ∧ T 9 = ap (H.length + 1) 0 0 ∧ T 10 = ap (H.length + 2) 0 0 ∧ T 13 = ap (H.length + (L.length + G.length + 1 + 1 + 1)) 0 0 ∧ T 14 = .int .i64 Y ∧ T 15 = .int .i64 X) W.toNat
        ⟨rfl, 0, Z, by omega, by omega, rfl, by simp only [go_sem, Nat.reduceEqDiff, Nat.reduceAdd, Nat.reduceSub, Nat.reduceMul, Nat.reduceLT, Nat.reduceLeDiff, Nat.left_eq_add, Nat.add_eq_left, Nat.add_left_cancel_iff, imp_self, implies_true, Int.reducePow, Int.reduceBEq, Int.reduceBNe, Int.reduceDiv, Int.reduceMod, Int.reduceEq, Int.reduceLT, Int.reduceLE, Int.reduceAdd, Int.reduceSub, Int.reduceMul, Int.reduceNeg, Int.reduceToNat, Int.reduceTDiv, Int.reduceTMod, decide_true, decide_false, Int.cast_ofNat_Int, Bool.not_true, Bool.not_false, Bool.true_beq, Bool.false_beq, Bool.true_and, Bool.and_true, Bool.false_and, Bool.and_false, Bool.true_or, Bool.or_true, Bool.false_or, Bool.or_false, BEq.rfl, Bool.false_eq_true, List.append_eq, List.append_nil, List.cons_append, List.nil_append, List.set_cons_zero, List.set_cons_succ, List.getElem?_cons_zero, List.getElem?_cons_succ, ↓reduceIte, h7], by simp only [go_sem, Nat.reduceEqDiff, Nat.reduceAdd, Nat.reduceSub, Nat.reduceMul, Nat.reduceLT, Nat.reduceLeDiff, Nat.left_eq_add, Nat.add_eq_left, Nat.add_left_cancel_iff, imp_self, implies_true, Int.reducePow, Int.reduceBEq, Int.reduceBNe, Int.reduceDiv, Int.reduceMod, Int.reduceEq, Int.reduceLT, Int.reduceLE, Int.reduceAdd, Int.reduceSub, Int.reduceMul, Int.reduceNeg, Int.reduceToNat, Int.reduceTDiv, Int.reduceTMod, decide_true, decide_false, Int.cast_ofNat_Int, Bool.not_true, Bool.not_false, Bool.true_beq, Bool.false_beq, Bool.true_and, Bool.and_true, Bool.false_and, Bool.and_false, Bool.true_or, Bool.or_true, Bool.false_or, Bool.or_false, BEq.rfl, Bool.false_eq_true, List.append_eq, List.append_nil, List.cons_append, List.nil_append, List.set_cons_zero, List.set_cons_succ, List.getElem?_cons_zero, List.getElem?_cons_succ, ↓reduceIte, h8], by simp only [go_sem, Nat.reduceEqDiff, Nat.reduceAdd, Nat.reduceSub, Nat.reduceMul, Nat.reduceLT, Nat.reduceLeDiff, Nat.left_eq_add, Nat.add_eq_left, Nat.add_left_cancel_iff, imp_self, implies_true, Int.reducePow, Int.reduceBEq, Int.reduceBNe, Int.reduceDiv, Int.reduceMod, Int.reduceEq, Int.reduceLT, Int.reduceLE, Int.reduceAdd, Int.reduceSub, Int.reduceMul, Int.reduceNeg, Int.reduceToNat, Int.reduceTDiv, Int.reduceTMod, decide_true, decide_false, Int.cast_ofNat_Int, Bool.not_true, Bool.not_false, Bool.true_beq, Bool.false_beq, Bool.true_and, Bool.and_true, Bool.false_and, Bool.and_false, Bool.true_or, Bool.or_true, Bool.false_or, Bool.or_false, BEq.rfl, Bool.false_eq_true, List.append_eq, List.append_nil, List.cons_append, List.nil_append, List.set_cons_zero, List.set_cons_succ, List.getElem?_cons_zero, List.getElem?_cons_succ, ↓reduceIte, h9], by simp only [go_sem, Nat.reduceEqDiff, Nat.reduceAdd, Nat.reduceSub, Nat.reduceMul, Nat.reduceLT, Nat.reduceLeDiff, Nat.left_eq_add, Nat.add_eq_left, Nat.add_left_cancel_iff, imp_self, implies_true, Int.reducePow, Int.reduceBEq, Int.reduceBNe, Int.reduceDiv, Int.reduceMod, Int.reduceEq, Int.reduceLT, Int.reduceLE, Int.reduceAdd, Int.reduceSub, Int.reduceMul, Int.reduceNeg, Int.reduceToNat, Int.reduceTDiv, Int.reduceTMod, decide_true, decide_false, Int.cast_ofNat_Int, Bool.not_true, Bool.not_false, Bool.true_beq, Bool.false_beq, Bool.true_and, Bool.and_true, Bool.false_and, Bool.and_false, Bool.true_or, Bool.or_true, Bool.false_or, Bool.or_false, BEq.rfl, Bool.false_eq_true, List.append_eq, List.append_nil, List.cons_append, List.nil_append, List.set_cons_zero, List.set_cons_succ, List.getElem?_cons_zero, List.getElem?_cons_succ, ↓reduceIte, h10], by simp only [go_sem, Nat.reduceEqDiff, Nat.reduceAdd, Nat.reduceSub, Nat.reduceMul, Nat.reduceLT, Nat.reduceLeDiff, Nat.left_eq_add, Nat.add_eq_left, Nat.add_left_cancel_iff, imp_self, implies_true, Int.reducePow, Int.reduceBEq, Int.reduceBNe, Int.reduceDiv, Int.reduceMod, Int.reduceEq, Int.reduceLT, Int.reduceLE, Int.reduceAdd, Int.reduceSub, Int.reduceMul, Int.reduceNeg, Int.reduceToNat, Int.reduceTDiv, Int.reduceTMod, decide_true, decide_false, Int.cast_ofNat_Int, Bool.not_true, Bool.not_false, Bool.true_beq, Bool.false_beq, Bool.true_and, Bool.and_true, Bool.false_and, Bool.and_false, Bool.true_or, Bool.or_true, Bool.false_or, Bool.or_false, BEq.rfl, Bool.false_eq_true, List.append_eq, List.append_nil, List.cons_append, List.nil_append, List.set_cons_zero, List.set_cons_succ, List.getElem?_cons_zero, List.getElem?_cons_succ, ↓reduceIte, h13], by simp only [go_sem, Nat.reduceEqDiff, Nat.reduceAdd, Nat.reduceSub, Nat.reduceMul, Nat.reduceLT, Nat.reduceLeDiff, Nat.left_eq_add, Nat.add_eq_left, Nat.add_left_cancel_iff, imp_self, implies_true, Int.reducePow, Int.reduceBEq, Int.reduceBNe, Int.reduceDiv, Int.reduceMod, Int.reduceEq, Int.reduceLT, Int.reduceLE, Int.reduceAdd, Int.reduceSub, Int.reduceMul, Int.reduceNeg, Int.reduceToNat, Int.reduceTDiv, Int.reduceTMod, decide_true, decide_false, Int.cast_ofNat_Int, Bool.not_true, Bool.not_false, Bool.true_beq, Bool.false_beq, Bool.true_and, Bool.and_true, Bool.false_and, Bool.and_false, Bool.true_or, Bool.or_true, Bool.false_or, Bool.or_false, BEq.rfl, Bool.false_eq_true, List.append_eq, List.append_nil, List.cons_append, List.nil_append, List.set_cons_zero, List.set_cons_succ, List.getElem?_cons_zero, List.getElem?_cons_succ, ↓reduceIte, h14], by simp only [go_sem, Nat.reduceEqDiff, Nat.reduceAdd, Nat.reduceSub, Nat.reduceMul, Nat.reduceLT, Nat.reduceLeDiff, Nat.left_eq_add, Nat.add_eq_left, Nat.add_left_cancel_iff, imp_self, implies_true, Int.reducePow, Int.reduceBEq, Int.reduceBNe, Int.reduceDiv, Int.reduceMod, Int.reduceEq, Int.reduceLT, Int.reduceLE, Int.reduceAdd, Int.reduceSub, Int.reduceMul, Int.reduceNeg, Int.reduceToNat, Int.reduceTDiv, Int.reduceTMod, decide_true, decide_false, Int.cast_ofNat_Int, Bool.not_true, Bool.not_false, Bool.true_beq, Bool.false_beq, Bool.true_and, Bool.and_true, Bool.false_and, Bool.and_false, Bool.true_or, Bool.or_true, Bool.false_or, Bool.or_false, BEq.rfl, Bool.false_eq_true, List.append_eq, List.append_nil, List.cons_append, List.nil_append, List.set_cons_zero, List.set_cons_succ, List.getElem?_cons_zero, List.getElem?_cons_succ, ↓reduceIte] <;> rfl⟩ ?_
      clear h7 h8 h9 h10 h13 h14
      rintro k' T H' D ⟨rfl, X, Z, hX0, hXk, rfl, h7, h8, h9, h10, h13, h14, h15⟩
      by_cases hk' : X < W
      · have wx : IntKind.i64.wrap (X + 1) = X + 1 := wi (by omega) (by omega)
        simp only [go_sem, Nat.reduceEqDiff, Nat.reduceAdd, Nat.reduceSub, Nat.reduceMul, Nat.reduceLT, Nat.reduceLeDiff, Nat.left_eq_add, Nat.add_eq_left, Nat.add_left_cancel_iff, imp_self, implies_true, Int.reducePow, Int.reduceBEq, Int.reduceBNe, Int.reduceDiv, Int.reduceMod, Int.reduceEq, Int.reduceLT, Int.reduceLE, Int.reduceAdd, Int.reduceSub, Int.reduceMul, Int.reduceNeg, Int.reduceToNat, Int.reduceTDiv, Int.reduceTMod, decide_true, decide_false, Int.cast_ofNat_Int, Bool.not_true, Bool.not_false, Bool.true_beq, Bool.false_beq, Bool.true_and, Bool.and_true, Bool.false_and, Bool.and_false, Bool.true_or, Bool.or_true, Bool.false_or, Bool.or_false, BEq.rfl, Bool.false_eq_true, List.append_eq, List.append_nil, List.cons_append, List.nil_append, List.set_cons_zero, List.set_cons_succ, List.getElem?_cons_zero, List.getElem?_cons_succ, ↓reduceIte, h7, h8, h9, h10, h13, h14, h15, dt hk']
        refine (has_ B X Y _).x ?_
        cases hh : has B X Y with
        | true =>
          obtain ⟨d, hd⟩ : ∃ d : Nat, Y / 8 * 5 + X / 8 = (d : Int) := ⟨(Y / 8 * 5 + X / 8).toNat, by omega⟩
          have hd25 : d < 25 := by omega
          have v1 : IntKind.i64.wrap (Y / 8 * 5) = Y / 8 * 5 := wi (by omega) (by omega)
          have v2 : IntKind.i64.wrap (d : Int) = (d : Int) := wi (by omega) (by omega)
          have hst : mkn (fun j => if j = d then 1 else mkf B W Y X j) = mkn (mkf B W Y (X + 1)) := mkn_ext fun j _ => by
            rw [mkf_yes1 hX0 hY0 hh, hd, Int.toNat_natCast]
          simp only [go_sem, Nat.reduceEqDiff, Nat.reduceAdd, Nat.reduceSub, Nat.reduceMul, Nat.reduceLT, Nat.reduceLeDiff, Nat.left_eq_add, Nat.add_eq_left, Nat.add_left_cancel_iff, imp_self, implies_true, Int.reducePow, Int.reduceBEq, Int.reduceBNe, Int.reduceDiv, Int.reduceMod, Int.reduceEq, Int.reduceLT, Int.reduceLE, Int.reduceAdd, Int.reduceSub, Int.reduceMul, Int.reduceNeg, Int.reduceToNat, Int.reduceTDiv, Int.reduceTMod, decide_true, decide_false, Int.cast_ofNat_Int, Bool.not_true, Bool.not_false, Bool.true_beq, Bool.false_beq, Bool.true_and, Bool.and_true, Bool.false_and, Bool.and_false, Bool.true_or, Bool.or_true, Bool.false_or, Bool.or_false, BEq.rfl, Bool.false_eq_true, List.append_eq, List.append_nil, List.cons_append, List.nil_append, List.set_cons_zero, List.set_cons_succ, List.getElem?_cons_zero, List.getElem?_cons_succ, ↓reduceIte, h7, h8, h9, h10, h13, h14, h15, wx, vY Y (by omega) (by omega), vY X (by omega) (by omega), v1, hd, v2, Int.toNat_natCast, Nat.zero_add, Nat.mul_one, mkn_ast _ _ hd25, show (0 : Int) ≤ (d : Int) by omega, show (d : Int) < 25 by omega, hst]
          exact ⟨k' - 1, by omega, X + 1, Z, by omega, by omega, rfl, rfl⟩
        | false =>
          have hst : mkn (mkf B W Y X) = mkn (mkf B W Y (X + 1)) := mkn_ext fun j _ => (mkf_no1 hh j).symm
          simp only [go_sem, Nat.reduceEqDiff, Nat.reduceAdd, Nat.reduceSub, Nat.reduceMul, Nat.reduceLT, Nat.reduceLeDiff, Nat.left_eq_add, Nat.add_eq_left, Nat.add_left_cancel_iff, imp_self, implies_true, Int.reducePow, Int.reduceBEq, Int.reduceBNe, Int.reduceDiv, Int.reduceMod, Int.reduceEq, Int.reduceLT, Int.reduceLE, Int.reduceAdd, Int.reduceSub, Int.reduceMul, Int.reduceNeg, Int.reduceToNat, Int.reduceTDiv, Int.reduceTMod, decide_true, decide_false, Int.cast_ofNat_Int, Bool.not_true, Bool.not_false, Bool.true_beq, Bool.false_beq, Bool.true_and, Bool.and_true, Bool.false_and, Bool.and_false, Bool.true_or, Bool.or_true, Bool.false_or, Bool.or_false, BEq.rfl, Bool.false_eq_true, List.append_eq, List.append_nil, List.cons_append, List.nil_append, List.set_cons_zero, List.set_cons_succ, List.getElem?_cons_zero, List.getElem?_cons_succ, ↓reduceIte, h7, h8, h9, h10, h13, h14, h15, wx, hst]
          exact ⟨k' - 1, by omega, X + 1, Z, by omega, by omega, rfl, rfl⟩
      · have hX : X = W := by omega
        subst hX
        have wy : IntKind.i64.wrap (Y + 1) = Y + 1 := wi (by omega) (by omega)
        have hst : mkn (mkf B X Y X) = mkn (mkf B X (Y + 1) 0) := mkn_ext fun j _ => (mkf_row B X Y j).symm
        rw [hst]
        simp only [go_sem, Nat.reduceEqDiff, Nat.reduceAdd, Nat.reduceSub, Nat.reduceMul, Nat.reduceLT, Nat.reduceLeDiff, Nat.left_eq_add, Nat.add_eq_left, Nat.add_left_cancel_iff, imp_self, implies_true, Int.reducePow, Int.reduceBEq, Int.reduceBNe, Int.reduceDiv, Int.reduceMod, Int.reduceEq, Int.reduceLT, Int.reduceLE, Int.reduceAdd, Int.reduceSub, Int.reduceMul, Int.reduceNeg, Int.reduceToNat, Int.reduceTDiv, Int.reduceTMod, decide_true, decide_false, Int.cast_ofNat_Int, Bool.not_true, Bool.not_false, Bool.true_beq, Bool.false_beq, Bool.true_and, Bool.and_true, Bool.false_and, Bool.and_false, Bool.true_or, Bool.or_true, Bool.false_or, Bool.or_false, BEq.rfl, Bool.false_eq_true, List.append_eq, List.append_nil, List.cons_append, List.nil_append, List.set_cons_zero, List.set_cons_succ, List.getElem?_cons_zero, List.getElem?_cons_succ, ↓reduceIte, h7, h8, h9, h10, h13, h14, h15, wy, df hk']
        exact ⟨k - 1, by omega, Y + 1, Z, by omega, by omega, rfl, rfl⟩
    · have hY : Y = V := by omega
      subst hY
      rw [hCC]
      simp only [go_sem, Nat.reduceEqDiff, Nat.reduceAdd, Nat.reduceSub, Nat.reduceMul, Nat.reduceLT, Nat.reduceLeDiff, Nat.left_eq_add, Nat.add_eq_left, Nat.add_left_cancel_iff, imp_self, implies_true, Int.reducePow, Int.reduceBEq, Int.reduceBNe, Int.reduceDiv, Int.reduceMod, Int.reduceEq, Int.reduceLT, Int.reduceLE, Int.reduceAdd, Int.reduceSub, Int.reduceMul, Int.reduceNeg, Int.reduceToNat, Int.reduceTDiv, Int.reduceTMod, decide_true, decide_false, Int.cast_ofNat_Int, Bool.not_true, Bool.not_false, Bool.true_beq, Bool.false_beq, Bool.true_and, Bool.and_true, Bool.false_and, Bool.and_false, Bool.true_or, Bool.or_true, Bool.false_or, Bool.or_false, BEq.rfl, Bool.false_eq_true, List.append_eq, List.append_nil, List.cons_append, List.nil_append, List.set_cons_zero, List.set_cons_succ, List.getElem?_cons_zero, List.getElem?_cons_succ, ↓reduceIte, h7, h8, h9, h10, h13, h14, df hk]
      have hCl : CC.length = 25 := by rw [← hCC]; exact mkn_len _
      have ldc : ∀ b, ald (some true) (some 25) (some ⟨CC, 0, true⟩) b 0 0 = some (.agg CC.toArray, b) := fun b => by simp [ald, hCl, List.take_of_length_le]
      have he : eqc [.i, .i, .i, .i, .i, .i, .i, .i, .i, .i, .i, .i, .i, .i, .i, .i, .i, .i, .i, .i, .i, .i, .i, .i, .i] CC CC = some true := by rw [← hCC]; exact eqc_mkn _
      simp only [go_sem, Nat.reduceEqDiff, Nat.reduceAdd, Nat.reduceSub, Nat.reduceMul, Nat.reduceLT, Nat.reduceLeDiff, Nat.left_eq_add, Nat.add_eq_left, Nat.add_left_cancel_iff, imp_self, implies_true, Int.reducePow, Int.reduceBEq, Int.reduceBNe, Int.reduceDiv, Int.reduceMod, Int.reduceEq, Int.reduceLT, Int.reduceLE, Int.reduceAdd, Int.reduceSub, Int.reduceMul, Int.reduceNeg, Int.reduceToNat, Int.reduceTDiv, Int.reduceTMod, decide_true, decide_false, Int.cast_ofNat_Int, Bool.not_true, Bool.not_false, Bool.true_beq, Bool.false_beq, Bool.true_and, Bool.and_true, Bool.false_and, Bool.and_false, Bool.true_or, Bool.or_true, Bool.false_or, Bool.or_false, BEq.rfl, Bool.false_eq_true, List.append_eq, List.append_nil, List.cons_append, List.nil_append, List.set_cons_zero, List.set_cons_succ, List.getElem?_cons_zero, List.getElem?_cons_succ, ↓reduceIte, ldc, h13, he]
      repeat (first | (refine (bknown_ _).x ?_; simp only [go_sem, Nat.reduceEqDiff, Nat.reduceAdd, Nat.reduceSub, Nat.reduceMul, Nat.reduceLT, Nat.reduceLeDiff, Nat.left_eq_add, Nat.add_eq_left, Nat.add_left_cancel_iff, imp_self, implies_true, Int.reducePow, Int.reduceBEq, Int.reduceBNe, Int.reduceDiv, Int.reduceMod, Int.reduceEq, Int.reduceLT, Int.reduceLE, Int.reduceAdd, Int.reduceSub, Int.reduceMul, Int.reduceNeg, Int.reduceToNat, Int.reduceTDiv, Int.reduceTMod, decide_true, decide_false, Int.cast_ofNat_Int, Bool.not_true, Bool.not_false, Bool.true_beq, Bool.false_beq, Bool.true_and, Bool.and_true, Bool.false_and, Bool.and_false, Bool.true_or, Bool.or_true, Bool.false_or, Bool.or_false, BEq.rfl, Bool.false_eq_true, List.append_eq, List.append_nil, List.cons_append, List.nil_append, List.set_cons_zero, List.set_cons_succ, List.getElem?_cons_zero, List.getElem?_cons_succ, ↓reduceIte, he]) | (refine drawnF ?_ (by decide +kernel); simp only [go_sem, Nat.reduceEqDiff, Nat.reduceAdd, Nat.reduceSub, Nat.reduceMul, Nat.reduceLT, Nat.reduceLeDiff, Nat.left_eq_add, Nat.add_eq_left, Nat.add_left_cancel_iff, imp_self, implies_true, Int.reducePow, Int.reduceBEq, Int.reduceBNe, Int.reduceDiv, Int.reduceMod, Int.reduceEq, Int.reduceLT, Int.reduceLE, Int.reduceAdd, Int.reduceSub, Int.reduceMul, Int.reduceNeg, Int.reduceToNat, Int.reduceTDiv, Int.reduceTMod, decide_true, decide_false, Int.cast_ofNat_Int, Bool.not_true, Bool.not_false, Bool.true_beq, Bool.false_beq, Bool.true_and, Bool.and_true, Bool.false_and, Bool.and_false, Bool.true_or, Bool.or_true, Bool.false_or, Bool.or_false, BEq.rfl, Bool.false_eq_true, List.append_eq, List.append_nil, List.cons_append, List.nil_append, List.set_cons_zero, List.set_cons_succ, List.getElem?_cons_zero, List.getElem?_cons_succ, ↓reduceIte, he]))
end Go.Proofs.Ythoclopeajkcpaa
