/- Merged texts: Box1 Box2 Box3 Box4 Box5 Flat6 Flat7 Flat8. -/
import Derived.Test.YtnebnbdeobcegaaZ5
/- Chapter 14: the walks of boxes. -/
namespace Go.Proofs.Ytnebnbdeobcegaa
open Go Go.RowKit E
attribute [local irreducible] XRun XOps XCode XCal XLoop XQ SemCall
set_option linter.unusedSimpArgs false
set_option linter.unusedVariables false
structure B4 where
  x0 : Int
  y0 : Int
  x1 : Int
  y1 : Int
deriving DecidableEq
abbrev bx (a b c d : Int) : Value := .agg [.int .i64 a, .int .i64 b, .int .i64 c, .int .i64 d].toArray
abbrev B4.val (b : B4) : Value := bx b.x0 b.y0 b.x1 b.y1
abbrev B4.I (b : B4) : Prop := I64 b.x0 ∧ I64 b.y0 ∧ I64 b.x1 ∧ I64 b.y1
def emp (b : B4) : Bool := decide (b.x1 ≤ b.x0) || decide (b.y1 ≤ b.y0)
def meet0 (a b : B4) : B4 := ⟨mx a.x0 b.x0, mx a.y0 b.y0, mn a.x1 b.x1, mn a.y1 b.y1⟩
def join0 (a b : B4) : B4 := ⟨mn a.x0 b.x0, mn a.y0 b.y0, mx a.x1 b.x1, mx a.y1 b.y1⟩
def zero4 : B4 := ⟨0, 0, 0, 0⟩
def meet (a b : B4) : B4 := if emp (meet0 a b) = true then zero4 else meet0 a b
def join (a b : B4) : B4 := if (emp a && emp b) = true then zero4 else if emp a = true then b else if emp b = true then a else join0 a b
def has (b : B4) (x y : Int) : Bool := decide (b.x0 ≤ x) && decide (x < b.x1) && decide (b.y0 ≤ y) && decide (y < b.y1)
def upS (x : Int) : Int := (x + 65535) / 65536
theorem and_16 (x : Int) : bits .and .i64 x 65535 = x % 65536 := and_i64 x 16 (by decide)
theorem mn_def (x y : Int) : (if y < x then y else x) = mn x y := rfl
theorem mx_def (x y : Int) : (if x < y then y else x) = mx x y := rfl
theorem emp_meet (a b : B4) (h : emp a = true ∨ emp b = true) : emp (meet0 a b) = true := by
  unfold emp meet0 at *
  simp only [Bool.or_eq_true, decide_eq_true_eq] at *
  have := mx_le a.x0 b.x0
  have := mx_le a.y0 b.y0
  have := mn_le a.x1 b.x1
  have := mn_le a.y1 b.y1
  omega
def scr (w h : Int) : Bool := decide (1 ≤ w) && decide (w ≤ 256) && decide (1 ≤ h) && decide (h ≤ 256)
end Go.Proofs.Ytnebnbdeobcegaa
/- Chapter 14: the walks of what is round all places. -/
namespace Go.Proofs.Ytnebnbdeobcegaa
open Go Go.RowKit E
attribute [local irreducible] XRun XOps XCode XCal XLoop XQ SemCall
set_option linter.unusedSimpArgs false
set_option linter.unusedVariables false
abbrev PL := Bool × List Pt
def plC (l : List (Bool × Value)) : List Value := l.flatMap fun p => [.bool p.1, p.2]
theorem plC_len (l : List (Bool × Value)) : (plC l).length = l.length * 2 := by
  induction l with
  | nil => rfl
  | cons x l ih => have : plC (x :: l) = [.bool x.1, x.2] ++ plC l := rfl
                   rw [this, List.length_append, ih]; simp; omega
theorem plC_app (l m : List (Bool × Value)) : plC (l ++ m) = plC l ++ plC m := by simp [plC]
theorem plC_drop : ∀ (l : List (Bool × Value)) (i : Nat) (p : Bool × Value) (rest : List Value), l[i]? = some p → (((plC l ++ rest).drop (i * 2)).take 2) = [.bool p.1, p.2]
  | [], i, p, rest, h => by simp at h
  | x :: l, 0, p, rest, h => by simp at h; subst h; rfl
  | x :: l, i + 1, p, rest, h => by
    have := plC_drop l i p rest (by simpa using h)
    rw [show (i + 1) * 2 = i * 2 + 2 by omega]
    show ((Value.bool x.1 :: x.2 :: (plC l ++ rest)).drop (i * 2 + 2)).take 2 = _
    simpa using this
theorem plC_get : ∀ (l : List (Bool × Value)) (i : Nat) (p : Bool × Value) (rest : List Value), l[i]? = some p → (plC l ++ rest)[i * 2]? = some (.bool p.1) ∧ (plC l ++ rest)[i * 2 + 1]? = some p.2
  | [], i, p, rest, h => by simp at h
  | x :: l, 0, p, rest, h => by simp at h; subst h; exact ⟨rfl, rfl⟩
  | x :: l, i + 1, p, rest, h => by
    have := plC_get l i p rest (by simpa using h)
    rw [show (i + 1) * 2 = i * 2 + 2 by omega]
    exact this
theorem ald_pl {l : List (Bool × Value)} {i b g : Nat} {p : Bool × Value} {rw_ : Bool} (rest : List Value) (h : l[i]? = some p) : ald (some true) (some 2) (some ⟨plC l ++ rest, g, rw_⟩) b (i * 2) g = some (.agg [.bool p.1, p.2].toArray, b) := by
  have hi := (List.getElem?_eq_some_iff.1 h).1
  have : i * 2 + 2 ≤ (plC l ++ rest).length := by rw [List.length_append, plC_len]; omega
  simp only [ald, true_and, this, if_true]
  rw [plC_drop l i p rest h]
/-- Rows of points, as they may lie. -/
def Polys (H : AH) (v : Value) (ps : List PL) : Prop :=
  (ps = [] ∧ ((∃ e, v = .slice (some ⟨0, 0, none⟩) 0 e) ∨ v = .slice none 0 0)) ∨
  ∃ b g rest rw_ vs, v = sl b 0 g ps.length 2 ∧ H[b]? = some ⟨plC vs ++ rest, g, rw_⟩ ∧ vs.length = ps.length ∧ ps.length ≤ 9223372036854775807 ∧ ∀ (i : Nat) x, ps[i]? = some x → ∃ pv, vs[i]? = some (x.1, pv) ∧ Pts H pv x.2
theorem Polys.app {H : AH} {v : Value} {ps : List PL} (h : Polys H v ps) (L : AH) : Polys (H ++ L) v ps := by
  rcases h with h | ⟨b, g, rest, rw_, vs, h1, h2, h3, h4, h5⟩
  · exact .inl h
  · exact .inr ⟨b, g, rest, rw_, vs, h1, old_get h2 L, h3, h4, fun i x hx => by obtain ⟨pv, e1, e2⟩ := h5 i x hx; exact ⟨pv, e1, e2.app L⟩⟩
theorem Polys.form {H : AH} {v : Value} {ps : List PL} (h : Polys H v ps) : ∃ a e, v = .slice a ps.length e := by
  rcases h with ⟨rfl, ⟨e, rfl⟩ | rfl⟩ | ⟨b, g, rest, rw_, vs, rfl, _⟩
  · exact ⟨_, _, rfl⟩
  · exact ⟨_, _, rfl⟩
  · exact ⟨_, _, rfl⟩
theorem Polys.ne {H : AH} {v : Value} {ps : List PL} (h : Polys H v ps) (hn : ¬ ps = []) : ∃ b g rest rw_ vs, v = sl b 0 g ps.length 2 ∧ H[b]? = some ⟨plC vs ++ rest, g, rw_⟩ ∧ vs.length = ps.length ∧ ps.length ≤ 9223372036854775807 ∧ ∀ (i : Nat) x, ps[i]? = some x → ∃ pv, vs[i]? = some (x.1, pv) ∧ Pts H pv x.2 := h.resolve_left fun h => hn h.1
def pbx (p : Pt) : B4 := ⟨p.1 / 65536, p.2 / 65536, upS p.1, upS p.2⟩
def stepB (s : Bool × B4) (p : Pt) : Bool × B4 := (false, join0 (if s.1 = true then pbx p else s.2) (pbx p))
def foldP (s : Bool × B4) (x : PL) : Bool × B4 := x.2.foldl stepB s
def boxOf (ps : List PL) : B4 := (ps.foldl foldP (true, zero4)).2
abbrev b4C (b : B4) : List Value := [.int .i64 b.x0, .int .i64 b.y0, .int .i64 b.x1, .int .i64 b.y1]
theorem getD_some {α : Type} {l : List α} {i : Nat} (h : i < l.length) : ∃ x, l[i]? = some x ∧ l.drop i = x :: l.drop (i + 1) := ⟨l[i], List.getElem?_eq_getElem h, drop_cons h⟩
end Go.Proofs.Ytnebnbdeobcegaa
/- Chapter 14: the walk of the document's own box round all places. -/
namespace Go.Proofs.Ytnebnbdeobcegaa
open Go Go.RowKit E
attribute [local irreducible] XRun XOps XCode XCal XLoop XQ SemCall
set_option linter.unusedSimpArgs false
set_option linter.unusedVariables false
def tl2 (l : List (Int × Int)) : List Value := ptC l
/-- The tiles of rows: from x0 to x1 in each row from y0 to y1. -/
def rowT (y : Int) (x0 : Int) : Nat → List (Int × Int)
  | 0 => []
  | n + 1 => (x0, y) :: rowT y (x0 + 1) n
def rowsT (x0 : Int) (nx : Nat) (y0 : Int) : Nat → List (Int × Int)
  | 0 => []
  | n + 1 => rowT y0 x0 nx ++ rowsT x0 nx (y0 + 1) n
def tilesOf (b : B4) (w h : Int) : List (Int × Int) :=
  if scr w h = true then
    let m := meet b ⟨0, 0, w, h⟩
    if emp m = true then [] else rowsT (m.x0 / 8) ((m.x1 - 1) / 8 + 1 - m.x0 / 8).toNat (m.y0 / 8) ((m.y1 - 1) / 8 + 1 - m.y0 / 8).toNat
  else []
theorem rowT_len (y x0 : Int) : ∀ n, (rowT y x0 n).length = n
  | 0 => rfl
  | n + 1 => by simp [rowT, rowT_len y (x0 + 1) n]
end Go.Proofs.Ytnebnbdeobcegaa
/- Chapter 14: the walk of tiles. -/
namespace Go.Proofs.Ytnebnbdeobcegaa
open Go Go.RowKit E
attribute [local irreducible] XRun XOps XCode XCal XLoop XQ SemCall
set_option linter.unusedSimpArgs false
set_option linter.unusedVariables false
theorem rowsT_len (x0 : Int) (nx : Nat) : ∀ (n : Nat) (y : Int), (rowsT x0 nx y n).length = n * nx
  | 0, y => by simp [rowsT]
  | n + 1, y => by simp [rowsT, rowT_len, rowsT_len x0 nx n, Nat.add_mul]; omega
theorem scr_b {w h : Int} (hs : scr w h = true) : 1 ≤ w ∧ w ≤ 256 ∧ 1 ≤ h ∧ h ≤ 256 := by
  simp only [scr, Bool.and_eq_true, decide_eq_true_eq] at hs; omega
theorem meet_in (b : B4) {w h : Int} (hs : scr w h = true) (he : emp (meet b ⟨0, 0, w, h⟩) = false) : 0 ≤ (meet b ⟨0, 0, w, h⟩).x0 ∧ (meet b ⟨0, 0, w, h⟩).x0 < (meet b ⟨0, 0, w, h⟩).x1 ∧ (meet b ⟨0, 0, w, h⟩).x1 ≤ w ∧ 0 ≤ (meet b ⟨0, 0, w, h⟩).y0 ∧ (meet b ⟨0, 0, w, h⟩).y0 < (meet b ⟨0, 0, w, h⟩).y1 ∧ (meet b ⟨0, 0, w, h⟩).y1 ≤ h := by
  have e : meet b ⟨0, 0, w, h⟩ = meet0 b ⟨0, 0, w, h⟩ := by
    unfold meet
    cases k : emp (meet0 b ⟨0, 0, w, h⟩) with
    | true => unfold meet at he; rw [k, if_pos rfl] at he; exact absurd he (by decide)
    | false => simp
  rw [e] at he ⊢
  have h1 := mx_le b.x0 0
  have h2 := mx_le b.y0 0
  have h3 := mn_le b.x1 w
  have h4 := mn_le b.y1 h
  simp only [emp, Bool.or_eq_false_iff, decide_eq_false_iff_not] at he
  have e1 : (meet0 b ⟨0, 0, w, h⟩).x0 = mx b.x0 0 := rfl
  have e2 : (meet0 b ⟨0, 0, w, h⟩).y0 = mx b.y0 0 := rfl
  have e3 : (meet0 b ⟨0, 0, w, h⟩).x1 = mn b.x1 w := rfl
  have e4 : (meet0 b ⟨0, 0, w, h⟩).y1 = mn b.y1 h := rfl
  omega
def TB (H : AH) (M : B4) (o : List (Int × Int)) (v : Value) (H' : AH) : Prop :=
  (o = [] ∧ v = .slice none 0 0 ∧ H' = H ++ [⟨b4C M, 0, true⟩]) ∨ ∃ g X G, v = sl (H.length + 2) 0 g o.length 2 ∧ H' = H ++ (⟨b4C M, 0, true⟩ :: X :: ⟨ptC o, g, true⟩ :: G)
theorem TB.m {H : AH} {M : B4} {o : List (Int × Int)} {v : Value} {H' : AH} (h : TB H M o v H') : H'[H.length]? = some ⟨b4C M, 0, true⟩ := by
  rcases h with ⟨_, _, e⟩ | ⟨g, X, G, _, e⟩ <;> rw [e, hget_app0] <;> rfl
end Go.Proofs.Ytnebnbdeobcegaa
/- Chapter 14: the walk of the law on tiles. -/
namespace Go.Proofs.Ytnebnbdeobcegaa
open Go Go.RowKit E
attribute [local irreducible] XRun XOps XCode XCal XLoop XQ SemCall
set_option linter.unusedSimpArgs false
set_option linter.unusedVariables false
theorem bk1 : scr 16 16 = true := by decide
theorem bk2 : emp (meet ⟨0, 0, 9, 1⟩ ⟨0, 0, 16, 16⟩) = false := by decide
theorem bk3 : tilesOf ⟨0, 0, 9, 1⟩ 16 16 = [(0, 0), (1, 0)] := by decide
theorem bk4 : boxOf [(false, [(1, 0), (-1, 65536)])] = ⟨-1, 0, 1, 1⟩ := by decide
theorem bk5 : emp zero4 = true := by decide
theorem bk6 : has ⟨-1, 0, 1, 1⟩ 0 0 = true := by decide
theorem bk7 : has ⟨-1, 0, 1, 1⟩ 1 0 = false := by decide
def mkn (f : Nat → Int) : List Value := (List.range 25).map fun j => .int .i64 (f j)
theorem mkn_len (f : Nat → Int) : (mkn f).length = 25 := by simp [mkn]
theorem mkn_get (f : Nat → Int) {i : Nat} (h : i < 25) : (mkn f)[i]? = some (.int .i64 (f i)) := by simp [mkn, List.getElem?_range h]
theorem mkn_set (f : Nat → Int) (i : Nat) (v : Int) : (mkn f).set i (.int .i64 v) = mkn (fun j => if j = i then v else f j) := by
  unfold mkn
  apply List.ext_getElem
  · simp
  · intro j h1 h2
    simp only [List.getElem_set, List.getElem_map, List.getElem_range]
    by_cases h : i = j
    · subst h; simp
    · rw [if_neg h, if_neg (fun e => h e.symm)]
theorem mkn_ast (H : AH) (f : Nat → Int) {d : Nat} (hd : d < 25) (v : Int) (b : Nat) : ast H (some ⟨mkn f, 0, true⟩) (some [.int .i64 v]) (some 1) b d 0 = some (H.set b ⟨mkn (fun j => if j = d then v else f j), 0, true⟩, b) := by
  have := mkn_len f
  have e : (mkn f).set d (.int .i64 v) = (mkn f).take d ++ .int .i64 v :: (mkn f).drop (d + 1) := by rw [List.set_eq_take_append_cons_drop, if_pos (by omega)]
  rw [ast_some (s := 1) rfl (by omega), ← mkn_set, e, splice_def]
  simp
theorem eqc_int : ∀ (l : List Int), eqc (List.replicate l.length .i) (l.map fun x => .int .i64 x) (l.map fun x => .int .i64 x) = some true
  | [] => rfl
  | x :: l => by
    show eqc (.i :: List.replicate l.length .i) (.int .i64 x :: l.map _) (.int .i64 x :: l.map _) = _
    rw [eqc_cons, eqc_int l]
    simp [eq1, oand]
theorem eqc_mkn (f : Nat → Int) : eqc (List.replicate 25 .i) (mkn f) (mkn f) = some true := by
  have := eqc_int ((List.range 25).map f)
  rw [List.map_map, List.length_map, List.length_range] at this
  exact this
theorem mkn_ext {f g : Nat → Int} (h : ∀ j, j < 25 → f j = g j) : mkn f = mkn g := by
  unfold mkn
  apply List.map_congr_left
  intro j hj
  rw [h j (List.mem_range.1 hj)]
def cntI : List Pt → Nat → Int
  | [], _ => 0
  | t :: l, j => (if t.2 * 5 + t.1 = (j : Int) then 1 else 0) + cntI l j
theorem cntI_app (l m : List Pt) (j : Nat) : cntI (l ++ m) j = cntI l j + cntI m j := by
  induction l with
  | nil => simp [cntI]
  | cons x l ih => simp only [List.cons_append, cntI, ih]; omega
theorem cntI_b (l : List Pt) (j : Nat) : 0 ≤ cntI l j ∧ cntI l j ≤ l.length := by
  induction l with
  | nil => simp [cntI]
  | cons x l ih => simp only [cntI, List.length_cons]; split <;> omega
theorem cnt_row (y : Int) (j : Nat) : ∀ (n : Nat) (x0 : Int), cntI (rowT y x0 n) j = if y * 5 + x0 ≤ (j : Int) ∧ (j : Int) < y * 5 + x0 + n then 1 else 0
  | 0, x0 => by rw [if_neg (by omega)]; rfl
  | n + 1, x0 => by
    simp only [rowT, cntI, cnt_row y j n (x0 + 1)]
    split <;> split <;> split <;> omega
theorem cnt_rows (x0 : Int) (nx : Nat) (h0 : 0 ≤ x0) (h1 : x0 + nx ≤ 5) (j : Nat) : ∀ (n : Nat) (y : Int), cntI (rowsT x0 nx y n) j = if y ≤ (j : Int) / 5 ∧ (j : Int) / 5 < y + n ∧ x0 ≤ (j : Int) % 5 ∧ (j : Int) % 5 < x0 + nx then 1 else 0
  | 0, y => by rw [if_neg (by omega)]; rfl
  | n + 1, y => by
    simp only [rowsT, cntI_app, cnt_row, cnt_rows x0 nx h0 h1 j n (y + 1)]
    split <;> split <;> split <;> omega
def mkP (B : B4) (W Y X : Int) (j : Nat) : Prop := ∃ x y : Int, 0 ≤ x ∧ 0 ≤ y ∧ (y < Y ∧ x < W ∨ y = Y ∧ x < X) ∧ has B x y = true ∧ (j : Int) = y / 8 * 5 + x / 8
open Classical in
noncomputable def mkf (B : B4) (W Y X : Int) (j : Nat) : Int := if mkP B W Y X j then 1 else 0
theorem mkf_ext {B : B4} {W Y X Y' X' : Int} {j : Nat} (h : mkP B W Y X j ↔ mkP B W Y' X' j) : mkf B W Y X j = mkf B W Y' X' j := by
  unfold mkf
  by_cases k : mkP B W Y X j
  · rw [if_pos k, if_pos (h.1 k)]
  · rw [if_neg k, if_neg (fun e => k (h.2 e))]
theorem mkf_yes {B : B4} {W Y X : Int} {j : Nat} (h : mkP B W Y X j) : mkf B W Y X j = 1 := by unfold mkf; rw [if_pos h]
theorem mkf_no {B : B4} {W Y X : Int} {j : Nat} (h : ¬ mkP B W Y X j) : mkf B W Y X j = 0 := by unfold mkf; rw [if_neg h]
theorem mkf_start (B : B4) (W : Int) (j : Nat) : mkf B W 0 0 j = 0 := mkf_no fun ⟨x, y, h1, h2, h3, _⟩ => by omega
theorem mkf_row (B : B4) (W Y : Int) (j : Nat) : mkf B W (Y + 1) 0 j = mkf B W Y W j := mkf_ext ⟨fun ⟨x, y, h1, h2, h3, h4⟩ => ⟨x, y, h1, h2, by omega, h4⟩, fun ⟨x, y, h1, h2, h3, h4⟩ => ⟨x, y, h1, h2, by omega, h4⟩⟩
theorem mkf_no1 {B : B4} {W Y X : Int} (h : has B X Y = false) (j : Nat) : mkf B W Y (X + 1) j = mkf B W Y X j := mkf_ext ⟨fun ⟨x, y, h1, h2, h3, h4, h5⟩ => ⟨x, y, h1, h2, by
    by_cases e : y = Y ∧ x = X
    · rw [e.1, e.2, h] at h4; exact absurd h4 (by decide)
    · omega, h4, h5⟩, fun ⟨x, y, h1, h2, h3, h4⟩ => ⟨x, y, h1, h2, by omega, h4⟩⟩
theorem mkf_yes1 {B : B4} {W Y X : Int} (hx : 0 ≤ X) (hy : 0 ≤ Y) (h : has B X Y = true) (j : Nat) : mkf B W Y (X + 1) j = if j = (Y / 8 * 5 + X / 8).toNat then 1 else mkf B W Y X j := by
  by_cases e : j = (Y / 8 * 5 + X / 8).toNat
  · rw [if_pos e]; exact mkf_yes ⟨X, Y, hx, hy, by omega, h, by omega⟩
  · rw [if_neg e]
    exact mkf_ext ⟨fun ⟨x, y, h1, h2, h3, h4, h5⟩ => ⟨x, y, h1, h2, by
      by_cases e' : y = Y ∧ x = X
      · rw [e'.1, e'.2] at h5; omega
      · omega, h4, h5⟩, fun ⟨x, y, h1, h2, h3, h4⟩ => ⟨x, y, h1, h2, by omega, h4⟩⟩
theorem mx_c (a b : Int) : mx a b = a ∨ mx a b = b := by unfold mx; split <;> simp
theorem mn_c (a b : Int) : mn a b = a ∨ mn a b = b := by unfold mn; split <;> simp
theorem has_in (B : B4) (W V x y : Int) : (has B x y = true ∧ 0 ≤ x ∧ x < W ∧ 0 ≤ y ∧ y < V) ↔ ((meet0 B ⟨0, 0, W, V⟩).x0 ≤ x ∧ x < (meet0 B ⟨0, 0, W, V⟩).x1 ∧ (meet0 B ⟨0, 0, W, V⟩).y0 ≤ y ∧ y < (meet0 B ⟨0, 0, W, V⟩).y1) := by
  simp only [has, meet0, Bool.and_eq_true, decide_eq_true_eq]
  have := mx_c B.x0 0
  have := mx_c B.y0 0
  have := mn_c B.x1 W
  have := mn_c B.y1 V
  have := mx_le B.x0 0
  have := mx_le B.y0 0
  have := mn_le B.x1 W
  have := mn_le B.y1 V
  omega
theorem tile_law (B : B4) (W V : Int) (hW : 1 ≤ W ∧ W ≤ 40) (hV : 1 ≤ V ∧ V ≤ 40) (j : Nat) : cntI (tilesOf B W V) j = mkf B W V 0 j := by
  have hs : scr W V = true := by simp only [scr, Bool.and_eq_true, decide_eq_true_eq]; omega
  have hi := has_in B W V
  have hm0 := fun h => meet_in (w := W) (h := V) B hs h
  cases he : emp (meet0 B ⟨0, 0, W, V⟩) with
  | true =>
    have e1 : meet B ⟨0, 0, W, V⟩ = zero4 := by unfold meet; rw [if_pos he]
    have e2 : tilesOf B W V = [] := by unfold tilesOf; rw [if_pos hs]; simp only [e1, show emp zero4 = true from rfl, if_true]
    rw [e2]
    refine (mkf_no ?_).symm
    rintro ⟨x, y, h1, h2, h3, h4, h5⟩
    have := (hi x y).1 ⟨h4, h1, by omega, h2, by omega⟩
    simp only [emp, Bool.or_eq_true, decide_eq_true_eq] at he
    omega
  | false =>
    have e1 : meet B ⟨0, 0, W, V⟩ = meet0 B ⟨0, 0, W, V⟩ := by unfold meet; rw [if_neg (by rw [he]; decide)]
    rw [e1] at hm0
    have q := hm0 he
    have e2 : tilesOf B W V = rowsT ((meet0 B ⟨0, 0, W, V⟩).x0 / 8) (((meet0 B ⟨0, 0, W, V⟩).x1 - 1) / 8 + 1 - (meet0 B ⟨0, 0, W, V⟩).x0 / 8).toNat ((meet0 B ⟨0, 0, W, V⟩).y0 / 8) (((meet0 B ⟨0, 0, W, V⟩).y1 - 1) / 8 + 1 - (meet0 B ⟨0, 0, W, V⟩).y0 / 8).toNat := by unfold tilesOf; rw [if_pos hs]; simp only [e1, he, Bool.false_eq_true, if_false]
    rw [e2]
    generalize meet0 B ⟨0, 0, W, V⟩ = M at *
    rw [cnt_rows _ _ (by omega) (by omega)]
    by_cases hj : M.y0 / 8 ≤ (j : Int) / 5 ∧ (j : Int) / 5 ≤ (M.y1 - 1) / 8 ∧ M.x0 / 8 ≤ (j : Int) % 5 ∧ (j : Int) % 5 ≤ (M.x1 - 1) / 8
    · rw [if_pos (by omega)]
      have hk : ∀ a b r : Int, a / 8 ≤ r → r ≤ (b - 1) / 8 → a < b → ∃ x, a ≤ x ∧ x < b ∧ x / 8 = r := fun a b r h1 h2 h3 => by
        by_cases h : 8 * r ≤ a
        · exact ⟨a, by omega, by omega, by omega⟩
        · exact ⟨8 * r, by omega, by omega, by omega⟩
      obtain ⟨x, x1, x2, x3⟩ := hk _ _ _ hj.2.2.1 hj.2.2.2 (by omega)
      obtain ⟨y, y1, y2, y3⟩ := hk _ _ _ hj.1 hj.2.1 (by omega)
      have := (hi x y).2 ⟨x1, x2, y1, y2⟩
      exact (mkf_yes ⟨x, y, this.2.1, this.2.2.2.1, by omega, this.1, by omega⟩).symm
    · rw [if_neg (by omega)]
      refine (mkf_no ?_).symm
      rintro ⟨x, y, h1, h2, h3, h4, h5⟩
      have := (hi x y).1 ⟨h4, h1, by omega, h2, by omega⟩
      omega
theorem and_6 (x : Int) : bits .and .i64 x 63 = x % 64 := and_i64 x 6 (by decide)
theorem tiles_in (B : B4) (W V : Int) (hW : 1 ≤ W ∧ W ≤ 40) (hV : 1 ≤ V ∧ V ≤ 40) : ∀ p ∈ tilesOf B W V, (0 ≤ p.1 ∧ p.1 ≤ 4) ∧ 0 ≤ p.2 ∧ p.2 ≤ 4 := by
  have hr : ∀ (y x0 : Int) (n : Nat), ∀ p ∈ rowT y x0 n, p.2 = y ∧ x0 ≤ p.1 ∧ p.1 < x0 + n := by
    intro y x0 n
    induction n generalizing x0 with
    | zero => intro p hp; simp [rowT] at hp
    | succ n ih =>
      intro p hp
      simp only [rowT, List.mem_cons] at hp
      rcases hp with rfl | hp
      · exact ⟨rfl, by show x0 ≤ x0; omega, by show x0 < _; omega⟩
      · have := ih (x0 + 1) p hp; omega
  have hrs : ∀ (x0 : Int) (nx n : Nat) (y : Int), ∀ p ∈ rowsT x0 nx y n, (x0 ≤ p.1 ∧ p.1 < x0 + nx) ∧ y ≤ p.2 ∧ p.2 < y + n := by
    intro x0 nx n
    induction n with
    | zero => intro y p hp; simp [rowsT] at hp
    | succ n ih =>
      intro y p hp
      simp only [rowsT, List.mem_append] at hp
      rcases hp with hp | hp
      · have := hr _ _ _ p hp; omega
      · have := ih (y + 1) p hp; omega
  intro p hp
  unfold tilesOf at hp
  have hs : scr W V = true := by simp only [scr, Bool.and_eq_true, decide_eq_true_eq]; omega
  rw [if_pos hs] at hp
  cases he : emp (meet B ⟨0, 0, W, V⟩) with
  | true => simp only [he, if_true] at hp; simp at hp
  | false =>
    simp only [he, Bool.false_eq_true, if_false] at hp
    have q := meet_in B hs he
    generalize meet B ⟨0, 0, W, V⟩ = M at *
    have := hrs _ _ _ _ p hp
    omega
theorem tiles_len (B : B4) (W V : Int) : (tilesOf B W V).length ≤ 1024 := by
  unfold tilesOf
  cases hs : scr W V with
  | false => simp
  | true =>
    cases he : emp (meet B ⟨0, 0, W, V⟩) with
    | true => simp [he]
    | false =>
      have q := meet_in B hs he
      have w := scr_b hs
      simp only [if_true, he, Bool.false_eq_true, if_false]
      generalize meet B ⟨0, 0, W, V⟩ = M at *
      rw [rowsT_len]
      exact Nat.le_trans (Nat.mul_le_mul (show ((M.y1 - 1) / 8 + 1 - M.y0 / 8).toNat ≤ 32 by omega) (show ((M.x1 - 1) / 8 + 1 - M.x0 / 8).toNat ≤ 32 by omega)) (by decide)
end Go.Proofs.Ytnebnbdeobcegaa
/- Chapter 8: the walk of the plain form of straight lines. -/
namespace Go.Proofs.Ytnebnbdeobcegaa
open Go Go.RowKit E
attribute [local irreducible] XRun XOps XCode XCal XLoop XQ SemCall
set_option linter.unusedSimpArgs false
set_option linter.unusedVariables false
end Go.Proofs.Ytnebnbdeobcegaa
/- Chapter 8: the walks of what compares points and rows of points. -/
namespace Go.Proofs.Ytnebnbdeobcegaa
open Go Go.RowKit E
/-- A call that only adds blocks. -/
theorem adds_of {P : Program} {f : FuncId} {args : List Value} {H : AH} {Q : Value → AH → Prop} (h : @XCal P f args H ⟨fun v H1 W => W = [] ∧ Q v H1⟩) :
    Cal P f args H fun v H' W => W = [] ∧ (∃ L, H' = H ++ L) ∧ Q v H' := by
  unfold XCal at h
  obtain ⟨v, H1, W1, h1, rfl, hq⟩ := h
  refine ⟨v, H1, [], h1, rfl, ⟨H1.drop H.length, ?_⟩, hq⟩
  apply List.ext_getElem?
  intro i
  by_cases hi : i < H.length
  · rw [List.getElem?_append_left hi]; exact h1.1.2.2 i hi (by simp)
  · rw [List.getElem?_append_right (by omega), List.getElem?_drop]; congr 1; omega
attribute [local irreducible] XRun XOps XCode XCal XLoop XQ SemCall
set_option linter.unusedSimpArgs false
set_option linter.unusedVariables false
theorem rpoints_ (l : List Pt) (pv pv' : Value) (H : AH) (h : Pts H pv l) (h' : Pts H pv' l) : SemCall Try.prog 50 [pv, pv'] H (.bool true) H [] := by
  have hlen := h.len
  refine pure_of ?_ rfl
  by_cases hn : l = []
  · obtain ⟨a, e, rfl⟩ := h.form
    obtain ⟨a', e', rfl⟩ := h'.form
    subst hn
    refine XCal.of hm Try.func50 rfl (fun xs w => Try.call50 xs w) Try.ntmps50 Try.results50 rfl ?_
    simp only [go_sem, Nat.reduceEqDiff, Nat.reduceAdd, Nat.reduceSub, Nat.reduceMul, Nat.reduceLT, Nat.reduceLeDiff, Int.reducePow, Int.reduceBEq, Int.reduceBNe, Int.reduceDiv, Int.reduceMod, Int.reduceEq, Int.reduceLT, Int.reduceLE, Int.reduceAdd, Int.reduceSub, Int.reduceMul, Int.reduceNeg, Int.reduceToNat, Int.reduceTDiv, Int.reduceTMod, ↓reduceIte, List.length_nil, show ((0 : Nat) : Int) = 0 from rfl]
    refine rounds 1 ?_
    simp only [go_sem, Nat.reduceEqDiff, Nat.reduceAdd, Nat.reduceSub, Nat.reduceMul, Nat.reduceLT, Nat.reduceLeDiff, Int.reducePow, Int.reduceBEq, Int.reduceBNe, Int.reduceDiv, Int.reduceMod, Int.reduceEq, Int.reduceLT, Int.reduceLE, Int.reduceAdd, Int.reduceSub, Int.reduceMul, Int.reduceNeg, Int.reduceToNat, Int.reduceTDiv, Int.reduceTMod, ↓reduceIte, List.length_nil, show ((0 : Nat) : Int) = 0 from rfl]
  · obtain ⟨b, g, rest, rw_, rfl, hb, _⟩ := h.ne hn
    obtain ⟨b', g', rest', rw', rfl, hb', _⟩ := h'.ne hn
    refine XCal.of hm Try.func50 rfl (fun xs w => Try.call50 xs w) Try.ntmps50 Try.results50 rfl ?_
    (refine sg (nt (show ((l.length : Nat) : Int) = (l.length : Nat) from rfl)) ?_; try exact ⟨⟩)
    refine keep (fun k T H' D => D = [] ∧ H' = H ∧ ∃ (i : Nat), i + k = l.length ∧ T 0 = sl b 0 g l.length 2 ∧ T 1 = sl b' 0 g' l.length 2 ∧ T 5 = .int .i64 (i : Int)) l.length
      ⟨rfl, rfl, 0, by omega, rfl, rfl, rfl⟩ ?_
    rintro k T H' D ⟨rfl, rfl, i, hik, h0, h1, h5⟩
    by_cases hk : i < l.length
    · obtain ⟨p, hp, _⟩ := getD_some hk
      have ld := fun (c : Nat) => ald_pt (b := c) (g := g) (rw_ := rw_) rest hp
      have ld' := fun (c : Nat) => ald_pt (b := c) (g := g') (rw_ := rw') rest' hp
      (refine sg (et h0 (et h1 (et h5 (dt (show (i : Int) < (l.length : Int) by omega))))) ?_; try exact ⟨⟩)
      repeat ((first | refine drawnF ?_ (by decide +kernel)); simp only [go_sem, Nat.reduceEqDiff, Nat.reduceAdd, Nat.reduceSub, Nat.reduceMul, Nat.reduceLT, Nat.reduceLeDiff, Int.reducePow, Int.reduceBEq, Int.reduceBNe, Int.reduceDiv, Int.reduceMod, Int.reduceEq, Int.reduceLT, Int.reduceLE, Int.reduceAdd, Int.reduceSub, Int.reduceMul, Int.reduceNeg, Int.reduceToNat, Int.reduceTDiv, Int.reduceTMod, ↓reduceIte, h0, h1, h5, show (0 : Int) ≤ (i : Int) by omega, show (i : Int) < (l.length : Int) by omega, Int.toNat_natCast, Nat.zero_add, hb, hb', ld, ld', ptv, beq_self_eq_true, bne_self_eq_false])
      exact ⟨k - 1, by omega, i + 1, by omega, by rw [wi (by omega) (by omega)]; rfl⟩
    · simp only [go_sem, Nat.reduceEqDiff, Nat.reduceAdd, Nat.reduceSub, Nat.reduceMul, Nat.reduceLT, Nat.reduceLeDiff, Int.reducePow, Int.reduceBEq, Int.reduceBNe, Int.reduceDiv, Int.reduceMod, Int.reduceEq, Int.reduceLT, Int.reduceLE, Int.reduceAdd, Int.reduceSub, Int.reduceMul, Int.reduceNeg, Int.reduceToNat, Int.reduceTDiv, Int.reduceTMod, ↓reduceIte, h0, h1, h5, df (show ¬ (i : Int) < (l.length : Int) by omega)]
end Go.Proofs.Ytnebnbdeobcegaa
/- Chapter 8: rows of points and of polys that are being made; the walks of maps. -/
namespace Go.Proofs.Ytnebnbdeobcegaa
open Go Go.RowKit E
theorem of_x {P : Program} {f : FuncId} {args : List Value} {H : AH} {Q : Value → AH → List Nat → Prop} (h : @XCal P f args H ⟨Q⟩) : Cal P f args H Q := h
attribute [local irreducible] XRun XOps XCode XCal XLoop XQ SemCall
set_option linter.unusedSimpArgs false
set_option linter.unusedVariables false
/-- What was, is. -/
def Old (H K : AH) : Prop := ∀ (c : Nat) (k : Blk), H[c]? = some k → K[c]? = some k
theorem Old.refl (H : AH) : Old H H := fun _ _ h => h
theorem Old.app {H K : AH} (h : Old H K) (L : AH) : Old H (K ++ L) := fun c k e => old_get (h c k e) L
theorem Old.app' (H L : AH) : Old H (H ++ L) := fun c k e => old_get e L
theorem Old.set {H K : AH} (h : Old H K) {b : Nat} (hb : H.length ≤ b) (x : Blk) (L : AH) : Old H (K.set b x ++ L) := fun c k e => by
  have hc := (List.getElem?_eq_some_iff.1 e).1
  refine old_get ?_ L
  rw [List.getElem?_set_ne (by omega)]; exact h c k e
theorem Old.trans {H K J : AH} (h : Old H K) (h' : Old K J) : Old H J := fun c k e => h' c k (h c k e)
theorem Pts.old {H K : AH} {pv : Value} {l : List Pt} (h : Pts H pv l) (o : Old H K) : Pts K pv l := by
  rcases h with h | ⟨b, g, rest, rw_, h1, h2, h3⟩
  · exact .inl h
  · exact .inr ⟨b, g, rest, rw_, h1, o _ _ h2, h3⟩
theorem Polys.old {H K : AH} {v : Value} {ps : List PL} (h : Polys H v ps) (o : Old H K) : Polys K v ps := by
  rcases h with h | ⟨b, g, rest, rw_, vs, h1, h2, h3, h4, h5⟩
  · exact .inl h
  · exact .inr ⟨b, g, rest, rw_, vs, h1, o _ _ h2, h3, h4, fun i x hx => by obtain ⟨pv, e1, e2⟩ := h5 i x hx; exact ⟨pv, e1, e2.old o⟩⟩
/-- Points that lie in a new block, apart from one block. -/
def PtsF (n0 bad : Nat) (K : AH) (pv : Value) (l : List Pt) : Prop :=
  (l = [] ∧ pv = .slice none 0 0) ∨ ∃ b g rest rw_, n0 ≤ b ∧ b ≠ bad ∧ pv = sl b 0 g l.length 2 ∧ K[b]? = some ⟨ptC l ++ rest, g, rw_⟩ ∧ l.length ≤ 9223372036854775807
theorem PtsF.pts {n0 bad : Nat} {K : AH} {pv : Value} {l : List Pt} (h : PtsF n0 bad K pv l) : Pts K pv l := by
  rcases h with ⟨h1, h2⟩ | ⟨b, g, rest, rw_, _, _, h1, h2, h3⟩
  · exact .inl ⟨h1, .inr h2⟩
  · exact .inr ⟨b, g, rest, rw_, h1, h2, h3⟩
theorem PtsF.app {n0 bad : Nat} {K : AH} {pv : Value} {l : List Pt} (h : PtsF n0 bad K pv l) (L : AH) : PtsF n0 bad (K ++ L) pv l := by
  rcases h with h | ⟨b, g, rest, rw_, h0, h0', h1, h2, h3⟩
  · exact .inl h
  · exact .inr ⟨b, g, rest, rw_, h0, h0', h1, old_get h2 L, h3⟩
theorem PtsF.set {n0 bad : Nat} {K : AH} {pv : Value} {l : List Pt} (h : PtsF n0 bad K pv l) (x : Blk) : PtsF n0 bad (K.set bad x) pv l := by
  rcases h with h | ⟨b, g, rest, rw_, h0, h0', h1, h2, h3⟩
  · exact .inl h
  · exact .inr ⟨b, g, rest, rw_, h0, h0', h1, by rw [List.getElem?_set_ne (fun e => h0' e.symm)]; exact h2, h3⟩
theorem PtsF.weak {n0 n1 bad bad' : Nat} {K : AH} {pv : Value} {l : List Pt} (h : PtsF n0 bad K pv l) (h1 : n1 ≤ n0) (h2 : bad' < n0) : PtsF n1 bad' K pv l := by
  rcases h with h | ⟨b, g, rest, rw_, h0, h0', h⟩
  · exact .inl h
  · exact .inr ⟨b, g, rest, rw_, by omega, by omega, h⟩
theorem PtsF.bad {n0 bad : Nat} {K : AH} {pv : Value} {l : List Pt} (h : PtsF n0 bad K pv l) {b' : Nat} (h' : K.length ≤ b') : PtsF n0 b' K pv l := by
  rcases h with h | ⟨b, g, rest, rw_, h0, h0', h1, h2, h3⟩
  · exact .inl h
  · exact .inr ⟨b, g, rest, rw_, h0, by have := (List.getElem?_eq_some_iff.1 h2).1; omega, h1, h2, h3⟩
/-- A row of polys that is being made. -/
def OutN (n0 : Nat) (K : AH) (b : Nat) (vs : List (Bool × Value)) (qs : List PL) : Prop :=
  vs.length = qs.length ∧ ∀ (i : Nat) x, qs[i]? = some x → ∃ pv, vs[i]? = some (x.1, pv) ∧ PtsF n0 b K pv x.2
def OutP (n0 : Nat) (K : AH) (v : Value) (qs : List PL) : Prop :=
  (qs = [] ∧ v = .slice none 0 0) ∨ ∃ b g vs, n0 ≤ b ∧ v = sl b 0 g qs.length 2 ∧ K[b]? = some ⟨plC vs, g, true⟩ ∧ OutN n0 K b vs qs
theorem OutP.polys {n0 : Nat} {K : AH} {v : Value} {qs : List PL} (h : OutP n0 K v qs) (hl : qs.length ≤ 9223372036854775807) : Polys K v qs := by
  rcases h with ⟨h1, h2⟩ | ⟨b, g, vs, h0, h1, h2, h3, h4⟩
  · exact .inl ⟨h1, .inr h2⟩
  · exact .inr ⟨b, g, [], true, vs, h1, by rw [List.append_nil]; exact h2, h3, hl, fun i x hx => by obtain ⟨pv, e1, e2⟩ := h4 i x hx; exact ⟨pv, e1, e2.pts⟩⟩
theorem OutP.app {n0 : Nat} {K : AH} {v : Value} {qs : List PL} (h : OutP n0 K v qs) (L : AH) : OutP n0 (K ++ L) v qs := by
  rcases h with h | ⟨b, g, vs, h0, h1, h2, h3, h4⟩
  · exact .inl h
  · exact .inr ⟨b, g, vs, h0, h1, old_get h2 L, h3, fun i x hx => by obtain ⟨pv, e1, e2⟩ := h4 i x hx; exact ⟨pv, e1, e2.app L⟩⟩
theorem OutN.push {n0 : Nat} {K : AH} {b : Nat} {vs ws : List (Bool × Value)} {qs rs : List PL} (h : OutN n0 K b vs qs) (h' : OutN n0 K b ws rs) : OutN n0 K b (vs ++ ws) (qs ++ rs) := by
  refine ⟨by rw [List.length_append, List.length_append, h.1, h'.1], fun i x hx => ?_⟩
  by_cases hi : i < qs.length
  · rw [List.getElem?_append_left hi] at hx
    rw [List.getElem?_append_left (by rw [h.1]; exact hi)]
    exact h.2 i x hx
  · rw [List.getElem?_append_right (by omega)] at hx
    rw [List.getElem?_append_right (by rw [h.1]; omega), h.1]
    exact h'.2 _ x hx
theorem OutN.mono {n0 n1 : Nat} {K J : AH} {b b' : Nat} {vs : List (Bool × Value)} {qs : List PL} (h : OutN n0 K b vs qs) (m : ∀ pv l, PtsF n0 b K pv l → PtsF n1 b' J pv l) : OutN n1 J b' vs qs :=
  ⟨h.1, fun i x hx => by obtain ⟨pv, e1, e2⟩ := h.2 i x hx; exact ⟨pv, e1, m _ _ e2⟩⟩
theorem OutN.one {n0 : Nat} {K : AH} {b : Nat} {c : Bool} {pv : Value} {l : List Pt} (h : PtsF n0 b K pv l) : OutN n0 K b [(c, pv)] [(c, l)] :=
  ⟨rfl, fun i x hx => by
    cases i with
    | zero => simp at hx; subst hx; exact ⟨pv, rfl, h⟩
    | succ i => simp at hx⟩
theorem PtsF.old {n0 bad : Nat} {K J : AH} {pv : Value} {l : List Pt} (h : PtsF n0 bad K pv l) (o : Old K J) : PtsF n0 bad J pv l := by
  rcases h with h | ⟨b, g, rest, rw_, h0, h0', h1, h2, h3⟩
  · exact .inl h
  · exact .inr ⟨b, g, rest, rw_, h0, h0', h1, o _ _ h2, h3⟩
theorem PtsF.form {n0 bad : Nat} {K : AH} {pv : Value} {l : List Pt} (h : PtsF n0 bad K pv l) : ∃ a e, pv = .slice a l.length e := by
  rcases h with ⟨rfl, rfl⟩ | ⟨b, g, rest, rw_, _, _, rfl, _⟩
  · exact ⟨_, _, rfl⟩
  · exact ⟨_, _, rfl⟩
/-- What was, is, apart from one block. -/
def Olx (bo : Nat) (K J : AH) : Prop := ∀ (c : Nat) (k : Blk), c ≠ bo → K[c]? = some k → J[c]? = some k
theorem Olx.set1 (bo : Nat) (K M : AH) (x : Blk) : Olx bo K (K.set bo x ++ M) := fun c k hc e => old_get (by rw [List.getElem?_set_ne (fun e => hc e.symm)]; exact e) M
theorem Olx.set2 (bo : Nat) (K L M : AH) (x : Blk) (hb : bo < K.length) : Olx bo (K ++ L) (K.set bo x ++ (L ++ M)) := fun c k hc e => by
  have h := Olx.set1 bo (K ++ L) M x c k hc e
  rw [List.set_append_left _ _ hb, List.append_assoc] at h
  exact h
theorem Olx.old {bo : Nat} {K J : AH} (o : Old K J) : Olx bo K J := fun c k _ e => o c k e
theorem PtsF.olx {n0 bad : Nat} {K J : AH} {pv : Value} {l : List Pt} (h : PtsF n0 bad K pv l) (o : Olx bad K J) : PtsF n0 bad J pv l := by
  rcases h with h | ⟨b, g, rest, rw_, h0, h0', h1, h2, h3⟩
  · exact .inl h
  · exact .inr ⟨b, g, rest, rw_, h0, h0', h1, o _ _ h0' h2, h3⟩
theorem Old.olx {H K J : AH} {bo : Nat} (h : Old H K) (o : Olx bo K J) (hb : H.length ≤ bo) : Old H J := fun c k e => o c k (by have := (List.getElem?_eq_some_iff.1 e).1; omega) (h c k e)
/-- The first of a row that is being made. -/
theorem OutP.first {n0 n1 bad : Nat} {K1 J : AH} {c : Bool} {pv : Value} {l : List Pt} (h : PtsF n1 bad K1 pv l) (o : Old K1 J) (hn : n0 ≤ n1) {b g : Nat} (hb : J[b]? = some ⟨[.bool c, pv], g, true⟩) (hbl : K1.length ≤ b) (hnb : n0 ≤ b) : OutP n0 J (sl b 0 g 1 2) [(c, l)] := by
  refine .inr ⟨b, g, [(c, pv)], hnb, rfl, hb, OutN.one (PtsF.old ?_ o)⟩
  have := h.bad hbl
  rcases this with h | ⟨b, g, rest, rw_, h0, h⟩
  · exact .inl h
  · exact .inr ⟨b, g, rest, rw_, by omega, h⟩
/-- One more of a row that is being made. -/
theorem OutP.next {n0 n1 bad bo go : Nat} {K K1 J : AH} {c : Bool} {pv : Value} {l : List Pt} {vo : List (Bool × Value)} {qs : List PL} (hov : OutN n0 K bo vo qs) (hbo : n0 ≤ bo) (o : Olx bo K J) (h : PtsF n1 bad K1 pv l) (o1 : Olx bo K1 J) (hn : bo < n1) (hb : J[bo]? = some ⟨plC vo ++ [.bool c, pv], go, true⟩) : OutP n0 J (sl bo 0 go (qs.length + 1) 2) (qs ++ [(c, l)]) := by
  refine .inr ⟨bo, go, vo ++ [(c, pv)], hbo, by rw [List.length_append]; rfl, by rw [plC_app]; exact hb, (hov.mono fun _ _ p => p.olx o).push (OutN.one ?_)⟩
  exact PtsF.olx (h.weak (by omega) hn) o1
theorem small_p {n k : Nat} (h : n ≤ 1000000) (hk : k ≤ 1000000) : (n + k) * 32 - 140737488355328 = 0 ∧ n + k - 140737488355328 = 0 := ⟨Nat.sub_eq_zero_of_le (Nat.le_trans (Nat.mul_le_mul_right 32 (show n + k ≤ 2000000 by omega)) (by decide)), Nat.sub_eq_zero_of_le (Nat.le_trans (show n + k ≤ 2000000 by omega) (by decide))⟩
theorem PtsF.low {n0 n1 bad : Nat} {K : AH} {pv : Value} {l : List Pt} (h : PtsF n0 bad K pv l) (h1 : n1 ≤ n0) : PtsF n1 bad K pv l := by
  rcases h with h | ⟨b, g, rest, rw_, h0, h0', h⟩
  · exact .inl h
  · exact .inr ⟨b, g, rest, rw_, by omega, h0', h⟩
theorem OutP.low {n0 n1 : Nat} {K : AH} {v : Value} {qs : List PL} (h : OutP n0 K v qs) (h1 : n1 ≤ n0) : OutP n1 K v qs := by
  rcases h with h | ⟨b, g, vs, h0, h2, h3, h4⟩
  · exact .inl h
  · exact .inr ⟨b, g, vs, by omega, h2, h3, h4.mono fun _ _ p => p.low h1⟩
theorem Old.app2 (K A M : AH) : Old (K ++ A) (K ++ (A ++ M)) := by rw [← List.append_assoc]; exact Old.app' _ _
theorem Old.apx (K A M : AH) : Old (K ++ A) (K ++ (A ++ M)) := by rw [← List.append_assoc]; exact Old.app' _ _
theorem Olx.trans {b : Nat} {H K J : AH} (h : Olx b H K) (h' : Olx b K J) : Olx b H J := fun c k hc e => h' c k hc (h c k hc e)
theorem Olx.set0 (b : Nat) (K : AH) (x : Blk) : Olx b K (K.set b x) := fun c k hc e => by rw [List.getElem?_set_ne (fun e => hc e.symm)]; exact e
theorem Olx.refl (b : Nat) (K : AH) : Olx b K K := fun _ _ _ e => e
theorem Olx.app {b : Nat} {H K : AH} (h : Olx b H K) (L : AH) : Olx b H (K ++ L) := fun c k hc e => old_get (h c k hc e) L
theorem Olx.bo {tb bo : Nat} {H K J : AH} (h : Olx tb H K) (hb : H.length ≤ bo) (o : Olx bo K J) : Olx tb H J := fun c k hc e => o c k (by have := (List.getElem?_eq_some_iff.1 e).1; omega) (h c k hc e)
theorem old_pre {K J : AH} (h : ∃ M, J = K ++ M) : Old K J := by obtain ⟨M, rfl⟩ := h; exact Old.app' _ _
theorem last2 (A L : AH) (x : Blk) (n : Nat) (h : n = A.length + L.length) : (A ++ (L ++ [x]))[n]? = some x := by
  subst h; rw [hget_app, hget_app0]; rfl
theorem olx_pre {bo : Nat} {K K1 J : AH} {x : Blk} (hb : bo < K.length) (h : ∃ L M, K1 = K ++ L ∧ J = K.set bo x ++ (L ++ M)) : Olx bo K1 J := by
  obtain ⟨L, M, rfl, rfl⟩ := h
  exact Olx.set2 bo K L M x hb
end Go.Proofs.Ytnebnbdeobcegaa
