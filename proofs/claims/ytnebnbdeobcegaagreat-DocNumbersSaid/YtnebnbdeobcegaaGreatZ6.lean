/- Merged texts: Box1 Box2 Box3 Box4 Box5 Flat6 Flat7 Flat8. -/
import Derived.Test.YtnebnbdeobcegaaGreatZ5
/- Chapter 14: the walks of boxes. -/
namespace Go.Proofs.YtnebnbdeobcegaaGreat
open Go Go.RowKit E
attribute [local irreducible] XRun XOps XCode XCal XLoop XQ SemCall
set_option linter.unusedSimpArgs false
set_option linter.unusedVariables false
structure B4 where
  x0 : Int
  y0 : Int
  x1 : Int
  y1 : Int
deriving DecidableEq
abbrev bx (a b c d : Int) : Value := .agg [.int .i64 a, .int .i64 b, .int .i64 c, .int .i64 d].toArray
abbrev B4.val (b : B4) : Value := bx b.x0 b.y0 b.x1 b.y1
abbrev B4.I (b : B4) : Prop := I64 b.x0 ∧ I64 b.y0 ∧ I64 b.x1 ∧ I64 b.y1
def emp (b : B4) : Bool := decide (b.x1 ≤ b.x0) || decide (b.y1 ≤ b.y0)
def meet0 (a b : B4) : B4 := ⟨mx a.x0 b.x0, mx a.y0 b.y0, mn a.x1 b.x1, mn a.y1 b.y1⟩
def join0 (a b : B4) : B4 := ⟨mn a.x0 b.x0, mn a.y0 b.y0, mx a.x1 b.x1, mx a.y1 b.y1⟩
def zero4 : B4 := ⟨0, 0, 0, 0⟩
def meet (a b : B4) : B4 := if emp (meet0 a b) = true then zero4 else meet0 a b
def join (a b : B4) : B4 := if (emp a && emp b) = true then zero4 else if emp a = true then b else if emp b = true then a else join0 a b
def has (b : B4) (x y : Int) : Bool := decide (b.x0 ≤ x) && decide (x < b.x1) && decide (b.y0 ≤ y) && decide (y < b.y1)
def upS (x : Int) : Int := (x + 65535) / 65536
def scr (w h : Int) : Bool := decide (1 ≤ w) && decide (w ≤ 256) && decide (1 ≤ h) && decide (h ≤ 256)
end Go.Proofs.YtnebnbdeobcegaaGreat
/- Chapter 14: the walks of what is round all places. -/
namespace Go.Proofs.YtnebnbdeobcegaaGreat
open Go Go.RowKit E
attribute [local irreducible] XRun XOps XCode XCal XLoop XQ SemCall
set_option linter.unusedSimpArgs false
set_option linter.unusedVariables false
abbrev PL := Bool × List Pt
def plC (l : List (Bool × Value)) : List Value := l.flatMap fun p => [.bool p.1, p.2]
theorem plC_app (l m : List (Bool × Value)) : plC (l ++ m) = plC l ++ plC m := by simp [plC]
/-- Rows of points, as they may lie. -/
def Polys (H : AH) (v : Value) (ps : List PL) : Prop :=
  (ps = [] ∧ ((∃ e, v = .slice (some ⟨0, 0, none⟩) 0 e) ∨ v = .slice none 0 0)) ∨
  ∃ b g rest rw_ vs, v = sl b 0 g ps.length 2 ∧ H[b]? = some ⟨plC vs ++ rest, g, rw_⟩ ∧ vs.length = ps.length ∧ ps.length ≤ 9223372036854775807 ∧ ∀ (i : Nat) x, ps[i]? = some x → ∃ pv, vs[i]? = some (x.1, pv) ∧ Pts H pv x.2
theorem Polys.app {H : AH} {v : Value} {ps : List PL} (h : Polys H v ps) (L : AH) : Polys (H ++ L) v ps := by
  rcases h with h | ⟨b, g, rest, rw_, vs, h1, h2, h3, h4, h5⟩
  · exact .inl h
  · exact .inr ⟨b, g, rest, rw_, vs, h1, old_get h2 L, h3, h4, fun i x hx => by obtain ⟨pv, e1, e2⟩ := h5 i x hx; exact ⟨pv, e1, e2.app L⟩⟩
theorem Polys.form {H : AH} {v : Value} {ps : List PL} (h : Polys H v ps) : ∃ a e, v = .slice a ps.length e := by
  rcases h with ⟨rfl, ⟨e, rfl⟩ | rfl⟩ | ⟨b, g, rest, rw_, vs, rfl, _⟩
  · exact ⟨_, _, rfl⟩
  · exact ⟨_, _, rfl⟩
  · exact ⟨_, _, rfl⟩
theorem Polys.ne {H : AH} {v : Value} {ps : List PL} (h : Polys H v ps) (hn : ¬ ps = []) : ∃ b g rest rw_ vs, v = sl b 0 g ps.length 2 ∧ H[b]? = some ⟨plC vs ++ rest, g, rw_⟩ ∧ vs.length = ps.length ∧ ps.length ≤ 9223372036854775807 ∧ ∀ (i : Nat) x, ps[i]? = some x → ∃ pv, vs[i]? = some (x.1, pv) ∧ Pts H pv x.2 := h.resolve_left fun h => hn h.1
def pbx (p : Pt) : B4 := ⟨p.1 / 65536, p.2 / 65536, upS p.1, upS p.2⟩
def stepB (s : Bool × B4) (p : Pt) : Bool × B4 := (false, join0 (if s.1 = true then pbx p else s.2) (pbx p))
def foldP (s : Bool × B4) (x : PL) : Bool × B4 := x.2.foldl stepB s
def boxOf (ps : List PL) : B4 := (ps.foldl foldP (true, zero4)).2
abbrev b4C (b : B4) : List Value := [.int .i64 b.x0, .int .i64 b.y0, .int .i64 b.x1, .int .i64 b.y1]
theorem getD_some {α : Type} {l : List α} {i : Nat} (h : i < l.length) : ∃ x, l[i]? = some x ∧ l.drop i = x :: l.drop (i + 1) := ⟨l[i], List.getElem?_eq_getElem h, drop_cons h⟩
end Go.Proofs.YtnebnbdeobcegaaGreat
/- Chapter 14: the walk of the document's own box round all places. -/
namespace Go.Proofs.YtnebnbdeobcegaaGreat
open Go Go.RowKit E
attribute [local irreducible] XRun XOps XCode XCal XLoop XQ SemCall
set_option linter.unusedSimpArgs false
set_option linter.unusedVariables false
def tl2 (l : List (Int × Int)) : List Value := ptC l
/-- The tiles of rows: from x0 to x1 in each row from y0 to y1. -/
def rowT (y : Int) (x0 : Int) : Nat → List (Int × Int)
  | 0 => []
  | n + 1 => (x0, y) :: rowT y (x0 + 1) n
def rowsT (x0 : Int) (nx : Nat) (y0 : Int) : Nat → List (Int × Int)
  | 0 => []
  | n + 1 => rowT y0 x0 nx ++ rowsT x0 nx (y0 + 1) n
def tilesOf (b : B4) (w h : Int) : List (Int × Int) :=
  if scr w h = true then
    let m := meet b ⟨0, 0, w, h⟩
    if emp m = true then [] else rowsT (m.x0 / 8) ((m.x1 - 1) / 8 + 1 - m.x0 / 8).toNat (m.y0 / 8) ((m.y1 - 1) / 8 + 1 - m.y0 / 8).toNat
  else []
end Go.Proofs.YtnebnbdeobcegaaGreat
/- Chapter 14: the walk of tiles. -/
namespace Go.Proofs.YtnebnbdeobcegaaGreat
open Go Go.RowKit E
attribute [local irreducible] XRun XOps XCode XCal XLoop XQ SemCall
set_option linter.unusedSimpArgs false
set_option linter.unusedVariables false
def TB (H : AH) (M : B4) (o : List (Int × Int)) (v : Value) (H' : AH) : Prop :=
  (o = [] ∧ v = .slice none 0 0 ∧ H' = H ++ [⟨b4C M, 0, true⟩]) ∨ ∃ g X G, v = sl (H.length + 2) 0 g o.length 2 ∧ H' = H ++ (⟨b4C M, 0, true⟩ :: X :: ⟨ptC o, g, true⟩ :: G)
theorem TB.m {H : AH} {M : B4} {o : List (Int × Int)} {v : Value} {H' : AH} (h : TB H M o v H') : H'[H.length]? = some ⟨b4C M, 0, true⟩ := by
  rcases h with ⟨_, _, e⟩ | ⟨g, X, G, _, e⟩ <;> rw [e, hget_app0] <;> rfl
end Go.Proofs.YtnebnbdeobcegaaGreat
/- Chapter 14: the walk of the law on tiles. -/
namespace Go.Proofs.YtnebnbdeobcegaaGreat
open Go Go.RowKit E
attribute [local irreducible] XRun XOps XCode XCal XLoop XQ SemCall
set_option linter.unusedSimpArgs false
set_option linter.unusedVariables false
def mkn (f : Nat → Int) : List Value := (List.range 25).map fun j => .int .i64 (f j)
def cntI : List Pt → Nat → Int
  | [], _ => 0
  | t :: l, j => (if t.2 * 5 + t.1 = (j : Int) then 1 else 0) + cntI l j
def mkP (B : B4) (W Y X : Int) (j : Nat) : Prop := ∃ x y : Int, 0 ≤ x ∧ 0 ≤ y ∧ (y < Y ∧ x < W ∨ y = Y ∧ x < X) ∧ has B x y = true ∧ (j : Int) = y / 8 * 5 + x / 8
open Classical in
noncomputable def mkf (B : B4) (W Y X : Int) (j : Nat) : Int := if mkP B W Y X j then 1 else 0
end Go.Proofs.YtnebnbdeobcegaaGreat
/- Chapter 8: the walk of the plain form of straight lines. -/
namespace Go.Proofs.YtnebnbdeobcegaaGreat
open Go Go.RowKit E
attribute [local irreducible] XRun XOps XCode XCal XLoop XQ SemCall
set_option linter.unusedSimpArgs false
set_option linter.unusedVariables false
theorem rright_ (c : Bool) (l : List Pt) (pv : Value) (H : AH) (h : Pts H pv l) : SemCall Tryz.prog 57 [.agg [.bool c, pv].toArray] H (.bool (rightB c l)) H [] := by
  have hlen := h.len
  refine pure_of ?_ rfl
  unfold rightB
  by_cases hn : l = []
  · obtain ⟨a, e, rfl⟩ := h.form
    subst hn
    refine XCal.of hm Tryz.func57 rfl (fun xs w => Tryz.call57 xs w) Tryz.ntmps57 Tryz.results57 rfl ?_
    simp only [go_sem, Nat.reduceEqDiff, Nat.reduceAdd, Nat.reduceSub, Nat.reduceMul, Nat.reduceLT, Nat.reduceLeDiff, Int.reducePow, Int.reduceBEq, Int.reduceBNe, Int.reduceDiv, Int.reduceMod, Int.reduceEq, Int.reduceLT, Int.reduceLE, Int.reduceAdd, Int.reduceSub, Int.reduceMul, Int.reduceNeg, Int.reduceToNat, Int.reduceTDiv, Int.reduceTMod, ↓reduceIte, List.length_nil, show ((0 : Nat) : Int) = 0 from rfl]
  · have hn0 : ¬ l.length = 0 := fun e => hn (List.eq_nil_of_length_eq_zero e)
    obtain ⟨b, g, rest, rw_, rfl, hb, _⟩ := h.ne hn
    rw [if_neg hn0]
    refine XCal.of hm Tryz.func57 rfl (fun xs w => Tryz.call57 xs w) Tryz.ntmps57 Tryz.results57 rfl ?_
    (refine sg (bf (show ¬ ((l.length : Nat) : Int) = 0 by omega)) ?_; try exact ⟨⟩)
    refine keep (fun k T H' D => D = [] ∧ ∃ (i : Nat) (G : AH), i + k = l.length ∧ (l.drop i).all nrp = l.all nrp ∧ H' = H ++ (⟨[.bool c, sl b 0 g l.length 2], 0, true⟩ :: G) ∧ T 1 = ap H.length 0 0 ∧ T 3 = .int .i64 (l.length : Int) ∧ T 4 = .int .i64 (i : Int)) l.length
      ⟨rfl, 0, [], by omega, rfl, rfl, rfl, rfl, rfl⟩ ?_
    rintro k T H' D ⟨rfl, i, G, hik, hx, rfl, h1, h3, h4⟩
    by_cases hk : i < l.length
    · obtain ⟨p, hp, hdr⟩ := getD_some hk
      have ld := fun (b : Nat) => ald_pt (b := b) (g := g) (rw_ := rw_) rest hp
      rw [hdr, List.all_cons] at hx
      simp only [go_sem, Nat.reduceEqDiff, Nat.reduceAdd, Nat.reduceSub, Nat.reduceMul, Nat.reduceLT, Nat.reduceLeDiff, Int.reducePow, Int.reduceBEq, Int.reduceBNe, Int.reduceDiv, Int.reduceMod, Int.reduceEq, Int.reduceLT, Int.reduceLE, Int.reduceAdd, Int.reduceSub, Int.reduceMul, Int.reduceNeg, Int.reduceToNat, Int.reduceTDiv, Int.reduceTMod, ↓reduceIte, h1, h3, h4, dt (show (i : Int) < (l.length : Int) by omega), show (0 : Int) ≤ (i : Int) by omega, show (i : Int) < (l.length : Int) by omega, Int.toNat_natCast, Nat.zero_add, old_get hb, ld, ptv]
      refine (rnearp_ p _).x ?_
      cases hq : nrp p with
      | true =>
        rw [hq, Bool.true_and] at hx
        (refine sg (et h1 (et h3 h4)) ?_; try exact ⟨⟩)
        exact ⟨k - 1, by omega, i + 1, _, by omega, hx, rfl, by rw [wi (by omega) (by omega)]; rfl⟩
      | false =>
        rw [hq, Bool.false_and] at hx
        (refine sg (et h1 (et h3 h4)) ?_; try exact ⟨⟩)
        rw [← hx, Bool.and_false]
    · have : l.drop i = [] := List.drop_eq_nil_of_le (by omega)
      rw [this] at hx
      rw [← hx]
      cases k1 : decide ((4 : Int) ≤ l.length) with
      | false =>
        (refine sg (et h1 (et h3 (et h4 (et (df (show ¬ (i : Int) < (l.length : Int) by omega)) k1)))) ?_; try exact ⟨⟩)
        try rfl
      | true =>
        cases k2 : decide ((l.length : Int) ≤ 97) with
        | false =>
          (refine sg (et h1 (et h3 (et h4 (et (df (show ¬ (i : Int) < (l.length : Int) by omega)) (et k1 k2))))) ?_; try exact ⟨⟩)
          try rfl
        | true =>
          cases k3 : ((l.length : Int).tmod 3 == 1) with
          | false =>
            (refine sg (et h1 (et h3 (et h4 (et (df (show ¬ (i : Int) < (l.length : Int) by omega)) (et k1 (et k2 k3)))))) ?_; try exact ⟨⟩)
            try rfl
          | true =>
            (refine sg (et h1 (et h3 (et h4 (et (df (show ¬ (i : Int) < (l.length : Int) by omega)) (et k1 (et k2 k3)))))) ?_; try exact ⟨⟩)
            try rfl
end Go.Proofs.YtnebnbdeobcegaaGreat
/- Chapter 8: the walks of what compares points and rows of points. -/
namespace Go.Proofs.YtnebnbdeobcegaaGreat
open Go Go.RowKit E
/-- A call that only adds blocks. -/
theorem adds_of {P : Program} {f : FuncId} {args : List Value} {H : AH} {Q : Value → AH → Prop} (h : @XCal P f args H ⟨fun v H1 W => W = [] ∧ Q v H1⟩) :
    Cal P f args H fun v H' W => W = [] ∧ (∃ L, H' = H ++ L) ∧ Q v H' := by
  unfold XCal at h
  obtain ⟨v, H1, W1, h1, rfl, hq⟩ := h
  refine ⟨v, H1, [], h1, rfl, ⟨H1.drop H.length, ?_⟩, hq⟩
  apply List.ext_getElem?
  intro i
  by_cases hi : i < H.length
  · rw [List.getElem?_append_left hi]; exact h1.1.2.2 i hi (by simp)
  · rw [List.getElem?_append_right (by omega), List.getElem?_drop]; congr 1; omega
attribute [local irreducible] XRun XOps XCode XCal XLoop XQ SemCall
set_option linter.unusedSimpArgs false
set_option linter.unusedVariables false
end Go.Proofs.YtnebnbdeobcegaaGreat
/- Chapter 8: rows of points and of polys that are being made; the walks of maps. -/
namespace Go.Proofs.YtnebnbdeobcegaaGreat
open Go Go.RowKit E
theorem of_x {P : Program} {f : FuncId} {args : List Value} {H : AH} {Q : Value → AH → List Nat → Prop} (h : @XCal P f args H ⟨Q⟩) : Cal P f args H Q := h
attribute [local irreducible] XRun XOps XCode XCal XLoop XQ SemCall
set_option linter.unusedSimpArgs false
set_option linter.unusedVariables false
/-- What was, is. -/
def Old (H K : AH) : Prop := ∀ (c : Nat) (k : Blk), H[c]? = some k → K[c]? = some k
theorem Old.refl (H : AH) : Old H H := fun _ _ h => h
theorem Old.app {H K : AH} (h : Old H K) (L : AH) : Old H (K ++ L) := fun c k e => old_get (h c k e) L
theorem Old.app' (H L : AH) : Old H (H ++ L) := fun c k e => old_get e L
theorem Old.set {H K : AH} (h : Old H K) {b : Nat} (hb : H.length ≤ b) (x : Blk) (L : AH) : Old H (K.set b x ++ L) := fun c k e => by
  have hc := (List.getElem?_eq_some_iff.1 e).1
  refine old_get ?_ L
  rw [List.getElem?_set_ne (by omega)]; exact h c k e
theorem Old.trans {H K J : AH} (h : Old H K) (h' : Old K J) : Old H J := fun c k e => h' c k (h c k e)
theorem Pts.old {H K : AH} {pv : Value} {l : List Pt} (h : Pts H pv l) (o : Old H K) : Pts K pv l := by
  rcases h with h | ⟨b, g, rest, rw_, h1, h2, h3⟩
  · exact .inl h
  · exact .inr ⟨b, g, rest, rw_, h1, o _ _ h2, h3⟩
theorem Polys.old {H K : AH} {v : Value} {ps : List PL} (h : Polys H v ps) (o : Old H K) : Polys K v ps := by
  rcases h with h | ⟨b, g, rest, rw_, vs, h1, h2, h3, h4, h5⟩
  · exact .inl h
  · exact .inr ⟨b, g, rest, rw_, vs, h1, o _ _ h2, h3, h4, fun i x hx => by obtain ⟨pv, e1, e2⟩ := h5 i x hx; exact ⟨pv, e1, e2.old o⟩⟩
/-- Points that lie in a new block, apart from one block. -/
def PtsF (n0 bad : Nat) (K : AH) (pv : Value) (l : List Pt) : Prop :=
  (l = [] ∧ pv = .slice none 0 0) ∨ ∃ b g rest rw_, n0 ≤ b ∧ b ≠ bad ∧ pv = sl b 0 g l.length 2 ∧ K[b]? = some ⟨ptC l ++ rest, g, rw_⟩ ∧ l.length ≤ 9223372036854775807
theorem PtsF.pts {n0 bad : Nat} {K : AH} {pv : Value} {l : List Pt} (h : PtsF n0 bad K pv l) : Pts K pv l := by
  rcases h with ⟨h1, h2⟩ | ⟨b, g, rest, rw_, _, _, h1, h2, h3⟩
  · exact .inl ⟨h1, .inr h2⟩
  · exact .inr ⟨b, g, rest, rw_, h1, h2, h3⟩
theorem PtsF.app {n0 bad : Nat} {K : AH} {pv : Value} {l : List Pt} (h : PtsF n0 bad K pv l) (L : AH) : PtsF n0 bad (K ++ L) pv l := by
  rcases h with h | ⟨b, g, rest, rw_, h0, h0', h1, h2, h3⟩
  · exact .inl h
  · exact .inr ⟨b, g, rest, rw_, h0, h0', h1, old_get h2 L, h3⟩
theorem PtsF.set {n0 bad : Nat} {K : AH} {pv : Value} {l : List Pt} (h : PtsF n0 bad K pv l) (x : Blk) : PtsF n0 bad (K.set bad x) pv l := by
  rcases h with h | ⟨b, g, rest, rw_, h0, h0', h1, h2, h3⟩
  · exact .inl h
  · exact .inr ⟨b, g, rest, rw_, h0, h0', h1, by rw [List.getElem?_set_ne (fun e => h0' e.symm)]; exact h2, h3⟩
theorem PtsF.weak {n0 n1 bad bad' : Nat} {K : AH} {pv : Value} {l : List Pt} (h : PtsF n0 bad K pv l) (h1 : n1 ≤ n0) (h2 : bad' < n0) : PtsF n1 bad' K pv l := by
  rcases h with h | ⟨b, g, rest, rw_, h0, h0', h⟩
  · exact .inl h
  · exact .inr ⟨b, g, rest, rw_, by omega, by omega, h⟩
theorem PtsF.bad {n0 bad : Nat} {K : AH} {pv : Value} {l : List Pt} (h : PtsF n0 bad K pv l) {b' : Nat} (h' : K.length ≤ b') : PtsF n0 b' K pv l := by
  rcases h with h | ⟨b, g, rest, rw_, h0, h0', h1, h2, h3⟩
  · exact .inl h
  · exact .inr ⟨b, g, rest, rw_, h0, by have := (List.getElem?_eq_some_iff.1 h2).1; omega, h1, h2, h3⟩
/-- A row of polys that is being made. -/
def OutN (n0 : Nat) (K : AH) (b : Nat) (vs : List (Bool × Value)) (qs : List PL) : Prop :=
  vs.length = qs.length ∧ ∀ (i : Nat) x, qs[i]? = some x → ∃ pv, vs[i]? = some (x.1, pv) ∧ PtsF n0 b K pv x.2
def OutP (n0 : Nat) (K : AH) (v : Value) (qs : List PL) : Prop :=
  (qs = [] ∧ v = .slice none 0 0) ∨ ∃ b g vs, n0 ≤ b ∧ v = sl b 0 g qs.length 2 ∧ K[b]? = some ⟨plC vs, g, true⟩ ∧ OutN n0 K b vs qs
theorem OutP.polys {n0 : Nat} {K : AH} {v : Value} {qs : List PL} (h : OutP n0 K v qs) (hl : qs.length ≤ 9223372036854775807) : Polys K v qs := by
  rcases h with ⟨h1, h2⟩ | ⟨b, g, vs, h0, h1, h2, h3, h4⟩
  · exact .inl ⟨h1, .inr h2⟩
  · exact .inr ⟨b, g, [], true, vs, h1, by rw [List.append_nil]; exact h2, h3, hl, fun i x hx => by obtain ⟨pv, e1, e2⟩ := h4 i x hx; exact ⟨pv, e1, e2.pts⟩⟩
theorem OutP.app {n0 : Nat} {K : AH} {v : Value} {qs : List PL} (h : OutP n0 K v qs) (L : AH) : OutP n0 (K ++ L) v qs := by
  rcases h with h | ⟨b, g, vs, h0, h1, h2, h3, h4⟩
  · exact .inl h
  · exact .inr ⟨b, g, vs, h0, h1, old_get h2 L, h3, fun i x hx => by obtain ⟨pv, e1, e2⟩ := h4 i x hx; exact ⟨pv, e1, e2.app L⟩⟩
theorem OutN.push {n0 : Nat} {K : AH} {b : Nat} {vs ws : List (Bool × Value)} {qs rs : List PL} (h : OutN n0 K b vs qs) (h' : OutN n0 K b ws rs) : OutN n0 K b (vs ++ ws) (qs ++ rs) := by
  refine ⟨by rw [List.length_append, List.length_append, h.1, h'.1], fun i x hx => ?_⟩
  by_cases hi : i < qs.length
  · rw [List.getElem?_append_left hi] at hx
    rw [List.getElem?_append_left (by rw [h.1]; exact hi)]
    exact h.2 i x hx
  · rw [List.getElem?_append_right (by omega)] at hx
    rw [List.getElem?_append_right (by rw [h.1]; omega), h.1]
    exact h'.2 _ x hx
theorem OutN.mono {n0 n1 : Nat} {K J : AH} {b b' : Nat} {vs : List (Bool × Value)} {qs : List PL} (h : OutN n0 K b vs qs) (m : ∀ pv l, PtsF n0 b K pv l → PtsF n1 b' J pv l) : OutN n1 J b' vs qs :=
  ⟨h.1, fun i x hx => by obtain ⟨pv, e1, e2⟩ := h.2 i x hx; exact ⟨pv, e1, m _ _ e2⟩⟩
theorem OutN.one {n0 : Nat} {K : AH} {b : Nat} {c : Bool} {pv : Value} {l : List Pt} (h : PtsF n0 b K pv l) : OutN n0 K b [(c, pv)] [(c, l)] :=
  ⟨rfl, fun i x hx => by
    cases i with
    | zero => simp at hx; subst hx; exact ⟨pv, rfl, h⟩
    | succ i => simp at hx⟩
theorem PtsF.old {n0 bad : Nat} {K J : AH} {pv : Value} {l : List Pt} (h : PtsF n0 bad K pv l) (o : Old K J) : PtsF n0 bad J pv l := by
  rcases h with h | ⟨b, g, rest, rw_, h0, h0', h1, h2, h3⟩
  · exact .inl h
  · exact .inr ⟨b, g, rest, rw_, h0, h0', h1, o _ _ h2, h3⟩
theorem PtsF.form {n0 bad : Nat} {K : AH} {pv : Value} {l : List Pt} (h : PtsF n0 bad K pv l) : ∃ a e, pv = .slice a l.length e := by
  rcases h with ⟨rfl, rfl⟩ | ⟨b, g, rest, rw_, _, _, rfl, _⟩
  · exact ⟨_, _, rfl⟩
  · exact ⟨_, _, rfl⟩
/-- What was, is, apart from one block. -/
def Olx (bo : Nat) (K J : AH) : Prop := ∀ (c : Nat) (k : Blk), c ≠ bo → K[c]? = some k → J[c]? = some k
theorem Olx.set1 (bo : Nat) (K M : AH) (x : Blk) : Olx bo K (K.set bo x ++ M) := fun c k hc e => old_get (by rw [List.getElem?_set_ne (fun e => hc e.symm)]; exact e) M
theorem Olx.old {bo : Nat} {K J : AH} (o : Old K J) : Olx bo K J := fun c k _ e => o c k e
theorem PtsF.olx {n0 bad : Nat} {K J : AH} {pv : Value} {l : List Pt} (h : PtsF n0 bad K pv l) (o : Olx bad K J) : PtsF n0 bad J pv l := by
  rcases h with h | ⟨b, g, rest, rw_, h0, h0', h1, h2, h3⟩
  · exact .inl h
  · exact .inr ⟨b, g, rest, rw_, h0, h0', h1, o _ _ h0' h2, h3⟩
theorem Old.olx {H K J : AH} {bo : Nat} (h : Old H K) (o : Olx bo K J) (hb : H.length ≤ bo) : Old H J := fun c k e => o c k (by have := (List.getElem?_eq_some_iff.1 e).1; omega) (h c k e)
/-- The first of a row that is being made. -/
theorem OutP.first {n0 n1 bad : Nat} {K1 J : AH} {c : Bool} {pv : Value} {l : List Pt} (h : PtsF n1 bad K1 pv l) (o : Old K1 J) (hn : n0 ≤ n1) {b g : Nat} (hb : J[b]? = some ⟨[.bool c, pv], g, true⟩) (hbl : K1.length ≤ b) (hnb : n0 ≤ b) : OutP n0 J (sl b 0 g 1 2) [(c, l)] := by
  refine .inr ⟨b, g, [(c, pv)], hnb, rfl, hb, OutN.one (PtsF.old ?_ o)⟩
  have := h.bad hbl
  rcases this with h | ⟨b, g, rest, rw_, h0, h⟩
  · exact .inl h
  · exact .inr ⟨b, g, rest, rw_, by omega, h⟩
/-- One more of a row that is being made. -/
theorem OutP.next {n0 n1 bad bo go : Nat} {K K1 J : AH} {c : Bool} {pv : Value} {l : List Pt} {vo : List (Bool × Value)} {qs : List PL} (hov : OutN n0 K bo vo qs) (hbo : n0 ≤ bo) (o : Olx bo K J) (h : PtsF n1 bad K1 pv l) (o1 : Olx bo K1 J) (hn : bo < n1) (hb : J[bo]? = some ⟨plC vo ++ [.bool c, pv], go, true⟩) : OutP n0 J (sl bo 0 go (qs.length + 1) 2) (qs ++ [(c, l)]) := by
  refine .inr ⟨bo, go, vo ++ [(c, pv)], hbo, by rw [List.length_append]; rfl, by rw [plC_app]; exact hb, (hov.mono fun _ _ p => p.olx o).push (OutN.one ?_)⟩
  exact PtsF.olx (h.weak (by omega) hn) o1
theorem PtsF.low {n0 n1 bad : Nat} {K : AH} {pv : Value} {l : List Pt} (h : PtsF n0 bad K pv l) (h1 : n1 ≤ n0) : PtsF n1 bad K pv l := by
  rcases h with h | ⟨b, g, rest, rw_, h0, h0', h⟩
  · exact .inl h
  · exact .inr ⟨b, g, rest, rw_, by omega, h0', h⟩
theorem OutP.low {n0 n1 : Nat} {K : AH} {v : Value} {qs : List PL} (h : OutP n0 K v qs) (h1 : n1 ≤ n0) : OutP n1 K v qs := by
  rcases h with h | ⟨b, g, vs, h0, h2, h3, h4⟩
  · exact .inl h
  · exact .inr ⟨b, g, vs, by omega, h2, h3, h4.mono fun _ _ p => p.low h1⟩
theorem Old.apx (K A M : AH) : Old (K ++ A) (K ++ (A ++ M)) := by rw [← List.append_assoc]; exact Old.app' _ _
theorem Olx.trans {b : Nat} {H K J : AH} (h : Olx b H K) (h' : Olx b K J) : Olx b H J := fun c k hc e => h' c k hc (h c k hc e)
theorem Olx.set0 (b : Nat) (K : AH) (x : Blk) : Olx b K (K.set b x) := fun c k hc e => by rw [List.getElem?_set_ne (fun e => hc e.symm)]; exact e
theorem Olx.refl (b : Nat) (K : AH) : Olx b K K := fun _ _ _ e => e
theorem Olx.app {b : Nat} {H K : AH} (h : Olx b H K) (L : AH) : Olx b H (K ++ L) := fun c k hc e => old_get (h c k hc e) L
theorem Olx.bo {tb bo : Nat} {H K J : AH} (h : Olx tb H K) (hb : H.length ≤ bo) (o : Olx bo K J) : Olx tb H J := fun c k hc e => o c k (by have := (List.getElem?_eq_some_iff.1 e).1; omega) (h c k hc e)
end Go.Proofs.YtnebnbdeobcegaaGreat
