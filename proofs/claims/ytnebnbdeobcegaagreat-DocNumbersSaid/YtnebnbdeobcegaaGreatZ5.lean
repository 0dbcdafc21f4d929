/- Merged texts: Tri Mat Book Tape Flat1 Path Flat2 Flat3 Flat4 Flat5. -/
import Derived.Test.YtnebnbdeobcegaaGreatZ4
/- Chapter 2: the walks of angles. -/
namespace Go.Proofs.YtnebnbdeobcegaaGreat
open Go Go.RowKit E
attribute [local irreducible] XRun XOps XCode XCal XLoop XQ SemCall
set_option linter.unusedSimpArgs false
set_option linter.unusedVariables false
theorem tmod_emod (a : Int) {n : Int} (hn : 0 < n) : a.tmod n = if 0 ≤ a then a % n else (if a % n = 0 then 0 else a % n - n) := by
  rcases Int.lt_or_le a 0 with h | h
  · have f := tdiv_np (a := -a) (b := n) (by omega) hn
    rw [Int.neg_neg] at f
    have g := (negdiv (-a) n hn).2
    rw [Int.neg_neg] at g
    have := Int.emod_nonneg (-a) (show n ≠ 0 by omega)
    have := Int.emod_lt_of_pos (-a) hn
    rw [f.2.1, if_neg (by omega), g]
    split
    · rw [if_pos rfl]; omega
    · rw [if_neg (by omega)]; omega
  · rw [if_pos h]; exact Int.tmod_eq_emod_of_nonneg h
/-- A half round's sine. -/
def core (x : Int) : Int := 4 * (x * (11796480 - x) / 65536) * 65536 / (2654208000 - x * (11796480 - x) / 65536)
def sn (a : Int) : Int := if a % 23592960 ≥ 11796480 then -(core (a % 23592960 - 11796480)) else core (a % 23592960)
def cs (a : Int) : Int := sn (a % 23592960 + 5898240)
end Go.Proofs.YtnebnbdeobcegaaGreat
/- Chapter 3: the walks of maps. -/
namespace Go.Proofs.YtnebnbdeobcegaaGreat
open Go Go.RowKit E
attribute [local irreducible] XRun XOps XCode XCal XLoop XQ SemCall
set_option linter.unusedSimpArgs false
set_option linter.unusedVariables false
abbrev pt (x y : Int) : Value := .agg [.int .i64 x, .int .i64 y].toArray
abbrev mt (a b c d e f : Int) : Value := .agg [.int .i64 a, .int .i64 b, .int .i64 c, .int .i64 d, .int .i64 e, .int .i64 f].toArray
def two (a b c d : Int) : Int := qadd (qmul a b) (qmul c d)
def ap1 (a c e x y : Int) : Int := place (qadd (two a x c y) e)
def mdE (x a b c d : Int) : Int := qadd x (-(two a b c d))
theorem mk1 : qmul (cs 0) 131072 = 131072 ∧ qmul (sn 0) 131072 = 0 ∧ qmul (-(sn 0)) 65536 = 0 ∧ qmul (cs 0) 65536 = 65536 ∧ mdE 327680 131072 0 0 0 = 327680 ∧ mdE 0 0 0 65536 0 = 0 := by decide +kernel
end Go.Proofs.YtnebnbdeobcegaaGreat
/- A number brought within two. -/
namespace Go.Proofs.YtnebnbdeobcegaaGreat
open Go Go.RowKit E
attribute [local irreducible] XRun XOps XCode XCal XLoop XQ SemCall
set_option linter.unusedSimpArgs false
set_option linter.unusedVariables false
def wth (n lo hi : Int) : Int := if lo ≤ n ∧ n ≤ hi then n else lo + n % (hi - lo + 1)
theorem wth_b (n : Int) {lo hi : Int} (h : lo ≤ hi) : lo ≤ wth n lo hi ∧ wth n lo hi ≤ hi := by
  unfold wth; split
  · assumption
  · have := Int.emod_nonneg n (show hi - lo + 1 ≠ 0 by omega)
    have := Int.emod_lt_of_pos n (show 0 < hi - lo + 1 by omega)
    omega
theorem within_ (n lo hi : Int) (h : lo ≤ hi) (h1 : -1152921504606846976 ≤ lo) (h2 : hi ≤ 1152921504606846976) (H : AH) : SemCall Tryz.prog 38 [.int .i64 n, .int .i64 lo, .int .i64 hi] H (.int .i64 (wth n lo hi)) H [] := by
  refine pure_of ?_ rfl
  unfold wth
  by_cases g1 : lo ≤ n
  · by_cases g2 : n ≤ hi
    · rw [if_pos ⟨g1, g2⟩]
      refine XCal.of hm Tryz.func38 rfl (fun xs w => Tryz.call38 xs w) Tryz.ntmps38 Tryz.results38 rfl ?_
      (refine sg (et g1 g2) ?_; try exact ⟨⟩)
    · rw [if_neg (fun h => g2 h.2)]
      have w0 : IntKind.i64.wrap (hi - lo) = hi - lo := wi (by omega) (by omega)
      have w1 : IntKind.i64.wrap (hi - lo + 1) = hi - lo + 1 := wi (by omega) (by omega)
      have hq := tmod_emod n (n := hi - lo + 1) (by omega)
      have hb := tm_b n (n := hi - lo + 1) (by omega)
      have e0 := Int.emod_nonneg n (show hi - lo + 1 ≠ 0 by omega)
      have e1 := Int.emod_lt_of_pos n (show 0 < hi - lo + 1 by omega)
      have n0 : ¬ hi - lo + 1 = 0 := by omega
      by_cases k : n.tmod (hi - lo + 1) < 0
      · have e : IntKind.i64.wrap (lo + IntKind.i64.wrap (IntKind.i64.wrap (IntKind.i64.wrap (n.tmod (hi - lo + 1) + hi) - lo) + 1)) = lo + n % (hi - lo + 1) := by
          generalize hd : hi - lo + 1 = d at *
          rw [wi (n := n.tmod d + hi) (by omega) (by omega), wi (n := n.tmod d + hi - lo) (by omega) (by omega), wi (n := n.tmod d + hi - lo + 1) (by omega) (by omega), wi (by split at hq <;> (try split at hq) <;> omega) (by split at hq <;> (try split at hq) <;> omega)]
          split at hq <;> (try split at hq) <;> omega
        refine XCal.of hm Tryz.func38 rfl (fun xs w => Tryz.call38 xs w) Tryz.ntmps38 Tryz.results38 rfl ?_
        (refine sg (et g1 (et g2 (et w0 (et w1 (et n0 (et k e)))))) ?_; try exact ⟨⟩)
      · have e : IntKind.i64.wrap (lo + n.tmod (hi - lo + 1)) = lo + n % (hi - lo + 1) := by
          generalize hd : hi - lo + 1 = d at *
          rw [wi (by omega) (by omega)]
          split at hq <;> (try split at hq) <;> omega
        refine XCal.of hm Tryz.func38 rfl (fun xs w => Tryz.call38 xs w) Tryz.ntmps38 Tryz.results38 rfl ?_
        (refine sg (et g1 (et g2 (et w0 (et w1 (et n0 (et k e)))))) ?_; try exact ⟨⟩)
  · rw [if_neg (fun h => g1 h.1)]
    have w0 : IntKind.i64.wrap (hi - lo) = hi - lo := wi (by omega) (by omega)
    have w1 : IntKind.i64.wrap (hi - lo + 1) = hi - lo + 1 := wi (by omega) (by omega)
    have hq := tmod_emod n (n := hi - lo + 1) (by omega)
    have hb := tm_b n (n := hi - lo + 1) (by omega)
    have e0 := Int.emod_nonneg n (show hi - lo + 1 ≠ 0 by omega)
    have e1 := Int.emod_lt_of_pos n (show 0 < hi - lo + 1 by omega)
    have n0 : ¬ hi - lo + 1 = 0 := by omega
    by_cases k : n.tmod (hi - lo + 1) < 0
    · have e : IntKind.i64.wrap (lo + IntKind.i64.wrap (IntKind.i64.wrap (IntKind.i64.wrap (n.tmod (hi - lo + 1) + hi) - lo) + 1)) = lo + n % (hi - lo + 1) := by
        generalize hd : hi - lo + 1 = d at *
        rw [wi (n := n.tmod d + hi) (by omega) (by omega), wi (n := n.tmod d + hi - lo) (by omega) (by omega), wi (n := n.tmod d + hi - lo + 1) (by omega) (by omega), wi (by split at hq <;> (try split at hq) <;> omega) (by split at hq <;> (try split at hq) <;> omega)]
        split at hq <;> (try split at hq) <;> omega
      refine XCal.of hm Tryz.func38 rfl (fun xs w => Tryz.call38 xs w) Tryz.ntmps38 Tryz.results38 rfl ?_
      (refine sg (et g1 (et w0 (et w1 (et n0 (et k e))))) ?_; try exact ⟨⟩)
    · have e : IntKind.i64.wrap (lo + n.tmod (hi - lo + 1)) = lo + n % (hi - lo + 1) := by
        generalize hd : hi - lo + 1 = d at *
        rw [wi (by omega) (by omega)]
        split at hq <;> (try split at hq) <;> omega
      refine XCal.of hm Tryz.func38 rfl (fun xs w => Tryz.call38 xs w) Tryz.ntmps38 Tryz.results38 rfl ?_
      (refine sg (et g1 (et w0 (et w1 (et n0 (et k e))))) ?_; try exact ⟨⟩)
end Go.Proofs.YtnebnbdeobcegaaGreat
/- Tapes: the walks of what reads numbers off a tape. -/
namespace Go.Proofs.YtnebnbdeobcegaaGreat
open Go Go.RowKit E
attribute [local irreducible] XRun XOps XCode XCal XLoop XQ SemCall
set_option linter.unusedSimpArgs false
set_option linter.unusedVariables false
abbrev tblk (lv : Value) (g : Nat) (a : Int) : Blk := ⟨[lv, .int .i64 a], g, true⟩
theorem tape_ren {H : AH} {tb : Nat} {lv : Value} {ls : List Int} (h : Ints H tb lv ls) (K : List (Nat × Nat)) (g : Nat) (a : Int) : renL H.length K (tblk lv g a).cells = some (tblk lv g a).cells := by
  show renL H.length K [lv, .int .i64 a] = _
  simp only [renL, h.ren K]; rfl
theorem next_ (n : Int) (hn : 0 < n ∧ n ≤ 1152921504606846976) (H : AH) {tb g : Nat} {lv : Value} {ls : List Int} (h : TapeAt H tb g lv ls) :
    Cal Tryz.prog 14 [ap tb 0 g, .int .i64 n] H fun v H' W' => ∃ r : Int × Int, (0 ≤ r.1 ∧ r.1 < n ∧ 0 ≤ r.2 ∧ r.2 ≤ ls.length) ∧ v = .int .i64 r.1 ∧ H' = H.set tb (tblk lv g r.2) ∧ W' = [tb] := by
  obtain ⟨hi, at_, h0, h1, hb⟩ := h
  have hlen := hi.len
  by_cases hat : at_ < ls.length
  · obtain ⟨b, g', rest, rw_, rfl, hne, hbb, _⟩ := hi.ne (fun e => by rw [e] at hat; simp at hat; omega)
    obtain ⟨a, rfl⟩ := Int.eq_ofNat_of_zero_le h0
    have ha : a < ls.length := by omega
    have hel : (intC ls ++ rest)[a]? = some (.int .i64 ls[a]) := by rw [List.getElem?_append_left (by simp [intC]; omega)]; exact intC_get ha
    refine none_of _ _ tb _ (List.getElem?_eq_some_iff.1 hb).1 ?_ (fun r _ => rfl) (fun r _ => tape_ren hi _ _ _)
    have hbb2 : ∀ x L, (H.set tb x ++ L)[b]? = some ⟨intC ls ++ rest, g', rw_⟩ := fun x L => by
      have := (List.getElem?_eq_some_iff.1 hbb).1
      rw [List.getElem?_append_left (by simpa using this), List.getElem?_set_ne (fun e => hne e.symm)]; exact hbb
    have hbb3 : ∀ x, (H.set tb x)[b]? = some ⟨intC ls ++ rest, g', rw_⟩ := fun x => by simpa using hbb2 x []
    have htb3 : ∀ x, (H.set tb x)[tb]? = some x := fun x => List.getElem?_set_self (List.getElem?_eq_some_iff.1 hb).1
    have w1 : IntKind.i64.wrap ((a : Int) + 1) = ((a + 1 : Nat) : Int) := by rw [wi (by omega) (by omega)]; rfl
    have w2 : IntKind.i64.wrap (((a + 1 : Nat) : Int) - 1) = (a : Int) := by rw [wi (by omega) (by omega)]; omega
    have n0 : ¬ n = 0 := by omega
    have hw := wth_b ls[a] (lo := 0) (hi := 1073741824) (by omega)
    have hq := tdiv_pp (a := wth ls[a] 0 1073741824) (b := n) hw.1 hn.1
    refine XCal.of hm Tryz.func14 rfl (fun xs w => Tryz.call14 xs w) Tryz.ntmps14 Tryz.results14 rfl ?_
    (refine sg trivial ?_; try exact ⟨⟩)
    refine drawnF ?_ (by decide +kernel)
    (refine sg (et hb (df (show ¬ (ls.length : Int) ≤ (a : Int) by omega))) ?_; try exact ⟨⟩)
    (refine sg (et hb (et w1 (old_lt hb))) ?_; try exact ⟨⟩)
    refine drawnF ?_ (by decide +kernel)
    (refine sg (et hb (et hbb (et hbb3 (et htb3 (et w1 (et w2 (et (old_lt hb) (et (show (0 : Int) ≤ (a : Int) by omega) (et (show (a : Int) < (ls.length : Int) by omega) (et Int.toNat_natCast (et Nat.zero_add (et Nat.mul_one hel)))))))))))) ?_; try exact ⟨⟩)
    refine (within_ _ _ _ (by omega) (by omega) (by omega) _).x ?_
    (refine sg (et n0 hq.2.1) ?_; try exact ⟨⟩)
    exact ⟨SameW.rfl', (wth ls[a] 0 1073741824 % n, ((a + 1 : Nat) : Int)), ⟨Int.emod_nonneg _ n0, Int.emod_lt_of_pos _ hn.1, by show 0 ≤ ((a + 1 : Nat) : Int); omega, by show ((a + 1 : Nat) : Int) ≤ _; omega⟩, rfl, htb3 _⟩
  · obtain ⟨a, e, rfl⟩ := hi.form
    have s : SemCall Tryz.prog 14 [ap tb 0 g, .int .i64 n] H (.int .i64 0) H [] := by
      refine pure_of ?_ rfl
      refine XCal.of hm Tryz.func14 rfl (fun xs w => Tryz.call14 xs w) Tryz.ntmps14 Tryz.results14 rfl ?_
      (refine sg trivial ?_; try exact ⟨⟩)
      refine drawnF ?_ (by decide +kernel)
      (refine sg (et hb (dt (show (ls.length : Int) ≤ at_ by omega))) ?_; try exact ⟨⟩)
    exact ⟨_, _, _, s.addW (i := 0) hb rfl, (0, at_), ⟨by omega, by omega, by omega, by omega⟩, rfl, (set_same hb).symm, rfl⟩
/-- The tape behind a call. -/
theorem tape_set {H : AH} {tb g : Nat} {lv : Value} {ls : List Int} (h : TapeAt H tb g lv ls) {a : Int} (h1 : 0 ≤ a ∧ a ≤ ls.length) : TapeAt (H.set tb (tblk lv g a)) tb g lv ls := h.set h1.1 h1.2
theorem number_ (lo hi : Int) (hl : lo ≤ hi) (h1 : -1073741824 ≤ lo) (h2 : hi ≤ 1073741824) (H : AH) {tb g : Nat} {lv : Value} {ls : List Int} (h : TapeAt H tb g lv ls) :
    Cal Tryz.prog 70 [ap tb 0 g, .int .i64 lo, .int .i64 hi] H fun v H' W' => ∃ r : Int × Int, (lo * 65536 ≤ r.1 ∧ r.1 < hi * 65536 + 65536 ∧ 0 ≤ r.2 ∧ r.2 ≤ ls.length) ∧ v = .int .i64 r.1 ∧ H' = H.set tb (tblk lv g r.2) ∧ W' = [tb] := by
  have htb := h.lt
  have hi0 := h.1
  refine none_of _ _ tb _ htb ?_ (fun r _ => rfl) (fun r _ => tape_ren hi0 _ _ _)
  have htb3 : ∀ x, (H.set tb x)[tb]? = some x := fun x => List.getElem?_set_self htb
  have w1 : IntKind.i64.wrap (hi - lo) = hi - lo := wi (by omega) (by omega)
  have w2 : IntKind.i64.wrap (hi - lo + 1) = hi - lo + 1 := wi (by omega) (by omega)
  refine XCal.of hm Tryz.func70 rfl (fun xs w => Tryz.call70 xs w) Tryz.ntmps70 Tryz.results70 rfl ?_
  (refine sg (et w1 w2) ?_; try exact ⟨⟩)
  refine (next_ (hi - lo + 1) (by omega) H h).x ?_
  rintro v H1 W1 ⟨⟨r, a1⟩, ⟨r0, r1, a0, a2⟩, rfl, rfl, rfl⟩
  have w3 : IntKind.i64.wrap (lo + r) = lo + r := wi (by omega) (by omega)
  have w4 : IntKind.i64.wrap ((lo + r) * 65536) = (lo + r) * 65536 := wi (by omega) (by omega)
  (refine sg (et w3 (et w4 (decide_eq_true htb))) ?_; try exact ⟨⟩)
  refine (next_ 4 (by omega) _ (tape_set h ⟨a0, a2⟩)).x ?_
  rintro v H1 W1 ⟨⟨q, b1⟩, ⟨q0, q1, b0, b2⟩, rfl, rfl, rfl⟩
  by_cases k0 : q = 0
  · simp only [go_sem, Nat.reduceEqDiff, Nat.reduceAdd, Nat.reduceSub, Nat.reduceMul, Nat.reduceLT, Nat.reduceLeDiff, Int.reducePow, Int.reduceBEq, Int.reduceBNe, Int.reduceDiv, Int.reduceMod, Int.reduceEq, Int.reduceLT, Int.reduceLE, Int.reduceAdd, Int.reduceSub, Int.reduceMul, Int.reduceNeg, Int.reduceToNat, Int.reduceTDiv, Int.reduceTMod, ↓reduceIte, bt k0, decide_eq_true htb, List.set_set]
    exact ⟨SameW.two, ((lo + r) * 65536 + 32768, b1), ⟨by show _ ≤ (lo + r) * 65536 + 32768; omega, by show (lo + r) * 65536 + 32768 < _; omega, b0, b2⟩, by rw [wi (by omega) (by omega)], htb3 _⟩
  · by_cases k1 : q = 1
    · simp only [go_sem, Nat.reduceEqDiff, Nat.reduceAdd, Nat.reduceSub, Nat.reduceMul, Nat.reduceLT, Nat.reduceLeDiff, Int.reducePow, Int.reduceBEq, Int.reduceBNe, Int.reduceDiv, Int.reduceMod, Int.reduceEq, Int.reduceLT, Int.reduceLE, Int.reduceAdd, Int.reduceSub, Int.reduceMul, Int.reduceNeg, Int.reduceToNat, Int.reduceTDiv, Int.reduceTMod, ↓reduceIte, bf k0, bt k1, decide_eq_true htb, List.set_set]
      refine (next_ 65536 (by omega) _ (tape_set h ⟨b0, b2⟩)).x ?_
      rintro v H1 W1 ⟨⟨u, c1⟩, ⟨u0, u1, c0, c2⟩, rfl, rfl, rfl⟩
      simp only [go_sem, Nat.reduceEqDiff, Nat.reduceAdd, Nat.reduceSub, Nat.reduceMul, Nat.reduceLT, Nat.reduceLeDiff, Int.reducePow, Int.reduceBEq, Int.reduceBNe, Int.reduceDiv, Int.reduceMod, Int.reduceEq, Int.reduceLT, Int.reduceLE, Int.reduceAdd, Int.reduceSub, Int.reduceMul, Int.reduceNeg, Int.reduceToNat, Int.reduceTDiv, Int.reduceTMod, ↓reduceIte, decide_eq_true htb, List.set_set]
      exact ⟨SameW.three, ((lo + r) * 65536 + u, c1), ⟨by show _ ≤ (lo + r) * 65536 + u; omega, by show (lo + r) * 65536 + u < _; omega, c0, c2⟩, by rw [wi (by omega) (by omega)], htb3 _⟩
    · simp only [go_sem, Nat.reduceEqDiff, Nat.reduceAdd, Nat.reduceSub, Nat.reduceMul, Nat.reduceLT, Nat.reduceLeDiff, Int.reducePow, Int.reduceBEq, Int.reduceBNe, Int.reduceDiv, Int.reduceMod, Int.reduceEq, Int.reduceLT, Int.reduceLE, Int.reduceAdd, Int.reduceSub, Int.reduceMul, Int.reduceNeg, Int.reduceToNat, Int.reduceTDiv, Int.reduceTMod, ↓reduceIte, bf k0, bf k1, decide_eq_true htb, List.set_set]
      exact ⟨SameW.two, ((lo + r) * 65536, b1), ⟨by show _ ≤ (lo + r) * 65536; omega, by show (lo + r) * 65536 < _; omega, b0, b2⟩, rfl, htb3 _⟩
theorem point_ (lo hi : Int) (hl : lo ≤ hi) (h1 : -1073741824 ≤ lo) (h2 : hi ≤ 1073741824) (H : AH) {tb g : Nat} {lv : Value} {ls : List Int} (h : TapeAt H tb g lv ls) :
    Cal Tryz.prog 73 [ap tb 0 g, .int .i64 lo, .int .i64 hi] H fun v H' W' => ∃ r : (Int × Int) × Int, ((lo * 65536 ≤ r.1.1 ∧ r.1.1 < hi * 65536 + 65536) ∧ (lo * 65536 ≤ r.1.2 ∧ r.1.2 < hi * 65536 + 65536) ∧ 0 ≤ r.2 ∧ r.2 ≤ ls.length) ∧ v = .agg [.int .i64 r.1.1, .int .i64 r.1.2].toArray ∧ H' = H.set tb (tblk lv g r.2) ∧ W' = [tb] := by
  have htb := h.lt
  have hi0 := h.1
  refine none_of _ _ tb _ htb ?_ (fun r _ => rfl) (fun r _ => tape_ren hi0 _ _ _)
  refine XCal.of hm Tryz.func73 rfl (fun xs w => Tryz.call73 xs w) Tryz.ntmps73 Tryz.results73 rfl ?_
  (refine sg trivial ?_; try exact ⟨⟩)
  refine (number_ lo hi hl h1 h2 _ (h.app _)).x ?_
  rintro v H1 W1 ⟨⟨r, a1⟩, ⟨r0, r1, a0, a2⟩, rfl, rfl, rfl⟩
  have hb := (h.2).choose_spec.2.2
  (refine sg (et (decide_eq_true htb) (old_set hb)) ?_; try exact ⟨⟩)
  refine (number_ lo hi hl h1 h2 _ ((tape_set h ⟨a0, a2⟩).app _)).x ?_
  rintro v H1 W1 ⟨⟨q, b1⟩, ⟨q0, q1, b0, b2⟩, rfl, rfl, rfl⟩
  (refine sg (et (decide_eq_true htb) (et (old_set hb) (et (old_sset hb) (old_sget hb)))) ?_; try exact ⟨⟩)
  exact ⟨SameW.two, ((r, q), b1), ⟨⟨r0, r1⟩, ⟨q0, q1⟩, b0, b2⟩, rfl, rfl⟩
end Go.Proofs.YtnebnbdeobcegaaGreat
/- Chapter 8: the walks of halves, and of bent parts. -/
namespace Go.Proofs.YtnebnbdeobcegaaGreat
open Go Go.RowKit E
attribute [local irreducible] XRun XOps XCode XCal XLoop XQ SemCall
set_option linter.unusedSimpArgs false
set_option linter.unusedVariables false
abbrev Pt := Int × Int
abbrev ptv (p : Pt) : Value := .agg [.int .i64 p.1, .int .i64 p.2].toArray
abbrev Ip (p : Pt) : Prop := I64 p.1 ∧ I64 p.2
def hf (a b : Int) : Int := (a + b) / 2
def hfp (p q : Pt) : Pt := (hf p.1 q.1, hf p.2 q.2)
def ptC (l : List Pt) : List Value := l.flatMap fun p => [.int .i64 p.1, .int .i64 p.2]
theorem ptC_app (l m : List Pt) : ptC (l ++ m) = ptC l ++ ptC m := by simp [ptC]
theorem ptC_len (l : List Pt) : (ptC l).length = l.length * 2 := by
  induction l with
  | nil => rfl
  | cons x l ih => have : ptC (x :: l) = [.int .i64 x.1, .int .i64 x.2] ++ ptC l := rfl
                   rw [this, List.length_append, ih]; simp; omega
theorem ptC_ren (n : Nat) (K : List (Nat × Nat)) (l : List Pt) : renL n K (ptC l) = some (ptC l) := by
  induction l with
  | nil => rfl
  | cons x l ih =>
    show renL n K (.int .i64 x.1 :: .int .i64 x.2 :: ptC l) = _
    simp only [renL, ih]; rfl
def bentL : Nat → Pt → Pt → Pt → Pt → List Pt
  | 0, _, _, _, d => [d]
  | k + 1, a, b, c, d => bentL k a (hfp a b) (hfp (hfp a b) (hfp b c)) (hfp (hfp (hfp a b) (hfp b c)) (hfp (hfp b c) (hfp c d))) ++ bentL k (hfp (hfp (hfp a b) (hfp b c)) (hfp (hfp b c) (hfp c d))) (hfp (hfp b c) (hfp c d)) (hfp c d) d
end Go.Proofs.YtnebnbdeobcegaaGreat
/- Tapes: the walk of what makes a path of a tape. -/
namespace Go.Proofs.YtnebnbdeobcegaaGreat
open Go Go.RowKit E
attribute [local irreducible] XRun XOps XCode XCal XLoop XQ SemCall
set_option linter.unusedSimpArgs false
set_option linter.unusedVariables false
theorem ptC_drop : ∀ (l : List Pt) (i : Nat) (p : Pt) (rest : List Value), l[i]? = some p → (((ptC l ++ rest).drop (i * 2)).take 2) = [.int .i64 p.1, .int .i64 p.2]
  | [], i, p, rest, h => by simp at h
  | x :: l, 0, p, rest, h => by simp at h; subst h; rfl
  | x :: l, i + 1, p, rest, h => by
    have := ptC_drop l i p rest (by simpa using h)
    rw [show (i + 1) * 2 = i * 2 + 2 by omega]
    show ((Value.int .i64 x.1 :: Value.int .i64 x.2 :: (ptC l ++ rest)).drop (i * 2 + 2)).take 2 = _
    simpa using this
theorem ald_pt {l : List Pt} {i b g : Nat} {p : Pt} {rw_ : Bool} (rest : List Value) (h : l[i]? = some p) : ald (some true) (some 2) (some ⟨ptC l ++ rest, g, rw_⟩) b (i * 2) g = some (ptv p, b) := by
  have hi := (List.getElem?_eq_some_iff.1 h).1
  have : i * 2 + 2 ≤ (ptC l ++ rest).length := by rw [List.length_append, ptC_len]; omega
  simp only [ald, true_and, this, if_true]
  rw [ptC_drop l i p rest h]
theorem ald_pt0 {l : List Pt} {i b g : Nat} {p : Pt} {rw_ : Bool} (h : l[i]? = some p) : ald (some true) (some 2) (some ⟨ptC l, g, rw_⟩) b (i * 2) g = some (ptv p, b) := by
  have := ald_pt (b := b) (g := g) (rw_ := rw_) [] h
  rwa [List.append_nil] at this
/-- Points near. -/
abbrev Bp (p : Pt) : Prop := (-131072 ≤ p.1 ∧ p.1 < 983040) ∧ (-131072 ≤ p.2 ∧ p.2 < 983040)
theorem ren_path (n b g : Nat) (c : Bool) (len : Nat) (h : n ≤ b) : renR n [(b, g)] (.agg [.bool c, sl b 0 g len 2].toArray) = some (.agg [.bool c, sl n 0 0 len 2].toArray) := by
  have := ren_sl n b g len 2 h
  have e : renV n [(b, g)] (sl b 0 g len 2) = some (sl n 0 0 len 2) := this
  simp only [renR, renL, e]; rfl
theorem snoc {D : List Nat} {tb : Nat} (h : SameW D [tb]) : SameW (D ++ [tb]) [tb] := fun b => by rw [List.mem_append, h b]; simp
theorem path_ (parts : Nat) (c : Bool) (hp : parts ≤ 1000) (H : AH) {tb g : Nat} {lv : Value} {ls : List Int} (h : TapeAt H tb g lv ls) :
    Cal Tryz.prog 41 [ap tb 0 g, .int .i64 (parts : Int), .bool c] H fun v H' W' => ∃ r : List Pt × Int, (r.1.length = 3 * parts + 1 ∧ (∀ p ∈ r.1, Bp p) ∧ 0 ≤ r.2 ∧ r.2 ≤ ls.length) ∧
      v = .agg [.bool c, sl H.length 0 0 r.1.length 2].toArray ∧ H' = H.set tb (tblk lv g r.2) ++ [⟨ptC r.1, 0, true⟩] ∧ W' = [tb] := by
  have htb := h.lt
  have hi0 := h.1
  have hb := (h.2).choose_spec.2.2
  refine one_of _ (fun (r : List Pt × Int) b g => .agg [.bool c, sl b 0 g r.1.length 2].toArray) _ tb _ htb ?_ (fun r b g _ hh => ren_path _ _ _ _ _ hh) (fun r b g _ => ptC_ren _ _ _) (fun r b g _ _ => tape_ren hi0 _ _ _)
  refine XCal.of hm Tryz.func41 rfl (fun xs w => Tryz.call41 xs w) Tryz.ntmps41 Tryz.results41 rfl ?_
  (refine sg trivial ?_; try exact ⟨⟩)
  refine (point_ (-2) 14 (by omega) (by omega) (by omega) _ (h.app _)).x ?_
  rintro v H1 W1 ⟨⟨p0, a1⟩, ⟨b1, b2, a0, a2⟩, rfl, rfl, rfl⟩
  have bp : Bp p0 := ⟨⟨b1.1, b1.2⟩, b2.1, b2.2⟩
  (refine sg (et (decide_eq_true htb) (et (old_set hb) (et (old_sset hb) (old_sget hb)))) ?_; try exact ⟨⟩)
  refine keep (fun k T H' D => SameW D [tb] ∧ ∃ (l : List Pt) (g1 : Nat) (at_ : Int) (G : AH) (i : Nat), i + k = parts ∧ l.length = 3 * i + 1 ∧ (∀ p ∈ l, Bp p) ∧ 0 ≤ at_ ∧ at_ ≤ ls.length ∧
    H' = H.set tb (tblk lv g at_) ++ (⟨[.bool false, .slice none 0 0], 0, true⟩ :: ⟨ptC l, g1, true⟩ :: ⟨[.bool c, sl (H.length + 1) 0 g1 l.length 2], 0, true⟩ :: G) ∧
    T 8 = .int .i64 (i : Int) ∧ T 1 = .int .i64 (parts : Int) ∧ T 0 = ap tb 0 g ∧ T 6 = ap H.length 0 0 ∧ T 7 = ap (H.length + 2) 0 0) parts
    ⟨SameW.rfl', [p0], 0, a1, [], 0, by omega, rfl, by simpa using bp, a0, a2, rfl, by (refine sg trivial ?_; try exact ⟨⟩) <;> rfl, by (refine sg trivial ?_; try exact ⟨⟩), by (refine sg trivial ?_; try exact ⟨⟩), by (refine sg trivial ?_; try exact ⟨⟩), by (refine sg trivial ?_; try exact ⟨⟩)⟩ ?_
  rintro k T H' D ⟨hD, l, g1, at_, G, i, hik, hl, hB, c0, c1, rfl, h8, h1, h0, h6, h7⟩
  by_cases hk : i < parts
  · (refine sg (et h8 (et h1 (et h0 (et h6 (et h7 (dt (show (i : Int) < (parts : Int) by omega))))))) ?_; try exact ⟨⟩)
    have hlast : l[l.length - 1]? = some (l[l.length - 1]'(by omega)) := List.getElem?_eq_getElem _
    generalize l[l.length - 1]'(by omega) = pl at hlast
    have hbl : Bp pl := hB _ (List.mem_of_getElem? hlast)
    have hld : ∀ (b : Nat), ald (some true) (some 2) (some ⟨ptC l, g1, true⟩) b ((l.length - 1) * 2) g1 = some (ptv pl, b) := fun b => ald_pt0 hlast
    have wl : IntKind.i64.wrap ((l.length : Int) - 1) = ((l.length - 1 : Nat) : Int) := by rw [wi (by omega) (by omega)]; omega
    have q1 : (0 : Int) ≤ ((l.length - 1 : Nat) : Int) := by omega
    have q2 : ((l.length - 1 : Nat) : Int) < (l.length : Int) := by omega
    refine drawnU [(0, 9), (1, 9), (2, 9), (3, 9), (4, 9), (5, 9), (6, 9), (7, 9), (9, 10), (9, 11)] (by decide +kernel) ?_
    simp only [go_sem, Nat.reduceEqDiff, Nat.reduceAdd, Nat.reduceSub, Nat.reduceMul, Nat.reduceLT, Nat.reduceLeDiff, Int.reducePow, Int.reduceBEq, Int.reduceBNe, Int.reduceDiv, Int.reduceMod, Int.reduceEq, Int.reduceLT, Int.reduceLE, Int.reduceAdd, Int.reduceSub, Int.reduceMul, Int.reduceNeg, Int.reduceToNat, Int.reduceTDiv, Int.reduceTMod, ↓reduceIte, h8, h1, h0, h6, h7, wl, q1, q2, Int.toNat_natCast, Nat.zero_add, hld, ptv]
    refine (point_ (-2) 14 (by omega) (by omega) (by omega) _ ((tape_set h ⟨c0, c1⟩).app _)).x ?_
    rintro v H1 W1 ⟨⟨pn, d1⟩, ⟨e1, e2, d0, d2⟩, rfl, rfl, rfl⟩
    have bn : Bp pn := ⟨by simpa using e1, by simpa using e2⟩
    have hcap : l.length * 2 = (ptC l).length := (ptC_len l).symm
    have hcap2 : (l.length + 3) * 16 - 140737488355328 = 0 := Nat.sub_eq_zero_of_le (Nat.le_trans (Nat.mul_le_mul_right 16 (show l.length + 3 ≤ 4000 by omega)) (by decide))
    have hcap3 : l.length + 3 - 140737488355328 = 0 := Nat.sub_eq_zero_of_le (Nat.le_trans (show l.length + 3 ≤ 4000 by omega) (by decide))
    (refine sg (et (decide_eq_true htb) (et (old_set hb) (et (old_sset hb) (et (old_sget hb) (et (old_ne hb) (et (old_ne' hb) (et (old_ne0 hb) (et (old_ne0' hb) (et h8 (et h1 (et h0 (et h6 h7)))))))))))) ?_; try exact ⟨⟩)
    refine (next_ 2 (by omega) _ ((tape_set h ⟨d0, d2⟩).app _)).x ?_
    rintro v H1 W1 ⟨⟨q, f1⟩, ⟨q0, q1, f0, f2⟩, rfl, rfl, rfl⟩
    by_cases hq : q = 0
    · (refine sg (et (decide_eq_true htb) (et (old_set hb) (et (old_sset hb) (et (old_sget hb) (et h8 (et h1 (et h0 (et h6 (et h7 (et (bt hq) (et hcap (et hcap2 hcap3)))))))))))) ?_; try exact ⟨⟩)
      exact ⟨k - 1, by omega, snoc (snoc hD), l ++ [pl, pn, pn], g1 + 1, f1, _, i + 1, by omega, by simp; omega, fun p hp => by
        rcases List.mem_append.1 hp with hp | hp
        · exact hB p hp
        · simp at hp; rcases hp with rfl | rfl <;> assumption, f0, f2, by rw [ptC_app, List.length_append]; rfl, by rw [wi (by omega) (by omega)]; rfl⟩
    · (refine sg (et (decide_eq_true htb) (et (old_set hb) (et (old_sset hb) (et (old_sget hb) (et h8 (et h1 (et h0 (et h6 (et h7 (bf hq)))))))))) ?_; try exact ⟨⟩)
      refine drawnU [(0, 3), (1, 3), (3, 4), (0, 5), (1, 5), (3, 6), (5, 6)] (by decide +kernel) ?_
      (refine sg (et (decide_eq_true htb) (et (old_set hb) (et (old_sset hb) (et (old_sget hb) (et h8 (et h1 (et h0 (et h6 h7)))))))) ?_; try exact ⟨⟩)
      refine (point_ (-2) 14 (by omega) (by omega) (by omega) _ ((tape_set h ⟨f0, f2⟩).app _)).x ?_
      rintro v H1 W1 ⟨⟨pu, k1⟩, ⟨m1, m2, k0, k2⟩, rfl, rfl, rfl⟩
      (refine sg (et (decide_eq_true htb) (et (old_set hb) (et (old_sset hb) (et (old_sget hb) (et h8 (et h1 (et h0 (et h6 h7)))))))) ?_; try exact ⟨⟩)
      refine (point_ (-2) 14 (by omega) (by omega) (by omega) _ ((tape_set h ⟨k0, k2⟩).app _)).x ?_
      rintro v H1 W1 ⟨⟨pv, n1⟩, ⟨o1, o2, n0, n2⟩, rfl, rfl, rfl⟩
      (refine sg (et (decide_eq_true htb) (et (old_set hb) (et (old_sset hb) (et (old_sget hb) (et (old_ne hb) (et (old_ne' hb) (et (old_ne0 hb) (et (old_ne0' hb) (et h8 (et h1 (et h0 (et h6 (et h7 (et hcap (et hcap2 hcap3))))))))))))))) ?_; try exact ⟨⟩)
      have bu : Bp pu := ⟨by simpa using m1, by simpa using m2⟩
      have bv : Bp pv := ⟨by simpa using o1, by simpa using o2⟩
      exact ⟨k - 1, by omega, snoc (snoc (snoc (snoc hD))), l ++ [pu, pv, pn], g1 + 1, n1, _, i + 1, by omega, by simp; omega, fun p hp => by
        rcases List.mem_append.1 hp with hp | hp
        · exact hB p hp
        · simp at hp; rcases hp with rfl | rfl | rfl <;> assumption, n0, n2, by rw [ptC_app, List.length_append]; rfl, by rw [wi (by omega) (by omega)]; rfl⟩
  · (refine sg (et h8 (et h1 (et h0 (et h6 (et h7 (df (show ¬ (i : Int) < (parts : Int) by omega))))))) ?_; try exact ⟨⟩)
    have hi2 : i = parts := by omega
    subst hi2
    exact ⟨hD, (l, at_), H.length + 1, g1, ⟨hl, hB, c0, c1⟩, by omega, rfl, by rw [hget_sapp]; rfl, by rw [old_sget hb]⟩
end Go.Proofs.YtnebnbdeobcegaaGreat
/- Chapters 7 and 8: the walks of paths that may be, and of their straight lines. -/
namespace Go.Proofs.YtnebnbdeobcegaaGreat
open Go Go.RowKit E
attribute [local irreducible] XRun XOps XCode XCal XLoop XQ SemCall
set_option linter.unusedSimpArgs false
set_option linter.unusedVariables false
def nearB (x : Int) : Bool := decide (-67108864 ≤ x) && decide (x ≤ 67108864)
def nrp (p : Pt) : Bool := nearB p.1 && nearB p.2
/-- A row of points, as it may lie. -/
def Pts (H : AH) (pv : Value) (l : List Pt) : Prop :=
  (l = [] ∧ ((∃ e, pv = .slice (some ⟨0, 0, none⟩) 0 e) ∨ pv = .slice none 0 0)) ∨
  ∃ b g rest rw_, pv = sl b 0 g l.length 2 ∧ H[b]? = some ⟨ptC l ++ rest, g, rw_⟩ ∧ l.length ≤ 9223372036854775807
theorem Pts.app {H : AH} {pv : Value} {l : List Pt} (h : Pts H pv l) (L : AH) : Pts (H ++ L) pv l := by
  rcases h with h | ⟨b, g, rest, rw_, h1, h2, h3⟩
  · exact .inl h
  · exact .inr ⟨b, g, rest, rw_, h1, old_get h2 L, h3⟩
theorem Pts.form {H : AH} {pv : Value} {l : List Pt} (h : Pts H pv l) : ∃ a e, pv = .slice a l.length e := by
  rcases h with ⟨rfl, ⟨e, rfl⟩ | rfl⟩ | ⟨b, g, rest, rw_, rfl, _⟩
  · exact ⟨_, _, rfl⟩
  · exact ⟨_, _, rfl⟩
  · exact ⟨_, _, rfl⟩
theorem Pts.len {H : AH} {pv : Value} {l : List Pt} (h : Pts H pv l) : l.length ≤ 9223372036854775807 := by
  rcases h with ⟨rfl, _⟩ | ⟨b, g, rest, rw_, rfl, _, h⟩
  · simp
  · exact h
theorem Pts.ne {H : AH} {pv : Value} {l : List Pt} (h : Pts H pv l) (hn : ¬ l = []) : ∃ b g rest rw_, pv = sl b 0 g l.length 2 ∧ H[b]? = some ⟨ptC l ++ rest, g, rw_⟩ ∧ l.length ≤ 9223372036854775807 := h.resolve_left fun h => hn h.1
theorem near_ (x : Int) (H : AH) : SemCall Tryz.prog 76 [.int .i64 x] H (.bool (nearB x)) H [] := by
  refine pure_of ?_ rfl
  unfold nearB
  by_cases h : -67108864 ≤ x
  · refine XCal.of hm Tryz.func76 rfl (fun xs w => Tryz.call76 xs w) Tryz.ntmps76 Tryz.results76 rfl ?_
    (refine sg h ?_; try exact ⟨⟩)
  · refine XCal.of hm Tryz.func76 rfl (fun xs w => Tryz.call76 xs w) Tryz.ntmps76 Tryz.results76 rfl ?_
    (refine sg h ?_; try exact ⟨⟩)
theorem far_ (p : Pt) (H : AH) : SemCall Tryz.prog 75 [ptv p] H (.bool (!nrp p)) H [] := by
  refine pure_of ?_ rfl
  unfold nrp
  cases h : nearB p.1
  all_goals
    refine XCal.of hm Tryz.func75 rfl (fun xs w => Tryz.call75 xs w) Tryz.ntmps75 Tryz.results75 rfl ?_
    simp only [go_sem, Nat.reduceEqDiff, Nat.reduceAdd, Nat.reduceSub, Nat.reduceMul, Nat.reduceLT, Nat.reduceLeDiff, Int.reducePow, Int.reduceBEq, Int.reduceBNe, Int.reduceDiv, Int.reduceMod, Int.reduceEq, Int.reduceLT, Int.reduceLE, Int.reduceAdd, Int.reduceSub, Int.reduceMul, Int.reduceNeg, Int.reduceToNat, Int.reduceTDiv, Int.reduceTMod, ↓reduceIte, ptv]
    repeat ((first | refine (near_ _ _).x ?_ | refine drawnF ?_ (by decide +kernel)); (refine sg h ?_; try exact ⟨⟩))
theorem rnearp_ (p : Pt) (H : AH) : SemCall Tryz.prog 89 [ptv p] H (.bool (nrp p)) H [] := by
  refine pure_of ?_ rfl
  unfold nrp nearB
  cases h1 : decide (-67108864 ≤ p.1) with
  | false =>
    refine XCal.of hm Tryz.func89 rfl (fun xs w => Tryz.call89 xs w) Tryz.ntmps89 Tryz.results89 rfl ?_
    simp only [go_sem, Nat.reduceEqDiff, Nat.reduceAdd, Nat.reduceSub, Nat.reduceMul, Nat.reduceLT, Nat.reduceLeDiff, Int.reducePow, Int.reduceBEq, Int.reduceBNe, Int.reduceDiv, Int.reduceMod, Int.reduceEq, Int.reduceLT, Int.reduceLE, Int.reduceAdd, Int.reduceSub, Int.reduceMul, Int.reduceNeg, Int.reduceToNat, Int.reduceTDiv, Int.reduceTMod, ↓reduceIte, ptv, h1]
  | true =>
    cases h2 : decide (p.1 ≤ 67108864) with
    | false =>
      refine XCal.of hm Tryz.func89 rfl (fun xs w => Tryz.call89 xs w) Tryz.ntmps89 Tryz.results89 rfl ?_
      simp only [go_sem, Nat.reduceEqDiff, Nat.reduceAdd, Nat.reduceSub, Nat.reduceMul, Nat.reduceLT, Nat.reduceLeDiff, Int.reducePow, Int.reduceBEq, Int.reduceBNe, Int.reduceDiv, Int.reduceMod, Int.reduceEq, Int.reduceLT, Int.reduceLE, Int.reduceAdd, Int.reduceSub, Int.reduceMul, Int.reduceNeg, Int.reduceToNat, Int.reduceTDiv, Int.reduceTMod, ↓reduceIte, ptv, h1, h2]
    | true =>
      cases h3 : decide (-67108864 ≤ p.2) with
      | false =>
        refine XCal.of hm Tryz.func89 rfl (fun xs w => Tryz.call89 xs w) Tryz.ntmps89 Tryz.results89 rfl ?_
        simp only [go_sem, Nat.reduceEqDiff, Nat.reduceAdd, Nat.reduceSub, Nat.reduceMul, Nat.reduceLT, Nat.reduceLeDiff, Int.reducePow, Int.reduceBEq, Int.reduceBNe, Int.reduceDiv, Int.reduceMod, Int.reduceEq, Int.reduceLT, Int.reduceLE, Int.reduceAdd, Int.reduceSub, Int.reduceMul, Int.reduceNeg, Int.reduceToNat, Int.reduceTDiv, Int.reduceTMod, ↓reduceIte, ptv, h1, h2, h3]
      | true =>
        refine XCal.of hm Tryz.func89 rfl (fun xs w => Tryz.call89 xs w) Tryz.ntmps89 Tryz.results89 rfl ?_
        simp only [go_sem, Nat.reduceEqDiff, Nat.reduceAdd, Nat.reduceSub, Nat.reduceMul, Nat.reduceLT, Nat.reduceLeDiff, Int.reducePow, Int.reduceBEq, Int.reduceBNe, Int.reduceDiv, Int.reduceMod, Int.reduceEq, Int.reduceLT, Int.reduceLE, Int.reduceAdd, Int.reduceSub, Int.reduceMul, Int.reduceNeg, Int.reduceToNat, Int.reduceTDiv, Int.reduceTMod, ↓reduceIte, ptv, h1, h2, h3]
def idxL : List Pt → Nat → Int
  | [], _ => -1
  | p :: t, i => if nrp p then idxL t (i + 1) else i
theorem idxL_ge : ∀ (l : List Pt) (i : Nat), decide (0 ≤ idxL l i) = !(l.all nrp)
  | [], i => rfl
  | p :: t, i => by
    by_cases h : nrp p = true
    · have : idxL (p :: t) i = idxL t (i + 1) := by simp only [idxL, h, if_true]
      rw [this, idxL_ge t (i + 1), List.all_cons, h, Bool.true_and]
    · have h' : nrp p = false := by simpa using h
      have : idxL (p :: t) i = (i : Int) := by simp only [idxL, h', Bool.false_eq_true, if_false]
      rw [this, List.all_cons, h']; simp
theorem drop_cons {α : Type} {l : List α} {i : Nat} (h : i < l.length) : l.drop i = l[i] :: l.drop (i + 1) := List.drop_eq_getElem_cons h
theorem index_ (l : List Pt) (pv : Value) (H : AH) (h : Pts H pv l) : SemCall Tryz.prog 102 [pv, .func (.func 75) [].toArray [].toArray] H (.int .i64 (idxL l 0)) H [] := by
  have hlen := h.len
  refine pure_of ?_ rfl
  by_cases hn : l = []
  · subst hn
    obtain ⟨a, e, rfl⟩ := h.form
    refine XCal.of hm Tryz.func102 rfl (fun xs w => Tryz.call102 xs w) Tryz.ntmps102 Tryz.results102 rfl ?_
    (refine sg trivial ?_; try exact ⟨⟩)
    refine rounds 1 ?_
    simp only [go_sem, Nat.reduceEqDiff, Nat.reduceAdd, Nat.reduceSub, Nat.reduceMul, Nat.reduceLT, Nat.reduceLeDiff, Int.reducePow, Int.reduceBEq, Int.reduceBNe, Int.reduceDiv, Int.reduceMod, Int.reduceEq, Int.reduceLT, Int.reduceLE, Int.reduceAdd, Int.reduceSub, Int.reduceMul, Int.reduceNeg, Int.reduceToNat, Int.reduceTDiv, Int.reduceTMod, ↓reduceIte, List.length_nil, show ((0 : Nat) : Int) = 0 from rfl]
    rfl
  · obtain ⟨b, g, rest, rw_, rfl, hb, _⟩ := h.ne hn
    refine XCal.of hm Tryz.func102 rfl (fun xs w => Tryz.call102 xs w) Tryz.ntmps102 Tryz.results102 rfl ?_
    (refine sg trivial ?_; try exact ⟨⟩)
    refine keep (fun k T H' D => H' = H ∧ D = [] ∧ T 0 = sl b 0 g l.length 2 ∧ T 1 = .func (.func 75) [].toArray [].toArray ∧ T 7 = .int .i64 (l.length : Int) ∧ ∃ i : Nat, i + k = l.length ∧ T 8 = .int .i64 (i : Int) ∧ idxL (l.drop i) i = idxL l 0) l.length ⟨rfl, rfl, rfl, rfl, rfl, 0, by omega, rfl, rfl⟩ ?_
    rintro k T H' D ⟨rfl, rfl, h0, h1, h7, i, hi, h8, hx⟩
    by_cases hk : i < l.length
    · have hel : l[i]? = some l[i] := List.getElem?_eq_getElem hk
      have hld := fun (b : Nat) => ald_pt (b := b) (g := g) (rw_ := rw_) rest hel
      rw [drop_cons hk] at hx
      simp only [idxL] at hx
      simp only [go_sem, Nat.reduceEqDiff, Nat.reduceAdd, Nat.reduceSub, Nat.reduceMul, Nat.reduceLT, Nat.reduceLeDiff, Int.reducePow, Int.reduceBEq, Int.reduceBNe, Int.reduceDiv, Int.reduceMod, Int.reduceEq, Int.reduceLT, Int.reduceLE, Int.reduceAdd, Int.reduceSub, Int.reduceMul, Int.reduceNeg, Int.reduceToNat, Int.reduceTDiv, Int.reduceTMod, ↓reduceIte, h0, h1, h7, h8, dt (show (i : Int) < (l.length : Int) by omega), hb, show (0 : Int) ≤ (i : Int) by omega, show (i : Int) < (l.length : Int) by omega, Int.toNat_natCast, Nat.zero_add, hld, ptv]
      refine (far_ l[i] _).x ?_
      cases hq : nrp l[i] with
      | true =>
        rw [hq] at hx
        (refine sg (et h0 (et h1 (et h7 h8))) ?_; try exact ⟨⟩)
        exact ⟨k - 1, by omega, i + 1, by omega, by rw [wi (by omega) (by omega)]; rfl, hx⟩
      | false =>
        rw [hq] at hx
        (refine sg (et h0 (et h1 (et h7 h8))) ?_; try exact ⟨⟩)
        rw [← hx]; rfl
    · have : l.drop i = [] := List.drop_eq_nil_of_le (by omega)
      rw [this] at hx
      (refine sg (et h0 (et h1 (et h7 (et h8 (df (show ¬ (i : Int) < (l.length : Int) by omega)))))) ?_; try exact ⟨⟩)
      rw [← hx]; rfl
theorem contains_ (l : List Pt) (pv : Value) (H : AH) (h : Pts H pv l) : SemCall Tryz.prog 74 [pv, .func (.func 75) [].toArray [].toArray] H (.bool (!(l.all nrp))) H [] := by
  refine pure_of ?_ rfl
  refine XCal.of hm Tryz.func74 rfl (fun xs w => Tryz.call74 xs w) Tryz.ntmps74 Tryz.results74 rfl ?_
  (refine sg trivial ?_; try exact ⟨⟩)
  repeat ((first | refine (index_ l pv _ h).x ?_ | refine drawnF ?_ (by decide +kernel)); (refine sg idxL_ge ?_; try exact ⟨⟩))
def rightB (c : Bool) (l : List Pt) : Bool := if l.length = 0 then !c else decide ((4 : Int) ≤ l.length) && decide ((l.length : Int) ≤ 97) && ((l.length : Int).tmod 3 == 1) && l.all nrp
theorem right_ (c : Bool) (l : List Pt) (pv : Value) (H : AH) (h : Pts H pv l) : SemCall Tryz.prog 47 [.agg [.bool c, pv].toArray] H (.bool (rightB c l)) H [] := by
  have hlen := h.len
  refine pure_of ?_ rfl
  unfold rightB
  obtain ⟨a, e, hpv⟩ := h.form
  by_cases hn : l.length = 0
  · rw [if_pos hn]
    subst hpv
    refine XCal.of hm Tryz.func47 rfl (fun xs w => Tryz.call47 xs w) Tryz.ntmps47 Tryz.results47 rfl ?_
    (refine sg (et hn (show ((0 : Nat) : Int) = 0 from rfl)) ?_; try exact ⟨⟩)
  · rw [if_neg hn]
    have hc := fun L => contains_ l pv (H ++ L) (h.app L)
    subst hpv
    cases h1 : decide ((4 : Int) ≤ l.length) with
    | false =>
      refine XCal.of hm Tryz.func47 rfl (fun xs w => Tryz.call47 xs w) Tryz.ntmps47 Tryz.results47 rfl ?_
      (refine sg (et (bf (show ¬ (l.length : Int) = 0 by omega)) h1) ?_; try exact ⟨⟩)
      repeat ((first | refine (hc _).x ?_ | refine drawnF ?_ (by decide +kernel)); (refine sg (et h1 Bool.not_not) ?_; try exact ⟨⟩))
    | true =>
      cases h2 : decide ((l.length : Int) ≤ 97) with
      | false =>
        refine XCal.of hm Tryz.func47 rfl (fun xs w => Tryz.call47 xs w) Tryz.ntmps47 Tryz.results47 rfl ?_
        (refine sg (et (bf (show ¬ (l.length : Int) = 0 by omega)) (et h1 h2)) ?_; try exact ⟨⟩)
        repeat ((first | refine (hc _).x ?_ | refine drawnF ?_ (by decide +kernel)); (refine sg (et h1 (et h2 Bool.not_not)) ?_; try exact ⟨⟩))
      | true =>
        cases h3 : ((l.length : Int).tmod 3 == 1) with
        | false =>
          refine XCal.of hm Tryz.func47 rfl (fun xs w => Tryz.call47 xs w) Tryz.ntmps47 Tryz.results47 rfl ?_
          (refine sg (et (bf (show ¬ (l.length : Int) = 0 by omega)) (et h1 (et h2 h3))) ?_; try exact ⟨⟩)
          repeat ((first | refine (hc _).x ?_ | refine drawnF ?_ (by decide +kernel)); (refine sg (et h1 (et h2 (et h3 Bool.not_not))) ?_; try exact ⟨⟩))
        | true =>
          refine XCal.of hm Tryz.func47 rfl (fun xs w => Tryz.call47 xs w) Tryz.ntmps47 Tryz.results47 rfl ?_
          (refine sg (et (bf (show ¬ (l.length : Int) = 0 by omega)) (et h1 (et h2 h3))) ?_; try exact ⟨⟩)
          repeat ((first | refine (hc _).x ?_ | refine drawnF ?_ (by decide +kernel)); (refine sg (et h1 (et h2 (et h3 Bool.not_not))) ?_; try exact ⟨⟩))
end Go.Proofs.YtnebnbdeobcegaaGreat
/- Chapter 8: the walk of what makes straight lines of a path. -/
namespace Go.Proofs.YtnebnbdeobcegaaGreat
open Go Go.RowKit E
attribute [local irreducible] XRun XOps XCode XCal XLoop XQ SemCall
set_option linter.unusedSimpArgs false
set_option linter.unusedVariables false
def flatGo : List Pt → List Pt
  | a :: b :: c :: d :: t => (if b = a ∧ c = d then [d] else bentL 3 a b c d) ++ flatGo (d :: t)
  | _ => []
def flatL : List Pt → List Pt
  | [] => []
  | p :: t => p :: flatGo (p :: t)
abbrev poly (c : Bool) (v : Value) : Value := .agg [.bool c, v].toArray
theorem empty_ (c : Bool) (l : List Pt) (pv : Value) (H : AH) (h : Pts H pv l) : SemCall Tryz.prog 48 [.agg [.bool c, pv].toArray] H (.bool ((l.length : Int) == 0)) H [] := by
  obtain ⟨a, e, rfl⟩ := h.form
  refine pure_of ?_ rfl
  refine XCal.of hm Tryz.func48 rfl (fun xs w => Tryz.call48 xs w) Tryz.ntmps48 Tryz.results48 rfl ?_
  (refine sg trivial ?_; try exact ⟨⟩)
end Go.Proofs.YtnebnbdeobcegaaGreat
/- Chapter 8: the walks of the known runs, and of the law on what is within. -/
namespace Go.Proofs.YtnebnbdeobcegaaGreat
open Go Go.RowKit E
attribute [local irreducible] XRun XOps XCode XCal XLoop XQ SemCall
set_option linter.unusedSimpArgs false
set_option linter.unusedVariables false
def mn (a b : Int) : Int := if b < a then b else a
def mx (a b : Int) : Int := if a < b then b else a
end Go.Proofs.YtnebnbdeobcegaaGreat
/- Chapter 8: the walk of the law on how many places there are. -/
namespace Go.Proofs.YtnebnbdeobcegaaGreat
open Go Go.RowKit E
attribute [local irreducible] XRun XOps XCode XCal XLoop XQ SemCall
set_option linter.unusedSimpArgs false
set_option linter.unusedVariables false
theorem nearB_of {x : Int} (h : -131072 ≤ x ∧ x < 983040) : nearB x = true := by unfold nearB; rw [dt (show -67108864 ≤ x by omega), dt (show x ≤ 67108864 by omega)]; rfl
theorem nrp_of {p : Pt} (h : Bp p) : nrp p = true := by unfold nrp; rw [nearB_of h.1, nearB_of h.2]; rfl
theorem right_of (c : Bool) {l : List Pt} {parts : Nat} (hl : l.length = 3 * parts + 1) (hB : ∀ p ∈ l, Bp p) (h1 : 1 ≤ parts) (h2 : parts ≤ 32) : rightB c l = true := by
  unfold rightB
  rw [if_neg (by omega), dt (show (4 : Int) ≤ (l.length : Int) by omega), dt (show (l.length : Int) ≤ 97 by omega), List.all_eq_true.2 (fun p hp => nrp_of (hB p hp)), Int.tmod_eq_emod_of_nonneg (by omega), bt (show (l.length : Int) % 3 = 1 by omega)]; rfl
theorem newTape {H : AH} {t : Nat} {lv : Value} {ls : List Int} (h : Ints H t lv ls) (L L' : AH) (n : Nat) (hn : n = H.length + L.length) : TapeAt (H ++ (L ++ (tblk lv 0 0 :: L'))) n 0 lv ls := by
  subst hn
  refine ⟨(h.to (by omega)).app _, 0, by omega, by omega, ?_⟩
  rw [hget_app, List.getElem?_append_right (by omega), Nat.sub_self]; rfl
end Go.Proofs.YtnebnbdeobcegaaGreat
