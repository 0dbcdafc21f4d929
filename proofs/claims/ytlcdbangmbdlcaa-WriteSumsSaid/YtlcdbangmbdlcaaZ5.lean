/- Merged texts: Base Bits Q1 Q2 Q3 Q4 Q5 Tri Book Tape Mat Flat1 Path Flat2 Flat3 Flat4 Box1 Box2 Box3 Box4 Box5 Flat6 Flat7 Flat8. -/
import Derived.Test.YtlcdbangmbdlcaaZ4
import Derived.IntWalk
import Derived.Lib.Mul64
import Derived.KernelRfl
/- Small things that all walks use: the numbers' kinds; a number held between two. -/
namespace Go.Proofs.Ytlcdbangmbdlcaa
open Go Go.RowKit E
theorem hm : Try.prog.follows .mixedOrders = true := by decide
theorem wi {n : Int} (h1 : -9223372036854775808 ≤ n) (h2 : n ≤ 9223372036854775807) : IntKind.i64.wrap n = n := by rw [IntKind.wrap_i64]; omega
abbrev I64 (a : Int) : Prop := -9223372036854775808 ≤ a ∧ a ≤ 9223372036854775807
def clamp (a lo hi : Int) : Int := if a < lo then lo else if hi < a then hi else a
def hold (a : Int) : Int := clamp a (-1099511627776) 1099511627776
def place (a : Int) : Int := clamp a (-536870912) 536870912
def qadd (a b : Int) : Int := hold (hold a + hold b)
def qmul (a b : Int) : Int := hold ((hold a * hold b) / 65536)
def qdiv (a b : Int) : Int := if hold b = 0 then 0 else hold (Int.fdiv (hold a * 65536) (hold b))
/-- The greatest number whose square is at most another one, bit by bit. -/
def sqL : Nat → Nat → Nat → Nat
  | 0, _, r => r
  | k + 1, n, r => sqL k n (if (r + 2 ^ k) * (r + 2 ^ k) ≤ n then r + 2 ^ k else r)
def isq (n : Int) : Int := (sqL 32 n.toNat 0 : Nat)
def root (a : Int) : Int := isq (clamp a 0 1099511627776 * 65536)
def hyp (x y : Int) : Int := isq (clamp x (-1073741824) 1073741824 * clamp x (-1073741824) 1073741824 + clamp y (-1073741824) 1073741824 * clamp y (-1073741824) 1073741824)
def mid (a b t : Int) : Int := qadd (hold a) (qmul (qadd b (-(hold a))) t)
end Go.Proofs.Ytlcdbangmbdlcaa
/- Bits: shifts, masks, numbers without sign. -/
namespace Go.Proofs.Ytlcdbangmbdlcaa
open Go Go.RowKit E
@[go_sem] theorem abin_shl' {P : Program} {t : TypeId} {k yk : IntKind} {a m : Int} (h : (0 ≤ m) = True) : abin P .shl t (.int k a) (.int yk m) = some (.int k (k.wrap (a * 2 ^ min m.toNat k.bits))) := by
  have h := of_eq_true h
  simp only [abin, isShift, or_true, if_true, aint, h]
@[go_sem] theorem abin_shr' {P : Program} {t : TypeId} {k yk : IntKind} {a m : Int} (h : (0 ≤ m) = True) : abin P .shr t (.int k a) (.int yk m) = some (.int k (a.fdiv (2 ^ min m.toNat k.bits))) := by
  have h := of_eq_true h
  simp only [abin, isShift, or_true, if_true, aint, h]
@[go_sem] theorem fdiv_pos {a b : Int} (h : (0 ≤ b) = True) : a.fdiv b = a / b := Int.fdiv_eq_ediv_of_nonneg a (of_eq_true h)
@[go_sem] theorem min_l {a b : Nat} (h : (a ≤ b) = True) : min a b = a := Nat.min_eq_left (of_eq_true h)
/-- What has nothing below a place, and what lies below it. -/
theorem or_add (k a b : Nat) (hb : b < 2 ^ k) : a * 2 ^ k ||| b = a * 2 ^ k + b := by
  rw [Nat.mul_comm, Nat.two_pow_add_eq_or_of_lt hb]
theorem bt {a b : Int} (h : a = b) : (a == b) = true := by simp [h]
theorem bf {a b : Int} (h : ¬ a = b) : (a == b) = false := by simp [h]
theorem nt {a b : Int} (h : a = b) : (a != b) = false := by simp [h]
theorem nf {a b : Int} (h : ¬ a = b) : (a != b) = true := by simp [h]
theorem dt {p : Prop} [Decidable p] (h : p) : decide p = true := decide_eq_true h
theorem df {p : Prop} [Decidable p] (h : ¬ p) : decide p = false := decide_eq_false h
end Go.Proofs.Ytlcdbangmbdlcaa
/- Chapter 1: the walks of what holds, adds, multiplies. -/
namespace Go.Proofs.Ytlcdbangmbdlcaa
open Go Go.RowKit E
attribute [local irreducible] XRun XOps XCode XCal XLoop XQ SemCall
set_option linter.unusedSimpArgs false
set_option linter.unusedVariables false
end Go.Proofs.Ytlcdbangmbdlcaa
/- Chapter 1: the walks of quotients, roots, what lies between. -/
namespace Go.Proofs.Ytlcdbangmbdlcaa
open Go Go.RowKit E
attribute [local irreducible] XRun XOps XCode XCal XLoop XQ SemCall
set_option linter.unusedSimpArgs false
set_option linter.unusedVariables false
theorem negdiv (a b : Int) (hb : 0 < b) : (-a) / b = -(a / b) - (if a % b = 0 then 0 else 1) ∧ (-a) % b = (if a % b = 0 then 0 else b - a % b) := by
  have e := Int.mul_ediv_add_emod a b
  have h1 := Int.emod_nonneg a (show b ≠ 0 by omega)
  have h2 := Int.emod_lt_of_pos a hb
  refine (Int.ediv_emod_unique hb).2 ?_
  split
  · rename_i h
    refine ⟨?_, by omega, by omega⟩
    rw [Int.sub_zero, Int.mul_neg]; omega
  · refine ⟨?_, by omega, by omega⟩
    rw [Int.mul_sub, Int.mul_neg, Int.mul_one]; omega
/-- A quotient cut to nought and one rounded down, by signs. -/
theorem tdiv_pp {a b : Int} (ha : 0 ≤ a) (hb : 0 < b) : a.tdiv b = a / b ∧ a.tmod b = a % b ∧ a.fdiv b = a / b :=
  ⟨Int.tdiv_eq_ediv_of_nonneg ha, Int.tmod_eq_emod_of_nonneg ha, Int.fdiv_eq_ediv_of_nonneg a (by omega)⟩
theorem tdiv_np {a b : Int} (ha : 0 ≤ a) (hb : 0 < b) : (-a).tdiv b = -(a / b) ∧ (-a).tmod b = -(a % b) ∧ (-a).fdiv b = -(a / b) - (if a % b = 0 then 0 else 1) :=
  ⟨by rw [Int.neg_tdiv, Int.tdiv_eq_ediv_of_nonneg ha], by rw [Int.neg_tmod, Int.tmod_eq_emod_of_nonneg ha], by rw [Int.fdiv_eq_ediv_of_nonneg _ (by omega), (negdiv a b hb).1]⟩
end Go.Proofs.Ytlcdbangmbdlcaa
/- Chapter 1: the walks of the document's own numbers. -/
namespace Go.Proofs.Ytlcdbangmbdlcaa
open Go Go.RowKit E
attribute [local irreducible] XRun XOps XCode XCal XLoop XQ SemCall
set_option linter.unusedSimpArgs false
set_option linter.unusedVariables false
/-- What the long division comes to, with a sign, held. -/
def rdn (n r : Int) (minus : Bool) : Int := hold (if minus = true then -n - (if r = 0 then 0 else 1) else n)
end Go.Proofs.Ytlcdbangmbdlcaa
/- Chapter 1: the walks of what the statements call: both numbers alike, some known runs. -/
namespace Go.Proofs.Ytlcdbangmbdlcaa
open Go Go.RowKit E
attribute [local irreducible] XRun XOps XCode XCal XLoop XQ SemCall
set_option linter.unusedSimpArgs false
set_option linter.unusedVariables false
end Go.Proofs.Ytlcdbangmbdlcaa
/- Chapter 1: the walks of the laws on numbers. -/
namespace Go.Proofs.Ytlcdbangmbdlcaa
open Go Go.RowKit E
attribute [local irreducible] XRun XOps XCode XCal XLoop XQ SemCall
set_option linter.unusedSimpArgs false
set_option linter.unusedVariables false
theorem tm_b (a : Int) {n : Int} (hn : 0 < n) : -n < a.tmod n ∧ a.tmod n < n := by
  rcases Int.lt_or_le a 0 with h | h
  · have f := tdiv_np (a := -a) (b := n) (by omega) hn
    rw [Int.neg_neg] at f
    have := Int.emod_nonneg (-a) (show n ≠ 0 by omega)
    have := Int.emod_lt_of_pos (-a) hn
    omega
  · have f := tdiv_pp h hn
    have := Int.emod_nonneg a (show n ≠ 0 by omega)
    have := Int.emod_lt_of_pos a hn
    omega
abbrev Nr (x : Int) : Prop := -67108864 < x ∧ x < 67108864
end Go.Proofs.Ytlcdbangmbdlcaa
/- Chapter 2: the walks of angles. -/
namespace Go.Proofs.Ytlcdbangmbdlcaa
open Go Go.RowKit E
attribute [local irreducible] XRun XOps XCode XCal XLoop XQ SemCall
set_option linter.unusedSimpArgs false
set_option linter.unusedVariables false
theorem tmod_emod (a : Int) {n : Int} (hn : 0 < n) : a.tmod n = if 0 ≤ a then a % n else (if a % n = 0 then 0 else a % n - n) := by
  rcases Int.lt_or_le a 0 with h | h
  · have f := tdiv_np (a := -a) (b := n) (by omega) hn
    rw [Int.neg_neg] at f
    have g := (negdiv (-a) n hn).2
    rw [Int.neg_neg] at g
    have := Int.emod_nonneg (-a) (show n ≠ 0 by omega)
    have := Int.emod_lt_of_pos (-a) hn
    rw [f.2.1, if_neg (by omega), g]
    split
    · rw [if_pos rfl]; omega
    · rw [if_neg (by omega)]; omega
  · rw [if_pos h]; exact Int.tmod_eq_emod_of_nonneg h
/-- A half round's sine. -/
def core (x : Int) : Int := 4 * (x * (11796480 - x) / 65536) * 65536 / (2654208000 - x * (11796480 - x) / 65536)
def sn (a : Int) : Int := if a % 23592960 ≥ 11796480 then -(core (a % 23592960 - 11796480)) else core (a % 23592960)
def cs (a : Int) : Int := sn (a % 23592960 + 5898240)
end Go.Proofs.Ytlcdbangmbdlcaa
/- A number brought within two. -/
namespace Go.Proofs.Ytlcdbangmbdlcaa
open Go Go.RowKit E
attribute [local irreducible] XRun XOps XCode XCal XLoop XQ SemCall
set_option linter.unusedSimpArgs false
set_option linter.unusedVariables false
def wth (n lo hi : Int) : Int := if lo ≤ n ∧ n ≤ hi then n else lo + n % (hi - lo + 1)
theorem wth_b (n : Int) {lo hi : Int} (h : lo ≤ hi) : lo ≤ wth n lo hi ∧ wth n lo hi ≤ hi := by
  unfold wth; split
  · assumption
  · have := Int.emod_nonneg n (show hi - lo + 1 ≠ 0 by omega)
    have := Int.emod_lt_of_pos n (show 0 < hi - lo + 1 by omega)
    omega
theorem within_ (n lo hi : Int) (h : lo ≤ hi) (h1 : -1152921504606846976 ≤ lo) (h2 : hi ≤ 1152921504606846976) (H : AH) : SemCall Try.prog 14 [.int .i64 n, .int .i64 lo, .int .i64 hi] H (.int .i64 (wth n lo hi)) H [] := by
  refine pure_of ?_ rfl
  unfold wth
  by_cases g1 : lo ≤ n
  · by_cases g2 : n ≤ hi
    · rw [if_pos ⟨g1, g2⟩]
      refine XCal.of hm Try.func14 rfl (fun xs w => Try.call14 xs w) Try.ntmps14 Try.results14 rfl ?_
      simp only [go_sem, Nat.reduceEqDiff, Nat.reduceAdd, Nat.reduceSub, Nat.reduceMul, Nat.reduceLT, Nat.reduceLeDiff, Int.reducePow, Int.reduceBEq, Int.reduceBNe, Int.reduceDiv, Int.reduceMod, Int.reduceEq, Int.reduceLT, Int.reduceLE, Int.reduceAdd, Int.reduceSub, Int.reduceMul, Int.reduceNeg, Int.reduceToNat, Int.reduceTDiv, Int.reduceTMod, ↓reduceIte, g1, g2]
    · rw [if_neg (fun h => g2 h.2)]
      have w0 : IntKind.i64.wrap (hi - lo) = hi - lo := wi (by omega) (by omega)
      have w1 : IntKind.i64.wrap (hi - lo + 1) = hi - lo + 1 := wi (by omega) (by omega)
      have hq := tmod_emod n (n := hi - lo + 1) (by omega)
      have hb := tm_b n (n := hi - lo + 1) (by omega)
      have e0 := Int.emod_nonneg n (show hi - lo + 1 ≠ 0 by omega)
      have e1 := Int.emod_lt_of_pos n (show 0 < hi - lo + 1 by omega)
      have n0 : ¬ hi - lo + 1 = 0 := by omega
      by_cases k : n.tmod (hi - lo + 1) < 0
      · have e : IntKind.i64.wrap (lo + IntKind.i64.wrap (IntKind.i64.wrap (IntKind.i64.wrap (n.tmod (hi - lo + 1) + hi) - lo) + 1)) = lo + n % (hi - lo + 1) := by
          generalize hd : hi - lo + 1 = d at *
          rw [wi (n := n.tmod d + hi) (by omega) (by omega), wi (n := n.tmod d + hi - lo) (by omega) (by omega), wi (n := n.tmod d + hi - lo + 1) (by omega) (by omega), wi (by split at hq <;> (try split at hq) <;> omega) (by split at hq <;> (try split at hq) <;> omega)]
          split at hq <;> (try split at hq) <;> omega
        refine XCal.of hm Try.func14 rfl (fun xs w => Try.call14 xs w) Try.ntmps14 Try.results14 rfl ?_
        simp only [go_sem, Nat.reduceEqDiff, Nat.reduceAdd, Nat.reduceSub, Nat.reduceMul, Nat.reduceLT, Nat.reduceLeDiff, Int.reducePow, Int.reduceBEq, Int.reduceBNe, Int.reduceDiv, Int.reduceMod, Int.reduceEq, Int.reduceLT, Int.reduceLE, Int.reduceAdd, Int.reduceSub, Int.reduceMul, Int.reduceNeg, Int.reduceToNat, Int.reduceTDiv, Int.reduceTMod, ↓reduceIte, g1, g2, w0, w1, n0, k, e]
      · have e : IntKind.i64.wrap (lo + n.tmod (hi - lo + 1)) = lo + n % (hi - lo + 1) := by
          generalize hd : hi - lo + 1 = d at *
          rw [wi (by omega) (by omega)]
          split at hq <;> (try split at hq) <;> omega
        refine XCal.of hm Try.func14 rfl (fun xs w => Try.call14 xs w) Try.ntmps14 Try.results14 rfl ?_
        simp only [go_sem, Nat.reduceEqDiff, Nat.reduceAdd, Nat.reduceSub, Nat.reduceMul, Nat.reduceLT, Nat.reduceLeDiff, Int.reducePow, Int.reduceBEq, Int.reduceBNe, Int.reduceDiv, Int.reduceMod, Int.reduceEq, Int.reduceLT, Int.reduceLE, Int.reduceAdd, Int.reduceSub, Int.reduceMul, Int.reduceNeg, Int.reduceToNat, Int.reduceTDiv, Int.reduceTMod, ↓reduceIte, g1, g2, w0, w1, n0, k, e]
  · rw [if_neg (fun h => g1 h.1)]
    have w0 : IntKind.i64.wrap (hi - lo) = hi - lo := wi (by omega) (by omega)
    have w1 : IntKind.i64.wrap (hi - lo + 1) = hi - lo + 1 := wi (by omega) (by omega)
    have hq := tmod_emod n (n := hi - lo + 1) (by omega)
    have hb := tm_b n (n := hi - lo + 1) (by omega)
    have e0 := Int.emod_nonneg n (show hi - lo + 1 ≠ 0 by omega)
    have e1 := Int.emod_lt_of_pos n (show 0 < hi - lo + 1 by omega)
    have n0 : ¬ hi - lo + 1 = 0 := by omega
    by_cases k : n.tmod (hi - lo + 1) < 0
    · have e : IntKind.i64.wrap (lo + IntKind.i64.wrap (IntKind.i64.wrap (IntKind.i64.wrap (n.tmod (hi - lo + 1) + hi) - lo) + 1)) = lo + n % (hi - lo + 1) := by
        generalize hd : hi - lo + 1 = d at *
        rw [wi (n := n.tmod d + hi) (by omega) (by omega), wi (n := n.tmod d + hi - lo) (by omega) (by omega), wi (n := n.tmod d + hi - lo + 1) (by omega) (by omega), wi (by split at hq <;> (try split at hq) <;> omega) (by split at hq <;> (try split at hq) <;> omega)]
        split at hq <;> (try split at hq) <;> omega
      refine XCal.of hm Try.func14 rfl (fun xs w => Try.call14 xs w) Try.ntmps14 Try.results14 rfl ?_
      simp only [go_sem, Nat.reduceEqDiff, Nat.reduceAdd, Nat.reduceSub, Nat.reduceMul, Nat.reduceLT, Nat.reduceLeDiff, Int.reducePow, Int.reduceBEq, Int.reduceBNe, Int.reduceDiv, Int.reduceMod, Int.reduceEq, Int.reduceLT, Int.reduceLE, Int.reduceAdd, Int.reduceSub, Int.reduceMul, Int.reduceNeg, Int.reduceToNat, Int.reduceTDiv, Int.reduceTMod, ↓reduceIte, g1, w0, w1, n0, k, e]
    · have e : IntKind.i64.wrap (lo + n.tmod (hi - lo + 1)) = lo + n % (hi - lo + 1) := by
        generalize hd : hi - lo + 1 = d at *
        rw [wi (by omega) (by omega)]
        split at hq <;> (try split at hq) <;> omega
      refine XCal.of hm Try.func14 rfl (fun xs w => Try.call14 xs w) Try.ntmps14 Try.results14 rfl ?_
      simp only [go_sem, Nat.reduceEqDiff, Nat.reduceAdd, Nat.reduceSub, Nat.reduceMul, Nat.reduceLT, Nat.reduceLeDiff, Int.reducePow, Int.reduceBEq, Int.reduceBNe, Int.reduceDiv, Int.reduceMod, Int.reduceEq, Int.reduceLT, Int.reduceLE, Int.reduceAdd, Int.reduceSub, Int.reduceMul, Int.reduceNeg, Int.reduceToNat, Int.reduceTDiv, Int.reduceTMod, ↓reduceIte, g1, w0, w1, n0, k, e]
end Go.Proofs.Ytlcdbangmbdlcaa
/- Tapes: the walks of what reads numbers off a tape. -/
namespace Go.Proofs.Ytlcdbangmbdlcaa
open Go Go.RowKit E
attribute [local irreducible] XRun XOps XCode XCal XLoop XQ SemCall
set_option linter.unusedSimpArgs false
set_option linter.unusedVariables false
abbrev tblk (lv : Value) (g : Nat) (a : Int) : Blk := ⟨[lv, .int .i64 a], g, true⟩
theorem tape_ren {H : AH} {tb : Nat} {lv : Value} {ls : List Int} (h : Ints H tb lv ls) (K : List (Nat × Nat)) (g : Nat) (a : Int) : renL H.length K (tblk lv g a).cells = some (tblk lv g a).cells := by
  show renL H.length K [lv, .int .i64 a] = _
  simp only [renL, h.ren K]; rfl
theorem next_ (n : Int) (hn : 0 < n ∧ n ≤ 1152921504606846976) (H : AH) {tb g : Nat} {lv : Value} {ls : List Int} (h : TapeAt H tb g lv ls) :
    Cal Try.prog 8 [ap tb 0 g, .int .i64 n] H fun v H' W' => ∃ r : Int × Int, (0 ≤ r.1 ∧ r.1 < n ∧ 0 ≤ r.2 ∧ r.2 ≤ ls.length) ∧ v = .int .i64 r.1 ∧ H' = H.set tb (tblk lv g r.2) ∧ W' = [tb] := by
  obtain ⟨hi, at_, h0, h1, hb⟩ := h
  have hlen := hi.len
  by_cases hat : at_ < ls.length
  · obtain ⟨b, g', rest, rw_, rfl, hne, hbb, _⟩ := hi.ne (fun e => by rw [e] at hat; simp at hat; omega)
    obtain ⟨a, rfl⟩ := Int.eq_ofNat_of_zero_le h0
    have ha : a < ls.length := by omega
    have hel : (intC ls ++ rest)[a]? = some (.int .i64 ls[a]) := by rw [List.getElem?_append_left (by simp [intC]; omega)]; exact intC_get ha
    refine none_of _ _ tb _ (List.getElem?_eq_some_iff.1 hb).1 ?_ (fun r _ => rfl) (fun r _ => tape_ren hi _ _ _)
    have hbb2 : ∀ x L, (H.set tb x ++ L)[b]? = some ⟨intC ls ++ rest, g', rw_⟩ := fun x L => by
      have := (List.getElem?_eq_some_iff.1 hbb).1
      rw [List.getElem?_append_left (by simpa using this), List.getElem?_set_ne (fun e => hne e.symm)]; exact hbb
    have hbb3 : ∀ x, (H.set tb x)[b]? = some ⟨intC ls ++ rest, g', rw_⟩ := fun x => by simpa using hbb2 x []
    have htb3 : ∀ x, (H.set tb x)[tb]? = some x := fun x => List.getElem?_set_self (List.getElem?_eq_some_iff.1 hb).1
    have w1 : IntKind.i64.wrap ((a : Int) + 1) = ((a + 1 : Nat) : Int) := by rw [wi (by omega) (by omega)]; rfl
    have w2 : IntKind.i64.wrap (((a + 1 : Nat) : Int) - 1) = (a : Int) := by rw [wi (by omega) (by omega)]; omega
    have n0 : ¬ n = 0 := by omega
    have hw := wth_b ls[a] (lo := 0) (hi := 1073741824) (by omega)
    have hq := tdiv_pp (a := wth ls[a] 0 1073741824) (b := n) hw.1 hn.1
    refine XCal.of hm Try.func8 rfl (fun xs w => Try.call8 xs w) Try.ntmps8 Try.results8 rfl ?_
    simp only [go_sem, Nat.reduceEqDiff, Nat.reduceAdd, Nat.reduceSub, Nat.reduceMul, Nat.reduceLT, Nat.reduceLeDiff, Int.reducePow, Int.reduceBEq, Int.reduceBNe, Int.reduceDiv, Int.reduceMod, Int.reduceEq, Int.reduceLT, Int.reduceLE, Int.reduceAdd, Int.reduceSub, Int.reduceMul, Int.reduceNeg, Int.reduceToNat, Int.reduceTDiv, Int.reduceTMod, ↓reduceIte]
    refine drawnF ?_ (by decide +kernel)
    simp only [go_sem, Nat.reduceEqDiff, Nat.reduceAdd, Nat.reduceSub, Nat.reduceMul, Nat.reduceLT, Nat.reduceLeDiff, Int.reducePow, Int.reduceBEq, Int.reduceBNe, Int.reduceDiv, Int.reduceMod, Int.reduceEq, Int.reduceLT, Int.reduceLE, Int.reduceAdd, Int.reduceSub, Int.reduceMul, Int.reduceNeg, Int.reduceToNat, Int.reduceTDiv, Int.reduceTMod, ↓reduceIte, hb, df (show ¬ (ls.length : Int) ≤ (a : Int) by omega)]
    simp only [go_sem, Nat.reduceEqDiff, Nat.reduceAdd, Nat.reduceSub, Nat.reduceMul, Nat.reduceLT, Nat.reduceLeDiff, Int.reducePow, Int.reduceBEq, Int.reduceBNe, Int.reduceDiv, Int.reduceMod, Int.reduceEq, Int.reduceLT, Int.reduceLE, Int.reduceAdd, Int.reduceSub, Int.reduceMul, Int.reduceNeg, Int.reduceToNat, Int.reduceTDiv, Int.reduceTMod, ↓reduceIte, hb, w1, old_lt hb]
    refine drawnF ?_ (by decide +kernel)
    simp only [go_sem, Nat.reduceEqDiff, Nat.reduceAdd, Nat.reduceSub, Nat.reduceMul, Nat.reduceLT, Nat.reduceLeDiff, Int.reducePow, Int.reduceBEq, Int.reduceBNe, Int.reduceDiv, Int.reduceMod, Int.reduceEq, Int.reduceLT, Int.reduceLE, Int.reduceAdd, Int.reduceSub, Int.reduceMul, Int.reduceNeg, Int.reduceToNat, Int.reduceTDiv, Int.reduceTMod, ↓reduceIte, hb, hbb, hbb3, htb3, w1, w2, old_lt hb, show (0 : Int) ≤ (a : Int) by omega, show (a : Int) < (ls.length : Int) by omega, Int.toNat_natCast, Nat.zero_add, Nat.mul_one, hel]
    refine (within_ _ _ _ (by omega) (by omega) (by omega) _).x ?_
    simp only [go_sem, Nat.reduceEqDiff, Nat.reduceAdd, Nat.reduceSub, Nat.reduceMul, Nat.reduceLT, Nat.reduceLeDiff, Int.reducePow, Int.reduceBEq, Int.reduceBNe, Int.reduceDiv, Int.reduceMod, Int.reduceEq, Int.reduceLT, Int.reduceLE, Int.reduceAdd, Int.reduceSub, Int.reduceMul, Int.reduceNeg, Int.reduceToNat, Int.reduceTDiv, Int.reduceTMod, ↓reduceIte, n0, hq.2.1]
    exact ⟨SameW.rfl', (wth ls[a] 0 1073741824 % n, ((a + 1 : Nat) : Int)), ⟨Int.emod_nonneg _ n0, Int.emod_lt_of_pos _ hn.1, by show 0 ≤ ((a + 1 : Nat) : Int); omega, by show ((a + 1 : Nat) : Int) ≤ _; omega⟩, rfl, htb3 _⟩
  · obtain ⟨a, e, rfl⟩ := hi.form
    have s : SemCall Try.prog 8 [ap tb 0 g, .int .i64 n] H (.int .i64 0) H [] := by
      refine pure_of ?_ rfl
      refine XCal.of hm Try.func8 rfl (fun xs w => Try.call8 xs w) Try.ntmps8 Try.results8 rfl ?_
      simp only [go_sem, Nat.reduceEqDiff, Nat.reduceAdd, Nat.reduceSub, Nat.reduceMul, Nat.reduceLT, Nat.reduceLeDiff, Int.reducePow, Int.reduceBEq, Int.reduceBNe, Int.reduceDiv, Int.reduceMod, Int.reduceEq, Int.reduceLT, Int.reduceLE, Int.reduceAdd, Int.reduceSub, Int.reduceMul, Int.reduceNeg, Int.reduceToNat, Int.reduceTDiv, Int.reduceTMod, ↓reduceIte]
      refine drawnF ?_ (by decide +kernel)
      simp only [go_sem, Nat.reduceEqDiff, Nat.reduceAdd, Nat.reduceSub, Nat.reduceMul, Nat.reduceLT, Nat.reduceLeDiff, Int.reducePow, Int.reduceBEq, Int.reduceBNe, Int.reduceDiv, Int.reduceMod, Int.reduceEq, Int.reduceLT, Int.reduceLE, Int.reduceAdd, Int.reduceSub, Int.reduceMul, Int.reduceNeg, Int.reduceToNat, Int.reduceTDiv, Int.reduceTMod, ↓reduceIte, hb, dt (show (ls.length : Int) ≤ at_ by omega)]
    exact ⟨_, _, _, s.addW (i := 0) hb rfl, (0, at_), ⟨by omega, by omega, by omega, by omega⟩, rfl, (set_same hb).symm, rfl⟩
/-- The tape behind a call. -/
theorem tape_set {H : AH} {tb g : Nat} {lv : Value} {ls : List Int} (h : TapeAt H tb g lv ls) {a : Int} (h1 : 0 ≤ a ∧ a ≤ ls.length) : TapeAt (H.set tb (tblk lv g a)) tb g lv ls := h.set h1.1 h1.2
theorem number_ (lo hi : Int) (hl : lo ≤ hi) (h1 : -1073741824 ≤ lo) (h2 : hi ≤ 1073741824) (H : AH) {tb g : Nat} {lv : Value} {ls : List Int} (h : TapeAt H tb g lv ls) :
    Cal Try.prog 28 [ap tb 0 g, .int .i64 lo, .int .i64 hi] H fun v H' W' => ∃ r : Int × Int, (lo * 65536 ≤ r.1 ∧ r.1 < hi * 65536 + 65536 ∧ 0 ≤ r.2 ∧ r.2 ≤ ls.length) ∧ v = .int .i64 r.1 ∧ H' = H.set tb (tblk lv g r.2) ∧ W' = [tb] := by
  have htb := h.lt
  have hi0 := h.1
  refine none_of _ _ tb _ htb ?_ (fun r _ => rfl) (fun r _ => tape_ren hi0 _ _ _)
  have htb3 : ∀ x, (H.set tb x)[tb]? = some x := fun x => List.getElem?_set_self htb
  have w1 : IntKind.i64.wrap (hi - lo) = hi - lo := wi (by omega) (by omega)
  have w2 : IntKind.i64.wrap (hi - lo + 1) = hi - lo + 1 := wi (by omega) (by omega)
  refine XCal.of hm Try.func28 rfl (fun xs w => Try.call28 xs w) Try.ntmps28 Try.results28 rfl ?_
  simp only [go_sem, Nat.reduceEqDiff, Nat.reduceAdd, Nat.reduceSub, Nat.reduceMul, Nat.reduceLT, Nat.reduceLeDiff, Int.reducePow, Int.reduceBEq, Int.reduceBNe, Int.reduceDiv, Int.reduceMod, Int.reduceEq, Int.reduceLT, Int.reduceLE, Int.reduceAdd, Int.reduceSub, Int.reduceMul, Int.reduceNeg, Int.reduceToNat, Int.reduceTDiv, Int.reduceTMod, ↓reduceIte, w1, w2]
  refine (next_ (hi - lo + 1) (by omega) H h).x ?_
  rintro v H1 W1 ⟨⟨r, a1⟩, ⟨r0, r1, a0, a2⟩, rfl, rfl, rfl⟩
  have w3 : IntKind.i64.wrap (lo + r) = lo + r := wi (by omega) (by omega)
  have w4 : IntKind.i64.wrap ((lo + r) * 65536) = (lo + r) * 65536 := wi (by omega) (by omega)
  simp only [go_sem, Nat.reduceEqDiff, Nat.reduceAdd, Nat.reduceSub, Nat.reduceMul, Nat.reduceLT, Nat.reduceLeDiff, Int.reducePow, Int.reduceBEq, Int.reduceBNe, Int.reduceDiv, Int.reduceMod, Int.reduceEq, Int.reduceLT, Int.reduceLE, Int.reduceAdd, Int.reduceSub, Int.reduceMul, Int.reduceNeg, Int.reduceToNat, Int.reduceTDiv, Int.reduceTMod, ↓reduceIte, w3, w4, decide_eq_true htb]
  refine (next_ 4 (by omega) _ (tape_set h ⟨a0, a2⟩)).x ?_
  rintro v H1 W1 ⟨⟨q, b1⟩, ⟨q0, q1, b0, b2⟩, rfl, rfl, rfl⟩
  by_cases k0 : q = 0
  · simp only [go_sem, Nat.reduceEqDiff, Nat.reduceAdd, Nat.reduceSub, Nat.reduceMul, Nat.reduceLT, Nat.reduceLeDiff, Int.reducePow, Int.reduceBEq, Int.reduceBNe, Int.reduceDiv, Int.reduceMod, Int.reduceEq, Int.reduceLT, Int.reduceLE, Int.reduceAdd, Int.reduceSub, Int.reduceMul, Int.reduceNeg, Int.reduceToNat, Int.reduceTDiv, Int.reduceTMod, ↓reduceIte, bt k0, decide_eq_true htb, List.set_set]
    exact ⟨SameW.two, ((lo + r) * 65536 + 32768, b1), ⟨by show _ ≤ (lo + r) * 65536 + 32768; omega, by show (lo + r) * 65536 + 32768 < _; omega, b0, b2⟩, by rw [wi (by omega) (by omega)], htb3 _⟩
  · by_cases k1 : q = 1
    · simp only [go_sem, Nat.reduceEqDiff, Nat.reduceAdd, Nat.reduceSub, Nat.reduceMul, Nat.reduceLT, Nat.reduceLeDiff, Int.reducePow, Int.reduceBEq, Int.reduceBNe, Int.reduceDiv, Int.reduceMod, Int.reduceEq, Int.reduceLT, Int.reduceLE, Int.reduceAdd, Int.reduceSub, Int.reduceMul, Int.reduceNeg, Int.reduceToNat, Int.reduceTDiv, Int.reduceTMod, ↓reduceIte, bf k0, bt k1, decide_eq_true htb, List.set_set]
      refine (next_ 65536 (by omega) _ (tape_set h ⟨b0, b2⟩)).x ?_
      rintro v H1 W1 ⟨⟨u, c1⟩, ⟨u0, u1, c0, c2⟩, rfl, rfl, rfl⟩
      simp only [go_sem, Nat.reduceEqDiff, Nat.reduceAdd, Nat.reduceSub, Nat.reduceMul, Nat.reduceLT, Nat.reduceLeDiff, Int.reducePow, Int.reduceBEq, Int.reduceBNe, Int.reduceDiv, Int.reduceMod, Int.reduceEq, Int.reduceLT, Int.reduceLE, Int.reduceAdd, Int.reduceSub, Int.reduceMul, Int.reduceNeg, Int.reduceToNat, Int.reduceTDiv, Int.reduceTMod, ↓reduceIte, decide_eq_true htb, List.set_set]
      exact ⟨SameW.three, ((lo + r) * 65536 + u, c1), ⟨by show _ ≤ (lo + r) * 65536 + u; omega, by show (lo + r) * 65536 + u < _; omega, c0, c2⟩, by rw [wi (by omega) (by omega)], htb3 _⟩
    · simp only [go_sem, Nat.reduceEqDiff, Nat.reduceAdd, Nat.reduceSub, Nat.reduceMul, Nat.reduceLT, Nat.reduceLeDiff, Int.reducePow, Int.reduceBEq, Int.reduceBNe, Int.reduceDiv, Int.reduceMod, Int.reduceEq, Int.reduceLT, Int.reduceLE, Int.reduceAdd, Int.reduceSub, Int.reduceMul, Int.reduceNeg, Int.reduceToNat, Int.reduceTDiv, Int.reduceTMod, ↓reduceIte, bf k0, bf k1, decide_eq_true htb, List.set_set]
      exact ⟨SameW.two, ((lo + r) * 65536, b1), ⟨by show _ ≤ (lo + r) * 65536; omega, by show (lo + r) * 65536 < _; omega, b0, b2⟩, rfl, htb3 _⟩
theorem point_ (lo hi : Int) (hl : lo ≤ hi) (h1 : -1073741824 ≤ lo) (h2 : hi ≤ 1073741824) (H : AH) {tb g : Nat} {lv : Value} {ls : List Int} (h : TapeAt H tb g lv ls) :
    Cal Try.prog 31 [ap tb 0 g, .int .i64 lo, .int .i64 hi] H fun v H' W' => ∃ r : (Int × Int) × Int, ((lo * 65536 ≤ r.1.1 ∧ r.1.1 < hi * 65536 + 65536) ∧ (lo * 65536 ≤ r.1.2 ∧ r.1.2 < hi * 65536 + 65536) ∧ 0 ≤ r.2 ∧ r.2 ≤ ls.length) ∧ v = .agg [.int .i64 r.1.1, .int .i64 r.1.2].toArray ∧ H' = H.set tb (tblk lv g r.2) ∧ W' = [tb] := by
  have htb := h.lt
  have hi0 := h.1
  refine none_of _ _ tb _ htb ?_ (fun r _ => rfl) (fun r _ => tape_ren hi0 _ _ _)
  refine XCal.of hm Try.func31 rfl (fun xs w => Try.call31 xs w) Try.ntmps31 Try.results31 rfl ?_
  simp only [go_sem, Nat.reduceEqDiff, Nat.reduceAdd, Nat.reduceSub, Nat.reduceMul, Nat.reduceLT, Nat.reduceLeDiff, Int.reducePow, Int.reduceBEq, Int.reduceBNe, Int.reduceDiv, Int.reduceMod, Int.reduceEq, Int.reduceLT, Int.reduceLE, Int.reduceAdd, Int.reduceSub, Int.reduceMul, Int.reduceNeg, Int.reduceToNat, Int.reduceTDiv, Int.reduceTMod, ↓reduceIte]
  refine (number_ lo hi hl h1 h2 _ (h.app _)).x ?_
  rintro v H1 W1 ⟨⟨r, a1⟩, ⟨r0, r1, a0, a2⟩, rfl, rfl, rfl⟩
  have hb := (h.2).choose_spec.2.2
  simp only [go_sem, Nat.reduceEqDiff, Nat.reduceAdd, Nat.reduceSub, Nat.reduceMul, Nat.reduceLT, Nat.reduceLeDiff, Int.reducePow, Int.reduceBEq, Int.reduceBNe, Int.reduceDiv, Int.reduceMod, Int.reduceEq, Int.reduceLT, Int.reduceLE, Int.reduceAdd, Int.reduceSub, Int.reduceMul, Int.reduceNeg, Int.reduceToNat, Int.reduceTDiv, Int.reduceTMod, ↓reduceIte, decide_eq_true htb, old_set hb]
  refine (number_ lo hi hl h1 h2 _ ((tape_set h ⟨a0, a2⟩).app _)).x ?_
  rintro v H1 W1 ⟨⟨q, b1⟩, ⟨q0, q1, b0, b2⟩, rfl, rfl, rfl⟩
  simp only [go_sem, Nat.reduceEqDiff, Nat.reduceAdd, Nat.reduceSub, Nat.reduceMul, Nat.reduceLT, Nat.reduceLeDiff, Int.reducePow, Int.reduceBEq, Int.reduceBNe, Int.reduceDiv, Int.reduceMod, Int.reduceEq, Int.reduceLT, Int.reduceLE, Int.reduceAdd, Int.reduceSub, Int.reduceMul, Int.reduceNeg, Int.reduceToNat, Int.reduceTDiv, Int.reduceTMod, ↓reduceIte, decide_eq_true htb, old_set hb, old_sset hb, old_sget hb]
  exact ⟨SameW.two, ((r, q), b1), ⟨⟨r0, r1⟩, ⟨q0, q1⟩, b0, b2⟩, rfl, rfl⟩
end Go.Proofs.Ytlcdbangmbdlcaa
/- Chapter 3: the walks of maps. -/
namespace Go.Proofs.Ytlcdbangmbdlcaa
open Go Go.RowKit E
attribute [local irreducible] XRun XOps XCode XCal XLoop XQ SemCall
set_option linter.unusedSimpArgs false
set_option linter.unusedVariables false
abbrev pt (x y : Int) : Value := .agg [.int .i64 x, .int .i64 y].toArray
abbrev mt (a b c d e f : Int) : Value := .agg [.int .i64 a, .int .i64 b, .int .i64 c, .int .i64 d, .int .i64 e, .int .i64 f].toArray
def two (a b c d : Int) : Int := qadd (qmul a b) (qmul c d)
def ap1 (a c e x y : Int) : Int := place (qadd (two a x c y) e)
def mdE (x a b c d : Int) : Int := qadd x (-(two a b c d))
theorem mk1 : qmul (cs 0) 131072 = 131072 ∧ qmul (sn 0) 131072 = 0 ∧ qmul (-(sn 0)) 65536 = 0 ∧ qmul (cs 0) 65536 = 65536 ∧ mdE 327680 131072 0 0 0 = 327680 ∧ mdE 0 0 0 65536 0 = 0 := by decide +kernel
end Go.Proofs.Ytlcdbangmbdlcaa
/- Chapter 8: the walks of halves, and of bent parts. -/
namespace Go.Proofs.Ytlcdbangmbdlcaa
open Go Go.RowKit E
attribute [local irreducible] XRun XOps XCode XCal XLoop XQ SemCall
set_option linter.unusedSimpArgs false
set_option linter.unusedVariables false
abbrev Pt := Int × Int
abbrev ptv (p : Pt) : Value := .agg [.int .i64 p.1, .int .i64 p.2].toArray
abbrev Ip (p : Pt) : Prop := I64 p.1 ∧ I64 p.2
def hf (a b : Int) : Int := (a + b) / 2
def hfp (p q : Pt) : Pt := (hf p.1 q.1, hf p.2 q.2)
def ptC (l : List Pt) : List Value := l.flatMap fun p => [.int .i64 p.1, .int .i64 p.2]
theorem ptC_app (l m : List Pt) : ptC (l ++ m) = ptC l ++ ptC m := by simp [ptC]
theorem ptC_len (l : List Pt) : (ptC l).length = l.length * 2 := by
  induction l with
  | nil => rfl
  | cons x l ih => have : ptC (x :: l) = [.int .i64 x.1, .int .i64 x.2] ++ ptC l := rfl
                   rw [this, List.length_append, ih]; simp; omega
theorem ptC_ren (n : Nat) (K : List (Nat × Nat)) (l : List Pt) : renL n K (ptC l) = some (ptC l) := by
  induction l with
  | nil => rfl
  | cons x l ih =>
    show renL n K (.int .i64 x.1 :: .int .i64 x.2 :: ptC l) = _
    simp only [renL, ih]; rfl
def bentL : Nat → Pt → Pt → Pt → Pt → List Pt
  | 0, _, _, _, d => [d]
  | k + 1, a, b, c, d => bentL k a (hfp a b) (hfp (hfp a b) (hfp b c)) (hfp (hfp (hfp a b) (hfp b c)) (hfp (hfp b c) (hfp c d))) ++ bentL k (hfp (hfp (hfp a b) (hfp b c)) (hfp (hfp b c) (hfp c d))) (hfp (hfp b c) (hfp c d)) (hfp c d) d
end Go.Proofs.Ytlcdbangmbdlcaa
/- Tapes: the walk of what makes a path of a tape. -/
namespace Go.Proofs.Ytlcdbangmbdlcaa
open Go Go.RowKit E
attribute [local irreducible] XRun XOps XCode XCal XLoop XQ SemCall
set_option linter.unusedSimpArgs false
set_option linter.unusedVariables false
theorem ptC_drop : ∀ (l : List Pt) (i : Nat) (p : Pt) (rest : List Value), l[i]? = some p → (((ptC l ++ rest).drop (i * 2)).take 2) = [.int .i64 p.1, .int .i64 p.2]
  | [], i, p, rest, h => by simp at h
  | x :: l, 0, p, rest, h => by simp at h; subst h; rfl
  | x :: l, i + 1, p, rest, h => by
    have := ptC_drop l i p rest (by simpa using h)
    rw [show (i + 1) * 2 = i * 2 + 2 by omega]
    show ((Value.int .i64 x.1 :: Value.int .i64 x.2 :: (ptC l ++ rest)).drop (i * 2 + 2)).take 2 = _
    simpa using this
theorem ald_pt {l : List Pt} {i b g : Nat} {p : Pt} {rw_ : Bool} (rest : List Value) (h : l[i]? = some p) : ald (some true) (some 2) (some ⟨ptC l ++ rest, g, rw_⟩) b (i * 2) g = some (ptv p, b) := by
  have hi := (List.getElem?_eq_some_iff.1 h).1
  have : i * 2 + 2 ≤ (ptC l ++ rest).length := by rw [List.length_append, ptC_len]; omega
  simp only [ald, true_and, this, if_true]
  rw [ptC_drop l i p rest h]
theorem ald_pt0 {l : List Pt} {i b g : Nat} {p : Pt} {rw_ : Bool} (h : l[i]? = some p) : ald (some true) (some 2) (some ⟨ptC l, g, rw_⟩) b (i * 2) g = some (ptv p, b) := by
  have := ald_pt (b := b) (g := g) (rw_ := rw_) [] h
  rwa [List.append_nil] at this
/-- Points near. -/
abbrev Bp (p : Pt) : Prop := (-131072 ≤ p.1 ∧ p.1 < 983040) ∧ (-131072 ≤ p.2 ∧ p.2 < 983040)
theorem ren_path (n b g : Nat) (c : Bool) (len : Nat) (h : n ≤ b) : renR n [(b, g)] (.agg [.bool c, sl b 0 g len 2].toArray) = some (.agg [.bool c, sl n 0 0 len 2].toArray) := by
  have := ren_sl n b g len 2 h
  have e : renV n [(b, g)] (sl b 0 g len 2) = some (sl n 0 0 len 2) := this
  simp only [renR, renL, e]; rfl
theorem snoc {D : List Nat} {tb : Nat} (h : SameW D [tb]) : SameW (D ++ [tb]) [tb] := fun b => by rw [List.mem_append, h b]; simp
theorem path_ (parts : Nat) (c : Bool) (hp : parts ≤ 1000) (H : AH) {tb g : Nat} {lv : Value} {ls : List Int} (h : TapeAt H tb g lv ls) :
    Cal Try.prog 17 [ap tb 0 g, .int .i64 (parts : Int), .bool c] H fun v H' W' => ∃ r : List Pt × Int, (r.1.length = 3 * parts + 1 ∧ (∀ p ∈ r.1, Bp p) ∧ 0 ≤ r.2 ∧ r.2 ≤ ls.length) ∧
      v = .agg [.bool c, sl H.length 0 0 r.1.length 2].toArray ∧ H' = H.set tb (tblk lv g r.2) ++ [⟨ptC r.1, 0, true⟩] ∧ W' = [tb] := by
  have htb := h.lt
  have hi0 := h.1
  have hb := (h.2).choose_spec.2.2
  refine one_of _ (fun (r : List Pt × Int) b g => .agg [.bool c, sl b 0 g r.1.length 2].toArray) _ tb _ htb ?_ (fun r b g _ hh => ren_path _ _ _ _ _ hh) (fun r b g _ => ptC_ren _ _ _) (fun r b g _ _ => tape_ren hi0 _ _ _)
  refine XCal.of hm Try.func17 rfl (fun xs w => Try.call17 xs w) Try.ntmps17 Try.results17 rfl ?_
  simp only [go_sem, Nat.reduceEqDiff, Nat.reduceAdd, Nat.reduceSub, Nat.reduceMul, Nat.reduceLT, Nat.reduceLeDiff, Int.reducePow, Int.reduceBEq, Int.reduceBNe, Int.reduceDiv, Int.reduceMod, Int.reduceEq, Int.reduceLT, Int.reduceLE, Int.reduceAdd, Int.reduceSub, Int.reduceMul, Int.reduceNeg, Int.reduceToNat, Int.reduceTDiv, Int.reduceTMod, ↓reduceIte]
  refine (point_ (-2) 14 (by omega) (by omega) (by omega) _ (h.app _)).x ?_
  rintro v H1 W1 ⟨⟨p0, a1⟩, ⟨b1, b2, a0, a2⟩, rfl, rfl, rfl⟩
  have bp : Bp p0 := ⟨⟨b1.1, b1.2⟩, b2.1, b2.2⟩
  simp only [go_sem, Nat.reduceEqDiff, Nat.reduceAdd, Nat.reduceSub, Nat.reduceMul, Nat.reduceLT, Nat.reduceLeDiff, Int.reducePow, Int.reduceBEq, Int.reduceBNe, Int.reduceDiv, Int.reduceMod, Int.reduceEq, Int.reduceLT, Int.reduceLE, Int.reduceAdd, Int.reduceSub, Int.reduceMul, Int.reduceNeg, Int.reduceToNat, Int.reduceTDiv, Int.reduceTMod, ↓reduceIte, decide_eq_true htb, old_set hb, old_sset hb, old_sget hb]
  refine keep (fun k T H' D => SameW D [tb] ∧ ∃ (l : List Pt) (g1 : Nat) (at_ : Int) (G : AH) (i : Nat), i + k = parts ∧ l.length = 3 * i + 1 ∧ (∀ p ∈ l, Bp p) ∧ 0 ≤ at_ ∧ at_ ≤ ls.length ∧
    H' = H.set tb (tblk lv g at_) ++ (⟨[.bool false, .slice none 0 0], 0, true⟩ :: ⟨ptC l, g1, true⟩ :: ⟨[.bool c, sl (H.length + 1) 0 g1 l.length 2], 0, true⟩ :: G) ∧
    T 8 = .int .i64 (i : Int) ∧ T 1 = .int .i64 (parts : Int) ∧ T 0 = ap tb 0 g ∧ T 6 = ap H.length 0 0 ∧ T 7 = ap (H.length + 2) 0 0) parts
    ⟨SameW.rfl', [p0], 0, a1, [], 0, by omega, rfl, by simpa using bp, a0, a2, rfl, by simp only [go_sem, Nat.reduceEqDiff, Nat.reduceAdd, Nat.reduceSub, Nat.reduceMul, Nat.reduceLT, Nat.reduceLeDiff, Int.reducePow, Int.reduceBEq, Int.reduceBNe, Int.reduceDiv, Int.reduceMod, Int.reduceEq, Int.reduceLT, Int.reduceLE, Int.reduceAdd, Int.reduceSub, Int.reduceMul, Int.reduceNeg, Int.reduceToNat, Int.reduceTDiv, Int.reduceTMod, ↓reduceIte] <;> rfl, by simp only [go_sem, Nat.reduceEqDiff, Nat.reduceAdd, Nat.reduceSub, Nat.reduceMul, Nat.reduceLT, Nat.reduceLeDiff, Int.reducePow, Int.reduceBEq, Int.reduceBNe, Int.reduceDiv, Int.reduceMod, Int.reduceEq, Int.reduceLT, Int.reduceLE, Int.reduceAdd, Int.reduceSub, Int.reduceMul, Int.reduceNeg, Int.reduceToNat, Int.reduceTDiv, Int.reduceTMod, ↓reduceIte], by simp only [go_sem, Nat.reduceEqDiff, Nat.reduceAdd, Nat.reduceSub, Nat.reduceMul, Nat.reduceLT, Nat.reduceLeDiff, Int.reducePow, Int.reduceBEq, Int.reduceBNe, Int.reduceDiv, Int.reduceMod, Int.reduceEq, Int.reduceLT, Int.reduceLE, Int.reduceAdd, Int.reduceSub, Int.reduceMul, Int.reduceNeg, Int.reduceToNat, Int.reduceTDiv, Int.reduceTMod, ↓reduceIte], by simp only [go_sem, Nat.reduceEqDiff, Nat.reduceAdd, Nat.reduceSub, Nat.reduceMul, Nat.reduceLT, Nat.reduceLeDiff, Int.reducePow, Int.reduceBEq, Int.reduceBNe, Int.reduceDiv, Int.reduceMod, Int.reduceEq, Int.reduceLT, Int.reduceLE, Int.reduceAdd, Int.reduceSub, Int.reduceMul, Int.reduceNeg, Int.reduceToNat, Int.reduceTDiv, Int.reduceTMod, ↓reduceIte], by simp only [go_sem, Nat.reduceEqDiff, Nat.reduceAdd, Nat.reduceSub, Nat.reduceMul, Nat.reduceLT, Nat.reduceLeDiff, Int.reducePow, Int.reduceBEq, Int.reduceBNe, Int.reduceDiv, Int.reduceMod, Int.reduceEq, Int.reduceLT, Int.reduceLE, Int.reduceAdd, Int.reduceSub, Int.reduceMul, Int.reduceNeg, Int.reduceToNat, Int.reduceTDiv, Int.reduceTMod, ↓reduceIte]⟩ ?_
  rintro k T H' D ⟨hD, l, g1, at_, G, i, hik, hl, hB, c0, c1, rfl, h8, h1, h0, h6, h7⟩
  by_cases hk : i < parts
  · simp only [go_sem, Nat.reduceEqDiff, Nat.reduceAdd, Nat.reduceSub, Nat.reduceMul, Nat.reduceLT, Nat.reduceLeDiff, Int.reducePow, Int.reduceBEq, Int.reduceBNe, Int.reduceDiv, Int.reduceMod, Int.reduceEq, Int.reduceLT, Int.reduceLE, Int.reduceAdd, Int.reduceSub, Int.reduceMul, Int.reduceNeg, Int.reduceToNat, Int.reduceTDiv, Int.reduceTMod, ↓reduceIte, h8, h1, h0, h6, h7, dt (show (i : Int) < (parts : Int) by omega)]
    have hlast : l[l.length - 1]? = some (l[l.length - 1]'(by omega)) := List.getElem?_eq_getElem _
    generalize l[l.length - 1]'(by omega) = pl at hlast
    have hbl : Bp pl := hB _ (List.mem_of_getElem? hlast)
    have hld : ∀ (b : Nat), ald (some true) (some 2) (some ⟨ptC l, g1, true⟩) b ((l.length - 1) * 2) g1 = some (ptv pl, b) := fun b => ald_pt0 hlast
    have wl : IntKind.i64.wrap ((l.length : Int) - 1) = ((l.length - 1 : Nat) : Int) := by rw [wi (by omega) (by omega)]; omega
    have q1 : (0 : Int) ≤ ((l.length - 1 : Nat) : Int) := by omega
    have q2 : ((l.length - 1 : Nat) : Int) < (l.length : Int) := by omega
    refine drawnU [(0, 9), (1, 9), (2, 9), (3, 9), (4, 9), (5, 9), (6, 9), (7, 9), (9, 10), (9, 11)] (by decide +kernel) ?_
    simp only [go_sem, Nat.reduceEqDiff, Nat.reduceAdd, Nat.reduceSub, Nat.reduceMul, Nat.reduceLT, Nat.reduceLeDiff, Int.reducePow, Int.reduceBEq, Int.reduceBNe, Int.reduceDiv, Int.reduceMod, Int.reduceEq, Int.reduceLT, Int.reduceLE, Int.reduceAdd, Int.reduceSub, Int.reduceMul, Int.reduceNeg, Int.reduceToNat, Int.reduceTDiv, Int.reduceTMod, ↓reduceIte, h8, h1, h0, h6, h7, wl, q1, q2, Int.toNat_natCast, Nat.zero_add, hld, ptv]
    refine (point_ (-2) 14 (by omega) (by omega) (by omega) _ ((tape_set h ⟨c0, c1⟩).app _)).x ?_
    rintro v H1 W1 ⟨⟨pn, d1⟩, ⟨e1, e2, d0, d2⟩, rfl, rfl, rfl⟩
    have bn : Bp pn := ⟨by simpa using e1, by simpa using e2⟩
    have hcap : l.length * 2 = (ptC l).length := (ptC_len l).symm
    have hcap2 : (l.length + 3) * 16 - 140737488355328 = 0 := Nat.sub_eq_zero_of_le (Nat.le_trans (Nat.mul_le_mul_right 16 (show l.length + 3 ≤ 4000 by omega)) (by decide))
    have hcap3 : l.length + 3 - 140737488355328 = 0 := Nat.sub_eq_zero_of_le (Nat.le_trans (show l.length + 3 ≤ 4000 by omega) (by decide))
    simp only [go_sem, Nat.reduceEqDiff, Nat.reduceAdd, Nat.reduceSub, Nat.reduceMul, Nat.reduceLT, Nat.reduceLeDiff, Int.reducePow, Int.reduceBEq, Int.reduceBNe, Int.reduceDiv, Int.reduceMod, Int.reduceEq, Int.reduceLT, Int.reduceLE, Int.reduceAdd, Int.reduceSub, Int.reduceMul, Int.reduceNeg, Int.reduceToNat, Int.reduceTDiv, Int.reduceTMod, ↓reduceIte, decide_eq_true htb, old_set hb, old_sset hb, old_sget hb, old_ne hb, old_ne' hb, old_ne0 hb, old_ne0' hb, h8, h1, h0, h6, h7]
    refine (next_ 2 (by omega) _ ((tape_set h ⟨d0, d2⟩).app _)).x ?_
    rintro v H1 W1 ⟨⟨q, f1⟩, ⟨q0, q1, f0, f2⟩, rfl, rfl, rfl⟩
    by_cases hq : q = 0
    · simp only [go_sem, Nat.reduceEqDiff, Nat.reduceAdd, Nat.reduceSub, Nat.reduceMul, Nat.reduceLT, Nat.reduceLeDiff, Int.reducePow, Int.reduceBEq, Int.reduceBNe, Int.reduceDiv, Int.reduceMod, Int.reduceEq, Int.reduceLT, Int.reduceLE, Int.reduceAdd, Int.reduceSub, Int.reduceMul, Int.reduceNeg, Int.reduceToNat, Int.reduceTDiv, Int.reduceTMod, ↓reduceIte, decide_eq_true htb, old_set hb, old_sset hb, old_sget hb, h8, h1, h0, h6, h7, bt hq, hcap, hcap2, hcap3]
      exact ⟨k - 1, by omega, snoc (snoc hD), l ++ [pl, pn, pn], g1 + 1, f1, _, i + 1, by omega, by simp; omega, fun p hp => by
        rcases List.mem_append.1 hp with hp | hp
        · exact hB p hp
        · simp at hp; rcases hp with rfl | rfl <;> assumption, f0, f2, by rw [ptC_app, List.length_append]; rfl, by rw [wi (by omega) (by omega)]; rfl⟩
    · simp only [go_sem, Nat.reduceEqDiff, Nat.reduceAdd, Nat.reduceSub, Nat.reduceMul, Nat.reduceLT, Nat.reduceLeDiff, Int.reducePow, Int.reduceBEq, Int.reduceBNe, Int.reduceDiv, Int.reduceMod, Int.reduceEq, Int.reduceLT, Int.reduceLE, Int.reduceAdd, Int.reduceSub, Int.reduceMul, Int.reduceNeg, Int.reduceToNat, Int.reduceTDiv, Int.reduceTMod, ↓reduceIte, decide_eq_true htb, old_set hb, old_sset hb, old_sget hb, h8, h1, h0, h6, h7, bf hq]
      refine drawnU [(0, 3), (1, 3), (3, 4), (0, 5), (1, 5), (3, 6), (5, 6)] (by decide +kernel) ?_
      simp only [go_sem, Nat.reduceEqDiff, Nat.reduceAdd, Nat.reduceSub, Nat.reduceMul, Nat.reduceLT, Nat.reduceLeDiff, Int.reducePow, Int.reduceBEq, Int.reduceBNe, Int.reduceDiv, Int.reduceMod, Int.reduceEq, Int.reduceLT, Int.reduceLE, Int.reduceAdd, Int.reduceSub, Int.reduceMul, Int.reduceNeg, Int.reduceToNat, Int.reduceTDiv, Int.reduceTMod, ↓reduceIte, decide_eq_true htb, old_set hb, old_sset hb, old_sget hb, h8, h1, h0, h6, h7]
      refine (point_ (-2) 14 (by omega) (by omega) (by omega) _ ((tape_set h ⟨f0, f2⟩).app _)).x ?_
      rintro v H1 W1 ⟨⟨pu, k1⟩, ⟨m1, m2, k0, k2⟩, rfl, rfl, rfl⟩
      simp only [go_sem, Nat.reduceEqDiff, Nat.reduceAdd, Nat.reduceSub, Nat.reduceMul, Nat.reduceLT, Nat.reduceLeDiff, Int.reducePow, Int.reduceBEq, Int.reduceBNe, Int.reduceDiv, Int.reduceMod, Int.reduceEq, Int.reduceLT, Int.reduceLE, Int.reduceAdd, Int.reduceSub, Int.reduceMul, Int.reduceNeg, Int.reduceToNat, Int.reduceTDiv, Int.reduceTMod, ↓reduceIte, decide_eq_true htb, old_set hb, old_sset hb, old_sget hb, h8, h1, h0, h6, h7]
      refine (point_ (-2) 14 (by omega) (by omega) (by omega) _ ((tape_set h ⟨k0, k2⟩).app _)).x ?_
      rintro v H1 W1 ⟨⟨pv, n1⟩, ⟨o1, o2, n0, n2⟩, rfl, rfl, rfl⟩
      simp only [go_sem, Nat.reduceEqDiff, Nat.reduceAdd, Nat.reduceSub, Nat.reduceMul, Nat.reduceLT, Nat.reduceLeDiff, Int.reducePow, Int.reduceBEq, Int.reduceBNe, Int.reduceDiv, Int.reduceMod, Int.reduceEq, Int.reduceLT, Int.reduceLE, Int.reduceAdd, Int.reduceSub, Int.reduceMul, Int.reduceNeg, Int.reduceToNat, Int.reduceTDiv, Int.reduceTMod, ↓reduceIte, decide_eq_true htb, old_set hb, old_sset hb, old_sget hb, old_ne hb, old_ne' hb, old_ne0 hb, old_ne0' hb, h8, h1, h0, h6, h7, hcap, hcap2, hcap3]
      have bu : Bp pu := ⟨by simpa using m1, by simpa using m2⟩
      have bv : Bp pv := ⟨by simpa using o1, by simpa using o2⟩
      exact ⟨k - 1, by omega, snoc (snoc (snoc (snoc hD))), l ++ [pu, pv, pn], g1 + 1, n1, _, i + 1, by omega, by simp; omega, fun p hp => by
        rcases List.mem_append.1 hp with hp | hp
        · exact hB p hp
        · simp at hp; rcases hp with rfl | rfl | rfl <;> assumption, n0, n2, by rw [ptC_app, List.length_append]; rfl, by rw [wi (by omega) (by omega)]; rfl⟩
  · simp only [go_sem, Nat.reduceEqDiff, Nat.reduceAdd, Nat.reduceSub, Nat.reduceMul, Nat.reduceLT, Nat.reduceLeDiff, Int.reducePow, Int.reduceBEq, Int.reduceBNe, Int.reduceDiv, Int.reduceMod, Int.reduceEq, Int.reduceLT, Int.reduceLE, Int.reduceAdd, Int.reduceSub, Int.reduceMul, Int.reduceNeg, Int.reduceToNat, Int.reduceTDiv, Int.reduceTMod, ↓reduceIte, h8, h1, h0, h6, h7, df (show ¬ (i : Int) < (parts : Int) by omega)]
    have hi2 : i = parts := by omega
    subst hi2
    exact ⟨hD, (l, at_), H.length + 1, g1, ⟨hl, hB, c0, c1⟩, by omega, rfl, by rw [hget_sapp]; rfl, by rw [old_sget hb]⟩
end Go.Proofs.Ytlcdbangmbdlcaa
/- Chapters 7 and 8: the walks of paths that may be, and of their straight lines. -/
namespace Go.Proofs.Ytlcdbangmbdlcaa
open Go Go.RowKit E
attribute [local irreducible] XRun XOps XCode XCal XLoop XQ SemCall
set_option linter.unusedSimpArgs false
set_option linter.unusedVariables false
def nearB (x : Int) : Bool := decide (-67108864 ≤ x) && decide (x ≤ 67108864)
def nrp (p : Pt) : Bool := nearB p.1 && nearB p.2
/-- A row of points, as it may lie. -/
def Pts (H : AH) (pv : Value) (l : List Pt) : Prop :=
  (l = [] ∧ ((∃ e, pv = .slice (some ⟨0, 0, none⟩) 0 e) ∨ pv = .slice none 0 0)) ∨
  ∃ b g rest rw_, pv = sl b 0 g l.length 2 ∧ H[b]? = some ⟨ptC l ++ rest, g, rw_⟩ ∧ l.length ≤ 9223372036854775807
theorem Pts.app {H : AH} {pv : Value} {l : List Pt} (h : Pts H pv l) (L : AH) : Pts (H ++ L) pv l := by
  rcases h with h | ⟨b, g, rest, rw_, h1, h2, h3⟩
  · exact .inl h
  · exact .inr ⟨b, g, rest, rw_, h1, old_get h2 L, h3⟩
theorem Pts.form {H : AH} {pv : Value} {l : List Pt} (h : Pts H pv l) : ∃ a e, pv = .slice a l.length e := by
  rcases h with ⟨rfl, ⟨e, rfl⟩ | rfl⟩ | ⟨b, g, rest, rw_, rfl, _⟩
  · exact ⟨_, _, rfl⟩
  · exact ⟨_, _, rfl⟩
  · exact ⟨_, _, rfl⟩
theorem Pts.len {H : AH} {pv : Value} {l : List Pt} (h : Pts H pv l) : l.length ≤ 9223372036854775807 := by
  rcases h with ⟨rfl, _⟩ | ⟨b, g, rest, rw_, rfl, _, h⟩
  · simp
  · exact h
theorem Pts.ne {H : AH} {pv : Value} {l : List Pt} (h : Pts H pv l) (hn : ¬ l = []) : ∃ b g rest rw_, pv = sl b 0 g l.length 2 ∧ H[b]? = some ⟨ptC l ++ rest, g, rw_⟩ ∧ l.length ≤ 9223372036854775807 := h.resolve_left fun h => hn h.1
theorem near_ (x : Int) (H : AH) : SemCall Try.prog 55 [.int .i64 x] H (.bool (nearB x)) H [] := by
  refine pure_of ?_ rfl
  unfold nearB
  by_cases h : -67108864 ≤ x
  · refine XCal.of hm Try.func55 rfl (fun xs w => Try.call55 xs w) Try.ntmps55 Try.results55 rfl ?_
    simp only [go_sem, Nat.reduceEqDiff, Nat.reduceAdd, Nat.reduceSub, Nat.reduceMul, Nat.reduceLT, Nat.reduceLeDiff, Int.reducePow, Int.reduceBEq, Int.reduceBNe, Int.reduceDiv, Int.reduceMod, Int.reduceEq, Int.reduceLT, Int.reduceLE, Int.reduceAdd, Int.reduceSub, Int.reduceMul, Int.reduceNeg, Int.reduceToNat, Int.reduceTDiv, Int.reduceTMod, ↓reduceIte, h]
  · refine XCal.of hm Try.func55 rfl (fun xs w => Try.call55 xs w) Try.ntmps55 Try.results55 rfl ?_
    simp only [go_sem, Nat.reduceEqDiff, Nat.reduceAdd, Nat.reduceSub, Nat.reduceMul, Nat.reduceLT, Nat.reduceLeDiff, Int.reducePow, Int.reduceBEq, Int.reduceBNe, Int.reduceDiv, Int.reduceMod, Int.reduceEq, Int.reduceLT, Int.reduceLE, Int.reduceAdd, Int.reduceSub, Int.reduceMul, Int.reduceNeg, Int.reduceToNat, Int.reduceTDiv, Int.reduceTMod, ↓reduceIte, h]
theorem far_ (p : Pt) (H : AH) : SemCall Try.prog 54 [ptv p] H (.bool (!nrp p)) H [] := by
  refine pure_of ?_ rfl
  unfold nrp
  cases h : nearB p.1
  all_goals
    refine XCal.of hm Try.func54 rfl (fun xs w => Try.call54 xs w) Try.ntmps54 Try.results54 rfl ?_
    simp only [go_sem, Nat.reduceEqDiff, Nat.reduceAdd, Nat.reduceSub, Nat.reduceMul, Nat.reduceLT, Nat.reduceLeDiff, Int.reducePow, Int.reduceBEq, Int.reduceBNe, Int.reduceDiv, Int.reduceMod, Int.reduceEq, Int.reduceLT, Int.reduceLE, Int.reduceAdd, Int.reduceSub, Int.reduceMul, Int.reduceNeg, Int.reduceToNat, Int.reduceTDiv, Int.reduceTMod, ↓reduceIte, ptv]
    repeat ((first | refine (near_ _ _).x ?_ | refine drawnF ?_ (by decide +kernel)); simp only [go_sem, Nat.reduceEqDiff, Nat.reduceAdd, Nat.reduceSub, Nat.reduceMul, Nat.reduceLT, Nat.reduceLeDiff, Int.reducePow, Int.reduceBEq, Int.reduceBNe, Int.reduceDiv, Int.reduceMod, Int.reduceEq, Int.reduceLT, Int.reduceLE, Int.reduceAdd, Int.reduceSub, Int.reduceMul, Int.reduceNeg, Int.reduceToNat, Int.reduceTDiv, Int.reduceTMod, ↓reduceIte, h])
def idxL : List Pt → Nat → Int
  | [], _ => -1
  | p :: t, i => if nrp p then idxL t (i + 1) else i
theorem idxL_ge : ∀ (l : List Pt) (i : Nat), decide (0 ≤ idxL l i) = !(l.all nrp)
  | [], i => rfl
  | p :: t, i => by
    by_cases h : nrp p = true
    · have : idxL (p :: t) i = idxL t (i + 1) := by simp only [idxL, h, if_true]
      rw [this, idxL_ge t (i + 1), List.all_cons, h, Bool.true_and]
    · have h' : nrp p = false := by simpa using h
      have : idxL (p :: t) i = (i : Int) := by simp only [idxL, h', Bool.false_eq_true, if_false]
      rw [this, List.all_cons, h']; simp
theorem drop_cons {α : Type} {l : List α} {i : Nat} (h : i < l.length) : l.drop i = l[i] :: l.drop (i + 1) := List.drop_eq_getElem_cons h
theorem index_ (l : List Pt) (pv : Value) (H : AH) (h : Pts H pv l) : SemCall Try.prog 67 [pv, .func (.func 54) [].toArray [].toArray] H (.int .i64 (idxL l 0)) H [] := by
  have hlen := h.len
  refine pure_of ?_ rfl
  by_cases hn : l = []
  · subst hn
    obtain ⟨a, e, rfl⟩ := h.form
    refine XCal.of hm Try.func67 rfl (fun xs w => Try.call67 xs w) Try.ntmps67 Try.results67 rfl ?_
    simp only [go_sem, Nat.reduceEqDiff, Nat.reduceAdd, Nat.reduceSub, Nat.reduceMul, Nat.reduceLT, Nat.reduceLeDiff, Int.reducePow, Int.reduceBEq, Int.reduceBNe, Int.reduceDiv, Int.reduceMod, Int.reduceEq, Int.reduceLT, Int.reduceLE, Int.reduceAdd, Int.reduceSub, Int.reduceMul, Int.reduceNeg, Int.reduceToNat, Int.reduceTDiv, Int.reduceTMod, ↓reduceIte]
    refine rounds 1 ?_
    simp only [go_sem, Nat.reduceEqDiff, Nat.reduceAdd, Nat.reduceSub, Nat.reduceMul, Nat.reduceLT, Nat.reduceLeDiff, Int.reducePow, Int.reduceBEq, Int.reduceBNe, Int.reduceDiv, Int.reduceMod, Int.reduceEq, Int.reduceLT, Int.reduceLE, Int.reduceAdd, Int.reduceSub, Int.reduceMul, Int.reduceNeg, Int.reduceToNat, Int.reduceTDiv, Int.reduceTMod, ↓reduceIte, List.length_nil, show ((0 : Nat) : Int) = 0 from rfl]
    rfl
  · obtain ⟨b, g, rest, rw_, rfl, hb, _⟩ := h.ne hn
    refine XCal.of hm Try.func67 rfl (fun xs w => Try.call67 xs w) Try.ntmps67 Try.results67 rfl ?_
    simp only [go_sem, Nat.reduceEqDiff, Nat.reduceAdd, Nat.reduceSub, Nat.reduceMul, Nat.reduceLT, Nat.reduceLeDiff, Int.reducePow, Int.reduceBEq, Int.reduceBNe, Int.reduceDiv, Int.reduceMod, Int.reduceEq, Int.reduceLT, Int.reduceLE, Int.reduceAdd, Int.reduceSub, Int.reduceMul, Int.reduceNeg, Int.reduceToNat, Int.reduceTDiv, Int.reduceTMod, ↓reduceIte]
    refine keep (fun k T H' D => H' = H ∧ D = [] ∧ T 0 = sl b 0 g l.length 2 ∧ T 1 = .func (.func 54) [].toArray [].toArray ∧ T 7 = .int .i64 (l.length : Int) ∧ ∃ i : Nat, i + k = l.length ∧ T 8 = .int .i64 (i : Int) ∧ idxL (l.drop i) i = idxL l 0) l.length ⟨rfl, rfl, rfl, rfl, rfl, 0, by omega, rfl, rfl⟩ ?_
    rintro k T H' D ⟨rfl, rfl, h0, h1, h7, i, hi, h8, hx⟩
    by_cases hk : i < l.length
    · have hel : l[i]? = some l[i] := List.getElem?_eq_getElem hk
      have hld := fun (b : Nat) => ald_pt (b := b) (g := g) (rw_ := rw_) rest hel
      rw [drop_cons hk] at hx
      simp only [idxL] at hx
      simp only [go_sem, Nat.reduceEqDiff, Nat.reduceAdd, Nat.reduceSub, Nat.reduceMul, Nat.reduceLT, Nat.reduceLeDiff, Int.reducePow, Int.reduceBEq, Int.reduceBNe, Int.reduceDiv, Int.reduceMod, Int.reduceEq, Int.reduceLT, Int.reduceLE, Int.reduceAdd, Int.reduceSub, Int.reduceMul, Int.reduceNeg, Int.reduceToNat, Int.reduceTDiv, Int.reduceTMod, ↓reduceIte, h0, h1, h7, h8, dt (show (i : Int) < (l.length : Int) by omega), hb, show (0 : Int) ≤ (i : Int) by omega, show (i : Int) < (l.length : Int) by omega, Int.toNat_natCast, Nat.zero_add, hld, ptv]
      refine (far_ l[i] _).x ?_
      cases hq : nrp l[i] with
      | true =>
        rw [hq] at hx
        simp only [go_sem, Nat.reduceEqDiff, Nat.reduceAdd, Nat.reduceSub, Nat.reduceMul, Nat.reduceLT, Nat.reduceLeDiff, Int.reducePow, Int.reduceBEq, Int.reduceBNe, Int.reduceDiv, Int.reduceMod, Int.reduceEq, Int.reduceLT, Int.reduceLE, Int.reduceAdd, Int.reduceSub, Int.reduceMul, Int.reduceNeg, Int.reduceToNat, Int.reduceTDiv, Int.reduceTMod, ↓reduceIte, h0, h1, h7, h8]
        exact ⟨k - 1, by omega, i + 1, by omega, by rw [wi (by omega) (by omega)]; rfl, hx⟩
      | false =>
        rw [hq] at hx
        simp only [go_sem, Nat.reduceEqDiff, Nat.reduceAdd, Nat.reduceSub, Nat.reduceMul, Nat.reduceLT, Nat.reduceLeDiff, Int.reducePow, Int.reduceBEq, Int.reduceBNe, Int.reduceDiv, Int.reduceMod, Int.reduceEq, Int.reduceLT, Int.reduceLE, Int.reduceAdd, Int.reduceSub, Int.reduceMul, Int.reduceNeg, Int.reduceToNat, Int.reduceTDiv, Int.reduceTMod, ↓reduceIte, h0, h1, h7, h8]
        rw [← hx]; rfl
    · have : l.drop i = [] := List.drop_eq_nil_of_le (by omega)
      rw [this] at hx
      simp only [go_sem, Nat.reduceEqDiff, Nat.reduceAdd, Nat.reduceSub, Nat.reduceMul, Nat.reduceLT, Nat.reduceLeDiff, Int.reducePow, Int.reduceBEq, Int.reduceBNe, Int.reduceDiv, Int.reduceMod, Int.reduceEq, Int.reduceLT, Int.reduceLE, Int.reduceAdd, Int.reduceSub, Int.reduceMul, Int.reduceNeg, Int.reduceToNat, Int.reduceTDiv, Int.reduceTMod, ↓reduceIte, h0, h1, h7, h8, df (show ¬ (i : Int) < (l.length : Int) by omega)]
      rw [← hx]; rfl
theorem contains_ (l : List Pt) (pv : Value) (H : AH) (h : Pts H pv l) : SemCall Try.prog 53 [pv, .func (.func 54) [].toArray [].toArray] H (.bool (!(l.all nrp))) H [] := by
  refine pure_of ?_ rfl
  refine XCal.of hm Try.func53 rfl (fun xs w => Try.call53 xs w) Try.ntmps53 Try.results53 rfl ?_
  simp only [go_sem, Nat.reduceEqDiff, Nat.reduceAdd, Nat.reduceSub, Nat.reduceMul, Nat.reduceLT, Nat.reduceLeDiff, Int.reducePow, Int.reduceBEq, Int.reduceBNe, Int.reduceDiv, Int.reduceMod, Int.reduceEq, Int.reduceLT, Int.reduceLE, Int.reduceAdd, Int.reduceSub, Int.reduceMul, Int.reduceNeg, Int.reduceToNat, Int.reduceTDiv, Int.reduceTMod, ↓reduceIte]
  repeat ((first | refine (index_ l pv _ h).x ?_ | refine drawnF ?_ (by decide +kernel)); simp only [go_sem, Nat.reduceEqDiff, Nat.reduceAdd, Nat.reduceSub, Nat.reduceMul, Nat.reduceLT, Nat.reduceLeDiff, Int.reducePow, Int.reduceBEq, Int.reduceBNe, Int.reduceDiv, Int.reduceMod, Int.reduceEq, Int.reduceLT, Int.reduceLE, Int.reduceAdd, Int.reduceSub, Int.reduceMul, Int.reduceNeg, Int.reduceToNat, Int.reduceTDiv, Int.reduceTMod, ↓reduceIte, idxL_ge])
def rightB (c : Bool) (l : List Pt) : Bool := if l.length = 0 then !c else decide ((4 : Int) ≤ l.length) && decide ((l.length : Int) ≤ 97) && ((l.length : Int).tmod 3 == 1) && l.all nrp
theorem right_ (c : Bool) (l : List Pt) (pv : Value) (H : AH) (h : Pts H pv l) : SemCall Try.prog 43 [.agg [.bool c, pv].toArray] H (.bool (rightB c l)) H [] := by
  have hlen := h.len
  refine pure_of ?_ rfl
  unfold rightB
  obtain ⟨a, e, hpv⟩ := h.form
  by_cases hn : l.length = 0
  · rw [if_pos hn]
    subst hpv
    refine XCal.of hm Try.func43 rfl (fun xs w => Try.call43 xs w) Try.ntmps43 Try.results43 rfl ?_
    simp only [go_sem, Nat.reduceEqDiff, Nat.reduceAdd, Nat.reduceSub, Nat.reduceMul, Nat.reduceLT, Nat.reduceLeDiff, Int.reducePow, Int.reduceBEq, Int.reduceBNe, Int.reduceDiv, Int.reduceMod, Int.reduceEq, Int.reduceLT, Int.reduceLE, Int.reduceAdd, Int.reduceSub, Int.reduceMul, Int.reduceNeg, Int.reduceToNat, Int.reduceTDiv, Int.reduceTMod, ↓reduceIte, hn, show ((0 : Nat) : Int) = 0 from rfl]
  · rw [if_neg hn]
    have hc := fun L => contains_ l pv (H ++ L) (h.app L)
    subst hpv
    cases h1 : decide ((4 : Int) ≤ l.length) with
    | false =>
      refine XCal.of hm Try.func43 rfl (fun xs w => Try.call43 xs w) Try.ntmps43 Try.results43 rfl ?_
      simp only [go_sem, Nat.reduceEqDiff, Nat.reduceAdd, Nat.reduceSub, Nat.reduceMul, Nat.reduceLT, Nat.reduceLeDiff, Int.reducePow, Int.reduceBEq, Int.reduceBNe, Int.reduceDiv, Int.reduceMod, Int.reduceEq, Int.reduceLT, Int.reduceLE, Int.reduceAdd, Int.reduceSub, Int.reduceMul, Int.reduceNeg, Int.reduceToNat, Int.reduceTDiv, Int.reduceTMod, ↓reduceIte, bf (show ¬ (l.length : Int) = 0 by omega), h1]
      repeat ((first | refine (hc _).x ?_ | refine drawnF ?_ (by decide +kernel)); simp only [go_sem, Nat.reduceEqDiff, Nat.reduceAdd, Nat.reduceSub, Nat.reduceMul, Nat.reduceLT, Nat.reduceLeDiff, Int.reducePow, Int.reduceBEq, Int.reduceBNe, Int.reduceDiv, Int.reduceMod, Int.reduceEq, Int.reduceLT, Int.reduceLE, Int.reduceAdd, Int.reduceSub, Int.reduceMul, Int.reduceNeg, Int.reduceToNat, Int.reduceTDiv, Int.reduceTMod, ↓reduceIte, h1, Bool.not_not])
    | true =>
      cases h2 : decide ((l.length : Int) ≤ 97) with
      | false =>
        refine XCal.of hm Try.func43 rfl (fun xs w => Try.call43 xs w) Try.ntmps43 Try.results43 rfl ?_
        simp only [go_sem, Nat.reduceEqDiff, Nat.reduceAdd, Nat.reduceSub, Nat.reduceMul, Nat.reduceLT, Nat.reduceLeDiff, Int.reducePow, Int.reduceBEq, Int.reduceBNe, Int.reduceDiv, Int.reduceMod, Int.reduceEq, Int.reduceLT, Int.reduceLE, Int.reduceAdd, Int.reduceSub, Int.reduceMul, Int.reduceNeg, Int.reduceToNat, Int.reduceTDiv, Int.reduceTMod, ↓reduceIte, bf (show ¬ (l.length : Int) = 0 by omega), h1, h2]
        repeat ((first | refine (hc _).x ?_ | refine drawnF ?_ (by decide +kernel)); simp only [go_sem, Nat.reduceEqDiff, Nat.reduceAdd, Nat.reduceSub, Nat.reduceMul, Nat.reduceLT, Nat.reduceLeDiff, Int.reducePow, Int.reduceBEq, Int.reduceBNe, Int.reduceDiv, Int.reduceMod, Int.reduceEq, Int.reduceLT, Int.reduceLE, Int.reduceAdd, Int.reduceSub, Int.reduceMul, Int.reduceNeg, Int.reduceToNat, Int.reduceTDiv, Int.reduceTMod, ↓reduceIte, h1, h2, Bool.not_not])
      | true =>
        cases h3 : ((l.length : Int).tmod 3 == 1) with
        | false =>
          refine XCal.of hm Try.func43 rfl (fun xs w => Try.call43 xs w) Try.ntmps43 Try.results43 rfl ?_
          simp only [go_sem, Nat.reduceEqDiff, Nat.reduceAdd, Nat.reduceSub, Nat.reduceMul, Nat.reduceLT, Nat.reduceLeDiff, Int.reducePow, Int.reduceBEq, Int.reduceBNe, Int.reduceDiv, Int.reduceMod, Int.reduceEq, Int.reduceLT, Int.reduceLE, Int.reduceAdd, Int.reduceSub, Int.reduceMul, Int.reduceNeg, Int.reduceToNat, Int.reduceTDiv, Int.reduceTMod, ↓reduceIte, bf (show ¬ (l.length : Int) = 0 by omega), h1, h2, h3]
          repeat ((first | refine (hc _).x ?_ | refine drawnF ?_ (by decide +kernel)); simp only [go_sem, Nat.reduceEqDiff, Nat.reduceAdd, Nat.reduceSub, Nat.reduceMul, Nat.reduceLT, Nat.reduceLeDiff, Int.reducePow, Int.reduceBEq, Int.reduceBNe, Int.reduceDiv, Int.reduceMod, Int.reduceEq, Int.reduceLT, Int.reduceLE, Int.reduceAdd, Int.reduceSub, Int.reduceMul, Int.reduceNeg, Int.reduceToNat, Int.reduceTDiv, Int.reduceTMod, ↓reduceIte, h1, h2, h3, Bool.not_not])
        | true =>
          refine XCal.of hm Try.func43 rfl (fun xs w => Try.call43 xs w) Try.ntmps43 Try.results43 rfl ?_
          simp only [go_sem, Nat.reduceEqDiff, Nat.reduceAdd, Nat.reduceSub, Nat.reduceMul, Nat.reduceLT, Nat.reduceLeDiff, Int.reducePow, Int.reduceBEq, Int.reduceBNe, Int.reduceDiv, Int.reduceMod, Int.reduceEq, Int.reduceLT, Int.reduceLE, Int.reduceAdd, Int.reduceSub, Int.reduceMul, Int.reduceNeg, Int.reduceToNat, Int.reduceTDiv, Int.reduceTMod, ↓reduceIte, bf (show ¬ (l.length : Int) = 0 by omega), h1, h2, h3]
          repeat ((first | refine (hc _).x ?_ | refine drawnF ?_ (by decide +kernel)); simp only [go_sem, Nat.reduceEqDiff, Nat.reduceAdd, Nat.reduceSub, Nat.reduceMul, Nat.reduceLT, Nat.reduceLeDiff, Int.reducePow, Int.reduceBEq, Int.reduceBNe, Int.reduceDiv, Int.reduceMod, Int.reduceEq, Int.reduceLT, Int.reduceLE, Int.reduceAdd, Int.reduceSub, Int.reduceMul, Int.reduceNeg, Int.reduceToNat, Int.reduceTDiv, Int.reduceTMod, ↓reduceIte, h1, h2, h3, Bool.not_not])
end Go.Proofs.Ytlcdbangmbdlcaa
/- Chapter 8: the walk of what makes straight lines of a path. -/
namespace Go.Proofs.Ytlcdbangmbdlcaa
open Go Go.RowKit E
attribute [local irreducible] XRun XOps XCode XCal XLoop XQ SemCall
set_option linter.unusedSimpArgs false
set_option linter.unusedVariables false
def flatGo : List Pt → List Pt
  | a :: b :: c :: d :: t => (if b = a ∧ c = d then [d] else bentL 3 a b c d) ++ flatGo (d :: t)
  | _ => []
def flatL : List Pt → List Pt
  | [] => []
  | p :: t => p :: flatGo (p :: t)
abbrev poly (c : Bool) (v : Value) : Value := .agg [.bool c, v].toArray
theorem empty_ (c : Bool) (l : List Pt) (pv : Value) (H : AH) (h : Pts H pv l) : SemCall Try.prog 44 [.agg [.bool c, pv].toArray] H (.bool ((l.length : Int) == 0)) H [] := by
  obtain ⟨a, e, rfl⟩ := h.form
  refine pure_of ?_ rfl
  refine XCal.of hm Try.func44 rfl (fun xs w => Try.call44 xs w) Try.ntmps44 Try.results44 rfl ?_
  simp only [go_sem, Nat.reduceEqDiff, Nat.reduceAdd, Nat.reduceSub, Nat.reduceMul, Nat.reduceLT, Nat.reduceLeDiff, Int.reducePow, Int.reduceBEq, Int.reduceBNe, Int.reduceDiv, Int.reduceMod, Int.reduceEq, Int.reduceLT, Int.reduceLE, Int.reduceAdd, Int.reduceSub, Int.reduceMul, Int.reduceNeg, Int.reduceToNat, Int.reduceTDiv, Int.reduceTMod, ↓reduceIte]
end Go.Proofs.Ytlcdbangmbdlcaa
/- Chapter 8: the walks of the known runs, and of the law on what is within. -/
namespace Go.Proofs.Ytlcdbangmbdlcaa
open Go Go.RowKit E
attribute [local irreducible] XRun XOps XCode XCal XLoop XQ SemCall
set_option linter.unusedSimpArgs false
set_option linter.unusedVariables false
def mn (a b : Int) : Int := if b < a then b else a
def mx (a b : Int) : Int := if a < b then b else a
end Go.Proofs.Ytlcdbangmbdlcaa
/- Chapter 14: the walks of boxes. -/
namespace Go.Proofs.Ytlcdbangmbdlcaa
open Go Go.RowKit E
attribute [local irreducible] XRun XOps XCode XCal XLoop XQ SemCall
set_option linter.unusedSimpArgs false
set_option linter.unusedVariables false
structure B4 where
  x0 : Int
  y0 : Int
  x1 : Int
  y1 : Int
deriving DecidableEq
abbrev bx (a b c d : Int) : Value := .agg [.int .i64 a, .int .i64 b, .int .i64 c, .int .i64 d].toArray
abbrev B4.val (b : B4) : Value := bx b.x0 b.y0 b.x1 b.y1
abbrev B4.I (b : B4) : Prop := I64 b.x0 ∧ I64 b.y0 ∧ I64 b.x1 ∧ I64 b.y1
def emp (b : B4) : Bool := decide (b.x1 ≤ b.x0) || decide (b.y1 ≤ b.y0)
def meet0 (a b : B4) : B4 := ⟨mx a.x0 b.x0, mx a.y0 b.y0, mn a.x1 b.x1, mn a.y1 b.y1⟩
def join0 (a b : B4) : B4 := ⟨mn a.x0 b.x0, mn a.y0 b.y0, mx a.x1 b.x1, mx a.y1 b.y1⟩
def zero4 : B4 := ⟨0, 0, 0, 0⟩
def meet (a b : B4) : B4 := if emp (meet0 a b) = true then zero4 else meet0 a b
def join (a b : B4) : B4 := if (emp a && emp b) = true then zero4 else if emp a = true then b else if emp b = true then a else join0 a b
def has (b : B4) (x y : Int) : Bool := decide (b.x0 ≤ x) && decide (x < b.x1) && decide (b.y0 ≤ y) && decide (y < b.y1)
def upS (x : Int) : Int := (x + 65535) / 65536
def scr (w h : Int) : Bool := decide (1 ≤ w) && decide (w ≤ 256) && decide (1 ≤ h) && decide (h ≤ 256)
end Go.Proofs.Ytlcdbangmbdlcaa
/- Chapter 14: the walks of what is round all places. -/
namespace Go.Proofs.Ytlcdbangmbdlcaa
open Go Go.RowKit E
attribute [local irreducible] XRun XOps XCode XCal XLoop XQ SemCall
set_option linter.unusedSimpArgs false
set_option linter.unusedVariables false
abbrev PL := Bool × List Pt
def plC (l : List (Bool × Value)) : List Value := l.flatMap fun p => [.bool p.1, p.2]
theorem plC_app (l m : List (Bool × Value)) : plC (l ++ m) = plC l ++ plC m := by simp [plC]
/-- Rows of points, as they may lie. -/
def Polys (H : AH) (v : Value) (ps : List PL) : Prop :=
  (ps = [] ∧ ((∃ e, v = .slice (some ⟨0, 0, none⟩) 0 e) ∨ v = .slice none 0 0)) ∨
  ∃ b g rest rw_ vs, v = sl b 0 g ps.length 2 ∧ H[b]? = some ⟨plC vs ++ rest, g, rw_⟩ ∧ vs.length = ps.length ∧ ps.length ≤ 9223372036854775807 ∧ ∀ (i : Nat) x, ps[i]? = some x → ∃ pv, vs[i]? = some (x.1, pv) ∧ Pts H pv x.2
theorem Polys.app {H : AH} {v : Value} {ps : List PL} (h : Polys H v ps) (L : AH) : Polys (H ++ L) v ps := by
  rcases h with h | ⟨b, g, rest, rw_, vs, h1, h2, h3, h4, h5⟩
  · exact .inl h
  · exact .inr ⟨b, g, rest, rw_, vs, h1, old_get h2 L, h3, h4, fun i x hx => by obtain ⟨pv, e1, e2⟩ := h5 i x hx; exact ⟨pv, e1, e2.app L⟩⟩
theorem Polys.form {H : AH} {v : Value} {ps : List PL} (h : Polys H v ps) : ∃ a e, v = .slice a ps.length e := by
  rcases h with ⟨rfl, ⟨e, rfl⟩ | rfl⟩ | ⟨b, g, rest, rw_, vs, rfl, _⟩
  · exact ⟨_, _, rfl⟩
  · exact ⟨_, _, rfl⟩
  · exact ⟨_, _, rfl⟩
theorem Polys.ne {H : AH} {v : Value} {ps : List PL} (h : Polys H v ps) (hn : ¬ ps = []) : ∃ b g rest rw_ vs, v = sl b 0 g ps.length 2 ∧ H[b]? = some ⟨plC vs ++ rest, g, rw_⟩ ∧ vs.length = ps.length ∧ ps.length ≤ 9223372036854775807 ∧ ∀ (i : Nat) x, ps[i]? = some x → ∃ pv, vs[i]? = some (x.1, pv) ∧ Pts H pv x.2 := h.resolve_left fun h => hn h.1
def pbx (p : Pt) : B4 := ⟨p.1 / 65536, p.2 / 65536, upS p.1, upS p.2⟩
def stepB (s : Bool × B4) (p : Pt) : Bool × B4 := (false, join0 (if s.1 = true then pbx p else s.2) (pbx p))
def foldP (s : Bool × B4) (x : PL) : Bool × B4 := x.2.foldl stepB s
def boxOf (ps : List PL) : B4 := (ps.foldl foldP (true, zero4)).2
abbrev b4C (b : B4) : List Value := [.int .i64 b.x0, .int .i64 b.y0, .int .i64 b.x1, .int .i64 b.y1]
theorem getD_some {α : Type} {l : List α} {i : Nat} (h : i < l.length) : ∃ x, l[i]? = some x ∧ l.drop i = x :: l.drop (i + 1) := ⟨l[i], List.getElem?_eq_getElem h, drop_cons h⟩
end Go.Proofs.Ytlcdbangmbdlcaa
/- Chapter 14: the walk of the document's own box round all places. -/
namespace Go.Proofs.Ytlcdbangmbdlcaa
open Go Go.RowKit E
attribute [local irreducible] XRun XOps XCode XCal XLoop XQ SemCall
set_option linter.unusedSimpArgs false
set_option linter.unusedVariables false
def tl2 (l : List (Int × Int)) : List Value := ptC l
/-- The tiles of rows: from x0 to x1 in each row from y0 to y1. -/
def rowT (y : Int) (x0 : Int) : Nat → List (Int × Int)
  | 0 => []
  | n + 1 => (x0, y) :: rowT y (x0 + 1) n
def rowsT (x0 : Int) (nx : Nat) (y0 : Int) : Nat → List (Int × Int)
  | 0 => []
  | n + 1 => rowT y0 x0 nx ++ rowsT x0 nx (y0 + 1) n
def tilesOf (b : B4) (w h : Int) : List (Int × Int) :=
  if scr w h = true then
    let m := meet b ⟨0, 0, w, h⟩
    if emp m = true then [] else rowsT (m.x0 / 8) ((m.x1 - 1) / 8 + 1 - m.x0 / 8).toNat (m.y0 / 8) ((m.y1 - 1) / 8 + 1 - m.y0 / 8).toNat
  else []
end Go.Proofs.Ytlcdbangmbdlcaa
/- Chapter 14: the walk of tiles. -/
namespace Go.Proofs.Ytlcdbangmbdlcaa
open Go Go.RowKit E
attribute [local irreducible] XRun XOps XCode XCal XLoop XQ SemCall
set_option linter.unusedSimpArgs false
set_option linter.unusedVariables false
def TB (H : AH) (M : B4) (o : List (Int × Int)) (v : Value) (H' : AH) : Prop :=
  (o = [] ∧ v = .slice none 0 0 ∧ H' = H ++ [⟨b4C M, 0, true⟩]) ∨ ∃ g X G, v = sl (H.length + 2) 0 g o.length 2 ∧ H' = H ++ (⟨b4C M, 0, true⟩ :: X :: ⟨ptC o, g, true⟩ :: G)
theorem TB.m {H : AH} {M : B4} {o : List (Int × Int)} {v : Value} {H' : AH} (h : TB H M o v H') : H'[H.length]? = some ⟨b4C M, 0, true⟩ := by
  rcases h with ⟨_, _, e⟩ | ⟨g, X, G, _, e⟩ <;> rw [e, hget_app0] <;> rfl
end Go.Proofs.Ytlcdbangmbdlcaa
/- Chapter 14: the walk of the law on tiles. -/
namespace Go.Proofs.Ytlcdbangmbdlcaa
open Go Go.RowKit E
attribute [local irreducible] XRun XOps XCode XCal XLoop XQ SemCall
set_option linter.unusedSimpArgs false
set_option linter.unusedVariables false
def mkn (f : Nat → Int) : List Value := (List.range 25).map fun j => .int .i64 (f j)
def cntI : List Pt → Nat → Int
  | [], _ => 0
  | t :: l, j => (if t.2 * 5 + t.1 = (j : Int) then 1 else 0) + cntI l j
def mkP (B : B4) (W Y X : Int) (j : Nat) : Prop := ∃ x y : Int, 0 ≤ x ∧ 0 ≤ y ∧ (y < Y ∧ x < W ∨ y = Y ∧ x < X) ∧ has B x y = true ∧ (j : Int) = y / 8 * 5 + x / 8
open Classical in
noncomputable def mkf (B : B4) (W Y X : Int) (j : Nat) : Int := if mkP B W Y X j then 1 else 0
end Go.Proofs.Ytlcdbangmbdlcaa
/- Chapter 8: the walk of the plain form of straight lines. -/
namespace Go.Proofs.Ytlcdbangmbdlcaa
open Go Go.RowKit E
attribute [local irreducible] XRun XOps XCode XCal XLoop XQ SemCall
set_option linter.unusedSimpArgs false
set_option linter.unusedVariables false
end Go.Proofs.Ytlcdbangmbdlcaa
/- Chapter 8: the walks of what compares points and rows of points. -/
namespace Go.Proofs.Ytlcdbangmbdlcaa
open Go Go.RowKit E
/-- A call that only adds blocks. -/
theorem adds_of {P : Program} {f : FuncId} {args : List Value} {H : AH} {Q : Value → AH → Prop} (h : @XCal P f args H ⟨fun v H1 W => W = [] ∧ Q v H1⟩) :
    Cal P f args H fun v H' W => W = [] ∧ (∃ L, H' = H ++ L) ∧ Q v H' := by
  unfold XCal at h
  obtain ⟨v, H1, W1, h1, rfl, hq⟩ := h
  refine ⟨v, H1, [], h1, rfl, ⟨H1.drop H.length, ?_⟩, hq⟩
  apply List.ext_getElem?
  intro i
  by_cases hi : i < H.length
  · rw [List.getElem?_append_left hi]; exact h1.1.2.2 i hi (by simp)
  · rw [List.getElem?_append_right (by omega), List.getElem?_drop]; congr 1; omega
attribute [local irreducible] XRun XOps XCode XCal XLoop XQ SemCall
set_option linter.unusedSimpArgs false
set_option linter.unusedVariables false
end Go.Proofs.Ytlcdbangmbdlcaa
/- Chapter 8: rows of points and of polys that are being made; the walks of maps. -/
namespace Go.Proofs.Ytlcdbangmbdlcaa
open Go Go.RowKit E
theorem of_x {P : Program} {f : FuncId} {args : List Value} {H : AH} {Q : Value → AH → List Nat → Prop} (h : @XCal P f args H ⟨Q⟩) : Cal P f args H Q := h
attribute [local irreducible] XRun XOps XCode XCal XLoop XQ SemCall
set_option linter.unusedSimpArgs false
set_option linter.unusedVariables false
/-- What was, is. -/
def Old (H K : AH) : Prop := ∀ (c : Nat) (k : Blk), H[c]? = some k → K[c]? = some k
theorem Old.refl (H : AH) : Old H H := fun _ _ h => h
theorem Old.app {H K : AH} (h : Old H K) (L : AH) : Old H (K ++ L) := fun c k e => old_get (h c k e) L
theorem Old.app' (H L : AH) : Old H (H ++ L) := fun c k e => old_get e L
theorem Old.set {H K : AH} (h : Old H K) {b : Nat} (hb : H.length ≤ b) (x : Blk) (L : AH) : Old H (K.set b x ++ L) := fun c k e => by
  have hc := (List.getElem?_eq_some_iff.1 e).1
  refine old_get ?_ L
  rw [List.getElem?_set_ne (by omega)]; exact h c k e
theorem Old.trans {H K J : AH} (h : Old H K) (h' : Old K J) : Old H J := fun c k e => h' c k (h c k e)
theorem Pts.old {H K : AH} {pv : Value} {l : List Pt} (h : Pts H pv l) (o : Old H K) : Pts K pv l := by
  rcases h with h | ⟨b, g, rest, rw_, h1, h2, h3⟩
  · exact .inl h
  · exact .inr ⟨b, g, rest, rw_, h1, o _ _ h2, h3⟩
theorem Polys.old {H K : AH} {v : Value} {ps : List PL} (h : Polys H v ps) (o : Old H K) : Polys K v ps := by
  rcases h with h | ⟨b, g, rest, rw_, vs, h1, h2, h3, h4, h5⟩
  · exact .inl h
  · exact .inr ⟨b, g, rest, rw_, vs, h1, o _ _ h2, h3, h4, fun i x hx => by obtain ⟨pv, e1, e2⟩ := h5 i x hx; exact ⟨pv, e1, e2.old o⟩⟩
/-- Points that lie in a new block, apart from one block. -/
def PtsF (n0 bad : Nat) (K : AH) (pv : Value) (l : List Pt) : Prop :=
  (l = [] ∧ pv = .slice none 0 0) ∨ ∃ b g rest rw_, n0 ≤ b ∧ b ≠ bad ∧ pv = sl b 0 g l.length 2 ∧ K[b]? = some ⟨ptC l ++ rest, g, rw_⟩ ∧ l.length ≤ 9223372036854775807
theorem PtsF.pts {n0 bad : Nat} {K : AH} {pv : Value} {l : List Pt} (h : PtsF n0 bad K pv l) : Pts K pv l := by
  rcases h with ⟨h1, h2⟩ | ⟨b, g, rest, rw_, _, _, h1, h2, h3⟩
  · exact .inl ⟨h1, .inr h2⟩
  · exact .inr ⟨b, g, rest, rw_, h1, h2, h3⟩
theorem PtsF.app {n0 bad : Nat} {K : AH} {pv : Value} {l : List Pt} (h : PtsF n0 bad K pv l) (L : AH) : PtsF n0 bad (K ++ L) pv l := by
  rcases h with h | ⟨b, g, rest, rw_, h0, h0', h1, h2, h3⟩
  · exact .inl h
  · exact .inr ⟨b, g, rest, rw_, h0, h0', h1, old_get h2 L, h3⟩
theorem PtsF.set {n0 bad : Nat} {K : AH} {pv : Value} {l : List Pt} (h : PtsF n0 bad K pv l) (x : Blk) : PtsF n0 bad (K.set bad x) pv l := by
  rcases h with h | ⟨b, g, rest, rw_, h0, h0', h1, h2, h3⟩
  · exact .inl h
  · exact .inr ⟨b, g, rest, rw_, h0, h0', h1, by rw [List.getElem?_set_ne (fun e => h0' e.symm)]; exact h2, h3⟩
theorem PtsF.weak {n0 n1 bad bad' : Nat} {K : AH} {pv : Value} {l : List Pt} (h : PtsF n0 bad K pv l) (h1 : n1 ≤ n0) (h2 : bad' < n0) : PtsF n1 bad' K pv l := by
  rcases h with h | ⟨b, g, rest, rw_, h0, h0', h⟩
  · exact .inl h
  · exact .inr ⟨b, g, rest, rw_, by omega, by omega, h⟩
theorem PtsF.bad {n0 bad : Nat} {K : AH} {pv : Value} {l : List Pt} (h : PtsF n0 bad K pv l) {b' : Nat} (h' : K.length ≤ b') : PtsF n0 b' K pv l := by
  rcases h with h | ⟨b, g, rest, rw_, h0, h0', h1, h2, h3⟩
  · exact .inl h
  · exact .inr ⟨b, g, rest, rw_, h0, by have := (List.getElem?_eq_some_iff.1 h2).1; omega, h1, h2, h3⟩
/-- A row of polys that is being made. -/
def OutN (n0 : Nat) (K : AH) (b : Nat) (vs : List (Bool × Value)) (qs : List PL) : Prop :=
  vs.length = qs.length ∧ ∀ (i : Nat) x, qs[i]? = some x → ∃ pv, vs[i]? = some (x.1, pv) ∧ PtsF n0 b K pv x.2
def OutP (n0 : Nat) (K : AH) (v : Value) (qs : List PL) : Prop :=
  (qs = [] ∧ v = .slice none 0 0) ∨ ∃ b g vs, n0 ≤ b ∧ v = sl b 0 g qs.length 2 ∧ K[b]? = some ⟨plC vs, g, true⟩ ∧ OutN n0 K b vs qs
theorem OutP.polys {n0 : Nat} {K : AH} {v : Value} {qs : List PL} (h : OutP n0 K v qs) (hl : qs.length ≤ 9223372036854775807) : Polys K v qs := by
  rcases h with ⟨h1, h2⟩ | ⟨b, g, vs, h0, h1, h2, h3, h4⟩
  · exact .inl ⟨h1, .inr h2⟩
  · exact .inr ⟨b, g, [], true, vs, h1, by rw [List.append_nil]; exact h2, h3, hl, fun i x hx => by obtain ⟨pv, e1, e2⟩ := h4 i x hx; exact ⟨pv, e1, e2.pts⟩⟩
theorem OutP.app {n0 : Nat} {K : AH} {v : Value} {qs : List PL} (h : OutP n0 K v qs) (L : AH) : OutP n0 (K ++ L) v qs := by
  rcases h with h | ⟨b, g, vs, h0, h1, h2, h3, h4⟩
  · exact .inl h
  · exact .inr ⟨b, g, vs, h0, h1, old_get h2 L, h3, fun i x hx => by obtain ⟨pv, e1, e2⟩ := h4 i x hx; exact ⟨pv, e1, e2.app L⟩⟩
theorem OutN.push {n0 : Nat} {K : AH} {b : Nat} {vs ws : List (Bool × Value)} {qs rs : List PL} (h : OutN n0 K b vs qs) (h' : OutN n0 K b ws rs) : OutN n0 K b (vs ++ ws) (qs ++ rs) := by
  refine ⟨by rw [List.length_append, List.length_append, h.1, h'.1], fun i x hx => ?_⟩
  by_cases hi : i < qs.length
  · rw [List.getElem?_append_left hi] at hx
    rw [List.getElem?_append_left (by rw [h.1]; exact hi)]
    exact h.2 i x hx
  · rw [List.getElem?_append_right (by omega)] at hx
    rw [List.getElem?_append_right (by rw [h.1]; omega), h.1]
    exact h'.2 _ x hx
theorem OutN.mono {n0 n1 : Nat} {K J : AH} {b b' : Nat} {vs : List (Bool × Value)} {qs : List PL} (h : OutN n0 K b vs qs) (m : ∀ pv l, PtsF n0 b K pv l → PtsF n1 b' J pv l) : OutN n1 J b' vs qs :=
  ⟨h.1, fun i x hx => by obtain ⟨pv, e1, e2⟩ := h.2 i x hx; exact ⟨pv, e1, m _ _ e2⟩⟩
theorem OutN.one {n0 : Nat} {K : AH} {b : Nat} {c : Bool} {pv : Value} {l : List Pt} (h : PtsF n0 b K pv l) : OutN n0 K b [(c, pv)] [(c, l)] :=
  ⟨rfl, fun i x hx => by
    cases i with
    | zero => simp at hx; subst hx; exact ⟨pv, rfl, h⟩
    | succ i => simp at hx⟩
theorem PtsF.old {n0 bad : Nat} {K J : AH} {pv : Value} {l : List Pt} (h : PtsF n0 bad K pv l) (o : Old K J) : PtsF n0 bad J pv l := by
  rcases h with h | ⟨b, g, rest, rw_, h0, h0', h1, h2, h3⟩
  · exact .inl h
  · exact .inr ⟨b, g, rest, rw_, h0, h0', h1, o _ _ h2, h3⟩
theorem PtsF.form {n0 bad : Nat} {K : AH} {pv : Value} {l : List Pt} (h : PtsF n0 bad K pv l) : ∃ a e, pv = .slice a l.length e := by
  rcases h with ⟨rfl, rfl⟩ | ⟨b, g, rest, rw_, _, _, rfl, _⟩
  · exact ⟨_, _, rfl⟩
  · exact ⟨_, _, rfl⟩
/-- What was, is, apart from one block. -/
def Olx (bo : Nat) (K J : AH) : Prop := ∀ (c : Nat) (k : Blk), c ≠ bo → K[c]? = some k → J[c]? = some k
theorem Olx.set1 (bo : Nat) (K M : AH) (x : Blk) : Olx bo K (K.set bo x ++ M) := fun c k hc e => old_get (by rw [List.getElem?_set_ne (fun e => hc e.symm)]; exact e) M
theorem Olx.old {bo : Nat} {K J : AH} (o : Old K J) : Olx bo K J := fun c k _ e => o c k e
theorem PtsF.olx {n0 bad : Nat} {K J : AH} {pv : Value} {l : List Pt} (h : PtsF n0 bad K pv l) (o : Olx bad K J) : PtsF n0 bad J pv l := by
  rcases h with h | ⟨b, g, rest, rw_, h0, h0', h1, h2, h3⟩
  · exact .inl h
  · exact .inr ⟨b, g, rest, rw_, h0, h0', h1, o _ _ h0' h2, h3⟩
theorem Old.olx {H K J : AH} {bo : Nat} (h : Old H K) (o : Olx bo K J) (hb : H.length ≤ bo) : Old H J := fun c k e => o c k (by have := (List.getElem?_eq_some_iff.1 e).1; omega) (h c k e)
/-- The first of a row that is being made. -/
theorem OutP.first {n0 n1 bad : Nat} {K1 J : AH} {c : Bool} {pv : Value} {l : List Pt} (h : PtsF n1 bad K1 pv l) (o : Old K1 J) (hn : n0 ≤ n1) {b g : Nat} (hb : J[b]? = some ⟨[.bool c, pv], g, true⟩) (hbl : K1.length ≤ b) (hnb : n0 ≤ b) : OutP n0 J (sl b 0 g 1 2) [(c, l)] := by
  refine .inr ⟨b, g, [(c, pv)], hnb, rfl, hb, OutN.one (PtsF.old ?_ o)⟩
  have := h.bad hbl
  rcases this with h | ⟨b, g, rest, rw_, h0, h⟩
  · exact .inl h
  · exact .inr ⟨b, g, rest, rw_, by omega, h⟩
/-- One more of a row that is being made. -/
theorem OutP.next {n0 n1 bad bo go : Nat} {K K1 J : AH} {c : Bool} {pv : Value} {l : List Pt} {vo : List (Bool × Value)} {qs : List PL} (hov : OutN n0 K bo vo qs) (hbo : n0 ≤ bo) (o : Olx bo K J) (h : PtsF n1 bad K1 pv l) (o1 : Olx bo K1 J) (hn : bo < n1) (hb : J[bo]? = some ⟨plC vo ++ [.bool c, pv], go, true⟩) : OutP n0 J (sl bo 0 go (qs.length + 1) 2) (qs ++ [(c, l)]) := by
  refine .inr ⟨bo, go, vo ++ [(c, pv)], hbo, by rw [List.length_append]; rfl, by rw [plC_app]; exact hb, (hov.mono fun _ _ p => p.olx o).push (OutN.one ?_)⟩
  exact PtsF.olx (h.weak (by omega) hn) o1
theorem PtsF.low {n0 n1 bad : Nat} {K : AH} {pv : Value} {l : List Pt} (h : PtsF n0 bad K pv l) (h1 : n1 ≤ n0) : PtsF n1 bad K pv l := by
  rcases h with h | ⟨b, g, rest, rw_, h0, h0', h⟩
  · exact .inl h
  · exact .inr ⟨b, g, rest, rw_, by omega, h0', h⟩
theorem OutP.low {n0 n1 : Nat} {K : AH} {v : Value} {qs : List PL} (h : OutP n0 K v qs) (h1 : n1 ≤ n0) : OutP n1 K v qs := by
  rcases h with h | ⟨b, g, vs, h0, h2, h3, h4⟩
  · exact .inl h
  · exact .inr ⟨b, g, vs, by omega, h2, h3, h4.mono fun _ _ p => p.low h1⟩
theorem Old.apx (K A M : AH) : Old (K ++ A) (K ++ (A ++ M)) := by rw [← List.append_assoc]; exact Old.app' _ _
theorem Olx.trans {b : Nat} {H K J : AH} (h : Olx b H K) (h' : Olx b K J) : Olx b H J := fun c k hc e => h' c k hc (h c k hc e)
theorem Olx.set0 (b : Nat) (K : AH) (x : Blk) : Olx b K (K.set b x) := fun c k hc e => by rw [List.getElem?_set_ne (fun e => hc e.symm)]; exact e
theorem Olx.refl (b : Nat) (K : AH) : Olx b K K := fun _ _ _ e => e
theorem Olx.app {b : Nat} {H K : AH} (h : Olx b H K) (L : AH) : Olx b H (K ++ L) := fun c k hc e => old_get (h c k hc e) L
theorem Olx.bo {tb bo : Nat} {H K J : AH} (h : Olx tb H K) (hb : H.length ≤ bo) (o : Olx bo K J) : Olx tb H J := fun c k hc e => o c k (by have := (List.getElem?_eq_some_iff.1 e).1; omega) (h c k hc e)
end Go.Proofs.Ytlcdbangmbdlcaa
