/- Chapter 1: the walks of the laws on numbers. -/
import Derived.Test.YthoclopeajkcpaaQ4
namespace Go.Proofs.Ythoclopeajkcpaa
open Go Go.RowKit E
attribute [local irreducible] XRun XOps XCode XCal XLoop XQ SemCall
set_option linter.unusedSimpArgs false
set_option linter.unusedVariables false
theorem tm_b (a : Int) {n : Int} (hn : 0 < n) : -n < a.tmod n ∧ a.tmod n < n := by
  rcases Int.lt_or_le a 0 with h | h
  · have f := tdiv_np (a := -a) (b := n) (by omega) hn
    rw [Int.neg_neg] at f
    have := Int.emod_nonneg (-a) (show n ≠ 0 by omega)
    have := Int.emod_lt_of_pos (-a) hn
    omega
  · have f := tdiv_pp h hn
    have := Int.emod_nonneg a (show n ≠ 0 by omega)
    have := Int.emod_lt_of_pos a hn
    omega
theorem hold_mono {a b : Int} (h : a ≤ b) : hold a ≤ hold b := by unfold hold clamp; split <;> (try split) <;> (try split) <;> (try split) <;> omega
theorem clamp_mono {a b lo hi : Int} (h : a ≤ b) (hl : lo ≤ hi) : clamp a lo hi ≤ clamp b lo hi := by unfold clamp; split <;> (try split) <;> (try split) <;> (try split) <;> omega
theorem qadd_mono {a b c : Int} (h : a ≤ b) : qadd a c ≤ qadd b c := hold_mono (by have := hold_mono h; omega)
theorem qmul_mono {a b k : Int} (h : a ≤ b) (hk : 0 ≤ k) : qmul a k ≤ qmul b k := by
  refine hold_mono ?_
  have h1 := hold_mono h
  have h2 : 0 ≤ hold k := by have := hold_mono hk; rwa [show hold 0 = 0 from rfl] at this
  have := Int.mul_le_mul_of_nonneg_right h1 h2
  omega
theorem qdiv_mono {a b k : Int} (h : a ≤ b) (hk : 0 ≤ k) : qdiv a k ≤ qdiv b k := by
  unfold qdiv
  split
  · omega
  · refine hold_mono ?_
    have h1 := hold_mono h
    have h2 : 0 ≤ hold k := by have := hold_mono hk; rwa [show hold 0 = 0 from rfl] at this
    rw [Int.fdiv_eq_ediv_of_nonneg _ h2, Int.fdiv_eq_ediv_of_nonneg _ h2]
    exact Int.ediv_le_ediv (by omega) (by omega)
theorem isq_mono {a b : Int} (h0 : 0 ≤ a) (h : a ≤ b) (hb : b < 18446744073709551616) : isq a ≤ isq b := by
  have k := isq_ok (n := b) (by omega) hb
  exact isq_le h0 (by omega) (by omega) k.1
theorem root_mono {a b : Int} (h : a ≤ b) : root a ≤ root b := by
  have h1 := clamp_b a 0 1099511627776 (by omega)
  have h2 := clamp_b b 0 1099511627776 (by omega)
  have := clamp_mono (lo := 0) (hi := 1099511627776) h (by omega)
  exact isq_mono (by omega) (by omega) (by omega)
theorem qmul_comm (a b : Int) : qmul a b = qmul b a := by unfold qmul; rw [Int.mul_comm]
theorem qadd_comm (a b : Int) : qadd a b = qadd b a := by unfold qadd; rw [Int.add_comm]
theorem qmul_one (a : Int) : qmul a 65536 = hold a := by
  unfold qmul
  rw [show hold 65536 = 65536 from rfl, Int.mul_ediv_cancel _ (by omega), hold_hold]
theorem qmul_zero (a : Int) : qmul a 0 = 0 := by
  unfold qmul; rw [show hold 0 = 0 from rfl, Int.mul_zero]; rfl
theorem qdiv_one (a : Int) : qdiv a 65536 = hold a := by
  unfold qdiv
  rw [if_neg (by decide), show hold 65536 = 65536 from rfl, Int.fdiv_eq_ediv_of_nonneg _ (by omega), Int.mul_ediv_cancel _ (by omega), hold_hold]
theorem qdiv_zero (a : Int) : qdiv 0 a = 0 := by
  unfold qdiv; split
  · rfl
  · rw [show hold 0 = 0 from rfl, Int.zero_mul, Int.zero_fdiv]; rfl
theorem qadd_zero (a : Int) : qadd a 0 = hold a := by
  unfold qadd; rw [show hold 0 = 0 from rfl, Int.add_zero, hold_hold]
abbrev Nr (x : Int) : Prop := -67108864 < x ∧ x < 67108864
theorem near_mul {x y : Int} (hx : Nr x) (hy : Nr y) : -4503599627370496 ≤ x * y ∧ x * y ≤ 4503599627370496 := by
  have := mul_bd (x := x) (y := y) (m := 67108864) (n := 67108864) (by omega) (by omega) (by omega) (by omega); omega
theorem near_qmul {x y : Int} (hx : Nr x) (hy : Nr y) : qmul x y = x * y / 65536 := by
  have := near_mul hx hy
  unfold qmul
  rw [hold_in (a := x) (by omega) (by omega), hold_in (a := y) (by omega) (by omega), hold_in (by omega) (by omega)]
theorem near_qadd {x y : Int} (hx : Nr x) (hy : Nr y) : qadd x y = x + y := by
  unfold qadd
  rw [hold_in (a := x) (by omega) (by omega), hold_in (a := y) (by omega) (by omega), hold_in (by omega) (by omega)]
theorem near_hyp {x y : Int} (hx : Nr x) (hy : Nr y) : hyp x y = isq (x * x + y * y) := by
  unfold hyp
  rw [clamp_in (a := x) (by omega) (by omega), clamp_in (a := y) (by omega) (by omega)]
theorem tm_neg_w {a n : Int} (h : -n < a ∧ a < n) (hn : n ≤ 9223372036854775807) : IntKind.i64.wrap (0 - a) = -a := by rw [wi (by omega) (by omega)]; omega
/-- What lies between two, in plain numbers. -/
theorem near_mid {x y t : Int} (hx : Nr x) (hy : Nr y) (ht : 0 ≤ t ∧ t ≤ 65536) : mid x y t = x + (y - x) * t / 65536 := by
  have m := mul_bd (x := y - x) (y := t) (m := 134217728) (n := 65536) (by omega) (by omega) (by omega) (by omega)
  unfold mid
  have e : qadd y (-(hold x)) = y - x := by
    unfold qadd
    rw [hold_in (a := x) (by omega) (by omega), hold_in (a := y) (by omega) (by omega), hold_in (a := -x) (by omega) (by omega), hold_in (by omega) (by omega)]; omega
  rw [e, qadd_hold]
  unfold qmul qadd
  rw [hold_in (a := y - x) (by omega) (by omega), hold_in (a := t) (by omega) (by omega), hold_in (a := (y - x) * t / 65536) (by omega) (by omega), hold_in (a := x) (by omega) (by omega), hold_in (a := (y - x) * t / 65536) (by omega) (by omega), hold_in (by omega) (by omega)]
theorem and_near (c : Int) : bits .and .i64 c 67108863 = c % 67108864 := and_i64 c 26 (by decide)
end Go.Proofs.Ythoclopeajkcpaa
