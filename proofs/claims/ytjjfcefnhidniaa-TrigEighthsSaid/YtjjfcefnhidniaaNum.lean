/- Small facts about whole numbers: what 64 bits hold, quotients and remainders that Go rounds towards 0, and products. They are used by the proofs of the statements; no program is in sight here. -/
import Derived.RowKit
set_option linter.unusedVariables false
set_option linter.unusedSimpArgs false
namespace Go.Proofs.Ytjjfcefnhidniaa.Num
open Go.RowKit

theorem w64 {n : Int} (h1 : -9223372036854775808 ≤ n) (h2 : n ≤ 9223372036854775807) : wrap64 n = n := by
  unfold wrap64; omega

theorem w64_range (n : Int) : -9223372036854775808 ≤ wrap64 n ∧ wrap64 n ≤ 9223372036854775807 := by
  unfold wrap64; omega

theorem tmod_cases (a n : Int) : (0 ≤ a ∧ Int.tmod a n = a % n) ∨ (a < 0 ∧ Int.tmod a n = -((-a) % n)) := by
  by_cases h : 0 ≤ a
  · exact Or.inl ⟨h, Int.tmod_eq_emod_of_nonneg h⟩
  · refine Or.inr ⟨by omega, ?_⟩
    have e : Int.tmod (-(-a)) n = -(Int.tmod (-a) n) := Int.neg_tmod _ _
    rw [Int.neg_neg] at e
    rw [e, Int.tmod_eq_emod_of_nonneg (by omega)]

theorem tdiv_cases (a n : Int) : (0 ≤ a ∧ Int.tdiv a n = a / n) ∨ (a < 0 ∧ Int.tdiv a n = -((-a) / n)) := by
  by_cases h : 0 ≤ a
  · exact Or.inl ⟨h, Int.tdiv_eq_ediv_of_nonneg h⟩
  · refine Or.inr ⟨by omega, ?_⟩
    have e : Int.tdiv (-(-a)) n = -(Int.tdiv (-a) n) := Int.neg_tdiv _ _
    rw [Int.neg_neg] at e
    rw [e, Int.tdiv_eq_ediv_of_nonneg (by omega)]

theorem tdiv_pos {a n : Int} (h : 0 ≤ a) : Int.tdiv a n = a / n := Int.tdiv_eq_ediv_of_nonneg h
theorem tmod_pos {a n : Int} (h : 0 ≤ a) : Int.tmod a n = a % n := Int.tmod_eq_emod_of_nonneg h

/-- A quotient grows with what is divided, and falls with what divides. -/
theorem ediv_mono {a a' b b' : Int} (h0 : 0 ≤ a) (h1 : a ≤ a') (hb' : 0 < b') (hb : b' ≤ b) : a / b ≤ a' / b' := by
  have hp : 0 < b := by omega
  rw [Int.le_ediv_iff_mul_le hb']
  have q0 : 0 ≤ a / b := Int.ediv_nonneg h0 (by omega)
  have h2 : a / b * b' ≤ a / b * b := Int.mul_le_mul_of_nonneg_left hb q0
  have h3 : a / b * b ≤ a := Int.ediv_mul_le a (by omega)
  omega

theorem wf_of (k : IntKind) (lo hi n : Int) (e1 : k.min = lo) (e2 : k.max = hi) (h : (Lit.int k n).wf = true) : lo ≤ n ∧ n ≤ hi := by
  simp only [Lit.wf, Bool.and_eq_true, decide_eq_true_eq] at h
  rw [e1, e2] at h
  exact h
theorem wf64 {n : Int} (h : (Lit.int .i64 n).wf = true) : -9223372036854775808 ≤ n ∧ n ≤ 9223372036854775807 :=
  wf_of .i64 _ _ n (by decide) (by decide) h
theorem wf8 {n : Int} (h : (Lit.int .u8 n).wf = true) : 0 ≤ n ∧ n ≤ 255 :=
  wf_of .u8 _ _ n (by decide) (by decide) h

end Go.Proofs.Ytjjfcefnhidniaa.Num
