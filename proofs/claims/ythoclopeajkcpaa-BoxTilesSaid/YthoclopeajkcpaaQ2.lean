/- Chapter 1: the walks of quotients, roots, what lies between. -/
import Derived.Test.YthoclopeajkcpaaQ1
namespace Go.Proofs.Ythoclopeajkcpaa
open Go Go.RowKit E
attribute [local irreducible] XRun XOps XCode XCal XLoop XQ SemCall
set_option linter.unusedSimpArgs false
set_option linter.unusedVariables false
theorem negdiv (a b : Int) (hb : 0 < b) : (-a) / b = -(a / b) - (if a % b = 0 then 0 else 1) ∧ (-a) % b = (if a % b = 0 then 0 else b - a % b) := by
  have e := Int.mul_ediv_add_emod a b
  have h1 := Int.emod_nonneg a (show b ≠ 0 by omega)
  have h2 := Int.emod_lt_of_pos a hb
  refine (Int.ediv_emod_unique hb).2 ?_
  split
  · rename_i h
    refine ⟨?_, by omega, by omega⟩
    rw [Int.sub_zero, Int.mul_neg]; omega
  · refine ⟨?_, by omega, by omega⟩
    rw [Int.mul_sub, Int.mul_neg, Int.mul_one]; omega
/-- A quotient cut to nought and one rounded down, by signs. -/
theorem tdiv_pp {a b : Int} (ha : 0 ≤ a) (hb : 0 < b) : a.tdiv b = a / b ∧ a.tmod b = a % b ∧ a.fdiv b = a / b :=
  ⟨Int.tdiv_eq_ediv_of_nonneg ha, Int.tmod_eq_emod_of_nonneg ha, Int.fdiv_eq_ediv_of_nonneg a (by omega)⟩
theorem tdiv_np {a b : Int} (ha : 0 ≤ a) (hb : 0 < b) : (-a).tdiv b = -(a / b) ∧ (-a).tmod b = -(a % b) ∧ (-a).fdiv b = -(a / b) - (if a % b = 0 then 0 else 1) :=
  ⟨by rw [Int.neg_tdiv, Int.tdiv_eq_ediv_of_nonneg ha], by rw [Int.neg_tmod, Int.tmod_eq_emod_of_nonneg ha], by rw [Int.fdiv_eq_ediv_of_nonneg _ (by omega), (negdiv a b hb).1]⟩
theorem tdiv_pn {a b : Int} (ha : 0 ≤ a) (hb : 0 < b) : a.tdiv (-b) = -(a / b) ∧ a.tmod (-b) = a % b ∧ a.fdiv (-b) = -(a / b) - (if a % b = 0 then 0 else 1) :=
  ⟨by rw [Int.tdiv_neg, Int.tdiv_eq_ediv_of_nonneg ha], by rw [Int.tmod_neg, Int.tmod_eq_emod_of_nonneg ha], by rw [← Int.neg_fdiv_neg, Int.neg_neg, Int.fdiv_eq_ediv_of_nonneg _ (by omega), (negdiv a b hb).1]⟩
theorem tdiv_nn {a b : Int} (ha : 0 ≤ a) (hb : 0 < b) : (-a).tdiv (-b) = a / b ∧ (-a).tmod (-b) = -(a % b) ∧ (-a).fdiv (-b) = a / b :=
  ⟨by rw [Int.neg_tdiv, Int.tdiv_neg, Int.neg_neg, Int.tdiv_eq_ediv_of_nonneg ha], by rw [Int.tmod_neg, Int.neg_tmod, Int.tmod_eq_emod_of_nonneg ha], by rw [Int.neg_fdiv_neg, Int.fdiv_eq_ediv_of_nonneg _ (by omega)]⟩
theorem div_le {a b : Int} (ha : 0 ≤ a) (hb : 0 < b) : 0 ≤ a / b ∧ a / b ≤ a := ⟨Int.ediv_nonneg ha (by omega), Int.ediv_le_self _ ha⟩
/-- A loop of so many rounds, bit by bit. -/
theorem sq_round (k a r : Nat) (hk : k < 32) (hr : r % 2 ^ (k + 1) = 0) (hb : r < 4294967296) : bits .or .u64 (r : Int) ((2 ^ k : Nat) : Int) = ((r + 2 ^ k : Nat) : Int) ∧ r + 2 ^ k < 4294967296 ∧ (r + 2 ^ k) % 2 ^ k = 0 ∧ r % 2 ^ k = 0 := by
  have hp : 2 ^ (k + 1) = 2 * 2 ^ k := by rw [Nat.pow_succ, Nat.mul_comm]
  have hk0 : 0 < 2 ^ k := Nat.pow_pos (by decide)
  obtain ⟨c, hc⟩ := Nat.dvd_of_mod_eq_zero hr
  have h32 : 2 ^ (k + 1) * 2 ^ (31 - k) = 4294967296 := by rw [← Nat.pow_add, show k + 1 + (31 - k) = 32 by omega]
  have hc2 : c < 2 ^ (31 - k) := by
    rcases Nat.lt_or_ge c (2 ^ (31 - k)) with h | h
    · exact h
    · have := Nat.mul_le_mul_left (2 ^ (k + 1)) h
      omega
  have hle : 2 ^ (k + 1) * (c + 1) ≤ 2 ^ (k + 1) * 2 ^ (31 - k) := Nat.mul_le_mul_left _ hc2
  rw [Nat.mul_add] at hle
  refine ⟨?_, by omega, ?_, ?_⟩
  · rw [or_u64 _ _ (by omega) (by omega), hc, Nat.two_pow_add_eq_or_of_lt (by omega)]
  · rw [hc, hp, Nat.mul_assoc, Nat.mul_left_comm, Nat.add_mod_right, Nat.mul_mod_right]
  · rw [hc, hp, Nat.mul_assoc, Nat.mul_left_comm, Nat.mul_mod_right]
theorem hold_neg_w (a : Int) : IntKind.i64.wrap (0 - hold a) = -(hold a) := by
  have := hold_b a
  rw [wi (by omega) (by omega)]; omega
end Go.Proofs.Ythoclopeajkcpaa
