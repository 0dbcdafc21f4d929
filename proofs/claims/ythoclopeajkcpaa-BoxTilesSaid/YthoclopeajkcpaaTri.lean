/- Chapter 2: the walks of angles. -/
import Derived.Test.YthoclopeajkcpaaQ5
namespace Go.Proofs.Ythoclopeajkcpaa
open Go Go.RowKit E
attribute [local irreducible] XRun XOps XCode XCal XLoop XQ SemCall
set_option linter.unusedSimpArgs false
set_option linter.unusedVariables false
theorem tmod_emod (a : Int) {n : Int} (hn : 0 < n) : a.tmod n = if 0 ≤ a then a % n else (if a % n = 0 then 0 else a % n - n) := by
  rcases Int.lt_or_le a 0 with h | h
  · have f := tdiv_np (a := -a) (b := n) (by omega) hn
    rw [Int.neg_neg] at f
    have g := (negdiv (-a) n hn).2
    rw [Int.neg_neg] at g
    have := Int.emod_nonneg (-a) (show n ≠ 0 by omega)
    have := Int.emod_lt_of_pos (-a) hn
    rw [f.2.1, if_neg (by omega), g]
    split
    · rw [if_pos rfl]; omega
    · rw [if_neg (by omega)]; omega
  · rw [if_pos h]; exact Int.tmod_eq_emod_of_nonneg h
/-- A half round's sine. -/
def core (x : Int) : Int := 4 * (x * (11796480 - x) / 65536) * 65536 / (2654208000 - x * (11796480 - x) / 65536)
def sn (a : Int) : Int := if a % 23592960 ≥ 11796480 then -(core (a % 23592960 - 11796480)) else core (a % 23592960)
def cs (a : Int) : Int := sn (a % 23592960 + 5898240)
theorem core_p {x : Int} (h : 0 ≤ x ∧ x < 11796480) : 0 ≤ x * (11796480 - x) ∧ x * (11796480 - x) ≤ 34789235097600 := by
  have p := Int.mul_nonneg h.1 (show 0 ≤ 11796480 - x by omega)
  have q := sq_nn (x - 5898240)
  have e : (x - 5898240) * (x - 5898240) = 34789235097600 - x * (11796480 - x) := by
    have e1 : (x - 5898240) * (x - 5898240) = x * x - x * 5898240 - (5898240 * x - 5898240 * 5898240) := by rw [Int.sub_mul, Int.mul_sub, Int.mul_sub]
    have e2 : x * (11796480 - x) = x * 11796480 - x * x := by rw [Int.mul_sub]
    omega
  omega
theorem core_b {x : Int} (h : 0 ≤ x ∧ x < 11796480) : 0 ≤ core x ∧ core x ≤ 65536 := by
  have p := core_p h
  unfold core
  generalize x * (11796480 - x) = m at *
  refine ⟨Int.ediv_nonneg (by omega) (by omega), ?_⟩
  have : 4 * (m / 65536) * 65536 / (2654208000 - m / 65536) < 65537 := by rw [Int.ediv_lt_iff_lt_mul (by omega)]; omega
  omega
theorem sn_b (a : Int) : -65536 ≤ sn a ∧ sn a ≤ 65536 := by
  unfold sn
  split
  · have := core_b (x := a % 23592960 - 11796480) (by omega); omega
  · have := core_b (x := a % 23592960) (by omega); omega
theorem cs_b (a : Int) : -65536 ≤ cs a ∧ cs a ≤ 65536 := sn_b _
theorem turn_w (a : Int) : (if a.tmod 23592960 < 0 then IntKind.i64.wrap (a.tmod 23592960 + 23592960) else a.tmod 23592960) = a % 23592960 := by
  have h := tmod_emod a (n := 23592960) (by omega)
  have hb := tm_b a (n := 23592960) (by omega)
  split
  · rw [wi (by omega) (by omega), h]; split <;> (try split) <;> omega
  · rw [h]; split <;> (try split) <;> omega
theorem core_w {x : Int} (h : 0 ≤ x ∧ x < 11796480) : IntKind.i64.wrap (11796480 - x) = 11796480 - x ∧ IntKind.i64.wrap (x * (11796480 - x)) = x * (11796480 - x) ∧ IntKind.i64.wrap ((x * (11796480 - x)).tdiv 65536) = x * (11796480 - x) / 65536 ∧
    IntKind.i64.wrap (4 * (x * (11796480 - x) / 65536)) = 4 * (x * (11796480 - x) / 65536) ∧ IntKind.i64.wrap (4 * (x * (11796480 - x) / 65536) * 65536) = 4 * (x * (11796480 - x) / 65536) * 65536 ∧
    IntKind.i64.wrap (2654208000 - x * (11796480 - x) / 65536) = 2654208000 - x * (11796480 - x) / 65536 ∧ ¬ 2654208000 - x * (11796480 - x) / 65536 = 0 ∧
    IntKind.i64.wrap ((4 * (x * (11796480 - x) / 65536) * 65536).tdiv (2654208000 - x * (11796480 - x) / 65536)) = core x := by
  have p := core_p h
  have b := core_b h
  unfold core at b ⊢
  generalize x * (11796480 - x) = m at *
  refine ⟨wi (by omega) (by omega), wi (by omega) (by omega), ?_, wi (by omega) (by omega), wi (by omega) (by omega), wi (by omega) (by omega), by omega, ?_⟩
  · rw [Int.tdiv_eq_ediv_of_nonneg p.1]; exact wi (by omega) (by omega)
  · rw [Int.tdiv_eq_ediv_of_nonneg (by omega)]; exact wi (by omega) (by omega)
end Go.Proofs.Ythoclopeajkcpaa
