/- A sine by whole numbers, as plain reckoning: it rises to a quarter of a round, is the same on both sides of it, lies between 0 and One, and its square and that of the sine a quarter on are together near One. -/
import Derived.Test.YtjjfcefnhidniaaNum
set_option linter.unusedVariables false
set_option linter.unusedSimpArgs false
namespace Go.Proofs.Ytjjfcefnhidniaa.Trig
open Go.RowKit Go.Proofs.Ytjjfcefnhidniaa.Num

/-- The arch of half a round: 0 to One. -/
def B (y : Int) : Int := 4 * (y * (11796480 - y) / 65536) * 65536 / (2654208000 - y * (11796480 - y) / 65536)

/-- The sine of an angle in one round. -/
def S (x : Int) : Int := if x ≥ 11796480 then -(B (x - 11796480)) else B x

theorem prod_range {y : Int} (h0 : 0 ≤ y) (h1 : y ≤ 11796480) : 0 ≤ y * (11796480 - y) ∧ y * (11796480 - y) ≤ 34789235097600 := by
  have a : 0 ≤ y * (11796480 - y) := Int.mul_nonneg h0 (by omega)
  have b : 0 ≤ (y - 5898240) * (y - 5898240) := by
    by_cases h : 0 ≤ y - 5898240
    · exact Int.mul_nonneg h h
    · exact Int.mul_nonneg_of_nonpos_of_nonpos (by omega) (by omega)
  have c : (y - 5898240) * (y - 5898240) = 34789235097600 - y * (11796480 - y) := by grind
  omega

theorem p_range {y : Int} (h0 : 0 ≤ y) (h1 : y ≤ 11796480) : 0 ≤ y * (11796480 - y) / 65536 ∧ y * (11796480 - y) / 65536 ≤ 530841600 := by
  have := prod_range h0 h1
  omega

theorem arch_mono {p q : Int} (h0 : 0 ≤ p) (h : p ≤ q) (h1 : q ≤ 530841600) : 4 * p * 65536 / (2654208000 - p) ≤ 4 * q * 65536 / (2654208000 - q) :=
  ediv_mono (by omega) (by omega) (by omega) (by omega)

theorem B_range {y : Int} (h0 : 0 ≤ y) (h1 : y ≤ 11796480) : 0 ≤ B y ∧ B y ≤ 65536 := by
  have hp := p_range h0 h1
  unfold B
  generalize y * (11796480 - y) / 65536 = p at *
  refine ⟨Int.ediv_nonneg (by omega) (by omega), ?_⟩
  have := arch_mono hp.1 hp.2 (Int.le_refl _)
  have e : (4 * 530841600 * 65536 / (2654208000 - 530841600) : Int) = 65536 := by decide
  omega

theorem B_sym (y : Int) : B (11796480 - y) = B y := by
  have e : (11796480 - y) * (11796480 - (11796480 - y)) = y * (11796480 - y) := by grind
  unfold B; rw [e]

theorem prod_mono {x y : Int} (h : x ≤ y) (h1 : y ≤ 5898240) : x * (11796480 - x) ≤ y * (11796480 - y) := by
  have a : 0 ≤ (y - x) * (11796480 - x - y) := Int.mul_nonneg (by omega) (by omega)
  have e : (y - x) * (11796480 - x - y) = y * (11796480 - y) - x * (11796480 - x) := by grind
  omega

theorem B_mono {x y : Int} (h0 : 0 ≤ x) (h : x ≤ y) (h1 : y ≤ 5898240) : B x ≤ B y := by
  have a := prod_mono h h1
  have p := p_range h0 (by omega : x ≤ 11796480)
  have q := p_range (by omega : 0 ≤ y) (by omega : y ≤ 11796480)
  unfold B
  exact arch_mono p.1 (by omega) q.2

/-- The places of a fine grid: both squares together are near One. -/
def gridOk (i : Nat) : Bool :=
  decide (4252041216 ≤ B (11520 * i) * B (11520 * i) + B (11520 * (511 - i)) * B (11520 * (511 - i)))
  && decide (B (11520 * (i + 1)) * B (11520 * (i + 1)) + B (11520 * (512 - i)) * B (11520 * (512 - i)) < 4337893376)

theorem grid_all : ∀ i : Fin 512, gridOk i.val = true := by decide +kernel

theorem sq_mono {a b : Int} (h0 : 0 ≤ a) (h : a ≤ b) : a * a ≤ b * b := Int.mul_le_mul h h h0 (by omega)

/-- The sum of squares of the arch and of the arch a quarter on. -/
theorem near {y : Int} (h0 : 0 ≤ y) (h1 : y < 5898240) :
    4252041216 ≤ B y * B y + B (5898240 - y) * B (5898240 - y) ∧ B y * B y + B (5898240 - y) * B (5898240 - y) < 4337893376 := by
  obtain ⟨n, rfl⟩ := Int.eq_ofNat_of_zero_le h0
  have hn : n < 5898240 := by omega
  have hi : n / 11520 < 512 := by omega
  have g := grid_all ⟨n / 11520, hi⟩
  simp only [gridOk, Bool.and_eq_true, decide_eq_true_eq] at g
  have l1 : n / 11520 * 11520 ≤ n := Nat.div_mul_le_self _ _
  have l2 : n < (n / 11520 + 1) * 11520 := by omega
  generalize n / 11520 = i at *
  obtain ⟨g1, g2⟩ := g
  have a1 : B (11520 * i) ≤ B n := B_mono (by omega) (by omega) (by omega)
  have a2 : B (11520 * (511 - i)) ≤ B (5898240 - n) := B_mono (by omega) (by omega) (by omega)
  have a3 : B n ≤ B (11520 * (i + 1)) := B_mono (by omega) (by omega) (by omega)
  have a4 : B (5898240 - n) ≤ B (11520 * (512 - i)) := B_mono (by omega) (by omega) (by omega)
  have r1 := (B_range (y := 11520 * i) (by omega) (by omega)).1
  have r2 := (B_range (y := 11520 * (511 - i)) (by omega) (by omega)).1
  have r3 := (B_range (y := n) (by omega) (by omega)).1
  have r4 := (B_range (y := 5898240 - n) (by omega) (by omega)).1
  have s1 := sq_mono r1 a1
  have s2 := sq_mono r2 a2
  have s3 := sq_mono r3 a3
  have s4 := sq_mono r4 a4
  omega

theorem S_range {x : Int} (h0 : 0 ≤ x) (h1 : x < 23592960) : -65536 ≤ S x ∧ S x ≤ 65536 := by
  unfold S
  split
  · have := B_range (y := x - 11796480) (by omega) (by omega); omega
  · have := B_range (y := x) (by omega) (by omega); omega

/-- Half a round more is the other sign. -/
theorem S_half {x : Int} (h0 : 0 ≤ x) (h1 : x < 23592960) : S ((x + 11796480) % 23592960) = -(S x) := by
  by_cases h : x ≥ 11796480
  · have e : (x + 11796480) % 23592960 = x - 11796480 := by omega
    rw [e]; unfold S
    rw [if_neg (by omega), if_pos h, Int.neg_neg]
  · have e : (x + 11796480) % 23592960 = x + 11796480 := by omega
    rw [e]; unfold S
    rw [if_pos (by omega), if_neg h]
    have e2 : x + 11796480 - 11796480 = x := by omega
    rw [e2]

/-- The square of a sine and that of the sine a quarter on are together near One. -/
theorem S_near {x : Int} (h0 : 0 ≤ x) (h1 : x < 23592960) :
    4252041216 ≤ S x * S x + S ((x + 5898240) % 23592960) * S ((x + 5898240) % 23592960) ∧ S x * S x + S ((x + 5898240) % 23592960) * S ((x + 5898240) % 23592960) < 4337893376 := by
  have neg_sq : ∀ a : Int, -a * -a = a * a := fun a => by grind
  by_cases c1 : x < 5898240
  · have e : (x + 5898240) % 23592960 = x + 5898240 := by omega
    rw [e]; unfold S
    rw [if_neg (by omega), if_neg (by omega)]
    have e2 := B_sym (5898240 - x)
    rw [show 11796480 - (5898240 - x) = x + 5898240 from by omega] at e2
    rw [e2]
    exact near h0 c1
  by_cases c2 : x < 11796480
  · have e : (x + 5898240) % 23592960 = x + 5898240 := by omega
    rw [e]; unfold S
    rw [if_neg (by omega), if_pos (by omega), neg_sq]
    have e2 := B_sym x
    have n := near (y := x - 5898240) (by omega) (by omega)
    rw [show 5898240 - (x - 5898240) = 11796480 - x from by omega, e2] at n
    rw [show x + 5898240 - 11796480 = x - 5898240 from by omega]
    omega
  by_cases c3 : x < 17694720
  · have e : (x + 5898240) % 23592960 = x + 5898240 := by omega
    rw [e]; unfold S
    rw [if_pos (by omega), if_pos (by omega), neg_sq, neg_sq]
    have n := near (y := x - 11796480) (by omega) (by omega)
    have e2 := B_sym (5898240 - (x - 11796480))
    rw [show 11796480 - (5898240 - (x - 11796480)) = x + 5898240 - 11796480 from by omega] at e2
    rw [e2]
    exact n
  · have e : (x + 5898240) % 23592960 = x - 17694720 := by omega
    rw [e]; unfold S
    rw [if_pos (by omega), if_neg (by omega), neg_sq]
    have n := near (y := x - 17694720) (by omega) (by omega)
    have e2 := B_sym (x - 11796480)
    rw [show 11796480 - (x - 11796480) = 5898240 - (x - 17694720) from by omega] at e2
    rw [e2] at n
    omega

end Go.Proofs.Ytjjfcefnhidniaa.Trig
