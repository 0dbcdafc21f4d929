/- Small things that all walks use: the numbers' kinds; a number held between two. -/
import Derived.Test.YthoclopeajkcpaaFacts
import Derived.Test.YthoclopeajkcpaaEM
import Derived.IntWalk
namespace Go.Proofs.Ythoclopeajkcpaa
open Go Go.RowKit E
theorem hm : Try.prog.follows .mixedOrders = true := by decide
theorem wi {n : Int} (h1 : -9223372036854775808 ≤ n) (h2 : n ≤ 9223372036854775807) : IntKind.i64.wrap n = n := by rw [IntKind.wrap_i64]; omega
theorem w8 {n : Int} (h1 : 0 ≤ n) (h2 : n ≤ 255) : IntKind.u8.wrap n = n := by rw [IntKind.wrap_u8]; omega
theorem w64 {n : Int} (h1 : 0 ≤ n) (h2 : n ≤ 18446744073709551615) : IntKind.u64.wrap n = n := IntWalk.u64_in n ⟨h1, h2⟩
abbrev I64 (a : Int) : Prop := -9223372036854775808 ≤ a ∧ a ≤ 9223372036854775807
def clamp (a lo hi : Int) : Int := if a < lo then lo else if hi < a then hi else a
def hold (a : Int) : Int := clamp a (-1099511627776) 1099511627776
def place (a : Int) : Int := clamp a (-536870912) 536870912
theorem clamp_b (a lo hi : Int) (h : lo ≤ hi) : lo ≤ clamp a lo hi ∧ clamp a lo hi ≤ hi := by unfold clamp; split <;> (try split) <;> omega
theorem clamp_in {a lo hi : Int} (h1 : lo ≤ a) (h2 : a ≤ hi) : clamp a lo hi = a := by unfold clamp; rw [if_neg (by omega), if_neg (by omega)]
theorem hold_b (a : Int) : -1099511627776 ≤ hold a ∧ hold a ≤ 1099511627776 := clamp_b _ _ _ (by omega)
theorem place_b (a : Int) : -536870912 ≤ place a ∧ place a ≤ 536870912 := clamp_b _ _ _ (by omega)
theorem hold_in {a : Int} (h1 : -1099511627776 ≤ a) (h2 : a ≤ 1099511627776) : hold a = a := clamp_in h1 h2
theorem place_in {a : Int} (h1 : -536870912 ≤ a) (h2 : a ≤ 536870912) : place a = a := clamp_in h1 h2
theorem hold_cases (a : Int) : (a < -1099511627776 ∧ hold a = -1099511627776) ∨ (1099511627776 < a ∧ hold a = 1099511627776) ∨ (-1099511627776 ≤ a ∧ a ≤ 1099511627776 ∧ hold a = a) := by
  unfold hold clamp; split
  · exact .inl ⟨by omega, rfl⟩
  · split
    · exact .inr (.inl ⟨by omega, rfl⟩)
    · exact .inr (.inr ⟨by omega, by omega, rfl⟩)
def qadd (a b : Int) : Int := hold (hold a + hold b)
def qmul (a b : Int) : Int := hold ((hold a * hold b) / 65536)
def qdiv (a b : Int) : Int := if hold b = 0 then 0 else hold (Int.fdiv (hold a * 65536) (hold b))
/-- The greatest number whose square is at most another one, bit by bit. -/
def sqL : Nat → Nat → Nat → Nat
  | 0, _, r => r
  | k + 1, n, r => sqL k n (if (r + 2 ^ k) * (r + 2 ^ k) ≤ n then r + 2 ^ k else r)
def isq (n : Int) : Int := (sqL 32 n.toNat 0 : Nat)
def root (a : Int) : Int := isq (clamp a 0 1099511627776 * 65536)
def hyp (x y : Int) : Int := isq (clamp x (-1073741824) 1073741824 * clamp x (-1073741824) 1073741824 + clamp y (-1073741824) 1073741824 * clamp y (-1073741824) 1073741824)
def mid (a b t : Int) : Int := qadd (hold a) (qmul (qadd b (-(hold a))) t)
theorem qadd_b (a b : Int) : -1099511627776 ≤ qadd a b ∧ qadd a b ≤ 1099511627776 := hold_b _
theorem qmul_b (a b : Int) : -1099511627776 ≤ qmul a b ∧ qmul a b ≤ 1099511627776 := hold_b _
theorem qdiv_b (a b : Int) : -1099511627776 ≤ qdiv a b ∧ qdiv a b ≤ 1099511627776 := by unfold qdiv; split; omega; exact hold_b _
theorem mid_b (a b t : Int) : -1099511627776 ≤ mid a b t ∧ mid a b t ≤ 1099511627776 := qadd_b _ _
theorem sqL_ok : ∀ (k n r : Nat), r * r ≤ n → n < (r + 2 ^ k) * (r + 2 ^ k) → sqL k n r * sqL k n r ≤ n ∧ n < (sqL k n r + 1) * (sqL k n r + 1) ∧ r ≤ sqL k n r ∧ sqL k n r < r + 2 ^ k
  | 0, n, r, h1, h2 => ⟨h1, by simpa [sqL] using h2, Nat.le_refl _, by simp [sqL]⟩
  | k + 1, n, r, h1, h2 => by
    have e : 2 ^ (k + 1) = 2 ^ k + 2 ^ k := by rw [Nat.pow_succ]; omega
    have hp : 0 < 2 ^ k := Nat.pow_pos (by decide)
    simp only [sqL]
    split
    · rename_i hs
      have := sqL_ok k n (r + 2 ^ k) hs (by rw [e, ← Nat.add_assoc] at h2; exact h2)
      exact ⟨this.1, this.2.1, by omega, by omega⟩
    · rename_i hs
      have := sqL_ok k n r h1 (by omega)
      exact ⟨this.1, this.2.1, by omega, by omega⟩
theorem isq_ok {n : Int} (h0 : 0 ≤ n) (h : n < 18446744073709551616) : 0 ≤ isq n ∧ isq n ≤ 4294967295 ∧ isq n * isq n ≤ n ∧ n < (isq n + 1) * (isq n + 1) := by
  have k := sqL_ok 32 n.toNat 0 (by omega) (by omega)
  unfold isq
  generalize sqL 32 n.toNat 0 = r at *
  refine ⟨by omega, by omega, ?_, ?_⟩
  · have : ((r * r : Nat) : Int) ≤ n := by omega
    simpa using this
  · have : n < (((r + 1) * (r + 1) : Nat) : Int) := by omega
    simpa using this
theorem sq_nn (x : Int) : 0 ≤ x * x := by
  rcases Int.le_total 0 x with h | h
  · exact Int.mul_nonneg h h
  · exact Int.mul_nonneg_of_nonpos_of_nonpos h h
theorem mul_mono {a b c d : Int} (h1 : a ≤ c) (h2 : b ≤ d) (h3 : 0 ≤ b) (h4 : 0 ≤ c) : a * b ≤ c * d := Int.mul_le_mul h1 h2 h3 h4
theorem sq_le {x m : Int} (h1 : -m ≤ x) (h2 : x ≤ m) : x * x ≤ m * m := by
  rcases Int.le_total 0 x with h | h
  · exact mul_mono h2 h2 h (by omega)
  · have := mul_mono (a := -x) (b := -x) (c := m) (d := m) (by omega) (by omega) (by omega) (by omega)
    rw [Int.neg_mul_neg] at this; exact this
theorem mul_bd {x y m n : Int} (h1 : -m ≤ x) (h2 : x ≤ m) (h3 : -n ≤ y) (h4 : y ≤ n) : -(m * n) ≤ x * y ∧ x * y ≤ m * n := by
  have hm : 0 ≤ m := by omega
  have hn : 0 ≤ n := by omega
  have hmn := Int.mul_nonneg hm hn
  rcases Int.le_total 0 x with h | h <;> rcases Int.le_total 0 y with k | k
  · have := Int.mul_nonneg h k
    have := mul_mono h2 h4 k hm
    omega
  · have a := mul_mono (a := x) (b := -y) (c := m) (d := n) h2 (by omega) (by omega) hm
    have b := Int.mul_nonneg h (show 0 ≤ -y by omega)
    rw [Int.mul_neg] at a b; omega
  · have a := mul_mono (a := -x) (b := y) (c := m) (d := n) (by omega) h4 k hm
    have b := Int.mul_nonneg (show 0 ≤ -x by omega) k
    rw [Int.neg_mul] at a b; omega
  · have a := mul_mono (a := -x) (b := -y) (c := m) (d := n) (by omega) (by omega) (by omega) hm
    have b := Int.mul_nonneg (show 0 ≤ -x by omega) (show 0 ≤ -y by omega)
    rw [Int.neg_mul_neg] at a b; omega
theorem isq_sq (m : Int) (h0 : 0 ≤ m) (h : m ≤ 4294967295) : isq (m * m) = m := by
  have hm : 0 ≤ m * m := Int.mul_nonneg h0 h0
  have hm2 : m * m ≤ 4294967295 * 4294967295 := mul_mono h h h0 (by omega)
  obtain ⟨a, b, c, d⟩ := isq_ok hm (by omega)
  generalize isq (m * m) = r at *
  rcases Int.lt_trichotomy r m with h | h | h
  · have : (r + 1) * (r + 1) ≤ m * m := mul_mono (by omega) (by omega) (by omega) (by omega)
    omega
  · exact h
  · have : (m + 1) * (m + 1) ≤ r * r := mul_mono (by omega) (by omega) (by omega) (by omega)
    have e : (m + 1) * (m + 1) = m * m + 2 * m + 1 := by rw [Int.add_mul, Int.mul_add]; omega
    omega
theorem hyp_arg (x y : Int) : 0 ≤ clamp x (-1073741824) 1073741824 * clamp x (-1073741824) 1073741824 + clamp y (-1073741824) 1073741824 * clamp y (-1073741824) 1073741824 ∧ clamp x (-1073741824) 1073741824 * clamp x (-1073741824) 1073741824 + clamp y (-1073741824) 1073741824 * clamp y (-1073741824) 1073741824 ≤ 2305843009213693952 := by
  have a := clamp_b x (-1073741824) 1073741824 (by omega)
  have b := clamp_b y (-1073741824) 1073741824 (by omega)
  have c := sq_nn (clamp x (-1073741824) 1073741824)
  have d := sq_nn (clamp y (-1073741824) 1073741824)
  have e := sq_le a.1 a.2
  have f := sq_le b.1 b.2
  omega
theorem isq_le {n m : Int} (h0 : 0 ≤ n) (h : n < 18446744073709551616) (h1 : n < (m + 1) * (m + 1)) (hm : 0 ≤ m) : isq n ≤ m := by
  obtain ⟨a, b, c, d⟩ := isq_ok h0 h
  rcases Int.lt_or_le m (isq n) with k | k
  · have : (m + 1) * (m + 1) ≤ isq n * isq n := mul_mono (by omega) (by omega) (by omega) (by omega)
    omega
  · exact k
theorem hyp_b (x y : Int) : 0 ≤ hyp x y ∧ hyp x y ≤ 1518500250 := by
  have h := hyp_arg x y
  unfold hyp
  exact ⟨(isq_ok h.1 (by omega)).1, isq_le h.1 (by omega) (by omega) (by omega)⟩
theorem root_b (a : Int) : 0 ≤ root a ∧ root a ≤ 268435456 := by
  have h := clamp_b a 0 1099511627776 (by omega)
  unfold root
  exact ⟨(isq_ok (by omega) (by omega)).1, isq_le (by omega) (by omega) (by omega) (by omega)⟩
end Go.Proofs.Ythoclopeajkcpaa
