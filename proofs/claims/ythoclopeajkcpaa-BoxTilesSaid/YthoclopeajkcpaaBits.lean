/- Bits: shifts, masks, numbers without sign. -/
import Derived.Test.YthoclopeajkcpaaBase
namespace Go.Proofs.Ythoclopeajkcpaa
open Go Go.RowKit E
@[go_sem] theorem kbits_i64 : IntKind.bits .i64 = 64 := (rfl)
@[go_sem] theorem kbits_u64 : IntKind.bits .u64 = 64 := (rfl)
@[go_sem] theorem kbits_u8 : IntKind.bits .u8 = 8 := (rfl)
@[go_sem] theorem abin_shl' {P : Program} {t : TypeId} {k yk : IntKind} {a m : Int} (h : (0 ≤ m) = True) : abin P .shl t (.int k a) (.int yk m) = some (.int k (k.wrap (a * 2 ^ min m.toNat k.bits))) := by
  have h := of_eq_true h
  simp only [abin, isShift, or_true, if_true, aint, h]
@[go_sem] theorem abin_shr' {P : Program} {t : TypeId} {k yk : IntKind} {a m : Int} (h : (0 ≤ m) = True) : abin P .shr t (.int k a) (.int yk m) = some (.int k (a.fdiv (2 ^ min m.toNat k.bits))) := by
  have h := of_eq_true h
  simp only [abin, isShift, or_true, if_true, aint, h]
@[go_sem] theorem fdiv_pos {a b : Int} (h : (0 ≤ b) = True) : a.fdiv b = a / b := Int.fdiv_eq_ediv_of_nonneg a (of_eq_true h)
@[go_sem] theorem wrap_u64_in {n : Int} (h1 : (0 ≤ n) = True) (h2 : (n ≤ 18446744073709551615) = True) : IntKind.u64.wrap n = n := w64 (of_eq_true h1) (of_eq_true h2)
@[go_sem] theorem min_l {a b : Nat} (h : (a ≤ b) = True) : min a b = a := Nat.min_eq_left (of_eq_true h)
theorem wu64 (n : Int) : IntKind.u64.wrap n = n % 18446744073709551616 := by
  simp [IntKind.wrap, IntKind.bits, IntKind.signed]
theorem wu8 (n : Int) : IntKind.u8.wrap n = n % 256 := by
  simp [IntKind.wrap, IntKind.bits, IntKind.signed]
theorem wi64 (n : Int) : IntKind.i64.wrap n = (n + 9223372036854775808) % 18446744073709551616 - 9223372036854775808 := by
  rw [IntKind.wrap_i64]
theorem ofInt_nat (a : Nat) (ha : a < 18446744073709551616) : (BitVec.ofInt 64 (a : Int)).toNat = a := by
  rw [BitVec.toNat_ofInt]; omega
theorem or_u64 (a b : Nat) (ha : a < 18446744073709551616) (hb : b < 18446744073709551616) : bits .or .u64 (a : Int) (b : Int) = ((a ||| b : Nat) : Int) := by
  have h : a ||| b < 2 ^ 64 := Nat.or_lt_two_pow (by omega) (by omega)
  change IntKind.u64.wrap (((BitVec.ofInt 64 (a : Int)) ||| (BitVec.ofInt 64 (b : Int))).toNat : Int) = _
  rw [BitVec.toNat_or, ofInt_nat a ha, ofInt_nat b hb, wu64]; omega
theorem and_u64 (a b : Nat) (ha : a < 18446744073709551616) (hb : b < 18446744073709551616) : bits .and .u64 (a : Int) (b : Int) = ((a &&& b : Nat) : Int) := by
  have h : a &&& b < 2 ^ 64 := Nat.and_lt_two_pow a (by omega)
  change IntKind.u64.wrap (((BitVec.ofInt 64 (a : Int)) &&& (BitVec.ofInt 64 (b : Int))).toNat : Int) = _
  rw [BitVec.toNat_and, ofInt_nat a ha, ofInt_nat b hb, wu64]; omega
/-- What has nothing below a place, and what lies below it. -/
theorem or_add (k a b : Nat) (hb : b < 2 ^ k) : a * 2 ^ k ||| b = a * 2 ^ k + b := by
  rw [Nat.mul_comm, Nat.two_pow_add_eq_or_of_lt hb]
theorem or_low (k : Nat) {a b : Int} (ha : 0 ≤ a) (hb : 0 ≤ b) (hb2 : b < 2 ^ k) (h : a * 2 ^ k + b < 18446744073709551616) : bits .or .u64 (a * 2 ^ k) b = a * 2 ^ k + b := by
  obtain ⟨a, rfl⟩ := Int.eq_ofNat_of_zero_le ha
  obtain ⟨b, rfl⟩ := Int.eq_ofNat_of_zero_le hb
  have e : ((a : Int) * 2 ^ k) = ((a * 2 ^ k : Nat) : Int) := by simp
  have hb2 : b < 2 ^ k := by
    have : ((2 ^ k : Nat) : Int) = (2 : Int) ^ k := by simp
    omega
  rw [e] at h ⊢
  rw [or_u64 _ _ (by omega) (by omega), or_add k a b hb2]
  simp
theorem or_low' {a b p : Int} (k : Nat) (hp : 2 ^ k = p) (hd : p ∣ a) (ha : 0 ≤ a) (hb : 0 ≤ b) (hb2 : b < p) (h : a + b < 18446744073709551616) : bits .or .u64 a b = a + b := by
  obtain ⟨c, rfl⟩ := hd
  have hp0 : (0 : Int) < p := by omega
  have hc : 0 ≤ c := by
    rcases Int.lt_or_le c 0 with hc | hc
    · have := Int.mul_neg_of_pos_of_neg hp0 hc; omega
    · exact hc
  rw [Int.mul_comm] at *
  subst hp
  exact or_low k hc hb hb2 h
theorem and_mask64 (k : Nat) (hk : k ≤ 64) {a : Int} (ha : 0 ≤ a) (h : a < 18446744073709551616) : bits .and .u64 a (2 ^ k - 1) = a % 2 ^ k := by
  obtain ⟨a, rfl⟩ := Int.eq_ofNat_of_zero_le ha
  have p : 0 < 2 ^ k := Nat.pow_pos (by decide)
  have q : 2 ^ k ≤ 2 ^ 64 := Nat.pow_le_pow_right (by decide) hk
  have e : ((2 : Int) ^ k - 1) = ((2 ^ k - 1 : Nat) : Int) := by
    have : ((2 ^ k : Nat) : Int) = (2 : Int) ^ k := by simp
    omega
  rw [e, and_u64 a (2 ^ k - 1) (by omega) (by omega), Nat.and_two_pow_sub_one_eq_mod]
  simp
theorem and_m32 {a : Int} (ha : 0 ≤ a) (h : a < 18446744073709551616) : bits .and .u64 a 4294967295 = a % 4294967296 := and_mask64 32 (by decide) ha h
theorem toNat_i64 (a : Int) : ((BitVec.ofInt 64 a).toNat : Int) = a % 18446744073709551616 := by
  rw [BitVec.toNat_ofInt]; omega
theorem and_i64 (a : Int) (k : Nat) (hk : k ≤ 62) : bits .and .i64 a (2 ^ k - 1) = a % 2 ^ k := by
  have p : 0 < 2 ^ k := Nat.pow_pos (by decide)
  have q : 2 ^ k ≤ 2 ^ 62 := Nat.pow_le_pow_right (by decide) hk
  have ep : ((2 ^ k : Nat) : Int) = (2 : Int) ^ k := by simp
  have e : ((2 : Int) ^ k - 1) = ((2 ^ k - 1 : Nat) : Int) := by omega
  rw [e]
  change IntKind.i64.wrap (((BitVec.ofInt 64 a) &&& (BitVec.ofInt 64 ((2 ^ k - 1 : Nat) : Int))).toNat : Int) = _
  rw [BitVec.toNat_and, ofInt_nat (2 ^ k - 1) (by omega), Nat.and_two_pow_sub_one_eq_mod]
  have h := toNat_i64 a
  generalize (BitVec.ofInt 64 a).toNat = b at *
  have hl := Nat.mod_lt b p
  have e2 : ((b % 2 ^ k : Nat) : Int) = a % 2 ^ k := by
    rw [Int.natCast_emod, h, ep]
    refine Int.emod_emod_of_dvd a ?_
    rw [← ep, show (18446744073709551616 : Int) = ((2 ^ 64 : Nat) : Int) by rfl]
    exact Int.natCast_dvd_natCast.2 (Nat.pow_dvd_pow 2 (by omega))
  rw [e2] 
  refine wi ?_ ?_ <;> omega
theorem bt {a b : Int} (h : a = b) : (a == b) = true := by simp [h]
theorem bf {a b : Int} (h : ¬ a = b) : (a == b) = false := by simp [h]
theorem nt {a b : Int} (h : a = b) : (a != b) = false := by simp [h]
theorem nf {a b : Int} (h : ¬ a = b) : (a != b) = true := by simp [h]
theorem dt {p : Prop} [Decidable p] (h : p) : decide p = true := decide_eq_true h
theorem df {p : Prop} [Decidable p] (h : ¬ p) : decide p = false := decide_eq_false h
theorem add_and_xor : ∀ (n a b : Nat), a < 2 ^ n → a + b = 2 * (a &&& b) + (a ^^^ b) := by
  intro n
  induction n with
  | zero => intro a b h; have : a = 0 := by simpa using h
            subst this; simp
  | succ n ih =>
    intro a b h
    have h1 := ih (a / 2) (b / 2) (by rw [Nat.pow_succ] at h; omega)
    have e1 : (a &&& b) / 2 = a / 2 &&& b / 2 := Nat.and_div_two
    have e2 : (a ^^^ b) / 2 = a / 2 ^^^ b / 2 := Nat.xor_div_two
    have e3 : (a &&& b) % 2 = (a % 2) &&& (b % 2) := by
      have := Nat.and_mod_two_pow (a := a) (b := b) (n := 1); simpa using this
    have e4 : (a ^^^ b) % 2 = (a % 2) ^^^ (b % 2) := by
      have := Nat.xor_mod_two_pow (a := a) (b := b) (n := 1); simpa using this
    rcases Nat.mod_two_eq_zero_or_one a with ha | ha <;> rcases Nat.mod_two_eq_zero_or_one b with hb | hb <;> rw [ha, hb] at e3 e4
    · have f3 : (a &&& b) % 2 = 0 := e3
      have f4 : (a ^^^ b) % 2 = 0 := e4
      omega
    · have f3 : (a &&& b) % 2 = 0 := e3
      have f4 : (a ^^^ b) % 2 = 1 := e4
      omega
    · have f3 : (a &&& b) % 2 = 0 := e3
      have f4 : (a ^^^ b) % 2 = 1 := e4
      omega
    · have f3 : (a &&& b) % 2 = 1 := e3
      have f4 : (a ^^^ b) % 2 = 0 := e4
      omega
/-- What both have, and what one alone has, of two numbers. -/
theorem and_xor_i64 (a b : Int) (ha : I64 a) (hb : I64 b) : a + b = 2 * bits .and .i64 a b + bits .xor .i64 a b ∧ I64 (bits .and .i64 a b) ∧ I64 (bits .xor .i64 a b) := by
  have e1 : bits .and .i64 a b = IntKind.i64.wrap (((BitVec.ofInt 64 a).toNat &&& (BitVec.ofInt 64 b).toNat : Nat) : Int) := by
    change IntKind.i64.wrap (((BitVec.ofInt 64 a) &&& (BitVec.ofInt 64 b)).toNat : Int) = _
    rw [BitVec.toNat_and]
  have e2 : bits .xor .i64 a b = IntKind.i64.wrap (((BitVec.ofInt 64 a).toNat ^^^ (BitVec.ofInt 64 b).toNat : Nat) : Int) := by
    change IntKind.i64.wrap (((BitVec.ofInt 64 a) ^^^ (BitVec.ofInt 64 b)).toNat : Int) = _
    rw [BitVec.toNat_xor]
  have hA := toNat_i64 a
  have hB := toNat_i64 b
  generalize (BitVec.ofInt 64 a).toNat = A at *
  generalize (BitVec.ofInt 64 b).toNat = B at *
  have hA2 : A < 2 ^ 64 := by omega
  have hB2 : B < 2 ^ 64 := by omega
  have s := add_and_xor 64 A B hA2
  have t1 : (A &&& B) / 9223372036854775808 = A / 9223372036854775808 &&& B / 9223372036854775808 := by
    have := Nat.shiftRight_and_distrib (i := 63) (a := A) (b := B)
    simpa [Nat.shiftRight_eq_div_pow] using this
  have t2 : (A ^^^ B) / 9223372036854775808 = A / 9223372036854775808 ^^^ B / 9223372036854775808 := by
    have := Nat.shiftRight_xor_distrib (i := 63) (a := A) (b := B)
    simpa [Nat.shiftRight_eq_div_pow] using this
  have qa : A / 9223372036854775808 = 0 ∨ A / 9223372036854775808 = 1 := by omega
  have qb : B / 9223372036854775808 = 0 ∨ B / 9223372036854775808 = 1 := by omega
  have l1 : A &&& B < 2 ^ 64 := Nat.and_lt_two_pow A hB2
  have l2 : A ^^^ B < 2 ^ 64 := Nat.xor_lt_two_pow hA2 hB2
  rw [e1, e2, wi64, wi64]
  generalize A &&& B = X at *
  generalize A ^^^ B = Y at *
  rcases qa with qa | qa <;> rcases qb with qb | qb <;> rw [qa, qb] at t1 t2
  · have f1 : X / 9223372036854775808 = 0 := t1
    have f2 : Y / 9223372036854775808 = 0 := t2
    omega
  · have f1 : X / 9223372036854775808 = 0 := t1
    have f2 : Y / 9223372036854775808 = 1 := t2
    omega
  · have f1 : X / 9223372036854775808 = 0 := t1
    have f2 : Y / 9223372036854775808 = 1 := t2
    omega
  · have f1 : X / 9223372036854775808 = 1 := t1
    have f2 : Y / 9223372036854775808 = 0 := t2
    omega
theorem half_w (a b : Int) (ha : I64 a) (hb : I64 b) : IntKind.i64.wrap (bits .and .i64 a b + bits .xor .i64 a b / 2) = (a + b) / 2 := by
  have h := and_xor_i64 a b ha hb
  rw [wi (by omega) (by omega)]; omega
theorem and_1 (a : Int) : bits .and .i64 a 1 = a % 2 := and_i64 a 1 (by decide)
theorem wrap_par (x : Int) : IntKind.i64.wrap x % 2 = x % 2 := by
  rw [wi64, Int.sub_emod, Int.emod_emod_of_dvd _ (show (2 : Int) ∣ 18446744073709551616 from ⟨9223372036854775808, rfl⟩), ← Int.sub_emod, Int.add_sub_cancel]
theorem and_par (a b : Int) : bits .and .i64 a b % 2 = if a % 2 = 1 ∧ b % 2 = 1 then 1 else 0 := by
  have e1 : bits .and .i64 a b = IntKind.i64.wrap (((BitVec.ofInt 64 a).toNat &&& (BitVec.ofInt 64 b).toNat : Nat) : Int) := by
    change IntKind.i64.wrap (((BitVec.ofInt 64 a) &&& (BitVec.ofInt 64 b)).toNat : Int) = _
    rw [BitVec.toNat_and]
  have hA : ((BitVec.ofInt 64 a).toNat : Int) % 2 = a % 2 := by rw [toNat_i64, Int.emod_emod_of_dvd _ (show (2 : Int) ∣ 18446744073709551616 from ⟨9223372036854775808, rfl⟩)]
  have hB : ((BitVec.ofInt 64 b).toNat : Int) % 2 = b % 2 := by rw [toNat_i64, Int.emod_emod_of_dvd _ (show (2 : Int) ∣ 18446744073709551616 from ⟨9223372036854775808, rfl⟩)]
  rw [e1, wrap_par, ← hA, ← hB]
  generalize (BitVec.ofInt 64 a).toNat = A
  generalize (BitVec.ofInt 64 b).toNat = B
  have e3 : (A &&& B) % 2 = (A % 2) &&& (B % 2) := by
    have := Nat.and_mod_two_pow (a := A) (b := B) (n := 1); simpa using this
  rcases Nat.mod_two_eq_zero_or_one A with ha | ha <;> rcases Nat.mod_two_eq_zero_or_one B with hb | hb <;> rw [ha, hb] at e3
  · have f3 : (A &&& B) % 2 = 0 := e3
    rw [if_neg (by omega)]; omega
  · have f3 : (A &&& B) % 2 = 0 := e3
    rw [if_neg (by omega)]; omega
  · have f3 : (A &&& B) % 2 = 0 := e3
    rw [if_neg (by omega)]; omega
  · have f3 : (A &&& B) % 2 = 1 := e3
    rw [if_pos (by omega)]; omega
theorem half_w' (a b : Int) (ha : I64 a) (hb : I64 b) : IntKind.i64.wrap (IntKind.i64.wrap (a / 2 + b / 2) + bits .and .i64 (bits .and .i64 a b) 1) = (a + b) / 2 := by
  have h := and_par a b
  rw [and_1, h, wi (n := a / 2 + b / 2) (by omega) (by omega)]
  split <;> rw [wi (by omega) (by omega)] <;> omega
end Go.Proofs.Ythoclopeajkcpaa
