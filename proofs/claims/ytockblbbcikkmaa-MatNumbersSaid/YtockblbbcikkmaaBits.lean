/- Bits: shifts, masks, numbers without sign. -/
import Derived.Test.YtockblbbcikkmaaBase
namespace Go.Proofs.Ytockblbbcikkmaa
open Go Go.RowKit E
@[go_sem] theorem kbits_i64 : IntKind.bits .i64 = 64 := (rfl)
@[go_sem] theorem kbits_u64 : IntKind.bits .u64 = 64 := (rfl)
@[go_sem] theorem kbits_u8 : IntKind.bits .u8 = 8 := (rfl)
@[go_sem] theorem abin_shl' {P : Program} {t : TypeId} {k yk : IntKind} {a m : Int} (h : (0 ≤ m) = True) : abin P .shl t (.int k a) (.int yk m) = some (.int k (k.wrap (a * 2 ^ min m.toNat k.bits))) := by
  have h := of_eq_true h
  simp only [abin, isShift, or_true, if_true, aint, h]
@[go_sem] theorem abin_shr' {P : Program} {t : TypeId} {k yk : IntKind} {a m : Int} (h : (0 ≤ m) = True) : abin P .shr t (.int k a) (.int yk m) = some (.int k (a.fdiv (2 ^ min m.toNat k.bits))) := by
  have h := of_eq_true h
  simp only [abin, isShift, or_true, if_true, aint, h]
@[go_sem] theorem fdiv_pos {a b : Int} (h : (0 ≤ b) = True) : a.fdiv b = a / b := Int.fdiv_eq_ediv_of_nonneg a (of_eq_true h)
@[go_sem] theorem wrap_u64_in {n : Int} (h1 : (0 ≤ n) = True) (h2 : (n ≤ 18446744073709551615) = True) : IntKind.u64.wrap n = n := w64 (of_eq_true h1) (of_eq_true h2)
@[go_sem] theorem min_l {a b : Nat} (h : (a ≤ b) = True) : min a b = a := Nat.min_eq_left (of_eq_true h)
theorem wu64 (n : Int) : IntKind.u64.wrap n = n % 18446744073709551616 := by
  simp [IntKind.wrap, IntKind.bits, IntKind.signed]
theorem wu8 (n : Int) : IntKind.u8.wrap n = n % 256 := by
  simp [IntKind.wrap, IntKind.bits, IntKind.signed]
theorem wi64 (n : Int) : IntKind.i64.wrap n = (n + 9223372036854775808) % 18446744073709551616 - 9223372036854775808 := by
  rw [IntKind.wrap_i64]
theorem ofInt_nat (a : Nat) (ha : a < 18446744073709551616) : (BitVec.ofInt 64 (a : Int)).toNat = a := by
  rw [BitVec.toNat_ofInt]; omega
theorem or_u64 (a b : Nat) (ha : a < 18446744073709551616) (hb : b < 18446744073709551616) : bits .or .u64 (a : Int) (b : Int) = ((a ||| b : Nat) : Int) := by
  have h : a ||| b < 2 ^ 64 := Nat.or_lt_two_pow (by omega) (by omega)
  change IntKind.u64.wrap (((BitVec.ofInt 64 (a : Int)) ||| (BitVec.ofInt 64 (b : Int))).toNat : Int) = _
  rw [BitVec.toNat_or, ofInt_nat a ha, ofInt_nat b hb, wu64]; omega
theorem and_u64 (a b : Nat) (ha : a < 18446744073709551616) (hb : b < 18446744073709551616) : bits .and .u64 (a : Int) (b : Int) = ((a &&& b : Nat) : Int) := by
  have h : a &&& b < 2 ^ 64 := Nat.and_lt_two_pow a (by omega)
  change IntKind.u64.wrap (((BitVec.ofInt 64 (a : Int)) &&& (BitVec.ofInt 64 (b : Int))).toNat : Int) = _
  rw [BitVec.toNat_and, ofInt_nat a ha, ofInt_nat b hb, wu64]; omega
/-- What has nothing below a place, and what lies below it. -/
theorem or_add (k a b : Nat) (hb : b < 2 ^ k) : a * 2 ^ k ||| b = a * 2 ^ k + b := by
  rw [Nat.mul_comm, Nat.two_pow_add_eq_or_of_lt hb]
theorem or_low (k : Nat) {a b : Int} (ha : 0 ≤ a) (hb : 0 ≤ b) (hb2 : b < 2 ^ k) (h : a * 2 ^ k + b < 18446744073709551616) : bits .or .u64 (a * 2 ^ k) b = a * 2 ^ k + b := by
  obtain ⟨a, rfl⟩ := Int.eq_ofNat_of_zero_le ha
  obtain ⟨b, rfl⟩ := Int.eq_ofNat_of_zero_le hb
  have e : ((a : Int) * 2 ^ k) = ((a * 2 ^ k : Nat) : Int) := by simp
  have hb2 : b < 2 ^ k := by
    have : ((2 ^ k : Nat) : Int) = (2 : Int) ^ k := by simp
    omega
  rw [e] at h ⊢
  rw [or_u64 _ _ (by omega) (by omega), or_add k a b hb2]
  simp
theorem or_low' {a b p : Int} (k : Nat) (hp : 2 ^ k = p) (hd : p ∣ a) (ha : 0 ≤ a) (hb : 0 ≤ b) (hb2 : b < p) (h : a + b < 18446744073709551616) : bits .or .u64 a b = a + b := by
  obtain ⟨c, rfl⟩ := hd
  have hp0 : (0 : Int) < p := by omega
  have hc : 0 ≤ c := by
    rcases Int.lt_or_le c 0 with hc | hc
    · have := Int.mul_neg_of_pos_of_neg hp0 hc; omega
    · exact hc
  rw [Int.mul_comm] at *
  subst hp
  exact or_low k hc hb hb2 h
theorem and_mask64 (k : Nat) (hk : k ≤ 64) {a : Int} (ha : 0 ≤ a) (h : a < 18446744073709551616) : bits .and .u64 a (2 ^ k - 1) = a % 2 ^ k := by
  obtain ⟨a, rfl⟩ := Int.eq_ofNat_of_zero_le ha
  have p : 0 < 2 ^ k := Nat.pow_pos (by decide)
  have q : 2 ^ k ≤ 2 ^ 64 := Nat.pow_le_pow_right (by decide) hk
  have e : ((2 : Int) ^ k - 1) = ((2 ^ k - 1 : Nat) : Int) := by
    have : ((2 ^ k : Nat) : Int) = (2 : Int) ^ k := by simp
    omega
  rw [e, and_u64 a (2 ^ k - 1) (by omega) (by omega), Nat.and_two_pow_sub_one_eq_mod]
  simp
theorem and_m32 {a : Int} (ha : 0 ≤ a) (h : a < 18446744073709551616) : bits .and .u64 a 4294967295 = a % 4294967296 := and_mask64 32 (by decide) ha h
theorem toNat_i64 (a : Int) : ((BitVec.ofInt 64 a).toNat : Int) = a % 18446744073709551616 := by
  rw [BitVec.toNat_ofInt]; omega
theorem and_i64 (a : Int) (k : Nat) (hk : k ≤ 62) : bits .and .i64 a (2 ^ k - 1) = a % 2 ^ k := by
  have p : 0 < 2 ^ k := Nat.pow_pos (by decide)
  have q : 2 ^ k ≤ 2 ^ 62 := Nat.pow_le_pow_right (by decide) hk
  have ep : ((2 ^ k : Nat) : Int) = (2 : Int) ^ k := by simp
  have e : ((2 : Int) ^ k - 1) = ((2 ^ k - 1 : Nat) : Int) := by omega
  rw [e]
  change IntKind.i64.wrap (((BitVec.ofInt 64 a) &&& (BitVec.ofInt 64 ((2 ^ k - 1 : Nat) : Int))).toNat : Int) = _
  rw [BitVec.toNat_and, ofInt_nat (2 ^ k - 1) (by omega), Nat.and_two_pow_sub_one_eq_mod]
  have h := toNat_i64 a
  generalize (BitVec.ofInt 64 a).toNat = b at *
  have hl := Nat.mod_lt b p
  have e2 : ((b % 2 ^ k : Nat) : Int) = a % 2 ^ k := by
    rw [Int.natCast_emod, h, ep]
    refine Int.emod_emod_of_dvd a ?_
    rw [← ep, show (18446744073709551616 : Int) = ((2 ^ 64 : Nat) : Int) by rfl]
    exact Int.natCast_dvd_natCast.2 (Nat.pow_dvd_pow 2 (by omega))
  rw [e2] 
  refine wi ?_ ?_ <;> omega
theorem bt {a b : Int} (h : a = b) : (a == b) = true := by simp [h]
theorem bf {a b : Int} (h : ¬ a = b) : (a == b) = false := by simp [h]
theorem nt {a b : Int} (h : a = b) : (a != b) = false := by simp [h]
theorem nf {a b : Int} (h : ¬ a = b) : (a != b) = true := by simp [h]
theorem dt {p : Prop} [Decidable p] (h : p) : decide p = true := decide_eq_true h
theorem df {p : Prop} [Decidable p] (h : ¬ p) : decide p = false := decide_eq_false h
end Go.Proofs.Ytockblbbcikkmaa
