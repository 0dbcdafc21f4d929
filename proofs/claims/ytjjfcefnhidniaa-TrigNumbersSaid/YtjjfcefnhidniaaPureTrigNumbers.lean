/- The closed sentence of the angles holds: at each degree of three rounds, next to it, and at the greatest and least numbers the code and the document agree. No condition. -/
import Derived.Test.YtjjfcefnhidniaaRefSinTrigNumbers
set_option linter.unusedVariables false
set_option linter.unusedSimpArgs false
namespace Go.Proofs.Ytjjfcefnhidniaa.Pure
open Go.RowKit Go.Proofs.Ytjjfcefnhidniaa.PTrigNumbers Go.Proofs.YtjjfcefnhidniaaW.PrintWords Go.Proofs.YtjjfcefnhidniaaW.PrintLast Go.Proofs.Ytjjfcefnhidniaa.Num Go.Proofs.Ytjjfcefnhidniaa.SinTrigNumbers

theorem TrigNumbers_inner (d : Int) (h0 : -400 ≤ d) (h1 : d ≤ 800) (K : Nat) (hK : mutoscopelaw2_TrigNumbers.l0 K (d + 1) = some true) (n : Nat) : ∀ (j : Int) (k : Nat), 2 - j = n → -1 ≤ j → K + n + 3 ≤ k →
    mutoscopelaw2_TrigNumbers.l1 k d j = some true := by
  induction n with
  | zero =>
    intro j k hj hj1 hk
    obtain ⟨k, rfl⟩ : ∃ m, k = m + 1 := ⟨k - 1, by omega⟩
    simp only [mutoscopelaw2_TrigNumbers.l1]
    rw [if_neg (by omega), w64 (by omega) (by omega)]
    exact at_rounds (fun k => (mutoscopelaw2_TrigNumbers.mono_l k).1 (d + 1)) (by omega) hK
  | succ n ih =>
    intro j k hj hj1 hk
    obtain ⟨k, rfl⟩ : ∃ m, k = m + 1 := ⟨k - 1, by omega⟩
    simp only [mutoscopelaw2_TrigNumbers.l1]
    obtain ⟨k, rfl⟩ : ∃ m, k = m + 2 := ⟨k - 2, by omega⟩
    rw [if_pos (by omega), w64 (n := d * 65536) (by omega) (by omega), w64 (n := d * 65536 + j) (by omega) (by omega), same_val k (by omega) (by omega)]
    simp only [Option.bind_some, if_true]
    rw [w64 (n := j + 1) (by omega) (by omega)]
    exact ih (j + 1) (k + 2) (by omega) (by omega) (by omega)

theorem TrigNumbers_outer (n : Nat) : ∀ (d : Int), -400 ≤ d → 800 - d = n → ∃ k, mutoscopelaw2_TrigNumbers.l0 k d = some true := by
  induction n with
  | zero =>
    intro d h0 hd
    refine ⟨3, ?_⟩
    simp only [mutoscopelaw2_TrigNumbers.l0]
    rw [if_neg (by omega), same_val 0 (by omega) (by omega), same_val 0 (by omega) (by omega), known_val 0]
    rfl
  | succ n ih =>
    intro d h0 hd
    obtain ⟨K, hK⟩ := ih (d + 1) (by omega) (by omega)
    refine ⟨K + 7, ?_⟩
    simp only [mutoscopelaw2_TrigNumbers.l0]
    rw [if_pos (by omega)]
    exact TrigNumbers_inner d h0 (by omega) K hK 3 (-1) (K + 6) (by omega) (by omega) (by omega)

theorem TrigNumbers : mutoscopelaw2_TrigNumbers.Pure := by
  obtain ⟨k, h⟩ := TrigNumbers_outer 1200 (-400) (by omega) (by omega)
  exact ⟨k, h⟩

end Go.Proofs.Ytjjfcefnhidniaa.Pure
