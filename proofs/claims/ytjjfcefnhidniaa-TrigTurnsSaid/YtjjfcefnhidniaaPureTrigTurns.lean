/- A round more changes no sine and no cosine, half a round more turns the sine's sign, neither is above One, and both squared are together near One. No condition. -/
import Derived.Test.YtjjfcefnhidniaaSinTrigTurns
set_option linter.unusedVariables false
set_option linter.unusedSimpArgs false
namespace Go.Proofs.Ytjjfcefnhidniaa.Pure
open Go.RowKit Go.Proofs.Ytjjfcefnhidniaa.PTrigTurns Go.Proofs.YtjjfcefnhidniaaW.PrintWords Go.Proofs.YtjjfcefnhidniaaW.PrintLast Go.Proofs.Ytjjfcefnhidniaa.Num Go.Proofs.Ytjjfcefnhidniaa.Trig Go.Proofs.Ytjjfcefnhidniaa.SinTrigTurns

theorem TrigTurns : mutoscopelaw2_TrigTurns.Pure := by
  intro a h
  have w := wf64 h
  have c := tmod_cases a 1099511627776
  refine ⟨2, ?_⟩
  unfold mutoscopelaw2_TrigTurns.f
  generalize Int.tmod a 1099511627776 = x at *
  have hx : -1099511627776 < x ∧ x < 1099511627776 := by omega
  clear c h w
  rw [sin_val 0 (by omega) (by omega), cos_val 0 (by omega) (by omega), w64 (n := x + 23592960) (by omega) (by omega), sin_val 0 (by omega) (by omega), cos_val 0 (by omega) (by omega), w64 (n := x + 11796480) (by omega) (by omega), sin_val 0 (by omega) (by omega), known_val 0]
  simp only [Option.bind_some]
  rw [show (x + 23592960) % 23592960 = x % 23592960 from by omega, show (x + 23592960 + 5898240) % 23592960 = (x + 5898240) % 23592960 from by omega, show (x + 11796480) % 23592960 = (x % 23592960 + 11796480) % 23592960 from by omega, show (x + 5898240) % 23592960 = (x % 23592960 + 5898240) % 23592960 from by omega]
  have r : 0 ≤ x % 23592960 ∧ x % 23592960 < 23592960 := by omega
  generalize x % 23592960 = y at *
  rw [S_half r.1 r.2]
  have s1 := S_range r.1 r.2
  have s2 := S_range (x := (y + 5898240) % 23592960) (by omega) (by omega)
  have s3 := S_near r.1 r.2
  generalize S y = s at *
  generalize S ((y + 5898240) % 23592960) = c at *
  have p1 : 0 ≤ s * s := by by_cases h : 0 ≤ s; exact Int.mul_nonneg h h; exact Int.mul_nonneg_of_nonpos_of_nonpos (by omega) (by omega)
  have p2 : 0 ≤ c * c := by by_cases h : 0 ≤ c; exact Int.mul_nonneg h h; exact Int.mul_nonneg_of_nonpos_of_nonpos (by omega) (by omega)
  rw [if_pos rfl, if_pos rfl, w64 (n := -s) (by omega) (by omega), if_pos rfl, if_neg (by omega), if_neg (by omega), if_neg (by omega), if_neg (by omega), w64 (n := s * s) (by omega) (by omega), w64 (n := c * c) (by omega) (by omega), w64 (n := s * s + c * c) (by omega) (by omega), tdiv_pos (by omega), w64 (by omega) (by omega), if_pos (by omega), if_pos (by omega)]

end Go.Proofs.Ytjjfcefnhidniaa.Pure
