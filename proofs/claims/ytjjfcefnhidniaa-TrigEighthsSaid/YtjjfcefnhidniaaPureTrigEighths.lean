/- A sine rises to a quarter of a round and falls from there, a cosine is the sine a quarter ahead, and a sine is the same on both sides of the quarter. No condition. -/
import Derived.Test.YtjjfcefnhidniaaSinTrigEighths
set_option linter.unusedVariables false
set_option linter.unusedSimpArgs false
namespace Go.Proofs.Ytjjfcefnhidniaa.Pure
open Go.RowKit Go.Proofs.Ytjjfcefnhidniaa.PTrigEighths Go.Proofs.YtjjfcefnhidniaaW.PrintWords Go.Proofs.YtjjfcefnhidniaaW.PrintLast Go.Proofs.YtjjfcefnhidniaaW.PrintMore Go.Proofs.Ytjjfcefnhidniaa.Num Go.Proofs.Ytjjfcefnhidniaa.Trig Go.Proofs.Ytjjfcefnhidniaa.SinTrigEighths

theorem eighths_last (a x y : Int) (w : -9223372036854775808 ≤ a ∧ a ≤ 9223372036854775807) (hx : 0 ≤ x ∧ x < 5898240) (hy : 0 ≤ y ∧ y < 5898240) : mutoscopelaw2_TrigEighths.j1 3 a x y = some true := by
  have m1 : 0 ≤ mn x y ∧ mn x y ≤ mx x y ∧ mx x y < 5898240 := by unfold mn mx; split <;> split <;> omega
  simp only [mutoscopelaw2_TrigEighths.j1]
  generalize mn x y = lo at *
  generalize mx x y = hi at *
  rw [sin_val 0 (by omega) (by omega), sin_val 0 (by omega) (by omega), w64 (n := 5898240 + lo) (by omega) (by omega), sin_val 0 (by omega) (by omega), w64 (n := 5898240 + hi) (by omega) (by omega), sin_val 0 (by omega) (by omega), cos_val 0 (by omega) (by omega), turn_val (by omega) (by omega), w64 (n := 11796480 - x) (by omega) (by omega), sin_val 0 (a := x) (by omega) (by omega), known_val 0]
  simp only [Option.bind_some]
  rw [w64 (n := a % 23592960 + 5898240) (by omega) (by omega), sin_val 0 (by omega) (by omega)]
  simp only [Option.bind_some]
  rw [show (a % 23592960 + 5898240) % 23592960 = (a + 5898240) % 23592960 from by omega, if_pos (α := Option Bool) (c := S ((a + 5898240) % 23592960) = S ((a + 5898240) % 23592960)) rfl]
  rw [sin_val 0 (a := 11796480 - x) (by omega) (by omega)]
  simp only [Option.bind_some]
  rw [show lo % 23592960 = lo from by omega, show hi % 23592960 = hi from by omega, show (5898240 + lo) % 23592960 = 5898240 + lo from by omega, show (5898240 + hi) % 23592960 = 5898240 + hi from by omega, show x % 23592960 = x from by omega]
  have b1 := B_mono m1.1 m1.2.1 (by omega)
  have b2 := B_mono (x := 5898240 - hi) (y := 5898240 - lo) (by omega) (by omega) (by omega)
  have r1 := B_range (y := hi) (by omega) (by omega)
  have r2 := B_range (y := 5898240 - lo) (by omega) (by omega)
  have e1 : S (5898240 + lo) = B (5898240 - lo) := by
    unfold S; rw [if_neg (by omega), ← B_sym]; congr 1; omega
  have e2 : S (5898240 + hi) = B (5898240 - hi) := by
    unfold S; rw [if_neg (by omega), ← B_sym]; congr 1; omega
  have e3 : S lo = B lo := by unfold S; rw [if_neg (by omega)]
  have e4 : S hi = B hi := by unfold S; rw [if_neg (by omega)]
  have e5 : S ((11796480 - x) % 23592960) = S x := by
    by_cases h : x = 0
    · subst h; decide
    · rw [show (11796480 - x) % 23592960 = 11796480 - x from by omega]
      unfold S; rw [if_neg (by omega), if_neg (by omega), B_sym]
  rw [e1, e2, e3, e4, e5, w64 (by omega) (by omega), w64 (by omega) (by omega), if_pos (by omega), if_pos (by omega), if_pos rfl]

theorem TrigEighths : mutoscopelaw2_TrigEighths.Pure := by
  intro a b h h'
  have w := wf64 h
  have w' := wf64 h'
  have c := tmod_cases a 5898240
  have c' := tmod_cases b 5898240
  refine ⟨4, ?_⟩
  unfold mutoscopelaw2_TrigEighths.f
  generalize Int.tmod a 5898240 = x at *
  generalize Int.tmod b 5898240 = y at *
  by_cases hx : x < 0
  · rw [if_pos hx, w64 (n := -x) (by omega) (by omega)]
    simp only [mutoscopelaw2_TrigEighths.j0]
    by_cases hy : y < 0
    · rw [if_pos hy, w64 (n := -y) (by omega) (by omega)]
      exact eighths_last a (-x) (-y) w (by omega) (by omega)
    · rw [if_neg hy]
      exact eighths_last a (-x) y w (by omega) (by omega)
  · rw [if_neg hx]
    simp only [mutoscopelaw2_TrigEighths.j0]
    by_cases hy : y < 0
    · rw [if_pos hy, w64 (n := -y) (by omega) (by omega)]
      exact eighths_last a x (-y) w (by omega) (by omega)
    · rw [if_neg hy]
      exact eighths_last a x y w (by omega) (by omega)

end Go.Proofs.Ytjjfcefnhidniaa.Pure
