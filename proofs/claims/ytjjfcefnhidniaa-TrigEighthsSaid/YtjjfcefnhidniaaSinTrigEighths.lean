/- What the code's angles and sines come to: the plain reckoning of Trig. -/
import Derived.Test.YtjjfcefnhidniaaPTrigEighthsx1
import Derived.Test.YtjjfcefnhidniaaTrig
set_option linter.unusedVariables false
set_option linter.unusedSimpArgs false
namespace Go.Proofs.Ytjjfcefnhidniaa.SinTrigEighths
open Go.RowKit Go.Proofs.Ytjjfcefnhidniaa.PTrigEighths Go.Proofs.YtjjfcefnhidniaaW.PrintWords Go.Proofs.YtjjfcefnhidniaaW.PrintLast Go.Proofs.Ytjjfcefnhidniaa.Num Go.Proofs.Ytjjfcefnhidniaa.Trig

theorem turn_val {a : Int} (h1 : -9223372036854775808 ≤ a) (h2 : a ≤ 9223372036854775807) : trig_Turn.f a = some (a % 23592960) := by
  unfold trig_Turn.f
  have c := tmod_cases a 23592960
  by_cases h : Int.tmod a 23592960 < 0
  · rw [if_pos h, w64 (by omega) (by omega)]
    congr 1; omega
  · rw [if_neg h]
    congr 1; omega

theorem arch_val {t : Int} (h0 : 0 ≤ t) (h1 : t < 11796480) :
    (if (wrap64 (2654208000 - (wrap64 (Int.tdiv (wrap64 (t * (wrap64 (11796480 - t)))) 65536)))) = 0 then (none) else (some (wrap64 (Int.tdiv (wrap64 ((wrap64 (4 * (wrap64 (Int.tdiv (wrap64 (t * (wrap64 (11796480 - t)))) 65536)))) * 65536)) (wrap64 (2654208000 - (wrap64 (Int.tdiv (wrap64 (t * (wrap64 (11796480 - t)))) 65536)))))))) = some (B t) := by
  have hb := B_range h0 (by omega : t ≤ 11796480)
  have hp := p_range h0 (by omega : t ≤ 11796480)
  have hq := prod_range h0 (by omega : t ≤ 11796480)
  unfold B at *
  rw [w64 (n := 11796480 - t) (by omega) (by omega), w64 (n := t * (11796480 - t)) (by omega) (by omega), tdiv_pos (by omega)]
  generalize t * (11796480 - t) / 65536 = p at *
  rw [w64 (n := p) (by omega) (by omega), w64 (n := 2654208000 - p) (by omega) (by omega), w64 (n := 4 * p) (by omega) (by omega), w64 (n := 4 * p * 65536) (by omega) (by omega), tdiv_pos (by omega)]
  rw [if_neg (by omega), w64 (by omega) (by omega)]

theorem sin_val (k : Nat) {a : Int} (h1 : -9223372036854775808 ≤ a) (h2 : a ≤ 9223372036854775807) : trig_Sin.f (k + 2) a = some (S (a % 23592960)) := by
  simp only [trig_Sin.f]
  rw [turn_val h1 h2]
  simp only [Option.bind_some]
  unfold S
  have r : 0 ≤ a % 23592960 ∧ a % 23592960 < 23592960 := by omega
  generalize a % 23592960 = x at *
  by_cases h : x ≥ 11796480
  · rw [if_pos h, if_pos h, w64 (n := x - 11796480) (by omega) (by omega), turn_val (by omega) (by omega)]
    simp only [Option.bind_some]
    rw [show (x - 11796480) % 23592960 = x - 11796480 from by omega, if_neg (by omega), arch_val (by omega) (by omega)]
    simp only [Option.bind_some]
    have := B_range (y := x - 11796480) (by omega) (by omega)
    rw [w64 (by omega) (by omega)]
  · rw [if_neg h, if_neg h, arch_val (by omega) (by omega)]

theorem cos_val (k : Nat) {a : Int} (h1 : -9223372036854775808 ≤ a) (h2 : a ≤ 9223372036854775807) : trig_Cos.f (k + 2) a = some (S ((a + 5898240) % 23592960)) := by
  unfold trig_Cos.f
  rw [turn_val h1 h2]
  simp only [Option.bind_some]
  rw [w64 (by omega) (by omega), sin_val k (by omega) (by omega)]
  simp only [Option.bind_some]
  rw [show (a % 23592960 + 5898240) % 23592960 = (a + 5898240) % 23592960 from by omega]

theorem known_val (k : Nat) : mutoscopelaw2_known.f (k + 2) = some true := by
  unfold mutoscopelaw2_known.f
  rw [sin_val k (by omega) (by omega), sin_val k (by omega) (by omega), cos_val k (by omega) (by omega), turn_val (by omega) (by omega)]
  decide

end Go.Proofs.Ytjjfcefnhidniaa.SinTrigEighths
