/- What the document's angles and sines come to: the same plain reckoning. -/
import Derived.Test.YtjjfcefnhidniaaSinTrigNumbers
set_option linter.unusedVariables false
set_option linter.unusedSimpArgs false
namespace Go.Proofs.Ytjjfcefnhidniaa.SinTrigNumbers
open Go.RowKit Go.Proofs.Ytjjfcefnhidniaa.PTrigNumbers Go.Proofs.YtjjfcefnhidniaaW.PrintWords Go.Proofs.YtjjfcefnhidniaaW.PrintLast Go.Proofs.Ytjjfcefnhidniaa.Num Go.Proofs.Ytjjfcefnhidniaa.Trig

theorem rturn_val {a : Int} (h1 : -9223372036854775808 ≤ a) (h2 : a ≤ 9223372036854775807) : mutoscoperef2_Turn.f a = some (a % 23592960) := by
  unfold mutoscoperef2_Turn.f
  have c := tmod_cases a 23592960
  rw [w64 (n := Int.tmod a 23592960 + 23592960) (by omega) (by omega), tmod_pos (by omega)]
  congr 1; omega

theorem rarch_val {t : Int} (h0 : 0 ≤ t) (h1 : t < 11796480) :
    (if (wrap64 (2654208000 - (wrap64 (Int.tdiv (wrap64 (t * (wrap64 (11796480 - t)))) 65536)))) = 0 then (none) else (some (wrap64 (-(wrap64 (Int.tdiv (wrap64 ((wrap64 (4 * (wrap64 (Int.tdiv (wrap64 (t * (wrap64 (11796480 - t)))) 65536)))) * 65536)) (wrap64 (2654208000 - (wrap64 (Int.tdiv (wrap64 (t * (wrap64 (11796480 - t)))) 65536)))))))))) = some (-(B t)) := by
  have a := arch_val h0 h1
  have hb := B_range h0 (by omega : t ≤ 11796480)
  by_cases z : (wrap64 (2654208000 - (wrap64 (Int.tdiv (wrap64 (t * (wrap64 (11796480 - t)))) 65536)))) = 0
  · rw [if_pos z] at a; cases a
  · rw [if_neg z] at a
    rw [if_neg z]
    have a' := Option.some.inj a
    rw [a', w64 (by omega) (by omega)]

theorem rsin_val {a : Int} (h1 : -9223372036854775808 ≤ a) (h2 : a ≤ 9223372036854775807) : mutoscoperef2_Sin.f a = some (S (a % 23592960)) := by
  unfold mutoscoperef2_Sin.f
  rw [rturn_val h1 h2]
  simp only [Option.bind_some]
  unfold S
  have r : 0 ≤ a % 23592960 ∧ a % 23592960 < 23592960 := by omega
  generalize a % 23592960 = x at *
  by_cases h : x ≥ 11796480
  · rw [if_pos h, if_pos h, w64 (n := x - 11796480) (by omega) (by omega), rarch_val (by omega) (by omega)]
  · rw [if_neg h, if_neg h, arch_val (by omega) (by omega)]

theorem rcos_val {a : Int} (h1 : -9223372036854775808 ≤ a) (h2 : a ≤ 9223372036854775807) : mutoscoperef2_Cos.f a = some (S ((a + 5898240) % 23592960)) := by
  unfold mutoscoperef2_Cos.f
  rw [rturn_val h1 h2]
  simp only [Option.bind_some]
  rw [w64 (by omega) (by omega), rsin_val (by omega) (by omega)]
  simp only [Option.bind_some]
  rw [show (a % 23592960 + 5898240) % 23592960 = (a + 5898240) % 23592960 from by omega]

theorem same_val (k : Nat) {a : Int} (h1 : -9223372036854775808 ≤ a) (h2 : a ≤ 9223372036854775807) : mutoscopelaw2_same.f (k + 2) a = some true := by
  unfold mutoscopelaw2_same.f
  rw [turn_val h1 h2, rturn_val h1 h2, sin_val k h1 h2, rsin_val h1 h2, cos_val k h1 h2, rcos_val h1 h2]
  simp

end Go.Proofs.Ytjjfcefnhidniaa.SinTrigNumbers
