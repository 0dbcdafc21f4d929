/- Angles, sines and cosines are what the document says, for every angle. No condition. -/
import Derived.Test.YtjjfcefnhidniaaRefSinTrigTells
set_option linter.unusedVariables false
set_option linter.unusedSimpArgs false
namespace Go.Proofs.Ytjjfcefnhidniaa.Pure
open Go.RowKit Go.Proofs.Ytjjfcefnhidniaa.PTrigTells Go.Proofs.YtjjfcefnhidniaaW.PrintWords Go.Proofs.YtjjfcefnhidniaaW.PrintLast Go.Proofs.Ytjjfcefnhidniaa.Num Go.Proofs.Ytjjfcefnhidniaa.SinTrigTells

theorem TrigTells : mutoscopelaw2_TrigTells.Pure := by
  intro a h
  have w := wf64 h
  have c := tmod_cases a 23592960
  refine ⟨2, ?_⟩
  unfold mutoscopelaw2_TrigTells.f
  rw [same_val 0 (by omega) (by omega), same_val 0 (by omega) (by omega), same_val 0 (by omega) (by omega), known_val 0]
  rfl

end Go.Proofs.Ytjjfcefnhidniaa.Pure
