/-
  No cell of these rows narrows 'for every input' (looked for: loops, veiled, ifaces, maps, wideKeys, modest, calm, conditions, laid).
  DERIVED. THE GIVEN ROWS OF THIS SEAT. 4 by the template 'for every input the law returns true; each argument reads behind the call as it read before'; 0 by the template 'total and deterministic' (their statements: YtjjfcefnhidniaaTotals.lean).
  GIVEN WITH THE SEED: the statements are not yours to turn. If you find one false, say at which input.
  Laid BY PROGRAM, IN A SANDBOX (cutbox-rows.mjs): the forced cells as the released guide's own fill.sh prints them over the translation 3c7406f492207d1f… (all of the seat's roots in one cut). By AI agents, Wed Nov 11 2026. No macro, syntax, notation, axiom, sorry.
-/
import Derived.Test.YtjjfcefnhidniaaChecked
import GoSem.Claim
import GoSem.ClaimJoined
import GoSem.ClaimMapViews
import Derived.JoinedTies
import Derived.KernelRfl
namespace Go.Proofs.Ytjjfcefnhidniaa
/- THE CELL 'sum', in the pinned program and in every row, IS THE sha256 OF THE DUMP (.gsa) THAT YtjjfcefnhidniaaProg.lean LOADS. Nothing in Lean hashes anything: it is a label: what it is worth is what the hold of that sum in a sandbox is worth. -/
noncomputable def Try.pinned : Pinned := { name := "ytjjfcefnhidniaa", sum := "3c7406f492207d1f4d599f220337ef88cd2f583bc107c6a2d435bd11c5717a62", checked := Try.checked }
namespace Rows
def none {H : Type} : Left H := { results := [], args := [] }

/-- 'mutoscopelaw2.TrigNumbers': WHATEVER THE INPUT: true; the input reads as it did. -/
def trigNumbersSpec : ChangeSpec := { name := "trigNumbers", fn := fun _ => fun
  | [] => { results := [.lit (.bool true)], args := [] }
  | _ => none }
def trigNumbersRow : OpenClaim := { program := "ytjjfcefnhidniaa", sum := "3c7406f492207d1f4d599f220337ef88cd2f583bc107c6a2d435bd11c5717a62", func := "mutoscope/mutoscopelaw2.TrigNumbers", spec := "trigNumbers", recurses := true, apart := false }
def TrigNumbersSaid : Prop := trigNumbersRow.holds Try.pinned (OpenSpec.ofChange trigNumbersSpec)

/-- ITS FALSE NEIGHBOUR: 'it returns false'. Refute it at one input. -/
def trigNumbersWrong : ChangeSpec := { name := "trigNumbers", fn := fun _ => fun
  | [] => { results := [.lit (.bool false)], args := [] }
  | _ => none }
def TrigNumbersWrongFalsely : Prop := trigNumbersRow.holds Try.pinned (OpenSpec.ofChange trigNumbersWrong)

/-- 'mutoscopelaw2.TrigTells': WHATEVER THE INPUT: true; the input reads as it did. -/
def trigTellsSpec : ChangeSpec := { name := "trigTells", fn := fun _ => fun
  | [d] => { results := [.lit (.bool true)], args := [d] }
  | _ => none }
def trigTellsRow : OpenClaim := { program := "ytjjfcefnhidniaa", sum := "3c7406f492207d1f4d599f220337ef88cd2f583bc107c6a2d435bd11c5717a62", func := "mutoscope/mutoscopelaw2.TrigTells", spec := "trigTells", recurses := true, apart := false }
def TrigTellsSaid : Prop := trigTellsRow.holds Try.pinned (OpenSpec.ofChange trigTellsSpec)

/-- ITS FALSE NEIGHBOUR: 'it returns false'. Refute it at one input. -/
def trigTellsWrong : ChangeSpec := { name := "trigTells", fn := fun _ => fun
  | [d] => { results := [.lit (.bool false)], args := [d] }
  | _ => none }
def TrigTellsWrongFalsely : Prop := trigTellsRow.holds Try.pinned (OpenSpec.ofChange trigTellsWrong)

/-- 'mutoscopelaw2.TrigTurns': WHATEVER THE INPUT: true; the input reads as it did. -/
def trigTurnsSpec : ChangeSpec := { name := "trigTurns", fn := fun _ => fun
  | [d] => { results := [.lit (.bool true)], args := [d] }
  | _ => none }
def trigTurnsRow : OpenClaim := { program := "ytjjfcefnhidniaa", sum := "3c7406f492207d1f4d599f220337ef88cd2f583bc107c6a2d435bd11c5717a62", func := "mutoscope/mutoscopelaw2.TrigTurns", spec := "trigTurns", recurses := true, apart := false }
def TrigTurnsSaid : Prop := trigTurnsRow.holds Try.pinned (OpenSpec.ofChange trigTurnsSpec)

/-- ITS FALSE NEIGHBOUR: 'it returns false'. Refute it at one input. -/
def trigTurnsWrong : ChangeSpec := { name := "trigTurns", fn := fun _ => fun
  | [d] => { results := [.lit (.bool false)], args := [d] }
  | _ => none }
def TrigTurnsWrongFalsely : Prop := trigTurnsRow.holds Try.pinned (OpenSpec.ofChange trigTurnsWrong)

/-- 'mutoscopelaw2.TrigEighths': WHATEVER THE INPUT: true; the input reads as it did. -/
def trigEighthsSpec : ChangeSpec := { name := "trigEighths", fn := fun _ => fun
  | [d1, d2] => { results := [.lit (.bool true)], args := [d1, d2] }
  | _ => none }
def trigEighthsRow : OpenClaim := { program := "ytjjfcefnhidniaa", sum := "3c7406f492207d1f4d599f220337ef88cd2f583bc107c6a2d435bd11c5717a62", func := "mutoscope/mutoscopelaw2.TrigEighths", spec := "trigEighths", recurses := true, apart := false }
def TrigEighthsSaid : Prop := trigEighthsRow.holds Try.pinned (OpenSpec.ofChange trigEighthsSpec)

/-- ITS FALSE NEIGHBOUR: 'it returns false'. Refute it at one input. -/
def trigEighthsWrong : ChangeSpec := { name := "trigEighths", fn := fun _ => fun
  | [d1, d2] => { results := [.lit (.bool false)], args := [d1, d2] }
  | _ => none }
def TrigEighthsWrongFalsely : Prop := trigEighthsRow.holds Try.pinned (OpenSpec.ofChange trigEighthsWrong)

/- THE SECOND FORM. 'bulk': how many values and letters a reading holds, each counted each time it is reached (what is shared counts as often as it is met; a slice's spare places count too). A statement '..UptoSaid' is the law's where the arguments, and the package variables that the reading takes, are together of bulk at most 1048576: NARROWER than '..Said'. Prove '..Said' where nothing that the law and all that it calls make is longer than what came in: it says more and counts as full. Else prove '..UptoSaid'. A law counts once. -/
mutual
def uptoBulk {H : Type} : DataW H → Nat
  | .lit (.string bytes) => bytes.length + 1
  | .lit _ => 1
  | .nil => 1
  | .ptr d => uptoBulk d + 1
  | .slice elems spare => uptoBulkAll elems + uptoBulkAll spare + 1
  | .agg parts => uptoBulkAll parts + 1
  | .iface _ d => uptoBulk d + 1
  | .map entries => uptoBulkEntries entries + 1
  | .held _ => 1
def uptoBulkAll {H : Type} : List (DataW H) → Nat
  | [] => 0
  | d :: r => uptoBulk d + uptoBulkAll r
def uptoBulkEntries {H : Type} : List (Lit × DataW H) → Nat
  | [] => 0
  | x :: r => uptoBulkEntry x + uptoBulkEntries r
def uptoBulkEntry {H : Type} : Lit × DataW H → Nat
  | (.string bytes, d) => bytes.length + uptoBulk d + 1
  | (_, d) => uptoBulk d + 1
 end
def uptoSmall : (H : Type) → List (DataW H) → Bool := fun _ ds => decide (uptoBulkAll ds ≤ 1048576)
def OpenSpec.upto (s : _root_.Go.ChangeSpec) : _root_.Go.OpenSpec := { _root_.Go.OpenSpec.ofChange s with cond := some uptoSmall }

/-- 'mutoscopelaw2.TrigNumbers', WHERE WHAT IT READS IS OF BULK AT MOST 1048576: true; the input reads as it did. -/
def trigNumbersUptoRow : OpenClaim := { program := "ytjjfcefnhidniaa", sum := "3c7406f492207d1f4d599f220337ef88cd2f583bc107c6a2d435bd11c5717a62", func := "mutoscope/mutoscopelaw2.TrigNumbers", spec := "trigNumbers", recurses := true, apart := false, narrowed := true }
def TrigNumbersUptoSaid : Prop := trigNumbersUptoRow.holds Try.pinned (OpenSpec.upto trigNumbersSpec)

/-- 'mutoscopelaw2.TrigTells', WHERE WHAT IT READS IS OF BULK AT MOST 1048576: true; the input reads as it did. -/
def trigTellsUptoRow : OpenClaim := { program := "ytjjfcefnhidniaa", sum := "3c7406f492207d1f4d599f220337ef88cd2f583bc107c6a2d435bd11c5717a62", func := "mutoscope/mutoscopelaw2.TrigTells", spec := "trigTells", recurses := true, apart := false, narrowed := true }
def TrigTellsUptoSaid : Prop := trigTellsUptoRow.holds Try.pinned (OpenSpec.upto trigTellsSpec)

/-- 'mutoscopelaw2.TrigTurns', WHERE WHAT IT READS IS OF BULK AT MOST 1048576: true; the input reads as it did. -/
def trigTurnsUptoRow : OpenClaim := { program := "ytjjfcefnhidniaa", sum := "3c7406f492207d1f4d599f220337ef88cd2f583bc107c6a2d435bd11c5717a62", func := "mutoscope/mutoscopelaw2.TrigTurns", spec := "trigTurns", recurses := true, apart := false, narrowed := true }
def TrigTurnsUptoSaid : Prop := trigTurnsUptoRow.holds Try.pinned (OpenSpec.upto trigTurnsSpec)

/-- 'mutoscopelaw2.TrigEighths', WHERE WHAT IT READS IS OF BULK AT MOST 1048576: true; the input reads as it did. -/
def trigEighthsUptoRow : OpenClaim := { program := "ytjjfcefnhidniaa", sum := "3c7406f492207d1f4d599f220337ef88cd2f583bc107c6a2d435bd11c5717a62", func := "mutoscope/mutoscopelaw2.TrigEighths", spec := "trigEighths", recurses := true, apart := false, narrowed := true }
def TrigEighthsUptoSaid : Prop := trigEighthsUptoRow.holds Try.pinned (OpenSpec.upto trigEighthsSpec)

end Rows
end Go.Proofs.Ytjjfcefnhidniaa
