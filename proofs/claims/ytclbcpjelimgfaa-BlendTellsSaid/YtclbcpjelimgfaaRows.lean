/-
  No cell of these rows narrows 'for every input' (looked for: loops, veiled, ifaces, maps, wideKeys, modest, calm, conditions, laid).
  DERIVED. THE GIVEN ROWS OF THIS SEAT. 4 by the template 'for every input the law returns true; each argument reads behind the call as it read before'; 0 by the template 'total and deterministic' (their statements: YtclbcpjelimgfaaTotals.lean).
  GIVEN WITH THE SEED: the statements are not yours to turn. If you find one false, say at which input.
  Laid BY PROGRAM, IN A SANDBOX (cutbox-rows.mjs): the forced cells as the released guide's own fill.sh prints them over the translation e73871aee3a679a2… (all of the seat's roots in one cut). By AI agents, Wed Nov 11 2026. No macro, syntax, notation, axiom, sorry.
-/
import Derived.Test.YtclbcpjelimgfaaChecked
import GoSem.Claim
import GoSem.ClaimJoined
import GoSem.ClaimMapViews
import Derived.JoinedTies
import Derived.KernelRfl
namespace Go.Proofs.Ytclbcpjelimgfaa
/- THE CELL 'sum', in the pinned program and in every row, IS THE sha256 OF THE DUMP (.gsa) THAT YtclbcpjelimgfaaProg.lean LOADS. Nothing in Lean hashes anything: it is a label: what it is worth is what the hold of that sum in a sandbox is worth. -/
noncomputable def Try.pinned : Pinned := { name := "ytclbcpjelimgfaa", sum := "e73871aee3a679a2318c9cb9893925f4da13f9219203fb9443ea70a6eab965c6", checked := Try.checked }
namespace Rows
def none {H : Type} : Left H := { results := [], args := [] }

/-- 'mutoscopelaw17.BlendNumbers': WHATEVER THE INPUT: true; the input reads as it did. -/
def blendNumbersSpec : ChangeSpec := { name := "blendNumbers", fn := fun _ => fun
  | [] => { results := [.lit (.bool true)], args := [] }
  | _ => none }
def blendNumbersRow : OpenClaim := { program := "ytclbcpjelimgfaa", sum := "e73871aee3a679a2318c9cb9893925f4da13f9219203fb9443ea70a6eab965c6", func := "mutoscope/mutoscopelaw17.BlendNumbers", spec := "blendNumbers", apart := false }
def BlendNumbersSaid : Prop := blendNumbersRow.holds Try.pinned (OpenSpec.ofChange blendNumbersSpec)

/-- ITS FALSE NEIGHBOUR: 'it returns false'. Refute it at one input. -/
def blendNumbersWrong : ChangeSpec := { name := "blendNumbers", fn := fun _ => fun
  | [] => { results := [.lit (.bool false)], args := [] }
  | _ => none }
def BlendNumbersWrongFalsely : Prop := blendNumbersRow.holds Try.pinned (OpenSpec.ofChange blendNumbersWrong)

/-- 'mutoscopelaw17.BlendTells': WHATEVER THE INPUT: true; the input reads as it did. -/
def blendTellsSpec : ChangeSpec := { name := "blendTells", fn := fun _ => fun
  | [d1, d2, d3, d4, d5, d6, d7] => { results := [.lit (.bool true)], args := [d1, d2, d3, d4, d5, d6, d7] }
  | _ => none }
def blendTellsRow : OpenClaim := { program := "ytclbcpjelimgfaa", sum := "e73871aee3a679a2318c9cb9893925f4da13f9219203fb9443ea70a6eab965c6", func := "mutoscope/mutoscopelaw17.BlendTells", spec := "blendTells", apart := false }
def BlendTellsSaid : Prop := blendTellsRow.holds Try.pinned (OpenSpec.ofChange blendTellsSpec)

/-- ITS FALSE NEIGHBOUR: 'it returns false'. Refute it at one input. -/
def blendTellsWrong : ChangeSpec := { name := "blendTells", fn := fun _ => fun
  | [d1, d2, d3, d4, d5, d6, d7] => { results := [.lit (.bool false)], args := [d1, d2, d3, d4, d5, d6, d7] }
  | _ => none }
def BlendTellsWrongFalsely : Prop := blendTellsRow.holds Try.pinned (OpenSpec.ofChange blendTellsWrong)

/-- 'mutoscopelaw17.BlendBounds': WHATEVER THE INPUT: true; the input reads as it did. -/
def blendBoundsSpec : ChangeSpec := { name := "blendBounds", fn := fun _ => fun
  | [d1, d2, d3, d4, d5] => { results := [.lit (.bool true)], args := [d1, d2, d3, d4, d5] }
  | _ => none }
def blendBoundsRow : OpenClaim := { program := "ytclbcpjelimgfaa", sum := "e73871aee3a679a2318c9cb9893925f4da13f9219203fb9443ea70a6eab965c6", func := "mutoscope/mutoscopelaw17.BlendBounds", spec := "blendBounds", apart := false }
def BlendBoundsSaid : Prop := blendBoundsRow.holds Try.pinned (OpenSpec.ofChange blendBoundsSpec)

/-- ITS FALSE NEIGHBOUR: 'it returns false'. Refute it at one input. -/
def blendBoundsWrong : ChangeSpec := { name := "blendBounds", fn := fun _ => fun
  | [d1, d2, d3, d4, d5] => { results := [.lit (.bool false)], args := [d1, d2, d3, d4, d5] }
  | _ => none }
def BlendBoundsWrongFalsely : Prop := blendBoundsRow.holds Try.pinned (OpenSpec.ofChange blendBoundsWrong)

/-- 'mutoscopelaw17.BlendChains': WHATEVER THE INPUT: true; the input reads as it did. -/
def blendChainsSpec : ChangeSpec := { name := "blendChains", fn := fun _ => fun
  | [d1, d2, d3, d4, d5, d6] => { results := [.lit (.bool true)], args := [d1, d2, d3, d4, d5, d6] }
  | _ => none }
def blendChainsRow : OpenClaim := { program := "ytclbcpjelimgfaa", sum := "e73871aee3a679a2318c9cb9893925f4da13f9219203fb9443ea70a6eab965c6", func := "mutoscope/mutoscopelaw17.BlendChains", spec := "blendChains", apart := false }
def BlendChainsSaid : Prop := blendChainsRow.holds Try.pinned (OpenSpec.ofChange blendChainsSpec)

/-- ITS FALSE NEIGHBOUR: 'it returns false'. Refute it at one input. -/
def blendChainsWrong : ChangeSpec := { name := "blendChains", fn := fun _ => fun
  | [d1, d2, d3, d4, d5, d6] => { results := [.lit (.bool false)], args := [d1, d2, d3, d4, d5, d6] }
  | _ => none }
def BlendChainsWrongFalsely : Prop := blendChainsRow.holds Try.pinned (OpenSpec.ofChange blendChainsWrong)

/- THE SECOND FORM. 'bulk': how many values and letters a reading holds, each counted each time it is reached (what is shared counts as often as it is met; a slice's spare places count too). A statement '..UptoSaid' is the law's where the arguments, and the package variables that the reading takes, are together of bulk at most 1048576: NARROWER than '..Said'. Prove '..Said' where nothing that the law and all that it calls make is longer than what came in: it says more and counts as full. Else prove '..UptoSaid'. A law counts once. -/
mutual
def uptoBulk {H : Type} : DataW H → Nat
  | .lit (.string bytes) => bytes.length + 1
  | .lit _ => 1
  | .nil => 1
  | .ptr d => uptoBulk d + 1
  | .slice elems spare => uptoBulkAll elems + uptoBulkAll spare + 1
  | .agg parts => uptoBulkAll parts + 1
  | .iface _ d => uptoBulk d + 1
  | .map entries => uptoBulkEntries entries + 1
  | .held _ => 1
def uptoBulkAll {H : Type} : List (DataW H) → Nat
  | [] => 0
  | d :: r => uptoBulk d + uptoBulkAll r
def uptoBulkEntries {H : Type} : List (Lit × DataW H) → Nat
  | [] => 0
  | x :: r => uptoBulkEntry x + uptoBulkEntries r
def uptoBulkEntry {H : Type} : Lit × DataW H → Nat
  | (.string bytes, d) => bytes.length + uptoBulk d + 1
  | (_, d) => uptoBulk d + 1
 end
def uptoSmall : (H : Type) → List (DataW H) → Bool := fun _ ds => decide (uptoBulkAll ds ≤ 1048576)
def OpenSpec.upto (s : _root_.Go.ChangeSpec) : _root_.Go.OpenSpec := { _root_.Go.OpenSpec.ofChange s with cond := some uptoSmall }

/-- 'mutoscopelaw17.BlendNumbers', WHERE WHAT IT READS IS OF BULK AT MOST 1048576: true; the input reads as it did. -/
def blendNumbersUptoRow : OpenClaim := { program := "ytclbcpjelimgfaa", sum := "e73871aee3a679a2318c9cb9893925f4da13f9219203fb9443ea70a6eab965c6", func := "mutoscope/mutoscopelaw17.BlendNumbers", spec := "blendNumbers", apart := false, narrowed := true }
def BlendNumbersUptoSaid : Prop := blendNumbersUptoRow.holds Try.pinned (OpenSpec.upto blendNumbersSpec)

/-- 'mutoscopelaw17.BlendTells', WHERE WHAT IT READS IS OF BULK AT MOST 1048576: true; the input reads as it did. -/
def blendTellsUptoRow : OpenClaim := { program := "ytclbcpjelimgfaa", sum := "e73871aee3a679a2318c9cb9893925f4da13f9219203fb9443ea70a6eab965c6", func := "mutoscope/mutoscopelaw17.BlendTells", spec := "blendTells", apart := false, narrowed := true }
def BlendTellsUptoSaid : Prop := blendTellsUptoRow.holds Try.pinned (OpenSpec.upto blendTellsSpec)

/-- 'mutoscopelaw17.BlendBounds', WHERE WHAT IT READS IS OF BULK AT MOST 1048576: true; the input reads as it did. -/
def blendBoundsUptoRow : OpenClaim := { program := "ytclbcpjelimgfaa", sum := "e73871aee3a679a2318c9cb9893925f4da13f9219203fb9443ea70a6eab965c6", func := "mutoscope/mutoscopelaw17.BlendBounds", spec := "blendBounds", apart := false, narrowed := true }
def BlendBoundsUptoSaid : Prop := blendBoundsUptoRow.holds Try.pinned (OpenSpec.upto blendBoundsSpec)

/-- 'mutoscopelaw17.BlendChains', WHERE WHAT IT READS IS OF BULK AT MOST 1048576: true; the input reads as it did. -/
def blendChainsUptoRow : OpenClaim := { program := "ytclbcpjelimgfaa", sum := "e73871aee3a679a2318c9cb9893925f4da13f9219203fb9443ea70a6eab965c6", func := "mutoscope/mutoscopelaw17.BlendChains", spec := "blendChains", apart := false, narrowed := true }
def BlendChainsUptoSaid : Prop := blendChainsUptoRow.holds Try.pinned (OpenSpec.upto blendChainsSpec)

end Rows
end Go.Proofs.Ytclbcpjelimgfaa
