/-
  No cell of these rows narrows 'for every input' (looked for: loops, veiled, ifaces, maps, wideKeys, modest, calm, conditions, laid).
  DERIVED. THE GIVEN ROWS OF THIS SEAT. 3 by the template 'for every input the law returns true; each argument reads behind the call as it read before'; 0 by the template 'total and deterministic' (their statements: YthhbglkokpablaaGreatTotals.lean).
  GIVEN WITH THE SEED: the statements are not yours to turn. If you find one false, say at which input.
  Laid BY PROGRAM, IN A SANDBOX (cutbox-rows.mjs): the forced cells as the released guide's own fill.sh prints them over the translation c5c58902f556338f… (all of the seat's roots in one cut). By AI agents, Wed Nov 11 2026. No macro, syntax, notation, axiom, sorry.
-/
import Derived.Test.YthhbglkokpablaaGreatChecked
import GoSem.Claim
import GoSem.ClaimJoined
import GoSem.ClaimMapViews
import Derived.JoinedTies
import Derived.KernelRfl
namespace Go.Proofs.YthhbglkokpablaaGreat
/- THE CELL 'sum', in the pinned program and in every row, IS THE sha256 OF THE DUMP (.gsa) THAT YthhbglkokpablaaGreatProg.lean LOADS. Nothing in Lean hashes anything: it is a label: what it is worth is what the hold of that sum in a sandbox is worth. -/
noncomputable def Tryz.pinned : Pinned := { name := "ythhbglkokpablaagreat", sum := "c5c58902f556338f7ede6e8749bfbbfb0257f4270dda5f78c213c830567c78c6", checked := Tryz.checked }
namespace Rows
def none {H : Type} : Left H := { results := [], args := [] }

/-- 'mutoscopelaw27.InlineNumbers': WHATEVER THE INPUT: true; the input reads as it did. -/
def inlineNumbersSpec : ChangeSpec := { name := "inlineNumbers", fn := fun _ => fun
  | [] => { results := [.lit (.bool true)], args := [] }
  | _ => none }
def inlineNumbersRow : OpenClaim := { program := "ythhbglkokpablaagreat", sum := "c5c58902f556338f7ede6e8749bfbbfb0257f4270dda5f78c213c830567c78c6", func := "mutoscope/mutoscopelaw27.InlineNumbers", spec := "inlineNumbers", unfollowed := true, recurses := true, apart := false }
def InlineNumbersSaid : Prop := inlineNumbersRow.holds Tryz.pinned (OpenSpec.ofChange inlineNumbersSpec)

/-- ITS FALSE NEIGHBOUR: 'it returns false'. Refute it at one input. -/
def inlineNumbersWrong : ChangeSpec := { name := "inlineNumbers", fn := fun _ => fun
  | [] => { results := [.lit (.bool false)], args := [] }
  | _ => none }
def InlineNumbersWrongFalsely : Prop := inlineNumbersRow.holds Tryz.pinned (OpenSpec.ofChange inlineNumbersWrong)

/-- 'mutoscopelaw27.InlineTells': WHATEVER THE INPUT: true; the input reads as it did. -/
def inlineTellsSpec : ChangeSpec := { name := "inlineTells", fn := fun _ => fun
  | [d1, d2, d3] => { results := [.lit (.bool true)], args := [d1, d2, d3] }
  | _ => none }
def inlineTellsRow : OpenClaim := { program := "ythhbglkokpablaagreat", sum := "c5c58902f556338f7ede6e8749bfbbfb0257f4270dda5f78c213c830567c78c6", func := "mutoscope/mutoscopelaw27.InlineTells", spec := "inlineTells", unfollowed := true, recurses := true, apart := false }
def InlineTellsSaid : Prop := inlineTellsRow.holds Tryz.pinned (OpenSpec.ofChange inlineTellsSpec)

/-- ITS FALSE NEIGHBOUR: 'it returns false'. Refute it at one input. -/
def inlineTellsWrong : ChangeSpec := { name := "inlineTells", fn := fun _ => fun
  | [d1, d2, d3] => { results := [.lit (.bool false)], args := [d1, d2, d3] }
  | _ => none }
def InlineTellsWrongFalsely : Prop := inlineTellsRow.holds Tryz.pinned (OpenSpec.ofChange inlineTellsWrong)

/-- 'mutoscopelaw27.InlineLayers': WHATEVER THE INPUT: true; the input reads as it did. -/
def inlineLayersSpec : ChangeSpec := { name := "inlineLayers", fn := fun _ => fun
  | [d1, d2, d3, d4] => { results := [.lit (.bool true)], args := [d1, d2, d3, d4] }
  | _ => none }
def inlineLayersRow : OpenClaim := { program := "ythhbglkokpablaagreat", sum := "c5c58902f556338f7ede6e8749bfbbfb0257f4270dda5f78c213c830567c78c6", func := "mutoscope/mutoscopelaw27.InlineLayers", spec := "inlineLayers", unfollowed := true, recurses := true, apart := false }
def InlineLayersSaid : Prop := inlineLayersRow.holds Tryz.pinned (OpenSpec.ofChange inlineLayersSpec)

/-- ITS FALSE NEIGHBOUR: 'it returns false'. Refute it at one input. -/
def inlineLayersWrong : ChangeSpec := { name := "inlineLayers", fn := fun _ => fun
  | [d1, d2, d3, d4] => { results := [.lit (.bool false)], args := [d1, d2, d3, d4] }
  | _ => none }
def InlineLayersWrongFalsely : Prop := inlineLayersRow.holds Tryz.pinned (OpenSpec.ofChange inlineLayersWrong)

/- THE SECOND FORM. 'bulk': how many values and letters a reading holds, each counted each time it is reached (what is shared counts as often as it is met; a slice's spare places count too). A statement '..UptoSaid' is the law's where the arguments, and the package variables that the reading takes, are together of bulk at most 1048576: NARROWER than '..Said'. Prove '..Said' where nothing that the law and all that it calls make is longer than what came in: it says more and counts as full. Else prove '..UptoSaid'. A law counts once. -/
mutual
def uptoBulk {H : Type} : DataW H → Nat
  | .lit (.string bytes) => bytes.length + 1
  | .lit _ => 1
  | .nil => 1
  | .ptr d => uptoBulk d + 1
  | .slice elems spare => uptoBulkAll elems + uptoBulkAll spare + 1
  | .agg parts => uptoBulkAll parts + 1
  | .iface _ d => uptoBulk d + 1
  | .map entries => uptoBulkEntries entries + 1
  | .held _ => 1
def uptoBulkAll {H : Type} : List (DataW H) → Nat
  | [] => 0
  | d :: r => uptoBulk d + uptoBulkAll r
def uptoBulkEntries {H : Type} : List (Lit × DataW H) → Nat
  | [] => 0
  | x :: r => uptoBulkEntry x + uptoBulkEntries r
def uptoBulkEntry {H : Type} : Lit × DataW H → Nat
  | (.string bytes, d) => bytes.length + uptoBulk d + 1
  | (_, d) => uptoBulk d + 1
 end
def uptoSmall : (H : Type) → List (DataW H) → Bool := fun _ ds => decide (uptoBulkAll ds ≤ 1048576)
def OpenSpec.upto (s : _root_.Go.ChangeSpec) : _root_.Go.OpenSpec := { _root_.Go.OpenSpec.ofChange s with cond := some uptoSmall }

/-- 'mutoscopelaw27.InlineNumbers', WHERE WHAT IT READS IS OF BULK AT MOST 1048576: true; the input reads as it did. -/
def inlineNumbersUptoRow : OpenClaim := { program := "ythhbglkokpablaagreat", sum := "c5c58902f556338f7ede6e8749bfbbfb0257f4270dda5f78c213c830567c78c6", func := "mutoscope/mutoscopelaw27.InlineNumbers", spec := "inlineNumbers", unfollowed := true, recurses := true, apart := false, narrowed := true }
def InlineNumbersUptoSaid : Prop := inlineNumbersUptoRow.holds Tryz.pinned (OpenSpec.upto inlineNumbersSpec)

/-- 'mutoscopelaw27.InlineTells', WHERE WHAT IT READS IS OF BULK AT MOST 1048576: true; the input reads as it did. -/
def inlineTellsUptoRow : OpenClaim := { program := "ythhbglkokpablaagreat", sum := "c5c58902f556338f7ede6e8749bfbbfb0257f4270dda5f78c213c830567c78c6", func := "mutoscope/mutoscopelaw27.InlineTells", spec := "inlineTells", unfollowed := true, recurses := true, apart := false, narrowed := true }
def InlineTellsUptoSaid : Prop := inlineTellsUptoRow.holds Tryz.pinned (OpenSpec.upto inlineTellsSpec)

/-- 'mutoscopelaw27.InlineLayers', WHERE WHAT IT READS IS OF BULK AT MOST 1048576: true; the input reads as it did. -/
def inlineLayersUptoRow : OpenClaim := { program := "ythhbglkokpablaagreat", sum := "c5c58902f556338f7ede6e8749bfbbfb0257f4270dda5f78c213c830567c78c6", func := "mutoscope/mutoscopelaw27.InlineLayers", spec := "inlineLayers", unfollowed := true, recurses := true, apart := false, narrowed := true }
def InlineLayersUptoSaid : Prop := inlineLayersUptoRow.holds Tryz.pinned (OpenSpec.upto inlineLayersSpec)

end Rows
end Go.Proofs.YthhbglkokpablaaGreat
