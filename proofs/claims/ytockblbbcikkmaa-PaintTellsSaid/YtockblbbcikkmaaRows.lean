/-
  No cell of these rows narrows 'for every input' (looked for: loops, veiled, ifaces, maps, wideKeys, modest, calm, conditions, laid).
  DERIVED. THE GIVEN ROWS OF THIS SEAT. 18 by the template 'for every input the law returns true; each argument reads behind the call as it read before'; 0 by the template 'total and deterministic' (their statements: YtockblbbcikkmaaTotals.lean).
  GIVEN WITH THE SEED: the statements are not yours to turn. If you find one false, say at which input.
  Laid BY PROGRAM, IN A SANDBOX (cutbox-rows.mjs): the forced cells as the released guide's own fill.sh prints them over the translation dda3fa64dca86b0e… (all of the seat's roots in one cut). By AI agents, Wed Nov 11 2026. No macro, syntax, notation, axiom, sorry.
-/
import Derived.Test.YtockblbbcikkmaaChecked
import GoSem.Claim
import GoSem.ClaimJoined
import GoSem.ClaimMapViews
import Derived.JoinedTies
import Derived.KernelRfl
namespace Go.Proofs.Ytockblbbcikkmaa
/- THE CELL 'sum', in the pinned program and in every row, IS THE sha256 OF THE DUMP (.gsa) THAT YtockblbbcikkmaaProg.lean LOADS. Nothing in Lean hashes anything: it is a label: what it is worth is what the hold of that sum in a sandbox is worth. -/
noncomputable def Try.pinned : Pinned := { name := "ytockblbbcikkmaa", sum := "dda3fa64dca86b0e5886661060d044e3b2d2497dfdecd1c38161f8cbbefa84da", checked := Try.checked }
namespace Rows
def none {H : Type} : Left H := { results := [], args := [] }

/-- 'mutoscopelaw1.QBack': WHATEVER THE INPUT: true; the input reads as it did. -/
def qBackSpec : ChangeSpec := { name := "qBack", fn := fun _ => fun
  | [d1, d2] => { results := [.lit (.bool true)], args := [d1, d2] }
  | _ => none }
def qBackRow : OpenClaim := { program := "ytockblbbcikkmaa", sum := "dda3fa64dca86b0e5886661060d044e3b2d2497dfdecd1c38161f8cbbefa84da", func := "mutoscope/mutoscopelaw1.QBack", spec := "qBack", apart := false }
def QBackSaid : Prop := qBackRow.holds Try.pinned (OpenSpec.ofChange qBackSpec)

/-- ITS FALSE NEIGHBOUR: 'it returns false'. Refute it at one input. -/
def qBackWrong : ChangeSpec := { name := "qBack", fn := fun _ => fun
  | [d1, d2] => { results := [.lit (.bool false)], args := [d1, d2] }
  | _ => none }
def QBackWrongFalsely : Prop := qBackRow.holds Try.pinned (OpenSpec.ofChange qBackWrong)

/-- 'mutoscopelaw1.QMids': WHATEVER THE INPUT: true; the input reads as it did. -/
def qMidsSpec : ChangeSpec := { name := "qMids", fn := fun _ => fun
  | [d1, d2, d3] => { results := [.lit (.bool true)], args := [d1, d2, d3] }
  | _ => none }
def qMidsRow : OpenClaim := { program := "ytockblbbcikkmaa", sum := "dda3fa64dca86b0e5886661060d044e3b2d2497dfdecd1c38161f8cbbefa84da", func := "mutoscope/mutoscopelaw1.QMids", spec := "qMids", apart := false }
def QMidsSaid : Prop := qMidsRow.holds Try.pinned (OpenSpec.ofChange qMidsSpec)

/-- ITS FALSE NEIGHBOUR: 'it returns false'. Refute it at one input. -/
def qMidsWrong : ChangeSpec := { name := "qMids", fn := fun _ => fun
  | [d1, d2, d3] => { results := [.lit (.bool false)], args := [d1, d2, d3] }
  | _ => none }
def QMidsWrongFalsely : Prop := qMidsRow.holds Try.pinned (OpenSpec.ofChange qMidsWrong)

/-- 'mutoscopelaw1.QOrders': WHATEVER THE INPUT: true; the input reads as it did. -/
def qOrdersSpec : ChangeSpec := { name := "qOrders", fn := fun _ => fun
  | [d1, d2, d3] => { results := [.lit (.bool true)], args := [d1, d2, d3] }
  | _ => none }
def qOrdersRow : OpenClaim := { program := "ytockblbbcikkmaa", sum := "dda3fa64dca86b0e5886661060d044e3b2d2497dfdecd1c38161f8cbbefa84da", func := "mutoscope/mutoscopelaw1.QOrders", spec := "qOrders", apart := false }
def QOrdersSaid : Prop := qOrdersRow.holds Try.pinned (OpenSpec.ofChange qOrdersSpec)

/-- ITS FALSE NEIGHBOUR: 'it returns false'. Refute it at one input. -/
def qOrdersWrong : ChangeSpec := { name := "qOrders", fn := fun _ => fun
  | [d1, d2, d3] => { results := [.lit (.bool false)], args := [d1, d2, d3] }
  | _ => none }
def QOrdersWrongFalsely : Prop := qOrdersRow.holds Try.pinned (OpenSpec.ofChange qOrdersWrong)

/-- 'mutoscopelaw1.QSigns': WHATEVER THE INPUT: true; the input reads as it did. -/
def qSignsSpec : ChangeSpec := { name := "qSigns", fn := fun _ => fun
  | [d1, d2, d3] => { results := [.lit (.bool true)], args := [d1, d2, d3] }
  | _ => none }
def qSignsRow : OpenClaim := { program := "ytockblbbcikkmaa", sum := "dda3fa64dca86b0e5886661060d044e3b2d2497dfdecd1c38161f8cbbefa84da", func := "mutoscope/mutoscopelaw1.QSigns", spec := "qSigns", apart := false }
def QSignsSaid : Prop := qSignsRow.holds Try.pinned (OpenSpec.ofChange qSignsSpec)

/-- ITS FALSE NEIGHBOUR: 'it returns false'. Refute it at one input. -/
def qSignsWrong : ChangeSpec := { name := "qSigns", fn := fun _ => fun
  | [d1, d2, d3] => { results := [.lit (.bool false)], args := [d1, d2, d3] }
  | _ => none }
def QSignsWrongFalsely : Prop := qSignsRow.holds Try.pinned (OpenSpec.ofChange qSignsWrong)

/-- 'mutoscopelaw1.QNumbers': WHATEVER THE INPUT: true; the input reads as it did. -/
def qNumbersSpec : ChangeSpec := { name := "qNumbers", fn := fun _ => fun
  | [] => { results := [.lit (.bool true)], args := [] }
  | _ => none }
def qNumbersRow : OpenClaim := { program := "ytockblbbcikkmaa", sum := "dda3fa64dca86b0e5886661060d044e3b2d2497dfdecd1c38161f8cbbefa84da", func := "mutoscope/mutoscopelaw1.QNumbers", spec := "qNumbers", named := ["math/bits.divideError", "math/bits.overflowError"], apart := false }
def QNumbersSaid : Prop := qNumbersRow.holds Try.pinned (OpenSpec.ofChange qNumbersSpec)

/-- ITS FALSE NEIGHBOUR: 'it returns false'. Refute it at one input. -/
def qNumbersWrong : ChangeSpec := { name := "qNumbers", fn := fun _ => fun
  | [] => { results := [.lit (.bool false)], args := [] }
  | _ => none }
def QNumbersWrongFalsely : Prop := qNumbersRow.holds Try.pinned (OpenSpec.ofChange qNumbersWrong)

/-- 'mutoscopelaw1.QTells': WHATEVER THE INPUT: true; the input reads as it did. -/
def qTellsSpec : ChangeSpec := { name := "qTells", fn := fun _ => fun
  | [d1, d2, d3] => { results := [.lit (.bool true)], args := [d1, d2, d3] }
  | _ => none }
def qTellsRow : OpenClaim := { program := "ytockblbbcikkmaa", sum := "dda3fa64dca86b0e5886661060d044e3b2d2497dfdecd1c38161f8cbbefa84da", func := "mutoscope/mutoscopelaw1.QTells", spec := "qTells", named := ["math/bits.divideError", "math/bits.overflowError"], apart := false }
def QTellsSaid : Prop := qTellsRow.holds Try.pinned (OpenSpec.ofChange qTellsSpec)

/-- ITS FALSE NEIGHBOUR: 'it returns false'. Refute it at one input. -/
def qTellsWrong : ChangeSpec := { name := "qTells", fn := fun _ => fun
  | [d1, d2, d3] => { results := [.lit (.bool false)], args := [d1, d2, d3] }
  | _ => none }
def QTellsWrongFalsely : Prop := qTellsRow.holds Try.pinned (OpenSpec.ofChange qTellsWrong)

/-- 'mutoscopelaw3.MatMoves': WHATEVER THE INPUT: true; the input reads as it did. -/
def matMovesSpec : ChangeSpec := { name := "matMoves", fn := fun _ => fun
  | [d1, d2, d3, d4, d5, d6] => { results := [.lit (.bool true)], args := [d1, d2, d3, d4, d5, d6] }
  | _ => none }
def matMovesRow : OpenClaim := { program := "ytockblbbcikkmaa", sum := "dda3fa64dca86b0e5886661060d044e3b2d2497dfdecd1c38161f8cbbefa84da", func := "mutoscope/mutoscopelaw3.MatMoves", spec := "matMoves", recurses := true, apart := false }
def MatMovesSaid : Prop := matMovesRow.holds Try.pinned (OpenSpec.ofChange matMovesSpec)

/-- ITS FALSE NEIGHBOUR: 'it returns false'. Refute it at one input. -/
def matMovesWrong : ChangeSpec := { name := "matMoves", fn := fun _ => fun
  | [d1, d2, d3, d4, d5, d6] => { results := [.lit (.bool false)], args := [d1, d2, d3, d4, d5, d6] }
  | _ => none }
def MatMovesWrongFalsely : Prop := matMovesRow.holds Try.pinned (OpenSpec.ofChange matMovesWrong)

/-- 'mutoscopelaw3.MatChains': WHATEVER THE INPUT: true; the input reads as it did. -/
def matChainsSpec : ChangeSpec := { name := "matChains", fn := fun _ => fun
  | [d1, d2, d3, d4, d5] => { results := [.lit (.bool true)], args := [d1, d2, d3, d4, d5] }
  | _ => none }
def matChainsRow : OpenClaim := { program := "ytockblbbcikkmaa", sum := "dda3fa64dca86b0e5886661060d044e3b2d2497dfdecd1c38161f8cbbefa84da", func := "mutoscope/mutoscopelaw3.MatChains", spec := "matChains", recurses := true, apart := false }
def MatChainsSaid : Prop := matChainsRow.holds Try.pinned (OpenSpec.ofChange matChainsSpec)

/-- ITS FALSE NEIGHBOUR: 'it returns false'. Refute it at one input. -/
def matChainsWrong : ChangeSpec := { name := "matChains", fn := fun _ => fun
  | [d1, d2, d3, d4, d5] => { results := [.lit (.bool false)], args := [d1, d2, d3, d4, d5] }
  | _ => none }
def MatChainsWrongFalsely : Prop := matChainsRow.holds Try.pinned (OpenSpec.ofChange matChainsWrong)

/-- 'mutoscopelaw3.MatNumbers': WHATEVER THE INPUT: true; the input reads as it did. -/
def matNumbersSpec : ChangeSpec := { name := "matNumbers", fn := fun _ => fun
  | [] => { results := [.lit (.bool true)], args := [] }
  | _ => none }
def matNumbersRow : OpenClaim := { program := "ytockblbbcikkmaa", sum := "dda3fa64dca86b0e5886661060d044e3b2d2497dfdecd1c38161f8cbbefa84da", func := "mutoscope/mutoscopelaw3.MatNumbers", spec := "matNumbers", recurses := true, named := ["math/bits.divideError", "math/bits.overflowError"], apart := false }
def MatNumbersSaid : Prop := matNumbersRow.holds Try.pinned (OpenSpec.ofChange matNumbersSpec)

/-- ITS FALSE NEIGHBOUR: 'it returns false'. Refute it at one input. -/
def matNumbersWrong : ChangeSpec := { name := "matNumbers", fn := fun _ => fun
  | [] => { results := [.lit (.bool false)], args := [] }
  | _ => none }
def MatNumbersWrongFalsely : Prop := matNumbersRow.holds Try.pinned (OpenSpec.ofChange matNumbersWrong)

/-- 'mutoscopelaw3.MatTells': WHATEVER THE INPUT: true; the input reads as it did. -/
def matTellsSpec : ChangeSpec := { name := "matTells", fn := fun _ => fun
  | [d1, d2, d3, d4, d5, d6, d7, d8, d9, d10] => { results := [.lit (.bool true)], args := [d1, d2, d3, d4, d5, d6, d7, d8, d9, d10] }
  | _ => none }
def matTellsRow : OpenClaim := { program := "ytockblbbcikkmaa", sum := "dda3fa64dca86b0e5886661060d044e3b2d2497dfdecd1c38161f8cbbefa84da", func := "mutoscope/mutoscopelaw3.MatTells", spec := "matTells", recurses := true, named := ["math/bits.divideError", "math/bits.overflowError"], apart := false }
def MatTellsSaid : Prop := matTellsRow.holds Try.pinned (OpenSpec.ofChange matTellsSpec)

/-- ITS FALSE NEIGHBOUR: 'it returns false'. Refute it at one input. -/
def matTellsWrong : ChangeSpec := { name := "matTells", fn := fun _ => fun
  | [d1, d2, d3, d4, d5, d6, d7, d8, d9, d10] => { results := [.lit (.bool false)], args := [d1, d2, d3, d4, d5, d6, d7, d8, d9, d10] }
  | _ => none }
def MatTellsWrongFalsely : Prop := matTellsRow.holds Try.pinned (OpenSpec.ofChange matTellsWrong)

/-- 'mutoscopelaw16.PaintWays': WHATEVER THE INPUT: true; the input reads as it did. -/
def paintWaysSpec : ChangeSpec := { name := "paintWays", fn := fun _ => fun
  | [d1, d2, d3] => { results := [.lit (.bool true)], args := [d1, d2, d3] }
  | _ => none }
def paintWaysRow : OpenClaim := { program := "ytockblbbcikkmaa", sum := "dda3fa64dca86b0e5886661060d044e3b2d2497dfdecd1c38161f8cbbefa84da", func := "mutoscope/mutoscopelaw16.PaintWays", spec := "paintWays", apart := false }
def PaintWaysSaid : Prop := paintWaysRow.holds Try.pinned (OpenSpec.ofChange paintWaysSpec)

/-- ITS FALSE NEIGHBOUR: 'it returns false'. Refute it at one input. -/
def paintWaysWrong : ChangeSpec := { name := "paintWays", fn := fun _ => fun
  | [d1, d2, d3] => { results := [.lit (.bool false)], args := [d1, d2, d3] }
  | _ => none }
def PaintWaysWrongFalsely : Prop := paintWaysRow.holds Try.pinned (OpenSpec.ofChange paintWaysWrong)

/-- 'mutoscopelaw16.PaintEnds': WHATEVER THE INPUT: true; the input reads as it did. -/
def paintEndsSpec : ChangeSpec := { name := "paintEnds", fn := fun _ => fun
  | [d1, d2, d3, d4, d5] => { results := [.lit (.bool true)], args := [d1, d2, d3, d4, d5] }
  | _ => none }
def paintEndsRow : OpenClaim := { program := "ytockblbbcikkmaa", sum := "dda3fa64dca86b0e5886661060d044e3b2d2497dfdecd1c38161f8cbbefa84da", func := "mutoscope/mutoscopelaw16.PaintEnds", spec := "paintEnds", apart := false }
def PaintEndsSaid : Prop := paintEndsRow.holds Try.pinned (OpenSpec.ofChange paintEndsSpec)

/-- ITS FALSE NEIGHBOUR: 'it returns false'. Refute it at one input. -/
def paintEndsWrong : ChangeSpec := { name := "paintEnds", fn := fun _ => fun
  | [d1, d2, d3, d4, d5] => { results := [.lit (.bool false)], args := [d1, d2, d3, d4, d5] }
  | _ => none }
def PaintEndsWrongFalsely : Prop := paintEndsRow.holds Try.pinned (OpenSpec.ofChange paintEndsWrong)

/-- 'mutoscopelaw16.PaintNumbers': WHATEVER THE INPUT: true; the input reads as it did. -/
def paintNumbersSpec : ChangeSpec := { name := "paintNumbers", fn := fun _ => fun
  | [] => { results := [.lit (.bool true)], args := [] }
  | _ => none }
def paintNumbersRow : OpenClaim := { program := "ytockblbbcikkmaa", sum := "dda3fa64dca86b0e5886661060d044e3b2d2497dfdecd1c38161f8cbbefa84da", func := "mutoscope/mutoscopelaw16.PaintNumbers", spec := "paintNumbers", named := ["math/bits.divideError", "math/bits.overflowError"], apart := false }
def PaintNumbersSaid : Prop := paintNumbersRow.holds Try.pinned (OpenSpec.ofChange paintNumbersSpec)

/-- ITS FALSE NEIGHBOUR: 'it returns false'. Refute it at one input. -/
def paintNumbersWrong : ChangeSpec := { name := "paintNumbers", fn := fun _ => fun
  | [] => { results := [.lit (.bool false)], args := [] }
  | _ => none }
def PaintNumbersWrongFalsely : Prop := paintNumbersRow.holds Try.pinned (OpenSpec.ofChange paintNumbersWrong)

/-- 'mutoscopelaw16.PaintTells': WHATEVER THE INPUT: true; the input reads as it did. -/
def paintTellsSpec : ChangeSpec := { name := "paintTells", fn := fun _ => fun
  | [d1, d2, d3, d4, d5] => { results := [.lit (.bool true)], args := [d1, d2, d3, d4, d5] }
  | _ => none }
def paintTellsRow : OpenClaim := { program := "ytockblbbcikkmaa", sum := "dda3fa64dca86b0e5886661060d044e3b2d2497dfdecd1c38161f8cbbefa84da", func := "mutoscope/mutoscopelaw16.PaintTells", spec := "paintTells", named := ["math/bits.divideError", "math/bits.overflowError"], apart := false }
def PaintTellsSaid : Prop := paintTellsRow.holds Try.pinned (OpenSpec.ofChange paintTellsSpec)

/-- ITS FALSE NEIGHBOUR: 'it returns false'. Refute it at one input. -/
def paintTellsWrong : ChangeSpec := { name := "paintTells", fn := fun _ => fun
  | [d1, d2, d3, d4, d5] => { results := [.lit (.bool false)], args := [d1, d2, d3, d4, d5] }
  | _ => none }
def PaintTellsWrongFalsely : Prop := paintTellsRow.holds Try.pinned (OpenSpec.ofChange paintTellsWrong)

/-- 'mutoscopelaw17.BlendNumbers': WHATEVER THE INPUT: true; the input reads as it did. -/
def blendNumbersSpec : ChangeSpec := { name := "blendNumbers", fn := fun _ => fun
  | [] => { results := [.lit (.bool true)], args := [] }
  | _ => none }
def blendNumbersRow : OpenClaim := { program := "ytockblbbcikkmaa", sum := "dda3fa64dca86b0e5886661060d044e3b2d2497dfdecd1c38161f8cbbefa84da", func := "mutoscope/mutoscopelaw17.BlendNumbers", spec := "blendNumbers", apart := false }
def BlendNumbersSaid : Prop := blendNumbersRow.holds Try.pinned (OpenSpec.ofChange blendNumbersSpec)

/-- ITS FALSE NEIGHBOUR: 'it returns false'. Refute it at one input. -/
def blendNumbersWrong : ChangeSpec := { name := "blendNumbers", fn := fun _ => fun
  | [] => { results := [.lit (.bool false)], args := [] }
  | _ => none }
def BlendNumbersWrongFalsely : Prop := blendNumbersRow.holds Try.pinned (OpenSpec.ofChange blendNumbersWrong)

/-- 'mutoscopelaw17.BlendTells': WHATEVER THE INPUT: true; the input reads as it did. -/
def blendTellsSpec : ChangeSpec := { name := "blendTells", fn := fun _ => fun
  | [d1, d2, d3, d4, d5, d6, d7] => { results := [.lit (.bool true)], args := [d1, d2, d3, d4, d5, d6, d7] }
  | _ => none }
def blendTellsRow : OpenClaim := { program := "ytockblbbcikkmaa", sum := "dda3fa64dca86b0e5886661060d044e3b2d2497dfdecd1c38161f8cbbefa84da", func := "mutoscope/mutoscopelaw17.BlendTells", spec := "blendTells", apart := false }
def BlendTellsSaid : Prop := blendTellsRow.holds Try.pinned (OpenSpec.ofChange blendTellsSpec)

/-- ITS FALSE NEIGHBOUR: 'it returns false'. Refute it at one input. -/
def blendTellsWrong : ChangeSpec := { name := "blendTells", fn := fun _ => fun
  | [d1, d2, d3, d4, d5, d6, d7] => { results := [.lit (.bool false)], args := [d1, d2, d3, d4, d5, d6, d7] }
  | _ => none }
def BlendTellsWrongFalsely : Prop := blendTellsRow.holds Try.pinned (OpenSpec.ofChange blendTellsWrong)

/-- 'mutoscopelaw17.BlendBounds': WHATEVER THE INPUT: true; the input reads as it did. -/
def blendBoundsSpec : ChangeSpec := { name := "blendBounds", fn := fun _ => fun
  | [d1, d2, d3, d4, d5] => { results := [.lit (.bool true)], args := [d1, d2, d3, d4, d5] }
  | _ => none }
def blendBoundsRow : OpenClaim := { program := "ytockblbbcikkmaa", sum := "dda3fa64dca86b0e5886661060d044e3b2d2497dfdecd1c38161f8cbbefa84da", func := "mutoscope/mutoscopelaw17.BlendBounds", spec := "blendBounds", apart := false }
def BlendBoundsSaid : Prop := blendBoundsRow.holds Try.pinned (OpenSpec.ofChange blendBoundsSpec)

/-- ITS FALSE NEIGHBOUR: 'it returns false'. Refute it at one input. -/
def blendBoundsWrong : ChangeSpec := { name := "blendBounds", fn := fun _ => fun
  | [d1, d2, d3, d4, d5] => { results := [.lit (.bool false)], args := [d1, d2, d3, d4, d5] }
  | _ => none }
def BlendBoundsWrongFalsely : Prop := blendBoundsRow.holds Try.pinned (OpenSpec.ofChange blendBoundsWrong)

/-- 'mutoscopelaw17.BlendChains': WHATEVER THE INPUT: true; the input reads as it did. -/
def blendChainsSpec : ChangeSpec := { name := "blendChains", fn := fun _ => fun
  | [d1, d2, d3, d4, d5, d6] => { results := [.lit (.bool true)], args := [d1, d2, d3, d4, d5, d6] }
  | _ => none }
def blendChainsRow : OpenClaim := { program := "ytockblbbcikkmaa", sum := "dda3fa64dca86b0e5886661060d044e3b2d2497dfdecd1c38161f8cbbefa84da", func := "mutoscope/mutoscopelaw17.BlendChains", spec := "blendChains", apart := false }
def BlendChainsSaid : Prop := blendChainsRow.holds Try.pinned (OpenSpec.ofChange blendChainsSpec)

/-- ITS FALSE NEIGHBOUR: 'it returns false'. Refute it at one input. -/
def blendChainsWrong : ChangeSpec := { name := "blendChains", fn := fun _ => fun
  | [d1, d2, d3, d4, d5, d6] => { results := [.lit (.bool false)], args := [d1, d2, d3, d4, d5, d6] }
  | _ => none }
def BlendChainsWrongFalsely : Prop := blendChainsRow.holds Try.pinned (OpenSpec.ofChange blendChainsWrong)

/- THE SECOND FORM. 'bulk': how many values and letters a reading holds, each counted each time it is reached (what is shared counts as often as it is met; a slice's spare places count too). A statement '..UptoSaid' is the law's where the arguments, and the package variables that the reading takes, are together of bulk at most 1048576: NARROWER than '..Said'. Prove '..Said' where nothing that the law and all that it calls make is longer than what came in: it says more and counts as full. Else prove '..UptoSaid'. A law counts once. -/
mutual
def uptoBulk {H : Type} : DataW H → Nat
  | .lit (.string bytes) => bytes.length + 1
  | .lit _ => 1
  | .nil => 1
  | .ptr d => uptoBulk d + 1
  | .slice elems spare => uptoBulkAll elems + uptoBulkAll spare + 1
  | .agg parts => uptoBulkAll parts + 1
  | .iface _ d => uptoBulk d + 1
  | .map entries => uptoBulkEntries entries + 1
  | .held _ => 1
def uptoBulkAll {H : Type} : List (DataW H) → Nat
  | [] => 0
  | d :: r => uptoBulk d + uptoBulkAll r
def uptoBulkEntries {H : Type} : List (Lit × DataW H) → Nat
  | [] => 0
  | x :: r => uptoBulkEntry x + uptoBulkEntries r
def uptoBulkEntry {H : Type} : Lit × DataW H → Nat
  | (.string bytes, d) => bytes.length + uptoBulk d + 1
  | (_, d) => uptoBulk d + 1
 end
def uptoSmall : (H : Type) → List (DataW H) → Bool := fun _ ds => decide (uptoBulkAll ds ≤ 1048576)
def OpenSpec.upto (s : _root_.Go.ChangeSpec) : _root_.Go.OpenSpec := { _root_.Go.OpenSpec.ofChange s with cond := some uptoSmall }

/-- 'mutoscopelaw1.QBack', WHERE WHAT IT READS IS OF BULK AT MOST 1048576: true; the input reads as it did. -/
def qBackUptoRow : OpenClaim := { program := "ytockblbbcikkmaa", sum := "dda3fa64dca86b0e5886661060d044e3b2d2497dfdecd1c38161f8cbbefa84da", func := "mutoscope/mutoscopelaw1.QBack", spec := "qBack", apart := false, narrowed := true }
def QBackUptoSaid : Prop := qBackUptoRow.holds Try.pinned (OpenSpec.upto qBackSpec)

/-- 'mutoscopelaw1.QMids', WHERE WHAT IT READS IS OF BULK AT MOST 1048576: true; the input reads as it did. -/
def qMidsUptoRow : OpenClaim := { program := "ytockblbbcikkmaa", sum := "dda3fa64dca86b0e5886661060d044e3b2d2497dfdecd1c38161f8cbbefa84da", func := "mutoscope/mutoscopelaw1.QMids", spec := "qMids", apart := false, narrowed := true }
def QMidsUptoSaid : Prop := qMidsUptoRow.holds Try.pinned (OpenSpec.upto qMidsSpec)

/-- 'mutoscopelaw1.QOrders', WHERE WHAT IT READS IS OF BULK AT MOST 1048576: true; the input reads as it did. -/
def qOrdersUptoRow : OpenClaim := { program := "ytockblbbcikkmaa", sum := "dda3fa64dca86b0e5886661060d044e3b2d2497dfdecd1c38161f8cbbefa84da", func := "mutoscope/mutoscopelaw1.QOrders", spec := "qOrders", apart := false, narrowed := true }
def QOrdersUptoSaid : Prop := qOrdersUptoRow.holds Try.pinned (OpenSpec.upto qOrdersSpec)

/-- 'mutoscopelaw1.QSigns', WHERE WHAT IT READS IS OF BULK AT MOST 1048576: true; the input reads as it did. -/
def qSignsUptoRow : OpenClaim := { program := "ytockblbbcikkmaa", sum := "dda3fa64dca86b0e5886661060d044e3b2d2497dfdecd1c38161f8cbbefa84da", func := "mutoscope/mutoscopelaw1.QSigns", spec := "qSigns", apart := false, narrowed := true }
def QSignsUptoSaid : Prop := qSignsUptoRow.holds Try.pinned (OpenSpec.upto qSignsSpec)

/-- 'mutoscopelaw1.QNumbers', WHERE WHAT IT READS IS OF BULK AT MOST 1048576: true; the input reads as it did. -/
def qNumbersUptoRow : OpenClaim := { program := "ytockblbbcikkmaa", sum := "dda3fa64dca86b0e5886661060d044e3b2d2497dfdecd1c38161f8cbbefa84da", func := "mutoscope/mutoscopelaw1.QNumbers", spec := "qNumbers", named := ["math/bits.divideError", "math/bits.overflowError"], apart := false, narrowed := true }
def QNumbersUptoSaid : Prop := qNumbersUptoRow.holds Try.pinned (OpenSpec.upto qNumbersSpec)

/-- 'mutoscopelaw1.QTells', WHERE WHAT IT READS IS OF BULK AT MOST 1048576: true; the input reads as it did. -/
def qTellsUptoRow : OpenClaim := { program := "ytockblbbcikkmaa", sum := "dda3fa64dca86b0e5886661060d044e3b2d2497dfdecd1c38161f8cbbefa84da", func := "mutoscope/mutoscopelaw1.QTells", spec := "qTells", named := ["math/bits.divideError", "math/bits.overflowError"], apart := false, narrowed := true }
def QTellsUptoSaid : Prop := qTellsUptoRow.holds Try.pinned (OpenSpec.upto qTellsSpec)

/-- 'mutoscopelaw3.MatMoves', WHERE WHAT IT READS IS OF BULK AT MOST 1048576: true; the input reads as it did. -/
def matMovesUptoRow : OpenClaim := { program := "ytockblbbcikkmaa", sum := "dda3fa64dca86b0e5886661060d044e3b2d2497dfdecd1c38161f8cbbefa84da", func := "mutoscope/mutoscopelaw3.MatMoves", spec := "matMoves", recurses := true, apart := false, narrowed := true }
def MatMovesUptoSaid : Prop := matMovesUptoRow.holds Try.pinned (OpenSpec.upto matMovesSpec)

/-- 'mutoscopelaw3.MatChains', WHERE WHAT IT READS IS OF BULK AT MOST 1048576: true; the input reads as it did. -/
def matChainsUptoRow : OpenClaim := { program := "ytockblbbcikkmaa", sum := "dda3fa64dca86b0e5886661060d044e3b2d2497dfdecd1c38161f8cbbefa84da", func := "mutoscope/mutoscopelaw3.MatChains", spec := "matChains", recurses := true, apart := false, narrowed := true }
def MatChainsUptoSaid : Prop := matChainsUptoRow.holds Try.pinned (OpenSpec.upto matChainsSpec)

/-- 'mutoscopelaw3.MatNumbers', WHERE WHAT IT READS IS OF BULK AT MOST 1048576: true; the input reads as it did. -/
def matNumbersUptoRow : OpenClaim := { program := "ytockblbbcikkmaa", sum := "dda3fa64dca86b0e5886661060d044e3b2d2497dfdecd1c38161f8cbbefa84da", func := "mutoscope/mutoscopelaw3.MatNumbers", spec := "matNumbers", recurses := true, named := ["math/bits.divideError", "math/bits.overflowError"], apart := false, narrowed := true }
def MatNumbersUptoSaid : Prop := matNumbersUptoRow.holds Try.pinned (OpenSpec.upto matNumbersSpec)

/-- 'mutoscopelaw3.MatTells', WHERE WHAT IT READS IS OF BULK AT MOST 1048576: true; the input reads as it did. -/
def matTellsUptoRow : OpenClaim := { program := "ytockblbbcikkmaa", sum := "dda3fa64dca86b0e5886661060d044e3b2d2497dfdecd1c38161f8cbbefa84da", func := "mutoscope/mutoscopelaw3.MatTells", spec := "matTells", recurses := true, named := ["math/bits.divideError", "math/bits.overflowError"], apart := false, narrowed := true }
def MatTellsUptoSaid : Prop := matTellsUptoRow.holds Try.pinned (OpenSpec.upto matTellsSpec)

/-- 'mutoscopelaw16.PaintWays', WHERE WHAT IT READS IS OF BULK AT MOST 1048576: true; the input reads as it did. -/
def paintWaysUptoRow : OpenClaim := { program := "ytockblbbcikkmaa", sum := "dda3fa64dca86b0e5886661060d044e3b2d2497dfdecd1c38161f8cbbefa84da", func := "mutoscope/mutoscopelaw16.PaintWays", spec := "paintWays", apart := false, narrowed := true }
def PaintWaysUptoSaid : Prop := paintWaysUptoRow.holds Try.pinned (OpenSpec.upto paintWaysSpec)

/-- 'mutoscopelaw16.PaintEnds', WHERE WHAT IT READS IS OF BULK AT MOST 1048576: true; the input reads as it did. -/
def paintEndsUptoRow : OpenClaim := { program := "ytockblbbcikkmaa", sum := "dda3fa64dca86b0e5886661060d044e3b2d2497dfdecd1c38161f8cbbefa84da", func := "mutoscope/mutoscopelaw16.PaintEnds", spec := "paintEnds", apart := false, narrowed := true }
def PaintEndsUptoSaid : Prop := paintEndsUptoRow.holds Try.pinned (OpenSpec.upto paintEndsSpec)

/-- 'mutoscopelaw16.PaintNumbers', WHERE WHAT IT READS IS OF BULK AT MOST 1048576: true; the input reads as it did. -/
def paintNumbersUptoRow : OpenClaim := { program := "ytockblbbcikkmaa", sum := "dda3fa64dca86b0e5886661060d044e3b2d2497dfdecd1c38161f8cbbefa84da", func := "mutoscope/mutoscopelaw16.PaintNumbers", spec := "paintNumbers", named := ["math/bits.divideError", "math/bits.overflowError"], apart := false, narrowed := true }
def PaintNumbersUptoSaid : Prop := paintNumbersUptoRow.holds Try.pinned (OpenSpec.upto paintNumbersSpec)

/-- 'mutoscopelaw16.PaintTells', WHERE WHAT IT READS IS OF BULK AT MOST 1048576: true; the input reads as it did. -/
def paintTellsUptoRow : OpenClaim := { program := "ytockblbbcikkmaa", sum := "dda3fa64dca86b0e5886661060d044e3b2d2497dfdecd1c38161f8cbbefa84da", func := "mutoscope/mutoscopelaw16.PaintTells", spec := "paintTells", named := ["math/bits.divideError", "math/bits.overflowError"], apart := false, narrowed := true }
def PaintTellsUptoSaid : Prop := paintTellsUptoRow.holds Try.pinned (OpenSpec.upto paintTellsSpec)

/-- 'mutoscopelaw17.BlendNumbers', WHERE WHAT IT READS IS OF BULK AT MOST 1048576: true; the input reads as it did. -/
def blendNumbersUptoRow : OpenClaim := { program := "ytockblbbcikkmaa", sum := "dda3fa64dca86b0e5886661060d044e3b2d2497dfdecd1c38161f8cbbefa84da", func := "mutoscope/mutoscopelaw17.BlendNumbers", spec := "blendNumbers", apart := false, narrowed := true }
def BlendNumbersUptoSaid : Prop := blendNumbersUptoRow.holds Try.pinned (OpenSpec.upto blendNumbersSpec)

/-- 'mutoscopelaw17.BlendTells', WHERE WHAT IT READS IS OF BULK AT MOST 1048576: true; the input reads as it did. -/
def blendTellsUptoRow : OpenClaim := { program := "ytockblbbcikkmaa", sum := "dda3fa64dca86b0e5886661060d044e3b2d2497dfdecd1c38161f8cbbefa84da", func := "mutoscope/mutoscopelaw17.BlendTells", spec := "blendTells", apart := false, narrowed := true }
def BlendTellsUptoSaid : Prop := blendTellsUptoRow.holds Try.pinned (OpenSpec.upto blendTellsSpec)

/-- 'mutoscopelaw17.BlendBounds', WHERE WHAT IT READS IS OF BULK AT MOST 1048576: true; the input reads as it did. -/
def blendBoundsUptoRow : OpenClaim := { program := "ytockblbbcikkmaa", sum := "dda3fa64dca86b0e5886661060d044e3b2d2497dfdecd1c38161f8cbbefa84da", func := "mutoscope/mutoscopelaw17.BlendBounds", spec := "blendBounds", apart := false, narrowed := true }
def BlendBoundsUptoSaid : Prop := blendBoundsUptoRow.holds Try.pinned (OpenSpec.upto blendBoundsSpec)

/-- 'mutoscopelaw17.BlendChains', WHERE WHAT IT READS IS OF BULK AT MOST 1048576: true; the input reads as it did. -/
def blendChainsUptoRow : OpenClaim := { program := "ytockblbbcikkmaa", sum := "dda3fa64dca86b0e5886661060d044e3b2d2497dfdecd1c38161f8cbbefa84da", func := "mutoscope/mutoscopelaw17.BlendChains", spec := "blendChains", apart := false, narrowed := true }
def BlendChainsUptoSaid : Prop := blendChainsUptoRow.holds Try.pinned (OpenSpec.upto blendChainsSpec)

end Rows
end Go.Proofs.Ytockblbbcikkmaa
