/-
  No cell of these rows narrows 'for every input' (looked for: loops, veiled, ifaces, maps, wideKeys, modest, calm, conditions, laid).
  DERIVED. THE GIVEN ROWS OF THIS SEAT. 12 by the template 'for every input the law returns true; each argument reads behind the call as it read before'; 0 by the template 'total and deterministic' (their statements: YthoclopeajkcpaaTotals.lean).
  GIVEN WITH THE SEED: the statements are not yours to turn. If you find one false, say at which input.
  Laid BY PROGRAM, IN A SANDBOX (cutbox-rows.mjs): the forced cells as the released guide's own fill.sh prints them over the translation 1370ad0426ad3f6f… (all of the seat's roots in one cut). By AI agents, Wed Nov 11 2026. No macro, syntax, notation, axiom, sorry.
-/
import Derived.Test.YthoclopeajkcpaaChecked
import GoSem.Claim
import GoSem.ClaimJoined
import GoSem.ClaimMapViews
import Derived.JoinedTies
import Derived.KernelRfl
namespace Go.Proofs.Ythoclopeajkcpaa
/- THE CELL 'sum', in the pinned program and in every row, IS THE sha256 OF THE DUMP (.gsa) THAT YthoclopeajkcpaaProg.lean LOADS. Nothing in Lean hashes anything: it is a label: what it is worth is what the hold of that sum in a sandbox is worth. -/
noncomputable def Try.pinned : Pinned := { name := "ythoclopeajkcpaa", sum := "1370ad0426ad3f6f0a44d0cadb663a51b34d8cc634b6591de6b2135316cfed98", checked := Try.checked }
namespace Rows
def none {H : Type} : Left H := { results := [], args := [] }

/-- 'mutoscopelaw8.FlatWithin': WHATEVER THE INPUT: true; the input reads as it did. -/
def flatWithinSpec : ChangeSpec := { name := "flatWithin", fn := fun _ => fun
  | [d1, d2, d3, d4] => { results := [.lit (.bool true)], args := [d1, d2, d3, d4] }
  | _ => none }
def flatWithinRow : OpenClaim := { program := "ythoclopeajkcpaa", sum := "1370ad0426ad3f6f0a44d0cadb663a51b34d8cc634b6591de6b2135316cfed98", func := "mutoscope/mutoscopelaw8.FlatWithin", spec := "flatWithin", unfollowed := true, recurses := true, apart := false }
def FlatWithinSaid : Prop := flatWithinRow.holds Try.pinned (OpenSpec.ofChange flatWithinSpec)

/-- ITS FALSE NEIGHBOUR: 'it returns false'. Refute it at one input. -/
def flatWithinWrong : ChangeSpec := { name := "flatWithin", fn := fun _ => fun
  | [d1, d2, d3, d4] => { results := [.lit (.bool false)], args := [d1, d2, d3, d4] }
  | _ => none }
def FlatWithinWrongFalsely : Prop := flatWithinRow.holds Try.pinned (OpenSpec.ofChange flatWithinWrong)

/-- 'mutoscopelaw8.FlatCounts': WHATEVER THE INPUT: true; the input reads as it did. -/
def flatCountsSpec : ChangeSpec := { name := "flatCounts", fn := fun _ => fun
  | [d] => { results := [.lit (.bool true)], args := [d] }
  | _ => none }
def flatCountsRow : OpenClaim := { program := "ythoclopeajkcpaa", sum := "1370ad0426ad3f6f0a44d0cadb663a51b34d8cc634b6591de6b2135316cfed98", func := "mutoscope/mutoscopelaw8.FlatCounts", spec := "flatCounts", unfollowed := true, recurses := true, apart := false }
def FlatCountsSaid : Prop := flatCountsRow.holds Try.pinned (OpenSpec.ofChange flatCountsSpec)

/-- ITS FALSE NEIGHBOUR: 'it returns false'. Refute it at one input. -/
def flatCountsWrong : ChangeSpec := { name := "flatCounts", fn := fun _ => fun
  | [d] => { results := [.lit (.bool false)], args := [d] }
  | _ => none }
def FlatCountsWrongFalsely : Prop := flatCountsRow.holds Try.pinned (OpenSpec.ofChange flatCountsWrong)

/-- 'mutoscopelaw8.FlatNumbers': WHATEVER THE INPUT: true; the input reads as it did. -/
def flatNumbersSpec : ChangeSpec := { name := "flatNumbers", fn := fun _ => fun
  | [] => { results := [.lit (.bool true)], args := [] }
  | _ => none }
def flatNumbersRow : OpenClaim := { program := "ythoclopeajkcpaa", sum := "1370ad0426ad3f6f0a44d0cadb663a51b34d8cc634b6591de6b2135316cfed98", func := "mutoscope/mutoscopelaw8.FlatNumbers", spec := "flatNumbers", unfollowed := true, recurses := true, named := ["math/bits.divideError", "math/bits.overflowError"], apart := false }
def FlatNumbersSaid : Prop := flatNumbersRow.holds Try.pinned (OpenSpec.ofChange flatNumbersSpec)

/-- ITS FALSE NEIGHBOUR: 'it returns false'. Refute it at one input. -/
def flatNumbersWrong : ChangeSpec := { name := "flatNumbers", fn := fun _ => fun
  | [] => { results := [.lit (.bool false)], args := [] }
  | _ => none }
def FlatNumbersWrongFalsely : Prop := flatNumbersRow.holds Try.pinned (OpenSpec.ofChange flatNumbersWrong)

/-- 'mutoscopelaw14.BoxTiles': WHATEVER THE INPUT: true; the input reads as it did. -/
def boxTilesSpec : ChangeSpec := { name := "boxTiles", fn := fun _ => fun
  | [d1, d2, d3] => { results := [.lit (.bool true)], args := [d1, d2, d3] }
  | _ => none }
def boxTilesRow : OpenClaim := { program := "ythoclopeajkcpaa", sum := "1370ad0426ad3f6f0a44d0cadb663a51b34d8cc634b6591de6b2135316cfed98", func := "mutoscope/mutoscopelaw14.BoxTiles", spec := "boxTiles", apart := false }
def BoxTilesSaid : Prop := boxTilesRow.holds Try.pinned (OpenSpec.ofChange boxTilesSpec)

/-- ITS FALSE NEIGHBOUR: 'it returns false'. Refute it at one input. -/
def boxTilesWrong : ChangeSpec := { name := "boxTiles", fn := fun _ => fun
  | [d1, d2, d3] => { results := [.lit (.bool false)], args := [d1, d2, d3] }
  | _ => none }
def BoxTilesWrongFalsely : Prop := boxTilesRow.holds Try.pinned (OpenSpec.ofChange boxTilesWrong)

/-- 'mutoscopelaw14.BoxNumbers': WHATEVER THE INPUT: true; the input reads as it did. -/
def boxNumbersSpec : ChangeSpec := { name := "boxNumbers", fn := fun _ => fun
  | [] => { results := [.lit (.bool true)], args := [] }
  | _ => none }
def boxNumbersRow : OpenClaim := { program := "ythoclopeajkcpaa", sum := "1370ad0426ad3f6f0a44d0cadb663a51b34d8cc634b6591de6b2135316cfed98", func := "mutoscope/mutoscopelaw14.BoxNumbers", spec := "boxNumbers", recurses := true, named := ["math/bits.divideError", "math/bits.overflowError"], apart := false }
def BoxNumbersSaid : Prop := boxNumbersRow.holds Try.pinned (OpenSpec.ofChange boxNumbersSpec)

/-- ITS FALSE NEIGHBOUR: 'it returns false'. Refute it at one input. -/
def boxNumbersWrong : ChangeSpec := { name := "boxNumbers", fn := fun _ => fun
  | [] => { results := [.lit (.bool false)], args := [] }
  | _ => none }
def BoxNumbersWrongFalsely : Prop := boxNumbersRow.holds Try.pinned (OpenSpec.ofChange boxNumbersWrong)

/-- 'mutoscopelaw14.BoxTells': WHATEVER THE INPUT: true; the input reads as it did. -/
def boxTellsSpec : ChangeSpec := { name := "boxTells", fn := fun _ => fun
  | [d1, d2, d3, d4, d5, d6, d7, d8] => { results := [.lit (.bool true)], args := [d1, d2, d3, d4, d5, d6, d7, d8] }
  | _ => none }
def boxTellsRow : OpenClaim := { program := "ythoclopeajkcpaa", sum := "1370ad0426ad3f6f0a44d0cadb663a51b34d8cc634b6591de6b2135316cfed98", func := "mutoscope/mutoscopelaw14.BoxTells", spec := "boxTells", recurses := true, named := ["math/bits.divideError", "math/bits.overflowError"], apart := false }
def BoxTellsSaid : Prop := boxTellsRow.holds Try.pinned (OpenSpec.ofChange boxTellsSpec)

/-- ITS FALSE NEIGHBOUR: 'it returns false'. Refute it at one input. -/
def boxTellsWrong : ChangeSpec := { name := "boxTells", fn := fun _ => fun
  | [d1, d2, d3, d4, d5, d6, d7, d8] => { results := [.lit (.bool false)], args := [d1, d2, d3, d4, d5, d6, d7, d8] }
  | _ => none }
def BoxTellsWrongFalsely : Prop := boxTellsRow.holds Try.pinned (OpenSpec.ofChange boxTellsWrong)

/-- 'mutoscopelaw14.BoxJoins': WHATEVER THE INPUT: true; the input reads as it did. -/
def boxJoinsSpec : ChangeSpec := { name := "boxJoins", fn := fun _ => fun
  | [d1, d2, d3, d4, d5] => { results := [.lit (.bool true)], args := [d1, d2, d3, d4, d5] }
  | _ => none }
def boxJoinsRow : OpenClaim := { program := "ythoclopeajkcpaa", sum := "1370ad0426ad3f6f0a44d0cadb663a51b34d8cc634b6591de6b2135316cfed98", func := "mutoscope/mutoscopelaw14.BoxJoins", spec := "boxJoins", recurses := true, named := ["math/bits.divideError", "math/bits.overflowError"], apart := false }
def BoxJoinsSaid : Prop := boxJoinsRow.holds Try.pinned (OpenSpec.ofChange boxJoinsSpec)

/-- ITS FALSE NEIGHBOUR: 'it returns false'. Refute it at one input. -/
def boxJoinsWrong : ChangeSpec := { name := "boxJoins", fn := fun _ => fun
  | [d1, d2, d3, d4, d5] => { results := [.lit (.bool false)], args := [d1, d2, d3, d4, d5] }
  | _ => none }
def BoxJoinsWrongFalsely : Prop := boxJoinsRow.holds Try.pinned (OpenSpec.ofChange boxJoinsWrong)

/-- 'mutoscopelaw15.CoverWhole': WHATEVER THE INPUT: true; the input reads as it did. -/
def coverWholeSpec : ChangeSpec := { name := "coverWhole", fn := fun _ => fun
  | [d1, d2, d3] => { results := [.lit (.bool true)], args := [d1, d2, d3] }
  | _ => none }
def coverWholeRow : OpenClaim := { program := "ythoclopeajkcpaa", sum := "1370ad0426ad3f6f0a44d0cadb663a51b34d8cc634b6591de6b2135316cfed98", func := "mutoscope/mutoscopelaw15.CoverWhole", spec := "coverWhole", apart := false }
def CoverWholeSaid : Prop := coverWholeRow.holds Try.pinned (OpenSpec.ofChange coverWholeSpec)

/-- ITS FALSE NEIGHBOUR: 'it returns false'. Refute it at one input. -/
def coverWholeWrong : ChangeSpec := { name := "coverWhole", fn := fun _ => fun
  | [d1, d2, d3] => { results := [.lit (.bool false)], args := [d1, d2, d3] }
  | _ => none }
def CoverWholeWrongFalsely : Prop := coverWholeRow.holds Try.pinned (OpenSpec.ofChange coverWholeWrong)

/-- 'mutoscopelaw15.CoverBacks': WHATEVER THE INPUT: true; the input reads as it did. -/
def coverBacksSpec : ChangeSpec := { name := "coverBacks", fn := fun _ => fun
  | [d1, d2, d3, d4] => { results := [.lit (.bool true)], args := [d1, d2, d3, d4] }
  | _ => none }
def coverBacksRow : OpenClaim := { program := "ythoclopeajkcpaa", sum := "1370ad0426ad3f6f0a44d0cadb663a51b34d8cc634b6591de6b2135316cfed98", func := "mutoscope/mutoscopelaw15.CoverBacks", spec := "coverBacks", recurses := true, apart := false }
def CoverBacksSaid : Prop := coverBacksRow.holds Try.pinned (OpenSpec.ofChange coverBacksSpec)

/-- ITS FALSE NEIGHBOUR: 'it returns false'. Refute it at one input. -/
def coverBacksWrong : ChangeSpec := { name := "coverBacks", fn := fun _ => fun
  | [d1, d2, d3, d4] => { results := [.lit (.bool false)], args := [d1, d2, d3, d4] }
  | _ => none }
def CoverBacksWrongFalsely : Prop := coverBacksRow.holds Try.pinned (OpenSpec.ofChange coverBacksWrong)

/-- 'mutoscopelaw15.CoverShifts': WHATEVER THE INPUT: true; the input reads as it did. -/
def coverShiftsSpec : ChangeSpec := { name := "coverShifts", fn := fun _ => fun
  | [d1, d2, d3, d4, d5, d6] => { results := [.lit (.bool true)], args := [d1, d2, d3, d4, d5, d6] }
  | _ => none }
def coverShiftsRow : OpenClaim := { program := "ythoclopeajkcpaa", sum := "1370ad0426ad3f6f0a44d0cadb663a51b34d8cc634b6591de6b2135316cfed98", func := "mutoscope/mutoscopelaw15.CoverShifts", spec := "coverShifts", recurses := true, named := ["math/bits.divideError", "math/bits.overflowError"], apart := false }
def CoverShiftsSaid : Prop := coverShiftsRow.holds Try.pinned (OpenSpec.ofChange coverShiftsSpec)

/-- ITS FALSE NEIGHBOUR: 'it returns false'. Refute it at one input. -/
def coverShiftsWrong : ChangeSpec := { name := "coverShifts", fn := fun _ => fun
  | [d1, d2, d3, d4, d5, d6] => { results := [.lit (.bool false)], args := [d1, d2, d3, d4, d5, d6] }
  | _ => none }
def CoverShiftsWrongFalsely : Prop := coverShiftsRow.holds Try.pinned (OpenSpec.ofChange coverShiftsWrong)

/-- 'mutoscopelaw15.CoverNumbers': WHATEVER THE INPUT: true; the input reads as it did. -/
def coverNumbersSpec : ChangeSpec := { name := "coverNumbers", fn := fun _ => fun
  | [] => { results := [.lit (.bool true)], args := [] }
  | _ => none }
def coverNumbersRow : OpenClaim := { program := "ythoclopeajkcpaa", sum := "1370ad0426ad3f6f0a44d0cadb663a51b34d8cc634b6591de6b2135316cfed98", func := "mutoscope/mutoscopelaw15.CoverNumbers", spec := "coverNumbers", recurses := true, named := ["math/bits.divideError", "math/bits.overflowError"], apart := false }
def CoverNumbersSaid : Prop := coverNumbersRow.holds Try.pinned (OpenSpec.ofChange coverNumbersSpec)

/-- ITS FALSE NEIGHBOUR: 'it returns false'. Refute it at one input. -/
def coverNumbersWrong : ChangeSpec := { name := "coverNumbers", fn := fun _ => fun
  | [] => { results := [.lit (.bool false)], args := [] }
  | _ => none }
def CoverNumbersWrongFalsely : Prop := coverNumbersRow.holds Try.pinned (OpenSpec.ofChange coverNumbersWrong)

/-- 'mutoscopelaw15.CoverTells': WHATEVER THE INPUT: true; the input reads as it did. -/
def coverTellsSpec : ChangeSpec := { name := "coverTells", fn := fun _ => fun
  | [d1, d2, d3, d4, d5, d6, d7] => { results := [.lit (.bool true)], args := [d1, d2, d3, d4, d5, d6, d7] }
  | _ => none }
def coverTellsRow : OpenClaim := { program := "ythoclopeajkcpaa", sum := "1370ad0426ad3f6f0a44d0cadb663a51b34d8cc634b6591de6b2135316cfed98", func := "mutoscope/mutoscopelaw15.CoverTells", spec := "coverTells", recurses := true, named := ["math/bits.divideError", "math/bits.overflowError"], apart := false }
def CoverTellsSaid : Prop := coverTellsRow.holds Try.pinned (OpenSpec.ofChange coverTellsSpec)

/-- ITS FALSE NEIGHBOUR: 'it returns false'. Refute it at one input. -/
def coverTellsWrong : ChangeSpec := { name := "coverTells", fn := fun _ => fun
  | [d1, d2, d3, d4, d5, d6, d7] => { results := [.lit (.bool false)], args := [d1, d2, d3, d4, d5, d6, d7] }
  | _ => none }
def CoverTellsWrongFalsely : Prop := coverTellsRow.holds Try.pinned (OpenSpec.ofChange coverTellsWrong)

/- THE SECOND FORM. 'bulk': how many values and letters a reading holds, each counted each time it is reached (what is shared counts as often as it is met; a slice's spare places count too). A statement '..UptoSaid' is the law's where the arguments, and the package variables that the reading takes, are together of bulk at most 1048576: NARROWER than '..Said'. Prove '..Said' where nothing that the law and all that it calls make is longer than what came in: it says more and counts as full. Else prove '..UptoSaid'. A law counts once. -/
mutual
def uptoBulk {H : Type} : DataW H → Nat
  | .lit (.string bytes) => bytes.length + 1
  | .lit _ => 1
  | .nil => 1
  | .ptr d => uptoBulk d + 1
  | .slice elems spare => uptoBulkAll elems + uptoBulkAll spare + 1
  | .agg parts => uptoBulkAll parts + 1
  | .iface _ d => uptoBulk d + 1
  | .map entries => uptoBulkEntries entries + 1
  | .held _ => 1
def uptoBulkAll {H : Type} : List (DataW H) → Nat
  | [] => 0
  | d :: r => uptoBulk d + uptoBulkAll r
def uptoBulkEntries {H : Type} : List (Lit × DataW H) → Nat
  | [] => 0
  | x :: r => uptoBulkEntry x + uptoBulkEntries r
def uptoBulkEntry {H : Type} : Lit × DataW H → Nat
  | (.string bytes, d) => bytes.length + uptoBulk d + 1
  | (_, d) => uptoBulk d + 1
 end
def uptoSmall : (H : Type) → List (DataW H) → Bool := fun _ ds => decide (uptoBulkAll ds ≤ 1048576)
def OpenSpec.upto (s : _root_.Go.ChangeSpec) : _root_.Go.OpenSpec := { _root_.Go.OpenSpec.ofChange s with cond := some uptoSmall }

/-- 'mutoscopelaw8.FlatWithin', WHERE WHAT IT READS IS OF BULK AT MOST 1048576: true; the input reads as it did. -/
def flatWithinUptoRow : OpenClaim := { program := "ythoclopeajkcpaa", sum := "1370ad0426ad3f6f0a44d0cadb663a51b34d8cc634b6591de6b2135316cfed98", func := "mutoscope/mutoscopelaw8.FlatWithin", spec := "flatWithin", unfollowed := true, recurses := true, apart := false, narrowed := true }
def FlatWithinUptoSaid : Prop := flatWithinUptoRow.holds Try.pinned (OpenSpec.upto flatWithinSpec)

/-- 'mutoscopelaw8.FlatCounts', WHERE WHAT IT READS IS OF BULK AT MOST 1048576: true; the input reads as it did. -/
def flatCountsUptoRow : OpenClaim := { program := "ythoclopeajkcpaa", sum := "1370ad0426ad3f6f0a44d0cadb663a51b34d8cc634b6591de6b2135316cfed98", func := "mutoscope/mutoscopelaw8.FlatCounts", spec := "flatCounts", unfollowed := true, recurses := true, apart := false, narrowed := true }
def FlatCountsUptoSaid : Prop := flatCountsUptoRow.holds Try.pinned (OpenSpec.upto flatCountsSpec)

/-- 'mutoscopelaw8.FlatNumbers', WHERE WHAT IT READS IS OF BULK AT MOST 1048576: true; the input reads as it did. -/
def flatNumbersUptoRow : OpenClaim := { program := "ythoclopeajkcpaa", sum := "1370ad0426ad3f6f0a44d0cadb663a51b34d8cc634b6591de6b2135316cfed98", func := "mutoscope/mutoscopelaw8.FlatNumbers", spec := "flatNumbers", unfollowed := true, recurses := true, named := ["math/bits.divideError", "math/bits.overflowError"], apart := false, narrowed := true }
def FlatNumbersUptoSaid : Prop := flatNumbersUptoRow.holds Try.pinned (OpenSpec.upto flatNumbersSpec)

/-- 'mutoscopelaw14.BoxTiles', WHERE WHAT IT READS IS OF BULK AT MOST 1048576: true; the input reads as it did. -/
def boxTilesUptoRow : OpenClaim := { program := "ythoclopeajkcpaa", sum := "1370ad0426ad3f6f0a44d0cadb663a51b34d8cc634b6591de6b2135316cfed98", func := "mutoscope/mutoscopelaw14.BoxTiles", spec := "boxTiles", apart := false, narrowed := true }
def BoxTilesUptoSaid : Prop := boxTilesUptoRow.holds Try.pinned (OpenSpec.upto boxTilesSpec)

/-- 'mutoscopelaw14.BoxNumbers', WHERE WHAT IT READS IS OF BULK AT MOST 1048576: true; the input reads as it did. -/
def boxNumbersUptoRow : OpenClaim := { program := "ythoclopeajkcpaa", sum := "1370ad0426ad3f6f0a44d0cadb663a51b34d8cc634b6591de6b2135316cfed98", func := "mutoscope/mutoscopelaw14.BoxNumbers", spec := "boxNumbers", recurses := true, named := ["math/bits.divideError", "math/bits.overflowError"], apart := false, narrowed := true }
def BoxNumbersUptoSaid : Prop := boxNumbersUptoRow.holds Try.pinned (OpenSpec.upto boxNumbersSpec)

/-- 'mutoscopelaw14.BoxTells', WHERE WHAT IT READS IS OF BULK AT MOST 1048576: true; the input reads as it did. -/
def boxTellsUptoRow : OpenClaim := { program := "ythoclopeajkcpaa", sum := "1370ad0426ad3f6f0a44d0cadb663a51b34d8cc634b6591de6b2135316cfed98", func := "mutoscope/mutoscopelaw14.BoxTells", spec := "boxTells", recurses := true, named := ["math/bits.divideError", "math/bits.overflowError"], apart := false, narrowed := true }
def BoxTellsUptoSaid : Prop := boxTellsUptoRow.holds Try.pinned (OpenSpec.upto boxTellsSpec)

/-- 'mutoscopelaw14.BoxJoins', WHERE WHAT IT READS IS OF BULK AT MOST 1048576: true; the input reads as it did. -/
def boxJoinsUptoRow : OpenClaim := { program := "ythoclopeajkcpaa", sum := "1370ad0426ad3f6f0a44d0cadb663a51b34d8cc634b6591de6b2135316cfed98", func := "mutoscope/mutoscopelaw14.BoxJoins", spec := "boxJoins", recurses := true, named := ["math/bits.divideError", "math/bits.overflowError"], apart := false, narrowed := true }
def BoxJoinsUptoSaid : Prop := boxJoinsUptoRow.holds Try.pinned (OpenSpec.upto boxJoinsSpec)

/-- 'mutoscopelaw15.CoverWhole', WHERE WHAT IT READS IS OF BULK AT MOST 1048576: true; the input reads as it did. -/
def coverWholeUptoRow : OpenClaim := { program := "ythoclopeajkcpaa", sum := "1370ad0426ad3f6f0a44d0cadb663a51b34d8cc634b6591de6b2135316cfed98", func := "mutoscope/mutoscopelaw15.CoverWhole", spec := "coverWhole", apart := false, narrowed := true }
def CoverWholeUptoSaid : Prop := coverWholeUptoRow.holds Try.pinned (OpenSpec.upto coverWholeSpec)

/-- 'mutoscopelaw15.CoverBacks', WHERE WHAT IT READS IS OF BULK AT MOST 1048576: true; the input reads as it did. -/
def coverBacksUptoRow : OpenClaim := { program := "ythoclopeajkcpaa", sum := "1370ad0426ad3f6f0a44d0cadb663a51b34d8cc634b6591de6b2135316cfed98", func := "mutoscope/mutoscopelaw15.CoverBacks", spec := "coverBacks", recurses := true, apart := false, narrowed := true }
def CoverBacksUptoSaid : Prop := coverBacksUptoRow.holds Try.pinned (OpenSpec.upto coverBacksSpec)

/-- 'mutoscopelaw15.CoverShifts', WHERE WHAT IT READS IS OF BULK AT MOST 1048576: true; the input reads as it did. -/
def coverShiftsUptoRow : OpenClaim := { program := "ythoclopeajkcpaa", sum := "1370ad0426ad3f6f0a44d0cadb663a51b34d8cc634b6591de6b2135316cfed98", func := "mutoscope/mutoscopelaw15.CoverShifts", spec := "coverShifts", recurses := true, named := ["math/bits.divideError", "math/bits.overflowError"], apart := false, narrowed := true }
def CoverShiftsUptoSaid : Prop := coverShiftsUptoRow.holds Try.pinned (OpenSpec.upto coverShiftsSpec)

/-- 'mutoscopelaw15.CoverNumbers', WHERE WHAT IT READS IS OF BULK AT MOST 1048576: true; the input reads as it did. -/
def coverNumbersUptoRow : OpenClaim := { program := "ythoclopeajkcpaa", sum := "1370ad0426ad3f6f0a44d0cadb663a51b34d8cc634b6591de6b2135316cfed98", func := "mutoscope/mutoscopelaw15.CoverNumbers", spec := "coverNumbers", recurses := true, named := ["math/bits.divideError", "math/bits.overflowError"], apart := false, narrowed := true }
def CoverNumbersUptoSaid : Prop := coverNumbersUptoRow.holds Try.pinned (OpenSpec.upto coverNumbersSpec)

/-- 'mutoscopelaw15.CoverTells', WHERE WHAT IT READS IS OF BULK AT MOST 1048576: true; the input reads as it did. -/
def coverTellsUptoRow : OpenClaim := { program := "ythoclopeajkcpaa", sum := "1370ad0426ad3f6f0a44d0cadb663a51b34d8cc634b6591de6b2135316cfed98", func := "mutoscope/mutoscopelaw15.CoverTells", spec := "coverTells", recurses := true, named := ["math/bits.divideError", "math/bits.overflowError"], apart := false, narrowed := true }
def CoverTellsUptoSaid : Prop := coverTellsUptoRow.holds Try.pinned (OpenSpec.upto coverTellsSpec)

end Rows
end Go.Proofs.Ythoclopeajkcpaa
