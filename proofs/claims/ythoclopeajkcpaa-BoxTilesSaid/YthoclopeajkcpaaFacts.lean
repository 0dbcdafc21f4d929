/- The types' facts: their sizes and how their parts lie; printed by a program of ours. -/
import Derived.Test.YthoclopeajkcpaaEK
import Derived.Test.YthoclopeajkcpaaProg
import Derived.KernelRfl
namespace Go.Proofs.Ythoclopeajkcpaa.Facts
open Go Go.RowKit E
@[go_sem] theorem tsz_0 : tsz Try.prog 0 = some 1 := by kernel_rfl
@[go_sem] theorem tagg_0 : tagg Try.prog 0 = some false := by kernel_rfl
@[go_sem] theorem und_0 : (Try.prog.underlying 0).isSome = true := by kernel_rfl
@[go_sem] theorem tsz_1 : tsz Try.prog 1 = some 1 := by kernel_rfl
@[go_sem] theorem tagg_1 : tagg Try.prog 1 = some false := by kernel_rfl
@[go_sem] theorem und_1 : (Try.prog.underlying 1).isSome = true := by kernel_rfl
@[go_sem] theorem tsz_2 : tsz Try.prog 2 = some 1 := by kernel_rfl
@[go_sem] theorem tagg_2 : tagg Try.prog 2 = some false := by kernel_rfl
@[go_sem] theorem tzero_2 : tzero Try.prog 2 = some [Value.int IntKind.i64 0] := by kernel_rfl
@[go_sem] theorem tkind_2 : tkind Try.prog 2 = some IntKind.i64 := by kernel_rfl
@[go_sem] theorem und_2 : (Try.prog.underlying 2).isSome = true := by kernel_rfl
@[go_sem] theorem tsz_3 : tsz Try.prog 3 = some 1 := by kernel_rfl
@[go_sem] theorem tagg_3 : tagg Try.prog 3 = some false := by kernel_rfl
@[go_sem] theorem tzero_3 : tzero Try.prog 3 = some [Value.int IntKind.i64 0] := by kernel_rfl
@[go_sem] theorem tkind_3 : tkind Try.prog 3 = some IntKind.i64 := by kernel_rfl
@[go_sem] theorem und_3 : (Try.prog.underlying 3).isSome = true := by kernel_rfl
@[go_sem] theorem tsz_4 : tsz Try.prog 4 = some 1 := by kernel_rfl
@[go_sem] theorem tagg_4 : tagg Try.prog 4 = some false := by kernel_rfl
@[go_sem] theorem tzero_4 : tzero Try.prog 4 = some [Value.bool false] := by kernel_rfl
@[go_sem] theorem tbool_4 : tbool Try.prog 4 = true := by kernel_rfl
@[go_sem] theorem und_4 : (Try.prog.underlying 4).isSome = true := by kernel_rfl
@[go_sem] theorem tsz_5 : tsz Try.prog 5 = some 1 := by kernel_rfl
@[go_sem] theorem tagg_5 : tagg Try.prog 5 = some false := by kernel_rfl
@[go_sem] theorem tzero_5 : tzero Try.prog 5 = some [Value.int IntKind.u8 0] := by kernel_rfl
@[go_sem] theorem tkind_5 : tkind Try.prog 5 = some IntKind.u8 := by kernel_rfl
@[go_sem] theorem und_5 : (Try.prog.underlying 5).isSome = true := by kernel_rfl
@[go_sem] theorem tsz_6 : tsz Try.prog 6 = some 1 := by kernel_rfl
@[go_sem] theorem tagg_6 : tagg Try.prog 6 = some false := by kernel_rfl
@[go_sem] theorem tzero_6 : tzero Try.prog 6 = some [Value.int IntKind.u8 0] := by kernel_rfl
@[go_sem] theorem tkind_6 : tkind Try.prog 6 = some IntKind.u8 := by kernel_rfl
@[go_sem] theorem und_6 : (Try.prog.underlying 6).isSome = true := by kernel_rfl
@[go_sem] theorem tsz_7 : tsz Try.prog 7 = some 4 := by kernel_rfl
@[go_sem] theorem tagg_7 : tagg Try.prog 7 = some true := by kernel_rfl
@[go_sem] theorem tzero_7 : tzero Try.prog 7 = some [Value.int IntKind.i64 0, Value.int IntKind.i64 0, Value.bool false, Value.int IntKind.u8 0] := by kernel_rfl
@[go_sem] theorem tlay_7 : tlay Try.prog 7 = some (Lay.str [Value.int IntKind.i64 0, Value.int IntKind.i64 0, Value.bool false, Value.int IntKind.u8 0]) := by kernel_rfl
@[go_sem] theorem teq_7 : teq Try.prog 7 = some [Lf.i, Lf.i, Lf.b, Lf.i] := by kernel_rfl
@[go_sem] theorem und_7 : (Try.prog.underlying 7).isSome = true := by kernel_rfl
@[go_sem] theorem tplaces_7_0 : tplaces Try.prog 7 0 = some (0, 1) := by kernel_rfl
@[go_sem] theorem tfo_7_0 : tfo Try.prog 7 0 = some 0 := by kernel_rfl
@[go_sem] theorem tplaces_7_1 : tplaces Try.prog 7 1 = some (1, 1) := by kernel_rfl
@[go_sem] theorem tfo_7_1 : tfo Try.prog 7 1 = some 1 := by kernel_rfl
@[go_sem] theorem tplaces_7_2 : tplaces Try.prog 7 2 = some (2, 1) := by kernel_rfl
@[go_sem] theorem tfo_7_2 : tfo Try.prog 7 2 = some 2 := by kernel_rfl
@[go_sem] theorem tplaces_7_3 : tplaces Try.prog 7 3 = some (3, 1) := by kernel_rfl
@[go_sem] theorem tfo_7_3 : tfo Try.prog 7 3 = some 3 := by kernel_rfl
@[go_sem] theorem tsz_8 : tsz Try.prog 8 = some 4 := by kernel_rfl
@[go_sem] theorem tagg_8 : tagg Try.prog 8 = some true := by kernel_rfl
@[go_sem] theorem tzero_8 : tzero Try.prog 8 = some [Value.int IntKind.i64 0, Value.int IntKind.i64 0, Value.bool false, Value.int IntKind.u8 0] := by kernel_rfl
@[go_sem] theorem tlay_8 : tlay Try.prog 8 = some (Lay.str [Value.int IntKind.i64 0, Value.int IntKind.i64 0, Value.bool false, Value.int IntKind.u8 0]) := by kernel_rfl
@[go_sem] theorem teq_8 : teq Try.prog 8 = some [Lf.i, Lf.i, Lf.b, Lf.i] := by kernel_rfl
@[go_sem] theorem und_8 : (Try.prog.underlying 8).isSome = true := by kernel_rfl
@[go_sem] theorem tplaces_8_0 : tplaces Try.prog 8 0 = some (0, 1) := by kernel_rfl
@[go_sem] theorem tfo_8_0 : tfo Try.prog 8 0 = some 0 := by kernel_rfl
@[go_sem] theorem tplaces_8_1 : tplaces Try.prog 8 1 = some (1, 1) := by kernel_rfl
@[go_sem] theorem tfo_8_1 : tfo Try.prog 8 1 = some 1 := by kernel_rfl
@[go_sem] theorem tplaces_8_2 : tplaces Try.prog 8 2 = some (2, 1) := by kernel_rfl
@[go_sem] theorem tfo_8_2 : tfo Try.prog 8 2 = some 2 := by kernel_rfl
@[go_sem] theorem tplaces_8_3 : tplaces Try.prog 8 3 = some (3, 1) := by kernel_rfl
@[go_sem] theorem tfo_8_3 : tfo Try.prog 8 3 = some 3 := by kernel_rfl
@[go_sem] theorem tsz_9 : tsz Try.prog 9 = some 1 := by kernel_rfl
@[go_sem] theorem tagg_9 : tagg Try.prog 9 = some false := by kernel_rfl
@[go_sem] theorem tzero_9 : tzero Try.prog 9 = some [Value.string { data := { toList := [] } }] := by kernel_rfl
@[go_sem] theorem tstr_9 : tstr Try.prog 9 = true := by kernel_rfl
@[go_sem] theorem und_9 : (Try.prog.underlying 9).isSome = true := by kernel_rfl
@[go_sem] theorem tsz_10 : tsz Try.prog 10 = some 1 := by kernel_rfl
@[go_sem] theorem tagg_10 : tagg Try.prog 10 = some false := by kernel_rfl
@[go_sem] theorem tzero_10 : tzero Try.prog 10 = some [Value.string { data := { toList := [] } }] := by kernel_rfl
@[go_sem] theorem tstr_10 : tstr Try.prog 10 = true := by kernel_rfl
@[go_sem] theorem und_10 : (Try.prog.underlying 10).isSome = true := by kernel_rfl
@[go_sem] theorem tsz_11 : tsz Try.prog 11 = some 1 := by kernel_rfl
@[go_sem] theorem tagg_11 : tagg Try.prog 11 = some false := by kernel_rfl
@[go_sem] theorem tzero_11 : tzero Try.prog 11 = some [Value.string { data := { toList := [] } }] := by kernel_rfl
@[go_sem] theorem tstr_11 : tstr Try.prog 11 = true := by kernel_rfl
@[go_sem] theorem und_11 : (Try.prog.underlying 11).isSome = true := by kernel_rfl
@[go_sem] theorem tsz_12 : tsz Try.prog 12 = some 1 := by kernel_rfl
@[go_sem] theorem tagg_12 : tagg Try.prog 12 = some false := by kernel_rfl
@[go_sem] theorem tzero_12 : tzero Try.prog 12 = some [Value.int IntKind.u64 0] := by kernel_rfl
@[go_sem] theorem tkind_12 : tkind Try.prog 12 = some IntKind.u64 := by kernel_rfl
@[go_sem] theorem und_12 : (Try.prog.underlying 12).isSome = true := by kernel_rfl
@[go_sem] theorem tsz_13 : tsz Try.prog 13 = some 2 := by kernel_rfl
@[go_sem] theorem tagg_13 : tagg Try.prog 13 = some true := by kernel_rfl
@[go_sem] theorem tzero_13 : tzero Try.prog 13 = some [Value.string { data := { toList := [] } }, Value.int IntKind.u64 0] := by kernel_rfl
@[go_sem] theorem tlay_13 : tlay Try.prog 13 = some (Lay.str [Value.string { data := { toList := [] } }, Value.int IntKind.u64 0]) := by kernel_rfl
@[go_sem] theorem und_13 : (Try.prog.underlying 13).isSome = true := by kernel_rfl
@[go_sem] theorem tplaces_13_0 : tplaces Try.prog 13 0 = some (0, 1) := by kernel_rfl
@[go_sem] theorem tfo_13_0 : tfo Try.prog 13 0 = some 0 := by kernel_rfl
@[go_sem] theorem tplaces_13_1 : tplaces Try.prog 13 1 = some (1, 1) := by kernel_rfl
@[go_sem] theorem tfo_13_1 : tfo Try.prog 13 1 = some 1 := by kernel_rfl
@[go_sem] theorem tsz_14 : tsz Try.prog 14 = some 2 := by kernel_rfl
@[go_sem] theorem tagg_14 : tagg Try.prog 14 = some true := by kernel_rfl
@[go_sem] theorem tzero_14 : tzero Try.prog 14 = some [Value.string { data := { toList := [] } }, Value.int IntKind.u64 0] := by kernel_rfl
@[go_sem] theorem tlay_14 : tlay Try.prog 14 = some (Lay.str [Value.string { data := { toList := [] } }, Value.int IntKind.u64 0]) := by kernel_rfl
@[go_sem] theorem und_14 : (Try.prog.underlying 14).isSome = true := by kernel_rfl
@[go_sem] theorem tplaces_14_0 : tplaces Try.prog 14 0 = some (0, 1) := by kernel_rfl
@[go_sem] theorem tfo_14_0 : tfo Try.prog 14 0 = some 0 := by kernel_rfl
@[go_sem] theorem tplaces_14_1 : tplaces Try.prog 14 1 = some (1, 1) := by kernel_rfl
@[go_sem] theorem tfo_14_1 : tfo Try.prog 14 1 = some 1 := by kernel_rfl
@[go_sem] theorem tsz_15 : tsz Try.prog 15 = some 1 := by kernel_rfl
@[go_sem] theorem tagg_15 : tagg Try.prog 15 = some false := by kernel_rfl
@[go_sem] theorem tzero_15 : tzero Try.prog 15 = some [Value.pointer Option.none] := by kernel_rfl
@[go_sem] theorem und_15 : (Try.prog.underlying 15).isSome = true := by kernel_rfl
@[go_sem] theorem tsz_16 : tsz Try.prog 16 = some 1 := by kernel_rfl
@[go_sem] theorem tagg_16 : tagg Try.prog 16 = some false := by kernel_rfl
@[go_sem] theorem tzero_16 : tzero Try.prog 16 = some [Value.pointer Option.none] := by kernel_rfl
@[go_sem] theorem und_16 : (Try.prog.underlying 16).isSome = true := by kernel_rfl
@[go_sem] theorem tsz_17 : tsz Try.prog 17 = some 1 := by kernel_rfl
@[go_sem] theorem tagg_17 : tagg Try.prog 17 = some false := by kernel_rfl
@[go_sem] theorem tzero_17 : tzero Try.prog 17 = some [Value.pointer Option.none] := by kernel_rfl
@[go_sem] theorem und_17 : (Try.prog.underlying 17).isSome = true := by kernel_rfl
@[go_sem] theorem tsz_18 : tsz Try.prog 18 = some 1 := by kernel_rfl
@[go_sem] theorem tagg_18 : tagg Try.prog 18 = some true := by kernel_rfl
@[go_sem] theorem tzero_18 : tzero Try.prog 18 = some [Value.pointer Option.none] := by kernel_rfl
@[go_sem] theorem tlay_18 : tlay Try.prog 18 = some (Lay.str [Value.pointer Option.none]) := by kernel_rfl
@[go_sem] theorem und_18 : (Try.prog.underlying 18).isSome = true := by kernel_rfl
@[go_sem] theorem tplaces_18_0 : tplaces Try.prog 18 0 = some (0, 1) := by kernel_rfl
@[go_sem] theorem tfo_18_0 : tfo Try.prog 18 0 = some 0 := by kernel_rfl
@[go_sem] theorem tsz_19 : tsz Try.prog 19 = some 1 := by kernel_rfl
@[go_sem] theorem tagg_19 : tagg Try.prog 19 = some true := by kernel_rfl
@[go_sem] theorem tzero_19 : tzero Try.prog 19 = some [Value.pointer Option.none] := by kernel_rfl
@[go_sem] theorem tlay_19 : tlay Try.prog 19 = some (Lay.str [Value.pointer Option.none]) := by kernel_rfl
@[go_sem] theorem und_19 : (Try.prog.underlying 19).isSome = true := by kernel_rfl
@[go_sem] theorem tplaces_19_0 : tplaces Try.prog 19 0 = some (0, 1) := by kernel_rfl
@[go_sem] theorem tfo_19_0 : tfo Try.prog 19 0 = some 0 := by kernel_rfl
@[go_sem] theorem tsz_20 : tsz Try.prog 20 = some 1 := by kernel_rfl
@[go_sem] theorem tagg_20 : tagg Try.prog 20 = some false := by kernel_rfl
@[go_sem] theorem tzero_20 : tzero Try.prog 20 = some [Value.nilIface] := by kernel_rfl
@[go_sem] theorem und_20 : (Try.prog.underlying 20).isSome = true := by kernel_rfl
@[go_sem] theorem tsz_21 : tsz Try.prog 21 = some 1 := by kernel_rfl
@[go_sem] theorem tagg_21 : tagg Try.prog 21 = some false := by kernel_rfl
@[go_sem] theorem tzero_21 : tzero Try.prog 21 = some [Value.int IntKind.i32 0] := by kernel_rfl
@[go_sem] theorem tkind_21 : tkind Try.prog 21 = some IntKind.i32 := by kernel_rfl
@[go_sem] theorem und_21 : (Try.prog.underlying 21).isSome = true := by kernel_rfl
@[go_sem] theorem tsz_22 : tsz Try.prog 22 = some 2 := by kernel_rfl
@[go_sem] theorem tagg_22 : tagg Try.prog 22 = some true := by kernel_rfl
@[go_sem] theorem tzero_22 : tzero Try.prog 22 = some [Value.int IntKind.i64 0, Value.int IntKind.i64 0] := by kernel_rfl
@[go_sem] theorem tlay_22 : tlay Try.prog 22 = some (Lay.str [Value.int IntKind.i64 0, Value.int IntKind.i64 0]) := by kernel_rfl
@[go_sem] theorem teq_22 : teq Try.prog 22 = some [Lf.i, Lf.i] := by kernel_rfl
@[go_sem] theorem und_22 : (Try.prog.underlying 22).isSome = true := by kernel_rfl
@[go_sem] theorem tplaces_22_0 : tplaces Try.prog 22 0 = some (0, 1) := by kernel_rfl
@[go_sem] theorem tfo_22_0 : tfo Try.prog 22 0 = some 0 := by kernel_rfl
@[go_sem] theorem tplaces_22_1 : tplaces Try.prog 22 1 = some (1, 1) := by kernel_rfl
@[go_sem] theorem tfo_22_1 : tfo Try.prog 22 1 = some 1 := by kernel_rfl
@[go_sem] theorem tsz_23 : tsz Try.prog 23 = some 2 := by kernel_rfl
@[go_sem] theorem tagg_23 : tagg Try.prog 23 = some true := by kernel_rfl
@[go_sem] theorem tzero_23 : tzero Try.prog 23 = some [Value.int IntKind.i64 0, Value.int IntKind.i64 0] := by kernel_rfl
@[go_sem] theorem tlay_23 : tlay Try.prog 23 = some (Lay.str [Value.int IntKind.i64 0, Value.int IntKind.i64 0]) := by kernel_rfl
@[go_sem] theorem teq_23 : teq Try.prog 23 = some [Lf.i, Lf.i] := by kernel_rfl
@[go_sem] theorem und_23 : (Try.prog.underlying 23).isSome = true := by kernel_rfl
@[go_sem] theorem tplaces_23_0 : tplaces Try.prog 23 0 = some (0, 1) := by kernel_rfl
@[go_sem] theorem tfo_23_0 : tfo Try.prog 23 0 = some 0 := by kernel_rfl
@[go_sem] theorem tplaces_23_1 : tplaces Try.prog 23 1 = some (1, 1) := by kernel_rfl
@[go_sem] theorem tfo_23_1 : tfo Try.prog 23 1 = some 1 := by kernel_rfl
@[go_sem] theorem tsz_24 : tsz Try.prog 24 = some 8 := by kernel_rfl
@[go_sem] theorem tagg_24 : tagg Try.prog 24 = some true := by kernel_rfl
@[go_sem] theorem tzero_24 : tzero Try.prog 24 = some [Value.int IntKind.i64 0, Value.int IntKind.i64 0, Value.int IntKind.i64 0, Value.int IntKind.i64 0, Value.int IntKind.i64 0, Value.int IntKind.i64 0, Value.int IntKind.i64 0, Value.int IntKind.i64 0] := by kernel_rfl
@[go_sem] theorem tae_24 : tae Try.prog 24 = some (4, 2) := by kernel_rfl
@[go_sem] theorem tlay_24 : tlay Try.prog 24 = some (Lay.arr [Value.int IntKind.i64 0, Value.int IntKind.i64 0, Value.int IntKind.i64 0, Value.int IntKind.i64 0, Value.int IntKind.i64 0, Value.int IntKind.i64 0, Value.int IntKind.i64 0, Value.int IntKind.i64 0] 2) := by kernel_rfl
@[go_sem] theorem teq_24 : teq Try.prog 24 = some [Lf.i, Lf.i, Lf.i, Lf.i, Lf.i, Lf.i, Lf.i, Lf.i] := by kernel_rfl
@[go_sem] theorem tarr_24 : tarr Try.prog 24 = some (4, 23) := by kernel_rfl
@[go_sem] theorem und_24 : (Try.prog.underlying 24).isSome = true := by kernel_rfl
@[go_sem] theorem tsz_25 : tsz Try.prog 25 = some 1 := by kernel_rfl
@[go_sem] theorem tagg_25 : tagg Try.prog 25 = some false := by kernel_rfl
@[go_sem] theorem tzero_25 : tzero Try.prog 25 = some [Value.slice Option.none 0 0] := by kernel_rfl
@[go_sem] theorem tse_25 : tse Try.prog 25 = some 2 := by kernel_rfl
@[go_sem] theorem tlit_25 : tlit Try.prog 25 = some ([Value.int IntKind.i64 0, Value.int IntKind.i64 0], 2) := by kernel_rfl
@[go_sem] theorem tapp_25 : tapp Try.prog 25 = some (2, 16) := by kernel_rfl
@[go_sem] theorem tslice_25 : tslice Try.prog 25 = some 23 := by kernel_rfl
@[go_sem] theorem und_25 : (Try.prog.underlying 25).isSome = true := by kernel_rfl
@[go_sem] theorem tsz_26 : tsz Try.prog 26 = some 1 := by kernel_rfl
@[go_sem] theorem tagg_26 : tagg Try.prog 26 = some false := by kernel_rfl
@[go_sem] theorem und_26 : (Try.prog.underlying 26).isSome = true := by kernel_rfl
@[go_sem] theorem tsz_27 : tsz Try.prog 27 = some 1 := by kernel_rfl
@[go_sem] theorem tagg_27 : tagg Try.prog 27 = some false := by kernel_rfl
@[go_sem] theorem und_27 : (Try.prog.underlying 27).isSome = true := by kernel_rfl
@[go_sem] theorem tsz_28 : tsz Try.prog 28 = some 1 := by kernel_rfl
@[go_sem] theorem tagg_28 : tagg Try.prog 28 = some false := by kernel_rfl
@[go_sem] theorem und_28 : (Try.prog.underlying 28).isSome = true := by kernel_rfl
@[go_sem] theorem tsz_29 : tsz Try.prog 29 = some 1 := by kernel_rfl
@[go_sem] theorem tagg_29 : tagg Try.prog 29 = some false := by kernel_rfl
@[go_sem] theorem tzero_29 : tzero Try.prog 29 = some [Value.slice Option.none 0 0] := by kernel_rfl
@[go_sem] theorem tse_29 : tse Try.prog 29 = some 1 := by kernel_rfl
@[go_sem] theorem tlit_29 : tlit Try.prog 29 = some ([Value.int IntKind.i64 0], 1) := by kernel_rfl
@[go_sem] theorem tapp_29 : tapp Try.prog 29 = some (1, 8) := by kernel_rfl
@[go_sem] theorem tslice_29 : tslice Try.prog 29 = some 3 := by kernel_rfl
@[go_sem] theorem und_29 : (Try.prog.underlying 29).isSome = true := by kernel_rfl
@[go_sem] theorem tsz_30 : tsz Try.prog 30 = some 1 := by kernel_rfl
@[go_sem] theorem tagg_30 : tagg Try.prog 30 = some false := by kernel_rfl
@[go_sem] theorem tzero_30 : tzero Try.prog 30 = some [Value.pointer Option.none] := by kernel_rfl
@[go_sem] theorem und_30 : (Try.prog.underlying 30).isSome = true := by kernel_rfl
@[go_sem] theorem tsz_31 : tsz Try.prog 31 = some 2 := by kernel_rfl
@[go_sem] theorem tagg_31 : tagg Try.prog 31 = some true := by kernel_rfl
@[go_sem] theorem tzero_31 : tzero Try.prog 31 = some [Value.slice Option.none 0 0, Value.int IntKind.i64 0] := by kernel_rfl
@[go_sem] theorem tlay_31 : tlay Try.prog 31 = some (Lay.str [Value.slice Option.none 0 0, Value.int IntKind.i64 0]) := by kernel_rfl
@[go_sem] theorem und_31 : (Try.prog.underlying 31).isSome = true := by kernel_rfl
@[go_sem] theorem tplaces_31_0 : tplaces Try.prog 31 0 = some (0, 1) := by kernel_rfl
@[go_sem] theorem tfo_31_0 : tfo Try.prog 31 0 = some 0 := by kernel_rfl
@[go_sem] theorem tplaces_31_1 : tplaces Try.prog 31 1 = some (1, 1) := by kernel_rfl
@[go_sem] theorem tfo_31_1 : tfo Try.prog 31 1 = some 1 := by kernel_rfl
@[go_sem] theorem tsz_32 : tsz Try.prog 32 = some 2 := by kernel_rfl
@[go_sem] theorem tagg_32 : tagg Try.prog 32 = some true := by kernel_rfl
@[go_sem] theorem tzero_32 : tzero Try.prog 32 = some [Value.slice Option.none 0 0, Value.int IntKind.i64 0] := by kernel_rfl
@[go_sem] theorem tlay_32 : tlay Try.prog 32 = some (Lay.str [Value.slice Option.none 0 0, Value.int IntKind.i64 0]) := by kernel_rfl
@[go_sem] theorem und_32 : (Try.prog.underlying 32).isSome = true := by kernel_rfl
@[go_sem] theorem tplaces_32_0 : tplaces Try.prog 32 0 = some (0, 1) := by kernel_rfl
@[go_sem] theorem tfo_32_0 : tfo Try.prog 32 0 = some 0 := by kernel_rfl
@[go_sem] theorem tplaces_32_1 : tplaces Try.prog 32 1 = some (1, 1) := by kernel_rfl
@[go_sem] theorem tfo_32_1 : tfo Try.prog 32 1 = some 1 := by kernel_rfl
@[go_sem] theorem tsz_33 : tsz Try.prog 33 = some 2 := by kernel_rfl
@[go_sem] theorem tagg_33 : tagg Try.prog 33 = some true := by kernel_rfl
@[go_sem] theorem tzero_33 : tzero Try.prog 33 = some [Value.bool false, Value.slice Option.none 0 0] := by kernel_rfl
@[go_sem] theorem tlay_33 : tlay Try.prog 33 = some (Lay.str [Value.bool false, Value.slice Option.none 0 0]) := by kernel_rfl
@[go_sem] theorem und_33 : (Try.prog.underlying 33).isSome = true := by kernel_rfl
@[go_sem] theorem tplaces_33_0 : tplaces Try.prog 33 0 = some (0, 1) := by kernel_rfl
@[go_sem] theorem tfo_33_0 : tfo Try.prog 33 0 = some 0 := by kernel_rfl
@[go_sem] theorem tplaces_33_1 : tplaces Try.prog 33 1 = some (1, 1) := by kernel_rfl
@[go_sem] theorem tfo_33_1 : tfo Try.prog 33 1 = some 1 := by kernel_rfl
@[go_sem] theorem tsz_34 : tsz Try.prog 34 = some 2 := by kernel_rfl
@[go_sem] theorem tagg_34 : tagg Try.prog 34 = some true := by kernel_rfl
@[go_sem] theorem tzero_34 : tzero Try.prog 34 = some [Value.bool false, Value.slice Option.none 0 0] := by kernel_rfl
@[go_sem] theorem tlay_34 : tlay Try.prog 34 = some (Lay.str [Value.bool false, Value.slice Option.none 0 0]) := by kernel_rfl
@[go_sem] theorem und_34 : (Try.prog.underlying 34).isSome = true := by kernel_rfl
@[go_sem] theorem tplaces_34_0 : tplaces Try.prog 34 0 = some (0, 1) := by kernel_rfl
@[go_sem] theorem tfo_34_0 : tfo Try.prog 34 0 = some 0 := by kernel_rfl
@[go_sem] theorem tplaces_34_1 : tplaces Try.prog 34 1 = some (1, 1) := by kernel_rfl
@[go_sem] theorem tfo_34_1 : tfo Try.prog 34 1 = some 1 := by kernel_rfl
@[go_sem] theorem tsz_35 : tsz Try.prog 35 = some 1 := by kernel_rfl
@[go_sem] theorem tagg_35 : tagg Try.prog 35 = some false := by kernel_rfl
@[go_sem] theorem und_35 : (Try.prog.underlying 35).isSome = true := by kernel_rfl
@[go_sem] theorem tsz_36 : tsz Try.prog 36 = some 1 := by kernel_rfl
@[go_sem] theorem tagg_36 : tagg Try.prog 36 = some false := by kernel_rfl
@[go_sem] theorem und_36 : (Try.prog.underlying 36).isSome = true := by kernel_rfl
@[go_sem] theorem tsz_37 : tsz Try.prog 37 = some 2 := by kernel_rfl
@[go_sem] theorem tagg_37 : tagg Try.prog 37 = some true := by kernel_rfl
@[go_sem] theorem tzero_37 : tzero Try.prog 37 = some [Value.bool false, Value.slice Option.none 0 0] := by kernel_rfl
@[go_sem] theorem tlay_37 : tlay Try.prog 37 = some (Lay.str [Value.bool false, Value.slice Option.none 0 0]) := by kernel_rfl
@[go_sem] theorem und_37 : (Try.prog.underlying 37).isSome = true := by kernel_rfl
@[go_sem] theorem tplaces_37_0 : tplaces Try.prog 37 0 = some (0, 1) := by kernel_rfl
@[go_sem] theorem tfo_37_0 : tfo Try.prog 37 0 = some 0 := by kernel_rfl
@[go_sem] theorem tplaces_37_1 : tplaces Try.prog 37 1 = some (1, 1) := by kernel_rfl
@[go_sem] theorem tfo_37_1 : tfo Try.prog 37 1 = some 1 := by kernel_rfl
@[go_sem] theorem tsz_38 : tsz Try.prog 38 = some 1 := by kernel_rfl
@[go_sem] theorem tagg_38 : tagg Try.prog 38 = some false := by kernel_rfl
@[go_sem] theorem und_38 : (Try.prog.underlying 38).isSome = true := by kernel_rfl
@[go_sem] theorem tsz_39 : tsz Try.prog 39 = some 1 := by kernel_rfl
@[go_sem] theorem tagg_39 : tagg Try.prog 39 = some false := by kernel_rfl
@[go_sem] theorem und_39 : (Try.prog.underlying 39).isSome = true := by kernel_rfl
@[go_sem] theorem tsz_40 : tsz Try.prog 40 = some 1 := by kernel_rfl
@[go_sem] theorem tagg_40 : tagg Try.prog 40 = some false := by kernel_rfl
@[go_sem] theorem und_40 : (Try.prog.underlying 40).isSome = true := by kernel_rfl
@[go_sem] theorem tsz_41 : tsz Try.prog 41 = some 6 := by kernel_rfl
@[go_sem] theorem tagg_41 : tagg Try.prog 41 = some true := by kernel_rfl
@[go_sem] theorem tzero_41 : tzero Try.prog 41 = some [Value.int IntKind.i64 0, Value.int IntKind.i64 0, Value.int IntKind.i64 0, Value.int IntKind.i64 0, Value.int IntKind.i64 0, Value.int IntKind.i64 0] := by kernel_rfl
@[go_sem] theorem tlay_41 : tlay Try.prog 41 = some (Lay.str [Value.int IntKind.i64 0, Value.int IntKind.i64 0, Value.int IntKind.i64 0, Value.int IntKind.i64 0, Value.int IntKind.i64 0, Value.int IntKind.i64 0]) := by kernel_rfl
@[go_sem] theorem teq_41 : teq Try.prog 41 = some [Lf.i, Lf.i, Lf.i, Lf.i, Lf.i, Lf.i] := by kernel_rfl
@[go_sem] theorem und_41 : (Try.prog.underlying 41).isSome = true := by kernel_rfl
@[go_sem] theorem tplaces_41_0 : tplaces Try.prog 41 0 = some (0, 1) := by kernel_rfl
@[go_sem] theorem tfo_41_0 : tfo Try.prog 41 0 = some 0 := by kernel_rfl
@[go_sem] theorem tplaces_41_1 : tplaces Try.prog 41 1 = some (1, 1) := by kernel_rfl
@[go_sem] theorem tfo_41_1 : tfo Try.prog 41 1 = some 1 := by kernel_rfl
@[go_sem] theorem tplaces_41_2 : tplaces Try.prog 41 2 = some (2, 1) := by kernel_rfl
@[go_sem] theorem tfo_41_2 : tfo Try.prog 41 2 = some 2 := by kernel_rfl
@[go_sem] theorem tplaces_41_3 : tplaces Try.prog 41 3 = some (3, 1) := by kernel_rfl
@[go_sem] theorem tfo_41_3 : tfo Try.prog 41 3 = some 3 := by kernel_rfl
@[go_sem] theorem tplaces_41_4 : tplaces Try.prog 41 4 = some (4, 1) := by kernel_rfl
@[go_sem] theorem tfo_41_4 : tfo Try.prog 41 4 = some 4 := by kernel_rfl
@[go_sem] theorem tplaces_41_5 : tplaces Try.prog 41 5 = some (5, 1) := by kernel_rfl
@[go_sem] theorem tfo_41_5 : tfo Try.prog 41 5 = some 5 := by kernel_rfl
@[go_sem] theorem tsz_42 : tsz Try.prog 42 = some 6 := by kernel_rfl
@[go_sem] theorem tagg_42 : tagg Try.prog 42 = some true := by kernel_rfl
@[go_sem] theorem tzero_42 : tzero Try.prog 42 = some [Value.int IntKind.i64 0, Value.int IntKind.i64 0, Value.int IntKind.i64 0, Value.int IntKind.i64 0, Value.int IntKind.i64 0, Value.int IntKind.i64 0] := by kernel_rfl
@[go_sem] theorem tlay_42 : tlay Try.prog 42 = some (Lay.str [Value.int IntKind.i64 0, Value.int IntKind.i64 0, Value.int IntKind.i64 0, Value.int IntKind.i64 0, Value.int IntKind.i64 0, Value.int IntKind.i64 0]) := by kernel_rfl
@[go_sem] theorem teq_42 : teq Try.prog 42 = some [Lf.i, Lf.i, Lf.i, Lf.i, Lf.i, Lf.i] := by kernel_rfl
@[go_sem] theorem und_42 : (Try.prog.underlying 42).isSome = true := by kernel_rfl
@[go_sem] theorem tplaces_42_0 : tplaces Try.prog 42 0 = some (0, 1) := by kernel_rfl
@[go_sem] theorem tfo_42_0 : tfo Try.prog 42 0 = some 0 := by kernel_rfl
@[go_sem] theorem tplaces_42_1 : tplaces Try.prog 42 1 = some (1, 1) := by kernel_rfl
@[go_sem] theorem tfo_42_1 : tfo Try.prog 42 1 = some 1 := by kernel_rfl
@[go_sem] theorem tplaces_42_2 : tplaces Try.prog 42 2 = some (2, 1) := by kernel_rfl
@[go_sem] theorem tfo_42_2 : tfo Try.prog 42 2 = some 2 := by kernel_rfl
@[go_sem] theorem tplaces_42_3 : tplaces Try.prog 42 3 = some (3, 1) := by kernel_rfl
@[go_sem] theorem tfo_42_3 : tfo Try.prog 42 3 = some 3 := by kernel_rfl
@[go_sem] theorem tplaces_42_4 : tplaces Try.prog 42 4 = some (4, 1) := by kernel_rfl
@[go_sem] theorem tfo_42_4 : tfo Try.prog 42 4 = some 4 := by kernel_rfl
@[go_sem] theorem tplaces_42_5 : tplaces Try.prog 42 5 = some (5, 1) := by kernel_rfl
@[go_sem] theorem tfo_42_5 : tfo Try.prog 42 5 = some 5 := by kernel_rfl
@[go_sem] theorem tsz_43 : tsz Try.prog 43 = some 1 := by kernel_rfl
@[go_sem] theorem tagg_43 : tagg Try.prog 43 = some false := by kernel_rfl
@[go_sem] theorem tzero_43 : tzero Try.prog 43 = some [Value.slice Option.none 0 0] := by kernel_rfl
@[go_sem] theorem tse_43 : tse Try.prog 43 = some 1 := by kernel_rfl
@[go_sem] theorem tlit_43 : tlit Try.prog 43 = some ([Value.int IntKind.i64 0], 1) := by kernel_rfl
@[go_sem] theorem tapp_43 : tapp Try.prog 43 = some (1, 8) := by kernel_rfl
@[go_sem] theorem tslice_43 : tslice Try.prog 43 = some 2 := by kernel_rfl
@[go_sem] theorem und_43 : (Try.prog.underlying 43).isSome = true := by kernel_rfl
@[go_sem] theorem tsz_44 : tsz Try.prog 44 = some 1 := by kernel_rfl
@[go_sem] theorem tagg_44 : tagg Try.prog 44 = some false := by kernel_rfl
@[go_sem] theorem und_44 : (Try.prog.underlying 44).isSome = true := by kernel_rfl
@[go_sem] theorem tsz_45 : tsz Try.prog 45 = some 1 := by kernel_rfl
@[go_sem] theorem tagg_45 : tagg Try.prog 45 = some false := by kernel_rfl
@[go_sem] theorem und_45 : (Try.prog.underlying 45).isSome = true := by kernel_rfl
@[go_sem] theorem tsz_46 : tsz Try.prog 46 = some 4 := by kernel_rfl
@[go_sem] theorem tagg_46 : tagg Try.prog 46 = some true := by kernel_rfl
@[go_sem] theorem tzero_46 : tzero Try.prog 46 = some [Value.int IntKind.i64 0, Value.int IntKind.i64 0, Value.int IntKind.i64 0, Value.int IntKind.i64 0] := by kernel_rfl
@[go_sem] theorem tlay_46 : tlay Try.prog 46 = some (Lay.str [Value.int IntKind.i64 0, Value.int IntKind.i64 0, Value.int IntKind.i64 0, Value.int IntKind.i64 0]) := by kernel_rfl
@[go_sem] theorem teq_46 : teq Try.prog 46 = some [Lf.i, Lf.i, Lf.i, Lf.i] := by kernel_rfl
@[go_sem] theorem und_46 : (Try.prog.underlying 46).isSome = true := by kernel_rfl
@[go_sem] theorem tplaces_46_0 : tplaces Try.prog 46 0 = some (0, 1) := by kernel_rfl
@[go_sem] theorem tfo_46_0 : tfo Try.prog 46 0 = some 0 := by kernel_rfl
@[go_sem] theorem tplaces_46_1 : tplaces Try.prog 46 1 = some (1, 1) := by kernel_rfl
@[go_sem] theorem tfo_46_1 : tfo Try.prog 46 1 = some 1 := by kernel_rfl
@[go_sem] theorem tplaces_46_2 : tplaces Try.prog 46 2 = some (2, 1) := by kernel_rfl
@[go_sem] theorem tfo_46_2 : tfo Try.prog 46 2 = some 2 := by kernel_rfl
@[go_sem] theorem tplaces_46_3 : tplaces Try.prog 46 3 = some (3, 1) := by kernel_rfl
@[go_sem] theorem tfo_46_3 : tfo Try.prog 46 3 = some 3 := by kernel_rfl
@[go_sem] theorem tsz_47 : tsz Try.prog 47 = some 4 := by kernel_rfl
@[go_sem] theorem tagg_47 : tagg Try.prog 47 = some true := by kernel_rfl
@[go_sem] theorem tzero_47 : tzero Try.prog 47 = some [Value.int IntKind.i64 0, Value.int IntKind.i64 0, Value.int IntKind.i64 0, Value.int IntKind.i64 0] := by kernel_rfl
@[go_sem] theorem tlay_47 : tlay Try.prog 47 = some (Lay.str [Value.int IntKind.i64 0, Value.int IntKind.i64 0, Value.int IntKind.i64 0, Value.int IntKind.i64 0]) := by kernel_rfl
@[go_sem] theorem teq_47 : teq Try.prog 47 = some [Lf.i, Lf.i, Lf.i, Lf.i] := by kernel_rfl
@[go_sem] theorem und_47 : (Try.prog.underlying 47).isSome = true := by kernel_rfl
@[go_sem] theorem tplaces_47_0 : tplaces Try.prog 47 0 = some (0, 1) := by kernel_rfl
@[go_sem] theorem tfo_47_0 : tfo Try.prog 47 0 = some 0 := by kernel_rfl
@[go_sem] theorem tplaces_47_1 : tplaces Try.prog 47 1 = some (1, 1) := by kernel_rfl
@[go_sem] theorem tfo_47_1 : tfo Try.prog 47 1 = some 1 := by kernel_rfl
@[go_sem] theorem tplaces_47_2 : tplaces Try.prog 47 2 = some (2, 1) := by kernel_rfl
@[go_sem] theorem tfo_47_2 : tfo Try.prog 47 2 = some 2 := by kernel_rfl
@[go_sem] theorem tplaces_47_3 : tplaces Try.prog 47 3 = some (3, 1) := by kernel_rfl
@[go_sem] theorem tfo_47_3 : tfo Try.prog 47 3 = some 3 := by kernel_rfl
@[go_sem] theorem tsz_48 : tsz Try.prog 48 = some 1 := by kernel_rfl
@[go_sem] theorem tagg_48 : tagg Try.prog 48 = some false := by kernel_rfl
@[go_sem] theorem und_48 : (Try.prog.underlying 48).isSome = true := by kernel_rfl
@[go_sem] theorem tsz_49 : tsz Try.prog 49 = some 25 := by kernel_rfl
@[go_sem] theorem tagg_49 : tagg Try.prog 49 = some true := by kernel_rfl
@[go_sem] theorem tzero_49 : tzero Try.prog 49 = some [Value.int IntKind.i64 0, Value.int IntKind.i64 0, Value.int IntKind.i64 0, Value.int IntKind.i64 0, Value.int IntKind.i64 0, Value.int IntKind.i64 0, Value.int IntKind.i64 0, Value.int IntKind.i64 0, Value.int IntKind.i64 0, Value.int IntKind.i64 0, Value.int IntKind.i64 0, Value.int IntKind.i64 0, Value.int IntKind.i64 0, Value.int IntKind.i64 0, Value.int IntKind.i64 0, Value.int IntKind.i64 0, Value.int IntKind.i64 0, Value.int IntKind.i64 0, Value.int IntKind.i64 0, Value.int IntKind.i64 0, Value.int IntKind.i64 0, Value.int IntKind.i64 0, Value.int IntKind.i64 0, Value.int IntKind.i64 0, Value.int IntKind.i64 0] := by kernel_rfl
@[go_sem] theorem tae_49 : tae Try.prog 49 = some (25, 1) := by kernel_rfl
@[go_sem] theorem tlay_49 : tlay Try.prog 49 = some (Lay.arr [Value.int IntKind.i64 0, Value.int IntKind.i64 0, Value.int IntKind.i64 0, Value.int IntKind.i64 0, Value.int IntKind.i64 0, Value.int IntKind.i64 0, Value.int IntKind.i64 0, Value.int IntKind.i64 0, Value.int IntKind.i64 0, Value.int IntKind.i64 0, Value.int IntKind.i64 0, Value.int IntKind.i64 0, Value.int IntKind.i64 0, Value.int IntKind.i64 0, Value.int IntKind.i64 0, Value.int IntKind.i64 0, Value.int IntKind.i64 0, Value.int IntKind.i64 0, Value.int IntKind.i64 0, Value.int IntKind.i64 0, Value.int IntKind.i64 0, Value.int IntKind.i64 0, Value.int IntKind.i64 0, Value.int IntKind.i64 0, Value.int IntKind.i64 0] 1) := by kernel_rfl
@[go_sem] theorem teq_49 : teq Try.prog 49 = some [Lf.i, Lf.i, Lf.i, Lf.i, Lf.i, Lf.i, Lf.i, Lf.i, Lf.i, Lf.i, Lf.i, Lf.i, Lf.i, Lf.i, Lf.i, Lf.i, Lf.i, Lf.i, Lf.i, Lf.i, Lf.i, Lf.i, Lf.i, Lf.i, Lf.i] := by kernel_rfl
@[go_sem] theorem tarr_49 : tarr Try.prog 49 = some (25, 3) := by kernel_rfl
@[go_sem] theorem und_49 : (Try.prog.underlying 49).isSome = true := by kernel_rfl
@[go_sem] theorem tsz_50 : tsz Try.prog 50 = some 1 := by kernel_rfl
@[go_sem] theorem tagg_50 : tagg Try.prog 50 = some false := by kernel_rfl
@[go_sem] theorem tzero_50 : tzero Try.prog 50 = some [Value.slice Option.none 0 0] := by kernel_rfl
@[go_sem] theorem tse_50 : tse Try.prog 50 = some 2 := by kernel_rfl
@[go_sem] theorem tlit_50 : tlit Try.prog 50 = some ([Value.int IntKind.i64 0, Value.int IntKind.i64 0], 2) := by kernel_rfl
@[go_sem] theorem tapp_50 : tapp Try.prog 50 = some (2, 16) := by kernel_rfl
@[go_sem] theorem tslice_50 : tslice Try.prog 50 = some 52 := by kernel_rfl
@[go_sem] theorem und_50 : (Try.prog.underlying 50).isSome = true := by kernel_rfl
@[go_sem] theorem tsz_51 : tsz Try.prog 51 = some 1 := by kernel_rfl
@[go_sem] theorem tagg_51 : tagg Try.prog 51 = some false := by kernel_rfl
@[go_sem] theorem und_51 : (Try.prog.underlying 51).isSome = true := by kernel_rfl
@[go_sem] theorem tsz_52 : tsz Try.prog 52 = some 2 := by kernel_rfl
@[go_sem] theorem tagg_52 : tagg Try.prog 52 = some true := by kernel_rfl
@[go_sem] theorem tzero_52 : tzero Try.prog 52 = some [Value.int IntKind.i64 0, Value.int IntKind.i64 0] := by kernel_rfl
@[go_sem] theorem tae_52 : tae Try.prog 52 = some (2, 1) := by kernel_rfl
@[go_sem] theorem tlay_52 : tlay Try.prog 52 = some (Lay.arr [Value.int IntKind.i64 0, Value.int IntKind.i64 0] 1) := by kernel_rfl
@[go_sem] theorem teq_52 : teq Try.prog 52 = some [Lf.i, Lf.i] := by kernel_rfl
@[go_sem] theorem tarr_52 : tarr Try.prog 52 = some (2, 3) := by kernel_rfl
@[go_sem] theorem und_52 : (Try.prog.underlying 52).isSome = true := by kernel_rfl
@[go_sem] theorem tsz_53 : tsz Try.prog 53 = some 1 := by kernel_rfl
@[go_sem] theorem tagg_53 : tagg Try.prog 53 = some false := by kernel_rfl
@[go_sem] theorem und_53 : (Try.prog.underlying 53).isSome = true := by kernel_rfl
@[go_sem] theorem tsz_54 : tsz Try.prog 54 = some 1 := by kernel_rfl
@[go_sem] theorem tagg_54 : tagg Try.prog 54 = some false := by kernel_rfl
@[go_sem] theorem und_54 : (Try.prog.underlying 54).isSome = true := by kernel_rfl
@[go_sem] theorem tsz_55 : tsz Try.prog 55 = some 1 := by kernel_rfl
@[go_sem] theorem tagg_55 : tagg Try.prog 55 = some false := by kernel_rfl
@[go_sem] theorem tzero_55 : tzero Try.prog 55 = some [Value.slice Option.none 0 0] := by kernel_rfl
@[go_sem] theorem tse_55 : tse Try.prog 55 = some 2 := by kernel_rfl
@[go_sem] theorem tlit_55 : tlit Try.prog 55 = some ([Value.bool false, Value.slice Option.none 0 0], 2) := by kernel_rfl
@[go_sem] theorem tapp_55 : tapp Try.prog 55 = some (2, 32) := by kernel_rfl
@[go_sem] theorem tslice_55 : tslice Try.prog 55 = some 37 := by kernel_rfl
@[go_sem] theorem und_55 : (Try.prog.underlying 55).isSome = true := by kernel_rfl
@[go_sem] theorem tsz_56 : tsz Try.prog 56 = some 1 := by kernel_rfl
@[go_sem] theorem tagg_56 : tagg Try.prog 56 = some false := by kernel_rfl
@[go_sem] theorem und_56 : (Try.prog.underlying 56).isSome = true := by kernel_rfl
@[go_sem] theorem tsz_57 : tsz Try.prog 57 = some 1 := by kernel_rfl
@[go_sem] theorem tagg_57 : tagg Try.prog 57 = some false := by kernel_rfl
@[go_sem] theorem und_57 : (Try.prog.underlying 57).isSome = true := by kernel_rfl
@[go_sem] theorem tsz_58 : tsz Try.prog 58 = some 1 := by kernel_rfl
@[go_sem] theorem tagg_58 : tagg Try.prog 58 = some false := by kernel_rfl
@[go_sem] theorem und_58 : (Try.prog.underlying 58).isSome = true := by kernel_rfl
@[go_sem] theorem tsz_59 : tsz Try.prog 59 = some 1 := by kernel_rfl
@[go_sem] theorem tagg_59 : tagg Try.prog 59 = some false := by kernel_rfl
@[go_sem] theorem und_59 : (Try.prog.underlying 59).isSome = true := by kernel_rfl
@[go_sem] theorem tsz_60 : tsz Try.prog 60 = some 1 := by kernel_rfl
@[go_sem] theorem tagg_60 : tagg Try.prog 60 = some false := by kernel_rfl
@[go_sem] theorem und_60 : (Try.prog.underlying 60).isSome = true := by kernel_rfl
@[go_sem] theorem tsz_61 : tsz Try.prog 61 = some 1 := by kernel_rfl
@[go_sem] theorem tagg_61 : tagg Try.prog 61 = some false := by kernel_rfl
@[go_sem] theorem und_61 : (Try.prog.underlying 61).isSome = true := by kernel_rfl
@[go_sem] theorem tsz_62 : tsz Try.prog 62 = some 1 := by kernel_rfl
@[go_sem] theorem tagg_62 : tagg Try.prog 62 = some false := by kernel_rfl
@[go_sem] theorem und_62 : (Try.prog.underlying 62).isSome = true := by kernel_rfl
@[go_sem] theorem tsz_63 : tsz Try.prog 63 = some 1 := by kernel_rfl
@[go_sem] theorem tagg_63 : tagg Try.prog 63 = some false := by kernel_rfl
@[go_sem] theorem tzero_63 : tzero Try.prog 63 = some [Value.int IntKind.u64 0] := by kernel_rfl
@[go_sem] theorem tkind_63 : tkind Try.prog 63 = some IntKind.u64 := by kernel_rfl
@[go_sem] theorem und_63 : (Try.prog.underlying 63).isSome = true := by kernel_rfl
@[go_sem] theorem tsz_64 : tsz Try.prog 64 = some 1 := by kernel_rfl
@[go_sem] theorem tagg_64 : tagg Try.prog 64 = some false := by kernel_rfl
@[go_sem] theorem und_64 : (Try.prog.underlying 64).isSome = true := by kernel_rfl
@[go_sem] theorem tsz_65 : tsz Try.prog 65 = some 1 := by kernel_rfl
@[go_sem] theorem tagg_65 : tagg Try.prog 65 = some false := by kernel_rfl
@[go_sem] theorem und_65 : (Try.prog.underlying 65).isSome = true := by kernel_rfl
@[go_sem] theorem tsz_66 : tsz Try.prog 66 = some 1 := by kernel_rfl
@[go_sem] theorem tagg_66 : tagg Try.prog 66 = some false := by kernel_rfl
@[go_sem] theorem und_66 : (Try.prog.underlying 66).isSome = true := by kernel_rfl
@[go_sem] theorem tsz_67 : tsz Try.prog 67 = some 1 := by kernel_rfl
@[go_sem] theorem tagg_67 : tagg Try.prog 67 = some false := by kernel_rfl
@[go_sem] theorem und_67 : (Try.prog.underlying 67).isSome = true := by kernel_rfl
@[go_sem] theorem tsz_68 : tsz Try.prog 68 = some 1 := by kernel_rfl
@[go_sem] theorem tagg_68 : tagg Try.prog 68 = some false := by kernel_rfl
@[go_sem] theorem und_68 : (Try.prog.underlying 68).isSome = true := by kernel_rfl
@[go_sem] theorem tsz_69 : tsz Try.prog 69 = some 1 := by kernel_rfl
@[go_sem] theorem tagg_69 : tagg Try.prog 69 = some false := by kernel_rfl
@[go_sem] theorem und_69 : (Try.prog.underlying 69).isSome = true := by kernel_rfl
@[go_sem] theorem tsz_70 : tsz Try.prog 70 = some 1 := by kernel_rfl
@[go_sem] theorem tagg_70 : tagg Try.prog 70 = some false := by kernel_rfl
@[go_sem] theorem und_70 : (Try.prog.underlying 70).isSome = true := by kernel_rfl
@[go_sem] theorem tsz_71 : tsz Try.prog 71 = some 1 := by kernel_rfl
@[go_sem] theorem tagg_71 : tagg Try.prog 71 = some false := by kernel_rfl
@[go_sem] theorem und_71 : (Try.prog.underlying 71).isSome = true := by kernel_rfl
@[go_sem] theorem tsz_72 : tsz Try.prog 72 = some 1 := by kernel_rfl
@[go_sem] theorem tagg_72 : tagg Try.prog 72 = some false := by kernel_rfl
@[go_sem] theorem und_72 : (Try.prog.underlying 72).isSome = true := by kernel_rfl
@[go_sem] theorem tsz_73 : tsz Try.prog 73 = some 1 := by kernel_rfl
@[go_sem] theorem tagg_73 : tagg Try.prog 73 = some false := by kernel_rfl
@[go_sem] theorem und_73 : (Try.prog.underlying 73).isSome = true := by kernel_rfl
@[go_sem] theorem tsz_74 : tsz Try.prog 74 = some 1 := by kernel_rfl
@[go_sem] theorem tagg_74 : tagg Try.prog 74 = some false := by kernel_rfl
@[go_sem] theorem und_74 : (Try.prog.underlying 74).isSome = true := by kernel_rfl
@[go_sem] theorem tsz_75 : tsz Try.prog 75 = some 1 := by kernel_rfl
@[go_sem] theorem tagg_75 : tagg Try.prog 75 = some false := by kernel_rfl
@[go_sem] theorem und_75 : (Try.prog.underlying 75).isSome = true := by kernel_rfl
@[go_sem] theorem tsz_76 : tsz Try.prog 76 = some 1 := by kernel_rfl
@[go_sem] theorem tagg_76 : tagg Try.prog 76 = some false := by kernel_rfl
@[go_sem] theorem und_76 : (Try.prog.underlying 76).isSome = true := by kernel_rfl
@[go_sem] theorem tsz_77 : tsz Try.prog 77 = some 1 := by kernel_rfl
@[go_sem] theorem tagg_77 : tagg Try.prog 77 = some false := by kernel_rfl
@[go_sem] theorem und_77 : (Try.prog.underlying 77).isSome = true := by kernel_rfl
@[go_sem] theorem tsz_78 : tsz Try.prog 78 = some 1 := by kernel_rfl
@[go_sem] theorem tagg_78 : tagg Try.prog 78 = some false := by kernel_rfl
@[go_sem] theorem und_78 : (Try.prog.underlying 78).isSome = true := by kernel_rfl
@[go_sem] theorem tsz_79 : tsz Try.prog 79 = some 1 := by kernel_rfl
@[go_sem] theorem tagg_79 : tagg Try.prog 79 = some false := by kernel_rfl
@[go_sem] theorem und_79 : (Try.prog.underlying 79).isSome = true := by kernel_rfl
@[go_sem] theorem tsz_80 : tsz Try.prog 80 = some 1 := by kernel_rfl
@[go_sem] theorem tagg_80 : tagg Try.prog 80 = some false := by kernel_rfl
@[go_sem] theorem und_80 : (Try.prog.underlying 80).isSome = true := by kernel_rfl
@[go_sem] theorem tsz_81 : tsz Try.prog 81 = some 1 := by kernel_rfl
@[go_sem] theorem tagg_81 : tagg Try.prog 81 = some false := by kernel_rfl
@[go_sem] theorem und_81 : (Try.prog.underlying 81).isSome = true := by kernel_rfl
@[go_sem] theorem tsz_82 : tsz Try.prog 82 = some 1 := by kernel_rfl
@[go_sem] theorem tagg_82 : tagg Try.prog 82 = some false := by kernel_rfl
@[go_sem] theorem tzero_82 : tzero Try.prog 82 = some [Value.slice Option.none 0 0] := by kernel_rfl
@[go_sem] theorem tse_82 : tse Try.prog 82 = some 4 := by kernel_rfl
@[go_sem] theorem tlit_82 : tlit Try.prog 82 = some ([Value.int IntKind.i64 0, Value.int IntKind.i64 0, Value.int IntKind.i64 0, Value.int IntKind.i64 0], 4) := by kernel_rfl
@[go_sem] theorem tapp_82 : tapp Try.prog 82 = some (4, 32) := by kernel_rfl
@[go_sem] theorem tslice_82 : tslice Try.prog 82 = some 47 := by kernel_rfl
@[go_sem] theorem und_82 : (Try.prog.underlying 82).isSome = true := by kernel_rfl
@[go_sem] theorem tsz_83 : tsz Try.prog 83 = some 2 := by kernel_rfl
@[go_sem] theorem tagg_83 : tagg Try.prog 83 = some true := by kernel_rfl
@[go_sem] theorem tzero_83 : tzero Try.prog 83 = some [Value.slice Option.none 0 0, Value.slice Option.none 0 0] := by kernel_rfl
@[go_sem] theorem tlay_83 : tlay Try.prog 83 = some (Lay.str [Value.slice Option.none 0 0, Value.slice Option.none 0 0]) := by kernel_rfl
@[go_sem] theorem und_83 : (Try.prog.underlying 83).isSome = true := by kernel_rfl
@[go_sem] theorem tplaces_83_0 : tplaces Try.prog 83 0 = some (0, 1) := by kernel_rfl
@[go_sem] theorem tfo_83_0 : tfo Try.prog 83 0 = some 0 := by kernel_rfl
@[go_sem] theorem tplaces_83_1 : tplaces Try.prog 83 1 = some (1, 1) := by kernel_rfl
@[go_sem] theorem tfo_83_1 : tfo Try.prog 83 1 = some 1 := by kernel_rfl
@[go_sem] theorem tsz_84 : tsz Try.prog 84 = some 2 := by kernel_rfl
@[go_sem] theorem tagg_84 : tagg Try.prog 84 = some true := by kernel_rfl
@[go_sem] theorem tzero_84 : tzero Try.prog 84 = some [Value.slice Option.none 0 0, Value.slice Option.none 0 0] := by kernel_rfl
@[go_sem] theorem tlay_84 : tlay Try.prog 84 = some (Lay.str [Value.slice Option.none 0 0, Value.slice Option.none 0 0]) := by kernel_rfl
@[go_sem] theorem und_84 : (Try.prog.underlying 84).isSome = true := by kernel_rfl
@[go_sem] theorem tplaces_84_0 : tplaces Try.prog 84 0 = some (0, 1) := by kernel_rfl
@[go_sem] theorem tfo_84_0 : tfo Try.prog 84 0 = some 0 := by kernel_rfl
@[go_sem] theorem tplaces_84_1 : tplaces Try.prog 84 1 = some (1, 1) := by kernel_rfl
@[go_sem] theorem tfo_84_1 : tfo Try.prog 84 1 = some 1 := by kernel_rfl
@[go_sem] theorem tsz_85 : tsz Try.prog 85 = some 1 := by kernel_rfl
@[go_sem] theorem tagg_85 : tagg Try.prog 85 = some false := by kernel_rfl
@[go_sem] theorem und_85 : (Try.prog.underlying 85).isSome = true := by kernel_rfl
@[go_sem] theorem tsz_86 : tsz Try.prog 86 = some 1 := by kernel_rfl
@[go_sem] theorem tagg_86 : tagg Try.prog 86 = some false := by kernel_rfl
@[go_sem] theorem und_86 : (Try.prog.underlying 86).isSome = true := by kernel_rfl
@[go_sem] theorem tsz_87 : tsz Try.prog 87 = some 1 := by kernel_rfl
@[go_sem] theorem tagg_87 : tagg Try.prog 87 = some false := by kernel_rfl
@[go_sem] theorem und_87 : (Try.prog.underlying 87).isSome = true := by kernel_rfl
@[go_sem] theorem tsz_88 : tsz Try.prog 88 = some 1 := by kernel_rfl
@[go_sem] theorem tagg_88 : tagg Try.prog 88 = some false := by kernel_rfl
@[go_sem] theorem und_88 : (Try.prog.underlying 88).isSome = true := by kernel_rfl
@[go_sem] theorem tsz_89 : tsz Try.prog 89 = some 1 := by kernel_rfl
@[go_sem] theorem tagg_89 : tagg Try.prog 89 = some false := by kernel_rfl
@[go_sem] theorem und_89 : (Try.prog.underlying 89).isSome = true := by kernel_rfl
@[go_sem] theorem tsz_90 : tsz Try.prog 90 = some 1 := by kernel_rfl
@[go_sem] theorem tagg_90 : tagg Try.prog 90 = some false := by kernel_rfl
@[go_sem] theorem und_90 : (Try.prog.underlying 90).isSome = true := by kernel_rfl
@[go_sem] theorem tsz_91 : tsz Try.prog 91 = some 1 := by kernel_rfl
@[go_sem] theorem tagg_91 : tagg Try.prog 91 = some false := by kernel_rfl
@[go_sem] theorem und_91 : (Try.prog.underlying 91).isSome = true := by kernel_rfl
@[go_sem] theorem tsz_92 : tsz Try.prog 92 = some 1 := by kernel_rfl
@[go_sem] theorem tagg_92 : tagg Try.prog 92 = some false := by kernel_rfl
@[go_sem] theorem und_92 : (Try.prog.underlying 92).isSome = true := by kernel_rfl
@[go_sem] theorem tsz_93 : tsz Try.prog 93 = some 1 := by kernel_rfl
@[go_sem] theorem tagg_93 : tagg Try.prog 93 = some false := by kernel_rfl
@[go_sem] theorem und_93 : (Try.prog.underlying 93).isSome = true := by kernel_rfl
@[go_sem] theorem tsz_94 : tsz Try.prog 94 = some 1 := by kernel_rfl
@[go_sem] theorem tagg_94 : tagg Try.prog 94 = some false := by kernel_rfl
@[go_sem] theorem und_94 : (Try.prog.underlying 94).isSome = true := by kernel_rfl
@[go_sem] theorem tsz_95 : tsz Try.prog 95 = some 1 := by kernel_rfl
@[go_sem] theorem tagg_95 : tagg Try.prog 95 = some false := by kernel_rfl
@[go_sem] theorem und_95 : (Try.prog.underlying 95).isSome = true := by kernel_rfl
@[go_sem] theorem tsz_96 : tsz Try.prog 96 = some 1 := by kernel_rfl
@[go_sem] theorem tagg_96 : tagg Try.prog 96 = some false := by kernel_rfl
@[go_sem] theorem und_96 : (Try.prog.underlying 96).isSome = true := by kernel_rfl
@[go_sem] theorem tsz_97 : tsz Try.prog 97 = some 1 := by kernel_rfl
@[go_sem] theorem tagg_97 : tagg Try.prog 97 = some false := by kernel_rfl
@[go_sem] theorem tzero_97 : tzero Try.prog 97 = some [Value.slice Option.none 0 0] := by kernel_rfl
@[go_sem] theorem tse_97 : tse Try.prog 97 = some 8 := by kernel_rfl
@[go_sem] theorem tlit_97 : tlit Try.prog 97 = some ([Value.int IntKind.i64 0, Value.int IntKind.i64 0, Value.int IntKind.i64 0, Value.int IntKind.i64 0, Value.int IntKind.i64 0, Value.int IntKind.i64 0, Value.int IntKind.i64 0, Value.int IntKind.i64 0], 8) := by kernel_rfl
@[go_sem] theorem tapp_97 : tapp Try.prog 97 = some (8, 64) := by kernel_rfl
@[go_sem] theorem tslice_97 : tslice Try.prog 97 = some 100 := by kernel_rfl
@[go_sem] theorem und_97 : (Try.prog.underlying 97).isSome = true := by kernel_rfl
@[go_sem] theorem tsz_98 : tsz Try.prog 98 = some 1 := by kernel_rfl
@[go_sem] theorem tagg_98 : tagg Try.prog 98 = some false := by kernel_rfl
@[go_sem] theorem und_98 : (Try.prog.underlying 98).isSome = true := by kernel_rfl
@[go_sem] theorem tsz_99 : tsz Try.prog 99 = some 8 := by kernel_rfl
@[go_sem] theorem tagg_99 : tagg Try.prog 99 = some true := by kernel_rfl
@[go_sem] theorem tzero_99 : tzero Try.prog 99 = some [Value.int IntKind.i64 0, Value.int IntKind.i64 0, Value.int IntKind.i64 0, Value.int IntKind.i64 0, Value.int IntKind.i64 0, Value.int IntKind.i64 0, Value.int IntKind.i64 0, Value.int IntKind.i64 0] := by kernel_rfl
@[go_sem] theorem tlay_99 : tlay Try.prog 99 = some (Lay.str [Value.int IntKind.i64 0, Value.int IntKind.i64 0, Value.int IntKind.i64 0, Value.int IntKind.i64 0, Value.int IntKind.i64 0, Value.int IntKind.i64 0, Value.int IntKind.i64 0, Value.int IntKind.i64 0]) := by kernel_rfl
@[go_sem] theorem teq_99 : teq Try.prog 99 = some [Lf.i, Lf.i, Lf.i, Lf.i, Lf.i, Lf.i, Lf.i, Lf.i] := by kernel_rfl
@[go_sem] theorem und_99 : (Try.prog.underlying 99).isSome = true := by kernel_rfl
@[go_sem] theorem tplaces_99_0 : tplaces Try.prog 99 0 = some (0, 2) := by kernel_rfl
@[go_sem] theorem tfo_99_0 : tfo Try.prog 99 0 = some 0 := by kernel_rfl
@[go_sem] theorem tplaces_99_1 : tplaces Try.prog 99 1 = some (2, 2) := by kernel_rfl
@[go_sem] theorem tfo_99_1 : tfo Try.prog 99 1 = some 2 := by kernel_rfl
@[go_sem] theorem tplaces_99_2 : tplaces Try.prog 99 2 = some (4, 2) := by kernel_rfl
@[go_sem] theorem tfo_99_2 : tfo Try.prog 99 2 = some 4 := by kernel_rfl
@[go_sem] theorem tplaces_99_3 : tplaces Try.prog 99 3 = some (6, 2) := by kernel_rfl
@[go_sem] theorem tfo_99_3 : tfo Try.prog 99 3 = some 6 := by kernel_rfl
@[go_sem] theorem tsz_100 : tsz Try.prog 100 = some 8 := by kernel_rfl
@[go_sem] theorem tagg_100 : tagg Try.prog 100 = some true := by kernel_rfl
@[go_sem] theorem tzero_100 : tzero Try.prog 100 = some [Value.int IntKind.i64 0, Value.int IntKind.i64 0, Value.int IntKind.i64 0, Value.int IntKind.i64 0, Value.int IntKind.i64 0, Value.int IntKind.i64 0, Value.int IntKind.i64 0, Value.int IntKind.i64 0] := by kernel_rfl
@[go_sem] theorem tlay_100 : tlay Try.prog 100 = some (Lay.str [Value.int IntKind.i64 0, Value.int IntKind.i64 0, Value.int IntKind.i64 0, Value.int IntKind.i64 0, Value.int IntKind.i64 0, Value.int IntKind.i64 0, Value.int IntKind.i64 0, Value.int IntKind.i64 0]) := by kernel_rfl
@[go_sem] theorem teq_100 : teq Try.prog 100 = some [Lf.i, Lf.i, Lf.i, Lf.i, Lf.i, Lf.i, Lf.i, Lf.i] := by kernel_rfl
@[go_sem] theorem und_100 : (Try.prog.underlying 100).isSome = true := by kernel_rfl
@[go_sem] theorem tplaces_100_0 : tplaces Try.prog 100 0 = some (0, 2) := by kernel_rfl
@[go_sem] theorem tfo_100_0 : tfo Try.prog 100 0 = some 0 := by kernel_rfl
@[go_sem] theorem tplaces_100_1 : tplaces Try.prog 100 1 = some (2, 2) := by kernel_rfl
@[go_sem] theorem tfo_100_1 : tfo Try.prog 100 1 = some 2 := by kernel_rfl
@[go_sem] theorem tplaces_100_2 : tplaces Try.prog 100 2 = some (4, 2) := by kernel_rfl
@[go_sem] theorem tfo_100_2 : tfo Try.prog 100 2 = some 4 := by kernel_rfl
@[go_sem] theorem tplaces_100_3 : tplaces Try.prog 100 3 = some (6, 2) := by kernel_rfl
@[go_sem] theorem tfo_100_3 : tfo Try.prog 100 3 = some 6 := by kernel_rfl
@[go_sem] theorem tsz_101 : tsz Try.prog 101 = some 1 := by kernel_rfl
@[go_sem] theorem tagg_101 : tagg Try.prog 101 = some false := by kernel_rfl
@[go_sem] theorem und_101 : (Try.prog.underlying 101).isSome = true := by kernel_rfl
@[go_sem] theorem tsz_102 : tsz Try.prog 102 = some 1 := by kernel_rfl
@[go_sem] theorem tagg_102 : tagg Try.prog 102 = some false := by kernel_rfl
@[go_sem] theorem und_102 : (Try.prog.underlying 102).isSome = true := by kernel_rfl
@[go_sem] theorem tsz_103 : tsz Try.prog 103 = some 1 := by kernel_rfl
@[go_sem] theorem tagg_103 : tagg Try.prog 103 = some false := by kernel_rfl
@[go_sem] theorem und_103 : (Try.prog.underlying 103).isSome = true := by kernel_rfl
@[go_sem] theorem tsz_104 : tsz Try.prog 104 = some 1 := by kernel_rfl
@[go_sem] theorem tagg_104 : tagg Try.prog 104 = some false := by kernel_rfl
@[go_sem] theorem und_104 : (Try.prog.underlying 104).isSome = true := by kernel_rfl
@[go_sem] theorem tsz_105 : tsz Try.prog 105 = some 1 := by kernel_rfl
@[go_sem] theorem tagg_105 : tagg Try.prog 105 = some false := by kernel_rfl
@[go_sem] theorem und_105 : (Try.prog.underlying 105).isSome = true := by kernel_rfl
@[go_sem] theorem tsz_106 : tsz Try.prog 106 = some 1 := by kernel_rfl
@[go_sem] theorem tagg_106 : tagg Try.prog 106 = some false := by kernel_rfl
@[go_sem] theorem und_106 : (Try.prog.underlying 106).isSome = true := by kernel_rfl
@[go_sem] theorem tsz_107 : tsz Try.prog 107 = some 1 := by kernel_rfl
@[go_sem] theorem tagg_107 : tagg Try.prog 107 = some false := by kernel_rfl
@[go_sem] theorem und_107 : (Try.prog.underlying 107).isSome = true := by kernel_rfl
@[go_sem] theorem tsz_108 : tsz Try.prog 108 = some 1 := by kernel_rfl
@[go_sem] theorem tagg_108 : tagg Try.prog 108 = some false := by kernel_rfl
@[go_sem] theorem und_108 : (Try.prog.underlying 108).isSome = true := by kernel_rfl
@[go_sem] theorem tsz_109 : tsz Try.prog 109 = some 1 := by kernel_rfl
@[go_sem] theorem tagg_109 : tagg Try.prog 109 = some false := by kernel_rfl
@[go_sem] theorem und_109 : (Try.prog.underlying 109).isSome = true := by kernel_rfl
@[go_sem] theorem tsz_110 : tsz Try.prog 110 = some 1 := by kernel_rfl
@[go_sem] theorem tagg_110 : tagg Try.prog 110 = some false := by kernel_rfl
@[go_sem] theorem und_110 : (Try.prog.underlying 110).isSome = true := by kernel_rfl
@[go_sem] theorem tsz_111 : tsz Try.prog 111 = some 1 := by kernel_rfl
@[go_sem] theorem tagg_111 : tagg Try.prog 111 = some false := by kernel_rfl
@[go_sem] theorem und_111 : (Try.prog.underlying 111).isSome = true := by kernel_rfl
@[go_sem] theorem tsz_112 : tsz Try.prog 112 = some 1 := by kernel_rfl
@[go_sem] theorem tagg_112 : tagg Try.prog 112 = some false := by kernel_rfl
@[go_sem] theorem und_112 : (Try.prog.underlying 112).isSome = true := by kernel_rfl
@[go_sem] theorem tsz_113 : tsz Try.prog 113 = some 1 := by kernel_rfl
@[go_sem] theorem tagg_113 : tagg Try.prog 113 = some false := by kernel_rfl
@[go_sem] theorem tzero_113 : tzero Try.prog 113 = some [Value.int IntKind.u64 0] := by kernel_rfl
@[go_sem] theorem tkind_113 : tkind Try.prog 113 = some IntKind.u64 := by kernel_rfl
@[go_sem] theorem und_113 : (Try.prog.underlying 113).isSome = true := by kernel_rfl
@[go_sem] theorem tsz_114 : tsz Try.prog 114 = some 1 := by kernel_rfl
@[go_sem] theorem tagg_114 : tagg Try.prog 114 = some false := by kernel_rfl
@[go_sem] theorem und_114 : (Try.prog.underlying 114).isSome = true := by kernel_rfl
@[go_sem] theorem tsz_115 : tsz Try.prog 115 = some 1 := by kernel_rfl
@[go_sem] theorem tagg_115 : tagg Try.prog 115 = some false := by kernel_rfl
@[go_sem] theorem und_115 : (Try.prog.underlying 115).isSome = true := by kernel_rfl
@[go_sem] theorem tsz_116 : tsz Try.prog 116 = some 1 := by kernel_rfl
@[go_sem] theorem tagg_116 : tagg Try.prog 116 = some false := by kernel_rfl
@[go_sem] theorem und_116 : (Try.prog.underlying 116).isSome = true := by kernel_rfl
@[go_sem] theorem tsz_117 : tsz Try.prog 117 = some 1 := by kernel_rfl
@[go_sem] theorem tagg_117 : tagg Try.prog 117 = some false := by kernel_rfl
@[go_sem] theorem und_117 : (Try.prog.underlying 117).isSome = true := by kernel_rfl
@[go_sem] theorem tsz_118 : tsz Try.prog 118 = some 1 := by kernel_rfl
@[go_sem] theorem tagg_118 : tagg Try.prog 118 = some false := by kernel_rfl
@[go_sem] theorem und_118 : (Try.prog.underlying 118).isSome = true := by kernel_rfl
@[go_sem] theorem tsz_119 : tsz Try.prog 119 = some 1 := by kernel_rfl
@[go_sem] theorem tagg_119 : tagg Try.prog 119 = some false := by kernel_rfl
@[go_sem] theorem und_119 : (Try.prog.underlying 119).isSome = true := by kernel_rfl
@[go_sem] theorem tsz_120 : tsz Try.prog 120 = some 1 := by kernel_rfl
@[go_sem] theorem tagg_120 : tagg Try.prog 120 = some false := by kernel_rfl
@[go_sem] theorem und_120 : (Try.prog.underlying 120).isSome = true := by kernel_rfl
@[go_sem] theorem tsz_121 : tsz Try.prog 121 = some 1 := by kernel_rfl
@[go_sem] theorem tagg_121 : tagg Try.prog 121 = some false := by kernel_rfl
@[go_sem] theorem und_121 : (Try.prog.underlying 121).isSome = true := by kernel_rfl
@[go_sem] theorem tsz_122 : tsz Try.prog 122 = some 1 := by kernel_rfl
@[go_sem] theorem tagg_122 : tagg Try.prog 122 = some false := by kernel_rfl
@[go_sem] theorem und_122 : (Try.prog.underlying 122).isSome = true := by kernel_rfl
@[go_sem] theorem tsz_123 : tsz Try.prog 123 = some 1 := by kernel_rfl
@[go_sem] theorem tagg_123 : tagg Try.prog 123 = some false := by kernel_rfl
@[go_sem] theorem und_123 : (Try.prog.underlying 123).isSome = true := by kernel_rfl
@[go_sem] theorem tsz_124 : tsz Try.prog 124 = some 1 := by kernel_rfl
@[go_sem] theorem tagg_124 : tagg Try.prog 124 = some false := by kernel_rfl
@[go_sem] theorem tzero_124 : tzero Try.prog 124 = some [Value.nilIface] := by kernel_rfl
@[go_sem] theorem und_124 : (Try.prog.underlying 124).isSome = true := by kernel_rfl
@[go_sem] theorem tsz_125 : tsz Try.prog 125 = some 1 := by kernel_rfl
@[go_sem] theorem tagg_125 : tagg Try.prog 125 = some false := by kernel_rfl
@[go_sem] theorem tzero_125 : tzero Try.prog 125 = some [Value.nilIface] := by kernel_rfl
@[go_sem] theorem und_125 : (Try.prog.underlying 125).isSome = true := by kernel_rfl
@[go_sem] theorem tsz_126 : tsz Try.prog 126 = some 1 := by kernel_rfl
@[go_sem] theorem tagg_126 : tagg Try.prog 126 = some false := by kernel_rfl
@[go_sem] theorem und_126 : (Try.prog.underlying 126).isSome = true := by kernel_rfl
@[go_sem] theorem tsz_127 : tsz Try.prog 127 = some 1 := by kernel_rfl
@[go_sem] theorem tagg_127 : tagg Try.prog 127 = some false := by kernel_rfl
@[go_sem] theorem und_127 : (Try.prog.underlying 127).isSome = true := by kernel_rfl
@[go_sem] theorem tsz_128 : tsz Try.prog 128 = some 4 := by kernel_rfl
@[go_sem] theorem tagg_128 : tagg Try.prog 128 = some true := by kernel_rfl
@[go_sem] theorem tzero_128 : tzero Try.prog 128 = some [Value.pointer Option.none, Value.pointer Option.none, Value.pointer Option.none, Value.string { data := { toList := [] } }] := by kernel_rfl
@[go_sem] theorem tlay_128 : tlay Try.prog 128 = some (Lay.str [Value.pointer Option.none, Value.pointer Option.none, Value.pointer Option.none, Value.string { data := { toList := [] } }]) := by kernel_rfl
@[go_sem] theorem und_128 : (Try.prog.underlying 128).isSome = true := by kernel_rfl
@[go_sem] theorem tplaces_128_0 : tplaces Try.prog 128 0 = some (0, 1) := by kernel_rfl
@[go_sem] theorem tfo_128_0 : tfo Try.prog 128 0 = some 0 := by kernel_rfl
@[go_sem] theorem tplaces_128_1 : tplaces Try.prog 128 1 = some (1, 1) := by kernel_rfl
@[go_sem] theorem tfo_128_1 : tfo Try.prog 128 1 = some 1 := by kernel_rfl
@[go_sem] theorem tplaces_128_2 : tplaces Try.prog 128 2 = some (2, 1) := by kernel_rfl
@[go_sem] theorem tfo_128_2 : tfo Try.prog 128 2 = some 2 := by kernel_rfl
@[go_sem] theorem tplaces_128_3 : tplaces Try.prog 128 3 = some (3, 1) := by kernel_rfl
@[go_sem] theorem tfo_128_3 : tfo Try.prog 128 3 = some 3 := by kernel_rfl
@[go_sem] theorem tsz_129 : tsz Try.prog 129 = some 4 := by kernel_rfl
@[go_sem] theorem tagg_129 : tagg Try.prog 129 = some true := by kernel_rfl
@[go_sem] theorem tzero_129 : tzero Try.prog 129 = some [Value.pointer Option.none, Value.pointer Option.none, Value.pointer Option.none, Value.string { data := { toList := [] } }] := by kernel_rfl
@[go_sem] theorem tlay_129 : tlay Try.prog 129 = some (Lay.str [Value.pointer Option.none, Value.pointer Option.none, Value.pointer Option.none, Value.string { data := { toList := [] } }]) := by kernel_rfl
@[go_sem] theorem und_129 : (Try.prog.underlying 129).isSome = true := by kernel_rfl
@[go_sem] theorem tplaces_129_0 : tplaces Try.prog 129 0 = some (0, 1) := by kernel_rfl
@[go_sem] theorem tfo_129_0 : tfo Try.prog 129 0 = some 0 := by kernel_rfl
@[go_sem] theorem tplaces_129_1 : tplaces Try.prog 129 1 = some (1, 1) := by kernel_rfl
@[go_sem] theorem tfo_129_1 : tfo Try.prog 129 1 = some 1 := by kernel_rfl
@[go_sem] theorem tplaces_129_2 : tplaces Try.prog 129 2 = some (2, 1) := by kernel_rfl
@[go_sem] theorem tfo_129_2 : tfo Try.prog 129 2 = some 2 := by kernel_rfl
@[go_sem] theorem tplaces_129_3 : tplaces Try.prog 129 3 = some (3, 1) := by kernel_rfl
@[go_sem] theorem tfo_129_3 : tfo Try.prog 129 3 = some 3 := by kernel_rfl
@[go_sem] theorem tsz_130 : tsz Try.prog 130 = some 0 := by kernel_rfl
@[go_sem] theorem tagg_130 : tagg Try.prog 130 = some true := by kernel_rfl
@[go_sem] theorem tzero_130 : tzero Try.prog 130 = some [] := by kernel_rfl
@[go_sem] theorem tae_130 : tae Try.prog 130 = some (0, 1) := by kernel_rfl
@[go_sem] theorem tlay_130 : tlay Try.prog 130 = some (Lay.arr [] 1) := by kernel_rfl
@[go_sem] theorem tarr_130 : tarr Try.prog 130 = some (0, 16) := by kernel_rfl
@[go_sem] theorem und_130 : (Try.prog.underlying 130).isSome = true := by kernel_rfl
@[go_sem] theorem tsz_131 : tsz Try.prog 131 = some 0 := by kernel_rfl
@[go_sem] theorem tagg_131 : tagg Try.prog 131 = some true := by kernel_rfl
@[go_sem] theorem tzero_131 : tzero Try.prog 131 = some [] := by kernel_rfl
@[go_sem] theorem tlay_131 : tlay Try.prog 131 = some (Lay.str []) := by kernel_rfl
@[go_sem] theorem und_131 : (Try.prog.underlying 131).isSome = true := by kernel_rfl
@[go_sem] theorem tplaces_131_0 : tplaces Try.prog 131 0 = some (0, 0) := by kernel_rfl
@[go_sem] theorem tsz_132 : tsz Try.prog 132 = some 0 := by kernel_rfl
@[go_sem] theorem tagg_132 : tagg Try.prog 132 = some true := by kernel_rfl
@[go_sem] theorem tzero_132 : tzero Try.prog 132 = some [] := by kernel_rfl
@[go_sem] theorem tlay_132 : tlay Try.prog 132 = some (Lay.str []) := by kernel_rfl
@[go_sem] theorem und_132 : (Try.prog.underlying 132).isSome = true := by kernel_rfl
@[go_sem] theorem tplaces_132_0 : tplaces Try.prog 132 0 = some (0, 0) := by kernel_rfl
@[go_sem] theorem tsz_133 : tsz Try.prog 133 = some 1 := by kernel_rfl
@[go_sem] theorem tagg_133 : tagg Try.prog 133 = some false := by kernel_rfl
@[go_sem] theorem und_133 : (Try.prog.underlying 133).isSome = true := by kernel_rfl
@[go_sem] theorem tsz_134 : tsz Try.prog 134 = some 1 := by kernel_rfl
@[go_sem] theorem tagg_134 : tagg Try.prog 134 = some false := by kernel_rfl
@[go_sem] theorem tzero_134 : tzero Try.prog 134 = some [Value.int IntKind.u32 0] := by kernel_rfl
@[go_sem] theorem tkind_134 : tkind Try.prog 134 = some IntKind.u32 := by kernel_rfl
@[go_sem] theorem und_134 : (Try.prog.underlying 134).isSome = true := by kernel_rfl
@[go_sem] theorem tsz_135 : tsz Try.prog 135 = some 1 := by kernel_rfl
@[go_sem] theorem tagg_135 : tagg Try.prog 135 = some false := by kernel_rfl
@[go_sem] theorem tzero_135 : tzero Try.prog 135 = some [Value.int IntKind.u8 0] := by kernel_rfl
@[go_sem] theorem tkind_135 : tkind Try.prog 135 = some IntKind.u8 := by kernel_rfl
@[go_sem] theorem und_135 : (Try.prog.underlying 135).isSome = true := by kernel_rfl
@[go_sem] theorem tsz_136 : tsz Try.prog 136 = some 1 := by kernel_rfl
@[go_sem] theorem tagg_136 : tagg Try.prog 136 = some false := by kernel_rfl
@[go_sem] theorem tzero_136 : tzero Try.prog 136 = some [Value.int IntKind.u8 0] := by kernel_rfl
@[go_sem] theorem tkind_136 : tkind Try.prog 136 = some IntKind.u8 := by kernel_rfl
@[go_sem] theorem und_136 : (Try.prog.underlying 136).isSome = true := by kernel_rfl
@[go_sem] theorem tsz_137 : tsz Try.prog 137 = some 1 := by kernel_rfl
@[go_sem] theorem tagg_137 : tagg Try.prog 137 = some false := by kernel_rfl
@[go_sem] theorem und_137 : (Try.prog.underlying 137).isSome = true := by kernel_rfl
@[go_sem] theorem tsz_138 : tsz Try.prog 138 = some 1 := by kernel_rfl
@[go_sem] theorem tagg_138 : tagg Try.prog 138 = some false := by kernel_rfl
@[go_sem] theorem tzero_138 : tzero Try.prog 138 = some [Value.pointer Option.none] := by kernel_rfl
@[go_sem] theorem und_138 : (Try.prog.underlying 138).isSome = true := by kernel_rfl
@[go_sem] theorem tsz_139 : tsz Try.prog 139 = some 1 := by kernel_rfl
@[go_sem] theorem tagg_139 : tagg Try.prog 139 = some false := by kernel_rfl
@[go_sem] theorem tzero_139 : tzero Try.prog 139 = some [Value.int IntKind.i32 0] := by kernel_rfl
@[go_sem] theorem tkind_139 : tkind Try.prog 139 = some IntKind.i32 := by kernel_rfl
@[go_sem] theorem und_139 : (Try.prog.underlying 139).isSome = true := by kernel_rfl
@[go_sem] theorem tsz_140 : tsz Try.prog 140 = some 1 := by kernel_rfl
@[go_sem] theorem tagg_140 : tagg Try.prog 140 = some false := by kernel_rfl
@[go_sem] theorem tzero_140 : tzero Try.prog 140 = some [Value.int IntKind.i32 0] := by kernel_rfl
@[go_sem] theorem tkind_140 : tkind Try.prog 140 = some IntKind.i32 := by kernel_rfl
@[go_sem] theorem und_140 : (Try.prog.underlying 140).isSome = true := by kernel_rfl
@[go_sem] theorem tsz_141 : tsz Try.prog 141 = some 11 := by kernel_rfl
@[go_sem] theorem tagg_141 : tagg Try.prog 141 = some true := by kernel_rfl
@[go_sem] theorem und_141 : (Try.prog.underlying 141).isSome = true := by kernel_rfl
@[go_sem] theorem tplaces_141_0 : tplaces Try.prog 141 0 = some (0, 1) := by kernel_rfl
@[go_sem] theorem tfo_141_0 : tfo Try.prog 141 0 = some 0 := by kernel_rfl
@[go_sem] theorem tplaces_141_1 : tplaces Try.prog 141 1 = some (1, 1) := by kernel_rfl
@[go_sem] theorem tfo_141_1 : tfo Try.prog 141 1 = some 1 := by kernel_rfl
@[go_sem] theorem tplaces_141_2 : tplaces Try.prog 141 2 = some (2, 1) := by kernel_rfl
@[go_sem] theorem tfo_141_2 : tfo Try.prog 141 2 = some 2 := by kernel_rfl
@[go_sem] theorem tplaces_141_3 : tplaces Try.prog 141 3 = some (3, 1) := by kernel_rfl
@[go_sem] theorem tfo_141_3 : tfo Try.prog 141 3 = some 3 := by kernel_rfl
@[go_sem] theorem tplaces_141_4 : tplaces Try.prog 141 4 = some (4, 1) := by kernel_rfl
@[go_sem] theorem tfo_141_4 : tfo Try.prog 141 4 = some 4 := by kernel_rfl
@[go_sem] theorem tplaces_141_5 : tplaces Try.prog 141 5 = some (5, 1) := by kernel_rfl
@[go_sem] theorem tfo_141_5 : tfo Try.prog 141 5 = some 5 := by kernel_rfl
@[go_sem] theorem tplaces_141_6 : tplaces Try.prog 141 6 = some (6, 1) := by kernel_rfl
@[go_sem] theorem tfo_141_6 : tfo Try.prog 141 6 = some 6 := by kernel_rfl
@[go_sem] theorem tplaces_141_7 : tplaces Try.prog 141 7 = some (7, 1) := by kernel_rfl
@[go_sem] theorem tfo_141_7 : tfo Try.prog 141 7 = some 7 := by kernel_rfl
@[go_sem] theorem tplaces_141_8 : tplaces Try.prog 141 8 = some (8, 1) := by kernel_rfl
@[go_sem] theorem tfo_141_8 : tfo Try.prog 141 8 = some 8 := by kernel_rfl
@[go_sem] theorem tplaces_141_9 : tplaces Try.prog 141 9 = some (9, 1) := by kernel_rfl
@[go_sem] theorem tfo_141_9 : tfo Try.prog 141 9 = some 9 := by kernel_rfl
@[go_sem] theorem tplaces_141_10 : tplaces Try.prog 141 10 = some (10, 1) := by kernel_rfl
@[go_sem] theorem tfo_141_10 : tfo Try.prog 141 10 = some 10 := by kernel_rfl
@[go_sem] theorem tsz_142 : tsz Try.prog 142 = some 11 := by kernel_rfl
@[go_sem] theorem tagg_142 : tagg Try.prog 142 = some true := by kernel_rfl
@[go_sem] theorem und_142 : (Try.prog.underlying 142).isSome = true := by kernel_rfl
@[go_sem] theorem tplaces_142_0 : tplaces Try.prog 142 0 = some (0, 1) := by kernel_rfl
@[go_sem] theorem tfo_142_0 : tfo Try.prog 142 0 = some 0 := by kernel_rfl
@[go_sem] theorem tplaces_142_1 : tplaces Try.prog 142 1 = some (1, 1) := by kernel_rfl
@[go_sem] theorem tfo_142_1 : tfo Try.prog 142 1 = some 1 := by kernel_rfl
@[go_sem] theorem tplaces_142_2 : tplaces Try.prog 142 2 = some (2, 1) := by kernel_rfl
@[go_sem] theorem tfo_142_2 : tfo Try.prog 142 2 = some 2 := by kernel_rfl
@[go_sem] theorem tplaces_142_3 : tplaces Try.prog 142 3 = some (3, 1) := by kernel_rfl
@[go_sem] theorem tfo_142_3 : tfo Try.prog 142 3 = some 3 := by kernel_rfl
@[go_sem] theorem tplaces_142_4 : tplaces Try.prog 142 4 = some (4, 1) := by kernel_rfl
@[go_sem] theorem tfo_142_4 : tfo Try.prog 142 4 = some 4 := by kernel_rfl
@[go_sem] theorem tplaces_142_5 : tplaces Try.prog 142 5 = some (5, 1) := by kernel_rfl
@[go_sem] theorem tfo_142_5 : tfo Try.prog 142 5 = some 5 := by kernel_rfl
@[go_sem] theorem tplaces_142_6 : tplaces Try.prog 142 6 = some (6, 1) := by kernel_rfl
@[go_sem] theorem tfo_142_6 : tfo Try.prog 142 6 = some 6 := by kernel_rfl
@[go_sem] theorem tplaces_142_7 : tplaces Try.prog 142 7 = some (7, 1) := by kernel_rfl
@[go_sem] theorem tfo_142_7 : tfo Try.prog 142 7 = some 7 := by kernel_rfl
@[go_sem] theorem tplaces_142_8 : tplaces Try.prog 142 8 = some (8, 1) := by kernel_rfl
@[go_sem] theorem tfo_142_8 : tfo Try.prog 142 8 = some 8 := by kernel_rfl
@[go_sem] theorem tplaces_142_9 : tplaces Try.prog 142 9 = some (9, 1) := by kernel_rfl
@[go_sem] theorem tfo_142_9 : tfo Try.prog 142 9 = some 9 := by kernel_rfl
@[go_sem] theorem tplaces_142_10 : tplaces Try.prog 142 10 = some (10, 1) := by kernel_rfl
@[go_sem] theorem tfo_142_10 : tfo Try.prog 142 10 = some 10 := by kernel_rfl
@[go_sem] theorem tsz_143 : tsz Try.prog 143 = some 1 := by kernel_rfl
@[go_sem] theorem tagg_143 : tagg Try.prog 143 = some false := by kernel_rfl
@[go_sem] theorem tzero_143 : tzero Try.prog 143 = some [Value.pointer Option.none] := by kernel_rfl
@[go_sem] theorem und_143 : (Try.prog.underlying 143).isSome = true := by kernel_rfl
end Go.Proofs.Ythoclopeajkcpaa.Facts
