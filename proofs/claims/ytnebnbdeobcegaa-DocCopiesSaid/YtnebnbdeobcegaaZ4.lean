/- Merged texts: Facts Base Bits Q1 Q2 Q3 Q4 Q5. -/
import Derived.Test.YtnebnbdeobcegaaZ3
import Derived.Test.YtnebnbdeobcegaaProg
import Derived.KernelRfl
import Derived.IntWalk
import Derived.Lib.Mul64
/- The types' facts: their sizes and how their parts lie; printed by a program of ours. -/
namespace Go.Proofs.Ytnebnbdeobcegaa.Facts
open Go Go.RowKit E
@[go_sem] theorem tsz_0 : tsz Try.prog 0 = some 1 := by kernel_rfl
@[go_sem] theorem tagg_0 : tagg Try.prog 0 = some false := by kernel_rfl
@[go_sem] theorem und_0 : (Try.prog.underlying 0).isSome = true := by kernel_rfl
@[go_sem] theorem tsz_1 : tsz Try.prog 1 = some 1 := by kernel_rfl
@[go_sem] theorem tagg_1 : tagg Try.prog 1 = some false := by kernel_rfl
@[go_sem] theorem und_1 : (Try.prog.underlying 1).isSome = true := by kernel_rfl
@[go_sem] theorem tsz_2 : tsz Try.prog 2 = some 1 := by kernel_rfl
@[go_sem] theorem tagg_2 : tagg Try.prog 2 = some false := by kernel_rfl
@[go_sem] theorem tzero_2 : tzero Try.prog 2 = some [Value.int IntKind.i64 0] := by kernel_rfl
@[go_sem] theorem tkind_2 : tkind Try.prog 2 = some IntKind.i64 := by kernel_rfl
@[go_sem] theorem und_2 : (Try.prog.underlying 2).isSome = true := by kernel_rfl
@[go_sem] theorem tsz_3 : tsz Try.prog 3 = some 1 := by kernel_rfl
@[go_sem] theorem tagg_3 : tagg Try.prog 3 = some false := by kernel_rfl
@[go_sem] theorem tzero_3 : tzero Try.prog 3 = some [Value.int IntKind.i64 0] := by kernel_rfl
@[go_sem] theorem tkind_3 : tkind Try.prog 3 = some IntKind.i64 := by kernel_rfl
@[go_sem] theorem und_3 : (Try.prog.underlying 3).isSome = true := by kernel_rfl
@[go_sem] theorem tsz_4 : tsz Try.prog 4 = some 1 := by kernel_rfl
@[go_sem] theorem tagg_4 : tagg Try.prog 4 = some false := by kernel_rfl
@[go_sem] theorem tzero_4 : tzero Try.prog 4 = some [Value.bool false] := by kernel_rfl
@[go_sem] theorem tbool_4 : tbool Try.prog 4 = true := by kernel_rfl
@[go_sem] theorem und_4 : (Try.prog.underlying 4).isSome = true := by kernel_rfl
@[go_sem] theorem tsz_5 : tsz Try.prog 5 = some 1 := by kernel_rfl
@[go_sem] theorem tagg_5 : tagg Try.prog 5 = some false := by kernel_rfl
@[go_sem] theorem tzero_5 : tzero Try.prog 5 = some [Value.int IntKind.u8 0] := by kernel_rfl
@[go_sem] theorem tkind_5 : tkind Try.prog 5 = some IntKind.u8 := by kernel_rfl
@[go_sem] theorem und_5 : (Try.prog.underlying 5).isSome = true := by kernel_rfl
@[go_sem] theorem tsz_6 : tsz Try.prog 6 = some 1 := by kernel_rfl
@[go_sem] theorem tagg_6 : tagg Try.prog 6 = some false := by kernel_rfl
@[go_sem] theorem tzero_6 : tzero Try.prog 6 = some [Value.int IntKind.u8 0] := by kernel_rfl
@[go_sem] theorem tkind_6 : tkind Try.prog 6 = some IntKind.u8 := by kernel_rfl
@[go_sem] theorem und_6 : (Try.prog.underlying 6).isSome = true := by kernel_rfl
@[go_sem] theorem tsz_7 : tsz Try.prog 7 = some 4 := by kernel_rfl
@[go_sem] theorem tagg_7 : tagg Try.prog 7 = some true := by kernel_rfl
@[go_sem] theorem tzero_7 : tzero Try.prog 7 = some [Value.int IntKind.i64 0, Value.int IntKind.i64 0, Value.bool false, Value.int IntKind.u8 0] := by kernel_rfl
@[go_sem] theorem tlay_7 : tlay Try.prog 7 = some (Lay.str [Value.int IntKind.i64 0, Value.int IntKind.i64 0, Value.bool false, Value.int IntKind.u8 0]) := by kernel_rfl
@[go_sem] theorem teq_7 : teq Try.prog 7 = some [Lf.i, Lf.i, Lf.b, Lf.i] := by kernel_rfl
@[go_sem] theorem und_7 : (Try.prog.underlying 7).isSome = true := by kernel_rfl
@[go_sem] theorem tplaces_7_0 : tplaces Try.prog 7 0 = some (0, 1) := by kernel_rfl
@[go_sem] theorem tfo_7_0 : tfo Try.prog 7 0 = some 0 := by kernel_rfl
@[go_sem] theorem tplaces_7_1 : tplaces Try.prog 7 1 = some (1, 1) := by kernel_rfl
@[go_sem] theorem tfo_7_1 : tfo Try.prog 7 1 = some 1 := by kernel_rfl
@[go_sem] theorem tplaces_7_2 : tplaces Try.prog 7 2 = some (2, 1) := by kernel_rfl
@[go_sem] theorem tfo_7_2 : tfo Try.prog 7 2 = some 2 := by kernel_rfl
@[go_sem] theorem tplaces_7_3 : tplaces Try.prog 7 3 = some (3, 1) := by kernel_rfl
@[go_sem] theorem tfo_7_3 : tfo Try.prog 7 3 = some 3 := by kernel_rfl
@[go_sem] theorem tsz_8 : tsz Try.prog 8 = some 4 := by kernel_rfl
@[go_sem] theorem tagg_8 : tagg Try.prog 8 = some true := by kernel_rfl
@[go_sem] theorem tzero_8 : tzero Try.prog 8 = some [Value.int IntKind.i64 0, Value.int IntKind.i64 0, Value.bool false, Value.int IntKind.u8 0] := by kernel_rfl
@[go_sem] theorem tlay_8 : tlay Try.prog 8 = some (Lay.str [Value.int IntKind.i64 0, Value.int IntKind.i64 0, Value.bool false, Value.int IntKind.u8 0]) := by kernel_rfl
@[go_sem] theorem teq_8 : teq Try.prog 8 = some [Lf.i, Lf.i, Lf.b, Lf.i] := by kernel_rfl
@[go_sem] theorem und_8 : (Try.prog.underlying 8).isSome = true := by kernel_rfl
@[go_sem] theorem tplaces_8_0 : tplaces Try.prog 8 0 = some (0, 1) := by kernel_rfl
@[go_sem] theorem tfo_8_0 : tfo Try.prog 8 0 = some 0 := by kernel_rfl
@[go_sem] theorem tplaces_8_1 : tplaces Try.prog 8 1 = some (1, 1) := by kernel_rfl
@[go_sem] theorem tfo_8_1 : tfo Try.prog 8 1 = some 1 := by kernel_rfl
@[go_sem] theorem tplaces_8_2 : tplaces Try.prog 8 2 = some (2, 1) := by kernel_rfl
@[go_sem] theorem tfo_8_2 : tfo Try.prog 8 2 = some 2 := by kernel_rfl
@[go_sem] theorem tplaces_8_3 : tplaces Try.prog 8 3 = some (3, 1) := by kernel_rfl
@[go_sem] theorem tfo_8_3 : tfo Try.prog 8 3 = some 3 := by kernel_rfl
@[go_sem] theorem tsz_9 : tsz Try.prog 9 = some 1 := by kernel_rfl
@[go_sem] theorem tagg_9 : tagg Try.prog 9 = some false := by kernel_rfl
@[go_sem] theorem tzero_9 : tzero Try.prog 9 = some [Value.string { data := { toList := [] } }] := by kernel_rfl
@[go_sem] theorem tstr_9 : tstr Try.prog 9 = true := by kernel_rfl
@[go_sem] theorem und_9 : (Try.prog.underlying 9).isSome = true := by kernel_rfl
@[go_sem] theorem tsz_10 : tsz Try.prog 10 = some 1 := by kernel_rfl
@[go_sem] theorem tagg_10 : tagg Try.prog 10 = some false := by kernel_rfl
@[go_sem] theorem tzero_10 : tzero Try.prog 10 = some [Value.string { data := { toList := [] } }] := by kernel_rfl
@[go_sem] theorem tstr_10 : tstr Try.prog 10 = true := by kernel_rfl
@[go_sem] theorem und_10 : (Try.prog.underlying 10).isSome = true := by kernel_rfl
@[go_sem] theorem tsz_11 : tsz Try.prog 11 = some 1 := by kernel_rfl
@[go_sem] theorem tagg_11 : tagg Try.prog 11 = some false := by kernel_rfl
@[go_sem] theorem tzero_11 : tzero Try.prog 11 = some [Value.string { data := { toList := [] } }] := by kernel_rfl
@[go_sem] theorem tstr_11 : tstr Try.prog 11 = true := by kernel_rfl
@[go_sem] theorem und_11 : (Try.prog.underlying 11).isSome = true := by kernel_rfl
@[go_sem] theorem tsz_12 : tsz Try.prog 12 = some 1 := by kernel_rfl
@[go_sem] theorem tagg_12 : tagg Try.prog 12 = some false := by kernel_rfl
@[go_sem] theorem tzero_12 : tzero Try.prog 12 = some [Value.int IntKind.u64 0] := by kernel_rfl
@[go_sem] theorem tkind_12 : tkind Try.prog 12 = some IntKind.u64 := by kernel_rfl
@[go_sem] theorem und_12 : (Try.prog.underlying 12).isSome = true := by kernel_rfl
@[go_sem] theorem tsz_13 : tsz Try.prog 13 = some 2 := by kernel_rfl
@[go_sem] theorem tagg_13 : tagg Try.prog 13 = some true := by kernel_rfl
@[go_sem] theorem tzero_13 : tzero Try.prog 13 = some [Value.string { data := { toList := [] } }, Value.int IntKind.u64 0] := by kernel_rfl
@[go_sem] theorem tlay_13 : tlay Try.prog 13 = some (Lay.str [Value.string { data := { toList := [] } }, Value.int IntKind.u64 0]) := by kernel_rfl
@[go_sem] theorem und_13 : (Try.prog.underlying 13).isSome = true := by kernel_rfl
@[go_sem] theorem tplaces_13_0 : tplaces Try.prog 13 0 = some (0, 1) := by kernel_rfl
@[go_sem] theorem tfo_13_0 : tfo Try.prog 13 0 = some 0 := by kernel_rfl
@[go_sem] theorem tplaces_13_1 : tplaces Try.prog 13 1 = some (1, 1) := by kernel_rfl
@[go_sem] theorem tfo_13_1 : tfo Try.prog 13 1 = some 1 := by kernel_rfl
@[go_sem] theorem tsz_14 : tsz Try.prog 14 = some 2 := by kernel_rfl
@[go_sem] theorem tagg_14 : tagg Try.prog 14 = some true := by kernel_rfl
@[go_sem] theorem tzero_14 : tzero Try.prog 14 = some [Value.string { data := { toList := [] } }, Value.int IntKind.u64 0] := by kernel_rfl
@[go_sem] theorem tlay_14 : tlay Try.prog 14 = some (Lay.str [Value.string { data := { toList := [] } }, Value.int IntKind.u64 0]) := by kernel_rfl
@[go_sem] theorem und_14 : (Try.prog.underlying 14).isSome = true := by kernel_rfl
@[go_sem] theorem tplaces_14_0 : tplaces Try.prog 14 0 = some (0, 1) := by kernel_rfl
@[go_sem] theorem tfo_14_0 : tfo Try.prog 14 0 = some 0 := by kernel_rfl
@[go_sem] theorem tplaces_14_1 : tplaces Try.prog 14 1 = some (1, 1) := by kernel_rfl
@[go_sem] theorem tfo_14_1 : tfo Try.prog 14 1 = some 1 := by kernel_rfl
@[go_sem] theorem tsz_15 : tsz Try.prog 15 = some 1 := by kernel_rfl
@[go_sem] theorem tagg_15 : tagg Try.prog 15 = some false := by kernel_rfl
@[go_sem] theorem tzero_15 : tzero Try.prog 15 = some [Value.pointer Option.none] := by kernel_rfl
@[go_sem] theorem und_15 : (Try.prog.underlying 15).isSome = true := by kernel_rfl
@[go_sem] theorem tsz_16 : tsz Try.prog 16 = some 1 := by kernel_rfl
@[go_sem] theorem tagg_16 : tagg Try.prog 16 = some false := by kernel_rfl
@[go_sem] theorem tzero_16 : tzero Try.prog 16 = some [Value.pointer Option.none] := by kernel_rfl
@[go_sem] theorem und_16 : (Try.prog.underlying 16).isSome = true := by kernel_rfl
@[go_sem] theorem tsz_17 : tsz Try.prog 17 = some 1 := by kernel_rfl
@[go_sem] theorem tagg_17 : tagg Try.prog 17 = some false := by kernel_rfl
@[go_sem] theorem tzero_17 : tzero Try.prog 17 = some [Value.pointer Option.none] := by kernel_rfl
@[go_sem] theorem und_17 : (Try.prog.underlying 17).isSome = true := by kernel_rfl
@[go_sem] theorem tsz_18 : tsz Try.prog 18 = some 1 := by kernel_rfl
@[go_sem] theorem tagg_18 : tagg Try.prog 18 = some true := by kernel_rfl
@[go_sem] theorem tzero_18 : tzero Try.prog 18 = some [Value.pointer Option.none] := by kernel_rfl
@[go_sem] theorem tlay_18 : tlay Try.prog 18 = some (Lay.str [Value.pointer Option.none]) := by kernel_rfl
@[go_sem] theorem und_18 : (Try.prog.underlying 18).isSome = true := by kernel_rfl
@[go_sem] theorem tplaces_18_0 : tplaces Try.prog 18 0 = some (0, 1) := by kernel_rfl
@[go_sem] theorem tfo_18_0 : tfo Try.prog 18 0 = some 0 := by kernel_rfl
@[go_sem] theorem tsz_19 : tsz Try.prog 19 = some 1 := by kernel_rfl
@[go_sem] theorem tagg_19 : tagg Try.prog 19 = some true := by kernel_rfl
@[go_sem] theorem tzero_19 : tzero Try.prog 19 = some [Value.pointer Option.none] := by kernel_rfl
@[go_sem] theorem tlay_19 : tlay Try.prog 19 = some (Lay.str [Value.pointer Option.none]) := by kernel_rfl
@[go_sem] theorem und_19 : (Try.prog.underlying 19).isSome = true := by kernel_rfl
@[go_sem] theorem tplaces_19_0 : tplaces Try.prog 19 0 = some (0, 1) := by kernel_rfl
@[go_sem] theorem tfo_19_0 : tfo Try.prog 19 0 = some 0 := by kernel_rfl
@[go_sem] theorem tsz_20 : tsz Try.prog 20 = some 1 := by kernel_rfl
@[go_sem] theorem tagg_20 : tagg Try.prog 20 = some false := by kernel_rfl
@[go_sem] theorem tzero_20 : tzero Try.prog 20 = some [Value.nilIface] := by kernel_rfl
@[go_sem] theorem und_20 : (Try.prog.underlying 20).isSome = true := by kernel_rfl
@[go_sem] theorem tsz_21 : tsz Try.prog 21 = some 1 := by kernel_rfl
@[go_sem] theorem tagg_21 : tagg Try.prog 21 = some false := by kernel_rfl
@[go_sem] theorem tzero_21 : tzero Try.prog 21 = some [Value.int IntKind.i32 0] := by kernel_rfl
@[go_sem] theorem tkind_21 : tkind Try.prog 21 = some IntKind.i32 := by kernel_rfl
@[go_sem] theorem und_21 : (Try.prog.underlying 21).isSome = true := by kernel_rfl
@[go_sem] theorem tsz_22 : tsz Try.prog 22 = some 1 := by kernel_rfl
@[go_sem] theorem tagg_22 : tagg Try.prog 22 = some false := by kernel_rfl
@[go_sem] theorem tzero_22 : tzero Try.prog 22 = some [Value.slice Option.none 0 0] := by kernel_rfl
@[go_sem] theorem tse_22 : tse Try.prog 22 = some 1 := by kernel_rfl
@[go_sem] theorem tlit_22 : tlit Try.prog 22 = some ([Value.int IntKind.i64 0], 1) := by kernel_rfl
@[go_sem] theorem tapp_22 : tapp Try.prog 22 = some (1, 8) := by kernel_rfl
@[go_sem] theorem tslice_22 : tslice Try.prog 22 = some 3 := by kernel_rfl
@[go_sem] theorem und_22 : (Try.prog.underlying 22).isSome = true := by kernel_rfl
@[go_sem] theorem tsz_23 : tsz Try.prog 23 = some 1 := by kernel_rfl
@[go_sem] theorem tagg_23 : tagg Try.prog 23 = some false := by kernel_rfl
@[go_sem] theorem tzero_23 : tzero Try.prog 23 = some [Value.slice Option.none 0 0] := by kernel_rfl
@[go_sem] theorem tse_23 : tse Try.prog 23 = some 1 := by kernel_rfl
@[go_sem] theorem tlit_23 : tlit Try.prog 23 = some ([Value.slice Option.none 0 0], 1) := by kernel_rfl
@[go_sem] theorem tapp_23 : tapp Try.prog 23 = some (1, 24) := by kernel_rfl
@[go_sem] theorem tslice_23 : tslice Try.prog 23 = some 31 := by kernel_rfl
@[go_sem] theorem und_23 : (Try.prog.underlying 23).isSome = true := by kernel_rfl
@[go_sem] theorem tsz_24 : tsz Try.prog 24 = some 3 := by kernel_rfl
@[go_sem] theorem tagg_24 : tagg Try.prog 24 = some true := by kernel_rfl
@[go_sem] theorem tzero_24 : tzero Try.prog 24 = some [Value.int IntKind.i64 0, Value.int IntKind.i64 0, Value.slice Option.none 0 0] := by kernel_rfl
@[go_sem] theorem tlay_24 : tlay Try.prog 24 = some (Lay.str [Value.int IntKind.i64 0, Value.int IntKind.i64 0, Value.slice Option.none 0 0]) := by kernel_rfl
@[go_sem] theorem und_24 : (Try.prog.underlying 24).isSome = true := by kernel_rfl
@[go_sem] theorem tplaces_24_0 : tplaces Try.prog 24 0 = some (0, 1) := by kernel_rfl
@[go_sem] theorem tfo_24_0 : tfo Try.prog 24 0 = some 0 := by kernel_rfl
@[go_sem] theorem tplaces_24_1 : tplaces Try.prog 24 1 = some (1, 1) := by kernel_rfl
@[go_sem] theorem tfo_24_1 : tfo Try.prog 24 1 = some 1 := by kernel_rfl
@[go_sem] theorem tplaces_24_2 : tplaces Try.prog 24 2 = some (2, 1) := by kernel_rfl
@[go_sem] theorem tfo_24_2 : tfo Try.prog 24 2 = some 2 := by kernel_rfl
@[go_sem] theorem tsz_25 : tsz Try.prog 25 = some 3 := by kernel_rfl
@[go_sem] theorem tagg_25 : tagg Try.prog 25 = some true := by kernel_rfl
@[go_sem] theorem tzero_25 : tzero Try.prog 25 = some [Value.int IntKind.i64 0, Value.int IntKind.i64 0, Value.slice Option.none 0 0] := by kernel_rfl
@[go_sem] theorem tlay_25 : tlay Try.prog 25 = some (Lay.str [Value.int IntKind.i64 0, Value.int IntKind.i64 0, Value.slice Option.none 0 0]) := by kernel_rfl
@[go_sem] theorem und_25 : (Try.prog.underlying 25).isSome = true := by kernel_rfl
@[go_sem] theorem tplaces_25_0 : tplaces Try.prog 25 0 = some (0, 1) := by kernel_rfl
@[go_sem] theorem tfo_25_0 : tfo Try.prog 25 0 = some 0 := by kernel_rfl
@[go_sem] theorem tplaces_25_1 : tplaces Try.prog 25 1 = some (1, 1) := by kernel_rfl
@[go_sem] theorem tfo_25_1 : tfo Try.prog 25 1 = some 1 := by kernel_rfl
@[go_sem] theorem tplaces_25_2 : tplaces Try.prog 25 2 = some (2, 1) := by kernel_rfl
@[go_sem] theorem tfo_25_2 : tfo Try.prog 25 2 = some 2 := by kernel_rfl
@[go_sem] theorem tsz_26 : tsz Try.prog 26 = some 1 := by kernel_rfl
@[go_sem] theorem tagg_26 : tagg Try.prog 26 = some false := by kernel_rfl
@[go_sem] theorem und_26 : (Try.prog.underlying 26).isSome = true := by kernel_rfl
@[go_sem] theorem tsz_27 : tsz Try.prog 27 = some 1 := by kernel_rfl
@[go_sem] theorem tagg_27 : tagg Try.prog 27 = some false := by kernel_rfl
@[go_sem] theorem tzero_27 : tzero Try.prog 27 = some [Value.int IntKind.i64 0] := by kernel_rfl
@[go_sem] theorem tkind_27 : tkind Try.prog 27 = some IntKind.i64 := by kernel_rfl
@[go_sem] theorem und_27 : (Try.prog.underlying 27).isSome = true := by kernel_rfl
@[go_sem] theorem tsz_28 : tsz Try.prog 28 = some 1 := by kernel_rfl
@[go_sem] theorem tagg_28 : tagg Try.prog 28 = some false := by kernel_rfl
@[go_sem] theorem und_28 : (Try.prog.underlying 28).isSome = true := by kernel_rfl
@[go_sem] theorem tsz_29 : tsz Try.prog 29 = some 1 := by kernel_rfl
@[go_sem] theorem tagg_29 : tagg Try.prog 29 = some false := by kernel_rfl
@[go_sem] theorem tzero_29 : tzero Try.prog 29 = some [Value.slice Option.none 0 0] := by kernel_rfl
@[go_sem] theorem tse_29 : tse Try.prog 29 = some 50 := by kernel_rfl
@[go_sem] theorem tlit_29 : tlit Try.prog 29 = some ([Value.int IntKind.i64 0, Value.int IntKind.i64 0, Value.int IntKind.i64 0, Value.int IntKind.i64 0, Value.int IntKind.i64 0, Value.int IntKind.i64 0, Value.int IntKind.i64 0, Value.slice Option.none 0 0, Value.slice Option.none 0 0, Value.slice Option.none 0 0, Value.slice Option.none 0 0, Value.slice Option.none 0 0, Value.slice Option.none 0 0, Value.slice Option.none 0 0, Value.slice Option.none 0 0, Value.slice Option.none 0 0, Value.bool false, Value.slice Option.none 0 0, Value.int IntKind.i64 0, Value.int IntKind.i64 0, Value.slice Option.none 0 0, Value.slice Option.none 0 0, Value.slice Option.none 0 0, Value.bool false, Value.int IntKind.i64 0, Value.int IntKind.i64 0, Value.int IntKind.u8 0, Value.int IntKind.u8 0, Value.int IntKind.u8 0, Value.int IntKind.u8 0, Value.int IntKind.u8 0, Value.int IntKind.u8 0, Value.int IntKind.u8 0, Value.int IntKind.u8 0, Value.int IntKind.i64 0, Value.int IntKind.i64 0, Value.int IntKind.i64 0, Value.int IntKind.i64 0, Value.int IntKind.i64 0, Value.slice Option.none 0 0, Value.bool false, Value.slice Option.none 0 0, Value.int IntKind.u8 0, Value.int IntKind.u8 0, Value.int IntKind.u8 0, Value.int IntKind.u8 0, Value.int IntKind.i64 0, Value.slice Option.none 0 0, Value.slice Option.none 0 0, Value.slice Option.none 0 0], 50) := by kernel_rfl
@[go_sem] theorem tapp_29 : tapp Try.prog 29 = some (50, 608) := by kernel_rfl
@[go_sem] theorem tslice_29 : tslice Try.prog 29 = some 48 := by kernel_rfl
@[go_sem] theorem und_29 : (Try.prog.underlying 29).isSome = true := by kernel_rfl
@[go_sem] theorem tsz_30 : tsz Try.prog 30 = some 1 := by kernel_rfl
@[go_sem] theorem tagg_30 : tagg Try.prog 30 = some true := by kernel_rfl
@[go_sem] theorem tzero_30 : tzero Try.prog 30 = some [Value.slice Option.none 0 0] := by kernel_rfl
@[go_sem] theorem tlay_30 : tlay Try.prog 30 = some (Lay.str [Value.slice Option.none 0 0]) := by kernel_rfl
@[go_sem] theorem und_30 : (Try.prog.underlying 30).isSome = true := by kernel_rfl
@[go_sem] theorem tplaces_30_0 : tplaces Try.prog 30 0 = some (0, 1) := by kernel_rfl
@[go_sem] theorem tfo_30_0 : tfo Try.prog 30 0 = some 0 := by kernel_rfl
@[go_sem] theorem tsz_31 : tsz Try.prog 31 = some 1 := by kernel_rfl
@[go_sem] theorem tagg_31 : tagg Try.prog 31 = some true := by kernel_rfl
@[go_sem] theorem tzero_31 : tzero Try.prog 31 = some [Value.slice Option.none 0 0] := by kernel_rfl
@[go_sem] theorem tlay_31 : tlay Try.prog 31 = some (Lay.str [Value.slice Option.none 0 0]) := by kernel_rfl
@[go_sem] theorem und_31 : (Try.prog.underlying 31).isSome = true := by kernel_rfl
@[go_sem] theorem tplaces_31_0 : tplaces Try.prog 31 0 = some (0, 1) := by kernel_rfl
@[go_sem] theorem tfo_31_0 : tfo Try.prog 31 0 = some 0 := by kernel_rfl
@[go_sem] theorem tsz_32 : tsz Try.prog 32 = some 1 := by kernel_rfl
@[go_sem] theorem tagg_32 : tagg Try.prog 32 = some false := by kernel_rfl
@[go_sem] theorem tzero_32 : tzero Try.prog 32 = some [Value.slice Option.none 0 0] := by kernel_rfl
@[go_sem] theorem tse_32 : tse Try.prog 32 = some 7 := by kernel_rfl
@[go_sem] theorem tlit_32 : tlit Try.prog 32 = some ([Value.int IntKind.i64 0, Value.int IntKind.i64 0, Value.int IntKind.i64 0, Value.int IntKind.i64 0, Value.int IntKind.i64 0, Value.int IntKind.i64 0, Value.int IntKind.i64 0], 7) := by kernel_rfl
@[go_sem] theorem tapp_32 : tapp Try.prog 32 = some (7, 56) := by kernel_rfl
@[go_sem] theorem tslice_32 : tslice Try.prog 32 = some 58 := by kernel_rfl
@[go_sem] theorem und_32 : (Try.prog.underlying 32).isSome = true := by kernel_rfl
@[go_sem] theorem tsz_33 : tsz Try.prog 33 = some 1 := by kernel_rfl
@[go_sem] theorem tagg_33 : tagg Try.prog 33 = some false := by kernel_rfl
@[go_sem] theorem tzero_33 : tzero Try.prog 33 = some [Value.slice Option.none 0 0] := by kernel_rfl
@[go_sem] theorem tse_33 : tse Try.prog 33 = some 2 := by kernel_rfl
@[go_sem] theorem tlit_33 : tlit Try.prog 33 = some ([Value.int IntKind.i64 0, Value.int IntKind.i64 0], 2) := by kernel_rfl
@[go_sem] theorem tapp_33 : tapp Try.prog 33 = some (2, 16) := by kernel_rfl
@[go_sem] theorem tslice_33 : tslice Try.prog 33 = some 40 := by kernel_rfl
@[go_sem] theorem und_33 : (Try.prog.underlying 33).isSome = true := by kernel_rfl
@[go_sem] theorem tsz_34 : tsz Try.prog 34 = some 2 := by kernel_rfl
@[go_sem] theorem tagg_34 : tagg Try.prog 34 = some true := by kernel_rfl
@[go_sem] theorem tzero_34 : tzero Try.prog 34 = some [Value.bool false, Value.slice Option.none 0 0] := by kernel_rfl
@[go_sem] theorem tlay_34 : tlay Try.prog 34 = some (Lay.str [Value.bool false, Value.slice Option.none 0 0]) := by kernel_rfl
@[go_sem] theorem und_34 : (Try.prog.underlying 34).isSome = true := by kernel_rfl
@[go_sem] theorem tplaces_34_0 : tplaces Try.prog 34 0 = some (0, 1) := by kernel_rfl
@[go_sem] theorem tfo_34_0 : tfo Try.prog 34 0 = some 0 := by kernel_rfl
@[go_sem] theorem tplaces_34_1 : tplaces Try.prog 34 1 = some (1, 1) := by kernel_rfl
@[go_sem] theorem tfo_34_1 : tfo Try.prog 34 1 = some 1 := by kernel_rfl
@[go_sem] theorem tsz_35 : tsz Try.prog 35 = some 2 := by kernel_rfl
@[go_sem] theorem tagg_35 : tagg Try.prog 35 = some true := by kernel_rfl
@[go_sem] theorem tzero_35 : tzero Try.prog 35 = some [Value.bool false, Value.slice Option.none 0 0] := by kernel_rfl
@[go_sem] theorem tlay_35 : tlay Try.prog 35 = some (Lay.str [Value.bool false, Value.slice Option.none 0 0]) := by kernel_rfl
@[go_sem] theorem und_35 : (Try.prog.underlying 35).isSome = true := by kernel_rfl
@[go_sem] theorem tplaces_35_0 : tplaces Try.prog 35 0 = some (0, 1) := by kernel_rfl
@[go_sem] theorem tfo_35_0 : tfo Try.prog 35 0 = some 0 := by kernel_rfl
@[go_sem] theorem tplaces_35_1 : tplaces Try.prog 35 1 = some (1, 1) := by kernel_rfl
@[go_sem] theorem tfo_35_1 : tfo Try.prog 35 1 = some 1 := by kernel_rfl
@[go_sem] theorem tsz_36 : tsz Try.prog 36 = some 1 := by kernel_rfl
@[go_sem] theorem tagg_36 : tagg Try.prog 36 = some false := by kernel_rfl
@[go_sem] theorem tzero_36 : tzero Try.prog 36 = some [Value.slice Option.none 0 0] := by kernel_rfl
@[go_sem] theorem tse_36 : tse Try.prog 36 = some 8 := by kernel_rfl
@[go_sem] theorem tlit_36 : tlit Try.prog 36 = some ([Value.int IntKind.i64 0, Value.bool false, Value.slice Option.none 0 0, Value.int IntKind.i64 0, Value.int IntKind.i64 0, Value.int IntKind.i64 0, Value.int IntKind.i64 0, Value.int IntKind.i64 0], 8) := by kernel_rfl
@[go_sem] theorem tapp_36 : tapp Try.prog 36 = some (8, 80) := by kernel_rfl
@[go_sem] theorem tslice_36 : tslice Try.prog 36 = some 60 := by kernel_rfl
@[go_sem] theorem und_36 : (Try.prog.underlying 36).isSome = true := by kernel_rfl
@[go_sem] theorem tsz_37 : tsz Try.prog 37 = some 4 := by kernel_rfl
@[go_sem] theorem tagg_37 : tagg Try.prog 37 = some true := by kernel_rfl
@[go_sem] theorem tzero_37 : tzero Try.prog 37 = some [Value.int IntKind.u8 0, Value.int IntKind.u8 0, Value.int IntKind.u8 0, Value.int IntKind.u8 0] := by kernel_rfl
@[go_sem] theorem tae_37 : tae Try.prog 37 = some (4, 1) := by kernel_rfl
@[go_sem] theorem tlay_37 : tlay Try.prog 37 = some (Lay.arr [Value.int IntKind.u8 0, Value.int IntKind.u8 0, Value.int IntKind.u8 0, Value.int IntKind.u8 0] 1) := by kernel_rfl
@[go_sem] theorem teq_37 : teq Try.prog 37 = some [Lf.i, Lf.i, Lf.i, Lf.i] := by kernel_rfl
@[go_sem] theorem tarr_37 : tarr Try.prog 37 = some (4, 5) := by kernel_rfl
@[go_sem] theorem und_37 : (Try.prog.underlying 37).isSome = true := by kernel_rfl
@[go_sem] theorem tsz_38 : tsz Try.prog 38 = some 4 := by kernel_rfl
@[go_sem] theorem tagg_38 : tagg Try.prog 38 = some true := by kernel_rfl
@[go_sem] theorem tzero_38 : tzero Try.prog 38 = some [Value.int IntKind.u8 0, Value.int IntKind.u8 0, Value.int IntKind.u8 0, Value.int IntKind.u8 0] := by kernel_rfl
@[go_sem] theorem tae_38 : tae Try.prog 38 = some (4, 1) := by kernel_rfl
@[go_sem] theorem tlay_38 : tlay Try.prog 38 = some (Lay.arr [Value.int IntKind.u8 0, Value.int IntKind.u8 0, Value.int IntKind.u8 0, Value.int IntKind.u8 0] 1) := by kernel_rfl
@[go_sem] theorem teq_38 : teq Try.prog 38 = some [Lf.i, Lf.i, Lf.i, Lf.i] := by kernel_rfl
@[go_sem] theorem tarr_38 : tarr Try.prog 38 = some (4, 5) := by kernel_rfl
@[go_sem] theorem und_38 : (Try.prog.underlying 38).isSome = true := by kernel_rfl
@[go_sem] theorem tsz_39 : tsz Try.prog 39 = some 2 := by kernel_rfl
@[go_sem] theorem tagg_39 : tagg Try.prog 39 = some true := by kernel_rfl
@[go_sem] theorem tzero_39 : tzero Try.prog 39 = some [Value.int IntKind.i64 0, Value.int IntKind.i64 0] := by kernel_rfl
@[go_sem] theorem tlay_39 : tlay Try.prog 39 = some (Lay.str [Value.int IntKind.i64 0, Value.int IntKind.i64 0]) := by kernel_rfl
@[go_sem] theorem teq_39 : teq Try.prog 39 = some [Lf.i, Lf.i] := by kernel_rfl
@[go_sem] theorem und_39 : (Try.prog.underlying 39).isSome = true := by kernel_rfl
@[go_sem] theorem tplaces_39_0 : tplaces Try.prog 39 0 = some (0, 1) := by kernel_rfl
@[go_sem] theorem tfo_39_0 : tfo Try.prog 39 0 = some 0 := by kernel_rfl
@[go_sem] theorem tplaces_39_1 : tplaces Try.prog 39 1 = some (1, 1) := by kernel_rfl
@[go_sem] theorem tfo_39_1 : tfo Try.prog 39 1 = some 1 := by kernel_rfl
@[go_sem] theorem tsz_40 : tsz Try.prog 40 = some 2 := by kernel_rfl
@[go_sem] theorem tagg_40 : tagg Try.prog 40 = some true := by kernel_rfl
@[go_sem] theorem tzero_40 : tzero Try.prog 40 = some [Value.int IntKind.i64 0, Value.int IntKind.i64 0] := by kernel_rfl
@[go_sem] theorem tlay_40 : tlay Try.prog 40 = some (Lay.str [Value.int IntKind.i64 0, Value.int IntKind.i64 0]) := by kernel_rfl
@[go_sem] theorem teq_40 : teq Try.prog 40 = some [Lf.i, Lf.i] := by kernel_rfl
@[go_sem] theorem und_40 : (Try.prog.underlying 40).isSome = true := by kernel_rfl
@[go_sem] theorem tplaces_40_0 : tplaces Try.prog 40 0 = some (0, 1) := by kernel_rfl
@[go_sem] theorem tfo_40_0 : tfo Try.prog 40 0 = some 0 := by kernel_rfl
@[go_sem] theorem tplaces_40_1 : tplaces Try.prog 40 1 = some (1, 1) := by kernel_rfl
@[go_sem] theorem tfo_40_1 : tfo Try.prog 40 1 = some 1 := by kernel_rfl
@[go_sem] theorem tsz_41 : tsz Try.prog 41 = some 14 := by kernel_rfl
@[go_sem] theorem tagg_41 : tagg Try.prog 41 = some true := by kernel_rfl
@[go_sem] theorem tzero_41 : tzero Try.prog 41 = some [Value.int IntKind.i64 0, Value.int IntKind.u8 0, Value.int IntKind.u8 0, Value.int IntKind.u8 0, Value.int IntKind.u8 0, Value.int IntKind.u8 0, Value.int IntKind.u8 0, Value.int IntKind.u8 0, Value.int IntKind.u8 0, Value.int IntKind.i64 0, Value.int IntKind.i64 0, Value.int IntKind.i64 0, Value.int IntKind.i64 0, Value.int IntKind.i64 0] := by kernel_rfl
@[go_sem] theorem tlay_41 : tlay Try.prog 41 = some (Lay.str [Value.int IntKind.i64 0, Value.int IntKind.u8 0, Value.int IntKind.u8 0, Value.int IntKind.u8 0, Value.int IntKind.u8 0, Value.int IntKind.u8 0, Value.int IntKind.u8 0, Value.int IntKind.u8 0, Value.int IntKind.u8 0, Value.int IntKind.i64 0, Value.int IntKind.i64 0, Value.int IntKind.i64 0, Value.int IntKind.i64 0, Value.int IntKind.i64 0]) := by kernel_rfl
@[go_sem] theorem teq_41 : teq Try.prog 41 = some [Lf.i, Lf.i, Lf.i, Lf.i, Lf.i, Lf.i, Lf.i, Lf.i, Lf.i, Lf.i, Lf.i, Lf.i, Lf.i, Lf.i] := by kernel_rfl
@[go_sem] theorem und_41 : (Try.prog.underlying 41).isSome = true := by kernel_rfl
@[go_sem] theorem tplaces_41_0 : tplaces Try.prog 41 0 = some (0, 1) := by kernel_rfl
@[go_sem] theorem tfo_41_0 : tfo Try.prog 41 0 = some 0 := by kernel_rfl
@[go_sem] theorem tplaces_41_1 : tplaces Try.prog 41 1 = some (1, 4) := by kernel_rfl
@[go_sem] theorem tfo_41_1 : tfo Try.prog 41 1 = some 1 := by kernel_rfl
@[go_sem] theorem tplaces_41_2 : tplaces Try.prog 41 2 = some (5, 4) := by kernel_rfl
@[go_sem] theorem tfo_41_2 : tfo Try.prog 41 2 = some 5 := by kernel_rfl
@[go_sem] theorem tplaces_41_3 : tplaces Try.prog 41 3 = some (9, 2) := by kernel_rfl
@[go_sem] theorem tfo_41_3 : tfo Try.prog 41 3 = some 9 := by kernel_rfl
@[go_sem] theorem tplaces_41_4 : tplaces Try.prog 41 4 = some (11, 2) := by kernel_rfl
@[go_sem] theorem tfo_41_4 : tfo Try.prog 41 4 = some 11 := by kernel_rfl
@[go_sem] theorem tplaces_41_5 : tplaces Try.prog 41 5 = some (13, 1) := by kernel_rfl
@[go_sem] theorem tfo_41_5 : tfo Try.prog 41 5 = some 13 := by kernel_rfl
@[go_sem] theorem tsz_42 : tsz Try.prog 42 = some 14 := by kernel_rfl
@[go_sem] theorem tagg_42 : tagg Try.prog 42 = some true := by kernel_rfl
@[go_sem] theorem tzero_42 : tzero Try.prog 42 = some [Value.int IntKind.i64 0, Value.int IntKind.u8 0, Value.int IntKind.u8 0, Value.int IntKind.u8 0, Value.int IntKind.u8 0, Value.int IntKind.u8 0, Value.int IntKind.u8 0, Value.int IntKind.u8 0, Value.int IntKind.u8 0, Value.int IntKind.i64 0, Value.int IntKind.i64 0, Value.int IntKind.i64 0, Value.int IntKind.i64 0, Value.int IntKind.i64 0] := by kernel_rfl
@[go_sem] theorem tlay_42 : tlay Try.prog 42 = some (Lay.str [Value.int IntKind.i64 0, Value.int IntKind.u8 0, Value.int IntKind.u8 0, Value.int IntKind.u8 0, Value.int IntKind.u8 0, Value.int IntKind.u8 0, Value.int IntKind.u8 0, Value.int IntKind.u8 0, Value.int IntKind.u8 0, Value.int IntKind.i64 0, Value.int IntKind.i64 0, Value.int IntKind.i64 0, Value.int IntKind.i64 0, Value.int IntKind.i64 0]) := by kernel_rfl
@[go_sem] theorem teq_42 : teq Try.prog 42 = some [Lf.i, Lf.i, Lf.i, Lf.i, Lf.i, Lf.i, Lf.i, Lf.i, Lf.i, Lf.i, Lf.i, Lf.i, Lf.i, Lf.i] := by kernel_rfl
@[go_sem] theorem und_42 : (Try.prog.underlying 42).isSome = true := by kernel_rfl
@[go_sem] theorem tplaces_42_0 : tplaces Try.prog 42 0 = some (0, 1) := by kernel_rfl
@[go_sem] theorem tfo_42_0 : tfo Try.prog 42 0 = some 0 := by kernel_rfl
@[go_sem] theorem tplaces_42_1 : tplaces Try.prog 42 1 = some (1, 4) := by kernel_rfl
@[go_sem] theorem tfo_42_1 : tfo Try.prog 42 1 = some 1 := by kernel_rfl
@[go_sem] theorem tplaces_42_2 : tplaces Try.prog 42 2 = some (5, 4) := by kernel_rfl
@[go_sem] theorem tfo_42_2 : tfo Try.prog 42 2 = some 5 := by kernel_rfl
@[go_sem] theorem tplaces_42_3 : tplaces Try.prog 42 3 = some (9, 2) := by kernel_rfl
@[go_sem] theorem tfo_42_3 : tfo Try.prog 42 3 = some 9 := by kernel_rfl
@[go_sem] theorem tplaces_42_4 : tplaces Try.prog 42 4 = some (11, 2) := by kernel_rfl
@[go_sem] theorem tfo_42_4 : tfo Try.prog 42 4 = some 11 := by kernel_rfl
@[go_sem] theorem tplaces_42_5 : tplaces Try.prog 42 5 = some (13, 1) := by kernel_rfl
@[go_sem] theorem tfo_42_5 : tfo Try.prog 42 5 = some 13 := by kernel_rfl
@[go_sem] theorem tsz_43 : tsz Try.prog 43 = some 1 := by kernel_rfl
@[go_sem] theorem tagg_43 : tagg Try.prog 43 = some false := by kernel_rfl
@[go_sem] theorem tzero_43 : tzero Try.prog 43 = some [Value.slice Option.none 0 0] := by kernel_rfl
@[go_sem] theorem tse_43 : tse Try.prog 43 = some 10 := by kernel_rfl
@[go_sem] theorem tlit_43 : tlit Try.prog 43 = some ([Value.int IntKind.i64 0, Value.int IntKind.u8 0, Value.int IntKind.u8 0, Value.int IntKind.u8 0, Value.int IntKind.u8 0, Value.int IntKind.i64 0, Value.int IntKind.i64 0, Value.int IntKind.i64 0, Value.int IntKind.i64 0, Value.int IntKind.i64 0], 10) := by kernel_rfl
@[go_sem] theorem tapp_43 : tapp Try.prog 43 = some (10, 56) := by kernel_rfl
@[go_sem] theorem tslice_43 : tslice Try.prog 43 = some 98 := by kernel_rfl
@[go_sem] theorem und_43 : (Try.prog.underlying 43).isSome = true := by kernel_rfl
@[go_sem] theorem tsz_44 : tsz Try.prog 44 = some 1 := by kernel_rfl
@[go_sem] theorem tagg_44 : tagg Try.prog 44 = some false := by kernel_rfl
@[go_sem] theorem tzero_44 : tzero Try.prog 44 = some [Value.slice Option.none 0 0] := by kernel_rfl
@[go_sem] theorem tse_44 : tse Try.prog 44 = some 1 := by kernel_rfl
@[go_sem] theorem tlit_44 : tlit Try.prog 44 = some ([Value.int IntKind.i64 0], 1) := by kernel_rfl
@[go_sem] theorem tapp_44 : tapp Try.prog 44 = some (1, 8) := by kernel_rfl
@[go_sem] theorem tslice_44 : tslice Try.prog 44 = some 2 := by kernel_rfl
@[go_sem] theorem und_44 : (Try.prog.underlying 44).isSome = true := by kernel_rfl
@[go_sem] theorem tsz_45 : tsz Try.prog 45 = some 32 := by kernel_rfl
@[go_sem] theorem tagg_45 : tagg Try.prog 45 = some true := by kernel_rfl
@[go_sem] theorem tzero_45 : tzero Try.prog 45 = some [Value.int IntKind.i64 0, Value.int IntKind.i64 0, Value.slice Option.none 0 0, Value.slice Option.none 0 0, Value.slice Option.none 0 0, Value.bool false, Value.int IntKind.i64 0, Value.int IntKind.i64 0, Value.int IntKind.u8 0, Value.int IntKind.u8 0, Value.int IntKind.u8 0, Value.int IntKind.u8 0, Value.int IntKind.u8 0, Value.int IntKind.u8 0, Value.int IntKind.u8 0, Value.int IntKind.u8 0, Value.int IntKind.i64 0, Value.int IntKind.i64 0, Value.int IntKind.i64 0, Value.int IntKind.i64 0, Value.int IntKind.i64 0, Value.slice Option.none 0 0, Value.bool false, Value.slice Option.none 0 0, Value.int IntKind.u8 0, Value.int IntKind.u8 0, Value.int IntKind.u8 0, Value.int IntKind.u8 0, Value.int IntKind.i64 0, Value.slice Option.none 0 0, Value.slice Option.none 0 0, Value.slice Option.none 0 0] := by kernel_rfl
@[go_sem] theorem tlay_45 : tlay Try.prog 45 = some (Lay.str [Value.int IntKind.i64 0, Value.int IntKind.i64 0, Value.slice Option.none 0 0, Value.slice Option.none 0 0, Value.slice Option.none 0 0, Value.bool false, Value.int IntKind.i64 0, Value.int IntKind.i64 0, Value.int IntKind.u8 0, Value.int IntKind.u8 0, Value.int IntKind.u8 0, Value.int IntKind.u8 0, Value.int IntKind.u8 0, Value.int IntKind.u8 0, Value.int IntKind.u8 0, Value.int IntKind.u8 0, Value.int IntKind.i64 0, Value.int IntKind.i64 0, Value.int IntKind.i64 0, Value.int IntKind.i64 0, Value.int IntKind.i64 0, Value.slice Option.none 0 0, Value.bool false, Value.slice Option.none 0 0, Value.int IntKind.u8 0, Value.int IntKind.u8 0, Value.int IntKind.u8 0, Value.int IntKind.u8 0, Value.int IntKind.i64 0, Value.slice Option.none 0 0, Value.slice Option.none 0 0, Value.slice Option.none 0 0]) := by kernel_rfl
@[go_sem] theorem und_45 : (Try.prog.underlying 45).isSome = true := by kernel_rfl
@[go_sem] theorem tplaces_45_0 : tplaces Try.prog 45 0 = some (0, 1) := by kernel_rfl
@[go_sem] theorem tfo_45_0 : tfo Try.prog 45 0 = some 0 := by kernel_rfl
@[go_sem] theorem tplaces_45_1 : tplaces Try.prog 45 1 = some (1, 1) := by kernel_rfl
@[go_sem] theorem tfo_45_1 : tfo Try.prog 45 1 = some 1 := by kernel_rfl
@[go_sem] theorem tplaces_45_2 : tplaces Try.prog 45 2 = some (2, 1) := by kernel_rfl
@[go_sem] theorem tfo_45_2 : tfo Try.prog 45 2 = some 2 := by kernel_rfl
@[go_sem] theorem tplaces_45_3 : tplaces Try.prog 45 3 = some (3, 1) := by kernel_rfl
@[go_sem] theorem tfo_45_3 : tfo Try.prog 45 3 = some 3 := by kernel_rfl
@[go_sem] theorem tplaces_45_4 : tplaces Try.prog 45 4 = some (4, 1) := by kernel_rfl
@[go_sem] theorem tfo_45_4 : tfo Try.prog 45 4 = some 4 := by kernel_rfl
@[go_sem] theorem tplaces_45_5 : tplaces Try.prog 45 5 = some (5, 1) := by kernel_rfl
@[go_sem] theorem tfo_45_5 : tfo Try.prog 45 5 = some 5 := by kernel_rfl
@[go_sem] theorem tplaces_45_6 : tplaces Try.prog 45 6 = some (6, 1) := by kernel_rfl
@[go_sem] theorem tfo_45_6 : tfo Try.prog 45 6 = some 6 := by kernel_rfl
@[go_sem] theorem tplaces_45_7 : tplaces Try.prog 45 7 = some (7, 14) := by kernel_rfl
@[go_sem] theorem tfo_45_7 : tfo Try.prog 45 7 = some 7 := by kernel_rfl
@[go_sem] theorem tplaces_45_8 : tplaces Try.prog 45 8 = some (21, 1) := by kernel_rfl
@[go_sem] theorem tfo_45_8 : tfo Try.prog 45 8 = some 21 := by kernel_rfl
@[go_sem] theorem tplaces_45_9 : tplaces Try.prog 45 9 = some (22, 1) := by kernel_rfl
@[go_sem] theorem tfo_45_9 : tfo Try.prog 45 9 = some 22 := by kernel_rfl
@[go_sem] theorem tplaces_45_10 : tplaces Try.prog 45 10 = some (23, 1) := by kernel_rfl
@[go_sem] theorem tfo_45_10 : tfo Try.prog 45 10 = some 23 := by kernel_rfl
@[go_sem] theorem tplaces_45_11 : tplaces Try.prog 45 11 = some (24, 4) := by kernel_rfl
@[go_sem] theorem tfo_45_11 : tfo Try.prog 45 11 = some 24 := by kernel_rfl
@[go_sem] theorem tplaces_45_12 : tplaces Try.prog 45 12 = some (28, 1) := by kernel_rfl
@[go_sem] theorem tfo_45_12 : tfo Try.prog 45 12 = some 28 := by kernel_rfl
@[go_sem] theorem tplaces_45_13 : tplaces Try.prog 45 13 = some (29, 1) := by kernel_rfl
@[go_sem] theorem tfo_45_13 : tfo Try.prog 45 13 = some 29 := by kernel_rfl
@[go_sem] theorem tplaces_45_14 : tplaces Try.prog 45 14 = some (30, 1) := by kernel_rfl
@[go_sem] theorem tfo_45_14 : tfo Try.prog 45 14 = some 30 := by kernel_rfl
@[go_sem] theorem tplaces_45_15 : tplaces Try.prog 45 15 = some (31, 1) := by kernel_rfl
@[go_sem] theorem tfo_45_15 : tfo Try.prog 45 15 = some 31 := by kernel_rfl
@[go_sem] theorem tsz_46 : tsz Try.prog 46 = some 32 := by kernel_rfl
@[go_sem] theorem tagg_46 : tagg Try.prog 46 = some true := by kernel_rfl
@[go_sem] theorem tzero_46 : tzero Try.prog 46 = some [Value.int IntKind.i64 0, Value.int IntKind.i64 0, Value.slice Option.none 0 0, Value.slice Option.none 0 0, Value.slice Option.none 0 0, Value.bool false, Value.int IntKind.i64 0, Value.int IntKind.i64 0, Value.int IntKind.u8 0, Value.int IntKind.u8 0, Value.int IntKind.u8 0, Value.int IntKind.u8 0, Value.int IntKind.u8 0, Value.int IntKind.u8 0, Value.int IntKind.u8 0, Value.int IntKind.u8 0, Value.int IntKind.i64 0, Value.int IntKind.i64 0, Value.int IntKind.i64 0, Value.int IntKind.i64 0, Value.int IntKind.i64 0, Value.slice Option.none 0 0, Value.bool false, Value.slice Option.none 0 0, Value.int IntKind.u8 0, Value.int IntKind.u8 0, Value.int IntKind.u8 0, Value.int IntKind.u8 0, Value.int IntKind.i64 0, Value.slice Option.none 0 0, Value.slice Option.none 0 0, Value.slice Option.none 0 0] := by kernel_rfl
@[go_sem] theorem tlay_46 : tlay Try.prog 46 = some (Lay.str [Value.int IntKind.i64 0, Value.int IntKind.i64 0, Value.slice Option.none 0 0, Value.slice Option.none 0 0, Value.slice Option.none 0 0, Value.bool false, Value.int IntKind.i64 0, Value.int IntKind.i64 0, Value.int IntKind.u8 0, Value.int IntKind.u8 0, Value.int IntKind.u8 0, Value.int IntKind.u8 0, Value.int IntKind.u8 0, Value.int IntKind.u8 0, Value.int IntKind.u8 0, Value.int IntKind.u8 0, Value.int IntKind.i64 0, Value.int IntKind.i64 0, Value.int IntKind.i64 0, Value.int IntKind.i64 0, Value.int IntKind.i64 0, Value.slice Option.none 0 0, Value.bool false, Value.slice Option.none 0 0, Value.int IntKind.u8 0, Value.int IntKind.u8 0, Value.int IntKind.u8 0, Value.int IntKind.u8 0, Value.int IntKind.i64 0, Value.slice Option.none 0 0, Value.slice Option.none 0 0, Value.slice Option.none 0 0]) := by kernel_rfl
@[go_sem] theorem und_46 : (Try.prog.underlying 46).isSome = true := by kernel_rfl
@[go_sem] theorem tplaces_46_0 : tplaces Try.prog 46 0 = some (0, 1) := by kernel_rfl
@[go_sem] theorem tfo_46_0 : tfo Try.prog 46 0 = some 0 := by kernel_rfl
@[go_sem] theorem tplaces_46_1 : tplaces Try.prog 46 1 = some (1, 1) := by kernel_rfl
@[go_sem] theorem tfo_46_1 : tfo Try.prog 46 1 = some 1 := by kernel_rfl
@[go_sem] theorem tplaces_46_2 : tplaces Try.prog 46 2 = some (2, 1) := by kernel_rfl
@[go_sem] theorem tfo_46_2 : tfo Try.prog 46 2 = some 2 := by kernel_rfl
@[go_sem] theorem tplaces_46_3 : tplaces Try.prog 46 3 = some (3, 1) := by kernel_rfl
@[go_sem] theorem tfo_46_3 : tfo Try.prog 46 3 = some 3 := by kernel_rfl
@[go_sem] theorem tplaces_46_4 : tplaces Try.prog 46 4 = some (4, 1) := by kernel_rfl
@[go_sem] theorem tfo_46_4 : tfo Try.prog 46 4 = some 4 := by kernel_rfl
@[go_sem] theorem tplaces_46_5 : tplaces Try.prog 46 5 = some (5, 1) := by kernel_rfl
@[go_sem] theorem tfo_46_5 : tfo Try.prog 46 5 = some 5 := by kernel_rfl
@[go_sem] theorem tplaces_46_6 : tplaces Try.prog 46 6 = some (6, 1) := by kernel_rfl
@[go_sem] theorem tfo_46_6 : tfo Try.prog 46 6 = some 6 := by kernel_rfl
@[go_sem] theorem tplaces_46_7 : tplaces Try.prog 46 7 = some (7, 14) := by kernel_rfl
@[go_sem] theorem tfo_46_7 : tfo Try.prog 46 7 = some 7 := by kernel_rfl
@[go_sem] theorem tplaces_46_8 : tplaces Try.prog 46 8 = some (21, 1) := by kernel_rfl
@[go_sem] theorem tfo_46_8 : tfo Try.prog 46 8 = some 21 := by kernel_rfl
@[go_sem] theorem tplaces_46_9 : tplaces Try.prog 46 9 = some (22, 1) := by kernel_rfl
@[go_sem] theorem tfo_46_9 : tfo Try.prog 46 9 = some 22 := by kernel_rfl
@[go_sem] theorem tplaces_46_10 : tplaces Try.prog 46 10 = some (23, 1) := by kernel_rfl
@[go_sem] theorem tfo_46_10 : tfo Try.prog 46 10 = some 23 := by kernel_rfl
@[go_sem] theorem tplaces_46_11 : tplaces Try.prog 46 11 = some (24, 4) := by kernel_rfl
@[go_sem] theorem tfo_46_11 : tfo Try.prog 46 11 = some 24 := by kernel_rfl
@[go_sem] theorem tplaces_46_12 : tplaces Try.prog 46 12 = some (28, 1) := by kernel_rfl
@[go_sem] theorem tfo_46_12 : tfo Try.prog 46 12 = some 28 := by kernel_rfl
@[go_sem] theorem tplaces_46_13 : tplaces Try.prog 46 13 = some (29, 1) := by kernel_rfl
@[go_sem] theorem tfo_46_13 : tfo Try.prog 46 13 = some 29 := by kernel_rfl
@[go_sem] theorem tplaces_46_14 : tplaces Try.prog 46 14 = some (30, 1) := by kernel_rfl
@[go_sem] theorem tfo_46_14 : tfo Try.prog 46 14 = some 30 := by kernel_rfl
@[go_sem] theorem tplaces_46_15 : tplaces Try.prog 46 15 = some (31, 1) := by kernel_rfl
@[go_sem] theorem tfo_46_15 : tfo Try.prog 46 15 = some 31 := by kernel_rfl
@[go_sem] theorem tsz_47 : tsz Try.prog 47 = some 50 := by kernel_rfl
@[go_sem] theorem tagg_47 : tagg Try.prog 47 = some true := by kernel_rfl
@[go_sem] theorem tzero_47 : tzero Try.prog 47 = some [Value.int IntKind.i64 0, Value.int IntKind.i64 0, Value.int IntKind.i64 0, Value.int IntKind.i64 0, Value.int IntKind.i64 0, Value.int IntKind.i64 0, Value.int IntKind.i64 0, Value.slice Option.none 0 0, Value.slice Option.none 0 0, Value.slice Option.none 0 0, Value.slice Option.none 0 0, Value.slice Option.none 0 0, Value.slice Option.none 0 0, Value.slice Option.none 0 0, Value.slice Option.none 0 0, Value.slice Option.none 0 0, Value.bool false, Value.slice Option.none 0 0, Value.int IntKind.i64 0, Value.int IntKind.i64 0, Value.slice Option.none 0 0, Value.slice Option.none 0 0, Value.slice Option.none 0 0, Value.bool false, Value.int IntKind.i64 0, Value.int IntKind.i64 0, Value.int IntKind.u8 0, Value.int IntKind.u8 0, Value.int IntKind.u8 0, Value.int IntKind.u8 0, Value.int IntKind.u8 0, Value.int IntKind.u8 0, Value.int IntKind.u8 0, Value.int IntKind.u8 0, Value.int IntKind.i64 0, Value.int IntKind.i64 0, Value.int IntKind.i64 0, Value.int IntKind.i64 0, Value.int IntKind.i64 0, Value.slice Option.none 0 0, Value.bool false, Value.slice Option.none 0 0, Value.int IntKind.u8 0, Value.int IntKind.u8 0, Value.int IntKind.u8 0, Value.int IntKind.u8 0, Value.int IntKind.i64 0, Value.slice Option.none 0 0, Value.slice Option.none 0 0, Value.slice Option.none 0 0] := by kernel_rfl
@[go_sem] theorem tlay_47 : tlay Try.prog 47 = some (Lay.str [Value.int IntKind.i64 0, Value.int IntKind.i64 0, Value.int IntKind.i64 0, Value.int IntKind.i64 0, Value.int IntKind.i64 0, Value.int IntKind.i64 0, Value.int IntKind.i64 0, Value.slice Option.none 0 0, Value.slice Option.none 0 0, Value.slice Option.none 0 0, Value.slice Option.none 0 0, Value.slice Option.none 0 0, Value.slice Option.none 0 0, Value.slice Option.none 0 0, Value.slice Option.none 0 0, Value.slice Option.none 0 0, Value.bool false, Value.slice Option.none 0 0, Value.int IntKind.i64 0, Value.int IntKind.i64 0, Value.slice Option.none 0 0, Value.slice Option.none 0 0, Value.slice Option.none 0 0, Value.bool false, Value.int IntKind.i64 0, Value.int IntKind.i64 0, Value.int IntKind.u8 0, Value.int IntKind.u8 0, Value.int IntKind.u8 0, Value.int IntKind.u8 0, Value.int IntKind.u8 0, Value.int IntKind.u8 0, Value.int IntKind.u8 0, Value.int IntKind.u8 0, Value.int IntKind.i64 0, Value.int IntKind.i64 0, Value.int IntKind.i64 0, Value.int IntKind.i64 0, Value.int IntKind.i64 0, Value.slice Option.none 0 0, Value.bool false, Value.slice Option.none 0 0, Value.int IntKind.u8 0, Value.int IntKind.u8 0, Value.int IntKind.u8 0, Value.int IntKind.u8 0, Value.int IntKind.i64 0, Value.slice Option.none 0 0, Value.slice Option.none 0 0, Value.slice Option.none 0 0]) := by kernel_rfl
@[go_sem] theorem und_47 : (Try.prog.underlying 47).isSome = true := by kernel_rfl
@[go_sem] theorem tplaces_47_0 : tplaces Try.prog 47 0 = some (0, 1) := by kernel_rfl
@[go_sem] theorem tfo_47_0 : tfo Try.prog 47 0 = some 0 := by kernel_rfl
@[go_sem] theorem tplaces_47_1 : tplaces Try.prog 47 1 = some (1, 1) := by kernel_rfl
@[go_sem] theorem tfo_47_1 : tfo Try.prog 47 1 = some 1 := by kernel_rfl
@[go_sem] theorem tplaces_47_2 : tplaces Try.prog 47 2 = some (2, 1) := by kernel_rfl
@[go_sem] theorem tfo_47_2 : tfo Try.prog 47 2 = some 2 := by kernel_rfl
@[go_sem] theorem tplaces_47_3 : tplaces Try.prog 47 3 = some (3, 1) := by kernel_rfl
@[go_sem] theorem tfo_47_3 : tfo Try.prog 47 3 = some 3 := by kernel_rfl
@[go_sem] theorem tplaces_47_4 : tplaces Try.prog 47 4 = some (4, 1) := by kernel_rfl
@[go_sem] theorem tfo_47_4 : tfo Try.prog 47 4 = some 4 := by kernel_rfl
@[go_sem] theorem tplaces_47_5 : tplaces Try.prog 47 5 = some (5, 1) := by kernel_rfl
@[go_sem] theorem tfo_47_5 : tfo Try.prog 47 5 = some 5 := by kernel_rfl
@[go_sem] theorem tplaces_47_6 : tplaces Try.prog 47 6 = some (6, 1) := by kernel_rfl
@[go_sem] theorem tfo_47_6 : tfo Try.prog 47 6 = some 6 := by kernel_rfl
@[go_sem] theorem tplaces_47_7 : tplaces Try.prog 47 7 = some (7, 1) := by kernel_rfl
@[go_sem] theorem tfo_47_7 : tfo Try.prog 47 7 = some 7 := by kernel_rfl
@[go_sem] theorem tplaces_47_8 : tplaces Try.prog 47 8 = some (8, 1) := by kernel_rfl
@[go_sem] theorem tfo_47_8 : tfo Try.prog 47 8 = some 8 := by kernel_rfl
@[go_sem] theorem tplaces_47_9 : tplaces Try.prog 47 9 = some (9, 1) := by kernel_rfl
@[go_sem] theorem tfo_47_9 : tfo Try.prog 47 9 = some 9 := by kernel_rfl
@[go_sem] theorem tplaces_47_10 : tplaces Try.prog 47 10 = some (10, 1) := by kernel_rfl
@[go_sem] theorem tfo_47_10 : tfo Try.prog 47 10 = some 10 := by kernel_rfl
@[go_sem] theorem tplaces_47_11 : tplaces Try.prog 47 11 = some (11, 1) := by kernel_rfl
@[go_sem] theorem tfo_47_11 : tfo Try.prog 47 11 = some 11 := by kernel_rfl
@[go_sem] theorem tplaces_47_12 : tplaces Try.prog 47 12 = some (12, 1) := by kernel_rfl
@[go_sem] theorem tfo_47_12 : tfo Try.prog 47 12 = some 12 := by kernel_rfl
@[go_sem] theorem tplaces_47_13 : tplaces Try.prog 47 13 = some (13, 1) := by kernel_rfl
@[go_sem] theorem tfo_47_13 : tfo Try.prog 47 13 = some 13 := by kernel_rfl
@[go_sem] theorem tplaces_47_14 : tplaces Try.prog 47 14 = some (14, 1) := by kernel_rfl
@[go_sem] theorem tfo_47_14 : tfo Try.prog 47 14 = some 14 := by kernel_rfl
@[go_sem] theorem tplaces_47_15 : tplaces Try.prog 47 15 = some (15, 1) := by kernel_rfl
@[go_sem] theorem tfo_47_15 : tfo Try.prog 47 15 = some 15 := by kernel_rfl
@[go_sem] theorem tplaces_47_16 : tplaces Try.prog 47 16 = some (16, 2) := by kernel_rfl
@[go_sem] theorem tfo_47_16 : tfo Try.prog 47 16 = some 16 := by kernel_rfl
@[go_sem] theorem tplaces_47_17 : tplaces Try.prog 47 17 = some (18, 32) := by kernel_rfl
@[go_sem] theorem tfo_47_17 : tfo Try.prog 47 17 = some 18 := by kernel_rfl
@[go_sem] theorem tsz_48 : tsz Try.prog 48 = some 50 := by kernel_rfl
@[go_sem] theorem tagg_48 : tagg Try.prog 48 = some true := by kernel_rfl
@[go_sem] theorem tzero_48 : tzero Try.prog 48 = some [Value.int IntKind.i64 0, Value.int IntKind.i64 0, Value.int IntKind.i64 0, Value.int IntKind.i64 0, Value.int IntKind.i64 0, Value.int IntKind.i64 0, Value.int IntKind.i64 0, Value.slice Option.none 0 0, Value.slice Option.none 0 0, Value.slice Option.none 0 0, Value.slice Option.none 0 0, Value.slice Option.none 0 0, Value.slice Option.none 0 0, Value.slice Option.none 0 0, Value.slice Option.none 0 0, Value.slice Option.none 0 0, Value.bool false, Value.slice Option.none 0 0, Value.int IntKind.i64 0, Value.int IntKind.i64 0, Value.slice Option.none 0 0, Value.slice Option.none 0 0, Value.slice Option.none 0 0, Value.bool false, Value.int IntKind.i64 0, Value.int IntKind.i64 0, Value.int IntKind.u8 0, Value.int IntKind.u8 0, Value.int IntKind.u8 0, Value.int IntKind.u8 0, Value.int IntKind.u8 0, Value.int IntKind.u8 0, Value.int IntKind.u8 0, Value.int IntKind.u8 0, Value.int IntKind.i64 0, Value.int IntKind.i64 0, Value.int IntKind.i64 0, Value.int IntKind.i64 0, Value.int IntKind.i64 0, Value.slice Option.none 0 0, Value.bool false, Value.slice Option.none 0 0, Value.int IntKind.u8 0, Value.int IntKind.u8 0, Value.int IntKind.u8 0, Value.int IntKind.u8 0, Value.int IntKind.i64 0, Value.slice Option.none 0 0, Value.slice Option.none 0 0, Value.slice Option.none 0 0] := by kernel_rfl
@[go_sem] theorem tlay_48 : tlay Try.prog 48 = some (Lay.str [Value.int IntKind.i64 0, Value.int IntKind.i64 0, Value.int IntKind.i64 0, Value.int IntKind.i64 0, Value.int IntKind.i64 0, Value.int IntKind.i64 0, Value.int IntKind.i64 0, Value.slice Option.none 0 0, Value.slice Option.none 0 0, Value.slice Option.none 0 0, Value.slice Option.none 0 0, Value.slice Option.none 0 0, Value.slice Option.none 0 0, Value.slice Option.none 0 0, Value.slice Option.none 0 0, Value.slice Option.none 0 0, Value.bool false, Value.slice Option.none 0 0, Value.int IntKind.i64 0, Value.int IntKind.i64 0, Value.slice Option.none 0 0, Value.slice Option.none 0 0, Value.slice Option.none 0 0, Value.bool false, Value.int IntKind.i64 0, Value.int IntKind.i64 0, Value.int IntKind.u8 0, Value.int IntKind.u8 0, Value.int IntKind.u8 0, Value.int IntKind.u8 0, Value.int IntKind.u8 0, Value.int IntKind.u8 0, Value.int IntKind.u8 0, Value.int IntKind.u8 0, Value.int IntKind.i64 0, Value.int IntKind.i64 0, Value.int IntKind.i64 0, Value.int IntKind.i64 0, Value.int IntKind.i64 0, Value.slice Option.none 0 0, Value.bool false, Value.slice Option.none 0 0, Value.int IntKind.u8 0, Value.int IntKind.u8 0, Value.int IntKind.u8 0, Value.int IntKind.u8 0, Value.int IntKind.i64 0, Value.slice Option.none 0 0, Value.slice Option.none 0 0, Value.slice Option.none 0 0]) := by kernel_rfl
@[go_sem] theorem und_48 : (Try.prog.underlying 48).isSome = true := by kernel_rfl
@[go_sem] theorem tplaces_48_0 : tplaces Try.prog 48 0 = some (0, 1) := by kernel_rfl
@[go_sem] theorem tfo_48_0 : tfo Try.prog 48 0 = some 0 := by kernel_rfl
@[go_sem] theorem tplaces_48_1 : tplaces Try.prog 48 1 = some (1, 1) := by kernel_rfl
@[go_sem] theorem tfo_48_1 : tfo Try.prog 48 1 = some 1 := by kernel_rfl
@[go_sem] theorem tplaces_48_2 : tplaces Try.prog 48 2 = some (2, 1) := by kernel_rfl
@[go_sem] theorem tfo_48_2 : tfo Try.prog 48 2 = some 2 := by kernel_rfl
@[go_sem] theorem tplaces_48_3 : tplaces Try.prog 48 3 = some (3, 1) := by kernel_rfl
@[go_sem] theorem tfo_48_3 : tfo Try.prog 48 3 = some 3 := by kernel_rfl
@[go_sem] theorem tplaces_48_4 : tplaces Try.prog 48 4 = some (4, 1) := by kernel_rfl
@[go_sem] theorem tfo_48_4 : tfo Try.prog 48 4 = some 4 := by kernel_rfl
@[go_sem] theorem tplaces_48_5 : tplaces Try.prog 48 5 = some (5, 1) := by kernel_rfl
@[go_sem] theorem tfo_48_5 : tfo Try.prog 48 5 = some 5 := by kernel_rfl
@[go_sem] theorem tplaces_48_6 : tplaces Try.prog 48 6 = some (6, 1) := by kernel_rfl
@[go_sem] theorem tfo_48_6 : tfo Try.prog 48 6 = some 6 := by kernel_rfl
@[go_sem] theorem tplaces_48_7 : tplaces Try.prog 48 7 = some (7, 1) := by kernel_rfl
@[go_sem] theorem tfo_48_7 : tfo Try.prog 48 7 = some 7 := by kernel_rfl
@[go_sem] theorem tplaces_48_8 : tplaces Try.prog 48 8 = some (8, 1) := by kernel_rfl
@[go_sem] theorem tfo_48_8 : tfo Try.prog 48 8 = some 8 := by kernel_rfl
@[go_sem] theorem tplaces_48_9 : tplaces Try.prog 48 9 = some (9, 1) := by kernel_rfl
@[go_sem] theorem tfo_48_9 : tfo Try.prog 48 9 = some 9 := by kernel_rfl
@[go_sem] theorem tplaces_48_10 : tplaces Try.prog 48 10 = some (10, 1) := by kernel_rfl
@[go_sem] theorem tfo_48_10 : tfo Try.prog 48 10 = some 10 := by kernel_rfl
@[go_sem] theorem tplaces_48_11 : tplaces Try.prog 48 11 = some (11, 1) := by kernel_rfl
@[go_sem] theorem tfo_48_11 : tfo Try.prog 48 11 = some 11 := by kernel_rfl
@[go_sem] theorem tplaces_48_12 : tplaces Try.prog 48 12 = some (12, 1) := by kernel_rfl
@[go_sem] theorem tfo_48_12 : tfo Try.prog 48 12 = some 12 := by kernel_rfl
@[go_sem] theorem tplaces_48_13 : tplaces Try.prog 48 13 = some (13, 1) := by kernel_rfl
@[go_sem] theorem tfo_48_13 : tfo Try.prog 48 13 = some 13 := by kernel_rfl
@[go_sem] theorem tplaces_48_14 : tplaces Try.prog 48 14 = some (14, 1) := by kernel_rfl
@[go_sem] theorem tfo_48_14 : tfo Try.prog 48 14 = some 14 := by kernel_rfl
@[go_sem] theorem tplaces_48_15 : tplaces Try.prog 48 15 = some (15, 1) := by kernel_rfl
@[go_sem] theorem tfo_48_15 : tfo Try.prog 48 15 = some 15 := by kernel_rfl
@[go_sem] theorem tplaces_48_16 : tplaces Try.prog 48 16 = some (16, 2) := by kernel_rfl
@[go_sem] theorem tfo_48_16 : tfo Try.prog 48 16 = some 16 := by kernel_rfl
@[go_sem] theorem tplaces_48_17 : tplaces Try.prog 48 17 = some (18, 32) := by kernel_rfl
@[go_sem] theorem tfo_48_17 : tfo Try.prog 48 17 = some 18 := by kernel_rfl
@[go_sem] theorem tsz_49 : tsz Try.prog 49 = some 1 := by kernel_rfl
@[go_sem] theorem tagg_49 : tagg Try.prog 49 = some false := by kernel_rfl
@[go_sem] theorem und_49 : (Try.prog.underlying 49).isSome = true := by kernel_rfl
@[go_sem] theorem tsz_50 : tsz Try.prog 50 = some 1 := by kernel_rfl
@[go_sem] theorem tagg_50 : tagg Try.prog 50 = some false := by kernel_rfl
@[go_sem] theorem und_50 : (Try.prog.underlying 50).isSome = true := by kernel_rfl
@[go_sem] theorem tsz_51 : tsz Try.prog 51 = some 1 := by kernel_rfl
@[go_sem] theorem tagg_51 : tagg Try.prog 51 = some false := by kernel_rfl
@[go_sem] theorem und_51 : (Try.prog.underlying 51).isSome = true := by kernel_rfl
@[go_sem] theorem tsz_52 : tsz Try.prog 52 = some 1 := by kernel_rfl
@[go_sem] theorem tagg_52 : tagg Try.prog 52 = some false := by kernel_rfl
@[go_sem] theorem und_52 : (Try.prog.underlying 52).isSome = true := by kernel_rfl
@[go_sem] theorem tsz_53 : tsz Try.prog 53 = some 1 := by kernel_rfl
@[go_sem] theorem tagg_53 : tagg Try.prog 53 = some false := by kernel_rfl
@[go_sem] theorem und_53 : (Try.prog.underlying 53).isSome = true := by kernel_rfl
@[go_sem] theorem tsz_54 : tsz Try.prog 54 = some 1 := by kernel_rfl
@[go_sem] theorem tagg_54 : tagg Try.prog 54 = some false := by kernel_rfl
@[go_sem] theorem tzero_54 : tzero Try.prog 54 = some [Value.pointer Option.none] := by kernel_rfl
@[go_sem] theorem und_54 : (Try.prog.underlying 54).isSome = true := by kernel_rfl
@[go_sem] theorem tsz_55 : tsz Try.prog 55 = some 4 := by kernel_rfl
@[go_sem] theorem tagg_55 : tagg Try.prog 55 = some true := by kernel_rfl
@[go_sem] theorem tzero_55 : tzero Try.prog 55 = some [Value.int IntKind.i64 0, Value.int IntKind.i64 0, Value.int IntKind.i64 0, Value.int IntKind.i64 0] := by kernel_rfl
@[go_sem] theorem tlay_55 : tlay Try.prog 55 = some (Lay.str [Value.int IntKind.i64 0, Value.int IntKind.i64 0, Value.int IntKind.i64 0, Value.int IntKind.i64 0]) := by kernel_rfl
@[go_sem] theorem teq_55 : teq Try.prog 55 = some [Lf.i, Lf.i, Lf.i, Lf.i] := by kernel_rfl
@[go_sem] theorem und_55 : (Try.prog.underlying 55).isSome = true := by kernel_rfl
@[go_sem] theorem tplaces_55_0 : tplaces Try.prog 55 0 = some (0, 1) := by kernel_rfl
@[go_sem] theorem tfo_55_0 : tfo Try.prog 55 0 = some 0 := by kernel_rfl
@[go_sem] theorem tplaces_55_1 : tplaces Try.prog 55 1 = some (1, 1) := by kernel_rfl
@[go_sem] theorem tfo_55_1 : tfo Try.prog 55 1 = some 1 := by kernel_rfl
@[go_sem] theorem tplaces_55_2 : tplaces Try.prog 55 2 = some (2, 1) := by kernel_rfl
@[go_sem] theorem tfo_55_2 : tfo Try.prog 55 2 = some 2 := by kernel_rfl
@[go_sem] theorem tplaces_55_3 : tplaces Try.prog 55 3 = some (3, 1) := by kernel_rfl
@[go_sem] theorem tfo_55_3 : tfo Try.prog 55 3 = some 3 := by kernel_rfl
@[go_sem] theorem tsz_56 : tsz Try.prog 56 = some 4 := by kernel_rfl
@[go_sem] theorem tagg_56 : tagg Try.prog 56 = some true := by kernel_rfl
@[go_sem] theorem tzero_56 : tzero Try.prog 56 = some [Value.int IntKind.i64 0, Value.int IntKind.i64 0, Value.int IntKind.i64 0, Value.int IntKind.i64 0] := by kernel_rfl
@[go_sem] theorem tlay_56 : tlay Try.prog 56 = some (Lay.str [Value.int IntKind.i64 0, Value.int IntKind.i64 0, Value.int IntKind.i64 0, Value.int IntKind.i64 0]) := by kernel_rfl
@[go_sem] theorem teq_56 : teq Try.prog 56 = some [Lf.i, Lf.i, Lf.i, Lf.i] := by kernel_rfl
@[go_sem] theorem und_56 : (Try.prog.underlying 56).isSome = true := by kernel_rfl
@[go_sem] theorem tplaces_56_0 : tplaces Try.prog 56 0 = some (0, 1) := by kernel_rfl
@[go_sem] theorem tfo_56_0 : tfo Try.prog 56 0 = some 0 := by kernel_rfl
@[go_sem] theorem tplaces_56_1 : tplaces Try.prog 56 1 = some (1, 1) := by kernel_rfl
@[go_sem] theorem tfo_56_1 : tfo Try.prog 56 1 = some 1 := by kernel_rfl
@[go_sem] theorem tplaces_56_2 : tplaces Try.prog 56 2 = some (2, 1) := by kernel_rfl
@[go_sem] theorem tfo_56_2 : tfo Try.prog 56 2 = some 2 := by kernel_rfl
@[go_sem] theorem tplaces_56_3 : tplaces Try.prog 56 3 = some (3, 1) := by kernel_rfl
@[go_sem] theorem tfo_56_3 : tfo Try.prog 56 3 = some 3 := by kernel_rfl
@[go_sem] theorem tsz_57 : tsz Try.prog 57 = some 7 := by kernel_rfl
@[go_sem] theorem tagg_57 : tagg Try.prog 57 = some true := by kernel_rfl
@[go_sem] theorem tzero_57 : tzero Try.prog 57 = some [Value.int IntKind.i64 0, Value.int IntKind.i64 0, Value.int IntKind.i64 0, Value.int IntKind.i64 0, Value.int IntKind.i64 0, Value.int IntKind.i64 0, Value.int IntKind.i64 0] := by kernel_rfl
@[go_sem] theorem tlay_57 : tlay Try.prog 57 = some (Lay.str [Value.int IntKind.i64 0, Value.int IntKind.i64 0, Value.int IntKind.i64 0, Value.int IntKind.i64 0, Value.int IntKind.i64 0, Value.int IntKind.i64 0, Value.int IntKind.i64 0]) := by kernel_rfl
@[go_sem] theorem teq_57 : teq Try.prog 57 = some [Lf.i, Lf.i, Lf.i, Lf.i, Lf.i, Lf.i, Lf.i] := by kernel_rfl
@[go_sem] theorem und_57 : (Try.prog.underlying 57).isSome = true := by kernel_rfl
@[go_sem] theorem tplaces_57_0 : tplaces Try.prog 57 0 = some (0, 1) := by kernel_rfl
@[go_sem] theorem tfo_57_0 : tfo Try.prog 57 0 = some 0 := by kernel_rfl
@[go_sem] theorem tplaces_57_1 : tplaces Try.prog 57 1 = some (1, 1) := by kernel_rfl
@[go_sem] theorem tfo_57_1 : tfo Try.prog 57 1 = some 1 := by kernel_rfl
@[go_sem] theorem tplaces_57_2 : tplaces Try.prog 57 2 = some (2, 1) := by kernel_rfl
@[go_sem] theorem tfo_57_2 : tfo Try.prog 57 2 = some 2 := by kernel_rfl
@[go_sem] theorem tplaces_57_3 : tplaces Try.prog 57 3 = some (3, 4) := by kernel_rfl
@[go_sem] theorem tfo_57_3 : tfo Try.prog 57 3 = some 3 := by kernel_rfl
@[go_sem] theorem tsz_58 : tsz Try.prog 58 = some 7 := by kernel_rfl
@[go_sem] theorem tagg_58 : tagg Try.prog 58 = some true := by kernel_rfl
@[go_sem] theorem tzero_58 : tzero Try.prog 58 = some [Value.int IntKind.i64 0, Value.int IntKind.i64 0, Value.int IntKind.i64 0, Value.int IntKind.i64 0, Value.int IntKind.i64 0, Value.int IntKind.i64 0, Value.int IntKind.i64 0] := by kernel_rfl
@[go_sem] theorem tlay_58 : tlay Try.prog 58 = some (Lay.str [Value.int IntKind.i64 0, Value.int IntKind.i64 0, Value.int IntKind.i64 0, Value.int IntKind.i64 0, Value.int IntKind.i64 0, Value.int IntKind.i64 0, Value.int IntKind.i64 0]) := by kernel_rfl
@[go_sem] theorem teq_58 : teq Try.prog 58 = some [Lf.i, Lf.i, Lf.i, Lf.i, Lf.i, Lf.i, Lf.i] := by kernel_rfl
@[go_sem] theorem und_58 : (Try.prog.underlying 58).isSome = true := by kernel_rfl
@[go_sem] theorem tplaces_58_0 : tplaces Try.prog 58 0 = some (0, 1) := by kernel_rfl
@[go_sem] theorem tfo_58_0 : tfo Try.prog 58 0 = some 0 := by kernel_rfl
@[go_sem] theorem tplaces_58_1 : tplaces Try.prog 58 1 = some (1, 1) := by kernel_rfl
@[go_sem] theorem tfo_58_1 : tfo Try.prog 58 1 = some 1 := by kernel_rfl
@[go_sem] theorem tplaces_58_2 : tplaces Try.prog 58 2 = some (2, 1) := by kernel_rfl
@[go_sem] theorem tfo_58_2 : tfo Try.prog 58 2 = some 2 := by kernel_rfl
@[go_sem] theorem tplaces_58_3 : tplaces Try.prog 58 3 = some (3, 4) := by kernel_rfl
@[go_sem] theorem tfo_58_3 : tfo Try.prog 58 3 = some 3 := by kernel_rfl
@[go_sem] theorem tsz_59 : tsz Try.prog 59 = some 8 := by kernel_rfl
@[go_sem] theorem tagg_59 : tagg Try.prog 59 = some true := by kernel_rfl
@[go_sem] theorem tzero_59 : tzero Try.prog 59 = some [Value.int IntKind.i64 0, Value.bool false, Value.slice Option.none 0 0, Value.int IntKind.i64 0, Value.int IntKind.i64 0, Value.int IntKind.i64 0, Value.int IntKind.i64 0, Value.int IntKind.i64 0] := by kernel_rfl
@[go_sem] theorem tlay_59 : tlay Try.prog 59 = some (Lay.str [Value.int IntKind.i64 0, Value.bool false, Value.slice Option.none 0 0, Value.int IntKind.i64 0, Value.int IntKind.i64 0, Value.int IntKind.i64 0, Value.int IntKind.i64 0, Value.int IntKind.i64 0]) := by kernel_rfl
@[go_sem] theorem und_59 : (Try.prog.underlying 59).isSome = true := by kernel_rfl
@[go_sem] theorem tplaces_59_0 : tplaces Try.prog 59 0 = some (0, 1) := by kernel_rfl
@[go_sem] theorem tfo_59_0 : tfo Try.prog 59 0 = some 0 := by kernel_rfl
@[go_sem] theorem tplaces_59_1 : tplaces Try.prog 59 1 = some (1, 2) := by kernel_rfl
@[go_sem] theorem tfo_59_1 : tfo Try.prog 59 1 = some 1 := by kernel_rfl
@[go_sem] theorem tplaces_59_2 : tplaces Try.prog 59 2 = some (3, 1) := by kernel_rfl
@[go_sem] theorem tfo_59_2 : tfo Try.prog 59 2 = some 3 := by kernel_rfl
@[go_sem] theorem tplaces_59_3 : tplaces Try.prog 59 3 = some (4, 4) := by kernel_rfl
@[go_sem] theorem tfo_59_3 : tfo Try.prog 59 3 = some 4 := by kernel_rfl
@[go_sem] theorem tsz_60 : tsz Try.prog 60 = some 8 := by kernel_rfl
@[go_sem] theorem tagg_60 : tagg Try.prog 60 = some true := by kernel_rfl
@[go_sem] theorem tzero_60 : tzero Try.prog 60 = some [Value.int IntKind.i64 0, Value.bool false, Value.slice Option.none 0 0, Value.int IntKind.i64 0, Value.int IntKind.i64 0, Value.int IntKind.i64 0, Value.int IntKind.i64 0, Value.int IntKind.i64 0] := by kernel_rfl
@[go_sem] theorem tlay_60 : tlay Try.prog 60 = some (Lay.str [Value.int IntKind.i64 0, Value.bool false, Value.slice Option.none 0 0, Value.int IntKind.i64 0, Value.int IntKind.i64 0, Value.int IntKind.i64 0, Value.int IntKind.i64 0, Value.int IntKind.i64 0]) := by kernel_rfl
@[go_sem] theorem und_60 : (Try.prog.underlying 60).isSome = true := by kernel_rfl
@[go_sem] theorem tplaces_60_0 : tplaces Try.prog 60 0 = some (0, 1) := by kernel_rfl
@[go_sem] theorem tfo_60_0 : tfo Try.prog 60 0 = some 0 := by kernel_rfl
@[go_sem] theorem tplaces_60_1 : tplaces Try.prog 60 1 = some (1, 2) := by kernel_rfl
@[go_sem] theorem tfo_60_1 : tfo Try.prog 60 1 = some 1 := by kernel_rfl
@[go_sem] theorem tplaces_60_2 : tplaces Try.prog 60 2 = some (3, 1) := by kernel_rfl
@[go_sem] theorem tfo_60_2 : tfo Try.prog 60 2 = some 3 := by kernel_rfl
@[go_sem] theorem tplaces_60_3 : tplaces Try.prog 60 3 = some (4, 4) := by kernel_rfl
@[go_sem] theorem tfo_60_3 : tfo Try.prog 60 3 = some 4 := by kernel_rfl
@[go_sem] theorem tsz_61 : tsz Try.prog 61 = some 1 := by kernel_rfl
@[go_sem] theorem tagg_61 : tagg Try.prog 61 = some false := by kernel_rfl
@[go_sem] theorem tzero_61 : tzero Try.prog 61 = some [Value.pointer Option.none] := by kernel_rfl
@[go_sem] theorem und_61 : (Try.prog.underlying 61).isSome = true := by kernel_rfl
@[go_sem] theorem tsz_62 : tsz Try.prog 62 = some 2 := by kernel_rfl
@[go_sem] theorem tagg_62 : tagg Try.prog 62 = some true := by kernel_rfl
@[go_sem] theorem tzero_62 : tzero Try.prog 62 = some [Value.slice Option.none 0 0, Value.int IntKind.i64 0] := by kernel_rfl
@[go_sem] theorem tlay_62 : tlay Try.prog 62 = some (Lay.str [Value.slice Option.none 0 0, Value.int IntKind.i64 0]) := by kernel_rfl
@[go_sem] theorem und_62 : (Try.prog.underlying 62).isSome = true := by kernel_rfl
@[go_sem] theorem tplaces_62_0 : tplaces Try.prog 62 0 = some (0, 1) := by kernel_rfl
@[go_sem] theorem tfo_62_0 : tfo Try.prog 62 0 = some 0 := by kernel_rfl
@[go_sem] theorem tplaces_62_1 : tplaces Try.prog 62 1 = some (1, 1) := by kernel_rfl
@[go_sem] theorem tfo_62_1 : tfo Try.prog 62 1 = some 1 := by kernel_rfl
@[go_sem] theorem tsz_63 : tsz Try.prog 63 = some 2 := by kernel_rfl
@[go_sem] theorem tagg_63 : tagg Try.prog 63 = some true := by kernel_rfl
@[go_sem] theorem tzero_63 : tzero Try.prog 63 = some [Value.slice Option.none 0 0, Value.int IntKind.i64 0] := by kernel_rfl
@[go_sem] theorem tlay_63 : tlay Try.prog 63 = some (Lay.str [Value.slice Option.none 0 0, Value.int IntKind.i64 0]) := by kernel_rfl
@[go_sem] theorem und_63 : (Try.prog.underlying 63).isSome = true := by kernel_rfl
@[go_sem] theorem tplaces_63_0 : tplaces Try.prog 63 0 = some (0, 1) := by kernel_rfl
@[go_sem] theorem tfo_63_0 : tfo Try.prog 63 0 = some 0 := by kernel_rfl
@[go_sem] theorem tplaces_63_1 : tplaces Try.prog 63 1 = some (1, 1) := by kernel_rfl
@[go_sem] theorem tfo_63_1 : tfo Try.prog 63 1 = some 1 := by kernel_rfl
@[go_sem] theorem tsz_64 : tsz Try.prog 64 = some 1 := by kernel_rfl
@[go_sem] theorem tagg_64 : tagg Try.prog 64 = some false := by kernel_rfl
@[go_sem] theorem und_64 : (Try.prog.underlying 64).isSome = true := by kernel_rfl
@[go_sem] theorem tsz_65 : tsz Try.prog 65 = some 1 := by kernel_rfl
@[go_sem] theorem tagg_65 : tagg Try.prog 65 = some false := by kernel_rfl
@[go_sem] theorem und_65 : (Try.prog.underlying 65).isSome = true := by kernel_rfl
@[go_sem] theorem tsz_66 : tsz Try.prog 66 = some 1 := by kernel_rfl
@[go_sem] theorem tagg_66 : tagg Try.prog 66 = some false := by kernel_rfl
@[go_sem] theorem und_66 : (Try.prog.underlying 66).isSome = true := by kernel_rfl
@[go_sem] theorem tsz_67 : tsz Try.prog 67 = some 1 := by kernel_rfl
@[go_sem] theorem tagg_67 : tagg Try.prog 67 = some false := by kernel_rfl
@[go_sem] theorem und_67 : (Try.prog.underlying 67).isSome = true := by kernel_rfl
@[go_sem] theorem tsz_68 : tsz Try.prog 68 = some 1 := by kernel_rfl
@[go_sem] theorem tagg_68 : tagg Try.prog 68 = some false := by kernel_rfl
@[go_sem] theorem und_68 : (Try.prog.underlying 68).isSome = true := by kernel_rfl
@[go_sem] theorem tsz_69 : tsz Try.prog 69 = some 1 := by kernel_rfl
@[go_sem] theorem tagg_69 : tagg Try.prog 69 = some false := by kernel_rfl
@[go_sem] theorem und_69 : (Try.prog.underlying 69).isSome = true := by kernel_rfl
@[go_sem] theorem tsz_70 : tsz Try.prog 70 = some 1 := by kernel_rfl
@[go_sem] theorem tagg_70 : tagg Try.prog 70 = some false := by kernel_rfl
@[go_sem] theorem und_70 : (Try.prog.underlying 70).isSome = true := by kernel_rfl
@[go_sem] theorem tsz_71 : tsz Try.prog 71 = some 1 := by kernel_rfl
@[go_sem] theorem tagg_71 : tagg Try.prog 71 = some false := by kernel_rfl
@[go_sem] theorem und_71 : (Try.prog.underlying 71).isSome = true := by kernel_rfl
@[go_sem] theorem tsz_72 : tsz Try.prog 72 = some 1 := by kernel_rfl
@[go_sem] theorem tagg_72 : tagg Try.prog 72 = some false := by kernel_rfl
@[go_sem] theorem und_72 : (Try.prog.underlying 72).isSome = true := by kernel_rfl
@[go_sem] theorem tsz_73 : tsz Try.prog 73 = some 1 := by kernel_rfl
@[go_sem] theorem tagg_73 : tagg Try.prog 73 = some false := by kernel_rfl
@[go_sem] theorem und_73 : (Try.prog.underlying 73).isSome = true := by kernel_rfl
@[go_sem] theorem tsz_74 : tsz Try.prog 74 = some 1 := by kernel_rfl
@[go_sem] theorem tagg_74 : tagg Try.prog 74 = some false := by kernel_rfl
@[go_sem] theorem und_74 : (Try.prog.underlying 74).isSome = true := by kernel_rfl
@[go_sem] theorem tsz_75 : tsz Try.prog 75 = some 1 := by kernel_rfl
@[go_sem] theorem tagg_75 : tagg Try.prog 75 = some false := by kernel_rfl
@[go_sem] theorem und_75 : (Try.prog.underlying 75).isSome = true := by kernel_rfl
@[go_sem] theorem tsz_76 : tsz Try.prog 76 = some 1 := by kernel_rfl
@[go_sem] theorem tagg_76 : tagg Try.prog 76 = some false := by kernel_rfl
@[go_sem] theorem und_76 : (Try.prog.underlying 76).isSome = true := by kernel_rfl
@[go_sem] theorem tsz_77 : tsz Try.prog 77 = some 1 := by kernel_rfl
@[go_sem] theorem tagg_77 : tagg Try.prog 77 = some false := by kernel_rfl
@[go_sem] theorem tzero_77 : tzero Try.prog 77 = some [Value.slice Option.none 0 0] := by kernel_rfl
@[go_sem] theorem tse_77 : tse Try.prog 77 = some 1 := by kernel_rfl
@[go_sem] theorem tlit_77 : tlit Try.prog 77 = some ([Value.slice Option.none 0 0], 1) := by kernel_rfl
@[go_sem] theorem tapp_77 : tapp Try.prog 77 = some (1, 24) := by kernel_rfl
@[go_sem] theorem tslice_77 : tslice Try.prog 77 = some 32 := by kernel_rfl
@[go_sem] theorem und_77 : (Try.prog.underlying 77).isSome = true := by kernel_rfl
@[go_sem] theorem tsz_78 : tsz Try.prog 78 = some 1 := by kernel_rfl
@[go_sem] theorem tagg_78 : tagg Try.prog 78 = some false := by kernel_rfl
@[go_sem] theorem und_78 : (Try.prog.underlying 78).isSome = true := by kernel_rfl
@[go_sem] theorem tsz_79 : tsz Try.prog 79 = some 1 := by kernel_rfl
@[go_sem] theorem tagg_79 : tagg Try.prog 79 = some false := by kernel_rfl
@[go_sem] theorem und_79 : (Try.prog.underlying 79).isSome = true := by kernel_rfl
@[go_sem] theorem tsz_80 : tsz Try.prog 80 = some 1 := by kernel_rfl
@[go_sem] theorem tagg_80 : tagg Try.prog 80 = some false := by kernel_rfl
@[go_sem] theorem und_80 : (Try.prog.underlying 80).isSome = true := by kernel_rfl
@[go_sem] theorem tsz_81 : tsz Try.prog 81 = some 1 := by kernel_rfl
@[go_sem] theorem tagg_81 : tagg Try.prog 81 = some false := by kernel_rfl
@[go_sem] theorem und_81 : (Try.prog.underlying 81).isSome = true := by kernel_rfl
@[go_sem] theorem tsz_82 : tsz Try.prog 82 = some 1 := by kernel_rfl
@[go_sem] theorem tagg_82 : tagg Try.prog 82 = some false := by kernel_rfl
@[go_sem] theorem und_82 : (Try.prog.underlying 82).isSome = true := by kernel_rfl
@[go_sem] theorem tsz_83 : tsz Try.prog 83 = some 1 := by kernel_rfl
@[go_sem] theorem tagg_83 : tagg Try.prog 83 = some false := by kernel_rfl
@[go_sem] theorem und_83 : (Try.prog.underlying 83).isSome = true := by kernel_rfl
@[go_sem] theorem tsz_84 : tsz Try.prog 84 = some 1 := by kernel_rfl
@[go_sem] theorem tagg_84 : tagg Try.prog 84 = some false := by kernel_rfl
@[go_sem] theorem und_84 : (Try.prog.underlying 84).isSome = true := by kernel_rfl
@[go_sem] theorem tsz_85 : tsz Try.prog 85 = some 1 := by kernel_rfl
@[go_sem] theorem tagg_85 : tagg Try.prog 85 = some false := by kernel_rfl
@[go_sem] theorem und_85 : (Try.prog.underlying 85).isSome = true := by kernel_rfl
@[go_sem] theorem tsz_86 : tsz Try.prog 86 = some 1 := by kernel_rfl
@[go_sem] theorem tagg_86 : tagg Try.prog 86 = some false := by kernel_rfl
@[go_sem] theorem und_86 : (Try.prog.underlying 86).isSome = true := by kernel_rfl
@[go_sem] theorem tsz_87 : tsz Try.prog 87 = some 1 := by kernel_rfl
@[go_sem] theorem tagg_87 : tagg Try.prog 87 = some false := by kernel_rfl
@[go_sem] theorem und_87 : (Try.prog.underlying 87).isSome = true := by kernel_rfl
@[go_sem] theorem tsz_88 : tsz Try.prog 88 = some 1 := by kernel_rfl
@[go_sem] theorem tagg_88 : tagg Try.prog 88 = some false := by kernel_rfl
@[go_sem] theorem und_88 : (Try.prog.underlying 88).isSome = true := by kernel_rfl
@[go_sem] theorem tsz_89 : tsz Try.prog 89 = some 1 := by kernel_rfl
@[go_sem] theorem tagg_89 : tagg Try.prog 89 = some false := by kernel_rfl
@[go_sem] theorem und_89 : (Try.prog.underlying 89).isSome = true := by kernel_rfl
@[go_sem] theorem tsz_90 : tsz Try.prog 90 = some 1 := by kernel_rfl
@[go_sem] theorem tagg_90 : tagg Try.prog 90 = some false := by kernel_rfl
@[go_sem] theorem tzero_90 : tzero Try.prog 90 = some [Value.pointer Option.none] := by kernel_rfl
@[go_sem] theorem und_90 : (Try.prog.underlying 90).isSome = true := by kernel_rfl
@[go_sem] theorem tsz_91 : tsz Try.prog 91 = some 1 := by kernel_rfl
@[go_sem] theorem tagg_91 : tagg Try.prog 91 = some false := by kernel_rfl
@[go_sem] theorem tzero_91 : tzero Try.prog 91 = some [Value.slice Option.none 0 0] := by kernel_rfl
@[go_sem] theorem tse_91 : tse Try.prog 91 = some 1 := by kernel_rfl
@[go_sem] theorem tlit_91 : tlit Try.prog 91 = some ([Value.pointer Option.none], 1) := by kernel_rfl
@[go_sem] theorem tapp_91 : tapp Try.prog 91 = some (1, 8) := by kernel_rfl
@[go_sem] theorem tslice_91 : tslice Try.prog 91 = some 90 := by kernel_rfl
@[go_sem] theorem und_91 : (Try.prog.underlying 91).isSome = true := by kernel_rfl
@[go_sem] theorem tsz_92 : tsz Try.prog 92 = some 1 := by kernel_rfl
@[go_sem] theorem tagg_92 : tagg Try.prog 92 = some false := by kernel_rfl
@[go_sem] theorem und_92 : (Try.prog.underlying 92).isSome = true := by kernel_rfl
@[go_sem] theorem tsz_93 : tsz Try.prog 93 = some 1 := by kernel_rfl
@[go_sem] theorem tagg_93 : tagg Try.prog 93 = some false := by kernel_rfl
@[go_sem] theorem und_93 : (Try.prog.underlying 93).isSome = true := by kernel_rfl
@[go_sem] theorem tsz_94 : tsz Try.prog 94 = some 1 := by kernel_rfl
@[go_sem] theorem tagg_94 : tagg Try.prog 94 = some false := by kernel_rfl
@[go_sem] theorem tzero_94 : tzero Try.prog 94 = some [Value.pointer Option.none] := by kernel_rfl
@[go_sem] theorem und_94 : (Try.prog.underlying 94).isSome = true := by kernel_rfl
@[go_sem] theorem tsz_95 : tsz Try.prog 95 = some 1 := by kernel_rfl
@[go_sem] theorem tagg_95 : tagg Try.prog 95 = some false := by kernel_rfl
@[go_sem] theorem und_95 : (Try.prog.underlying 95).isSome = true := by kernel_rfl
@[go_sem] theorem tsz_96 : tsz Try.prog 96 = some 1 := by kernel_rfl
@[go_sem] theorem tagg_96 : tagg Try.prog 96 = some false := by kernel_rfl
@[go_sem] theorem und_96 : (Try.prog.underlying 96).isSome = true := by kernel_rfl
@[go_sem] theorem tsz_97 : tsz Try.prog 97 = some 10 := by kernel_rfl
@[go_sem] theorem tagg_97 : tagg Try.prog 97 = some true := by kernel_rfl
@[go_sem] theorem tzero_97 : tzero Try.prog 97 = some [Value.int IntKind.i64 0, Value.int IntKind.u8 0, Value.int IntKind.u8 0, Value.int IntKind.u8 0, Value.int IntKind.u8 0, Value.int IntKind.i64 0, Value.int IntKind.i64 0, Value.int IntKind.i64 0, Value.int IntKind.i64 0, Value.int IntKind.i64 0] := by kernel_rfl
@[go_sem] theorem tlay_97 : tlay Try.prog 97 = some (Lay.str [Value.int IntKind.i64 0, Value.int IntKind.u8 0, Value.int IntKind.u8 0, Value.int IntKind.u8 0, Value.int IntKind.u8 0, Value.int IntKind.i64 0, Value.int IntKind.i64 0, Value.int IntKind.i64 0, Value.int IntKind.i64 0, Value.int IntKind.i64 0]) := by kernel_rfl
@[go_sem] theorem teq_97 : teq Try.prog 97 = some [Lf.i, Lf.i, Lf.i, Lf.i, Lf.i, Lf.i, Lf.i, Lf.i, Lf.i, Lf.i] := by kernel_rfl
@[go_sem] theorem und_97 : (Try.prog.underlying 97).isSome = true := by kernel_rfl
@[go_sem] theorem tplaces_97_0 : tplaces Try.prog 97 0 = some (0, 1) := by kernel_rfl
@[go_sem] theorem tfo_97_0 : tfo Try.prog 97 0 = some 0 := by kernel_rfl
@[go_sem] theorem tplaces_97_1 : tplaces Try.prog 97 1 = some (1, 4) := by kernel_rfl
@[go_sem] theorem tfo_97_1 : tfo Try.prog 97 1 = some 1 := by kernel_rfl
@[go_sem] theorem tplaces_97_2 : tplaces Try.prog 97 2 = some (5, 1) := by kernel_rfl
@[go_sem] theorem tfo_97_2 : tfo Try.prog 97 2 = some 5 := by kernel_rfl
@[go_sem] theorem tplaces_97_3 : tplaces Try.prog 97 3 = some (6, 4) := by kernel_rfl
@[go_sem] theorem tfo_97_3 : tfo Try.prog 97 3 = some 6 := by kernel_rfl
@[go_sem] theorem tsz_98 : tsz Try.prog 98 = some 10 := by kernel_rfl
@[go_sem] theorem tagg_98 : tagg Try.prog 98 = some true := by kernel_rfl
@[go_sem] theorem tzero_98 : tzero Try.prog 98 = some [Value.int IntKind.i64 0, Value.int IntKind.u8 0, Value.int IntKind.u8 0, Value.int IntKind.u8 0, Value.int IntKind.u8 0, Value.int IntKind.i64 0, Value.int IntKind.i64 0, Value.int IntKind.i64 0, Value.int IntKind.i64 0, Value.int IntKind.i64 0] := by kernel_rfl
@[go_sem] theorem tlay_98 : tlay Try.prog 98 = some (Lay.str [Value.int IntKind.i64 0, Value.int IntKind.u8 0, Value.int IntKind.u8 0, Value.int IntKind.u8 0, Value.int IntKind.u8 0, Value.int IntKind.i64 0, Value.int IntKind.i64 0, Value.int IntKind.i64 0, Value.int IntKind.i64 0, Value.int IntKind.i64 0]) := by kernel_rfl
@[go_sem] theorem teq_98 : teq Try.prog 98 = some [Lf.i, Lf.i, Lf.i, Lf.i, Lf.i, Lf.i, Lf.i, Lf.i, Lf.i, Lf.i] := by kernel_rfl
@[go_sem] theorem und_98 : (Try.prog.underlying 98).isSome = true := by kernel_rfl
@[go_sem] theorem tplaces_98_0 : tplaces Try.prog 98 0 = some (0, 1) := by kernel_rfl
@[go_sem] theorem tfo_98_0 : tfo Try.prog 98 0 = some 0 := by kernel_rfl
@[go_sem] theorem tplaces_98_1 : tplaces Try.prog 98 1 = some (1, 4) := by kernel_rfl
@[go_sem] theorem tfo_98_1 : tfo Try.prog 98 1 = some 1 := by kernel_rfl
@[go_sem] theorem tplaces_98_2 : tplaces Try.prog 98 2 = some (5, 1) := by kernel_rfl
@[go_sem] theorem tfo_98_2 : tfo Try.prog 98 2 = some 5 := by kernel_rfl
@[go_sem] theorem tplaces_98_3 : tplaces Try.prog 98 3 = some (6, 4) := by kernel_rfl
@[go_sem] theorem tfo_98_3 : tfo Try.prog 98 3 = some 6 := by kernel_rfl
@[go_sem] theorem tsz_99 : tsz Try.prog 99 = some 1 := by kernel_rfl
@[go_sem] theorem tagg_99 : tagg Try.prog 99 = some false := by kernel_rfl
@[go_sem] theorem und_99 : (Try.prog.underlying 99).isSome = true := by kernel_rfl
@[go_sem] theorem tsz_100 : tsz Try.prog 100 = some 1 := by kernel_rfl
@[go_sem] theorem tagg_100 : tagg Try.prog 100 = some false := by kernel_rfl
@[go_sem] theorem und_100 : (Try.prog.underlying 100).isSome = true := by kernel_rfl
@[go_sem] theorem tsz_101 : tsz Try.prog 101 = some 1 := by kernel_rfl
@[go_sem] theorem tagg_101 : tagg Try.prog 101 = some false := by kernel_rfl
@[go_sem] theorem und_101 : (Try.prog.underlying 101).isSome = true := by kernel_rfl
@[go_sem] theorem tsz_102 : tsz Try.prog 102 = some 1 := by kernel_rfl
@[go_sem] theorem tagg_102 : tagg Try.prog 102 = some false := by kernel_rfl
@[go_sem] theorem und_102 : (Try.prog.underlying 102).isSome = true := by kernel_rfl
@[go_sem] theorem tsz_103 : tsz Try.prog 103 = some 1 := by kernel_rfl
@[go_sem] theorem tagg_103 : tagg Try.prog 103 = some false := by kernel_rfl
@[go_sem] theorem und_103 : (Try.prog.underlying 103).isSome = true := by kernel_rfl
@[go_sem] theorem tsz_104 : tsz Try.prog 104 = some 1 := by kernel_rfl
@[go_sem] theorem tagg_104 : tagg Try.prog 104 = some false := by kernel_rfl
@[go_sem] theorem und_104 : (Try.prog.underlying 104).isSome = true := by kernel_rfl
@[go_sem] theorem tsz_105 : tsz Try.prog 105 = some 1 := by kernel_rfl
@[go_sem] theorem tagg_105 : tagg Try.prog 105 = some false := by kernel_rfl
@[go_sem] theorem und_105 : (Try.prog.underlying 105).isSome = true := by kernel_rfl
@[go_sem] theorem tsz_106 : tsz Try.prog 106 = some 1 := by kernel_rfl
@[go_sem] theorem tagg_106 : tagg Try.prog 106 = some false := by kernel_rfl
@[go_sem] theorem und_106 : (Try.prog.underlying 106).isSome = true := by kernel_rfl
@[go_sem] theorem tsz_107 : tsz Try.prog 107 = some 1 := by kernel_rfl
@[go_sem] theorem tagg_107 : tagg Try.prog 107 = some false := by kernel_rfl
@[go_sem] theorem und_107 : (Try.prog.underlying 107).isSome = true := by kernel_rfl
@[go_sem] theorem tsz_108 : tsz Try.prog 108 = some 1 := by kernel_rfl
@[go_sem] theorem tagg_108 : tagg Try.prog 108 = some false := by kernel_rfl
@[go_sem] theorem und_108 : (Try.prog.underlying 108).isSome = true := by kernel_rfl
@[go_sem] theorem tsz_109 : tsz Try.prog 109 = some 1 := by kernel_rfl
@[go_sem] theorem tagg_109 : tagg Try.prog 109 = some false := by kernel_rfl
@[go_sem] theorem und_109 : (Try.prog.underlying 109).isSome = true := by kernel_rfl
@[go_sem] theorem tsz_110 : tsz Try.prog 110 = some 1 := by kernel_rfl
@[go_sem] theorem tagg_110 : tagg Try.prog 110 = some false := by kernel_rfl
@[go_sem] theorem und_110 : (Try.prog.underlying 110).isSome = true := by kernel_rfl
@[go_sem] theorem tsz_111 : tsz Try.prog 111 = some 1 := by kernel_rfl
@[go_sem] theorem tagg_111 : tagg Try.prog 111 = some false := by kernel_rfl
@[go_sem] theorem und_111 : (Try.prog.underlying 111).isSome = true := by kernel_rfl
@[go_sem] theorem tsz_112 : tsz Try.prog 112 = some 1 := by kernel_rfl
@[go_sem] theorem tagg_112 : tagg Try.prog 112 = some false := by kernel_rfl
@[go_sem] theorem und_112 : (Try.prog.underlying 112).isSome = true := by kernel_rfl
@[go_sem] theorem tsz_113 : tsz Try.prog 113 = some 1 := by kernel_rfl
@[go_sem] theorem tagg_113 : tagg Try.prog 113 = some false := by kernel_rfl
@[go_sem] theorem und_113 : (Try.prog.underlying 113).isSome = true := by kernel_rfl
@[go_sem] theorem tsz_114 : tsz Try.prog 114 = some 1 := by kernel_rfl
@[go_sem] theorem tagg_114 : tagg Try.prog 114 = some false := by kernel_rfl
@[go_sem] theorem und_114 : (Try.prog.underlying 114).isSome = true := by kernel_rfl
@[go_sem] theorem tsz_115 : tsz Try.prog 115 = some 1 := by kernel_rfl
@[go_sem] theorem tagg_115 : tagg Try.prog 115 = some false := by kernel_rfl
@[go_sem] theorem und_115 : (Try.prog.underlying 115).isSome = true := by kernel_rfl
@[go_sem] theorem tsz_116 : tsz Try.prog 116 = some 1 := by kernel_rfl
@[go_sem] theorem tagg_116 : tagg Try.prog 116 = some false := by kernel_rfl
@[go_sem] theorem und_116 : (Try.prog.underlying 116).isSome = true := by kernel_rfl
@[go_sem] theorem tsz_117 : tsz Try.prog 117 = some 1 := by kernel_rfl
@[go_sem] theorem tagg_117 : tagg Try.prog 117 = some false := by kernel_rfl
@[go_sem] theorem und_117 : (Try.prog.underlying 117).isSome = true := by kernel_rfl
@[go_sem] theorem tsz_118 : tsz Try.prog 118 = some 1 := by kernel_rfl
@[go_sem] theorem tagg_118 : tagg Try.prog 118 = some false := by kernel_rfl
@[go_sem] theorem und_118 : (Try.prog.underlying 118).isSome = true := by kernel_rfl
@[go_sem] theorem tsz_119 : tsz Try.prog 119 = some 1 := by kernel_rfl
@[go_sem] theorem tagg_119 : tagg Try.prog 119 = some false := by kernel_rfl
@[go_sem] theorem tzero_119 : tzero Try.prog 119 = some [Value.slice Option.none 0 0] := by kernel_rfl
@[go_sem] theorem tse_119 : tse Try.prog 119 = some 1 := by kernel_rfl
@[go_sem] theorem tlit_119 : tlit Try.prog 119 = some ([Value.int IntKind.u8 0], 1) := by kernel_rfl
@[go_sem] theorem tapp_119 : tapp Try.prog 119 = some (1, 1) := by kernel_rfl
@[go_sem] theorem tslice_119 : tslice Try.prog 119 = some 5 := by kernel_rfl
@[go_sem] theorem und_119 : (Try.prog.underlying 119).isSome = true := by kernel_rfl
@[go_sem] theorem tsz_120 : tsz Try.prog 120 = some 1 := by kernel_rfl
@[go_sem] theorem tagg_120 : tagg Try.prog 120 = some false := by kernel_rfl
@[go_sem] theorem und_120 : (Try.prog.underlying 120).isSome = true := by kernel_rfl
@[go_sem] theorem tsz_121 : tsz Try.prog 121 = some 1 := by kernel_rfl
@[go_sem] theorem tagg_121 : tagg Try.prog 121 = some false := by kernel_rfl
@[go_sem] theorem und_121 : (Try.prog.underlying 121).isSome = true := by kernel_rfl
@[go_sem] theorem tsz_122 : tsz Try.prog 122 = some 1 := by kernel_rfl
@[go_sem] theorem tagg_122 : tagg Try.prog 122 = some false := by kernel_rfl
@[go_sem] theorem und_122 : (Try.prog.underlying 122).isSome = true := by kernel_rfl
@[go_sem] theorem tsz_123 : tsz Try.prog 123 = some 1 := by kernel_rfl
@[go_sem] theorem tagg_123 : tagg Try.prog 123 = some false := by kernel_rfl
@[go_sem] theorem und_123 : (Try.prog.underlying 123).isSome = true := by kernel_rfl
@[go_sem] theorem tsz_124 : tsz Try.prog 124 = some 1 := by kernel_rfl
@[go_sem] theorem tagg_124 : tagg Try.prog 124 = some false := by kernel_rfl
@[go_sem] theorem und_124 : (Try.prog.underlying 124).isSome = true := by kernel_rfl
@[go_sem] theorem tsz_125 : tsz Try.prog 125 = some 1 := by kernel_rfl
@[go_sem] theorem tagg_125 : tagg Try.prog 125 = some false := by kernel_rfl
@[go_sem] theorem und_125 : (Try.prog.underlying 125).isSome = true := by kernel_rfl
@[go_sem] theorem tsz_126 : tsz Try.prog 126 = some 1 := by kernel_rfl
@[go_sem] theorem tagg_126 : tagg Try.prog 126 = some false := by kernel_rfl
@[go_sem] theorem und_126 : (Try.prog.underlying 126).isSome = true := by kernel_rfl
@[go_sem] theorem tsz_127 : tsz Try.prog 127 = some 1 := by kernel_rfl
@[go_sem] theorem tagg_127 : tagg Try.prog 127 = some false := by kernel_rfl
@[go_sem] theorem und_127 : (Try.prog.underlying 127).isSome = true := by kernel_rfl
@[go_sem] theorem tsz_128 : tsz Try.prog 128 = some 1 := by kernel_rfl
@[go_sem] theorem tagg_128 : tagg Try.prog 128 = some false := by kernel_rfl
@[go_sem] theorem und_128 : (Try.prog.underlying 128).isSome = true := by kernel_rfl
@[go_sem] theorem tsz_129 : tsz Try.prog 129 = some 1 := by kernel_rfl
@[go_sem] theorem tagg_129 : tagg Try.prog 129 = some false := by kernel_rfl
@[go_sem] theorem und_129 : (Try.prog.underlying 129).isSome = true := by kernel_rfl
@[go_sem] theorem tsz_130 : tsz Try.prog 130 = some 1 := by kernel_rfl
@[go_sem] theorem tagg_130 : tagg Try.prog 130 = some false := by kernel_rfl
@[go_sem] theorem und_130 : (Try.prog.underlying 130).isSome = true := by kernel_rfl
@[go_sem] theorem tsz_131 : tsz Try.prog 131 = some 1 := by kernel_rfl
@[go_sem] theorem tagg_131 : tagg Try.prog 131 = some false := by kernel_rfl
@[go_sem] theorem und_131 : (Try.prog.underlying 131).isSome = true := by kernel_rfl
@[go_sem] theorem tsz_132 : tsz Try.prog 132 = some 1 := by kernel_rfl
@[go_sem] theorem tagg_132 : tagg Try.prog 132 = some false := by kernel_rfl
@[go_sem] theorem und_132 : (Try.prog.underlying 132).isSome = true := by kernel_rfl
@[go_sem] theorem tsz_133 : tsz Try.prog 133 = some 1 := by kernel_rfl
@[go_sem] theorem tagg_133 : tagg Try.prog 133 = some false := by kernel_rfl
@[go_sem] theorem und_133 : (Try.prog.underlying 133).isSome = true := by kernel_rfl
@[go_sem] theorem tsz_134 : tsz Try.prog 134 = some 1 := by kernel_rfl
@[go_sem] theorem tagg_134 : tagg Try.prog 134 = some false := by kernel_rfl
@[go_sem] theorem und_134 : (Try.prog.underlying 134).isSome = true := by kernel_rfl
@[go_sem] theorem tsz_135 : tsz Try.prog 135 = some 4 := by kernel_rfl
@[go_sem] theorem tagg_135 : tagg Try.prog 135 = some true := by kernel_rfl
@[go_sem] theorem tzero_135 : tzero Try.prog 135 = some [Value.pointer Option.none, Value.pointer Option.none, Value.pointer Option.none, Value.string { data := { toList := [] } }] := by kernel_rfl
@[go_sem] theorem tlay_135 : tlay Try.prog 135 = some (Lay.str [Value.pointer Option.none, Value.pointer Option.none, Value.pointer Option.none, Value.string { data := { toList := [] } }]) := by kernel_rfl
@[go_sem] theorem und_135 : (Try.prog.underlying 135).isSome = true := by kernel_rfl
@[go_sem] theorem tplaces_135_0 : tplaces Try.prog 135 0 = some (0, 1) := by kernel_rfl
@[go_sem] theorem tfo_135_0 : tfo Try.prog 135 0 = some 0 := by kernel_rfl
@[go_sem] theorem tplaces_135_1 : tplaces Try.prog 135 1 = some (1, 1) := by kernel_rfl
@[go_sem] theorem tfo_135_1 : tfo Try.prog 135 1 = some 1 := by kernel_rfl
@[go_sem] theorem tplaces_135_2 : tplaces Try.prog 135 2 = some (2, 1) := by kernel_rfl
@[go_sem] theorem tfo_135_2 : tfo Try.prog 135 2 = some 2 := by kernel_rfl
@[go_sem] theorem tplaces_135_3 : tplaces Try.prog 135 3 = some (3, 1) := by kernel_rfl
@[go_sem] theorem tfo_135_3 : tfo Try.prog 135 3 = some 3 := by kernel_rfl
@[go_sem] theorem tsz_136 : tsz Try.prog 136 = some 4 := by kernel_rfl
@[go_sem] theorem tagg_136 : tagg Try.prog 136 = some true := by kernel_rfl
@[go_sem] theorem tzero_136 : tzero Try.prog 136 = some [Value.pointer Option.none, Value.pointer Option.none, Value.pointer Option.none, Value.string { data := { toList := [] } }] := by kernel_rfl
@[go_sem] theorem tlay_136 : tlay Try.prog 136 = some (Lay.str [Value.pointer Option.none, Value.pointer Option.none, Value.pointer Option.none, Value.string { data := { toList := [] } }]) := by kernel_rfl
@[go_sem] theorem und_136 : (Try.prog.underlying 136).isSome = true := by kernel_rfl
@[go_sem] theorem tplaces_136_0 : tplaces Try.prog 136 0 = some (0, 1) := by kernel_rfl
@[go_sem] theorem tfo_136_0 : tfo Try.prog 136 0 = some 0 := by kernel_rfl
@[go_sem] theorem tplaces_136_1 : tplaces Try.prog 136 1 = some (1, 1) := by kernel_rfl
@[go_sem] theorem tfo_136_1 : tfo Try.prog 136 1 = some 1 := by kernel_rfl
@[go_sem] theorem tplaces_136_2 : tplaces Try.prog 136 2 = some (2, 1) := by kernel_rfl
@[go_sem] theorem tfo_136_2 : tfo Try.prog 136 2 = some 2 := by kernel_rfl
@[go_sem] theorem tplaces_136_3 : tplaces Try.prog 136 3 = some (3, 1) := by kernel_rfl
@[go_sem] theorem tfo_136_3 : tfo Try.prog 136 3 = some 3 := by kernel_rfl
@[go_sem] theorem tsz_137 : tsz Try.prog 137 = some 0 := by kernel_rfl
@[go_sem] theorem tagg_137 : tagg Try.prog 137 = some true := by kernel_rfl
@[go_sem] theorem tzero_137 : tzero Try.prog 137 = some [] := by kernel_rfl
@[go_sem] theorem tae_137 : tae Try.prog 137 = some (0, 1) := by kernel_rfl
@[go_sem] theorem tlay_137 : tlay Try.prog 137 = some (Lay.arr [] 1) := by kernel_rfl
@[go_sem] theorem tarr_137 : tarr Try.prog 137 = some (0, 16) := by kernel_rfl
@[go_sem] theorem und_137 : (Try.prog.underlying 137).isSome = true := by kernel_rfl
@[go_sem] theorem tsz_138 : tsz Try.prog 138 = some 0 := by kernel_rfl
@[go_sem] theorem tagg_138 : tagg Try.prog 138 = some true := by kernel_rfl
@[go_sem] theorem tzero_138 : tzero Try.prog 138 = some [] := by kernel_rfl
@[go_sem] theorem tlay_138 : tlay Try.prog 138 = some (Lay.str []) := by kernel_rfl
@[go_sem] theorem und_138 : (Try.prog.underlying 138).isSome = true := by kernel_rfl
@[go_sem] theorem tplaces_138_0 : tplaces Try.prog 138 0 = some (0, 0) := by kernel_rfl
@[go_sem] theorem tsz_139 : tsz Try.prog 139 = some 0 := by kernel_rfl
@[go_sem] theorem tagg_139 : tagg Try.prog 139 = some true := by kernel_rfl
@[go_sem] theorem tzero_139 : tzero Try.prog 139 = some [] := by kernel_rfl
@[go_sem] theorem tlay_139 : tlay Try.prog 139 = some (Lay.str []) := by kernel_rfl
@[go_sem] theorem und_139 : (Try.prog.underlying 139).isSome = true := by kernel_rfl
@[go_sem] theorem tplaces_139_0 : tplaces Try.prog 139 0 = some (0, 0) := by kernel_rfl
@[go_sem] theorem tsz_140 : tsz Try.prog 140 = some 1 := by kernel_rfl
@[go_sem] theorem tagg_140 : tagg Try.prog 140 = some false := by kernel_rfl
@[go_sem] theorem und_140 : (Try.prog.underlying 140).isSome = true := by kernel_rfl
@[go_sem] theorem tsz_141 : tsz Try.prog 141 = some 1 := by kernel_rfl
@[go_sem] theorem tagg_141 : tagg Try.prog 141 = some false := by kernel_rfl
@[go_sem] theorem tzero_141 : tzero Try.prog 141 = some [Value.int IntKind.u32 0] := by kernel_rfl
@[go_sem] theorem tkind_141 : tkind Try.prog 141 = some IntKind.u32 := by kernel_rfl
@[go_sem] theorem und_141 : (Try.prog.underlying 141).isSome = true := by kernel_rfl
@[go_sem] theorem tsz_142 : tsz Try.prog 142 = some 1 := by kernel_rfl
@[go_sem] theorem tagg_142 : tagg Try.prog 142 = some false := by kernel_rfl
@[go_sem] theorem tzero_142 : tzero Try.prog 142 = some [Value.int IntKind.u8 0] := by kernel_rfl
@[go_sem] theorem tkind_142 : tkind Try.prog 142 = some IntKind.u8 := by kernel_rfl
@[go_sem] theorem und_142 : (Try.prog.underlying 142).isSome = true := by kernel_rfl
@[go_sem] theorem tsz_143 : tsz Try.prog 143 = some 1 := by kernel_rfl
@[go_sem] theorem tagg_143 : tagg Try.prog 143 = some false := by kernel_rfl
@[go_sem] theorem tzero_143 : tzero Try.prog 143 = some [Value.int IntKind.u8 0] := by kernel_rfl
@[go_sem] theorem tkind_143 : tkind Try.prog 143 = some IntKind.u8 := by kernel_rfl
@[go_sem] theorem und_143 : (Try.prog.underlying 143).isSome = true := by kernel_rfl
@[go_sem] theorem tsz_144 : tsz Try.prog 144 = some 1 := by kernel_rfl
@[go_sem] theorem tagg_144 : tagg Try.prog 144 = some false := by kernel_rfl
@[go_sem] theorem und_144 : (Try.prog.underlying 144).isSome = true := by kernel_rfl
@[go_sem] theorem tsz_145 : tsz Try.prog 145 = some 1 := by kernel_rfl
@[go_sem] theorem tagg_145 : tagg Try.prog 145 = some false := by kernel_rfl
@[go_sem] theorem tzero_145 : tzero Try.prog 145 = some [Value.pointer Option.none] := by kernel_rfl
@[go_sem] theorem und_145 : (Try.prog.underlying 145).isSome = true := by kernel_rfl
@[go_sem] theorem tsz_146 : tsz Try.prog 146 = some 1 := by kernel_rfl
@[go_sem] theorem tagg_146 : tagg Try.prog 146 = some false := by kernel_rfl
@[go_sem] theorem tzero_146 : tzero Try.prog 146 = some [Value.int IntKind.i32 0] := by kernel_rfl
@[go_sem] theorem tkind_146 : tkind Try.prog 146 = some IntKind.i32 := by kernel_rfl
@[go_sem] theorem und_146 : (Try.prog.underlying 146).isSome = true := by kernel_rfl
@[go_sem] theorem tsz_147 : tsz Try.prog 147 = some 1 := by kernel_rfl
@[go_sem] theorem tagg_147 : tagg Try.prog 147 = some false := by kernel_rfl
@[go_sem] theorem tzero_147 : tzero Try.prog 147 = some [Value.int IntKind.i32 0] := by kernel_rfl
@[go_sem] theorem tkind_147 : tkind Try.prog 147 = some IntKind.i32 := by kernel_rfl
@[go_sem] theorem und_147 : (Try.prog.underlying 147).isSome = true := by kernel_rfl
@[go_sem] theorem tsz_148 : tsz Try.prog 148 = some 11 := by kernel_rfl
@[go_sem] theorem tagg_148 : tagg Try.prog 148 = some true := by kernel_rfl
@[go_sem] theorem und_148 : (Try.prog.underlying 148).isSome = true := by kernel_rfl
@[go_sem] theorem tplaces_148_0 : tplaces Try.prog 148 0 = some (0, 1) := by kernel_rfl
@[go_sem] theorem tfo_148_0 : tfo Try.prog 148 0 = some 0 := by kernel_rfl
@[go_sem] theorem tplaces_148_1 : tplaces Try.prog 148 1 = some (1, 1) := by kernel_rfl
@[go_sem] theorem tfo_148_1 : tfo Try.prog 148 1 = some 1 := by kernel_rfl
@[go_sem] theorem tplaces_148_2 : tplaces Try.prog 148 2 = some (2, 1) := by kernel_rfl
@[go_sem] theorem tfo_148_2 : tfo Try.prog 148 2 = some 2 := by kernel_rfl
@[go_sem] theorem tplaces_148_3 : tplaces Try.prog 148 3 = some (3, 1) := by kernel_rfl
@[go_sem] theorem tfo_148_3 : tfo Try.prog 148 3 = some 3 := by kernel_rfl
@[go_sem] theorem tplaces_148_4 : tplaces Try.prog 148 4 = some (4, 1) := by kernel_rfl
@[go_sem] theorem tfo_148_4 : tfo Try.prog 148 4 = some 4 := by kernel_rfl
@[go_sem] theorem tplaces_148_5 : tplaces Try.prog 148 5 = some (5, 1) := by kernel_rfl
@[go_sem] theorem tfo_148_5 : tfo Try.prog 148 5 = some 5 := by kernel_rfl
@[go_sem] theorem tplaces_148_6 : tplaces Try.prog 148 6 = some (6, 1) := by kernel_rfl
@[go_sem] theorem tfo_148_6 : tfo Try.prog 148 6 = some 6 := by kernel_rfl
@[go_sem] theorem tplaces_148_7 : tplaces Try.prog 148 7 = some (7, 1) := by kernel_rfl
@[go_sem] theorem tfo_148_7 : tfo Try.prog 148 7 = some 7 := by kernel_rfl
@[go_sem] theorem tplaces_148_8 : tplaces Try.prog 148 8 = some (8, 1) := by kernel_rfl
@[go_sem] theorem tfo_148_8 : tfo Try.prog 148 8 = some 8 := by kernel_rfl
@[go_sem] theorem tplaces_148_9 : tplaces Try.prog 148 9 = some (9, 1) := by kernel_rfl
@[go_sem] theorem tfo_148_9 : tfo Try.prog 148 9 = some 9 := by kernel_rfl
@[go_sem] theorem tplaces_148_10 : tplaces Try.prog 148 10 = some (10, 1) := by kernel_rfl
@[go_sem] theorem tfo_148_10 : tfo Try.prog 148 10 = some 10 := by kernel_rfl
@[go_sem] theorem tsz_149 : tsz Try.prog 149 = some 11 := by kernel_rfl
@[go_sem] theorem tagg_149 : tagg Try.prog 149 = some true := by kernel_rfl
@[go_sem] theorem und_149 : (Try.prog.underlying 149).isSome = true := by kernel_rfl
@[go_sem] theorem tplaces_149_0 : tplaces Try.prog 149 0 = some (0, 1) := by kernel_rfl
@[go_sem] theorem tfo_149_0 : tfo Try.prog 149 0 = some 0 := by kernel_rfl
@[go_sem] theorem tplaces_149_1 : tplaces Try.prog 149 1 = some (1, 1) := by kernel_rfl
@[go_sem] theorem tfo_149_1 : tfo Try.prog 149 1 = some 1 := by kernel_rfl
@[go_sem] theorem tplaces_149_2 : tplaces Try.prog 149 2 = some (2, 1) := by kernel_rfl
@[go_sem] theorem tfo_149_2 : tfo Try.prog 149 2 = some 2 := by kernel_rfl
@[go_sem] theorem tplaces_149_3 : tplaces Try.prog 149 3 = some (3, 1) := by kernel_rfl
@[go_sem] theorem tfo_149_3 : tfo Try.prog 149 3 = some 3 := by kernel_rfl
@[go_sem] theorem tplaces_149_4 : tplaces Try.prog 149 4 = some (4, 1) := by kernel_rfl
@[go_sem] theorem tfo_149_4 : tfo Try.prog 149 4 = some 4 := by kernel_rfl
@[go_sem] theorem tplaces_149_5 : tplaces Try.prog 149 5 = some (5, 1) := by kernel_rfl
@[go_sem] theorem tfo_149_5 : tfo Try.prog 149 5 = some 5 := by kernel_rfl
@[go_sem] theorem tplaces_149_6 : tplaces Try.prog 149 6 = some (6, 1) := by kernel_rfl
@[go_sem] theorem tfo_149_6 : tfo Try.prog 149 6 = some 6 := by kernel_rfl
@[go_sem] theorem tplaces_149_7 : tplaces Try.prog 149 7 = some (7, 1) := by kernel_rfl
@[go_sem] theorem tfo_149_7 : tfo Try.prog 149 7 = some 7 := by kernel_rfl
@[go_sem] theorem tplaces_149_8 : tplaces Try.prog 149 8 = some (8, 1) := by kernel_rfl
@[go_sem] theorem tfo_149_8 : tfo Try.prog 149 8 = some 8 := by kernel_rfl
@[go_sem] theorem tplaces_149_9 : tplaces Try.prog 149 9 = some (9, 1) := by kernel_rfl
@[go_sem] theorem tfo_149_9 : tfo Try.prog 149 9 = some 9 := by kernel_rfl
@[go_sem] theorem tplaces_149_10 : tplaces Try.prog 149 10 = some (10, 1) := by kernel_rfl
@[go_sem] theorem tfo_149_10 : tfo Try.prog 149 10 = some 10 := by kernel_rfl
@[go_sem] theorem tsz_150 : tsz Try.prog 150 = some 1 := by kernel_rfl
@[go_sem] theorem tagg_150 : tagg Try.prog 150 = some false := by kernel_rfl
@[go_sem] theorem tzero_150 : tzero Try.prog 150 = some [Value.pointer Option.none] := by kernel_rfl
@[go_sem] theorem und_150 : (Try.prog.underlying 150).isSome = true := by kernel_rfl
end Go.Proofs.Ytnebnbdeobcegaa.Facts
/- Small things that all walks use: the numbers' kinds; a number held between two. -/
namespace Go.Proofs.Ytnebnbdeobcegaa
open Go Go.RowKit E
theorem hm : Try.prog.follows .mixedOrders = true := by decide
theorem wi {n : Int} (h1 : -9223372036854775808 ≤ n) (h2 : n ≤ 9223372036854775807) : IntKind.i64.wrap n = n := by rw [IntKind.wrap_i64]; omega
theorem w8 {n : Int} (h1 : 0 ≤ n) (h2 : n ≤ 255) : IntKind.u8.wrap n = n := by rw [IntKind.wrap_u8]; omega
theorem w64 {n : Int} (h1 : 0 ≤ n) (h2 : n ≤ 18446744073709551615) : IntKind.u64.wrap n = n := IntWalk.u64_in n ⟨h1, h2⟩
abbrev I64 (a : Int) : Prop := -9223372036854775808 ≤ a ∧ a ≤ 9223372036854775807
def clamp (a lo hi : Int) : Int := if a < lo then lo else if hi < a then hi else a
def hold (a : Int) : Int := clamp a (-1099511627776) 1099511627776
def place (a : Int) : Int := clamp a (-536870912) 536870912
theorem clamp_b (a lo hi : Int) (h : lo ≤ hi) : lo ≤ clamp a lo hi ∧ clamp a lo hi ≤ hi := by unfold clamp; split <;> (try split) <;> omega
theorem clamp_in {a lo hi : Int} (h1 : lo ≤ a) (h2 : a ≤ hi) : clamp a lo hi = a := by unfold clamp; rw [if_neg (by omega), if_neg (by omega)]
theorem hold_b (a : Int) : -1099511627776 ≤ hold a ∧ hold a ≤ 1099511627776 := clamp_b _ _ _ (by omega)
theorem place_b (a : Int) : -536870912 ≤ place a ∧ place a ≤ 536870912 := clamp_b _ _ _ (by omega)
theorem hold_in {a : Int} (h1 : -1099511627776 ≤ a) (h2 : a ≤ 1099511627776) : hold a = a := clamp_in h1 h2
theorem place_in {a : Int} (h1 : -536870912 ≤ a) (h2 : a ≤ 536870912) : place a = a := clamp_in h1 h2
theorem hold_cases (a : Int) : (a < -1099511627776 ∧ hold a = -1099511627776) ∨ (1099511627776 < a ∧ hold a = 1099511627776) ∨ (-1099511627776 ≤ a ∧ a ≤ 1099511627776 ∧ hold a = a) := by
  unfold hold clamp; split
  · exact .inl ⟨by omega, rfl⟩
  · split
    · exact .inr (.inl ⟨by omega, rfl⟩)
    · exact .inr (.inr ⟨by omega, by omega, rfl⟩)
def qadd (a b : Int) : Int := hold (hold a + hold b)
def qmul (a b : Int) : Int := hold ((hold a * hold b) / 65536)
def qdiv (a b : Int) : Int := if hold b = 0 then 0 else hold (Int.fdiv (hold a * 65536) (hold b))
/-- The greatest number whose square is at most another one, bit by bit. -/
def sqL : Nat → Nat → Nat → Nat
  | 0, _, r => r
  | k + 1, n, r => sqL k n (if (r + 2 ^ k) * (r + 2 ^ k) ≤ n then r + 2 ^ k else r)
def isq (n : Int) : Int := (sqL 32 n.toNat 0 : Nat)
def root (a : Int) : Int := isq (clamp a 0 1099511627776 * 65536)
def hyp (x y : Int) : Int := isq (clamp x (-1073741824) 1073741824 * clamp x (-1073741824) 1073741824 + clamp y (-1073741824) 1073741824 * clamp y (-1073741824) 1073741824)
def mid (a b t : Int) : Int := qadd (hold a) (qmul (qadd b (-(hold a))) t)
theorem qadd_b (a b : Int) : -1099511627776 ≤ qadd a b ∧ qadd a b ≤ 1099511627776 := hold_b _
theorem qmul_b (a b : Int) : -1099511627776 ≤ qmul a b ∧ qmul a b ≤ 1099511627776 := hold_b _
theorem qdiv_b (a b : Int) : -1099511627776 ≤ qdiv a b ∧ qdiv a b ≤ 1099511627776 := by unfold qdiv; split; omega; exact hold_b _
theorem mid_b (a b t : Int) : -1099511627776 ≤ mid a b t ∧ mid a b t ≤ 1099511627776 := qadd_b _ _
theorem sqL_ok : ∀ (k n r : Nat), r * r ≤ n → n < (r + 2 ^ k) * (r + 2 ^ k) → sqL k n r * sqL k n r ≤ n ∧ n < (sqL k n r + 1) * (sqL k n r + 1) ∧ r ≤ sqL k n r ∧ sqL k n r < r + 2 ^ k
  | 0, n, r, h1, h2 => ⟨h1, by simpa [sqL] using h2, Nat.le_refl _, by simp [sqL]⟩
  | k + 1, n, r, h1, h2 => by
    have e : 2 ^ (k + 1) = 2 ^ k + 2 ^ k := by rw [Nat.pow_succ]; omega
    have hp : 0 < 2 ^ k := Nat.pow_pos (by decide)
    simp only [sqL]
    split
    · rename_i hs
      have := sqL_ok k n (r + 2 ^ k) hs (by rw [e, ← Nat.add_assoc] at h2; exact h2)
      exact ⟨this.1, this.2.1, by omega, by omega⟩
    · rename_i hs
      have := sqL_ok k n r h1 (by omega)
      exact ⟨this.1, this.2.1, by omega, by omega⟩
theorem isq_ok {n : Int} (h0 : 0 ≤ n) (h : n < 18446744073709551616) : 0 ≤ isq n ∧ isq n ≤ 4294967295 ∧ isq n * isq n ≤ n ∧ n < (isq n + 1) * (isq n + 1) := by
  have k := sqL_ok 32 n.toNat 0 (by omega) (by omega)
  unfold isq
  generalize sqL 32 n.toNat 0 = r at *
  refine ⟨by omega, by omega, ?_, ?_⟩
  · have : ((r * r : Nat) : Int) ≤ n := by omega
    simpa using this
  · have : n < (((r + 1) * (r + 1) : Nat) : Int) := by omega
    simpa using this
theorem sq_nn (x : Int) : 0 ≤ x * x := by
  rcases Int.le_total 0 x with h | h
  · exact Int.mul_nonneg h h
  · exact Int.mul_nonneg_of_nonpos_of_nonpos h h
theorem mul_mono {a b c d : Int} (h1 : a ≤ c) (h2 : b ≤ d) (h3 : 0 ≤ b) (h4 : 0 ≤ c) : a * b ≤ c * d := Int.mul_le_mul h1 h2 h3 h4
theorem sq_le {x m : Int} (h1 : -m ≤ x) (h2 : x ≤ m) : x * x ≤ m * m := by
  rcases Int.le_total 0 x with h | h
  · exact mul_mono h2 h2 h (by omega)
  · have := mul_mono (a := -x) (b := -x) (c := m) (d := m) (by omega) (by omega) (by omega) (by omega)
    rw [Int.neg_mul_neg] at this; exact this
theorem mul_bd {x y m n : Int} (h1 : -m ≤ x) (h2 : x ≤ m) (h3 : -n ≤ y) (h4 : y ≤ n) : -(m * n) ≤ x * y ∧ x * y ≤ m * n := by
  have hm : 0 ≤ m := by omega
  have hn : 0 ≤ n := by omega
  have hmn := Int.mul_nonneg hm hn
  rcases Int.le_total 0 x with h | h <;> rcases Int.le_total 0 y with k | k
  · have := Int.mul_nonneg h k
    have := mul_mono h2 h4 k hm
    omega
  · have a := mul_mono (a := x) (b := -y) (c := m) (d := n) h2 (by omega) (by omega) hm
    have b := Int.mul_nonneg h (show 0 ≤ -y by omega)
    rw [Int.mul_neg] at a b; omega
  · have a := mul_mono (a := -x) (b := y) (c := m) (d := n) (by omega) h4 k hm
    have b := Int.mul_nonneg (show 0 ≤ -x by omega) k
    rw [Int.neg_mul] at a b; omega
  · have a := mul_mono (a := -x) (b := -y) (c := m) (d := n) (by omega) (by omega) (by omega) hm
    have b := Int.mul_nonneg (show 0 ≤ -x by omega) (show 0 ≤ -y by omega)
    rw [Int.neg_mul_neg] at a b; omega
theorem isq_sq (m : Int) (h0 : 0 ≤ m) (h : m ≤ 4294967295) : isq (m * m) = m := by
  have hm : 0 ≤ m * m := Int.mul_nonneg h0 h0
  have hm2 : m * m ≤ 4294967295 * 4294967295 := mul_mono h h h0 (by omega)
  obtain ⟨a, b, c, d⟩ := isq_ok hm (by omega)
  generalize isq (m * m) = r at *
  rcases Int.lt_trichotomy r m with h | h | h
  · have : (r + 1) * (r + 1) ≤ m * m := mul_mono (by omega) (by omega) (by omega) (by omega)
    omega
  · exact h
  · have : (m + 1) * (m + 1) ≤ r * r := mul_mono (by omega) (by omega) (by omega) (by omega)
    have e : (m + 1) * (m + 1) = m * m + 2 * m + 1 := by rw [Int.add_mul, Int.mul_add]; omega
    omega
theorem hyp_arg (x y : Int) : 0 ≤ clamp x (-1073741824) 1073741824 * clamp x (-1073741824) 1073741824 + clamp y (-1073741824) 1073741824 * clamp y (-1073741824) 1073741824 ∧ clamp x (-1073741824) 1073741824 * clamp x (-1073741824) 1073741824 + clamp y (-1073741824) 1073741824 * clamp y (-1073741824) 1073741824 ≤ 2305843009213693952 := by
  have a := clamp_b x (-1073741824) 1073741824 (by omega)
  have b := clamp_b y (-1073741824) 1073741824 (by omega)
  have c := sq_nn (clamp x (-1073741824) 1073741824)
  have d := sq_nn (clamp y (-1073741824) 1073741824)
  have e := sq_le a.1 a.2
  have f := sq_le b.1 b.2
  omega
theorem isq_le {n m : Int} (h0 : 0 ≤ n) (h : n < 18446744073709551616) (h1 : n < (m + 1) * (m + 1)) (hm : 0 ≤ m) : isq n ≤ m := by
  obtain ⟨a, b, c, d⟩ := isq_ok h0 h
  rcases Int.lt_or_le m (isq n) with k | k
  · have : (m + 1) * (m + 1) ≤ isq n * isq n := mul_mono (by omega) (by omega) (by omega) (by omega)
    omega
  · exact k
theorem hyp_b (x y : Int) : 0 ≤ hyp x y ∧ hyp x y ≤ 1518500250 := by
  have h := hyp_arg x y
  unfold hyp
  exact ⟨(isq_ok h.1 (by omega)).1, isq_le h.1 (by omega) (by omega) (by omega)⟩
theorem root_b (a : Int) : 0 ≤ root a ∧ root a ≤ 268435456 := by
  have h := clamp_b a 0 1099511627776 (by omega)
  unfold root
  exact ⟨(isq_ok (by omega) (by omega)).1, isq_le (by omega) (by omega) (by omega) (by omega)⟩
end Go.Proofs.Ytnebnbdeobcegaa
/- Bits: shifts, masks, numbers without sign. -/
namespace Go.Proofs.Ytnebnbdeobcegaa
open Go Go.RowKit E
@[go_sem] theorem kbits_i64 : IntKind.bits .i64 = 64 := (rfl)
@[go_sem] theorem kbits_u64 : IntKind.bits .u64 = 64 := (rfl)
@[go_sem] theorem kbits_u8 : IntKind.bits .u8 = 8 := (rfl)
@[go_sem] theorem abin_shl' {P : Program} {t : TypeId} {k yk : IntKind} {a m : Int} (h : (0 ≤ m) = True) : abin P .shl t (.int k a) (.int yk m) = some (.int k (k.wrap (a * 2 ^ min m.toNat k.bits))) := by
  have h := of_eq_true h
  simp only [abin, isShift, or_true, if_true, aint, h]
@[go_sem] theorem abin_shr' {P : Program} {t : TypeId} {k yk : IntKind} {a m : Int} (h : (0 ≤ m) = True) : abin P .shr t (.int k a) (.int yk m) = some (.int k (a.fdiv (2 ^ min m.toNat k.bits))) := by
  have h := of_eq_true h
  simp only [abin, isShift, or_true, if_true, aint, h]
@[go_sem] theorem fdiv_pos {a b : Int} (h : (0 ≤ b) = True) : a.fdiv b = a / b := Int.fdiv_eq_ediv_of_nonneg a (of_eq_true h)
@[go_sem] theorem wrap_u64_in {n : Int} (h1 : (0 ≤ n) = True) (h2 : (n ≤ 18446744073709551615) = True) : IntKind.u64.wrap n = n := w64 (of_eq_true h1) (of_eq_true h2)
@[go_sem] theorem min_l {a b : Nat} (h : (a ≤ b) = True) : min a b = a := Nat.min_eq_left (of_eq_true h)
theorem wu64 (n : Int) : IntKind.u64.wrap n = n % 18446744073709551616 := by
  simp [IntKind.wrap, IntKind.bits, IntKind.signed]
theorem wu8 (n : Int) : IntKind.u8.wrap n = n % 256 := by
  simp [IntKind.wrap, IntKind.bits, IntKind.signed]
theorem wi64 (n : Int) : IntKind.i64.wrap n = (n + 9223372036854775808) % 18446744073709551616 - 9223372036854775808 := by
  rw [IntKind.wrap_i64]
theorem ofInt_nat (a : Nat) (ha : a < 18446744073709551616) : (BitVec.ofInt 64 (a : Int)).toNat = a := by
  rw [BitVec.toNat_ofInt]; omega
theorem or_u64 (a b : Nat) (ha : a < 18446744073709551616) (hb : b < 18446744073709551616) : bits .or .u64 (a : Int) (b : Int) = ((a ||| b : Nat) : Int) := by
  have h : a ||| b < 2 ^ 64 := Nat.or_lt_two_pow (by omega) (by omega)
  change IntKind.u64.wrap (((BitVec.ofInt 64 (a : Int)) ||| (BitVec.ofInt 64 (b : Int))).toNat : Int) = _
  rw [BitVec.toNat_or, ofInt_nat a ha, ofInt_nat b hb, wu64]; omega
theorem and_u64 (a b : Nat) (ha : a < 18446744073709551616) (hb : b < 18446744073709551616) : bits .and .u64 (a : Int) (b : Int) = ((a &&& b : Nat) : Int) := by
  have h : a &&& b < 2 ^ 64 := Nat.and_lt_two_pow a (by omega)
  change IntKind.u64.wrap (((BitVec.ofInt 64 (a : Int)) &&& (BitVec.ofInt 64 (b : Int))).toNat : Int) = _
  rw [BitVec.toNat_and, ofInt_nat a ha, ofInt_nat b hb, wu64]; omega
/-- What has nothing below a place, and what lies below it. -/
theorem or_add (k a b : Nat) (hb : b < 2 ^ k) : a * 2 ^ k ||| b = a * 2 ^ k + b := by
  rw [Nat.mul_comm, Nat.two_pow_add_eq_or_of_lt hb]
theorem or_low (k : Nat) {a b : Int} (ha : 0 ≤ a) (hb : 0 ≤ b) (hb2 : b < 2 ^ k) (h : a * 2 ^ k + b < 18446744073709551616) : bits .or .u64 (a * 2 ^ k) b = a * 2 ^ k + b := by
  obtain ⟨a, rfl⟩ := Int.eq_ofNat_of_zero_le ha
  obtain ⟨b, rfl⟩ := Int.eq_ofNat_of_zero_le hb
  have e : ((a : Int) * 2 ^ k) = ((a * 2 ^ k : Nat) : Int) := by simp
  have hb2 : b < 2 ^ k := by
    have : ((2 ^ k : Nat) : Int) = (2 : Int) ^ k := by simp
    omega
  rw [e] at h ⊢
  rw [or_u64 _ _ (by omega) (by omega), or_add k a b hb2]
  simp
theorem or_low' {a b p : Int} (k : Nat) (hp : 2 ^ k = p) (hd : p ∣ a) (ha : 0 ≤ a) (hb : 0 ≤ b) (hb2 : b < p) (h : a + b < 18446744073709551616) : bits .or .u64 a b = a + b := by
  obtain ⟨c, rfl⟩ := hd
  have hp0 : (0 : Int) < p := by omega
  have hc : 0 ≤ c := by
    rcases Int.lt_or_le c 0 with hc | hc
    · have := Int.mul_neg_of_pos_of_neg hp0 hc; omega
    · exact hc
  rw [Int.mul_comm] at *
  subst hp
  exact or_low k hc hb hb2 h
theorem and_mask64 (k : Nat) (hk : k ≤ 64) {a : Int} (ha : 0 ≤ a) (h : a < 18446744073709551616) : bits .and .u64 a (2 ^ k - 1) = a % 2 ^ k := by
  obtain ⟨a, rfl⟩ := Int.eq_ofNat_of_zero_le ha
  have p : 0 < 2 ^ k := Nat.pow_pos (by decide)
  have q : 2 ^ k ≤ 2 ^ 64 := Nat.pow_le_pow_right (by decide) hk
  have e : ((2 : Int) ^ k - 1) = ((2 ^ k - 1 : Nat) : Int) := by
    have : ((2 ^ k : Nat) : Int) = (2 : Int) ^ k := by simp
    omega
  rw [e, and_u64 a (2 ^ k - 1) (by omega) (by omega), Nat.and_two_pow_sub_one_eq_mod]
  simp
theorem and_m32 {a : Int} (ha : 0 ≤ a) (h : a < 18446744073709551616) : bits .and .u64 a 4294967295 = a % 4294967296 := and_mask64 32 (by decide) ha h
theorem toNat_i64 (a : Int) : ((BitVec.ofInt 64 a).toNat : Int) = a % 18446744073709551616 := by
  rw [BitVec.toNat_ofInt]; omega
theorem and_i64 (a : Int) (k : Nat) (hk : k ≤ 62) : bits .and .i64 a (2 ^ k - 1) = a % 2 ^ k := by
  have p : 0 < 2 ^ k := Nat.pow_pos (by decide)
  have q : 2 ^ k ≤ 2 ^ 62 := Nat.pow_le_pow_right (by decide) hk
  have ep : ((2 ^ k : Nat) : Int) = (2 : Int) ^ k := by simp
  have e : ((2 : Int) ^ k - 1) = ((2 ^ k - 1 : Nat) : Int) := by omega
  rw [e]
  change IntKind.i64.wrap (((BitVec.ofInt 64 a) &&& (BitVec.ofInt 64 ((2 ^ k - 1 : Nat) : Int))).toNat : Int) = _
  rw [BitVec.toNat_and, ofInt_nat (2 ^ k - 1) (by omega), Nat.and_two_pow_sub_one_eq_mod]
  have h := toNat_i64 a
  generalize (BitVec.ofInt 64 a).toNat = b at *
  have hl := Nat.mod_lt b p
  have e2 : ((b % 2 ^ k : Nat) : Int) = a % 2 ^ k := by
    rw [Int.natCast_emod, h, ep]
    refine Int.emod_emod_of_dvd a ?_
    rw [← ep, show (18446744073709551616 : Int) = ((2 ^ 64 : Nat) : Int) by rfl]
    exact Int.natCast_dvd_natCast.2 (Nat.pow_dvd_pow 2 (by omega))
  rw [e2] 
  refine wi ?_ ?_ <;> omega
theorem bt {a b : Int} (h : a = b) : (a == b) = true := by simp [h]
theorem bf {a b : Int} (h : ¬ a = b) : (a == b) = false := by simp [h]
theorem nt {a b : Int} (h : a = b) : (a != b) = false := by simp [h]
theorem nf {a b : Int} (h : ¬ a = b) : (a != b) = true := by simp [h]
theorem dt {p : Prop} [Decidable p] (h : p) : decide p = true := decide_eq_true h
theorem df {p : Prop} [Decidable p] (h : ¬ p) : decide p = false := decide_eq_false h
theorem add_and_xor : ∀ (n a b : Nat), a < 2 ^ n → a + b = 2 * (a &&& b) + (a ^^^ b) := by
  intro n
  induction n with
  | zero => intro a b h; have : a = 0 := by simpa using h
            subst this; simp
  | succ n ih =>
    intro a b h
    have h1 := ih (a / 2) (b / 2) (by rw [Nat.pow_succ] at h; omega)
    have e1 : (a &&& b) / 2 = a / 2 &&& b / 2 := Nat.and_div_two
    have e2 : (a ^^^ b) / 2 = a / 2 ^^^ b / 2 := Nat.xor_div_two
    have e3 : (a &&& b) % 2 = (a % 2) &&& (b % 2) := by
      have := Nat.and_mod_two_pow (a := a) (b := b) (n := 1); simpa using this
    have e4 : (a ^^^ b) % 2 = (a % 2) ^^^ (b % 2) := by
      have := Nat.xor_mod_two_pow (a := a) (b := b) (n := 1); simpa using this
    rcases Nat.mod_two_eq_zero_or_one a with ha | ha <;> rcases Nat.mod_two_eq_zero_or_one b with hb | hb <;> rw [ha, hb] at e3 e4
    · have f3 : (a &&& b) % 2 = 0 := e3
      have f4 : (a ^^^ b) % 2 = 0 := e4
      omega
    · have f3 : (a &&& b) % 2 = 0 := e3
      have f4 : (a ^^^ b) % 2 = 1 := e4
      omega
    · have f3 : (a &&& b) % 2 = 0 := e3
      have f4 : (a ^^^ b) % 2 = 1 := e4
      omega
    · have f3 : (a &&& b) % 2 = 1 := e3
      have f4 : (a ^^^ b) % 2 = 0 := e4
      omega
/-- What both have, and what one alone has, of two numbers. -/
theorem and_xor_i64 (a b : Int) (ha : I64 a) (hb : I64 b) : a + b = 2 * bits .and .i64 a b + bits .xor .i64 a b ∧ I64 (bits .and .i64 a b) ∧ I64 (bits .xor .i64 a b) := by
  have e1 : bits .and .i64 a b = IntKind.i64.wrap (((BitVec.ofInt 64 a).toNat &&& (BitVec.ofInt 64 b).toNat : Nat) : Int) := by
    change IntKind.i64.wrap (((BitVec.ofInt 64 a) &&& (BitVec.ofInt 64 b)).toNat : Int) = _
    rw [BitVec.toNat_and]
  have e2 : bits .xor .i64 a b = IntKind.i64.wrap (((BitVec.ofInt 64 a).toNat ^^^ (BitVec.ofInt 64 b).toNat : Nat) : Int) := by
    change IntKind.i64.wrap (((BitVec.ofInt 64 a) ^^^ (BitVec.ofInt 64 b)).toNat : Int) = _
    rw [BitVec.toNat_xor]
  have hA := toNat_i64 a
  have hB := toNat_i64 b
  generalize (BitVec.ofInt 64 a).toNat = A at *
  generalize (BitVec.ofInt 64 b).toNat = B at *
  have hA2 : A < 2 ^ 64 := by omega
  have hB2 : B < 2 ^ 64 := by omega
  have s := add_and_xor 64 A B hA2
  have t1 : (A &&& B) / 9223372036854775808 = A / 9223372036854775808 &&& B / 9223372036854775808 := by
    have := Nat.shiftRight_and_distrib (i := 63) (a := A) (b := B)
    simpa [Nat.shiftRight_eq_div_pow] using this
  have t2 : (A ^^^ B) / 9223372036854775808 = A / 9223372036854775808 ^^^ B / 9223372036854775808 := by
    have := Nat.shiftRight_xor_distrib (i := 63) (a := A) (b := B)
    simpa [Nat.shiftRight_eq_div_pow] using this
  have qa : A / 9223372036854775808 = 0 ∨ A / 9223372036854775808 = 1 := by omega
  have qb : B / 9223372036854775808 = 0 ∨ B / 9223372036854775808 = 1 := by omega
  have l1 : A &&& B < 2 ^ 64 := Nat.and_lt_two_pow A hB2
  have l2 : A ^^^ B < 2 ^ 64 := Nat.xor_lt_two_pow hA2 hB2
  rw [e1, e2, wi64, wi64]
  generalize A &&& B = X at *
  generalize A ^^^ B = Y at *
  rcases qa with qa | qa <;> rcases qb with qb | qb <;> rw [qa, qb] at t1 t2
  · have f1 : X / 9223372036854775808 = 0 := t1
    have f2 : Y / 9223372036854775808 = 0 := t2
    omega
  · have f1 : X / 9223372036854775808 = 0 := t1
    have f2 : Y / 9223372036854775808 = 1 := t2
    omega
  · have f1 : X / 9223372036854775808 = 0 := t1
    have f2 : Y / 9223372036854775808 = 1 := t2
    omega
  · have f1 : X / 9223372036854775808 = 1 := t1
    have f2 : Y / 9223372036854775808 = 0 := t2
    omega
theorem half_w (a b : Int) (ha : I64 a) (hb : I64 b) : IntKind.i64.wrap (bits .and .i64 a b + bits .xor .i64 a b / 2) = (a + b) / 2 := by
  have h := and_xor_i64 a b ha hb
  rw [wi (by omega) (by omega)]; omega
theorem and_1 (a : Int) : bits .and .i64 a 1 = a % 2 := and_i64 a 1 (by decide)
theorem wrap_par (x : Int) : IntKind.i64.wrap x % 2 = x % 2 := by
  rw [wi64, Int.sub_emod, Int.emod_emod_of_dvd _ (show (2 : Int) ∣ 18446744073709551616 from ⟨9223372036854775808, rfl⟩), ← Int.sub_emod, Int.add_sub_cancel]
theorem and_par (a b : Int) : bits .and .i64 a b % 2 = if a % 2 = 1 ∧ b % 2 = 1 then 1 else 0 := by
  have e1 : bits .and .i64 a b = IntKind.i64.wrap (((BitVec.ofInt 64 a).toNat &&& (BitVec.ofInt 64 b).toNat : Nat) : Int) := by
    change IntKind.i64.wrap (((BitVec.ofInt 64 a) &&& (BitVec.ofInt 64 b)).toNat : Int) = _
    rw [BitVec.toNat_and]
  have hA : ((BitVec.ofInt 64 a).toNat : Int) % 2 = a % 2 := by rw [toNat_i64, Int.emod_emod_of_dvd _ (show (2 : Int) ∣ 18446744073709551616 from ⟨9223372036854775808, rfl⟩)]
  have hB : ((BitVec.ofInt 64 b).toNat : Int) % 2 = b % 2 := by rw [toNat_i64, Int.emod_emod_of_dvd _ (show (2 : Int) ∣ 18446744073709551616 from ⟨9223372036854775808, rfl⟩)]
  rw [e1, wrap_par, ← hA, ← hB]
  generalize (BitVec.ofInt 64 a).toNat = A
  generalize (BitVec.ofInt 64 b).toNat = B
  have e3 : (A &&& B) % 2 = (A % 2) &&& (B % 2) := by
    have := Nat.and_mod_two_pow (a := A) (b := B) (n := 1); simpa using this
  rcases Nat.mod_two_eq_zero_or_one A with ha | ha <;> rcases Nat.mod_two_eq_zero_or_one B with hb | hb <;> rw [ha, hb] at e3
  · have f3 : (A &&& B) % 2 = 0 := e3
    rw [if_neg (by omega)]; omega
  · have f3 : (A &&& B) % 2 = 0 := e3
    rw [if_neg (by omega)]; omega
  · have f3 : (A &&& B) % 2 = 0 := e3
    rw [if_neg (by omega)]; omega
  · have f3 : (A &&& B) % 2 = 1 := e3
    rw [if_pos (by omega)]; omega
theorem half_w' (a b : Int) (ha : I64 a) (hb : I64 b) : IntKind.i64.wrap (IntKind.i64.wrap (a / 2 + b / 2) + bits .and .i64 (bits .and .i64 a b) 1) = (a + b) / 2 := by
  have h := and_par a b
  rw [and_1, h, wi (n := a / 2 + b / 2) (by omega) (by omega)]
  split <;> rw [wi (by omega) (by omega)] <;> omega
end Go.Proofs.Ytnebnbdeobcegaa
/- Chapter 1: the walks of what holds, adds, multiplies. -/
namespace Go.Proofs.Ytnebnbdeobcegaa
open Go Go.RowKit E
attribute [local irreducible] XRun XOps XCode XCal XLoop XQ SemCall
set_option linter.unusedSimpArgs false
set_option linter.unusedVariables false
theorem hadd_w (a b : Int) : IntKind.i64.wrap (hold a + hold b) = hold a + hold b := by
  have := hold_b a
  have := hold_b b
  exact wi (by omega) (by omega)
theorem down_v (s lo : Int) (hl : 0 ≤ lo ∧ lo ≤ 18446744073709551615) : bits .or .u64 (IntKind.u64.wrap (s % 18446744073709551616 * 281474976710656)) (lo / 65536) = (s % 65536) * 281474976710656 + lo / 65536 := by
  have e : IntKind.u64.wrap (s % 18446744073709551616 * 281474976710656) = (s % 65536) * 281474976710656 := by rw [wu64]; omega
  rw [e, or_low' 48 (p := 281474976710656) rfl (by omega) (by omega) (by omega) (by omega) (by omega)]
theorem mul64_w (a b : Int) (ha : 0 ≤ a ∧ a ≤ 18446744073709551615) (hb : 0 ≤ b ∧ b ≤ 18446744073709551615) :
    IntKind.u64.wrap (IntKind.u64.wrap (IntKind.u64.wrap (a / 4294967296 * (b / 4294967296)) + IntKind.u64.wrap (IntKind.u64.wrap (a / 4294967296 * bits BinOp.and IntKind.u64 b 4294967295) + IntKind.u64.wrap (bits BinOp.and IntKind.u64 a 4294967295 * bits BinOp.and IntKind.u64 b 4294967295) / 4294967296) / 4294967296) +
      IntKind.u64.wrap (bits BinOp.and IntKind.u64 (IntKind.u64.wrap (IntKind.u64.wrap (a / 4294967296 * bits BinOp.and IntKind.u64 b 4294967295) + IntKind.u64.wrap (bits BinOp.and IntKind.u64 a 4294967295 * bits BinOp.and IntKind.u64 b 4294967295) / 4294967296)) 4294967295 + IntKind.u64.wrap (bits BinOp.and IntKind.u64 a 4294967295 * (b / 4294967296))) / 4294967296) = a * b / 18446744073709551616 := by
  rw [and_m32 ha.1 (by omega), and_m32 hb.1 (by omega)]
  have ea : a = a / 4294967296 * 4294967296 + a % 4294967296 := by omega
  have eb : b = b / 4294967296 * 4294967296 + b % 4294967296 := by omega
  have ra : 0 ≤ a / 4294967296 ∧ a / 4294967296 ≤ 4294967295 := by omega
  have rb : 0 ≤ b / 4294967296 ∧ b / 4294967296 ≤ 4294967295 := by omega
  have sa : 0 ≤ a % 4294967296 ∧ a % 4294967296 ≤ 4294967295 := by omega
  have sb : 0 ≤ b % 4294967296 ∧ b % 4294967296 ≤ 4294967295 := by omega
  generalize a / 4294967296 = A at *
  generalize a % 4294967296 = A0 at *
  generalize b / 4294967296 = B at *
  generalize b % 4294967296 = B0 at *
  have e : a * b = A * B * 18446744073709551616 + (A * B0 + A0 * B) * 4294967296 + A0 * B0 := by
    rw [ea, eb, Int.add_mul, Int.mul_add, Int.mul_add, Int.mul_assoc, Int.mul_left_comm 4294967296 B, ← Int.mul_assoc A, show A * 4294967296 * B0 = A * B0 * 4294967296 by rw [Int.mul_assoc, Int.mul_comm 4294967296, ← Int.mul_assoc], ← Int.mul_assoc A0]
    omega
  have p1 := Int.mul_nonneg ra.1 rb.1
  have p2 := Int.mul_nonneg ra.1 sb.1
  have p3 := Int.mul_nonneg sa.1 rb.1
  have p4 := Int.mul_nonneg sa.1 sb.1
  have q1 := mul_mono ra.2 rb.2 rb.1 (by omega)
  have q2 := mul_mono ra.2 sb.2 sb.1 (by omega)
  have q3 := mul_mono sa.2 rb.2 rb.1 (by omega)
  have q4 := mul_mono sa.2 sb.2 sb.1 (by omega)
  rw [e]
  generalize A * B = d at *
  generalize A * B0 = x at *
  generalize A0 * B = c at *
  generalize A0 * B0 = w at *
  rw [w64 (n := d) (by omega) (by omega), w64 (n := x) (by omega) (by omega), w64 (n := w) (by omega) (by omega), w64 (n := c) (by omega) (by omega), w64 (n := x + w / 4294967296) (by omega) (by omega), and_m32 (by omega) (by omega), w64 (n := (x + w / 4294967296) % 4294967296 + c) (by omega) (by omega), w64 (n := d + _) (by omega) (by omega), w64 (by omega) (by omega)]
  omega
theorem prod_w (a b : Int) (ha : I64 a) (hb : I64 b) : (if b < 0 then IntKind.u64.wrap ((if a < 0 then IntKind.u64.wrap (a % 18446744073709551616 * (b % 18446744073709551616) / 18446744073709551616 - b % 18446744073709551616) else a % 18446744073709551616 * (b % 18446744073709551616) / 18446744073709551616) - a % 18446744073709551616) else (if a < 0 then IntKind.u64.wrap (a % 18446744073709551616 * (b % 18446744073709551616) / 18446744073709551616 - b % 18446744073709551616) else a % 18446744073709551616 * (b % 18446744073709551616) / 18446744073709551616)) = a * b / 18446744073709551616 % 18446744073709551616 ∧ a % 18446744073709551616 * (b % 18446744073709551616) % 18446744073709551616 = a * b % 18446744073709551616 := by
  have hm : a * b / 18446744073709551616 % 18446744073709551616 = a * b / 18446744073709551616 % 18446744073709551616 := rfl
  have n0 : -85070591730234615865843651857942052864 ≤ a * b ∧ a * b ≤ 85070591730234615865843651857942052864 := by
    have := mul_bd (x := a) (y := b) (m := 9223372036854775808) (n := 9223372036854775808) (by omega) (by omega) (by omega) (by omega)
    omega
  rcases Int.lt_or_le a 0 with h | h <;> rcases Int.lt_or_le b 0 with k | k
  · have ea : a % 18446744073709551616 = a + 18446744073709551616 := by omega
    have eb : b % 18446744073709551616 = b + 18446744073709551616 := by omega
    have e : (a + 18446744073709551616) * (b + 18446744073709551616) = a * b + (a + b) * 18446744073709551616 + 340282366920938463463374607431768211456 := by rw [Int.add_mul, Int.mul_add]; omega
    rw [if_pos k, if_pos h, ea, eb, e, wu64, wu64]
    generalize a * b = m at *
    omega
  · have ea : a % 18446744073709551616 = a + 18446744073709551616 := by omega
    have eb : b % 18446744073709551616 = b := by omega
    have e : (a + 18446744073709551616) * b = a * b + b * 18446744073709551616 := by rw [Int.add_mul]; omega
    rw [if_neg (by omega), if_pos h, ea, eb, e, wu64]
    generalize a * b = m at *
    omega
  · have ea : a % 18446744073709551616 = a := by omega
    have eb : b % 18446744073709551616 = b + 18446744073709551616 := by omega
    have e : a * (b + 18446744073709551616) = a * b + a * 18446744073709551616 := by rw [Int.mul_add]
    rw [if_pos k, if_neg (by omega), ea, eb, e, wu64]
    generalize a * b = m at *
    omega
  · have ea : a % 18446744073709551616 = a := by omega
    have eb : b % 18446744073709551616 = b := by omega
    have p := Int.mul_nonneg h k
    rw [if_neg (by omega), if_neg (by omega), ea, eb]
    generalize a * b = m at *
    omega
theorem hold_clamp (a : Int) : hold (clamp a (-9223372036854775808) 9223372036854775807) = hold a := by
  unfold hold clamp; split <;> (try split) <;> (try split) <;> (try split) <;> omega
end Go.Proofs.Ytnebnbdeobcegaa
/- Chapter 1: the walks of quotients, roots, what lies between. -/
namespace Go.Proofs.Ytnebnbdeobcegaa
open Go Go.RowKit E
attribute [local irreducible] XRun XOps XCode XCal XLoop XQ SemCall
set_option linter.unusedSimpArgs false
set_option linter.unusedVariables false
theorem negdiv (a b : Int) (hb : 0 < b) : (-a) / b = -(a / b) - (if a % b = 0 then 0 else 1) ∧ (-a) % b = (if a % b = 0 then 0 else b - a % b) := by
  have e := Int.mul_ediv_add_emod a b
  have h1 := Int.emod_nonneg a (show b ≠ 0 by omega)
  have h2 := Int.emod_lt_of_pos a hb
  refine (Int.ediv_emod_unique hb).2 ?_
  split
  · rename_i h
    refine ⟨?_, by omega, by omega⟩
    rw [Int.sub_zero, Int.mul_neg]; omega
  · refine ⟨?_, by omega, by omega⟩
    rw [Int.mul_sub, Int.mul_neg, Int.mul_one]; omega
/-- A quotient cut to nought and one rounded down, by signs. -/
theorem tdiv_pp {a b : Int} (ha : 0 ≤ a) (hb : 0 < b) : a.tdiv b = a / b ∧ a.tmod b = a % b ∧ a.fdiv b = a / b :=
  ⟨Int.tdiv_eq_ediv_of_nonneg ha, Int.tmod_eq_emod_of_nonneg ha, Int.fdiv_eq_ediv_of_nonneg a (by omega)⟩
theorem tdiv_np {a b : Int} (ha : 0 ≤ a) (hb : 0 < b) : (-a).tdiv b = -(a / b) ∧ (-a).tmod b = -(a % b) ∧ (-a).fdiv b = -(a / b) - (if a % b = 0 then 0 else 1) :=
  ⟨by rw [Int.neg_tdiv, Int.tdiv_eq_ediv_of_nonneg ha], by rw [Int.neg_tmod, Int.tmod_eq_emod_of_nonneg ha], by rw [Int.fdiv_eq_ediv_of_nonneg _ (by omega), (negdiv a b hb).1]⟩
theorem tdiv_pn {a b : Int} (ha : 0 ≤ a) (hb : 0 < b) : a.tdiv (-b) = -(a / b) ∧ a.tmod (-b) = a % b ∧ a.fdiv (-b) = -(a / b) - (if a % b = 0 then 0 else 1) :=
  ⟨by rw [Int.tdiv_neg, Int.tdiv_eq_ediv_of_nonneg ha], by rw [Int.tmod_neg, Int.tmod_eq_emod_of_nonneg ha], by rw [← Int.neg_fdiv_neg, Int.neg_neg, Int.fdiv_eq_ediv_of_nonneg _ (by omega), (negdiv a b hb).1]⟩
theorem tdiv_nn {a b : Int} (ha : 0 ≤ a) (hb : 0 < b) : (-a).tdiv (-b) = a / b ∧ (-a).tmod (-b) = -(a % b) ∧ (-a).fdiv (-b) = a / b :=
  ⟨by rw [Int.neg_tdiv, Int.tdiv_neg, Int.neg_neg, Int.tdiv_eq_ediv_of_nonneg ha], by rw [Int.tmod_neg, Int.neg_tmod, Int.tmod_eq_emod_of_nonneg ha], by rw [Int.neg_fdiv_neg, Int.fdiv_eq_ediv_of_nonneg _ (by omega)]⟩
theorem div_le {a b : Int} (ha : 0 ≤ a) (hb : 0 < b) : 0 ≤ a / b ∧ a / b ≤ a := ⟨Int.ediv_nonneg ha (by omega), Int.ediv_le_self _ ha⟩
/-- A loop of so many rounds, bit by bit. -/
theorem sq_round (k a r : Nat) (hk : k < 32) (hr : r % 2 ^ (k + 1) = 0) (hb : r < 4294967296) : bits .or .u64 (r : Int) ((2 ^ k : Nat) : Int) = ((r + 2 ^ k : Nat) : Int) ∧ r + 2 ^ k < 4294967296 ∧ (r + 2 ^ k) % 2 ^ k = 0 ∧ r % 2 ^ k = 0 := by
  have hp : 2 ^ (k + 1) = 2 * 2 ^ k := by rw [Nat.pow_succ, Nat.mul_comm]
  have hk0 : 0 < 2 ^ k := Nat.pow_pos (by decide)
  obtain ⟨c, hc⟩ := Nat.dvd_of_mod_eq_zero hr
  have h32 : 2 ^ (k + 1) * 2 ^ (31 - k) = 4294967296 := by rw [← Nat.pow_add, show k + 1 + (31 - k) = 32 by omega]
  have hc2 : c < 2 ^ (31 - k) := by
    rcases Nat.lt_or_ge c (2 ^ (31 - k)) with h | h
    · exact h
    · have := Nat.mul_le_mul_left (2 ^ (k + 1)) h
      omega
  have hle : 2 ^ (k + 1) * (c + 1) ≤ 2 ^ (k + 1) * 2 ^ (31 - k) := Nat.mul_le_mul_left _ hc2
  rw [Nat.mul_add] at hle
  refine ⟨?_, by omega, ?_, ?_⟩
  · rw [or_u64 _ _ (by omega) (by omega), hc, Nat.two_pow_add_eq_or_of_lt (by omega)]
  · rw [hc, hp, Nat.mul_assoc, Nat.mul_left_comm, Nat.add_mod_right, Nat.mul_mod_right]
  · rw [hc, hp, Nat.mul_assoc, Nat.mul_left_comm, Nat.mul_mod_right]
theorem hold_neg_w (a : Int) : IntKind.i64.wrap (0 - hold a) = -(hold a) := by
  have := hold_b a
  rw [wi (by omega) (by omega)]; omega
end Go.Proofs.Ytnebnbdeobcegaa
/- Chapter 1: the walks of the document's own numbers. -/
namespace Go.Proofs.Ytnebnbdeobcegaa
open Go Go.RowKit E
attribute [local irreducible] XRun XOps XCode XCal XLoop XQ SemCall
set_option linter.unusedSimpArgs false
set_option linter.unusedVariables false
theorem aindexv_str {P : Program} {t : TypeId} {b : ByteArray} {k : IntKind} {n : Int} {c : UInt8} (h : tstr P t = true) (h0 : 0 ≤ n) (hb : b[n.toNat]? = some c) : aindexv P t (.string b) (.int k n) = some (.int .u8 c.toNat) := by
  simp [aindexv, h, h0, hb]
/-- What the long division comes to, with a sign, held. -/
def rdn (n r : Int) (minus : Bool) : Int := hold (if minus = true then -n - (if r = 0 then 0 else 1) else n)
theorem rmul_v (x y : Int) (hx : -1099511627776 ≤ x ∧ x ≤ 1099511627776) (hy : -1099511627776 ≤ y ∧ y ≤ 1099511627776) :
    rdn ((if x < 0 then -x else x) * (if y < 0 then -y else y) / 65536) ((if x < 0 then -x else x) * (if y < 0 then -y else y) % 65536) (decide (x < 0) != decide (y < 0)) = hold (x * y / 65536) := by
  unfold rdn
  by_cases h : x < 0 <;> by_cases k : y < 0 <;> simp only [h, k, if_true, if_false, decide_true, decide_false, Bool.bne_true, Bool.bne_false, Bool.not_true, Bool.not_false, Bool.false_eq_true]
  · rw [Int.neg_mul_neg]
  · rw [Int.neg_mul]; congr 1; generalize x * y = m; split <;> omega
  · rw [Int.mul_neg]; congr 1; generalize x * y = m; split <;> omega
theorem rdiv_v (x y : Int) (hy : ¬ y = 0) :
    rdn ((if x < 0 then -x else x) * 65536 / (if y < 0 then -y else y)) ((if x < 0 then -x else x) * 65536 % (if y < 0 then -y else y)) (decide (x < 0) != decide (y < 0)) = hold (Int.fdiv (x * 65536) y) := by
  unfold rdn
  rcases Int.lt_or_le x 0 with h | h <;> rcases Int.lt_or_le y 0 with k | k
  · simp only [h, k, if_true, decide_true, Bool.false_eq_true, if_false, bne_self_eq_false]
    have f := (tdiv_nn (a := -x * 65536) (b := -y) (by omega) (by omega)).2.2
    rw [← f]; congr 2 <;> omega
  · rw [if_pos h, if_neg (show ¬ y < 0 by omega), dt h, df (show ¬ y < 0 by omega)]
    have f := (tdiv_np (a := -x * 65536) (b := y) (by omega) (by omega)).2.2
    simp only [Bool.bne_false, if_true]
    rw [← f]; congr 2; omega
  · rw [if_neg (show ¬ x < 0 by omega), if_pos k, df (show ¬ x < 0 by omega), dt k]
    have f := (tdiv_pn (a := x * 65536) (b := -y) (by omega) (by omega)).2.2
    simp only [Bool.false_bne, if_true]
    rw [← f]; congr 2; omega
  · rw [if_neg (show ¬ x < 0 by omega), if_neg (show ¬ y < 0 by omega), df (show ¬ x < 0 by omega), df (show ¬ y < 0 by omega)]
    have f := (tdiv_pp (a := x * 65536) (b := y) (by omega) (by omega)).2.2
    simp only [bne_self_eq_false, Bool.false_eq_true, if_false]
    rw [← f]
theorem hold_hold (a : Int) : hold (hold a) = hold a := by have := hold_b a; exact hold_in (by omega) (by omega)
theorem qadd_hold (a b : Int) : qadd (hold a) b = qadd a b := by unfold qadd; rw [hold_hold]
end Go.Proofs.Ytnebnbdeobcegaa
/- Chapter 1: the walks of what the statements call: both numbers alike, some known runs. -/
namespace Go.Proofs.Ytnebnbdeobcegaa
open Go Go.RowKit E
attribute [local irreducible] XRun XOps XCode XCal XLoop XQ SemCall
set_option linter.unusedSimpArgs false
set_option linter.unusedVariables false
theorem kn1 : qmul (-1) 1 = -1 := by decide +kernel
theorem kn2 : qdiv 65536 0 = 0 := by decide +kernel
theorem kn3 : root 262144 = 131072 := by decide +kernel
theorem kn4 : hyp 3 (-4) = 5 := by decide +kernel
theorem kn5 : qadd 4611686018427387904 4611686018427387904 = 1099511627776 := by decide +kernel
theorem kn6 : mid 0 10 32768 = 5 := by decide +kernel
end Go.Proofs.Ytnebnbdeobcegaa
/- Chapter 1: the walks of the laws on numbers. -/
namespace Go.Proofs.Ytnebnbdeobcegaa
open Go Go.RowKit E
attribute [local irreducible] XRun XOps XCode XCal XLoop XQ SemCall
set_option linter.unusedSimpArgs false
set_option linter.unusedVariables false
theorem tm_b (a : Int) {n : Int} (hn : 0 < n) : -n < a.tmod n ∧ a.tmod n < n := by
  rcases Int.lt_or_le a 0 with h | h
  · have f := tdiv_np (a := -a) (b := n) (by omega) hn
    rw [Int.neg_neg] at f
    have := Int.emod_nonneg (-a) (show n ≠ 0 by omega)
    have := Int.emod_lt_of_pos (-a) hn
    omega
  · have f := tdiv_pp h hn
    have := Int.emod_nonneg a (show n ≠ 0 by omega)
    have := Int.emod_lt_of_pos a hn
    omega
theorem hold_mono {a b : Int} (h : a ≤ b) : hold a ≤ hold b := by unfold hold clamp; split <;> (try split) <;> (try split) <;> (try split) <;> omega
theorem clamp_mono {a b lo hi : Int} (h : a ≤ b) (hl : lo ≤ hi) : clamp a lo hi ≤ clamp b lo hi := by unfold clamp; split <;> (try split) <;> (try split) <;> (try split) <;> omega
theorem qadd_mono {a b c : Int} (h : a ≤ b) : qadd a c ≤ qadd b c := hold_mono (by have := hold_mono h; omega)
theorem qmul_mono {a b k : Int} (h : a ≤ b) (hk : 0 ≤ k) : qmul a k ≤ qmul b k := by
  refine hold_mono ?_
  have h1 := hold_mono h
  have h2 : 0 ≤ hold k := by have := hold_mono hk; rwa [show hold 0 = 0 from rfl] at this
  have := Int.mul_le_mul_of_nonneg_right h1 h2
  omega
theorem qdiv_mono {a b k : Int} (h : a ≤ b) (hk : 0 ≤ k) : qdiv a k ≤ qdiv b k := by
  unfold qdiv
  split
  · omega
  · refine hold_mono ?_
    have h1 := hold_mono h
    have h2 : 0 ≤ hold k := by have := hold_mono hk; rwa [show hold 0 = 0 from rfl] at this
    rw [Int.fdiv_eq_ediv_of_nonneg _ h2, Int.fdiv_eq_ediv_of_nonneg _ h2]
    exact Int.ediv_le_ediv (by omega) (by omega)
theorem isq_mono {a b : Int} (h0 : 0 ≤ a) (h : a ≤ b) (hb : b < 18446744073709551616) : isq a ≤ isq b := by
  have k := isq_ok (n := b) (by omega) hb
  exact isq_le h0 (by omega) (by omega) k.1
theorem root_mono {a b : Int} (h : a ≤ b) : root a ≤ root b := by
  have h1 := clamp_b a 0 1099511627776 (by omega)
  have h2 := clamp_b b 0 1099511627776 (by omega)
  have := clamp_mono (lo := 0) (hi := 1099511627776) h (by omega)
  exact isq_mono (by omega) (by omega) (by omega)
theorem qmul_comm (a b : Int) : qmul a b = qmul b a := by unfold qmul; rw [Int.mul_comm]
theorem qadd_comm (a b : Int) : qadd a b = qadd b a := by unfold qadd; rw [Int.add_comm]
theorem qmul_one (a : Int) : qmul a 65536 = hold a := by
  unfold qmul
  rw [show hold 65536 = 65536 from rfl, Int.mul_ediv_cancel _ (by omega), hold_hold]
theorem qmul_zero (a : Int) : qmul a 0 = 0 := by
  unfold qmul; rw [show hold 0 = 0 from rfl, Int.mul_zero]; rfl
theorem qdiv_one (a : Int) : qdiv a 65536 = hold a := by
  unfold qdiv
  rw [if_neg (by decide), show hold 65536 = 65536 from rfl, Int.fdiv_eq_ediv_of_nonneg _ (by omega), Int.mul_ediv_cancel _ (by omega), hold_hold]
theorem qdiv_zero (a : Int) : qdiv 0 a = 0 := by
  unfold qdiv; split
  · rfl
  · rw [show hold 0 = 0 from rfl, Int.zero_mul, Int.zero_fdiv]; rfl
theorem qadd_zero (a : Int) : qadd a 0 = hold a := by
  unfold qadd; rw [show hold 0 = 0 from rfl, Int.add_zero, hold_hold]
abbrev Nr (x : Int) : Prop := -67108864 < x ∧ x < 67108864
theorem near_mul {x y : Int} (hx : Nr x) (hy : Nr y) : -4503599627370496 ≤ x * y ∧ x * y ≤ 4503599627370496 := by
  have := mul_bd (x := x) (y := y) (m := 67108864) (n := 67108864) (by omega) (by omega) (by omega) (by omega); omega
theorem near_qmul {x y : Int} (hx : Nr x) (hy : Nr y) : qmul x y = x * y / 65536 := by
  have := near_mul hx hy
  unfold qmul
  rw [hold_in (a := x) (by omega) (by omega), hold_in (a := y) (by omega) (by omega), hold_in (by omega) (by omega)]
theorem near_qadd {x y : Int} (hx : Nr x) (hy : Nr y) : qadd x y = x + y := by
  unfold qadd
  rw [hold_in (a := x) (by omega) (by omega), hold_in (a := y) (by omega) (by omega), hold_in (by omega) (by omega)]
theorem near_hyp {x y : Int} (hx : Nr x) (hy : Nr y) : hyp x y = isq (x * x + y * y) := by
  unfold hyp
  rw [clamp_in (a := x) (by omega) (by omega), clamp_in (a := y) (by omega) (by omega)]
theorem tm_neg_w {a n : Int} (h : -n < a ∧ a < n) (hn : n ≤ 9223372036854775807) : IntKind.i64.wrap (0 - a) = -a := by rw [wi (by omega) (by omega)]; omega
/-- What lies between two, in plain numbers. -/
theorem near_mid {x y t : Int} (hx : Nr x) (hy : Nr y) (ht : 0 ≤ t ∧ t ≤ 65536) : mid x y t = x + (y - x) * t / 65536 := by
  have m := mul_bd (x := y - x) (y := t) (m := 134217728) (n := 65536) (by omega) (by omega) (by omega) (by omega)
  unfold mid
  have e : qadd y (-(hold x)) = y - x := by
    unfold qadd
    rw [hold_in (a := x) (by omega) (by omega), hold_in (a := y) (by omega) (by omega), hold_in (a := -x) (by omega) (by omega), hold_in (by omega) (by omega)]; omega
  rw [e, qadd_hold]
  unfold qmul qadd
  rw [hold_in (a := y - x) (by omega) (by omega), hold_in (a := t) (by omega) (by omega), hold_in (a := (y - x) * t / 65536) (by omega) (by omega), hold_in (a := x) (by omega) (by omega), hold_in (a := (y - x) * t / 65536) (by omega) (by omega), hold_in (by omega) (by omega)]
theorem and_near (c : Int) : bits .and .i64 c 67108863 = c % 67108864 := and_i64 c 26 (by decide)
end Go.Proofs.Ytnebnbdeobcegaa
