/- The types' facts: their sizes and how their parts lie; printed by a program of ours. -/
import Derived.Test.YtockblbbcikkmaaEK
import Derived.Test.YtockblbbcikkmaaProg
import Derived.KernelRfl
namespace Go.Proofs.Ytockblbbcikkmaa.Facts
open Go Go.RowKit E
@[go_sem] theorem tsz_0 : tsz Try.prog 0 = some 1 := by kernel_rfl
@[go_sem] theorem tagg_0 : tagg Try.prog 0 = some false := by kernel_rfl
@[go_sem] theorem und_0 : (Try.prog.underlying 0).isSome = true := by kernel_rfl
@[go_sem] theorem tsz_1 : tsz Try.prog 1 = some 1 := by kernel_rfl
@[go_sem] theorem tagg_1 : tagg Try.prog 1 = some false := by kernel_rfl
@[go_sem] theorem und_1 : (Try.prog.underlying 1).isSome = true := by kernel_rfl
@[go_sem] theorem tsz_2 : tsz Try.prog 2 = some 1 := by kernel_rfl
@[go_sem] theorem tagg_2 : tagg Try.prog 2 = some false := by kernel_rfl
@[go_sem] theorem tzero_2 : tzero Try.prog 2 = some [Value.int IntKind.i64 0] := by kernel_rfl
@[go_sem] theorem tkind_2 : tkind Try.prog 2 = some IntKind.i64 := by kernel_rfl
@[go_sem] theorem und_2 : (Try.prog.underlying 2).isSome = true := by kernel_rfl
@[go_sem] theorem tsz_3 : tsz Try.prog 3 = some 1 := by kernel_rfl
@[go_sem] theorem tagg_3 : tagg Try.prog 3 = some false := by kernel_rfl
@[go_sem] theorem tzero_3 : tzero Try.prog 3 = some [Value.int IntKind.i64 0] := by kernel_rfl
@[go_sem] theorem tkind_3 : tkind Try.prog 3 = some IntKind.i64 := by kernel_rfl
@[go_sem] theorem und_3 : (Try.prog.underlying 3).isSome = true := by kernel_rfl
@[go_sem] theorem tsz_4 : tsz Try.prog 4 = some 1 := by kernel_rfl
@[go_sem] theorem tagg_4 : tagg Try.prog 4 = some false := by kernel_rfl
@[go_sem] theorem tzero_4 : tzero Try.prog 4 = some [Value.bool false] := by kernel_rfl
@[go_sem] theorem tbool_4 : tbool Try.prog 4 = true := by kernel_rfl
@[go_sem] theorem und_4 : (Try.prog.underlying 4).isSome = true := by kernel_rfl
@[go_sem] theorem tsz_5 : tsz Try.prog 5 = some 1 := by kernel_rfl
@[go_sem] theorem tagg_5 : tagg Try.prog 5 = some false := by kernel_rfl
@[go_sem] theorem tzero_5 : tzero Try.prog 5 = some [Value.int IntKind.u8 0] := by kernel_rfl
@[go_sem] theorem tkind_5 : tkind Try.prog 5 = some IntKind.u8 := by kernel_rfl
@[go_sem] theorem und_5 : (Try.prog.underlying 5).isSome = true := by kernel_rfl
@[go_sem] theorem tsz_6 : tsz Try.prog 6 = some 1 := by kernel_rfl
@[go_sem] theorem tagg_6 : tagg Try.prog 6 = some false := by kernel_rfl
@[go_sem] theorem tzero_6 : tzero Try.prog 6 = some [Value.int IntKind.u8 0] := by kernel_rfl
@[go_sem] theorem tkind_6 : tkind Try.prog 6 = some IntKind.u8 := by kernel_rfl
@[go_sem] theorem und_6 : (Try.prog.underlying 6).isSome = true := by kernel_rfl
@[go_sem] theorem tsz_7 : tsz Try.prog 7 = some 4 := by kernel_rfl
@[go_sem] theorem tagg_7 : tagg Try.prog 7 = some true := by kernel_rfl
@[go_sem] theorem tzero_7 : tzero Try.prog 7 = some [Value.int IntKind.i64 0, Value.int IntKind.i64 0, Value.bool false, Value.int IntKind.u8 0] := by kernel_rfl
@[go_sem] theorem tlay_7 : tlay Try.prog 7 = some (Lay.str [Value.int IntKind.i64 0, Value.int IntKind.i64 0, Value.bool false, Value.int IntKind.u8 0]) := by kernel_rfl
@[go_sem] theorem teq_7 : teq Try.prog 7 = some [Lf.i, Lf.i, Lf.b, Lf.i] := by kernel_rfl
@[go_sem] theorem und_7 : (Try.prog.underlying 7).isSome = true := by kernel_rfl
@[go_sem] theorem tplaces_7_0 : tplaces Try.prog 7 0 = some (0, 1) := by kernel_rfl
@[go_sem] theorem tfo_7_0 : tfo Try.prog 7 0 = some 0 := by kernel_rfl
@[go_sem] theorem tplaces_7_1 : tplaces Try.prog 7 1 = some (1, 1) := by kernel_rfl
@[go_sem] theorem tfo_7_1 : tfo Try.prog 7 1 = some 1 := by kernel_rfl
@[go_sem] theorem tplaces_7_2 : tplaces Try.prog 7 2 = some (2, 1) := by kernel_rfl
@[go_sem] theorem tfo_7_2 : tfo Try.prog 7 2 = some 2 := by kernel_rfl
@[go_sem] theorem tplaces_7_3 : tplaces Try.prog 7 3 = some (3, 1) := by kernel_rfl
@[go_sem] theorem tfo_7_3 : tfo Try.prog 7 3 = some 3 := by kernel_rfl
@[go_sem] theorem tsz_8 : tsz Try.prog 8 = some 4 := by kernel_rfl
@[go_sem] theorem tagg_8 : tagg Try.prog 8 = some true := by kernel_rfl
@[go_sem] theorem tzero_8 : tzero Try.prog 8 = some [Value.int IntKind.i64 0, Value.int IntKind.i64 0, Value.bool false, Value.int IntKind.u8 0] := by kernel_rfl
@[go_sem] theorem tlay_8 : tlay Try.prog 8 = some (Lay.str [Value.int IntKind.i64 0, Value.int IntKind.i64 0, Value.bool false, Value.int IntKind.u8 0]) := by kernel_rfl
@[go_sem] theorem teq_8 : teq Try.prog 8 = some [Lf.i, Lf.i, Lf.b, Lf.i] := by kernel_rfl
@[go_sem] theorem und_8 : (Try.prog.underlying 8).isSome = true := by kernel_rfl
@[go_sem] theorem tplaces_8_0 : tplaces Try.prog 8 0 = some (0, 1) := by kernel_rfl
@[go_sem] theorem tfo_8_0 : tfo Try.prog 8 0 = some 0 := by kernel_rfl
@[go_sem] theorem tplaces_8_1 : tplaces Try.prog 8 1 = some (1, 1) := by kernel_rfl
@[go_sem] theorem tfo_8_1 : tfo Try.prog 8 1 = some 1 := by kernel_rfl
@[go_sem] theorem tplaces_8_2 : tplaces Try.prog 8 2 = some (2, 1) := by kernel_rfl
@[go_sem] theorem tfo_8_2 : tfo Try.prog 8 2 = some 2 := by kernel_rfl
@[go_sem] theorem tplaces_8_3 : tplaces Try.prog 8 3 = some (3, 1) := by kernel_rfl
@[go_sem] theorem tfo_8_3 : tfo Try.prog 8 3 = some 3 := by kernel_rfl
@[go_sem] theorem tsz_9 : tsz Try.prog 9 = some 1 := by kernel_rfl
@[go_sem] theorem tagg_9 : tagg Try.prog 9 = some false := by kernel_rfl
@[go_sem] theorem tzero_9 : tzero Try.prog 9 = some [Value.string { data := { toList := [] } }] := by kernel_rfl
@[go_sem] theorem tstr_9 : tstr Try.prog 9 = true := by kernel_rfl
@[go_sem] theorem und_9 : (Try.prog.underlying 9).isSome = true := by kernel_rfl
@[go_sem] theorem tsz_10 : tsz Try.prog 10 = some 1 := by kernel_rfl
@[go_sem] theorem tagg_10 : tagg Try.prog 10 = some false := by kernel_rfl
@[go_sem] theorem tzero_10 : tzero Try.prog 10 = some [Value.string { data := { toList := [] } }] := by kernel_rfl
@[go_sem] theorem tstr_10 : tstr Try.prog 10 = true := by kernel_rfl
@[go_sem] theorem und_10 : (Try.prog.underlying 10).isSome = true := by kernel_rfl
@[go_sem] theorem tsz_11 : tsz Try.prog 11 = some 1 := by kernel_rfl
@[go_sem] theorem tagg_11 : tagg Try.prog 11 = some false := by kernel_rfl
@[go_sem] theorem tzero_11 : tzero Try.prog 11 = some [Value.string { data := { toList := [] } }] := by kernel_rfl
@[go_sem] theorem tstr_11 : tstr Try.prog 11 = true := by kernel_rfl
@[go_sem] theorem und_11 : (Try.prog.underlying 11).isSome = true := by kernel_rfl
@[go_sem] theorem tsz_12 : tsz Try.prog 12 = some 1 := by kernel_rfl
@[go_sem] theorem tagg_12 : tagg Try.prog 12 = some false := by kernel_rfl
@[go_sem] theorem tzero_12 : tzero Try.prog 12 = some [Value.int IntKind.u64 0] := by kernel_rfl
@[go_sem] theorem tkind_12 : tkind Try.prog 12 = some IntKind.u64 := by kernel_rfl
@[go_sem] theorem und_12 : (Try.prog.underlying 12).isSome = true := by kernel_rfl
@[go_sem] theorem tsz_13 : tsz Try.prog 13 = some 2 := by kernel_rfl
@[go_sem] theorem tagg_13 : tagg Try.prog 13 = some true := by kernel_rfl
@[go_sem] theorem tzero_13 : tzero Try.prog 13 = some [Value.string { data := { toList := [] } }, Value.int IntKind.u64 0] := by kernel_rfl
@[go_sem] theorem tlay_13 : tlay Try.prog 13 = some (Lay.str [Value.string { data := { toList := [] } }, Value.int IntKind.u64 0]) := by kernel_rfl
@[go_sem] theorem und_13 : (Try.prog.underlying 13).isSome = true := by kernel_rfl
@[go_sem] theorem tplaces_13_0 : tplaces Try.prog 13 0 = some (0, 1) := by kernel_rfl
@[go_sem] theorem tfo_13_0 : tfo Try.prog 13 0 = some 0 := by kernel_rfl
@[go_sem] theorem tplaces_13_1 : tplaces Try.prog 13 1 = some (1, 1) := by kernel_rfl
@[go_sem] theorem tfo_13_1 : tfo Try.prog 13 1 = some 1 := by kernel_rfl
@[go_sem] theorem tsz_14 : tsz Try.prog 14 = some 2 := by kernel_rfl
@[go_sem] theorem tagg_14 : tagg Try.prog 14 = some true := by kernel_rfl
@[go_sem] theorem tzero_14 : tzero Try.prog 14 = some [Value.string { data := { toList := [] } }, Value.int IntKind.u64 0] := by kernel_rfl
@[go_sem] theorem tlay_14 : tlay Try.prog 14 = some (Lay.str [Value.string { data := { toList := [] } }, Value.int IntKind.u64 0]) := by kernel_rfl
@[go_sem] theorem und_14 : (Try.prog.underlying 14).isSome = true := by kernel_rfl
@[go_sem] theorem tplaces_14_0 : tplaces Try.prog 14 0 = some (0, 1) := by kernel_rfl
@[go_sem] theorem tfo_14_0 : tfo Try.prog 14 0 = some 0 := by kernel_rfl
@[go_sem] theorem tplaces_14_1 : tplaces Try.prog 14 1 = some (1, 1) := by kernel_rfl
@[go_sem] theorem tfo_14_1 : tfo Try.prog 14 1 = some 1 := by kernel_rfl
@[go_sem] theorem tsz_15 : tsz Try.prog 15 = some 1 := by kernel_rfl
@[go_sem] theorem tagg_15 : tagg Try.prog 15 = some false := by kernel_rfl
@[go_sem] theorem tzero_15 : tzero Try.prog 15 = some [Value.pointer Option.none] := by kernel_rfl
@[go_sem] theorem und_15 : (Try.prog.underlying 15).isSome = true := by kernel_rfl
@[go_sem] theorem tsz_16 : tsz Try.prog 16 = some 1 := by kernel_rfl
@[go_sem] theorem tagg_16 : tagg Try.prog 16 = some false := by kernel_rfl
@[go_sem] theorem tzero_16 : tzero Try.prog 16 = some [Value.pointer Option.none] := by kernel_rfl
@[go_sem] theorem und_16 : (Try.prog.underlying 16).isSome = true := by kernel_rfl
@[go_sem] theorem tsz_17 : tsz Try.prog 17 = some 1 := by kernel_rfl
@[go_sem] theorem tagg_17 : tagg Try.prog 17 = some false := by kernel_rfl
@[go_sem] theorem tzero_17 : tzero Try.prog 17 = some [Value.pointer Option.none] := by kernel_rfl
@[go_sem] theorem und_17 : (Try.prog.underlying 17).isSome = true := by kernel_rfl
@[go_sem] theorem tsz_18 : tsz Try.prog 18 = some 1 := by kernel_rfl
@[go_sem] theorem tagg_18 : tagg Try.prog 18 = some true := by kernel_rfl
@[go_sem] theorem tzero_18 : tzero Try.prog 18 = some [Value.pointer Option.none] := by kernel_rfl
@[go_sem] theorem tlay_18 : tlay Try.prog 18 = some (Lay.str [Value.pointer Option.none]) := by kernel_rfl
@[go_sem] theorem und_18 : (Try.prog.underlying 18).isSome = true := by kernel_rfl
@[go_sem] theorem tplaces_18_0 : tplaces Try.prog 18 0 = some (0, 1) := by kernel_rfl
@[go_sem] theorem tfo_18_0 : tfo Try.prog 18 0 = some 0 := by kernel_rfl
@[go_sem] theorem tsz_19 : tsz Try.prog 19 = some 1 := by kernel_rfl
@[go_sem] theorem tagg_19 : tagg Try.prog 19 = some true := by kernel_rfl
@[go_sem] theorem tzero_19 : tzero Try.prog 19 = some [Value.pointer Option.none] := by kernel_rfl
@[go_sem] theorem tlay_19 : tlay Try.prog 19 = some (Lay.str [Value.pointer Option.none]) := by kernel_rfl
@[go_sem] theorem und_19 : (Try.prog.underlying 19).isSome = true := by kernel_rfl
@[go_sem] theorem tplaces_19_0 : tplaces Try.prog 19 0 = some (0, 1) := by kernel_rfl
@[go_sem] theorem tfo_19_0 : tfo Try.prog 19 0 = some 0 := by kernel_rfl
@[go_sem] theorem tsz_20 : tsz Try.prog 20 = some 1 := by kernel_rfl
@[go_sem] theorem tagg_20 : tagg Try.prog 20 = some false := by kernel_rfl
@[go_sem] theorem tzero_20 : tzero Try.prog 20 = some [Value.nilIface] := by kernel_rfl
@[go_sem] theorem und_20 : (Try.prog.underlying 20).isSome = true := by kernel_rfl
@[go_sem] theorem tsz_21 : tsz Try.prog 21 = some 1 := by kernel_rfl
@[go_sem] theorem tagg_21 : tagg Try.prog 21 = some false := by kernel_rfl
@[go_sem] theorem tzero_21 : tzero Try.prog 21 = some [Value.int IntKind.i32 0] := by kernel_rfl
@[go_sem] theorem tkind_21 : tkind Try.prog 21 = some IntKind.i32 := by kernel_rfl
@[go_sem] theorem und_21 : (Try.prog.underlying 21).isSome = true := by kernel_rfl
@[go_sem] theorem tsz_22 : tsz Try.prog 22 = some 1 := by kernel_rfl
@[go_sem] theorem tagg_22 : tagg Try.prog 22 = some false := by kernel_rfl
@[go_sem] theorem und_22 : (Try.prog.underlying 22).isSome = true := by kernel_rfl
@[go_sem] theorem tsz_23 : tsz Try.prog 23 = some 1 := by kernel_rfl
@[go_sem] theorem tagg_23 : tagg Try.prog 23 = some false := by kernel_rfl
@[go_sem] theorem und_23 : (Try.prog.underlying 23).isSome = true := by kernel_rfl
@[go_sem] theorem tsz_24 : tsz Try.prog 24 = some 1 := by kernel_rfl
@[go_sem] theorem tagg_24 : tagg Try.prog 24 = some false := by kernel_rfl
@[go_sem] theorem tzero_24 : tzero Try.prog 24 = some [Value.int IntKind.u64 0] := by kernel_rfl
@[go_sem] theorem tkind_24 : tkind Try.prog 24 = some IntKind.u64 := by kernel_rfl
@[go_sem] theorem und_24 : (Try.prog.underlying 24).isSome = true := by kernel_rfl
@[go_sem] theorem tsz_25 : tsz Try.prog 25 = some 1 := by kernel_rfl
@[go_sem] theorem tagg_25 : tagg Try.prog 25 = some false := by kernel_rfl
@[go_sem] theorem und_25 : (Try.prog.underlying 25).isSome = true := by kernel_rfl
@[go_sem] theorem tsz_26 : tsz Try.prog 26 = some 1 := by kernel_rfl
@[go_sem] theorem tagg_26 : tagg Try.prog 26 = some false := by kernel_rfl
@[go_sem] theorem und_26 : (Try.prog.underlying 26).isSome = true := by kernel_rfl
@[go_sem] theorem tsz_27 : tsz Try.prog 27 = some 1 := by kernel_rfl
@[go_sem] theorem tagg_27 : tagg Try.prog 27 = some false := by kernel_rfl
@[go_sem] theorem und_27 : (Try.prog.underlying 27).isSome = true := by kernel_rfl
@[go_sem] theorem tsz_28 : tsz Try.prog 28 = some 1 := by kernel_rfl
@[go_sem] theorem tagg_28 : tagg Try.prog 28 = some false := by kernel_rfl
@[go_sem] theorem und_28 : (Try.prog.underlying 28).isSome = true := by kernel_rfl
@[go_sem] theorem tsz_29 : tsz Try.prog 29 = some 1 := by kernel_rfl
@[go_sem] theorem tagg_29 : tagg Try.prog 29 = some false := by kernel_rfl
@[go_sem] theorem tzero_29 : tzero Try.prog 29 = some [Value.slice Option.none 0 0] := by kernel_rfl
@[go_sem] theorem tse_29 : tse Try.prog 29 = some 1 := by kernel_rfl
@[go_sem] theorem tlit_29 : tlit Try.prog 29 = some ([Value.int IntKind.i64 0], 1) := by kernel_rfl
@[go_sem] theorem tapp_29 : tapp Try.prog 29 = some (1, 8) := by kernel_rfl
@[go_sem] theorem tslice_29 : tslice Try.prog 29 = some 2 := by kernel_rfl
@[go_sem] theorem und_29 : (Try.prog.underlying 29).isSome = true := by kernel_rfl
@[go_sem] theorem tsz_30 : tsz Try.prog 30 = some 1 := by kernel_rfl
@[go_sem] theorem tagg_30 : tagg Try.prog 30 = some false := by kernel_rfl
@[go_sem] theorem und_30 : (Try.prog.underlying 30).isSome = true := by kernel_rfl
@[go_sem] theorem tsz_31 : tsz Try.prog 31 = some 2 := by kernel_rfl
@[go_sem] theorem tagg_31 : tagg Try.prog 31 = some true := by kernel_rfl
@[go_sem] theorem tzero_31 : tzero Try.prog 31 = some [Value.int IntKind.i64 0, Value.int IntKind.i64 0] := by kernel_rfl
@[go_sem] theorem tlay_31 : tlay Try.prog 31 = some (Lay.str [Value.int IntKind.i64 0, Value.int IntKind.i64 0]) := by kernel_rfl
@[go_sem] theorem teq_31 : teq Try.prog 31 = some [Lf.i, Lf.i] := by kernel_rfl
@[go_sem] theorem und_31 : (Try.prog.underlying 31).isSome = true := by kernel_rfl
@[go_sem] theorem tplaces_31_0 : tplaces Try.prog 31 0 = some (0, 1) := by kernel_rfl
@[go_sem] theorem tfo_31_0 : tfo Try.prog 31 0 = some 0 := by kernel_rfl
@[go_sem] theorem tplaces_31_1 : tplaces Try.prog 31 1 = some (1, 1) := by kernel_rfl
@[go_sem] theorem tfo_31_1 : tfo Try.prog 31 1 = some 1 := by kernel_rfl
@[go_sem] theorem tsz_32 : tsz Try.prog 32 = some 2 := by kernel_rfl
@[go_sem] theorem tagg_32 : tagg Try.prog 32 = some true := by kernel_rfl
@[go_sem] theorem tzero_32 : tzero Try.prog 32 = some [Value.int IntKind.i64 0, Value.int IntKind.i64 0] := by kernel_rfl
@[go_sem] theorem tlay_32 : tlay Try.prog 32 = some (Lay.str [Value.int IntKind.i64 0, Value.int IntKind.i64 0]) := by kernel_rfl
@[go_sem] theorem teq_32 : teq Try.prog 32 = some [Lf.i, Lf.i] := by kernel_rfl
@[go_sem] theorem und_32 : (Try.prog.underlying 32).isSome = true := by kernel_rfl
@[go_sem] theorem tplaces_32_0 : tplaces Try.prog 32 0 = some (0, 1) := by kernel_rfl
@[go_sem] theorem tfo_32_0 : tfo Try.prog 32 0 = some 0 := by kernel_rfl
@[go_sem] theorem tplaces_32_1 : tplaces Try.prog 32 1 = some (1, 1) := by kernel_rfl
@[go_sem] theorem tfo_32_1 : tfo Try.prog 32 1 = some 1 := by kernel_rfl
@[go_sem] theorem tsz_33 : tsz Try.prog 33 = some 6 := by kernel_rfl
@[go_sem] theorem tagg_33 : tagg Try.prog 33 = some true := by kernel_rfl
@[go_sem] theorem tzero_33 : tzero Try.prog 33 = some [Value.int IntKind.i64 0, Value.int IntKind.i64 0, Value.int IntKind.i64 0, Value.int IntKind.i64 0, Value.int IntKind.i64 0, Value.int IntKind.i64 0] := by kernel_rfl
@[go_sem] theorem tlay_33 : tlay Try.prog 33 = some (Lay.str [Value.int IntKind.i64 0, Value.int IntKind.i64 0, Value.int IntKind.i64 0, Value.int IntKind.i64 0, Value.int IntKind.i64 0, Value.int IntKind.i64 0]) := by kernel_rfl
@[go_sem] theorem teq_33 : teq Try.prog 33 = some [Lf.i, Lf.i, Lf.i, Lf.i, Lf.i, Lf.i] := by kernel_rfl
@[go_sem] theorem und_33 : (Try.prog.underlying 33).isSome = true := by kernel_rfl
@[go_sem] theorem tplaces_33_0 : tplaces Try.prog 33 0 = some (0, 1) := by kernel_rfl
@[go_sem] theorem tfo_33_0 : tfo Try.prog 33 0 = some 0 := by kernel_rfl
@[go_sem] theorem tplaces_33_1 : tplaces Try.prog 33 1 = some (1, 1) := by kernel_rfl
@[go_sem] theorem tfo_33_1 : tfo Try.prog 33 1 = some 1 := by kernel_rfl
@[go_sem] theorem tplaces_33_2 : tplaces Try.prog 33 2 = some (2, 1) := by kernel_rfl
@[go_sem] theorem tfo_33_2 : tfo Try.prog 33 2 = some 2 := by kernel_rfl
@[go_sem] theorem tplaces_33_3 : tplaces Try.prog 33 3 = some (3, 1) := by kernel_rfl
@[go_sem] theorem tfo_33_3 : tfo Try.prog 33 3 = some 3 := by kernel_rfl
@[go_sem] theorem tplaces_33_4 : tplaces Try.prog 33 4 = some (4, 1) := by kernel_rfl
@[go_sem] theorem tfo_33_4 : tfo Try.prog 33 4 = some 4 := by kernel_rfl
@[go_sem] theorem tplaces_33_5 : tplaces Try.prog 33 5 = some (5, 1) := by kernel_rfl
@[go_sem] theorem tfo_33_5 : tfo Try.prog 33 5 = some 5 := by kernel_rfl
@[go_sem] theorem tsz_34 : tsz Try.prog 34 = some 6 := by kernel_rfl
@[go_sem] theorem tagg_34 : tagg Try.prog 34 = some true := by kernel_rfl
@[go_sem] theorem tzero_34 : tzero Try.prog 34 = some [Value.int IntKind.i64 0, Value.int IntKind.i64 0, Value.int IntKind.i64 0, Value.int IntKind.i64 0, Value.int IntKind.i64 0, Value.int IntKind.i64 0] := by kernel_rfl
@[go_sem] theorem tlay_34 : tlay Try.prog 34 = some (Lay.str [Value.int IntKind.i64 0, Value.int IntKind.i64 0, Value.int IntKind.i64 0, Value.int IntKind.i64 0, Value.int IntKind.i64 0, Value.int IntKind.i64 0]) := by kernel_rfl
@[go_sem] theorem teq_34 : teq Try.prog 34 = some [Lf.i, Lf.i, Lf.i, Lf.i, Lf.i, Lf.i] := by kernel_rfl
@[go_sem] theorem und_34 : (Try.prog.underlying 34).isSome = true := by kernel_rfl
@[go_sem] theorem tplaces_34_0 : tplaces Try.prog 34 0 = some (0, 1) := by kernel_rfl
@[go_sem] theorem tfo_34_0 : tfo Try.prog 34 0 = some 0 := by kernel_rfl
@[go_sem] theorem tplaces_34_1 : tplaces Try.prog 34 1 = some (1, 1) := by kernel_rfl
@[go_sem] theorem tfo_34_1 : tfo Try.prog 34 1 = some 1 := by kernel_rfl
@[go_sem] theorem tplaces_34_2 : tplaces Try.prog 34 2 = some (2, 1) := by kernel_rfl
@[go_sem] theorem tfo_34_2 : tfo Try.prog 34 2 = some 2 := by kernel_rfl
@[go_sem] theorem tplaces_34_3 : tplaces Try.prog 34 3 = some (3, 1) := by kernel_rfl
@[go_sem] theorem tfo_34_3 : tfo Try.prog 34 3 = some 3 := by kernel_rfl
@[go_sem] theorem tplaces_34_4 : tplaces Try.prog 34 4 = some (4, 1) := by kernel_rfl
@[go_sem] theorem tfo_34_4 : tfo Try.prog 34 4 = some 4 := by kernel_rfl
@[go_sem] theorem tplaces_34_5 : tplaces Try.prog 34 5 = some (5, 1) := by kernel_rfl
@[go_sem] theorem tfo_34_5 : tfo Try.prog 34 5 = some 5 := by kernel_rfl
@[go_sem] theorem tsz_35 : tsz Try.prog 35 = some 1 := by kernel_rfl
@[go_sem] theorem tagg_35 : tagg Try.prog 35 = some false := by kernel_rfl
@[go_sem] theorem und_35 : (Try.prog.underlying 35).isSome = true := by kernel_rfl
@[go_sem] theorem tsz_36 : tsz Try.prog 36 = some 1 := by kernel_rfl
@[go_sem] theorem tagg_36 : tagg Try.prog 36 = some false := by kernel_rfl
@[go_sem] theorem und_36 : (Try.prog.underlying 36).isSome = true := by kernel_rfl
@[go_sem] theorem tsz_37 : tsz Try.prog 37 = some 1 := by kernel_rfl
@[go_sem] theorem tagg_37 : tagg Try.prog 37 = some false := by kernel_rfl
@[go_sem] theorem und_37 : (Try.prog.underlying 37).isSome = true := by kernel_rfl
@[go_sem] theorem tsz_38 : tsz Try.prog 38 = some 1 := by kernel_rfl
@[go_sem] theorem tagg_38 : tagg Try.prog 38 = some false := by kernel_rfl
@[go_sem] theorem und_38 : (Try.prog.underlying 38).isSome = true := by kernel_rfl
@[go_sem] theorem tsz_39 : tsz Try.prog 39 = some 1 := by kernel_rfl
@[go_sem] theorem tagg_39 : tagg Try.prog 39 = some false := by kernel_rfl
@[go_sem] theorem und_39 : (Try.prog.underlying 39).isSome = true := by kernel_rfl
@[go_sem] theorem tsz_40 : tsz Try.prog 40 = some 1 := by kernel_rfl
@[go_sem] theorem tagg_40 : tagg Try.prog 40 = some false := by kernel_rfl
@[go_sem] theorem und_40 : (Try.prog.underlying 40).isSome = true := by kernel_rfl
@[go_sem] theorem tsz_41 : tsz Try.prog 41 = some 1 := by kernel_rfl
@[go_sem] theorem tagg_41 : tagg Try.prog 41 = some false := by kernel_rfl
@[go_sem] theorem und_41 : (Try.prog.underlying 41).isSome = true := by kernel_rfl
@[go_sem] theorem tsz_42 : tsz Try.prog 42 = some 1 := by kernel_rfl
@[go_sem] theorem tagg_42 : tagg Try.prog 42 = some false := by kernel_rfl
@[go_sem] theorem und_42 : (Try.prog.underlying 42).isSome = true := by kernel_rfl
@[go_sem] theorem tsz_43 : tsz Try.prog 43 = some 1 := by kernel_rfl
@[go_sem] theorem tagg_43 : tagg Try.prog 43 = some false := by kernel_rfl
@[go_sem] theorem und_43 : (Try.prog.underlying 43).isSome = true := by kernel_rfl
@[go_sem] theorem tsz_44 : tsz Try.prog 44 = some 1 := by kernel_rfl
@[go_sem] theorem tagg_44 : tagg Try.prog 44 = some false := by kernel_rfl
@[go_sem] theorem tzero_44 : tzero Try.prog 44 = some [Value.slice Option.none 0 0] := by kernel_rfl
@[go_sem] theorem tse_44 : tse Try.prog 44 = some 1 := by kernel_rfl
@[go_sem] theorem tlit_44 : tlit Try.prog 44 = some ([Value.int IntKind.i64 0], 1) := by kernel_rfl
@[go_sem] theorem tapp_44 : tapp Try.prog 44 = some (1, 8) := by kernel_rfl
@[go_sem] theorem tslice_44 : tslice Try.prog 44 = some 3 := by kernel_rfl
@[go_sem] theorem und_44 : (Try.prog.underlying 44).isSome = true := by kernel_rfl
@[go_sem] theorem tsz_45 : tsz Try.prog 45 = some 4 := by kernel_rfl
@[go_sem] theorem tagg_45 : tagg Try.prog 45 = some true := by kernel_rfl
@[go_sem] theorem tzero_45 : tzero Try.prog 45 = some [Value.int IntKind.u8 0, Value.int IntKind.u8 0, Value.int IntKind.u8 0, Value.int IntKind.u8 0] := by kernel_rfl
@[go_sem] theorem tae_45 : tae Try.prog 45 = some (4, 1) := by kernel_rfl
@[go_sem] theorem tlay_45 : tlay Try.prog 45 = some (Lay.arr [Value.int IntKind.u8 0, Value.int IntKind.u8 0, Value.int IntKind.u8 0, Value.int IntKind.u8 0] 1) := by kernel_rfl
@[go_sem] theorem teq_45 : teq Try.prog 45 = some [Lf.i, Lf.i, Lf.i, Lf.i] := by kernel_rfl
@[go_sem] theorem tarr_45 : tarr Try.prog 45 = some (4, 5) := by kernel_rfl
@[go_sem] theorem und_45 : (Try.prog.underlying 45).isSome = true := by kernel_rfl
@[go_sem] theorem tsz_46 : tsz Try.prog 46 = some 4 := by kernel_rfl
@[go_sem] theorem tagg_46 : tagg Try.prog 46 = some true := by kernel_rfl
@[go_sem] theorem tzero_46 : tzero Try.prog 46 = some [Value.int IntKind.u8 0, Value.int IntKind.u8 0, Value.int IntKind.u8 0, Value.int IntKind.u8 0] := by kernel_rfl
@[go_sem] theorem tae_46 : tae Try.prog 46 = some (4, 1) := by kernel_rfl
@[go_sem] theorem tlay_46 : tlay Try.prog 46 = some (Lay.arr [Value.int IntKind.u8 0, Value.int IntKind.u8 0, Value.int IntKind.u8 0, Value.int IntKind.u8 0] 1) := by kernel_rfl
@[go_sem] theorem teq_46 : teq Try.prog 46 = some [Lf.i, Lf.i, Lf.i, Lf.i] := by kernel_rfl
@[go_sem] theorem tarr_46 : tarr Try.prog 46 = some (4, 5) := by kernel_rfl
@[go_sem] theorem und_46 : (Try.prog.underlying 46).isSome = true := by kernel_rfl
@[go_sem] theorem tsz_47 : tsz Try.prog 47 = some 14 := by kernel_rfl
@[go_sem] theorem tagg_47 : tagg Try.prog 47 = some true := by kernel_rfl
@[go_sem] theorem tzero_47 : tzero Try.prog 47 = some [Value.int IntKind.i64 0, Value.int IntKind.u8 0, Value.int IntKind.u8 0, Value.int IntKind.u8 0, Value.int IntKind.u8 0, Value.int IntKind.u8 0, Value.int IntKind.u8 0, Value.int IntKind.u8 0, Value.int IntKind.u8 0, Value.int IntKind.i64 0, Value.int IntKind.i64 0, Value.int IntKind.i64 0, Value.int IntKind.i64 0, Value.int IntKind.i64 0] := by kernel_rfl
@[go_sem] theorem tlay_47 : tlay Try.prog 47 = some (Lay.str [Value.int IntKind.i64 0, Value.int IntKind.u8 0, Value.int IntKind.u8 0, Value.int IntKind.u8 0, Value.int IntKind.u8 0, Value.int IntKind.u8 0, Value.int IntKind.u8 0, Value.int IntKind.u8 0, Value.int IntKind.u8 0, Value.int IntKind.i64 0, Value.int IntKind.i64 0, Value.int IntKind.i64 0, Value.int IntKind.i64 0, Value.int IntKind.i64 0]) := by kernel_rfl
@[go_sem] theorem teq_47 : teq Try.prog 47 = some [Lf.i, Lf.i, Lf.i, Lf.i, Lf.i, Lf.i, Lf.i, Lf.i, Lf.i, Lf.i, Lf.i, Lf.i, Lf.i, Lf.i] := by kernel_rfl
@[go_sem] theorem und_47 : (Try.prog.underlying 47).isSome = true := by kernel_rfl
@[go_sem] theorem tplaces_47_0 : tplaces Try.prog 47 0 = some (0, 1) := by kernel_rfl
@[go_sem] theorem tfo_47_0 : tfo Try.prog 47 0 = some 0 := by kernel_rfl
@[go_sem] theorem tplaces_47_1 : tplaces Try.prog 47 1 = some (1, 4) := by kernel_rfl
@[go_sem] theorem tfo_47_1 : tfo Try.prog 47 1 = some 1 := by kernel_rfl
@[go_sem] theorem tplaces_47_2 : tplaces Try.prog 47 2 = some (5, 4) := by kernel_rfl
@[go_sem] theorem tfo_47_2 : tfo Try.prog 47 2 = some 5 := by kernel_rfl
@[go_sem] theorem tplaces_47_3 : tplaces Try.prog 47 3 = some (9, 2) := by kernel_rfl
@[go_sem] theorem tfo_47_3 : tfo Try.prog 47 3 = some 9 := by kernel_rfl
@[go_sem] theorem tplaces_47_4 : tplaces Try.prog 47 4 = some (11, 2) := by kernel_rfl
@[go_sem] theorem tfo_47_4 : tfo Try.prog 47 4 = some 11 := by kernel_rfl
@[go_sem] theorem tplaces_47_5 : tplaces Try.prog 47 5 = some (13, 1) := by kernel_rfl
@[go_sem] theorem tfo_47_5 : tfo Try.prog 47 5 = some 13 := by kernel_rfl
@[go_sem] theorem tsz_48 : tsz Try.prog 48 = some 14 := by kernel_rfl
@[go_sem] theorem tagg_48 : tagg Try.prog 48 = some true := by kernel_rfl
@[go_sem] theorem tzero_48 : tzero Try.prog 48 = some [Value.int IntKind.i64 0, Value.int IntKind.u8 0, Value.int IntKind.u8 0, Value.int IntKind.u8 0, Value.int IntKind.u8 0, Value.int IntKind.u8 0, Value.int IntKind.u8 0, Value.int IntKind.u8 0, Value.int IntKind.u8 0, Value.int IntKind.i64 0, Value.int IntKind.i64 0, Value.int IntKind.i64 0, Value.int IntKind.i64 0, Value.int IntKind.i64 0] := by kernel_rfl
@[go_sem] theorem tlay_48 : tlay Try.prog 48 = some (Lay.str [Value.int IntKind.i64 0, Value.int IntKind.u8 0, Value.int IntKind.u8 0, Value.int IntKind.u8 0, Value.int IntKind.u8 0, Value.int IntKind.u8 0, Value.int IntKind.u8 0, Value.int IntKind.u8 0, Value.int IntKind.u8 0, Value.int IntKind.i64 0, Value.int IntKind.i64 0, Value.int IntKind.i64 0, Value.int IntKind.i64 0, Value.int IntKind.i64 0]) := by kernel_rfl
@[go_sem] theorem teq_48 : teq Try.prog 48 = some [Lf.i, Lf.i, Lf.i, Lf.i, Lf.i, Lf.i, Lf.i, Lf.i, Lf.i, Lf.i, Lf.i, Lf.i, Lf.i, Lf.i] := by kernel_rfl
@[go_sem] theorem und_48 : (Try.prog.underlying 48).isSome = true := by kernel_rfl
@[go_sem] theorem tplaces_48_0 : tplaces Try.prog 48 0 = some (0, 1) := by kernel_rfl
@[go_sem] theorem tfo_48_0 : tfo Try.prog 48 0 = some 0 := by kernel_rfl
@[go_sem] theorem tplaces_48_1 : tplaces Try.prog 48 1 = some (1, 4) := by kernel_rfl
@[go_sem] theorem tfo_48_1 : tfo Try.prog 48 1 = some 1 := by kernel_rfl
@[go_sem] theorem tplaces_48_2 : tplaces Try.prog 48 2 = some (5, 4) := by kernel_rfl
@[go_sem] theorem tfo_48_2 : tfo Try.prog 48 2 = some 5 := by kernel_rfl
@[go_sem] theorem tplaces_48_3 : tplaces Try.prog 48 3 = some (9, 2) := by kernel_rfl
@[go_sem] theorem tfo_48_3 : tfo Try.prog 48 3 = some 9 := by kernel_rfl
@[go_sem] theorem tplaces_48_4 : tplaces Try.prog 48 4 = some (11, 2) := by kernel_rfl
@[go_sem] theorem tfo_48_4 : tfo Try.prog 48 4 = some 11 := by kernel_rfl
@[go_sem] theorem tplaces_48_5 : tplaces Try.prog 48 5 = some (13, 1) := by kernel_rfl
@[go_sem] theorem tfo_48_5 : tfo Try.prog 48 5 = some 13 := by kernel_rfl
@[go_sem] theorem tsz_49 : tsz Try.prog 49 = some 1 := by kernel_rfl
@[go_sem] theorem tagg_49 : tagg Try.prog 49 = some false := by kernel_rfl
@[go_sem] theorem und_49 : (Try.prog.underlying 49).isSome = true := by kernel_rfl
@[go_sem] theorem tsz_50 : tsz Try.prog 50 = some 1 := by kernel_rfl
@[go_sem] theorem tagg_50 : tagg Try.prog 50 = some false := by kernel_rfl
@[go_sem] theorem und_50 : (Try.prog.underlying 50).isSome = true := by kernel_rfl
@[go_sem] theorem tsz_51 : tsz Try.prog 51 = some 1 := by kernel_rfl
@[go_sem] theorem tagg_51 : tagg Try.prog 51 = some false := by kernel_rfl
@[go_sem] theorem und_51 : (Try.prog.underlying 51).isSome = true := by kernel_rfl
@[go_sem] theorem tsz_52 : tsz Try.prog 52 = some 1 := by kernel_rfl
@[go_sem] theorem tagg_52 : tagg Try.prog 52 = some false := by kernel_rfl
@[go_sem] theorem und_52 : (Try.prog.underlying 52).isSome = true := by kernel_rfl
@[go_sem] theorem tsz_53 : tsz Try.prog 53 = some 1 := by kernel_rfl
@[go_sem] theorem tagg_53 : tagg Try.prog 53 = some false := by kernel_rfl
@[go_sem] theorem und_53 : (Try.prog.underlying 53).isSome = true := by kernel_rfl
@[go_sem] theorem tsz_54 : tsz Try.prog 54 = some 1 := by kernel_rfl
@[go_sem] theorem tagg_54 : tagg Try.prog 54 = some false := by kernel_rfl
@[go_sem] theorem und_54 : (Try.prog.underlying 54).isSome = true := by kernel_rfl
@[go_sem] theorem tsz_55 : tsz Try.prog 55 = some 1 := by kernel_rfl
@[go_sem] theorem tagg_55 : tagg Try.prog 55 = some false := by kernel_rfl
@[go_sem] theorem und_55 : (Try.prog.underlying 55).isSome = true := by kernel_rfl
@[go_sem] theorem tsz_56 : tsz Try.prog 56 = some 1 := by kernel_rfl
@[go_sem] theorem tagg_56 : tagg Try.prog 56 = some false := by kernel_rfl
@[go_sem] theorem und_56 : (Try.prog.underlying 56).isSome = true := by kernel_rfl
@[go_sem] theorem tsz_57 : tsz Try.prog 57 = some 1 := by kernel_rfl
@[go_sem] theorem tagg_57 : tagg Try.prog 57 = some false := by kernel_rfl
@[go_sem] theorem und_57 : (Try.prog.underlying 57).isSome = true := by kernel_rfl
@[go_sem] theorem tsz_58 : tsz Try.prog 58 = some 4 := by kernel_rfl
@[go_sem] theorem tagg_58 : tagg Try.prog 58 = some true := by kernel_rfl
@[go_sem] theorem tzero_58 : tzero Try.prog 58 = some [Value.int IntKind.u8 0, Value.int IntKind.u8 0, Value.int IntKind.u8 0, Value.int IntKind.u8 0] := by kernel_rfl
@[go_sem] theorem tae_58 : tae Try.prog 58 = some (4, 1) := by kernel_rfl
@[go_sem] theorem tlay_58 : tlay Try.prog 58 = some (Lay.arr [Value.int IntKind.u8 0, Value.int IntKind.u8 0, Value.int IntKind.u8 0, Value.int IntKind.u8 0] 1) := by kernel_rfl
@[go_sem] theorem teq_58 : teq Try.prog 58 = some [Lf.i, Lf.i, Lf.i, Lf.i] := by kernel_rfl
@[go_sem] theorem tarr_58 : tarr Try.prog 58 = some (4, 5) := by kernel_rfl
@[go_sem] theorem und_58 : (Try.prog.underlying 58).isSome = true := by kernel_rfl
@[go_sem] theorem tsz_59 : tsz Try.prog 59 = some 1 := by kernel_rfl
@[go_sem] theorem tagg_59 : tagg Try.prog 59 = some false := by kernel_rfl
@[go_sem] theorem und_59 : (Try.prog.underlying 59).isSome = true := by kernel_rfl
@[go_sem] theorem tsz_60 : tsz Try.prog 60 = some 1 := by kernel_rfl
@[go_sem] theorem tagg_60 : tagg Try.prog 60 = some false := by kernel_rfl
@[go_sem] theorem und_60 : (Try.prog.underlying 60).isSome = true := by kernel_rfl
@[go_sem] theorem tsz_61 : tsz Try.prog 61 = some 1 := by kernel_rfl
@[go_sem] theorem tagg_61 : tagg Try.prog 61 = some false := by kernel_rfl
@[go_sem] theorem und_61 : (Try.prog.underlying 61).isSome = true := by kernel_rfl
@[go_sem] theorem tsz_62 : tsz Try.prog 62 = some 1 := by kernel_rfl
@[go_sem] theorem tagg_62 : tagg Try.prog 62 = some false := by kernel_rfl
@[go_sem] theorem und_62 : (Try.prog.underlying 62).isSome = true := by kernel_rfl
@[go_sem] theorem tsz_63 : tsz Try.prog 63 = some 1 := by kernel_rfl
@[go_sem] theorem tagg_63 : tagg Try.prog 63 = some false := by kernel_rfl
@[go_sem] theorem und_63 : (Try.prog.underlying 63).isSome = true := by kernel_rfl
@[go_sem] theorem tsz_64 : tsz Try.prog 64 = some 1 := by kernel_rfl
@[go_sem] theorem tagg_64 : tagg Try.prog 64 = some false := by kernel_rfl
@[go_sem] theorem und_64 : (Try.prog.underlying 64).isSome = true := by kernel_rfl
@[go_sem] theorem tsz_65 : tsz Try.prog 65 = some 12 := by kernel_rfl
@[go_sem] theorem tagg_65 : tagg Try.prog 65 = some true := by kernel_rfl
@[go_sem] theorem tzero_65 : tzero Try.prog 65 = some [Value.int IntKind.u8 0, Value.int IntKind.u8 0, Value.int IntKind.u8 0, Value.int IntKind.u8 0, Value.int IntKind.u8 0, Value.int IntKind.u8 0, Value.int IntKind.u8 0, Value.int IntKind.u8 0, Value.int IntKind.u8 0, Value.int IntKind.u8 0, Value.int IntKind.u8 0, Value.int IntKind.u8 0] := by kernel_rfl
@[go_sem] theorem tae_65 : tae Try.prog 65 = some (3, 4) := by kernel_rfl
@[go_sem] theorem tlay_65 : tlay Try.prog 65 = some (Lay.arr [Value.int IntKind.u8 0, Value.int IntKind.u8 0, Value.int IntKind.u8 0, Value.int IntKind.u8 0, Value.int IntKind.u8 0, Value.int IntKind.u8 0, Value.int IntKind.u8 0, Value.int IntKind.u8 0, Value.int IntKind.u8 0, Value.int IntKind.u8 0, Value.int IntKind.u8 0, Value.int IntKind.u8 0] 4) := by kernel_rfl
@[go_sem] theorem teq_65 : teq Try.prog 65 = some [Lf.i, Lf.i, Lf.i, Lf.i, Lf.i, Lf.i, Lf.i, Lf.i, Lf.i, Lf.i, Lf.i, Lf.i] := by kernel_rfl
@[go_sem] theorem tarr_65 : tarr Try.prog 65 = some (3, 58) := by kernel_rfl
@[go_sem] theorem und_65 : (Try.prog.underlying 65).isSome = true := by kernel_rfl
@[go_sem] theorem tsz_66 : tsz Try.prog 66 = some 1 := by kernel_rfl
@[go_sem] theorem tagg_66 : tagg Try.prog 66 = some false := by kernel_rfl
@[go_sem] theorem tzero_66 : tzero Try.prog 66 = some [Value.slice Option.none 0 0] := by kernel_rfl
@[go_sem] theorem tse_66 : tse Try.prog 66 = some 4 := by kernel_rfl
@[go_sem] theorem tlit_66 : tlit Try.prog 66 = some ([Value.int IntKind.u8 0, Value.int IntKind.u8 0, Value.int IntKind.u8 0, Value.int IntKind.u8 0], 4) := by kernel_rfl
@[go_sem] theorem tapp_66 : tapp Try.prog 66 = some (4, 4) := by kernel_rfl
@[go_sem] theorem tslice_66 : tslice Try.prog 66 = some 46 := by kernel_rfl
@[go_sem] theorem und_66 : (Try.prog.underlying 66).isSome = true := by kernel_rfl
@[go_sem] theorem tsz_67 : tsz Try.prog 67 = some 1 := by kernel_rfl
@[go_sem] theorem tagg_67 : tagg Try.prog 67 = some false := by kernel_rfl
@[go_sem] theorem tzero_67 : tzero Try.prog 67 = some [Value.slice Option.none 0 0] := by kernel_rfl
@[go_sem] theorem tse_67 : tse Try.prog 67 = some 1 := by kernel_rfl
@[go_sem] theorem tlit_67 : tlit Try.prog 67 = some ([Value.bool false], 1) := by kernel_rfl
@[go_sem] theorem tapp_67 : tapp Try.prog 67 = some (1, 1) := by kernel_rfl
@[go_sem] theorem tslice_67 : tslice Try.prog 67 = some 4 := by kernel_rfl
@[go_sem] theorem und_67 : (Try.prog.underlying 67).isSome = true := by kernel_rfl
@[go_sem] theorem tsz_68 : tsz Try.prog 68 = some 1 := by kernel_rfl
@[go_sem] theorem tagg_68 : tagg Try.prog 68 = some false := by kernel_rfl
@[go_sem] theorem und_68 : (Try.prog.underlying 68).isSome = true := by kernel_rfl
@[go_sem] theorem tsz_69 : tsz Try.prog 69 = some 1 := by kernel_rfl
@[go_sem] theorem tagg_69 : tagg Try.prog 69 = some false := by kernel_rfl
@[go_sem] theorem und_69 : (Try.prog.underlying 69).isSome = true := by kernel_rfl
@[go_sem] theorem tsz_70 : tsz Try.prog 70 = some 1 := by kernel_rfl
@[go_sem] theorem tagg_70 : tagg Try.prog 70 = some false := by kernel_rfl
@[go_sem] theorem tzero_70 : tzero Try.prog 70 = some [Value.int IntKind.u64 0] := by kernel_rfl
@[go_sem] theorem tkind_70 : tkind Try.prog 70 = some IntKind.u64 := by kernel_rfl
@[go_sem] theorem und_70 : (Try.prog.underlying 70).isSome = true := by kernel_rfl
@[go_sem] theorem tsz_71 : tsz Try.prog 71 = some 1 := by kernel_rfl
@[go_sem] theorem tagg_71 : tagg Try.prog 71 = some false := by kernel_rfl
@[go_sem] theorem und_71 : (Try.prog.underlying 71).isSome = true := by kernel_rfl
@[go_sem] theorem tsz_72 : tsz Try.prog 72 = some 1 := by kernel_rfl
@[go_sem] theorem tagg_72 : tagg Try.prog 72 = some false := by kernel_rfl
@[go_sem] theorem und_72 : (Try.prog.underlying 72).isSome = true := by kernel_rfl
@[go_sem] theorem tsz_73 : tsz Try.prog 73 = some 1 := by kernel_rfl
@[go_sem] theorem tagg_73 : tagg Try.prog 73 = some false := by kernel_rfl
@[go_sem] theorem und_73 : (Try.prog.underlying 73).isSome = true := by kernel_rfl
@[go_sem] theorem tsz_74 : tsz Try.prog 74 = some 1 := by kernel_rfl
@[go_sem] theorem tagg_74 : tagg Try.prog 74 = some false := by kernel_rfl
@[go_sem] theorem und_74 : (Try.prog.underlying 74).isSome = true := by kernel_rfl
@[go_sem] theorem tsz_75 : tsz Try.prog 75 = some 1 := by kernel_rfl
@[go_sem] theorem tagg_75 : tagg Try.prog 75 = some false := by kernel_rfl
@[go_sem] theorem und_75 : (Try.prog.underlying 75).isSome = true := by kernel_rfl
@[go_sem] theorem tsz_76 : tsz Try.prog 76 = some 1 := by kernel_rfl
@[go_sem] theorem tagg_76 : tagg Try.prog 76 = some false := by kernel_rfl
@[go_sem] theorem und_76 : (Try.prog.underlying 76).isSome = true := by kernel_rfl
@[go_sem] theorem tsz_77 : tsz Try.prog 77 = some 1 := by kernel_rfl
@[go_sem] theorem tagg_77 : tagg Try.prog 77 = some false := by kernel_rfl
@[go_sem] theorem tzero_77 : tzero Try.prog 77 = some [Value.pointer Option.none] := by kernel_rfl
@[go_sem] theorem und_77 : (Try.prog.underlying 77).isSome = true := by kernel_rfl
@[go_sem] theorem tsz_78 : tsz Try.prog 78 = some 2 := by kernel_rfl
@[go_sem] theorem tagg_78 : tagg Try.prog 78 = some true := by kernel_rfl
@[go_sem] theorem tzero_78 : tzero Try.prog 78 = some [Value.slice Option.none 0 0, Value.int IntKind.i64 0] := by kernel_rfl
@[go_sem] theorem tlay_78 : tlay Try.prog 78 = some (Lay.str [Value.slice Option.none 0 0, Value.int IntKind.i64 0]) := by kernel_rfl
@[go_sem] theorem und_78 : (Try.prog.underlying 78).isSome = true := by kernel_rfl
@[go_sem] theorem tplaces_78_0 : tplaces Try.prog 78 0 = some (0, 1) := by kernel_rfl
@[go_sem] theorem tfo_78_0 : tfo Try.prog 78 0 = some 0 := by kernel_rfl
@[go_sem] theorem tplaces_78_1 : tplaces Try.prog 78 1 = some (1, 1) := by kernel_rfl
@[go_sem] theorem tfo_78_1 : tfo Try.prog 78 1 = some 1 := by kernel_rfl
@[go_sem] theorem tsz_79 : tsz Try.prog 79 = some 2 := by kernel_rfl
@[go_sem] theorem tagg_79 : tagg Try.prog 79 = some true := by kernel_rfl
@[go_sem] theorem tzero_79 : tzero Try.prog 79 = some [Value.slice Option.none 0 0, Value.int IntKind.i64 0] := by kernel_rfl
@[go_sem] theorem tlay_79 : tlay Try.prog 79 = some (Lay.str [Value.slice Option.none 0 0, Value.int IntKind.i64 0]) := by kernel_rfl
@[go_sem] theorem und_79 : (Try.prog.underlying 79).isSome = true := by kernel_rfl
@[go_sem] theorem tplaces_79_0 : tplaces Try.prog 79 0 = some (0, 1) := by kernel_rfl
@[go_sem] theorem tfo_79_0 : tfo Try.prog 79 0 = some 0 := by kernel_rfl
@[go_sem] theorem tplaces_79_1 : tplaces Try.prog 79 1 = some (1, 1) := by kernel_rfl
@[go_sem] theorem tfo_79_1 : tfo Try.prog 79 1 = some 1 := by kernel_rfl
@[go_sem] theorem tsz_80 : tsz Try.prog 80 = some 1 := by kernel_rfl
@[go_sem] theorem tagg_80 : tagg Try.prog 80 = some false := by kernel_rfl
@[go_sem] theorem und_80 : (Try.prog.underlying 80).isSome = true := by kernel_rfl
@[go_sem] theorem tsz_81 : tsz Try.prog 81 = some 1 := by kernel_rfl
@[go_sem] theorem tagg_81 : tagg Try.prog 81 = some false := by kernel_rfl
@[go_sem] theorem und_81 : (Try.prog.underlying 81).isSome = true := by kernel_rfl
@[go_sem] theorem tsz_82 : tsz Try.prog 82 = some 1 := by kernel_rfl
@[go_sem] theorem tagg_82 : tagg Try.prog 82 = some false := by kernel_rfl
@[go_sem] theorem und_82 : (Try.prog.underlying 82).isSome = true := by kernel_rfl
@[go_sem] theorem tsz_83 : tsz Try.prog 83 = some 1 := by kernel_rfl
@[go_sem] theorem tagg_83 : tagg Try.prog 83 = some false := by kernel_rfl
@[go_sem] theorem und_83 : (Try.prog.underlying 83).isSome = true := by kernel_rfl
@[go_sem] theorem tsz_84 : tsz Try.prog 84 = some 1 := by kernel_rfl
@[go_sem] theorem tagg_84 : tagg Try.prog 84 = some false := by kernel_rfl
@[go_sem] theorem und_84 : (Try.prog.underlying 84).isSome = true := by kernel_rfl
@[go_sem] theorem tsz_85 : tsz Try.prog 85 = some 1 := by kernel_rfl
@[go_sem] theorem tagg_85 : tagg Try.prog 85 = some false := by kernel_rfl
@[go_sem] theorem und_85 : (Try.prog.underlying 85).isSome = true := by kernel_rfl
@[go_sem] theorem tsz_86 : tsz Try.prog 86 = some 1 := by kernel_rfl
@[go_sem] theorem tagg_86 : tagg Try.prog 86 = some false := by kernel_rfl
@[go_sem] theorem und_86 : (Try.prog.underlying 86).isSome = true := by kernel_rfl
@[go_sem] theorem tsz_87 : tsz Try.prog 87 = some 1 := by kernel_rfl
@[go_sem] theorem tagg_87 : tagg Try.prog 87 = some false := by kernel_rfl
@[go_sem] theorem und_87 : (Try.prog.underlying 87).isSome = true := by kernel_rfl
@[go_sem] theorem tsz_88 : tsz Try.prog 88 = some 1 := by kernel_rfl
@[go_sem] theorem tagg_88 : tagg Try.prog 88 = some false := by kernel_rfl
@[go_sem] theorem und_88 : (Try.prog.underlying 88).isSome = true := by kernel_rfl
@[go_sem] theorem tsz_89 : tsz Try.prog 89 = some 1 := by kernel_rfl
@[go_sem] theorem tagg_89 : tagg Try.prog 89 = some false := by kernel_rfl
@[go_sem] theorem und_89 : (Try.prog.underlying 89).isSome = true := by kernel_rfl
@[go_sem] theorem tsz_90 : tsz Try.prog 90 = some 1 := by kernel_rfl
@[go_sem] theorem tagg_90 : tagg Try.prog 90 = some false := by kernel_rfl
@[go_sem] theorem und_90 : (Try.prog.underlying 90).isSome = true := by kernel_rfl
@[go_sem] theorem tsz_91 : tsz Try.prog 91 = some 1 := by kernel_rfl
@[go_sem] theorem tagg_91 : tagg Try.prog 91 = some false := by kernel_rfl
@[go_sem] theorem und_91 : (Try.prog.underlying 91).isSome = true := by kernel_rfl
@[go_sem] theorem tsz_92 : tsz Try.prog 92 = some 1 := by kernel_rfl
@[go_sem] theorem tagg_92 : tagg Try.prog 92 = some false := by kernel_rfl
@[go_sem] theorem und_92 : (Try.prog.underlying 92).isSome = true := by kernel_rfl
@[go_sem] theorem tsz_93 : tsz Try.prog 93 = some 1 := by kernel_rfl
@[go_sem] theorem tagg_93 : tagg Try.prog 93 = some false := by kernel_rfl
@[go_sem] theorem tzero_93 : tzero Try.prog 93 = some [Value.nilIface] := by kernel_rfl
@[go_sem] theorem und_93 : (Try.prog.underlying 93).isSome = true := by kernel_rfl
@[go_sem] theorem tsz_94 : tsz Try.prog 94 = some 1 := by kernel_rfl
@[go_sem] theorem tagg_94 : tagg Try.prog 94 = some false := by kernel_rfl
@[go_sem] theorem tzero_94 : tzero Try.prog 94 = some [Value.nilIface] := by kernel_rfl
@[go_sem] theorem und_94 : (Try.prog.underlying 94).isSome = true := by kernel_rfl
@[go_sem] theorem tsz_95 : tsz Try.prog 95 = some 1 := by kernel_rfl
@[go_sem] theorem tagg_95 : tagg Try.prog 95 = some false := by kernel_rfl
@[go_sem] theorem und_95 : (Try.prog.underlying 95).isSome = true := by kernel_rfl
@[go_sem] theorem tsz_96 : tsz Try.prog 96 = some 1 := by kernel_rfl
@[go_sem] theorem tagg_96 : tagg Try.prog 96 = some false := by kernel_rfl
@[go_sem] theorem und_96 : (Try.prog.underlying 96).isSome = true := by kernel_rfl
@[go_sem] theorem tsz_97 : tsz Try.prog 97 = some 4 := by kernel_rfl
@[go_sem] theorem tagg_97 : tagg Try.prog 97 = some true := by kernel_rfl
@[go_sem] theorem tzero_97 : tzero Try.prog 97 = some [Value.pointer Option.none, Value.pointer Option.none, Value.pointer Option.none, Value.string { data := { toList := [] } }] := by kernel_rfl
@[go_sem] theorem tlay_97 : tlay Try.prog 97 = some (Lay.str [Value.pointer Option.none, Value.pointer Option.none, Value.pointer Option.none, Value.string { data := { toList := [] } }]) := by kernel_rfl
@[go_sem] theorem und_97 : (Try.prog.underlying 97).isSome = true := by kernel_rfl
@[go_sem] theorem tplaces_97_0 : tplaces Try.prog 97 0 = some (0, 1) := by kernel_rfl
@[go_sem] theorem tfo_97_0 : tfo Try.prog 97 0 = some 0 := by kernel_rfl
@[go_sem] theorem tplaces_97_1 : tplaces Try.prog 97 1 = some (1, 1) := by kernel_rfl
@[go_sem] theorem tfo_97_1 : tfo Try.prog 97 1 = some 1 := by kernel_rfl
@[go_sem] theorem tplaces_97_2 : tplaces Try.prog 97 2 = some (2, 1) := by kernel_rfl
@[go_sem] theorem tfo_97_2 : tfo Try.prog 97 2 = some 2 := by kernel_rfl
@[go_sem] theorem tplaces_97_3 : tplaces Try.prog 97 3 = some (3, 1) := by kernel_rfl
@[go_sem] theorem tfo_97_3 : tfo Try.prog 97 3 = some 3 := by kernel_rfl
@[go_sem] theorem tsz_98 : tsz Try.prog 98 = some 4 := by kernel_rfl
@[go_sem] theorem tagg_98 : tagg Try.prog 98 = some true := by kernel_rfl
@[go_sem] theorem tzero_98 : tzero Try.prog 98 = some [Value.pointer Option.none, Value.pointer Option.none, Value.pointer Option.none, Value.string { data := { toList := [] } }] := by kernel_rfl
@[go_sem] theorem tlay_98 : tlay Try.prog 98 = some (Lay.str [Value.pointer Option.none, Value.pointer Option.none, Value.pointer Option.none, Value.string { data := { toList := [] } }]) := by kernel_rfl
@[go_sem] theorem und_98 : (Try.prog.underlying 98).isSome = true := by kernel_rfl
@[go_sem] theorem tplaces_98_0 : tplaces Try.prog 98 0 = some (0, 1) := by kernel_rfl
@[go_sem] theorem tfo_98_0 : tfo Try.prog 98 0 = some 0 := by kernel_rfl
@[go_sem] theorem tplaces_98_1 : tplaces Try.prog 98 1 = some (1, 1) := by kernel_rfl
@[go_sem] theorem tfo_98_1 : tfo Try.prog 98 1 = some 1 := by kernel_rfl
@[go_sem] theorem tplaces_98_2 : tplaces Try.prog 98 2 = some (2, 1) := by kernel_rfl
@[go_sem] theorem tfo_98_2 : tfo Try.prog 98 2 = some 2 := by kernel_rfl
@[go_sem] theorem tplaces_98_3 : tplaces Try.prog 98 3 = some (3, 1) := by kernel_rfl
@[go_sem] theorem tfo_98_3 : tfo Try.prog 98 3 = some 3 := by kernel_rfl
@[go_sem] theorem tsz_99 : tsz Try.prog 99 = some 0 := by kernel_rfl
@[go_sem] theorem tagg_99 : tagg Try.prog 99 = some true := by kernel_rfl
@[go_sem] theorem tzero_99 : tzero Try.prog 99 = some [] := by kernel_rfl
@[go_sem] theorem tae_99 : tae Try.prog 99 = some (0, 1) := by kernel_rfl
@[go_sem] theorem tlay_99 : tlay Try.prog 99 = some (Lay.arr [] 1) := by kernel_rfl
@[go_sem] theorem tarr_99 : tarr Try.prog 99 = some (0, 16) := by kernel_rfl
@[go_sem] theorem und_99 : (Try.prog.underlying 99).isSome = true := by kernel_rfl
@[go_sem] theorem tsz_100 : tsz Try.prog 100 = some 0 := by kernel_rfl
@[go_sem] theorem tagg_100 : tagg Try.prog 100 = some true := by kernel_rfl
@[go_sem] theorem tzero_100 : tzero Try.prog 100 = some [] := by kernel_rfl
@[go_sem] theorem tlay_100 : tlay Try.prog 100 = some (Lay.str []) := by kernel_rfl
@[go_sem] theorem und_100 : (Try.prog.underlying 100).isSome = true := by kernel_rfl
@[go_sem] theorem tplaces_100_0 : tplaces Try.prog 100 0 = some (0, 0) := by kernel_rfl
@[go_sem] theorem tsz_101 : tsz Try.prog 101 = some 0 := by kernel_rfl
@[go_sem] theorem tagg_101 : tagg Try.prog 101 = some true := by kernel_rfl
@[go_sem] theorem tzero_101 : tzero Try.prog 101 = some [] := by kernel_rfl
@[go_sem] theorem tlay_101 : tlay Try.prog 101 = some (Lay.str []) := by kernel_rfl
@[go_sem] theorem und_101 : (Try.prog.underlying 101).isSome = true := by kernel_rfl
@[go_sem] theorem tplaces_101_0 : tplaces Try.prog 101 0 = some (0, 0) := by kernel_rfl
@[go_sem] theorem tsz_102 : tsz Try.prog 102 = some 1 := by kernel_rfl
@[go_sem] theorem tagg_102 : tagg Try.prog 102 = some false := by kernel_rfl
@[go_sem] theorem und_102 : (Try.prog.underlying 102).isSome = true := by kernel_rfl
@[go_sem] theorem tsz_103 : tsz Try.prog 103 = some 1 := by kernel_rfl
@[go_sem] theorem tagg_103 : tagg Try.prog 103 = some false := by kernel_rfl
@[go_sem] theorem tzero_103 : tzero Try.prog 103 = some [Value.int IntKind.u32 0] := by kernel_rfl
@[go_sem] theorem tkind_103 : tkind Try.prog 103 = some IntKind.u32 := by kernel_rfl
@[go_sem] theorem und_103 : (Try.prog.underlying 103).isSome = true := by kernel_rfl
@[go_sem] theorem tsz_104 : tsz Try.prog 104 = some 1 := by kernel_rfl
@[go_sem] theorem tagg_104 : tagg Try.prog 104 = some false := by kernel_rfl
@[go_sem] theorem tzero_104 : tzero Try.prog 104 = some [Value.int IntKind.u8 0] := by kernel_rfl
@[go_sem] theorem tkind_104 : tkind Try.prog 104 = some IntKind.u8 := by kernel_rfl
@[go_sem] theorem und_104 : (Try.prog.underlying 104).isSome = true := by kernel_rfl
@[go_sem] theorem tsz_105 : tsz Try.prog 105 = some 1 := by kernel_rfl
@[go_sem] theorem tagg_105 : tagg Try.prog 105 = some false := by kernel_rfl
@[go_sem] theorem tzero_105 : tzero Try.prog 105 = some [Value.int IntKind.u8 0] := by kernel_rfl
@[go_sem] theorem tkind_105 : tkind Try.prog 105 = some IntKind.u8 := by kernel_rfl
@[go_sem] theorem und_105 : (Try.prog.underlying 105).isSome = true := by kernel_rfl
@[go_sem] theorem tsz_106 : tsz Try.prog 106 = some 1 := by kernel_rfl
@[go_sem] theorem tagg_106 : tagg Try.prog 106 = some false := by kernel_rfl
@[go_sem] theorem und_106 : (Try.prog.underlying 106).isSome = true := by kernel_rfl
@[go_sem] theorem tsz_107 : tsz Try.prog 107 = some 1 := by kernel_rfl
@[go_sem] theorem tagg_107 : tagg Try.prog 107 = some false := by kernel_rfl
@[go_sem] theorem tzero_107 : tzero Try.prog 107 = some [Value.pointer Option.none] := by kernel_rfl
@[go_sem] theorem und_107 : (Try.prog.underlying 107).isSome = true := by kernel_rfl
@[go_sem] theorem tsz_108 : tsz Try.prog 108 = some 1 := by kernel_rfl
@[go_sem] theorem tagg_108 : tagg Try.prog 108 = some false := by kernel_rfl
@[go_sem] theorem tzero_108 : tzero Try.prog 108 = some [Value.int IntKind.i32 0] := by kernel_rfl
@[go_sem] theorem tkind_108 : tkind Try.prog 108 = some IntKind.i32 := by kernel_rfl
@[go_sem] theorem und_108 : (Try.prog.underlying 108).isSome = true := by kernel_rfl
@[go_sem] theorem tsz_109 : tsz Try.prog 109 = some 1 := by kernel_rfl
@[go_sem] theorem tagg_109 : tagg Try.prog 109 = some false := by kernel_rfl
@[go_sem] theorem tzero_109 : tzero Try.prog 109 = some [Value.int IntKind.i32 0] := by kernel_rfl
@[go_sem] theorem tkind_109 : tkind Try.prog 109 = some IntKind.i32 := by kernel_rfl
@[go_sem] theorem und_109 : (Try.prog.underlying 109).isSome = true := by kernel_rfl
@[go_sem] theorem tsz_110 : tsz Try.prog 110 = some 11 := by kernel_rfl
@[go_sem] theorem tagg_110 : tagg Try.prog 110 = some true := by kernel_rfl
@[go_sem] theorem und_110 : (Try.prog.underlying 110).isSome = true := by kernel_rfl
@[go_sem] theorem tplaces_110_0 : tplaces Try.prog 110 0 = some (0, 1) := by kernel_rfl
@[go_sem] theorem tfo_110_0 : tfo Try.prog 110 0 = some 0 := by kernel_rfl
@[go_sem] theorem tplaces_110_1 : tplaces Try.prog 110 1 = some (1, 1) := by kernel_rfl
@[go_sem] theorem tfo_110_1 : tfo Try.prog 110 1 = some 1 := by kernel_rfl
@[go_sem] theorem tplaces_110_2 : tplaces Try.prog 110 2 = some (2, 1) := by kernel_rfl
@[go_sem] theorem tfo_110_2 : tfo Try.prog 110 2 = some 2 := by kernel_rfl
@[go_sem] theorem tplaces_110_3 : tplaces Try.prog 110 3 = some (3, 1) := by kernel_rfl
@[go_sem] theorem tfo_110_3 : tfo Try.prog 110 3 = some 3 := by kernel_rfl
@[go_sem] theorem tplaces_110_4 : tplaces Try.prog 110 4 = some (4, 1) := by kernel_rfl
@[go_sem] theorem tfo_110_4 : tfo Try.prog 110 4 = some 4 := by kernel_rfl
@[go_sem] theorem tplaces_110_5 : tplaces Try.prog 110 5 = some (5, 1) := by kernel_rfl
@[go_sem] theorem tfo_110_5 : tfo Try.prog 110 5 = some 5 := by kernel_rfl
@[go_sem] theorem tplaces_110_6 : tplaces Try.prog 110 6 = some (6, 1) := by kernel_rfl
@[go_sem] theorem tfo_110_6 : tfo Try.prog 110 6 = some 6 := by kernel_rfl
@[go_sem] theorem tplaces_110_7 : tplaces Try.prog 110 7 = some (7, 1) := by kernel_rfl
@[go_sem] theorem tfo_110_7 : tfo Try.prog 110 7 = some 7 := by kernel_rfl
@[go_sem] theorem tplaces_110_8 : tplaces Try.prog 110 8 = some (8, 1) := by kernel_rfl
@[go_sem] theorem tfo_110_8 : tfo Try.prog 110 8 = some 8 := by kernel_rfl
@[go_sem] theorem tplaces_110_9 : tplaces Try.prog 110 9 = some (9, 1) := by kernel_rfl
@[go_sem] theorem tfo_110_9 : tfo Try.prog 110 9 = some 9 := by kernel_rfl
@[go_sem] theorem tplaces_110_10 : tplaces Try.prog 110 10 = some (10, 1) := by kernel_rfl
@[go_sem] theorem tfo_110_10 : tfo Try.prog 110 10 = some 10 := by kernel_rfl
@[go_sem] theorem tsz_111 : tsz Try.prog 111 = some 11 := by kernel_rfl
@[go_sem] theorem tagg_111 : tagg Try.prog 111 = some true := by kernel_rfl
@[go_sem] theorem und_111 : (Try.prog.underlying 111).isSome = true := by kernel_rfl
@[go_sem] theorem tplaces_111_0 : tplaces Try.prog 111 0 = some (0, 1) := by kernel_rfl
@[go_sem] theorem tfo_111_0 : tfo Try.prog 111 0 = some 0 := by kernel_rfl
@[go_sem] theorem tplaces_111_1 : tplaces Try.prog 111 1 = some (1, 1) := by kernel_rfl
@[go_sem] theorem tfo_111_1 : tfo Try.prog 111 1 = some 1 := by kernel_rfl
@[go_sem] theorem tplaces_111_2 : tplaces Try.prog 111 2 = some (2, 1) := by kernel_rfl
@[go_sem] theorem tfo_111_2 : tfo Try.prog 111 2 = some 2 := by kernel_rfl
@[go_sem] theorem tplaces_111_3 : tplaces Try.prog 111 3 = some (3, 1) := by kernel_rfl
@[go_sem] theorem tfo_111_3 : tfo Try.prog 111 3 = some 3 := by kernel_rfl
@[go_sem] theorem tplaces_111_4 : tplaces Try.prog 111 4 = some (4, 1) := by kernel_rfl
@[go_sem] theorem tfo_111_4 : tfo Try.prog 111 4 = some 4 := by kernel_rfl
@[go_sem] theorem tplaces_111_5 : tplaces Try.prog 111 5 = some (5, 1) := by kernel_rfl
@[go_sem] theorem tfo_111_5 : tfo Try.prog 111 5 = some 5 := by kernel_rfl
@[go_sem] theorem tplaces_111_6 : tplaces Try.prog 111 6 = some (6, 1) := by kernel_rfl
@[go_sem] theorem tfo_111_6 : tfo Try.prog 111 6 = some 6 := by kernel_rfl
@[go_sem] theorem tplaces_111_7 : tplaces Try.prog 111 7 = some (7, 1) := by kernel_rfl
@[go_sem] theorem tfo_111_7 : tfo Try.prog 111 7 = some 7 := by kernel_rfl
@[go_sem] theorem tplaces_111_8 : tplaces Try.prog 111 8 = some (8, 1) := by kernel_rfl
@[go_sem] theorem tfo_111_8 : tfo Try.prog 111 8 = some 8 := by kernel_rfl
@[go_sem] theorem tplaces_111_9 : tplaces Try.prog 111 9 = some (9, 1) := by kernel_rfl
@[go_sem] theorem tfo_111_9 : tfo Try.prog 111 9 = some 9 := by kernel_rfl
@[go_sem] theorem tplaces_111_10 : tplaces Try.prog 111 10 = some (10, 1) := by kernel_rfl
@[go_sem] theorem tfo_111_10 : tfo Try.prog 111 10 = some 10 := by kernel_rfl
@[go_sem] theorem tsz_112 : tsz Try.prog 112 = some 1 := by kernel_rfl
@[go_sem] theorem tagg_112 : tagg Try.prog 112 = some false := by kernel_rfl
@[go_sem] theorem tzero_112 : tzero Try.prog 112 = some [Value.pointer Option.none] := by kernel_rfl
@[go_sem] theorem und_112 : (Try.prog.underlying 112).isSome = true := by kernel_rfl
end Go.Proofs.Ytockblbbcikkmaa.Facts
