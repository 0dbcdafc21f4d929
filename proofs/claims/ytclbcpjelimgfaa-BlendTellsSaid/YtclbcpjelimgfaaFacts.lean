/- The types' facts: their sizes and how their parts lie; printed by a program of ours. -/
import Derived.Test.YtclbcpjelimgfaaEK
import Derived.Test.YtclbcpjelimgfaaProg
import Derived.KernelRfl
namespace Go.Proofs.Ytclbcpjelimgfaa.Facts
open Go Go.RowKit E
@[go_sem] theorem tsz_0 : tsz Try.prog 0 = some 1 := by kernel_rfl
@[go_sem] theorem tagg_0 : tagg Try.prog 0 = some false := by kernel_rfl
@[go_sem] theorem und_0 : (Try.prog.underlying 0).isSome = true := by kernel_rfl
@[go_sem] theorem tsz_1 : tsz Try.prog 1 = some 1 := by kernel_rfl
@[go_sem] theorem tagg_1 : tagg Try.prog 1 = some false := by kernel_rfl
@[go_sem] theorem und_1 : (Try.prog.underlying 1).isSome = true := by kernel_rfl
@[go_sem] theorem tsz_2 : tsz Try.prog 2 = some 1 := by kernel_rfl
@[go_sem] theorem tagg_2 : tagg Try.prog 2 = some false := by kernel_rfl
@[go_sem] theorem tzero_2 : tzero Try.prog 2 = some [Value.int IntKind.i64 0] := by kernel_rfl
@[go_sem] theorem tkind_2 : tkind Try.prog 2 = some IntKind.i64 := by kernel_rfl
@[go_sem] theorem und_2 : (Try.prog.underlying 2).isSome = true := by kernel_rfl
@[go_sem] theorem tsz_3 : tsz Try.prog 3 = some 1 := by kernel_rfl
@[go_sem] theorem tagg_3 : tagg Try.prog 3 = some false := by kernel_rfl
@[go_sem] theorem tzero_3 : tzero Try.prog 3 = some [Value.int IntKind.i64 0] := by kernel_rfl
@[go_sem] theorem tkind_3 : tkind Try.prog 3 = some IntKind.i64 := by kernel_rfl
@[go_sem] theorem und_3 : (Try.prog.underlying 3).isSome = true := by kernel_rfl
@[go_sem] theorem tsz_4 : tsz Try.prog 4 = some 1 := by kernel_rfl
@[go_sem] theorem tagg_4 : tagg Try.prog 4 = some false := by kernel_rfl
@[go_sem] theorem tzero_4 : tzero Try.prog 4 = some [Value.bool false] := by kernel_rfl
@[go_sem] theorem tbool_4 : tbool Try.prog 4 = true := by kernel_rfl
@[go_sem] theorem und_4 : (Try.prog.underlying 4).isSome = true := by kernel_rfl
@[go_sem] theorem tsz_5 : tsz Try.prog 5 = some 1 := by kernel_rfl
@[go_sem] theorem tagg_5 : tagg Try.prog 5 = some false := by kernel_rfl
@[go_sem] theorem tzero_5 : tzero Try.prog 5 = some [Value.int IntKind.u8 0] := by kernel_rfl
@[go_sem] theorem tkind_5 : tkind Try.prog 5 = some IntKind.u8 := by kernel_rfl
@[go_sem] theorem und_5 : (Try.prog.underlying 5).isSome = true := by kernel_rfl
@[go_sem] theorem tsz_6 : tsz Try.prog 6 = some 1 := by kernel_rfl
@[go_sem] theorem tagg_6 : tagg Try.prog 6 = some false := by kernel_rfl
@[go_sem] theorem tzero_6 : tzero Try.prog 6 = some [Value.int IntKind.u8 0] := by kernel_rfl
@[go_sem] theorem tkind_6 : tkind Try.prog 6 = some IntKind.u8 := by kernel_rfl
@[go_sem] theorem und_6 : (Try.prog.underlying 6).isSome = true := by kernel_rfl
@[go_sem] theorem tsz_7 : tsz Try.prog 7 = some 4 := by kernel_rfl
@[go_sem] theorem tagg_7 : tagg Try.prog 7 = some true := by kernel_rfl
@[go_sem] theorem tzero_7 : tzero Try.prog 7 = some [Value.int IntKind.i64 0, Value.int IntKind.i64 0, Value.bool false, Value.int IntKind.u8 0] := by kernel_rfl
@[go_sem] theorem tlay_7 : tlay Try.prog 7 = some (Lay.str [Value.int IntKind.i64 0, Value.int IntKind.i64 0, Value.bool false, Value.int IntKind.u8 0]) := by kernel_rfl
@[go_sem] theorem teq_7 : teq Try.prog 7 = some [Lf.i, Lf.i, Lf.b, Lf.i] := by kernel_rfl
@[go_sem] theorem und_7 : (Try.prog.underlying 7).isSome = true := by kernel_rfl
@[go_sem] theorem tplaces_7_0 : tplaces Try.prog 7 0 = some (0, 1) := by kernel_rfl
@[go_sem] theorem tfo_7_0 : tfo Try.prog 7 0 = some 0 := by kernel_rfl
@[go_sem] theorem tplaces_7_1 : tplaces Try.prog 7 1 = some (1, 1) := by kernel_rfl
@[go_sem] theorem tfo_7_1 : tfo Try.prog 7 1 = some 1 := by kernel_rfl
@[go_sem] theorem tplaces_7_2 : tplaces Try.prog 7 2 = some (2, 1) := by kernel_rfl
@[go_sem] theorem tfo_7_2 : tfo Try.prog 7 2 = some 2 := by kernel_rfl
@[go_sem] theorem tplaces_7_3 : tplaces Try.prog 7 3 = some (3, 1) := by kernel_rfl
@[go_sem] theorem tfo_7_3 : tfo Try.prog 7 3 = some 3 := by kernel_rfl
@[go_sem] theorem tsz_8 : tsz Try.prog 8 = some 4 := by kernel_rfl
@[go_sem] theorem tagg_8 : tagg Try.prog 8 = some true := by kernel_rfl
@[go_sem] theorem tzero_8 : tzero Try.prog 8 = some [Value.int IntKind.i64 0, Value.int IntKind.i64 0, Value.bool false, Value.int IntKind.u8 0] := by kernel_rfl
@[go_sem] theorem tlay_8 : tlay Try.prog 8 = some (Lay.str [Value.int IntKind.i64 0, Value.int IntKind.i64 0, Value.bool false, Value.int IntKind.u8 0]) := by kernel_rfl
@[go_sem] theorem teq_8 : teq Try.prog 8 = some [Lf.i, Lf.i, Lf.b, Lf.i] := by kernel_rfl
@[go_sem] theorem und_8 : (Try.prog.underlying 8).isSome = true := by kernel_rfl
@[go_sem] theorem tplaces_8_0 : tplaces Try.prog 8 0 = some (0, 1) := by kernel_rfl
@[go_sem] theorem tfo_8_0 : tfo Try.prog 8 0 = some 0 := by kernel_rfl
@[go_sem] theorem tplaces_8_1 : tplaces Try.prog 8 1 = some (1, 1) := by kernel_rfl
@[go_sem] theorem tfo_8_1 : tfo Try.prog 8 1 = some 1 := by kernel_rfl
@[go_sem] theorem tplaces_8_2 : tplaces Try.prog 8 2 = some (2, 1) := by kernel_rfl
@[go_sem] theorem tfo_8_2 : tfo Try.prog 8 2 = some 2 := by kernel_rfl
@[go_sem] theorem tplaces_8_3 : tplaces Try.prog 8 3 = some (3, 1) := by kernel_rfl
@[go_sem] theorem tfo_8_3 : tfo Try.prog 8 3 = some 3 := by kernel_rfl
@[go_sem] theorem tsz_9 : tsz Try.prog 9 = some 1 := by kernel_rfl
@[go_sem] theorem tagg_9 : tagg Try.prog 9 = some false := by kernel_rfl
@[go_sem] theorem tzero_9 : tzero Try.prog 9 = some [Value.string { data := { toList := [] } }] := by kernel_rfl
@[go_sem] theorem tstr_9 : tstr Try.prog 9 = true := by kernel_rfl
@[go_sem] theorem und_9 : (Try.prog.underlying 9).isSome = true := by kernel_rfl
@[go_sem] theorem tsz_10 : tsz Try.prog 10 = some 1 := by kernel_rfl
@[go_sem] theorem tagg_10 : tagg Try.prog 10 = some false := by kernel_rfl
@[go_sem] theorem tzero_10 : tzero Try.prog 10 = some [Value.string { data := { toList := [] } }] := by kernel_rfl
@[go_sem] theorem tstr_10 : tstr Try.prog 10 = true := by kernel_rfl
@[go_sem] theorem und_10 : (Try.prog.underlying 10).isSome = true := by kernel_rfl
@[go_sem] theorem tsz_11 : tsz Try.prog 11 = some 1 := by kernel_rfl
@[go_sem] theorem tagg_11 : tagg Try.prog 11 = some false := by kernel_rfl
@[go_sem] theorem tzero_11 : tzero Try.prog 11 = some [Value.string { data := { toList := [] } }] := by kernel_rfl
@[go_sem] theorem tstr_11 : tstr Try.prog 11 = true := by kernel_rfl
@[go_sem] theorem und_11 : (Try.prog.underlying 11).isSome = true := by kernel_rfl
@[go_sem] theorem tsz_12 : tsz Try.prog 12 = some 1 := by kernel_rfl
@[go_sem] theorem tagg_12 : tagg Try.prog 12 = some false := by kernel_rfl
@[go_sem] theorem tzero_12 : tzero Try.prog 12 = some [Value.int IntKind.u64 0] := by kernel_rfl
@[go_sem] theorem tkind_12 : tkind Try.prog 12 = some IntKind.u64 := by kernel_rfl
@[go_sem] theorem und_12 : (Try.prog.underlying 12).isSome = true := by kernel_rfl
@[go_sem] theorem tsz_13 : tsz Try.prog 13 = some 2 := by kernel_rfl
@[go_sem] theorem tagg_13 : tagg Try.prog 13 = some true := by kernel_rfl
@[go_sem] theorem tzero_13 : tzero Try.prog 13 = some [Value.string { data := { toList := [] } }, Value.int IntKind.u64 0] := by kernel_rfl
@[go_sem] theorem tlay_13 : tlay Try.prog 13 = some (Lay.str [Value.string { data := { toList := [] } }, Value.int IntKind.u64 0]) := by kernel_rfl
@[go_sem] theorem und_13 : (Try.prog.underlying 13).isSome = true := by kernel_rfl
@[go_sem] theorem tplaces_13_0 : tplaces Try.prog 13 0 = some (0, 1) := by kernel_rfl
@[go_sem] theorem tfo_13_0 : tfo Try.prog 13 0 = some 0 := by kernel_rfl
@[go_sem] theorem tplaces_13_1 : tplaces Try.prog 13 1 = some (1, 1) := by kernel_rfl
@[go_sem] theorem tfo_13_1 : tfo Try.prog 13 1 = some 1 := by kernel_rfl
@[go_sem] theorem tsz_14 : tsz Try.prog 14 = some 2 := by kernel_rfl
@[go_sem] theorem tagg_14 : tagg Try.prog 14 = some true := by kernel_rfl
@[go_sem] theorem tzero_14 : tzero Try.prog 14 = some [Value.string { data := { toList := [] } }, Value.int IntKind.u64 0] := by kernel_rfl
@[go_sem] theorem tlay_14 : tlay Try.prog 14 = some (Lay.str [Value.string { data := { toList := [] } }, Value.int IntKind.u64 0]) := by kernel_rfl
@[go_sem] theorem und_14 : (Try.prog.underlying 14).isSome = true := by kernel_rfl
@[go_sem] theorem tplaces_14_0 : tplaces Try.prog 14 0 = some (0, 1) := by kernel_rfl
@[go_sem] theorem tfo_14_0 : tfo Try.prog 14 0 = some 0 := by kernel_rfl
@[go_sem] theorem tplaces_14_1 : tplaces Try.prog 14 1 = some (1, 1) := by kernel_rfl
@[go_sem] theorem tfo_14_1 : tfo Try.prog 14 1 = some 1 := by kernel_rfl
@[go_sem] theorem tsz_15 : tsz Try.prog 15 = some 1 := by kernel_rfl
@[go_sem] theorem tagg_15 : tagg Try.prog 15 = some false := by kernel_rfl
@[go_sem] theorem tzero_15 : tzero Try.prog 15 = some [Value.pointer Option.none] := by kernel_rfl
@[go_sem] theorem und_15 : (Try.prog.underlying 15).isSome = true := by kernel_rfl
@[go_sem] theorem tsz_16 : tsz Try.prog 16 = some 1 := by kernel_rfl
@[go_sem] theorem tagg_16 : tagg Try.prog 16 = some false := by kernel_rfl
@[go_sem] theorem tzero_16 : tzero Try.prog 16 = some [Value.pointer Option.none] := by kernel_rfl
@[go_sem] theorem und_16 : (Try.prog.underlying 16).isSome = true := by kernel_rfl
@[go_sem] theorem tsz_17 : tsz Try.prog 17 = some 1 := by kernel_rfl
@[go_sem] theorem tagg_17 : tagg Try.prog 17 = some false := by kernel_rfl
@[go_sem] theorem tzero_17 : tzero Try.prog 17 = some [Value.pointer Option.none] := by kernel_rfl
@[go_sem] theorem und_17 : (Try.prog.underlying 17).isSome = true := by kernel_rfl
@[go_sem] theorem tsz_18 : tsz Try.prog 18 = some 1 := by kernel_rfl
@[go_sem] theorem tagg_18 : tagg Try.prog 18 = some true := by kernel_rfl
@[go_sem] theorem tzero_18 : tzero Try.prog 18 = some [Value.pointer Option.none] := by kernel_rfl
@[go_sem] theorem tlay_18 : tlay Try.prog 18 = some (Lay.str [Value.pointer Option.none]) := by kernel_rfl
@[go_sem] theorem und_18 : (Try.prog.underlying 18).isSome = true := by kernel_rfl
@[go_sem] theorem tplaces_18_0 : tplaces Try.prog 18 0 = some (0, 1) := by kernel_rfl
@[go_sem] theorem tfo_18_0 : tfo Try.prog 18 0 = some 0 := by kernel_rfl
@[go_sem] theorem tsz_19 : tsz Try.prog 19 = some 1 := by kernel_rfl
@[go_sem] theorem tagg_19 : tagg Try.prog 19 = some true := by kernel_rfl
@[go_sem] theorem tzero_19 : tzero Try.prog 19 = some [Value.pointer Option.none] := by kernel_rfl
@[go_sem] theorem tlay_19 : tlay Try.prog 19 = some (Lay.str [Value.pointer Option.none]) := by kernel_rfl
@[go_sem] theorem und_19 : (Try.prog.underlying 19).isSome = true := by kernel_rfl
@[go_sem] theorem tplaces_19_0 : tplaces Try.prog 19 0 = some (0, 1) := by kernel_rfl
@[go_sem] theorem tfo_19_0 : tfo Try.prog 19 0 = some 0 := by kernel_rfl
@[go_sem] theorem tsz_20 : tsz Try.prog 20 = some 1 := by kernel_rfl
@[go_sem] theorem tagg_20 : tagg Try.prog 20 = some false := by kernel_rfl
@[go_sem] theorem tzero_20 : tzero Try.prog 20 = some [Value.nilIface] := by kernel_rfl
@[go_sem] theorem und_20 : (Try.prog.underlying 20).isSome = true := by kernel_rfl
@[go_sem] theorem tsz_21 : tsz Try.prog 21 = some 1 := by kernel_rfl
@[go_sem] theorem tagg_21 : tagg Try.prog 21 = some false := by kernel_rfl
@[go_sem] theorem tzero_21 : tzero Try.prog 21 = some [Value.int IntKind.i32 0] := by kernel_rfl
@[go_sem] theorem tkind_21 : tkind Try.prog 21 = some IntKind.i32 := by kernel_rfl
@[go_sem] theorem und_21 : (Try.prog.underlying 21).isSome = true := by kernel_rfl
@[go_sem] theorem tsz_22 : tsz Try.prog 22 = some 1 := by kernel_rfl
@[go_sem] theorem tagg_22 : tagg Try.prog 22 = some false := by kernel_rfl
@[go_sem] theorem und_22 : (Try.prog.underlying 22).isSome = true := by kernel_rfl
@[go_sem] theorem tsz_23 : tsz Try.prog 23 = some 1 := by kernel_rfl
@[go_sem] theorem tagg_23 : tagg Try.prog 23 = some false := by kernel_rfl
@[go_sem] theorem und_23 : (Try.prog.underlying 23).isSome = true := by kernel_rfl
@[go_sem] theorem tsz_24 : tsz Try.prog 24 = some 4 := by kernel_rfl
@[go_sem] theorem tagg_24 : tagg Try.prog 24 = some true := by kernel_rfl
@[go_sem] theorem tzero_24 : tzero Try.prog 24 = some [Value.int IntKind.u8 0, Value.int IntKind.u8 0, Value.int IntKind.u8 0, Value.int IntKind.u8 0] := by kernel_rfl
@[go_sem] theorem tae_24 : tae Try.prog 24 = some (4, 1) := by kernel_rfl
@[go_sem] theorem tlay_24 : tlay Try.prog 24 = some (Lay.arr [Value.int IntKind.u8 0, Value.int IntKind.u8 0, Value.int IntKind.u8 0, Value.int IntKind.u8 0] 1) := by kernel_rfl
@[go_sem] theorem teq_24 : teq Try.prog 24 = some [Lf.i, Lf.i, Lf.i, Lf.i] := by kernel_rfl
@[go_sem] theorem tarr_24 : tarr Try.prog 24 = some (4, 5) := by kernel_rfl
@[go_sem] theorem und_24 : (Try.prog.underlying 24).isSome = true := by kernel_rfl
@[go_sem] theorem tsz_25 : tsz Try.prog 25 = some 4 := by kernel_rfl
@[go_sem] theorem tagg_25 : tagg Try.prog 25 = some true := by kernel_rfl
@[go_sem] theorem tzero_25 : tzero Try.prog 25 = some [Value.int IntKind.u8 0, Value.int IntKind.u8 0, Value.int IntKind.u8 0, Value.int IntKind.u8 0] := by kernel_rfl
@[go_sem] theorem tae_25 : tae Try.prog 25 = some (4, 1) := by kernel_rfl
@[go_sem] theorem tlay_25 : tlay Try.prog 25 = some (Lay.arr [Value.int IntKind.u8 0, Value.int IntKind.u8 0, Value.int IntKind.u8 0, Value.int IntKind.u8 0] 1) := by kernel_rfl
@[go_sem] theorem teq_25 : teq Try.prog 25 = some [Lf.i, Lf.i, Lf.i, Lf.i] := by kernel_rfl
@[go_sem] theorem tarr_25 : tarr Try.prog 25 = some (4, 5) := by kernel_rfl
@[go_sem] theorem und_25 : (Try.prog.underlying 25).isSome = true := by kernel_rfl
@[go_sem] theorem tsz_26 : tsz Try.prog 26 = some 1 := by kernel_rfl
@[go_sem] theorem tagg_26 : tagg Try.prog 26 = some false := by kernel_rfl
@[go_sem] theorem und_26 : (Try.prog.underlying 26).isSome = true := by kernel_rfl
@[go_sem] theorem tsz_27 : tsz Try.prog 27 = some 1 := by kernel_rfl
@[go_sem] theorem tagg_27 : tagg Try.prog 27 = some false := by kernel_rfl
@[go_sem] theorem und_27 : (Try.prog.underlying 27).isSome = true := by kernel_rfl
@[go_sem] theorem tsz_28 : tsz Try.prog 28 = some 1 := by kernel_rfl
@[go_sem] theorem tagg_28 : tagg Try.prog 28 = some false := by kernel_rfl
@[go_sem] theorem und_28 : (Try.prog.underlying 28).isSome = true := by kernel_rfl
@[go_sem] theorem tsz_29 : tsz Try.prog 29 = some 4 := by kernel_rfl
@[go_sem] theorem tagg_29 : tagg Try.prog 29 = some true := by kernel_rfl
@[go_sem] theorem tzero_29 : tzero Try.prog 29 = some [Value.int IntKind.u8 0, Value.int IntKind.u8 0, Value.int IntKind.u8 0, Value.int IntKind.u8 0] := by kernel_rfl
@[go_sem] theorem tae_29 : tae Try.prog 29 = some (4, 1) := by kernel_rfl
@[go_sem] theorem tlay_29 : tlay Try.prog 29 = some (Lay.arr [Value.int IntKind.u8 0, Value.int IntKind.u8 0, Value.int IntKind.u8 0, Value.int IntKind.u8 0] 1) := by kernel_rfl
@[go_sem] theorem teq_29 : teq Try.prog 29 = some [Lf.i, Lf.i, Lf.i, Lf.i] := by kernel_rfl
@[go_sem] theorem tarr_29 : tarr Try.prog 29 = some (4, 5) := by kernel_rfl
@[go_sem] theorem und_29 : (Try.prog.underlying 29).isSome = true := by kernel_rfl
@[go_sem] theorem tsz_30 : tsz Try.prog 30 = some 1 := by kernel_rfl
@[go_sem] theorem tagg_30 : tagg Try.prog 30 = some false := by kernel_rfl
@[go_sem] theorem und_30 : (Try.prog.underlying 30).isSome = true := by kernel_rfl
@[go_sem] theorem tsz_31 : tsz Try.prog 31 = some 1 := by kernel_rfl
@[go_sem] theorem tagg_31 : tagg Try.prog 31 = some false := by kernel_rfl
@[go_sem] theorem und_31 : (Try.prog.underlying 31).isSome = true := by kernel_rfl
@[go_sem] theorem tsz_32 : tsz Try.prog 32 = some 1 := by kernel_rfl
@[go_sem] theorem tagg_32 : tagg Try.prog 32 = some false := by kernel_rfl
@[go_sem] theorem und_32 : (Try.prog.underlying 32).isSome = true := by kernel_rfl
@[go_sem] theorem tsz_33 : tsz Try.prog 33 = some 1 := by kernel_rfl
@[go_sem] theorem tagg_33 : tagg Try.prog 33 = some false := by kernel_rfl
@[go_sem] theorem und_33 : (Try.prog.underlying 33).isSome = true := by kernel_rfl
@[go_sem] theorem tsz_34 : tsz Try.prog 34 = some 1 := by kernel_rfl
@[go_sem] theorem tagg_34 : tagg Try.prog 34 = some false := by kernel_rfl
@[go_sem] theorem und_34 : (Try.prog.underlying 34).isSome = true := by kernel_rfl
@[go_sem] theorem tsz_35 : tsz Try.prog 35 = some 12 := by kernel_rfl
@[go_sem] theorem tagg_35 : tagg Try.prog 35 = some true := by kernel_rfl
@[go_sem] theorem tzero_35 : tzero Try.prog 35 = some [Value.int IntKind.u8 0, Value.int IntKind.u8 0, Value.int IntKind.u8 0, Value.int IntKind.u8 0, Value.int IntKind.u8 0, Value.int IntKind.u8 0, Value.int IntKind.u8 0, Value.int IntKind.u8 0, Value.int IntKind.u8 0, Value.int IntKind.u8 0, Value.int IntKind.u8 0, Value.int IntKind.u8 0] := by kernel_rfl
@[go_sem] theorem tae_35 : tae Try.prog 35 = some (3, 4) := by kernel_rfl
@[go_sem] theorem tlay_35 : tlay Try.prog 35 = some (Lay.arr [Value.int IntKind.u8 0, Value.int IntKind.u8 0, Value.int IntKind.u8 0, Value.int IntKind.u8 0, Value.int IntKind.u8 0, Value.int IntKind.u8 0, Value.int IntKind.u8 0, Value.int IntKind.u8 0, Value.int IntKind.u8 0, Value.int IntKind.u8 0, Value.int IntKind.u8 0, Value.int IntKind.u8 0] 4) := by kernel_rfl
@[go_sem] theorem teq_35 : teq Try.prog 35 = some [Lf.i, Lf.i, Lf.i, Lf.i, Lf.i, Lf.i, Lf.i, Lf.i, Lf.i, Lf.i, Lf.i, Lf.i] := by kernel_rfl
@[go_sem] theorem tarr_35 : tarr Try.prog 35 = some (3, 25) := by kernel_rfl
@[go_sem] theorem und_35 : (Try.prog.underlying 35).isSome = true := by kernel_rfl
@[go_sem] theorem tsz_36 : tsz Try.prog 36 = some 1 := by kernel_rfl
@[go_sem] theorem tagg_36 : tagg Try.prog 36 = some false := by kernel_rfl
@[go_sem] theorem tzero_36 : tzero Try.prog 36 = some [Value.slice Option.none 0 0] := by kernel_rfl
@[go_sem] theorem tse_36 : tse Try.prog 36 = some 4 := by kernel_rfl
@[go_sem] theorem tlit_36 : tlit Try.prog 36 = some ([Value.int IntKind.u8 0, Value.int IntKind.u8 0, Value.int IntKind.u8 0, Value.int IntKind.u8 0], 4) := by kernel_rfl
@[go_sem] theorem tapp_36 : tapp Try.prog 36 = some (4, 4) := by kernel_rfl
@[go_sem] theorem tslice_36 : tslice Try.prog 36 = some 29 := by kernel_rfl
@[go_sem] theorem und_36 : (Try.prog.underlying 36).isSome = true := by kernel_rfl
@[go_sem] theorem tsz_37 : tsz Try.prog 37 = some 1 := by kernel_rfl
@[go_sem] theorem tagg_37 : tagg Try.prog 37 = some false := by kernel_rfl
@[go_sem] theorem tzero_37 : tzero Try.prog 37 = some [Value.slice Option.none 0 0] := by kernel_rfl
@[go_sem] theorem tse_37 : tse Try.prog 37 = some 1 := by kernel_rfl
@[go_sem] theorem tlit_37 : tlit Try.prog 37 = some ([Value.bool false], 1) := by kernel_rfl
@[go_sem] theorem tapp_37 : tapp Try.prog 37 = some (1, 1) := by kernel_rfl
@[go_sem] theorem tslice_37 : tslice Try.prog 37 = some 4 := by kernel_rfl
@[go_sem] theorem und_37 : (Try.prog.underlying 37).isSome = true := by kernel_rfl
@[go_sem] theorem tsz_38 : tsz Try.prog 38 = some 1 := by kernel_rfl
@[go_sem] theorem tagg_38 : tagg Try.prog 38 = some false := by kernel_rfl
@[go_sem] theorem und_38 : (Try.prog.underlying 38).isSome = true := by kernel_rfl
@[go_sem] theorem tsz_39 : tsz Try.prog 39 = some 1 := by kernel_rfl
@[go_sem] theorem tagg_39 : tagg Try.prog 39 = some false := by kernel_rfl
@[go_sem] theorem und_39 : (Try.prog.underlying 39).isSome = true := by kernel_rfl
end Go.Proofs.Ytclbcpjelimgfaa.Facts
