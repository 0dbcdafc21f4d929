/- Merged texts: Facts Base Bits Q1 Q2 Q3 Q4 Q5. -/
import Derived.Test.YtnebnbdeobcegaaGreatZ3
import Derived.Test.YtnebnbdeobcegaaGreatProg
import Derived.KernelRfl
import Derived.IntWalk
import Derived.Lib.Mul64
/- The types' facts: their sizes and how their parts lie; printed by a program of ours. -/
namespace Go.Proofs.YtnebnbdeobcegaaGreat.Facts
open Go Go.RowKit E
@[go_sem] theorem tsz_2 : tsz Tryz.prog 2 = some 1 := by kernel_rfl
@[go_sem] theorem tagg_2 : tagg Tryz.prog 2 = some false := by kernel_rfl
@[go_sem] theorem tsz_3 : tsz Tryz.prog 3 = some 1 := by kernel_rfl
@[go_sem] theorem tagg_3 : tagg Tryz.prog 3 = some false := by kernel_rfl
@[go_sem] theorem tzero_3 : tzero Tryz.prog 3 = some [Value.int IntKind.i64 0] := by kernel_rfl
@[go_sem] theorem und_3 : (Tryz.prog.underlying 3).isSome = true := by kernel_rfl
@[go_sem] theorem tsz_4 : tsz Tryz.prog 4 = some 1 := by kernel_rfl
@[go_sem] theorem tagg_4 : tagg Tryz.prog 4 = some false := by kernel_rfl
@[go_sem] theorem tbool_4 : tbool Tryz.prog 4 = true := by kernel_rfl
@[go_sem] theorem tsz_5 : tsz Tryz.prog 5 = some 1 := by kernel_rfl
@[go_sem] theorem tagg_5 : tagg Tryz.prog 5 = some false := by kernel_rfl
@[go_sem] theorem tkind_5 : tkind Tryz.prog 5 = some IntKind.u8 := by kernel_rfl
@[go_sem] theorem tsz_22 : tsz Tryz.prog 22 = some 1 := by kernel_rfl
@[go_sem] theorem tagg_22 : tagg Tryz.prog 22 = some false := by kernel_rfl
@[go_sem] theorem tse_22 : tse Tryz.prog 22 = some 1 := by kernel_rfl
@[go_sem] theorem tlit_22 : tlit Tryz.prog 22 = some ([Value.slice Option.none 0 0], 1) := by kernel_rfl
@[go_sem] theorem tapp_22 : tapp Tryz.prog 22 = some (1, 24) := by kernel_rfl
@[go_sem] theorem tslice_22 : tslice Tryz.prog 22 = some 35 := by kernel_rfl
@[go_sem] theorem tsz_24 : tsz Tryz.prog 24 = some 3 := by kernel_rfl
@[go_sem] theorem tagg_24 : tagg Tryz.prog 24 = some true := by kernel_rfl
@[go_sem] theorem tzero_24 : tzero Tryz.prog 24 = some [Value.int IntKind.i64 0, Value.int IntKind.i64 0, Value.slice Option.none 0 0] := by kernel_rfl
@[go_sem] theorem tlay_24 : tlay Tryz.prog 24 = some (Lay.str [Value.int IntKind.i64 0, Value.int IntKind.i64 0, Value.slice Option.none 0 0]) := by kernel_rfl
@[go_sem] theorem tplaces_24_0 : tplaces Tryz.prog 24 0 = some (0, 1) := by kernel_rfl
@[go_sem] theorem tfo_24_0 : tfo Tryz.prog 24 0 = some 0 := by kernel_rfl
@[go_sem] theorem tplaces_24_1 : tplaces Tryz.prog 24 1 = some (1, 1) := by kernel_rfl
@[go_sem] theorem tfo_24_1 : tfo Tryz.prog 24 1 = some 1 := by kernel_rfl
@[go_sem] theorem tplaces_24_2 : tplaces Tryz.prog 24 2 = some (2, 1) := by kernel_rfl
@[go_sem] theorem tfo_24_2 : tfo Tryz.prog 24 2 = some 2 := by kernel_rfl
@[go_sem] theorem tsz_26 : tsz Tryz.prog 26 = some 1 := by kernel_rfl
@[go_sem] theorem tagg_26 : tagg Tryz.prog 26 = some false := by kernel_rfl
@[go_sem] theorem tse_26 : tse Tryz.prog 26 = some 1 := by kernel_rfl
@[go_sem] theorem tlit_26 : tlit Tryz.prog 26 = some ([Value.int IntKind.i64 0], 1) := by kernel_rfl
@[go_sem] theorem tapp_26 : tapp Tryz.prog 26 = some (1, 8) := by kernel_rfl
@[go_sem] theorem tslice_26 : tslice Tryz.prog 26 = some 3 := by kernel_rfl
@[go_sem] theorem tsz_31 : tsz Tryz.prog 31 = some 4 := by kernel_rfl
@[go_sem] theorem tagg_31 : tagg Tryz.prog 31 = some true := by kernel_rfl
@[go_sem] theorem tlay_31 : tlay Tryz.prog 31 = some (Lay.str [Value.int IntKind.i64 0, Value.int IntKind.i64 0, Value.int IntKind.i64 0, Value.int IntKind.i64 0]) := by kernel_rfl
@[go_sem] theorem tplaces_31_0 : tplaces Tryz.prog 31 0 = some (0, 1) := by kernel_rfl
@[go_sem] theorem tfo_31_0 : tfo Tryz.prog 31 0 = some 0 := by kernel_rfl
@[go_sem] theorem tplaces_31_1 : tplaces Tryz.prog 31 1 = some (1, 1) := by kernel_rfl
@[go_sem] theorem tfo_31_1 : tfo Tryz.prog 31 1 = some 1 := by kernel_rfl
@[go_sem] theorem tplaces_31_2 : tplaces Tryz.prog 31 2 = some (2, 1) := by kernel_rfl
@[go_sem] theorem tfo_31_2 : tfo Tryz.prog 31 2 = some 2 := by kernel_rfl
@[go_sem] theorem tplaces_31_3 : tplaces Tryz.prog 31 3 = some (3, 1) := by kernel_rfl
@[go_sem] theorem tfo_31_3 : tfo Tryz.prog 31 3 = some 3 := by kernel_rfl
@[go_sem] theorem tse_32 : tse Tryz.prog 32 = some 4 := by kernel_rfl
@[go_sem] theorem tlit_32 : tlit Tryz.prog 32 = some ([Value.int IntKind.i64 0, Value.int IntKind.i64 0, Value.int IntKind.i64 0, Value.int IntKind.i64 0], 4) := by kernel_rfl
@[go_sem] theorem tslice_32 : tslice Tryz.prog 32 = some 31 := by kernel_rfl
@[go_sem] theorem tsz_33 : tsz Tryz.prog 33 = some 1 := by kernel_rfl
@[go_sem] theorem tagg_33 : tagg Tryz.prog 33 = some false := by kernel_rfl
@[go_sem] theorem tse_33 : tse Tryz.prog 33 = some 50 := by kernel_rfl
@[go_sem] theorem tlit_33 : tlit Tryz.prog 33 = some ([Value.int IntKind.i64 0, Value.int IntKind.i64 0, Value.int IntKind.i64 0, Value.int IntKind.i64 0, Value.int IntKind.i64 0, Value.int IntKind.i64 0, Value.int IntKind.i64 0, Value.slice Option.none 0 0, Value.slice Option.none 0 0, Value.slice Option.none 0 0, Value.slice Option.none 0 0, Value.slice Option.none 0 0, Value.slice Option.none 0 0, Value.slice Option.none 0 0, Value.slice Option.none 0 0, Value.slice Option.none 0 0, Value.bool false, Value.slice Option.none 0 0, Value.int IntKind.i64 0, Value.int IntKind.i64 0, Value.slice Option.none 0 0, Value.slice Option.none 0 0, Value.slice Option.none 0 0, Value.bool false, Value.int IntKind.i64 0, Value.int IntKind.i64 0, Value.int IntKind.u8 0, Value.int IntKind.u8 0, Value.int IntKind.u8 0, Value.int IntKind.u8 0, Value.int IntKind.u8 0, Value.int IntKind.u8 0, Value.int IntKind.u8 0, Value.int IntKind.u8 0, Value.int IntKind.i64 0, Value.int IntKind.i64 0, Value.int IntKind.i64 0, Value.int IntKind.i64 0, Value.int IntKind.i64 0, Value.slice Option.none 0 0, Value.bool false, Value.slice Option.none 0 0, Value.int IntKind.u8 0, Value.int IntKind.u8 0, Value.int IntKind.u8 0, Value.int IntKind.u8 0, Value.int IntKind.i64 0, Value.slice Option.none 0 0, Value.slice Option.none 0 0, Value.slice Option.none 0 0], 50) := by kernel_rfl
@[go_sem] theorem tapp_33 : tapp Tryz.prog 33 = some (50, 608) := by kernel_rfl
@[go_sem] theorem tslice_33 : tslice Tryz.prog 33 = some 52 := by kernel_rfl
@[go_sem] theorem tsz_35 : tsz Tryz.prog 35 = some 1 := by kernel_rfl
@[go_sem] theorem tagg_35 : tagg Tryz.prog 35 = some true := by kernel_rfl
@[go_sem] theorem tzero_35 : tzero Tryz.prog 35 = some [Value.slice Option.none 0 0] := by kernel_rfl
@[go_sem] theorem tlay_35 : tlay Tryz.prog 35 = some (Lay.str [Value.slice Option.none 0 0]) := by kernel_rfl
@[go_sem] theorem tplaces_35_0 : tplaces Tryz.prog 35 0 = some (0, 1) := by kernel_rfl
@[go_sem] theorem tfo_35_0 : tfo Tryz.prog 35 0 = some 0 := by kernel_rfl
@[go_sem] theorem tsz_36 : tsz Tryz.prog 36 = some 1 := by kernel_rfl
@[go_sem] theorem tagg_36 : tagg Tryz.prog 36 = some false := by kernel_rfl
@[go_sem] theorem tse_36 : tse Tryz.prog 36 = some 7 := by kernel_rfl
@[go_sem] theorem tlit_36 : tlit Tryz.prog 36 = some ([Value.int IntKind.i64 0, Value.int IntKind.i64 0, Value.int IntKind.i64 0, Value.int IntKind.i64 0, Value.int IntKind.i64 0, Value.int IntKind.i64 0, Value.int IntKind.i64 0], 7) := by kernel_rfl
@[go_sem] theorem tapp_36 : tapp Tryz.prog 36 = some (7, 56) := by kernel_rfl
@[go_sem] theorem tslice_36 : tslice Tryz.prog 36 = some 85 := by kernel_rfl
@[go_sem] theorem tsz_37 : tsz Tryz.prog 37 = some 1 := by kernel_rfl
@[go_sem] theorem tagg_37 : tagg Tryz.prog 37 = some false := by kernel_rfl
@[go_sem] theorem tse_37 : tse Tryz.prog 37 = some 2 := by kernel_rfl
@[go_sem] theorem tlit_37 : tlit Tryz.prog 37 = some ([Value.int IntKind.i64 0, Value.int IntKind.i64 0], 2) := by kernel_rfl
@[go_sem] theorem tapp_37 : tapp Tryz.prog 37 = some (2, 16) := by kernel_rfl
@[go_sem] theorem tslice_37 : tslice Tryz.prog 37 = some 44 := by kernel_rfl
@[go_sem] theorem tsz_39 : tsz Tryz.prog 39 = some 2 := by kernel_rfl
@[go_sem] theorem tagg_39 : tagg Tryz.prog 39 = some true := by kernel_rfl
@[go_sem] theorem tzero_39 : tzero Tryz.prog 39 = some [Value.bool false, Value.slice Option.none 0 0] := by kernel_rfl
@[go_sem] theorem tlay_39 : tlay Tryz.prog 39 = some (Lay.str [Value.bool false, Value.slice Option.none 0 0]) := by kernel_rfl
@[go_sem] theorem tplaces_39_0 : tplaces Tryz.prog 39 0 = some (0, 1) := by kernel_rfl
@[go_sem] theorem tfo_39_0 : tfo Tryz.prog 39 0 = some 0 := by kernel_rfl
@[go_sem] theorem tplaces_39_1 : tplaces Tryz.prog 39 1 = some (1, 1) := by kernel_rfl
@[go_sem] theorem tfo_39_1 : tfo Tryz.prog 39 1 = some 1 := by kernel_rfl
@[go_sem] theorem tsz_40 : tsz Tryz.prog 40 = some 1 := by kernel_rfl
@[go_sem] theorem tagg_40 : tagg Tryz.prog 40 = some false := by kernel_rfl
@[go_sem] theorem tse_40 : tse Tryz.prog 40 = some 8 := by kernel_rfl
@[go_sem] theorem tlit_40 : tlit Tryz.prog 40 = some ([Value.int IntKind.i64 0, Value.bool false, Value.slice Option.none 0 0, Value.int IntKind.i64 0, Value.int IntKind.i64 0, Value.int IntKind.i64 0, Value.int IntKind.i64 0, Value.int IntKind.i64 0], 8) := by kernel_rfl
@[go_sem] theorem tapp_40 : tapp Tryz.prog 40 = some (8, 80) := by kernel_rfl
@[go_sem] theorem tslice_40 : tslice Tryz.prog 40 = some 106 := by kernel_rfl
@[go_sem] theorem tsz_42 : tsz Tryz.prog 42 = some 4 := by kernel_rfl
@[go_sem] theorem tagg_42 : tagg Tryz.prog 42 = some true := by kernel_rfl
@[go_sem] theorem tzero_42 : tzero Tryz.prog 42 = some [Value.int IntKind.u8 0, Value.int IntKind.u8 0, Value.int IntKind.u8 0, Value.int IntKind.u8 0] := by kernel_rfl
@[go_sem] theorem tlay_42 : tlay Tryz.prog 42 = some (Lay.arr [Value.int IntKind.u8 0, Value.int IntKind.u8 0, Value.int IntKind.u8 0, Value.int IntKind.u8 0] 1) := by kernel_rfl
@[go_sem] theorem teq_42 : teq Tryz.prog 42 = some [Lf.i, Lf.i, Lf.i, Lf.i] := by kernel_rfl
@[go_sem] theorem tsz_44 : tsz Tryz.prog 44 = some 2 := by kernel_rfl
@[go_sem] theorem tagg_44 : tagg Tryz.prog 44 = some true := by kernel_rfl
@[go_sem] theorem tzero_44 : tzero Tryz.prog 44 = some [Value.int IntKind.i64 0, Value.int IntKind.i64 0] := by kernel_rfl
@[go_sem] theorem tlay_44 : tlay Tryz.prog 44 = some (Lay.str [Value.int IntKind.i64 0, Value.int IntKind.i64 0]) := by kernel_rfl
@[go_sem] theorem teq_44 : teq Tryz.prog 44 = some [Lf.i, Lf.i] := by kernel_rfl
@[go_sem] theorem tplaces_44_0 : tplaces Tryz.prog 44 0 = some (0, 1) := by kernel_rfl
@[go_sem] theorem tfo_44_0 : tfo Tryz.prog 44 0 = some 0 := by kernel_rfl
@[go_sem] theorem tplaces_44_1 : tplaces Tryz.prog 44 1 = some (1, 1) := by kernel_rfl
@[go_sem] theorem tfo_44_1 : tfo Tryz.prog 44 1 = some 1 := by kernel_rfl
@[go_sem] theorem tsz_46 : tsz Tryz.prog 46 = some 14 := by kernel_rfl
@[go_sem] theorem tagg_46 : tagg Tryz.prog 46 = some true := by kernel_rfl
@[go_sem] theorem tzero_46 : tzero Tryz.prog 46 = some [Value.int IntKind.i64 0, Value.int IntKind.u8 0, Value.int IntKind.u8 0, Value.int IntKind.u8 0, Value.int IntKind.u8 0, Value.int IntKind.u8 0, Value.int IntKind.u8 0, Value.int IntKind.u8 0, Value.int IntKind.u8 0, Value.int IntKind.i64 0, Value.int IntKind.i64 0, Value.int IntKind.i64 0, Value.int IntKind.i64 0, Value.int IntKind.i64 0] := by kernel_rfl
@[go_sem] theorem tlay_46 : tlay Tryz.prog 46 = some (Lay.str [Value.int IntKind.i64 0, Value.int IntKind.u8 0, Value.int IntKind.u8 0, Value.int IntKind.u8 0, Value.int IntKind.u8 0, Value.int IntKind.u8 0, Value.int IntKind.u8 0, Value.int IntKind.u8 0, Value.int IntKind.u8 0, Value.int IntKind.i64 0, Value.int IntKind.i64 0, Value.int IntKind.i64 0, Value.int IntKind.i64 0, Value.int IntKind.i64 0]) := by kernel_rfl
@[go_sem] theorem teq_46 : teq Tryz.prog 46 = some [Lf.i, Lf.i, Lf.i, Lf.i, Lf.i, Lf.i, Lf.i, Lf.i, Lf.i, Lf.i, Lf.i, Lf.i, Lf.i, Lf.i] := by kernel_rfl
@[go_sem] theorem tplaces_46_0 : tplaces Tryz.prog 46 0 = some (0, 1) := by kernel_rfl
@[go_sem] theorem tfo_46_0 : tfo Tryz.prog 46 0 = some 0 := by kernel_rfl
@[go_sem] theorem tplaces_46_1 : tplaces Tryz.prog 46 1 = some (1, 4) := by kernel_rfl
@[go_sem] theorem tplaces_46_2 : tplaces Tryz.prog 46 2 = some (5, 4) := by kernel_rfl
@[go_sem] theorem tfo_46_3 : tfo Tryz.prog 46 3 = some 9 := by kernel_rfl
@[go_sem] theorem tfo_46_4 : tfo Tryz.prog 46 4 = some 11 := by kernel_rfl
@[go_sem] theorem tplaces_46_5 : tplaces Tryz.prog 46 5 = some (13, 1) := by kernel_rfl
@[go_sem] theorem tfo_46_5 : tfo Tryz.prog 46 5 = some 13 := by kernel_rfl
@[go_sem] theorem tsz_47 : tsz Tryz.prog 47 = some 1 := by kernel_rfl
@[go_sem] theorem tagg_47 : tagg Tryz.prog 47 = some false := by kernel_rfl
@[go_sem] theorem tse_47 : tse Tryz.prog 47 = some 10 := by kernel_rfl
@[go_sem] theorem tlit_47 : tlit Tryz.prog 47 = some ([Value.int IntKind.i64 0, Value.int IntKind.u8 0, Value.int IntKind.u8 0, Value.int IntKind.u8 0, Value.int IntKind.u8 0, Value.int IntKind.i64 0, Value.int IntKind.i64 0, Value.int IntKind.i64 0, Value.int IntKind.i64 0, Value.int IntKind.i64 0], 10) := by kernel_rfl
@[go_sem] theorem tapp_47 : tapp Tryz.prog 47 = some (10, 56) := by kernel_rfl
@[go_sem] theorem tslice_47 : tslice Tryz.prog 47 = some 108 := by kernel_rfl
@[go_sem] theorem tsz_48 : tsz Tryz.prog 48 = some 1 := by kernel_rfl
@[go_sem] theorem tagg_48 : tagg Tryz.prog 48 = some false := by kernel_rfl
@[go_sem] theorem tse_48 : tse Tryz.prog 48 = some 1 := by kernel_rfl
@[go_sem] theorem tlit_48 : tlit Tryz.prog 48 = some ([Value.int IntKind.i64 0], 1) := by kernel_rfl
@[go_sem] theorem tapp_48 : tapp Tryz.prog 48 = some (1, 8) := by kernel_rfl
@[go_sem] theorem tslice_48 : tslice Tryz.prog 48 = some 2 := by kernel_rfl
@[go_sem] theorem tsz_50 : tsz Tryz.prog 50 = some 32 := by kernel_rfl
@[go_sem] theorem tagg_50 : tagg Tryz.prog 50 = some true := by kernel_rfl
@[go_sem] theorem tzero_50 : tzero Tryz.prog 50 = some [Value.int IntKind.i64 0, Value.int IntKind.i64 0, Value.slice Option.none 0 0, Value.slice Option.none 0 0, Value.slice Option.none 0 0, Value.bool false, Value.int IntKind.i64 0, Value.int IntKind.i64 0, Value.int IntKind.u8 0, Value.int IntKind.u8 0, Value.int IntKind.u8 0, Value.int IntKind.u8 0, Value.int IntKind.u8 0, Value.int IntKind.u8 0, Value.int IntKind.u8 0, Value.int IntKind.u8 0, Value.int IntKind.i64 0, Value.int IntKind.i64 0, Value.int IntKind.i64 0, Value.int IntKind.i64 0, Value.int IntKind.i64 0, Value.slice Option.none 0 0, Value.bool false, Value.slice Option.none 0 0, Value.int IntKind.u8 0, Value.int IntKind.u8 0, Value.int IntKind.u8 0, Value.int IntKind.u8 0, Value.int IntKind.i64 0, Value.slice Option.none 0 0, Value.slice Option.none 0 0, Value.slice Option.none 0 0] := by kernel_rfl
@[go_sem] theorem tlay_50 : tlay Tryz.prog 50 = some (Lay.str [Value.int IntKind.i64 0, Value.int IntKind.i64 0, Value.slice Option.none 0 0, Value.slice Option.none 0 0, Value.slice Option.none 0 0, Value.bool false, Value.int IntKind.i64 0, Value.int IntKind.i64 0, Value.int IntKind.u8 0, Value.int IntKind.u8 0, Value.int IntKind.u8 0, Value.int IntKind.u8 0, Value.int IntKind.u8 0, Value.int IntKind.u8 0, Value.int IntKind.u8 0, Value.int IntKind.u8 0, Value.int IntKind.i64 0, Value.int IntKind.i64 0, Value.int IntKind.i64 0, Value.int IntKind.i64 0, Value.int IntKind.i64 0, Value.slice Option.none 0 0, Value.bool false, Value.slice Option.none 0 0, Value.int IntKind.u8 0, Value.int IntKind.u8 0, Value.int IntKind.u8 0, Value.int IntKind.u8 0, Value.int IntKind.i64 0, Value.slice Option.none 0 0, Value.slice Option.none 0 0, Value.slice Option.none 0 0]) := by kernel_rfl
@[go_sem] theorem tplaces_50_0 : tplaces Tryz.prog 50 0 = some (0, 1) := by kernel_rfl
@[go_sem] theorem tfo_50_0 : tfo Tryz.prog 50 0 = some 0 := by kernel_rfl
@[go_sem] theorem tfo_50_1 : tfo Tryz.prog 50 1 = some 1 := by kernel_rfl
@[go_sem] theorem tfo_50_2 : tfo Tryz.prog 50 2 = some 2 := by kernel_rfl
@[go_sem] theorem tfo_50_3 : tfo Tryz.prog 50 3 = some 3 := by kernel_rfl
@[go_sem] theorem tfo_50_4 : tfo Tryz.prog 50 4 = some 4 := by kernel_rfl
@[go_sem] theorem tfo_50_5 : tfo Tryz.prog 50 5 = some 5 := by kernel_rfl
@[go_sem] theorem tfo_50_6 : tfo Tryz.prog 50 6 = some 6 := by kernel_rfl
@[go_sem] theorem tfo_50_7 : tfo Tryz.prog 50 7 = some 7 := by kernel_rfl
@[go_sem] theorem tfo_50_8 : tfo Tryz.prog 50 8 = some 21 := by kernel_rfl
@[go_sem] theorem tfo_50_9 : tfo Tryz.prog 50 9 = some 22 := by kernel_rfl
@[go_sem] theorem tfo_50_10 : tfo Tryz.prog 50 10 = some 23 := by kernel_rfl
@[go_sem] theorem tfo_50_11 : tfo Tryz.prog 50 11 = some 24 := by kernel_rfl
@[go_sem] theorem tfo_50_12 : tfo Tryz.prog 50 12 = some 28 := by kernel_rfl
@[go_sem] theorem tfo_50_13 : tfo Tryz.prog 50 13 = some 29 := by kernel_rfl
@[go_sem] theorem tfo_50_14 : tfo Tryz.prog 50 14 = some 30 := by kernel_rfl
@[go_sem] theorem tfo_50_15 : tfo Tryz.prog 50 15 = some 31 := by kernel_rfl
@[go_sem] theorem tsz_52 : tsz Tryz.prog 52 = some 50 := by kernel_rfl
@[go_sem] theorem tagg_52 : tagg Tryz.prog 52 = some true := by kernel_rfl
@[go_sem] theorem tzero_52 : tzero Tryz.prog 52 = some [Value.int IntKind.i64 0, Value.int IntKind.i64 0, Value.int IntKind.i64 0, Value.int IntKind.i64 0, Value.int IntKind.i64 0, Value.int IntKind.i64 0, Value.int IntKind.i64 0, Value.slice Option.none 0 0, Value.slice Option.none 0 0, Value.slice Option.none 0 0, Value.slice Option.none 0 0, Value.slice Option.none 0 0, Value.slice Option.none 0 0, Value.slice Option.none 0 0, Value.slice Option.none 0 0, Value.slice Option.none 0 0, Value.bool false, Value.slice Option.none 0 0, Value.int IntKind.i64 0, Value.int IntKind.i64 0, Value.slice Option.none 0 0, Value.slice Option.none 0 0, Value.slice Option.none 0 0, Value.bool false, Value.int IntKind.i64 0, Value.int IntKind.i64 0, Value.int IntKind.u8 0, Value.int IntKind.u8 0, Value.int IntKind.u8 0, Value.int IntKind.u8 0, Value.int IntKind.u8 0, Value.int IntKind.u8 0, Value.int IntKind.u8 0, Value.int IntKind.u8 0, Value.int IntKind.i64 0, Value.int IntKind.i64 0, Value.int IntKind.i64 0, Value.int IntKind.i64 0, Value.int IntKind.i64 0, Value.slice Option.none 0 0, Value.bool false, Value.slice Option.none 0 0, Value.int IntKind.u8 0, Value.int IntKind.u8 0, Value.int IntKind.u8 0, Value.int IntKind.u8 0, Value.int IntKind.i64 0, Value.slice Option.none 0 0, Value.slice Option.none 0 0, Value.slice Option.none 0 0] := by kernel_rfl
@[go_sem] theorem tlay_52 : tlay Tryz.prog 52 = some (Lay.str [Value.int IntKind.i64 0, Value.int IntKind.i64 0, Value.int IntKind.i64 0, Value.int IntKind.i64 0, Value.int IntKind.i64 0, Value.int IntKind.i64 0, Value.int IntKind.i64 0, Value.slice Option.none 0 0, Value.slice Option.none 0 0, Value.slice Option.none 0 0, Value.slice Option.none 0 0, Value.slice Option.none 0 0, Value.slice Option.none 0 0, Value.slice Option.none 0 0, Value.slice Option.none 0 0, Value.slice Option.none 0 0, Value.bool false, Value.slice Option.none 0 0, Value.int IntKind.i64 0, Value.int IntKind.i64 0, Value.slice Option.none 0 0, Value.slice Option.none 0 0, Value.slice Option.none 0 0, Value.bool false, Value.int IntKind.i64 0, Value.int IntKind.i64 0, Value.int IntKind.u8 0, Value.int IntKind.u8 0, Value.int IntKind.u8 0, Value.int IntKind.u8 0, Value.int IntKind.u8 0, Value.int IntKind.u8 0, Value.int IntKind.u8 0, Value.int IntKind.u8 0, Value.int IntKind.i64 0, Value.int IntKind.i64 0, Value.int IntKind.i64 0, Value.int IntKind.i64 0, Value.int IntKind.i64 0, Value.slice Option.none 0 0, Value.bool false, Value.slice Option.none 0 0, Value.int IntKind.u8 0, Value.int IntKind.u8 0, Value.int IntKind.u8 0, Value.int IntKind.u8 0, Value.int IntKind.i64 0, Value.slice Option.none 0 0, Value.slice Option.none 0 0, Value.slice Option.none 0 0]) := by kernel_rfl
@[go_sem] theorem tplaces_52_0 : tplaces Tryz.prog 52 0 = some (0, 1) := by kernel_rfl
@[go_sem] theorem tfo_52_0 : tfo Tryz.prog 52 0 = some 0 := by kernel_rfl
@[go_sem] theorem tplaces_52_1 : tplaces Tryz.prog 52 1 = some (1, 1) := by kernel_rfl
@[go_sem] theorem tfo_52_1 : tfo Tryz.prog 52 1 = some 1 := by kernel_rfl
@[go_sem] theorem tplaces_52_2 : tplaces Tryz.prog 52 2 = some (2, 1) := by kernel_rfl
@[go_sem] theorem tfo_52_2 : tfo Tryz.prog 52 2 = some 2 := by kernel_rfl
@[go_sem] theorem tfo_52_3 : tfo Tryz.prog 52 3 = some 3 := by kernel_rfl
@[go_sem] theorem tplaces_52_4 : tplaces Tryz.prog 52 4 = some (4, 1) := by kernel_rfl
@[go_sem] theorem tfo_52_4 : tfo Tryz.prog 52 4 = some 4 := by kernel_rfl
@[go_sem] theorem tplaces_52_5 : tplaces Tryz.prog 52 5 = some (5, 1) := by kernel_rfl
@[go_sem] theorem tfo_52_5 : tfo Tryz.prog 52 5 = some 5 := by kernel_rfl
@[go_sem] theorem tplaces_52_6 : tplaces Tryz.prog 52 6 = some (6, 1) := by kernel_rfl
@[go_sem] theorem tfo_52_6 : tfo Tryz.prog 52 6 = some 6 := by kernel_rfl
@[go_sem] theorem tfo_52_7 : tfo Tryz.prog 52 7 = some 7 := by kernel_rfl
@[go_sem] theorem tfo_52_8 : tfo Tryz.prog 52 8 = some 8 := by kernel_rfl
@[go_sem] theorem tfo_52_9 : tfo Tryz.prog 52 9 = some 9 := by kernel_rfl
@[go_sem] theorem tfo_52_10 : tfo Tryz.prog 52 10 = some 10 := by kernel_rfl
@[go_sem] theorem tfo_52_11 : tfo Tryz.prog 52 11 = some 11 := by kernel_rfl
@[go_sem] theorem tfo_52_12 : tfo Tryz.prog 52 12 = some 12 := by kernel_rfl
@[go_sem] theorem tfo_52_13 : tfo Tryz.prog 52 13 = some 13 := by kernel_rfl
@[go_sem] theorem tfo_52_14 : tfo Tryz.prog 52 14 = some 14 := by kernel_rfl
@[go_sem] theorem tfo_52_15 : tfo Tryz.prog 52 15 = some 15 := by kernel_rfl
@[go_sem] theorem tfo_52_16 : tfo Tryz.prog 52 16 = some 16 := by kernel_rfl
@[go_sem] theorem tfo_52_17 : tfo Tryz.prog 52 17 = some 18 := by kernel_rfl
@[go_sem] theorem tse_53 : tse Tryz.prog 53 = some 1 := by kernel_rfl
@[go_sem] theorem tlit_53 : tlit Tryz.prog 53 = some ([Value.slice Option.none 0 0], 1) := by kernel_rfl
@[go_sem] theorem tslice_53 : tslice Tryz.prog 53 = some 26 := by kernel_rfl
@[go_sem] theorem tlay_61 : tlay Tryz.prog 61 = some (Lay.str [Value.slice Option.none 0 0, Value.int IntKind.i64 0]) := by kernel_rfl
@[go_sem] theorem tplaces_61_0 : tplaces Tryz.prog 61 0 = some (0, 1) := by kernel_rfl
@[go_sem] theorem tfo_61_0 : tfo Tryz.prog 61 0 = some 0 := by kernel_rfl
@[go_sem] theorem tfo_61_1 : tfo Tryz.prog 61 1 = some 1 := by kernel_rfl
@[go_sem] theorem tse_78 : tse Tryz.prog 78 = some 1 := by kernel_rfl
@[go_sem] theorem tlit_78 : tlit Tryz.prog 78 = some ([Value.slice Option.none 0 0], 1) := by kernel_rfl
@[go_sem] theorem tslice_78 : tslice Tryz.prog 78 = some 36 := by kernel_rfl
@[go_sem] theorem tsz_83 : tsz Tryz.prog 83 = some 4 := by kernel_rfl
@[go_sem] theorem tagg_83 : tagg Tryz.prog 83 = some true := by kernel_rfl
@[go_sem] theorem tzero_83 : tzero Tryz.prog 83 = some [Value.int IntKind.i64 0, Value.int IntKind.i64 0, Value.int IntKind.i64 0, Value.int IntKind.i64 0] := by kernel_rfl
@[go_sem] theorem tlay_83 : tlay Tryz.prog 83 = some (Lay.str [Value.int IntKind.i64 0, Value.int IntKind.i64 0, Value.int IntKind.i64 0, Value.int IntKind.i64 0]) := by kernel_rfl
@[go_sem] theorem teq_83 : teq Tryz.prog 83 = some [Lf.i, Lf.i, Lf.i, Lf.i] := by kernel_rfl
@[go_sem] theorem tplaces_83_0 : tplaces Tryz.prog 83 0 = some (0, 1) := by kernel_rfl
@[go_sem] theorem tfo_83_0 : tfo Tryz.prog 83 0 = some 0 := by kernel_rfl
@[go_sem] theorem tplaces_83_1 : tplaces Tryz.prog 83 1 = some (1, 1) := by kernel_rfl
@[go_sem] theorem tfo_83_1 : tfo Tryz.prog 83 1 = some 1 := by kernel_rfl
@[go_sem] theorem tplaces_83_2 : tplaces Tryz.prog 83 2 = some (2, 1) := by kernel_rfl
@[go_sem] theorem tfo_83_2 : tfo Tryz.prog 83 2 = some 2 := by kernel_rfl
@[go_sem] theorem tplaces_83_3 : tplaces Tryz.prog 83 3 = some (3, 1) := by kernel_rfl
@[go_sem] theorem tfo_83_3 : tfo Tryz.prog 83 3 = some 3 := by kernel_rfl
@[go_sem] theorem tsz_85 : tsz Tryz.prog 85 = some 7 := by kernel_rfl
@[go_sem] theorem tagg_85 : tagg Tryz.prog 85 = some true := by kernel_rfl
@[go_sem] theorem tzero_85 : tzero Tryz.prog 85 = some [Value.int IntKind.i64 0, Value.int IntKind.i64 0, Value.int IntKind.i64 0, Value.int IntKind.i64 0, Value.int IntKind.i64 0, Value.int IntKind.i64 0, Value.int IntKind.i64 0] := by kernel_rfl
@[go_sem] theorem tlay_85 : tlay Tryz.prog 85 = some (Lay.str [Value.int IntKind.i64 0, Value.int IntKind.i64 0, Value.int IntKind.i64 0, Value.int IntKind.i64 0, Value.int IntKind.i64 0, Value.int IntKind.i64 0, Value.int IntKind.i64 0]) := by kernel_rfl
@[go_sem] theorem teq_85 : teq Tryz.prog 85 = some [Lf.i, Lf.i, Lf.i, Lf.i, Lf.i, Lf.i, Lf.i] := by kernel_rfl
@[go_sem] theorem tplaces_85_0 : tplaces Tryz.prog 85 0 = some (0, 1) := by kernel_rfl
@[go_sem] theorem tfo_85_0 : tfo Tryz.prog 85 0 = some 0 := by kernel_rfl
@[go_sem] theorem tplaces_85_1 : tplaces Tryz.prog 85 1 = some (1, 1) := by kernel_rfl
@[go_sem] theorem tfo_85_1 : tfo Tryz.prog 85 1 = some 1 := by kernel_rfl
@[go_sem] theorem tplaces_85_2 : tplaces Tryz.prog 85 2 = some (2, 1) := by kernel_rfl
@[go_sem] theorem tfo_85_2 : tfo Tryz.prog 85 2 = some 2 := by kernel_rfl
@[go_sem] theorem tplaces_85_3 : tplaces Tryz.prog 85 3 = some (3, 4) := by kernel_rfl
@[go_sem] theorem tfo_85_3 : tfo Tryz.prog 85 3 = some 3 := by kernel_rfl
@[go_sem] theorem tsz_106 : tsz Tryz.prog 106 = some 8 := by kernel_rfl
@[go_sem] theorem tagg_106 : tagg Tryz.prog 106 = some true := by kernel_rfl
@[go_sem] theorem tzero_106 : tzero Tryz.prog 106 = some [Value.int IntKind.i64 0, Value.bool false, Value.slice Option.none 0 0, Value.int IntKind.i64 0, Value.int IntKind.i64 0, Value.int IntKind.i64 0, Value.int IntKind.i64 0, Value.int IntKind.i64 0] := by kernel_rfl
@[go_sem] theorem tlay_106 : tlay Tryz.prog 106 = some (Lay.str [Value.int IntKind.i64 0, Value.bool false, Value.slice Option.none 0 0, Value.int IntKind.i64 0, Value.int IntKind.i64 0, Value.int IntKind.i64 0, Value.int IntKind.i64 0, Value.int IntKind.i64 0]) := by kernel_rfl
@[go_sem] theorem tplaces_106_0 : tplaces Tryz.prog 106 0 = some (0, 1) := by kernel_rfl
@[go_sem] theorem tfo_106_0 : tfo Tryz.prog 106 0 = some 0 := by kernel_rfl
@[go_sem] theorem tplaces_106_1 : tplaces Tryz.prog 106 1 = some (1, 2) := by kernel_rfl
@[go_sem] theorem tfo_106_1 : tfo Tryz.prog 106 1 = some 1 := by kernel_rfl
@[go_sem] theorem tfo_106_2 : tfo Tryz.prog 106 2 = some 3 := by kernel_rfl
@[go_sem] theorem tfo_106_3 : tfo Tryz.prog 106 3 = some 4 := by kernel_rfl
@[go_sem] theorem tsz_108 : tsz Tryz.prog 108 = some 10 := by kernel_rfl
@[go_sem] theorem tagg_108 : tagg Tryz.prog 108 = some true := by kernel_rfl
@[go_sem] theorem tzero_108 : tzero Tryz.prog 108 = some [Value.int IntKind.i64 0, Value.int IntKind.u8 0, Value.int IntKind.u8 0, Value.int IntKind.u8 0, Value.int IntKind.u8 0, Value.int IntKind.i64 0, Value.int IntKind.i64 0, Value.int IntKind.i64 0, Value.int IntKind.i64 0, Value.int IntKind.i64 0] := by kernel_rfl
@[go_sem] theorem tlay_108 : tlay Tryz.prog 108 = some (Lay.str [Value.int IntKind.i64 0, Value.int IntKind.u8 0, Value.int IntKind.u8 0, Value.int IntKind.u8 0, Value.int IntKind.u8 0, Value.int IntKind.i64 0, Value.int IntKind.i64 0, Value.int IntKind.i64 0, Value.int IntKind.i64 0, Value.int IntKind.i64 0]) := by kernel_rfl
@[go_sem] theorem teq_108 : teq Tryz.prog 108 = some [Lf.i, Lf.i, Lf.i, Lf.i, Lf.i, Lf.i, Lf.i, Lf.i, Lf.i, Lf.i] := by kernel_rfl
@[go_sem] theorem tplaces_108_0 : tplaces Tryz.prog 108 0 = some (0, 1) := by kernel_rfl
@[go_sem] theorem tfo_108_0 : tfo Tryz.prog 108 0 = some 0 := by kernel_rfl
@[go_sem] theorem tplaces_108_1 : tplaces Tryz.prog 108 1 = some (1, 4) := by kernel_rfl
@[go_sem] theorem tplaces_108_2 : tplaces Tryz.prog 108 2 = some (5, 1) := by kernel_rfl
@[go_sem] theorem tfo_108_2 : tfo Tryz.prog 108 2 = some 5 := by kernel_rfl
@[go_sem] theorem tfo_108_3 : tfo Tryz.prog 108 3 = some 6 := by kernel_rfl
@[go_sem] theorem tsz_127 : tsz Tryz.prog 127 = some 1 := by kernel_rfl
@[go_sem] theorem tagg_127 : tagg Tryz.prog 127 = some false := by kernel_rfl
@[go_sem] theorem tse_128 : tse Tryz.prog 128 = some 1 := by kernel_rfl
@[go_sem] theorem tlit_128 : tlit Tryz.prog 128 = some ([Value.pointer Option.none], 1) := by kernel_rfl
@[go_sem] theorem tslice_128 : tslice Tryz.prog 128 = some 127 := by kernel_rfl
@[go_sem] theorem tse_137 : tse Tryz.prog 137 = some 1 := by kernel_rfl
@[go_sem] theorem tlit_137 : tlit Tryz.prog 137 = some ([Value.int IntKind.u8 0], 1) := by kernel_rfl
end Go.Proofs.YtnebnbdeobcegaaGreat.Facts
/- Small things that all walks use: the numbers' kinds; a number held between two. -/
namespace Go.Proofs.YtnebnbdeobcegaaGreat
open Go Go.RowKit E
theorem hm : Tryz.prog.follows .mixedOrders = true := by decide
theorem wi {n : Int} (h1 : -9223372036854775808 ≤ n) (h2 : n ≤ 9223372036854775807) : IntKind.i64.wrap n = n := by rw [IntKind.wrap_i64]; omega
theorem w8 {n : Int} (h1 : 0 ≤ n) (h2 : n ≤ 255) : IntKind.u8.wrap n = n := by rw [IntKind.wrap_u8]; omega
theorem w64 {n : Int} (h1 : 0 ≤ n) (h2 : n ≤ 18446744073709551615) : IntKind.u64.wrap n = n := IntWalk.u64_in n ⟨h1, h2⟩
abbrev I64 (a : Int) : Prop := -9223372036854775808 ≤ a ∧ a ≤ 9223372036854775807
def clamp (a lo hi : Int) : Int := if a < lo then lo else if hi < a then hi else a
def hold (a : Int) : Int := clamp a (-1099511627776) 1099511627776
def place (a : Int) : Int := clamp a (-536870912) 536870912
def qadd (a b : Int) : Int := hold (hold a + hold b)
def qmul (a b : Int) : Int := hold ((hold a * hold b) / 65536)
def qdiv (a b : Int) : Int := if hold b = 0 then 0 else hold (Int.fdiv (hold a * 65536) (hold b))
/-- The greatest number whose square is at most another one, bit by bit. -/
def sqL : Nat → Nat → Nat → Nat
  | 0, _, r => r
  | k + 1, n, r => sqL k n (if (r + 2 ^ k) * (r + 2 ^ k) ≤ n then r + 2 ^ k else r)
def isq (n : Int) : Int := (sqL 32 n.toNat 0 : Nat)
def root (a : Int) : Int := isq (clamp a 0 1099511627776 * 65536)
def hyp (x y : Int) : Int := isq (clamp x (-1073741824) 1073741824 * clamp x (-1073741824) 1073741824 + clamp y (-1073741824) 1073741824 * clamp y (-1073741824) 1073741824)
def mid (a b t : Int) : Int := qadd (hold a) (qmul (qadd b (-(hold a))) t)
end Go.Proofs.YtnebnbdeobcegaaGreat
/- Bits: shifts, masks, numbers without sign. -/
namespace Go.Proofs.YtnebnbdeobcegaaGreat
open Go Go.RowKit E
theorem ofInt_nat (a : Nat) (ha : a < 18446744073709551616) : (BitVec.ofInt 64 (a : Int)).toNat = a := by
  rw [BitVec.toNat_ofInt]; omega
theorem toNat_i64 (a : Int) : ((BitVec.ofInt 64 a).toNat : Int) = a % 18446744073709551616 := by
  rw [BitVec.toNat_ofInt]; omega
theorem and_i64 (a : Int) (k : Nat) (hk : k ≤ 62) : bits .and .i64 a (2 ^ k - 1) = a % 2 ^ k := by
  have p : 0 < 2 ^ k := Nat.pow_pos (by decide)
  have q : 2 ^ k ≤ 2 ^ 62 := Nat.pow_le_pow_right (by decide) hk
  have ep : ((2 ^ k : Nat) : Int) = (2 : Int) ^ k := by simp
  have e : ((2 : Int) ^ k - 1) = ((2 ^ k - 1 : Nat) : Int) := by omega
  rw [e]
  change IntKind.i64.wrap (((BitVec.ofInt 64 a) &&& (BitVec.ofInt 64 ((2 ^ k - 1 : Nat) : Int))).toNat : Int) = _
  rw [BitVec.toNat_and, ofInt_nat (2 ^ k - 1) (by omega), Nat.and_two_pow_sub_one_eq_mod]
  have h := toNat_i64 a
  generalize (BitVec.ofInt 64 a).toNat = b at *
  have hl := Nat.mod_lt b p
  have e2 : ((b % 2 ^ k : Nat) : Int) = a % 2 ^ k := by
    rw [Int.natCast_emod, h, ep]
    refine Int.emod_emod_of_dvd a ?_
    rw [← ep, show (18446744073709551616 : Int) = ((2 ^ 64 : Nat) : Int) by rfl]
    exact Int.natCast_dvd_natCast.2 (Nat.pow_dvd_pow 2 (by omega))
  rw [e2] 
  refine wi ?_ ?_ <;> omega
theorem bt {a b : Int} (h : a = b) : (a == b) = true := by simp [h]
theorem bf {a b : Int} (h : ¬ a = b) : (a == b) = false := by simp [h]
theorem nt {a b : Int} (h : a = b) : (a != b) = false := by simp [h]
theorem nf {a b : Int} (h : ¬ a = b) : (a != b) = true := by simp [h]
theorem dt {p : Prop} [Decidable p] (h : p) : decide p = true := decide_eq_true h
theorem df {p : Prop} [Decidable p] (h : ¬ p) : decide p = false := decide_eq_false h
end Go.Proofs.YtnebnbdeobcegaaGreat
/- Chapter 1: the walks of what holds, adds, multiplies. -/
namespace Go.Proofs.YtnebnbdeobcegaaGreat
open Go Go.RowKit E
attribute [local irreducible] XRun XOps XCode XCal XLoop XQ SemCall
set_option linter.unusedSimpArgs false
set_option linter.unusedVariables false
end Go.Proofs.YtnebnbdeobcegaaGreat
/- Chapter 1: the walks of quotients, roots, what lies between. -/
namespace Go.Proofs.YtnebnbdeobcegaaGreat
open Go Go.RowKit E
attribute [local irreducible] XRun XOps XCode XCal XLoop XQ SemCall
set_option linter.unusedSimpArgs false
set_option linter.unusedVariables false
theorem negdiv (a b : Int) (hb : 0 < b) : (-a) / b = -(a / b) - (if a % b = 0 then 0 else 1) ∧ (-a) % b = (if a % b = 0 then 0 else b - a % b) := by
  have e := Int.mul_ediv_add_emod a b
  have h1 := Int.emod_nonneg a (show b ≠ 0 by omega)
  have h2 := Int.emod_lt_of_pos a hb
  refine (Int.ediv_emod_unique hb).2 ?_
  split
  · rename_i h
    refine ⟨?_, by omega, by omega⟩
    rw [Int.sub_zero, Int.mul_neg]; omega
  · refine ⟨?_, by omega, by omega⟩
    rw [Int.mul_sub, Int.mul_neg, Int.mul_one]; omega
/-- A quotient cut to nought and one rounded down, by signs. -/
theorem tdiv_pp {a b : Int} (ha : 0 ≤ a) (hb : 0 < b) : a.tdiv b = a / b ∧ a.tmod b = a % b ∧ a.fdiv b = a / b :=
  ⟨Int.tdiv_eq_ediv_of_nonneg ha, Int.tmod_eq_emod_of_nonneg ha, Int.fdiv_eq_ediv_of_nonneg a (by omega)⟩
theorem tdiv_np {a b : Int} (ha : 0 ≤ a) (hb : 0 < b) : (-a).tdiv b = -(a / b) ∧ (-a).tmod b = -(a % b) ∧ (-a).fdiv b = -(a / b) - (if a % b = 0 then 0 else 1) :=
  ⟨by rw [Int.neg_tdiv, Int.tdiv_eq_ediv_of_nonneg ha], by rw [Int.neg_tmod, Int.tmod_eq_emod_of_nonneg ha], by rw [Int.fdiv_eq_ediv_of_nonneg _ (by omega), (negdiv a b hb).1]⟩
end Go.Proofs.YtnebnbdeobcegaaGreat
/- Chapter 1: the walks of the document's own numbers. -/
namespace Go.Proofs.YtnebnbdeobcegaaGreat
open Go Go.RowKit E
attribute [local irreducible] XRun XOps XCode XCal XLoop XQ SemCall
set_option linter.unusedSimpArgs false
set_option linter.unusedVariables false
/-- What the long division comes to, with a sign, held. -/
def rdn (n r : Int) (minus : Bool) : Int := hold (if minus = true then -n - (if r = 0 then 0 else 1) else n)
end Go.Proofs.YtnebnbdeobcegaaGreat
/- Chapter 1: the walks of what the statements call: both numbers alike, some known runs. -/
namespace Go.Proofs.YtnebnbdeobcegaaGreat
open Go Go.RowKit E
attribute [local irreducible] XRun XOps XCode XCal XLoop XQ SemCall
set_option linter.unusedSimpArgs false
set_option linter.unusedVariables false
end Go.Proofs.YtnebnbdeobcegaaGreat
/- Chapter 1: the walks of the laws on numbers. -/
namespace Go.Proofs.YtnebnbdeobcegaaGreat
open Go Go.RowKit E
attribute [local irreducible] XRun XOps XCode XCal XLoop XQ SemCall
set_option linter.unusedSimpArgs false
set_option linter.unusedVariables false
theorem tm_b (a : Int) {n : Int} (hn : 0 < n) : -n < a.tmod n ∧ a.tmod n < n := by
  rcases Int.lt_or_le a 0 with h | h
  · have f := tdiv_np (a := -a) (b := n) (by omega) hn
    rw [Int.neg_neg] at f
    have := Int.emod_nonneg (-a) (show n ≠ 0 by omega)
    have := Int.emod_lt_of_pos (-a) hn
    omega
  · have f := tdiv_pp h hn
    have := Int.emod_nonneg a (show n ≠ 0 by omega)
    have := Int.emod_lt_of_pos a hn
    omega
abbrev Nr (x : Int) : Prop := -67108864 < x ∧ x < 67108864
end Go.Proofs.YtnebnbdeobcegaaGreat
