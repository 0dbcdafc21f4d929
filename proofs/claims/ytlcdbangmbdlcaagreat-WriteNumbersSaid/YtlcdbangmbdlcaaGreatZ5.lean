/- Merged texts: Facts Base Bits Q1 Q2. -/
import Derived.Test.YtlcdbangmbdlcaaGreatZ4
import Derived.Test.YtlcdbangmbdlcaaGreatProg
import Derived.KernelRfl
import Derived.IntWalk
import Derived.Lib.Mul64
/- The types' facts: their sizes and how their parts lie; printed by a program of ours. -/
namespace Go.Proofs.YtlcdbangmbdlcaaGreat.Facts
open Go Go.RowKit E
@[go_sem] theorem tsz_3 : tsz Tryz.prog 3 = some 1 := by kernel_rfl
@[go_sem] theorem tagg_3 : tagg Tryz.prog 3 = some false := by kernel_rfl
@[go_sem] theorem tzero_3 : tzero Tryz.prog 3 = some [Value.int IntKind.i64 0] := by kernel_rfl
@[go_sem] theorem tkind_3 : tkind Tryz.prog 3 = some IntKind.i64 := by kernel_rfl
@[go_sem] theorem und_3 : (Tryz.prog.underlying 3).isSome = true := by kernel_rfl
@[go_sem] theorem tsz_27 : tsz Tryz.prog 27 = some 1 := by kernel_rfl
@[go_sem] theorem tagg_27 : tagg Tryz.prog 27 = some false := by kernel_rfl
@[go_sem] theorem tse_27 : tse Tryz.prog 27 = some 1 := by kernel_rfl
@[go_sem] theorem tlit_27 : tlit Tryz.prog 27 = some ([Value.int IntKind.i64 0], 1) := by kernel_rfl
@[go_sem] theorem tapp_27 : tapp Tryz.prog 27 = some (1, 8) := by kernel_rfl
@[go_sem] theorem tslice_27 : tslice Tryz.prog 27 = some 3 := by kernel_rfl
@[go_sem] theorem tkind_30 : tkind Tryz.prog 30 = some IntKind.u32 := by kernel_rfl
@[go_sem] theorem und_30 : (Tryz.prog.underlying 30).isSome = true := by kernel_rfl
@[go_sem] theorem tse_33 : tse Tryz.prog 33 = some 4 := by kernel_rfl
@[go_sem] theorem tslice_33 : tslice Tryz.prog 33 = some 67 := by kernel_rfl
@[go_sem] theorem tsz_45 : tsz Tryz.prog 45 = some 1 := by kernel_rfl
@[go_sem] theorem tagg_45 : tagg Tryz.prog 45 = some true := by kernel_rfl
@[go_sem] theorem tzero_45 : tzero Tryz.prog 45 = some [Value.slice Option.none 0 0] := by kernel_rfl
@[go_sem] theorem tlay_45 : tlay Tryz.prog 45 = some (Lay.str [Value.slice Option.none 0 0]) := by kernel_rfl
@[go_sem] theorem tplaces_45_0 : tplaces Tryz.prog 45 0 = some (0, 1) := by kernel_rfl
@[go_sem] theorem tfo_45_0 : tfo Tryz.prog 45 0 = some 0 := by kernel_rfl
@[go_sem] theorem tsz_54 : tsz Tryz.prog 54 = some 2 := by kernel_rfl
@[go_sem] theorem tagg_54 : tagg Tryz.prog 54 = some true := by kernel_rfl
@[go_sem] theorem tzero_54 : tzero Tryz.prog 54 = some [Value.int IntKind.i64 0, Value.int IntKind.i64 0] := by kernel_rfl
@[go_sem] theorem tlay_54 : tlay Tryz.prog 54 = some (Lay.str [Value.int IntKind.i64 0, Value.int IntKind.i64 0]) := by kernel_rfl
@[go_sem] theorem teq_54 : teq Tryz.prog 54 = some [Lf.i, Lf.i] := by kernel_rfl
@[go_sem] theorem tplaces_54_0 : tplaces Tryz.prog 54 0 = some (0, 1) := by kernel_rfl
@[go_sem] theorem tfo_54_0 : tfo Tryz.prog 54 0 = some 0 := by kernel_rfl
@[go_sem] theorem tplaces_54_1 : tplaces Tryz.prog 54 1 = some (1, 1) := by kernel_rfl
@[go_sem] theorem tfo_54_1 : tfo Tryz.prog 54 1 = some 1 := by kernel_rfl
@[go_sem] theorem tsz_57 : tsz Tryz.prog 57 = some 1 := by kernel_rfl
@[go_sem] theorem tagg_57 : tagg Tryz.prog 57 = some false := by kernel_rfl
@[go_sem] theorem tse_57 : tse Tryz.prog 57 = some 10 := by kernel_rfl
@[go_sem] theorem tlit_57 : tlit Tryz.prog 57 = some ([Value.int IntKind.i64 0, Value.int IntKind.u8 0, Value.int IntKind.u8 0, Value.int IntKind.u8 0, Value.int IntKind.u8 0, Value.int IntKind.i64 0, Value.int IntKind.i64 0, Value.int IntKind.i64 0, Value.int IntKind.i64 0, Value.int IntKind.i64 0], 10) := by kernel_rfl
@[go_sem] theorem tslice_57 : tslice Tryz.prog 57 = some 111 := by kernel_rfl
@[go_sem] theorem tsz_60 : tsz Tryz.prog 60 = some 32 := by kernel_rfl
@[go_sem] theorem tagg_60 : tagg Tryz.prog 60 = some true := by kernel_rfl
@[go_sem] theorem tzero_60 : tzero Tryz.prog 60 = some [Value.int IntKind.i64 0, Value.int IntKind.i64 0, Value.slice Option.none 0 0, Value.slice Option.none 0 0, Value.slice Option.none 0 0, Value.bool false, Value.int IntKind.i64 0, Value.int IntKind.i64 0, Value.int IntKind.u8 0, Value.int IntKind.u8 0, Value.int IntKind.u8 0, Value.int IntKind.u8 0, Value.int IntKind.u8 0, Value.int IntKind.u8 0, Value.int IntKind.u8 0, Value.int IntKind.u8 0, Value.int IntKind.i64 0, Value.int IntKind.i64 0, Value.int IntKind.i64 0, Value.int IntKind.i64 0, Value.int IntKind.i64 0, Value.slice Option.none 0 0, Value.bool false, Value.slice Option.none 0 0, Value.int IntKind.u8 0, Value.int IntKind.u8 0, Value.int IntKind.u8 0, Value.int IntKind.u8 0, Value.int IntKind.i64 0, Value.slice Option.none 0 0, Value.slice Option.none 0 0, Value.slice Option.none 0 0] := by kernel_rfl
@[go_sem] theorem tlay_60 : tlay Tryz.prog 60 = some (Lay.str [Value.int IntKind.i64 0, Value.int IntKind.i64 0, Value.slice Option.none 0 0, Value.slice Option.none 0 0, Value.slice Option.none 0 0, Value.bool false, Value.int IntKind.i64 0, Value.int IntKind.i64 0, Value.int IntKind.u8 0, Value.int IntKind.u8 0, Value.int IntKind.u8 0, Value.int IntKind.u8 0, Value.int IntKind.u8 0, Value.int IntKind.u8 0, Value.int IntKind.u8 0, Value.int IntKind.u8 0, Value.int IntKind.i64 0, Value.int IntKind.i64 0, Value.int IntKind.i64 0, Value.int IntKind.i64 0, Value.int IntKind.i64 0, Value.slice Option.none 0 0, Value.bool false, Value.slice Option.none 0 0, Value.int IntKind.u8 0, Value.int IntKind.u8 0, Value.int IntKind.u8 0, Value.int IntKind.u8 0, Value.int IntKind.i64 0, Value.slice Option.none 0 0, Value.slice Option.none 0 0, Value.slice Option.none 0 0]) := by kernel_rfl
@[go_sem] theorem tplaces_60_0 : tplaces Tryz.prog 60 0 = some (0, 1) := by kernel_rfl
@[go_sem] theorem tfo_60_0 : tfo Tryz.prog 60 0 = some 0 := by kernel_rfl
@[go_sem] theorem tfo_60_1 : tfo Tryz.prog 60 1 = some 1 := by kernel_rfl
@[go_sem] theorem tfo_60_2 : tfo Tryz.prog 60 2 = some 2 := by kernel_rfl
@[go_sem] theorem tfo_60_3 : tfo Tryz.prog 60 3 = some 3 := by kernel_rfl
@[go_sem] theorem tfo_60_4 : tfo Tryz.prog 60 4 = some 4 := by kernel_rfl
@[go_sem] theorem tfo_60_5 : tfo Tryz.prog 60 5 = some 5 := by kernel_rfl
@[go_sem] theorem tfo_60_6 : tfo Tryz.prog 60 6 = some 6 := by kernel_rfl
@[go_sem] theorem tfo_60_7 : tfo Tryz.prog 60 7 = some 7 := by kernel_rfl
@[go_sem] theorem tfo_60_8 : tfo Tryz.prog 60 8 = some 21 := by kernel_rfl
@[go_sem] theorem tfo_60_9 : tfo Tryz.prog 60 9 = some 22 := by kernel_rfl
@[go_sem] theorem tfo_60_10 : tfo Tryz.prog 60 10 = some 23 := by kernel_rfl
@[go_sem] theorem tfo_60_11 : tfo Tryz.prog 60 11 = some 24 := by kernel_rfl
@[go_sem] theorem tfo_60_12 : tfo Tryz.prog 60 12 = some 28 := by kernel_rfl
@[go_sem] theorem tfo_60_13 : tfo Tryz.prog 60 13 = some 29 := by kernel_rfl
@[go_sem] theorem tfo_60_14 : tfo Tryz.prog 60 14 = some 30 := by kernel_rfl
@[go_sem] theorem tfo_60_15 : tfo Tryz.prog 60 15 = some 31 := by kernel_rfl
@[go_sem] theorem tsz_78 : tsz Tryz.prog 78 = some 4 := by kernel_rfl
@[go_sem] theorem tagg_78 : tagg Tryz.prog 78 = some true := by kernel_rfl
@[go_sem] theorem tzero_78 : tzero Tryz.prog 78 = some [Value.int IntKind.i64 0, Value.int IntKind.i64 0, Value.int IntKind.i64 0, Value.int IntKind.i64 0] := by kernel_rfl
@[go_sem] theorem tlay_78 : tlay Tryz.prog 78 = some (Lay.str [Value.int IntKind.i64 0, Value.int IntKind.i64 0, Value.int IntKind.i64 0, Value.int IntKind.i64 0]) := by kernel_rfl
@[go_sem] theorem teq_78 : teq Tryz.prog 78 = some [Lf.i, Lf.i, Lf.i, Lf.i] := by kernel_rfl
@[go_sem] theorem tplaces_78_0 : tplaces Tryz.prog 78 0 = some (0, 1) := by kernel_rfl
@[go_sem] theorem tfo_78_0 : tfo Tryz.prog 78 0 = some 0 := by kernel_rfl
@[go_sem] theorem tplaces_78_1 : tplaces Tryz.prog 78 1 = some (1, 1) := by kernel_rfl
@[go_sem] theorem tfo_78_1 : tfo Tryz.prog 78 1 = some 1 := by kernel_rfl
@[go_sem] theorem tplaces_78_2 : tplaces Tryz.prog 78 2 = some (2, 1) := by kernel_rfl
@[go_sem] theorem tfo_78_2 : tfo Tryz.prog 78 2 = some 2 := by kernel_rfl
@[go_sem] theorem tplaces_78_3 : tplaces Tryz.prog 78 3 = some (3, 1) := by kernel_rfl
@[go_sem] theorem tfo_78_3 : tfo Tryz.prog 78 3 = some 3 := by kernel_rfl
@[go_sem] theorem tsz_111 : tsz Tryz.prog 111 = some 10 := by kernel_rfl
@[go_sem] theorem tagg_111 : tagg Tryz.prog 111 = some true := by kernel_rfl
@[go_sem] theorem tzero_111 : tzero Tryz.prog 111 = some [Value.int IntKind.i64 0, Value.int IntKind.u8 0, Value.int IntKind.u8 0, Value.int IntKind.u8 0, Value.int IntKind.u8 0, Value.int IntKind.i64 0, Value.int IntKind.i64 0, Value.int IntKind.i64 0, Value.int IntKind.i64 0, Value.int IntKind.i64 0] := by kernel_rfl
@[go_sem] theorem tlay_111 : tlay Tryz.prog 111 = some (Lay.str [Value.int IntKind.i64 0, Value.int IntKind.u8 0, Value.int IntKind.u8 0, Value.int IntKind.u8 0, Value.int IntKind.u8 0, Value.int IntKind.i64 0, Value.int IntKind.i64 0, Value.int IntKind.i64 0, Value.int IntKind.i64 0, Value.int IntKind.i64 0]) := by kernel_rfl
@[go_sem] theorem teq_111 : teq Tryz.prog 111 = some [Lf.i, Lf.i, Lf.i, Lf.i, Lf.i, Lf.i, Lf.i, Lf.i, Lf.i, Lf.i] := by kernel_rfl
@[go_sem] theorem tplaces_111_0 : tplaces Tryz.prog 111 0 = some (0, 1) := by kernel_rfl
@[go_sem] theorem tfo_111_0 : tfo Tryz.prog 111 0 = some 0 := by kernel_rfl
@[go_sem] theorem tplaces_111_1 : tplaces Tryz.prog 111 1 = some (1, 4) := by kernel_rfl
@[go_sem] theorem tfo_111_1 : tfo Tryz.prog 111 1 = some 1 := by kernel_rfl
@[go_sem] theorem tplaces_111_2 : tplaces Tryz.prog 111 2 = some (5, 1) := by kernel_rfl
@[go_sem] theorem tfo_111_2 : tfo Tryz.prog 111 2 = some 5 := by kernel_rfl
@[go_sem] theorem tfo_111_3 : tfo Tryz.prog 111 3 = some 6 := by kernel_rfl
@[go_sem] theorem tsz_4 : tsz Tryz.prog 4 = some 1 := by kernel_rfl
@[go_sem] theorem tagg_4 : tagg Tryz.prog 4 = some false := by kernel_rfl
@[go_sem] theorem tbool_4 : tbool Tryz.prog 4 = true := by kernel_rfl
@[go_sem] theorem tsz_25 : tsz Tryz.prog 25 = some 3 := by kernel_rfl
@[go_sem] theorem tagg_25 : tagg Tryz.prog 25 = some true := by kernel_rfl
@[go_sem] theorem tzero_25 : tzero Tryz.prog 25 = some [Value.int IntKind.i64 0, Value.int IntKind.i64 0, Value.slice Option.none 0 0] := by kernel_rfl
@[go_sem] theorem tlay_25 : tlay Tryz.prog 25 = some (Lay.str [Value.int IntKind.i64 0, Value.int IntKind.i64 0, Value.slice Option.none 0 0]) := by kernel_rfl
@[go_sem] theorem tplaces_25_0 : tplaces Tryz.prog 25 0 = some (0, 1) := by kernel_rfl
@[go_sem] theorem tfo_25_0 : tfo Tryz.prog 25 0 = some 0 := by kernel_rfl
@[go_sem] theorem tplaces_25_1 : tplaces Tryz.prog 25 1 = some (1, 1) := by kernel_rfl
@[go_sem] theorem tfo_25_1 : tfo Tryz.prog 25 1 = some 1 := by kernel_rfl
@[go_sem] theorem tplaces_25_2 : tplaces Tryz.prog 25 2 = some (2, 1) := by kernel_rfl
@[go_sem] theorem tfo_25_2 : tfo Tryz.prog 25 2 = some 2 := by kernel_rfl
@[go_sem] theorem tsz_43 : tsz Tryz.prog 43 = some 1 := by kernel_rfl
@[go_sem] theorem tagg_43 : tagg Tryz.prog 43 = some false := by kernel_rfl
@[go_sem] theorem tse_43 : tse Tryz.prog 43 = some 50 := by kernel_rfl
@[go_sem] theorem tlit_43 : tlit Tryz.prog 43 = some ([Value.int IntKind.i64 0, Value.int IntKind.i64 0, Value.int IntKind.i64 0, Value.int IntKind.i64 0, Value.int IntKind.i64 0, Value.int IntKind.i64 0, Value.int IntKind.i64 0, Value.slice Option.none 0 0, Value.slice Option.none 0 0, Value.slice Option.none 0 0, Value.slice Option.none 0 0, Value.slice Option.none 0 0, Value.slice Option.none 0 0, Value.slice Option.none 0 0, Value.slice Option.none 0 0, Value.slice Option.none 0 0, Value.bool false, Value.slice Option.none 0 0, Value.int IntKind.i64 0, Value.int IntKind.i64 0, Value.slice Option.none 0 0, Value.slice Option.none 0 0, Value.slice Option.none 0 0, Value.bool false, Value.int IntKind.i64 0, Value.int IntKind.i64 0, Value.int IntKind.u8 0, Value.int IntKind.u8 0, Value.int IntKind.u8 0, Value.int IntKind.u8 0, Value.int IntKind.u8 0, Value.int IntKind.u8 0, Value.int IntKind.u8 0, Value.int IntKind.u8 0, Value.int IntKind.i64 0, Value.int IntKind.i64 0, Value.int IntKind.i64 0, Value.int IntKind.i64 0, Value.int IntKind.i64 0, Value.slice Option.none 0 0, Value.bool false, Value.slice Option.none 0 0, Value.int IntKind.u8 0, Value.int IntKind.u8 0, Value.int IntKind.u8 0, Value.int IntKind.u8 0, Value.int IntKind.i64 0, Value.slice Option.none 0 0, Value.slice Option.none 0 0, Value.slice Option.none 0 0], 50) := by kernel_rfl
@[go_sem] theorem tapp_43 : tapp Tryz.prog 43 = some (50, 608) := by kernel_rfl
@[go_sem] theorem tslice_43 : tslice Tryz.prog 43 = some 62 := by kernel_rfl
@[go_sem] theorem tsz_46 : tsz Tryz.prog 46 = some 1 := by kernel_rfl
@[go_sem] theorem tagg_46 : tagg Tryz.prog 46 = some false := by kernel_rfl
@[go_sem] theorem tse_46 : tse Tryz.prog 46 = some 7 := by kernel_rfl
@[go_sem] theorem tlit_46 : tlit Tryz.prog 46 = some ([Value.int IntKind.i64 0, Value.int IntKind.i64 0, Value.int IntKind.i64 0, Value.int IntKind.i64 0, Value.int IntKind.i64 0, Value.int IntKind.i64 0, Value.int IntKind.i64 0], 7) := by kernel_rfl
@[go_sem] theorem tapp_46 : tapp Tryz.prog 46 = some (7, 56) := by kernel_rfl
@[go_sem] theorem tslice_46 : tslice Tryz.prog 46 = some 80 := by kernel_rfl
@[go_sem] theorem tsz_49 : tsz Tryz.prog 49 = some 2 := by kernel_rfl
@[go_sem] theorem tagg_49 : tagg Tryz.prog 49 = some true := by kernel_rfl
@[go_sem] theorem tzero_49 : tzero Tryz.prog 49 = some [Value.bool false, Value.slice Option.none 0 0] := by kernel_rfl
@[go_sem] theorem tlay_49 : tlay Tryz.prog 49 = some (Lay.str [Value.bool false, Value.slice Option.none 0 0]) := by kernel_rfl
@[go_sem] theorem tplaces_49_0 : tplaces Tryz.prog 49 0 = some (0, 1) := by kernel_rfl
@[go_sem] theorem tfo_49_0 : tfo Tryz.prog 49 0 = some 0 := by kernel_rfl
@[go_sem] theorem tplaces_49_1 : tplaces Tryz.prog 49 1 = some (1, 1) := by kernel_rfl
@[go_sem] theorem tfo_49_1 : tfo Tryz.prog 49 1 = some 1 := by kernel_rfl
@[go_sem] theorem tsz_52 : tsz Tryz.prog 52 = some 4 := by kernel_rfl
@[go_sem] theorem tagg_52 : tagg Tryz.prog 52 = some true := by kernel_rfl
@[go_sem] theorem tzero_52 : tzero Tryz.prog 52 = some [Value.int IntKind.u8 0, Value.int IntKind.u8 0, Value.int IntKind.u8 0, Value.int IntKind.u8 0] := by kernel_rfl
@[go_sem] theorem tae_52 : tae Tryz.prog 52 = some (4, 1) := by kernel_rfl
@[go_sem] theorem tlay_52 : tlay Tryz.prog 52 = some (Lay.arr [Value.int IntKind.u8 0, Value.int IntKind.u8 0, Value.int IntKind.u8 0, Value.int IntKind.u8 0] 1) := by kernel_rfl
@[go_sem] theorem teq_52 : teq Tryz.prog 52 = some [Lf.i, Lf.i, Lf.i, Lf.i] := by kernel_rfl
@[go_sem] theorem tarr_52 : tarr Tryz.prog 52 = some (4, 5) := by kernel_rfl
@[go_sem] theorem tsz_58 : tsz Tryz.prog 58 = some 1 := by kernel_rfl
@[go_sem] theorem tagg_58 : tagg Tryz.prog 58 = some false := by kernel_rfl
@[go_sem] theorem tse_58 : tse Tryz.prog 58 = some 1 := by kernel_rfl
@[go_sem] theorem tlit_58 : tlit Tryz.prog 58 = some ([Value.int IntKind.i64 0], 1) := by kernel_rfl
@[go_sem] theorem tapp_58 : tapp Tryz.prog 58 = some (1, 8) := by kernel_rfl
@[go_sem] theorem tslice_58 : tslice Tryz.prog 58 = some 2 := by kernel_rfl
@[go_sem] theorem tkind_64 : tkind Tryz.prog 64 = some IntKind.u64 := by kernel_rfl
@[go_sem] theorem tsz_67 : tsz Tryz.prog 67 = some 4 := by kernel_rfl
@[go_sem] theorem tagg_67 : tagg Tryz.prog 67 = some true := by kernel_rfl
@[go_sem] theorem tfo_67_0 : tfo Tryz.prog 67 0 = some 0 := by kernel_rfl
@[go_sem] theorem tfo_67_1 : tfo Tryz.prog 67 1 = some 1 := by kernel_rfl
@[go_sem] theorem tfo_67_2 : tfo Tryz.prog 67 2 = some 2 := by kernel_rfl
@[go_sem] theorem tfo_67_3 : tfo Tryz.prog 67 3 = some 3 := by kernel_rfl
@[go_sem] theorem tlay_97 : tlay Tryz.prog 97 = some (Lay.str [Value.slice Option.none 0 0]) := by kernel_rfl
@[go_sem] theorem tplaces_97_0 : tplaces Tryz.prog 97 0 = some (0, 1) := by kernel_rfl
@[go_sem] theorem tfo_97_0 : tfo Tryz.prog 97 0 = some 0 := by kernel_rfl
@[go_sem] theorem tse_100 : tse Tryz.prog 100 = some 1 := by kernel_rfl
@[go_sem] theorem tlit_100 : tlit Tryz.prog 100 = some ([Value.slice Option.none 0 0], 1) := by kernel_rfl
@[go_sem] theorem tslice_100 : tslice Tryz.prog 100 = some 46 := by kernel_rfl
@[go_sem] theorem tsz_2 : tsz Tryz.prog 2 = some 1 := by kernel_rfl
@[go_sem] theorem tagg_2 : tagg Tryz.prog 2 = some false := by kernel_rfl
@[go_sem] theorem und_2 : (Tryz.prog.underlying 2).isSome = true := by kernel_rfl
@[go_sem] theorem tsz_5 : tsz Tryz.prog 5 = some 1 := by kernel_rfl
@[go_sem] theorem tagg_5 : tagg Tryz.prog 5 = some false := by kernel_rfl
@[go_sem] theorem tkind_5 : tkind Tryz.prog 5 = some IntKind.u8 := by kernel_rfl
@[go_sem] theorem und_5 : (Tryz.prog.underlying 5).isSome = true := by kernel_rfl
@[go_sem] theorem tsz_23 : tsz Tryz.prog 23 = some 1 := by kernel_rfl
@[go_sem] theorem tagg_23 : tagg Tryz.prog 23 = some false := by kernel_rfl
@[go_sem] theorem tse_23 : tse Tryz.prog 23 = some 1 := by kernel_rfl
@[go_sem] theorem tlit_23 : tlit Tryz.prog 23 = some ([Value.slice Option.none 0 0], 1) := by kernel_rfl
@[go_sem] theorem tapp_23 : tapp Tryz.prog 23 = some (1, 24) := by kernel_rfl
@[go_sem] theorem tslice_23 : tslice Tryz.prog 23 = some 45 := by kernel_rfl
@[go_sem] theorem tsz_29 : tsz Tryz.prog 29 = some 1 := by kernel_rfl
@[go_sem] theorem tagg_29 : tagg Tryz.prog 29 = some false := by kernel_rfl
@[go_sem] theorem tse_29 : tse Tryz.prog 29 = some 1 := by kernel_rfl
@[go_sem] theorem tlit_29 : tlit Tryz.prog 29 = some ([Value.int IntKind.u8 0], 1) := by kernel_rfl
@[go_sem] theorem tapp_29 : tapp Tryz.prog 29 = some (1, 1) := by kernel_rfl
@[go_sem] theorem tslice_29 : tslice Tryz.prog 29 = some 5 := by kernel_rfl
@[go_sem] theorem tlay_41 : tlay Tryz.prog 41 = some (Lay.str [Value.slice Option.none 0 0, Value.int IntKind.i64 0]) := by kernel_rfl
@[go_sem] theorem tplaces_41_0 : tplaces Tryz.prog 41 0 = some (0, 1) := by kernel_rfl
@[go_sem] theorem tfo_41_0 : tfo Tryz.prog 41 0 = some 0 := by kernel_rfl
@[go_sem] theorem tfo_41_1 : tfo Tryz.prog 41 1 = some 1 := by kernel_rfl
@[go_sem] theorem tsz_47 : tsz Tryz.prog 47 = some 1 := by kernel_rfl
@[go_sem] theorem tagg_47 : tagg Tryz.prog 47 = some false := by kernel_rfl
@[go_sem] theorem tse_47 : tse Tryz.prog 47 = some 2 := by kernel_rfl
@[go_sem] theorem tlit_47 : tlit Tryz.prog 47 = some ([Value.int IntKind.i64 0, Value.int IntKind.i64 0], 2) := by kernel_rfl
@[go_sem] theorem tapp_47 : tapp Tryz.prog 47 = some (2, 16) := by kernel_rfl
@[go_sem] theorem tslice_47 : tslice Tryz.prog 47 = some 54 := by kernel_rfl
@[go_sem] theorem tsz_50 : tsz Tryz.prog 50 = some 1 := by kernel_rfl
@[go_sem] theorem tagg_50 : tagg Tryz.prog 50 = some false := by kernel_rfl
@[go_sem] theorem tse_50 : tse Tryz.prog 50 = some 8 := by kernel_rfl
@[go_sem] theorem tlit_50 : tlit Tryz.prog 50 = some ([Value.int IntKind.i64 0, Value.bool false, Value.slice Option.none 0 0, Value.int IntKind.i64 0, Value.int IntKind.i64 0, Value.int IntKind.i64 0, Value.int IntKind.i64 0, Value.int IntKind.i64 0], 8) := by kernel_rfl
@[go_sem] theorem tapp_50 : tapp Tryz.prog 50 = some (8, 80) := by kernel_rfl
@[go_sem] theorem tslice_50 : tslice Tryz.prog 50 = some 104 := by kernel_rfl
@[go_sem] theorem tsz_56 : tsz Tryz.prog 56 = some 14 := by kernel_rfl
@[go_sem] theorem tagg_56 : tagg Tryz.prog 56 = some true := by kernel_rfl
@[go_sem] theorem tzero_56 : tzero Tryz.prog 56 = some [Value.int IntKind.i64 0, Value.int IntKind.u8 0, Value.int IntKind.u8 0, Value.int IntKind.u8 0, Value.int IntKind.u8 0, Value.int IntKind.u8 0, Value.int IntKind.u8 0, Value.int IntKind.u8 0, Value.int IntKind.u8 0, Value.int IntKind.i64 0, Value.int IntKind.i64 0, Value.int IntKind.i64 0, Value.int IntKind.i64 0, Value.int IntKind.i64 0] := by kernel_rfl
@[go_sem] theorem tlay_56 : tlay Tryz.prog 56 = some (Lay.str [Value.int IntKind.i64 0, Value.int IntKind.u8 0, Value.int IntKind.u8 0, Value.int IntKind.u8 0, Value.int IntKind.u8 0, Value.int IntKind.u8 0, Value.int IntKind.u8 0, Value.int IntKind.u8 0, Value.int IntKind.u8 0, Value.int IntKind.i64 0, Value.int IntKind.i64 0, Value.int IntKind.i64 0, Value.int IntKind.i64 0, Value.int IntKind.i64 0]) := by kernel_rfl
@[go_sem] theorem teq_56 : teq Tryz.prog 56 = some [Lf.i, Lf.i, Lf.i, Lf.i, Lf.i, Lf.i, Lf.i, Lf.i, Lf.i, Lf.i, Lf.i, Lf.i, Lf.i, Lf.i] := by kernel_rfl
@[go_sem] theorem tplaces_56_0 : tplaces Tryz.prog 56 0 = some (0, 1) := by kernel_rfl
@[go_sem] theorem tfo_56_0 : tfo Tryz.prog 56 0 = some 0 := by kernel_rfl
@[go_sem] theorem tplaces_56_1 : tplaces Tryz.prog 56 1 = some (1, 4) := by kernel_rfl
@[go_sem] theorem tfo_56_1 : tfo Tryz.prog 56 1 = some 1 := by kernel_rfl
@[go_sem] theorem tplaces_56_2 : tplaces Tryz.prog 56 2 = some (5, 4) := by kernel_rfl
@[go_sem] theorem tfo_56_2 : tfo Tryz.prog 56 2 = some 5 := by kernel_rfl
@[go_sem] theorem tfo_56_3 : tfo Tryz.prog 56 3 = some 9 := by kernel_rfl
@[go_sem] theorem tfo_56_4 : tfo Tryz.prog 56 4 = some 11 := by kernel_rfl
@[go_sem] theorem tplaces_56_5 : tplaces Tryz.prog 56 5 = some (13, 1) := by kernel_rfl
@[go_sem] theorem tfo_56_5 : tfo Tryz.prog 56 5 = some 13 := by kernel_rfl
@[go_sem] theorem tsz_62 : tsz Tryz.prog 62 = some 50 := by kernel_rfl
@[go_sem] theorem tagg_62 : tagg Tryz.prog 62 = some true := by kernel_rfl
@[go_sem] theorem tzero_62 : tzero Tryz.prog 62 = some [Value.int IntKind.i64 0, Value.int IntKind.i64 0, Value.int IntKind.i64 0, Value.int IntKind.i64 0, Value.int IntKind.i64 0, Value.int IntKind.i64 0, Value.int IntKind.i64 0, Value.slice Option.none 0 0, Value.slice Option.none 0 0, Value.slice Option.none 0 0, Value.slice Option.none 0 0, Value.slice Option.none 0 0, Value.slice Option.none 0 0, Value.slice Option.none 0 0, Value.slice Option.none 0 0, Value.slice Option.none 0 0, Value.bool false, Value.slice Option.none 0 0, Value.int IntKind.i64 0, Value.int IntKind.i64 0, Value.slice Option.none 0 0, Value.slice Option.none 0 0, Value.slice Option.none 0 0, Value.bool false, Value.int IntKind.i64 0, Value.int IntKind.i64 0, Value.int IntKind.u8 0, Value.int IntKind.u8 0, Value.int IntKind.u8 0, Value.int IntKind.u8 0, Value.int IntKind.u8 0, Value.int IntKind.u8 0, Value.int IntKind.u8 0, Value.int IntKind.u8 0, Value.int IntKind.i64 0, Value.int IntKind.i64 0, Value.int IntKind.i64 0, Value.int IntKind.i64 0, Value.int IntKind.i64 0, Value.slice Option.none 0 0, Value.bool false, Value.slice Option.none 0 0, Value.int IntKind.u8 0, Value.int IntKind.u8 0, Value.int IntKind.u8 0, Value.int IntKind.u8 0, Value.int IntKind.i64 0, Value.slice Option.none 0 0, Value.slice Option.none 0 0, Value.slice Option.none 0 0] := by kernel_rfl
@[go_sem] theorem tlay_62 : tlay Tryz.prog 62 = some (Lay.str [Value.int IntKind.i64 0, Value.int IntKind.i64 0, Value.int IntKind.i64 0, Value.int IntKind.i64 0, Value.int IntKind.i64 0, Value.int IntKind.i64 0, Value.int IntKind.i64 0, Value.slice Option.none 0 0, Value.slice Option.none 0 0, Value.slice Option.none 0 0, Value.slice Option.none 0 0, Value.slice Option.none 0 0, Value.slice Option.none 0 0, Value.slice Option.none 0 0, Value.slice Option.none 0 0, Value.slice Option.none 0 0, Value.bool false, Value.slice Option.none 0 0, Value.int IntKind.i64 0, Value.int IntKind.i64 0, Value.slice Option.none 0 0, Value.slice Option.none 0 0, Value.slice Option.none 0 0, Value.bool false, Value.int IntKind.i64 0, Value.int IntKind.i64 0, Value.int IntKind.u8 0, Value.int IntKind.u8 0, Value.int IntKind.u8 0, Value.int IntKind.u8 0, Value.int IntKind.u8 0, Value.int IntKind.u8 0, Value.int IntKind.u8 0, Value.int IntKind.u8 0, Value.int IntKind.i64 0, Value.int IntKind.i64 0, Value.int IntKind.i64 0, Value.int IntKind.i64 0, Value.int IntKind.i64 0, Value.slice Option.none 0 0, Value.bool false, Value.slice Option.none 0 0, Value.int IntKind.u8 0, Value.int IntKind.u8 0, Value.int IntKind.u8 0, Value.int IntKind.u8 0, Value.int IntKind.i64 0, Value.slice Option.none 0 0, Value.slice Option.none 0 0, Value.slice Option.none 0 0]) := by kernel_rfl
@[go_sem] theorem tfo_62_0 : tfo Tryz.prog 62 0 = some 0 := by kernel_rfl
@[go_sem] theorem tplaces_62_1 : tplaces Tryz.prog 62 1 = some (1, 1) := by kernel_rfl
@[go_sem] theorem tfo_62_1 : tfo Tryz.prog 62 1 = some 1 := by kernel_rfl
@[go_sem] theorem tfo_62_2 : tfo Tryz.prog 62 2 = some 2 := by kernel_rfl
@[go_sem] theorem tfo_62_3 : tfo Tryz.prog 62 3 = some 3 := by kernel_rfl
@[go_sem] theorem tplaces_62_4 : tplaces Tryz.prog 62 4 = some (4, 1) := by kernel_rfl
@[go_sem] theorem tfo_62_4 : tfo Tryz.prog 62 4 = some 4 := by kernel_rfl
@[go_sem] theorem tfo_62_5 : tfo Tryz.prog 62 5 = some 5 := by kernel_rfl
@[go_sem] theorem tplaces_62_6 : tplaces Tryz.prog 62 6 = some (6, 1) := by kernel_rfl
@[go_sem] theorem tfo_62_6 : tfo Tryz.prog 62 6 = some 6 := by kernel_rfl
@[go_sem] theorem tfo_62_7 : tfo Tryz.prog 62 7 = some 7 := by kernel_rfl
@[go_sem] theorem tfo_62_8 : tfo Tryz.prog 62 8 = some 8 := by kernel_rfl
@[go_sem] theorem tfo_62_9 : tfo Tryz.prog 62 9 = some 9 := by kernel_rfl
@[go_sem] theorem tfo_62_10 : tfo Tryz.prog 62 10 = some 10 := by kernel_rfl
@[go_sem] theorem tfo_62_11 : tfo Tryz.prog 62 11 = some 11 := by kernel_rfl
@[go_sem] theorem tfo_62_12 : tfo Tryz.prog 62 12 = some 12 := by kernel_rfl
@[go_sem] theorem tfo_62_13 : tfo Tryz.prog 62 13 = some 13 := by kernel_rfl
@[go_sem] theorem tfo_62_14 : tfo Tryz.prog 62 14 = some 14 := by kernel_rfl
@[go_sem] theorem tfo_62_15 : tfo Tryz.prog 62 15 = some 15 := by kernel_rfl
@[go_sem] theorem tfo_62_16 : tfo Tryz.prog 62 16 = some 16 := by kernel_rfl
@[go_sem] theorem tfo_62_17 : tfo Tryz.prog 62 17 = some 18 := by kernel_rfl
@[go_sem] theorem tlay_71 : tlay Tryz.prog 71 = some (Lay.str [Value.slice Option.none 0 0]) := by kernel_rfl
@[go_sem] theorem tplaces_71_0 : tplaces Tryz.prog 71 0 = some (0, 1) := by kernel_rfl
@[go_sem] theorem tfo_71_0 : tfo Tryz.prog 71 0 = some 0 := by kernel_rfl
@[go_sem] theorem tsz_80 : tsz Tryz.prog 80 = some 7 := by kernel_rfl
@[go_sem] theorem tagg_80 : tagg Tryz.prog 80 = some true := by kernel_rfl
@[go_sem] theorem tzero_80 : tzero Tryz.prog 80 = some [Value.int IntKind.i64 0, Value.int IntKind.i64 0, Value.int IntKind.i64 0, Value.int IntKind.i64 0, Value.int IntKind.i64 0, Value.int IntKind.i64 0, Value.int IntKind.i64 0] := by kernel_rfl
@[go_sem] theorem tlay_80 : tlay Tryz.prog 80 = some (Lay.str [Value.int IntKind.i64 0, Value.int IntKind.i64 0, Value.int IntKind.i64 0, Value.int IntKind.i64 0, Value.int IntKind.i64 0, Value.int IntKind.i64 0, Value.int IntKind.i64 0]) := by kernel_rfl
@[go_sem] theorem teq_80 : teq Tryz.prog 80 = some [Lf.i, Lf.i, Lf.i, Lf.i, Lf.i, Lf.i, Lf.i] := by kernel_rfl
@[go_sem] theorem tplaces_80_0 : tplaces Tryz.prog 80 0 = some (0, 1) := by kernel_rfl
@[go_sem] theorem tfo_80_0 : tfo Tryz.prog 80 0 = some 0 := by kernel_rfl
@[go_sem] theorem tplaces_80_1 : tplaces Tryz.prog 80 1 = some (1, 1) := by kernel_rfl
@[go_sem] theorem tfo_80_1 : tfo Tryz.prog 80 1 = some 1 := by kernel_rfl
@[go_sem] theorem tplaces_80_2 : tplaces Tryz.prog 80 2 = some (2, 1) := by kernel_rfl
@[go_sem] theorem tfo_80_2 : tfo Tryz.prog 80 2 = some 2 := by kernel_rfl
@[go_sem] theorem tplaces_80_3 : tplaces Tryz.prog 80 3 = some (3, 4) := by kernel_rfl
@[go_sem] theorem tfo_80_3 : tfo Tryz.prog 80 3 = some 3 := by kernel_rfl
@[go_sem] theorem tsz_104 : tsz Tryz.prog 104 = some 8 := by kernel_rfl
@[go_sem] theorem tagg_104 : tagg Tryz.prog 104 = some true := by kernel_rfl
@[go_sem] theorem tzero_104 : tzero Tryz.prog 104 = some [Value.int IntKind.i64 0, Value.bool false, Value.slice Option.none 0 0, Value.int IntKind.i64 0, Value.int IntKind.i64 0, Value.int IntKind.i64 0, Value.int IntKind.i64 0, Value.int IntKind.i64 0] := by kernel_rfl
@[go_sem] theorem tlay_104 : tlay Tryz.prog 104 = some (Lay.str [Value.int IntKind.i64 0, Value.bool false, Value.slice Option.none 0 0, Value.int IntKind.i64 0, Value.int IntKind.i64 0, Value.int IntKind.i64 0, Value.int IntKind.i64 0, Value.int IntKind.i64 0]) := by kernel_rfl
@[go_sem] theorem tplaces_104_0 : tplaces Tryz.prog 104 0 = some (0, 1) := by kernel_rfl
@[go_sem] theorem tfo_104_0 : tfo Tryz.prog 104 0 = some 0 := by kernel_rfl
@[go_sem] theorem tplaces_104_1 : tplaces Tryz.prog 104 1 = some (1, 2) := by kernel_rfl
@[go_sem] theorem tfo_104_1 : tfo Tryz.prog 104 1 = some 1 := by kernel_rfl
@[go_sem] theorem tfo_104_2 : tfo Tryz.prog 104 2 = some 3 := by kernel_rfl
@[go_sem] theorem tfo_104_3 : tfo Tryz.prog 104 3 = some 4 := by kernel_rfl
end Go.Proofs.YtlcdbangmbdlcaaGreat.Facts
/- Small things that all walks use: the numbers' kinds; a number held between two. -/
namespace Go.Proofs.YtlcdbangmbdlcaaGreat
open Go Go.RowKit E
theorem hm : Tryz.prog.follows .mixedOrders = true := by decide
theorem wi {n : Int} (h1 : -9223372036854775808 ≤ n) (h2 : n ≤ 9223372036854775807) : IntKind.i64.wrap n = n := by rw [IntKind.wrap_i64]; omega
abbrev I64 (a : Int) : Prop := -9223372036854775808 ≤ a ∧ a ≤ 9223372036854775807
def clamp (a lo hi : Int) : Int := if a < lo then lo else if hi < a then hi else a
def hold (a : Int) : Int := clamp a (-1099511627776) 1099511627776
def place (a : Int) : Int := clamp a (-536870912) 536870912
def qadd (a b : Int) : Int := hold (hold a + hold b)
def qmul (a b : Int) : Int := hold ((hold a * hold b) / 65536)
def qdiv (a b : Int) : Int := if hold b = 0 then 0 else hold (Int.fdiv (hold a * 65536) (hold b))
/-- The greatest number whose square is at most another one, bit by bit. -/
def sqL : Nat → Nat → Nat → Nat
  | 0, _, r => r
  | k + 1, n, r => sqL k n (if (r + 2 ^ k) * (r + 2 ^ k) ≤ n then r + 2 ^ k else r)
def isq (n : Int) : Int := (sqL 32 n.toNat 0 : Nat)
def root (a : Int) : Int := isq (clamp a 0 1099511627776 * 65536)
def hyp (x y : Int) : Int := isq (clamp x (-1073741824) 1073741824 * clamp x (-1073741824) 1073741824 + clamp y (-1073741824) 1073741824 * clamp y (-1073741824) 1073741824)
def mid (a b t : Int) : Int := qadd (hold a) (qmul (qadd b (-(hold a))) t)
end Go.Proofs.YtlcdbangmbdlcaaGreat
/- Bits: shifts, masks, numbers without sign. -/
namespace Go.Proofs.YtlcdbangmbdlcaaGreat
open Go Go.RowKit E
@[go_sem] theorem abin_shl' {P : Program} {t : TypeId} {k yk : IntKind} {a m : Int} (h : (0 ≤ m) = True) : abin P .shl t (.int k a) (.int yk m) = some (.int k (k.wrap (a * 2 ^ min m.toNat k.bits))) := by
  have h := of_eq_true h
  simp only [abin, isShift, or_true, if_true, aint, h]
@[go_sem] theorem abin_shr' {P : Program} {t : TypeId} {k yk : IntKind} {a m : Int} (h : (0 ≤ m) = True) : abin P .shr t (.int k a) (.int yk m) = some (.int k (a.fdiv (2 ^ min m.toNat k.bits))) := by
  have h := of_eq_true h
  simp only [abin, isShift, or_true, if_true, aint, h]
@[go_sem] theorem fdiv_pos {a b : Int} (h : (0 ≤ b) = True) : a.fdiv b = a / b := Int.fdiv_eq_ediv_of_nonneg a (of_eq_true h)
@[go_sem] theorem min_l {a b : Nat} (h : (a ≤ b) = True) : min a b = a := Nat.min_eq_left (of_eq_true h)
theorem wu64 (n : Int) : IntKind.u64.wrap n = n % 18446744073709551616 := by
  simp [IntKind.wrap, IntKind.bits, IntKind.signed]
theorem ofInt_nat (a : Nat) (ha : a < 18446744073709551616) : (BitVec.ofInt 64 (a : Int)).toNat = a := by
  rw [BitVec.toNat_ofInt]; omega
/-- What has nothing below a place, and what lies below it. -/
theorem or_add (k a b : Nat) (hb : b < 2 ^ k) : a * 2 ^ k ||| b = a * 2 ^ k + b := by
  rw [Nat.mul_comm, Nat.two_pow_add_eq_or_of_lt hb]
theorem toNat_i64 (a : Int) : ((BitVec.ofInt 64 a).toNat : Int) = a % 18446744073709551616 := by
  rw [BitVec.toNat_ofInt]; omega
theorem and_i64 (a : Int) (k : Nat) (hk : k ≤ 62) : bits .and .i64 a (2 ^ k - 1) = a % 2 ^ k := by
  have p : 0 < 2 ^ k := Nat.pow_pos (by decide)
  have q : 2 ^ k ≤ 2 ^ 62 := Nat.pow_le_pow_right (by decide) hk
  have ep : ((2 ^ k : Nat) : Int) = (2 : Int) ^ k := by simp
  have e : ((2 : Int) ^ k - 1) = ((2 ^ k - 1 : Nat) : Int) := by omega
  rw [e]
  change IntKind.i64.wrap (((BitVec.ofInt 64 a) &&& (BitVec.ofInt 64 ((2 ^ k - 1 : Nat) : Int))).toNat : Int) = _
  rw [BitVec.toNat_and, ofInt_nat (2 ^ k - 1) (by omega), Nat.and_two_pow_sub_one_eq_mod]
  have h := toNat_i64 a
  generalize (BitVec.ofInt 64 a).toNat = b at *
  have hl := Nat.mod_lt b p
  have e2 : ((b % 2 ^ k : Nat) : Int) = a % 2 ^ k := by
    rw [Int.natCast_emod, h, ep]
    refine Int.emod_emod_of_dvd a ?_
    rw [← ep, show (18446744073709551616 : Int) = ((2 ^ 64 : Nat) : Int) by rfl]
    exact Int.natCast_dvd_natCast.2 (Nat.pow_dvd_pow 2 (by omega))
  rw [e2] 
  refine wi ?_ ?_ <;> omega
theorem bt {a b : Int} (h : a = b) : (a == b) = true := by simp [h]
theorem bf {a b : Int} (h : ¬ a = b) : (a == b) = false := by simp [h]
theorem nt {a b : Int} (h : a = b) : (a != b) = false := by simp [h]
theorem nf {a b : Int} (h : ¬ a = b) : (a != b) = true := by simp [h]
theorem dt {p : Prop} [Decidable p] (h : p) : decide p = true := decide_eq_true h
theorem df {p : Prop} [Decidable p] (h : ¬ p) : decide p = false := decide_eq_false h
end Go.Proofs.YtlcdbangmbdlcaaGreat
/- Chapter 1: the walks of what holds, adds, multiplies. -/
namespace Go.Proofs.YtlcdbangmbdlcaaGreat
open Go Go.RowKit E
attribute [local irreducible] XRun XOps XCode XCal XLoop XQ SemCall
set_option linter.unusedSimpArgs false
set_option linter.unusedVariables false
end Go.Proofs.YtlcdbangmbdlcaaGreat
/- Chapter 1: the walks of quotients, roots, what lies between. -/
namespace Go.Proofs.YtlcdbangmbdlcaaGreat
open Go Go.RowKit E
attribute [local irreducible] XRun XOps XCode XCal XLoop XQ SemCall
set_option linter.unusedSimpArgs false
set_option linter.unusedVariables false
theorem negdiv (a b : Int) (hb : 0 < b) : (-a) / b = -(a / b) - (if a % b = 0 then 0 else 1) ∧ (-a) % b = (if a % b = 0 then 0 else b - a % b) := by
  have e := Int.mul_ediv_add_emod a b
  have h1 := Int.emod_nonneg a (show b ≠ 0 by omega)
  have h2 := Int.emod_lt_of_pos a hb
  refine (Int.ediv_emod_unique hb).2 ?_
  split
  · rename_i h
    refine ⟨?_, by omega, by omega⟩
    rw [Int.sub_zero, Int.mul_neg]; omega
  · refine ⟨?_, by omega, by omega⟩
    rw [Int.mul_sub, Int.mul_neg, Int.mul_one]; omega
/-- A quotient cut to nought and one rounded down, by signs. -/
theorem tdiv_pp {a b : Int} (ha : 0 ≤ a) (hb : 0 < b) : a.tdiv b = a / b ∧ a.tmod b = a % b ∧ a.fdiv b = a / b :=
  ⟨Int.tdiv_eq_ediv_of_nonneg ha, Int.tmod_eq_emod_of_nonneg ha, Int.fdiv_eq_ediv_of_nonneg a (by omega)⟩
theorem tdiv_np {a b : Int} (ha : 0 ≤ a) (hb : 0 < b) : (-a).tdiv b = -(a / b) ∧ (-a).tmod b = -(a % b) ∧ (-a).fdiv b = -(a / b) - (if a % b = 0 then 0 else 1) :=
  ⟨by rw [Int.neg_tdiv, Int.tdiv_eq_ediv_of_nonneg ha], by rw [Int.neg_tmod, Int.tmod_eq_emod_of_nonneg ha], by rw [Int.fdiv_eq_ediv_of_nonneg _ (by omega), (negdiv a b hb).1]⟩
end Go.Proofs.YtlcdbangmbdlcaaGreat
