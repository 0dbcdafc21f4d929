/- Merged texts: Facts Base Bits Q1 Q2. -/
import Derived.Test.YthhbglkokpablaaGreatV4
import Derived.Test.YthhbglkokpablaaGreatProg
import Derived.KernelRfl
import Derived.IntWalk
import Derived.Lib.Mul64
/- The types' facts: their sizes and how their parts lie; printed by a program of ours. -/
namespace Go.Proofs.YthhbglkokpablaaGreat.Facts
open Go Go.RowKit E
@[go_sem] theorem tsz_3:tsz Tryz.prog 3=some 1:=by kernel_rfl
@[go_sem] theorem tagg_3:tagg Tryz.prog 3=some false:=by kernel_rfl
@[go_sem] theorem tzero_3:tzero Tryz.prog 3=some [Value.int IntKind.i64 0]:=by kernel_rfl
@[go_sem] theorem und_3:(Tryz.prog.underlying 3).isSome=true:=by kernel_rfl
@[go_sem] theorem tsz_27:tsz Tryz.prog 27=some 1:=by kernel_rfl
@[go_sem] theorem tagg_27:tagg Tryz.prog 27=some false:=by kernel_rfl
@[go_sem] theorem tse_27:tse Tryz.prog 27=some 1:=by kernel_rfl
@[go_sem] theorem tlit_27:tlit Tryz.prog 27=some ([Value.int IntKind.i64 0],1):=by kernel_rfl
@[go_sem] theorem tapp_27:tapp Tryz.prog 27=some (1,8):=by kernel_rfl
@[go_sem] theorem tslice_27:tslice Tryz.prog 27=some 3:=by kernel_rfl
@[go_sem] theorem tsz_39:tsz Tryz.prog 39=some 2:=by kernel_rfl
@[go_sem] theorem tagg_39:tagg Tryz.prog 39=some true:=by kernel_rfl
@[go_sem] theorem tzero_39:tzero Tryz.prog 39=some [Value.int IntKind.i64 0,Value.int IntKind.i64 0]:=by kernel_rfl
@[go_sem] theorem tlay_39:tlay Tryz.prog 39=some (Lay.str [Value.int IntKind.i64 0,Value.int IntKind.i64 0]):=by kernel_rfl
@[go_sem] theorem teq_39:teq Tryz.prog 39=some [Lf.i,Lf.i]:=by kernel_rfl
@[go_sem] theorem tplaces_39_0:tplaces Tryz.prog 39 0=some (0,1):=by kernel_rfl
@[go_sem] theorem tfo_39_0:tfo Tryz.prog 39 0=some 0:=by kernel_rfl
@[go_sem] theorem tplaces_39_1:tplaces Tryz.prog 39 1=some (1,1):=by kernel_rfl
@[go_sem] theorem tfo_39_1:tfo Tryz.prog 39 1=some 1:=by kernel_rfl
@[go_sem] theorem tsz_42:tsz Tryz.prog 42=some 1:=by kernel_rfl
@[go_sem] theorem tagg_42:tagg Tryz.prog 42=some false:=by kernel_rfl
@[go_sem] theorem tse_42:tse Tryz.prog 42=some 10:=by kernel_rfl
@[go_sem] theorem tlit_42:tlit Tryz.prog 42=some ([Value.int IntKind.i64 0,Value.int IntKind.u8 0,Value.int IntKind.u8 0,Value.int IntKind.u8 0,Value.int IntKind.u8 0,Value.int IntKind.i64 0,Value.int IntKind.i64 0,Value.int IntKind.i64 0,Value.int IntKind.i64 0,Value.int IntKind.i64 0],10):=by kernel_rfl
@[go_sem] theorem tapp_42:tapp Tryz.prog 42=some (10,56):=by kernel_rfl
@[go_sem] theorem tslice_42:tslice Tryz.prog 42=some 111:=by kernel_rfl
@[go_sem] theorem tsz_45:tsz Tryz.prog 45=some 32:=by kernel_rfl
@[go_sem] theorem tagg_45:tagg Tryz.prog 45=some true:=by kernel_rfl
@[go_sem] theorem tzero_45:tzero Tryz.prog 45=some [Value.int IntKind.i64 0,Value.int IntKind.i64 0,Value.slice Option.none 0 0,Value.slice Option.none 0 0,Value.slice Option.none 0 0,Value.bool false,Value.int IntKind.i64 0,Value.int IntKind.i64 0,Value.int IntKind.u8 0,Value.int IntKind.u8 0,Value.int IntKind.u8 0,Value.int IntKind.u8 0,Value.int IntKind.u8 0,Value.int IntKind.u8 0,Value.int IntKind.u8 0,Value.int IntKind.u8 0,Value.int IntKind.i64 0,Value.int IntKind.i64 0,Value.int IntKind.i64 0,Value.int IntKind.i64 0,Value.int IntKind.i64 0,Value.slice Option.none 0 0,Value.bool false,Value.slice Option.none 0 0,Value.int IntKind.u8 0,Value.int IntKind.u8 0,Value.int IntKind.u8 0,Value.int IntKind.u8 0,Value.int IntKind.i64 0,Value.slice Option.none 0 0,Value.slice Option.none 0 0,Value.slice Option.none 0 0]:=by kernel_rfl
@[go_sem] theorem tlay_45:tlay Tryz.prog 45=some (Lay.str [Value.int IntKind.i64 0,Value.int IntKind.i64 0,Value.slice Option.none 0 0,Value.slice Option.none 0 0,Value.slice Option.none 0 0,Value.bool false,Value.int IntKind.i64 0,Value.int IntKind.i64 0,Value.int IntKind.u8 0,Value.int IntKind.u8 0,Value.int IntKind.u8 0,Value.int IntKind.u8 0,Value.int IntKind.u8 0,Value.int IntKind.u8 0,Value.int IntKind.u8 0,Value.int IntKind.u8 0,Value.int IntKind.i64 0,Value.int IntKind.i64 0,Value.int IntKind.i64 0,Value.int IntKind.i64 0,Value.int IntKind.i64 0,Value.slice Option.none 0 0,Value.bool false,Value.slice Option.none 0 0,Value.int IntKind.u8 0,Value.int IntKind.u8 0,Value.int IntKind.u8 0,Value.int IntKind.u8 0,Value.int IntKind.i64 0,Value.slice Option.none 0 0,Value.slice Option.none 0 0,Value.slice Option.none 0 0]):=by kernel_rfl
@[go_sem] theorem tplaces_45_0:tplaces Tryz.prog 45 0=some (0,1):=by kernel_rfl
@[go_sem] theorem tfo_45_0:tfo Tryz.prog 45 0=some 0:=by kernel_rfl
@[go_sem] theorem tfo_45_1:tfo Tryz.prog 45 1=some 1:=by kernel_rfl
@[go_sem] theorem tfo_45_2:tfo Tryz.prog 45 2=some 2:=by kernel_rfl
@[go_sem] theorem tfo_45_3:tfo Tryz.prog 45 3=some 3:=by kernel_rfl
@[go_sem] theorem tfo_45_4:tfo Tryz.prog 45 4=some 4:=by kernel_rfl
@[go_sem] theorem tfo_45_5:tfo Tryz.prog 45 5=some 5:=by kernel_rfl
@[go_sem] theorem tfo_45_6:tfo Tryz.prog 45 6=some 6:=by kernel_rfl
@[go_sem] theorem tfo_45_7:tfo Tryz.prog 45 7=some 7:=by kernel_rfl
@[go_sem] theorem tfo_45_8:tfo Tryz.prog 45 8=some 21:=by kernel_rfl
@[go_sem] theorem tfo_45_9:tfo Tryz.prog 45 9=some 22:=by kernel_rfl
@[go_sem] theorem tfo_45_10:tfo Tryz.prog 45 10=some 23:=by kernel_rfl
@[go_sem] theorem tfo_45_11:tfo Tryz.prog 45 11=some 24:=by kernel_rfl
@[go_sem] theorem tfo_45_12:tfo Tryz.prog 45 12=some 28:=by kernel_rfl
@[go_sem] theorem tfo_45_13:tfo Tryz.prog 45 13=some 29:=by kernel_rfl
@[go_sem] theorem tfo_45_14:tfo Tryz.prog 45 14=some 30:=by kernel_rfl
@[go_sem] theorem tfo_45_15:tfo Tryz.prog 45 15=some 31:=by kernel_rfl
@[go_sem] theorem tsz_48:tsz Tryz.prog 48=some 1:=by kernel_rfl
@[go_sem] theorem tagg_48:tagg Tryz.prog 48=some false:=by kernel_rfl
@[go_sem] theorem tse_48:tse Tryz.prog 48=some 50:=by kernel_rfl
@[go_sem] theorem tlit_48:tlit Tryz.prog 48=some ([Value.int IntKind.i64 0,Value.int IntKind.i64 0,Value.int IntKind.i64 0,Value.int IntKind.i64 0,Value.int IntKind.i64 0,Value.int IntKind.i64 0,Value.int IntKind.i64 0,Value.slice Option.none 0 0,Value.slice Option.none 0 0,Value.slice Option.none 0 0,Value.slice Option.none 0 0,Value.slice Option.none 0 0,Value.slice Option.none 0 0,Value.slice Option.none 0 0,Value.slice Option.none 0 0,Value.slice Option.none 0 0,Value.bool false,Value.slice Option.none 0 0,Value.int IntKind.i64 0,Value.int IntKind.i64 0,Value.slice Option.none 0 0,Value.slice Option.none 0 0,Value.slice Option.none 0 0,Value.bool false,Value.int IntKind.i64 0,Value.int IntKind.i64 0,Value.int IntKind.u8 0,Value.int IntKind.u8 0,Value.int IntKind.u8 0,Value.int IntKind.u8 0,Value.int IntKind.u8 0,Value.int IntKind.u8 0,Value.int IntKind.u8 0,Value.int IntKind.u8 0,Value.int IntKind.i64 0,Value.int IntKind.i64 0,Value.int IntKind.i64 0,Value.int IntKind.i64 0,Value.int IntKind.i64 0,Value.slice Option.none 0 0,Value.bool false,Value.slice Option.none 0 0,Value.int IntKind.u8 0,Value.int IntKind.u8 0,Value.int IntKind.u8 0,Value.int IntKind.u8 0,Value.int IntKind.i64 0,Value.slice Option.none 0 0,Value.slice Option.none 0 0,Value.slice Option.none 0 0],50):=by kernel_rfl
@[go_sem] theorem tapp_48:tapp Tryz.prog 48=some (50,608):=by kernel_rfl
@[go_sem] theorem tslice_48:tslice Tryz.prog 48=some 47:=by kernel_rfl
@[go_sem] theorem tsz_54:tsz Tryz.prog 54=some 1:=by kernel_rfl
@[go_sem] theorem tagg_54:tagg Tryz.prog 54=some true:=by kernel_rfl
@[go_sem] theorem tzero_54:tzero Tryz.prog 54=some [Value.slice Option.none 0 0]:=by kernel_rfl
@[go_sem] theorem tlay_54:tlay Tryz.prog 54=some (Lay.str [Value.slice Option.none 0 0]):=by kernel_rfl
@[go_sem] theorem tplaces_54_0:tplaces Tryz.prog 54 0=some (0,1):=by kernel_rfl
@[go_sem] theorem tfo_54_0:tfo Tryz.prog 54 0=some 0:=by kernel_rfl
@[go_sem] theorem tsz_111:tsz Tryz.prog 111=some 10:=by kernel_rfl
@[go_sem] theorem tagg_111:tagg Tryz.prog 111=some true:=by kernel_rfl
@[go_sem] theorem tzero_111:tzero Tryz.prog 111=some [Value.int IntKind.i64 0,Value.int IntKind.u8 0,Value.int IntKind.u8 0,Value.int IntKind.u8 0,Value.int IntKind.u8 0,Value.int IntKind.i64 0,Value.int IntKind.i64 0,Value.int IntKind.i64 0,Value.int IntKind.i64 0,Value.int IntKind.i64 0]:=by kernel_rfl
@[go_sem] theorem tlay_111:tlay Tryz.prog 111=some (Lay.str [Value.int IntKind.i64 0,Value.int IntKind.u8 0,Value.int IntKind.u8 0,Value.int IntKind.u8 0,Value.int IntKind.u8 0,Value.int IntKind.i64 0,Value.int IntKind.i64 0,Value.int IntKind.i64 0,Value.int IntKind.i64 0,Value.int IntKind.i64 0]):=by kernel_rfl
@[go_sem] theorem teq_111:teq Tryz.prog 111=some [Lf.i,Lf.i,Lf.i,Lf.i,Lf.i,Lf.i,Lf.i,Lf.i,Lf.i,Lf.i]:=by kernel_rfl
@[go_sem] theorem tplaces_111_0:tplaces Tryz.prog 111 0=some (0,1):=by kernel_rfl
@[go_sem] theorem tfo_111_0:tfo Tryz.prog 111 0=some 0:=by kernel_rfl
@[go_sem] theorem tplaces_111_1:tplaces Tryz.prog 111 1=some (1,4):=by kernel_rfl
@[go_sem] theorem tplaces_111_2:tplaces Tryz.prog 111 2=some (5,1):=by kernel_rfl
@[go_sem] theorem tfo_111_2:tfo Tryz.prog 111 2=some 5:=by kernel_rfl
@[go_sem] theorem tfo_111_3:tfo Tryz.prog 111 3=some 6:=by kernel_rfl
@[go_sem] theorem tse_138:tse Tryz.prog 138=some 1:=by kernel_rfl
@[go_sem] theorem tlit_138:tlit Tryz.prog 138=some ([Value.int IntKind.u8 0],1):=by kernel_rfl
@[go_sem] theorem tsz_4:tsz Tryz.prog 4=some 1:=by kernel_rfl
@[go_sem] theorem tagg_4:tagg Tryz.prog 4=some false:=by kernel_rfl
@[go_sem] theorem tbool_4:tbool Tryz.prog 4=true:=by kernel_rfl
@[go_sem] theorem tsz_25:tsz Tryz.prog 25=some 3:=by kernel_rfl
@[go_sem] theorem tagg_25:tagg Tryz.prog 25=some true:=by kernel_rfl
@[go_sem] theorem tzero_25:tzero Tryz.prog 25=some [Value.int IntKind.i64 0,Value.int IntKind.i64 0,Value.slice Option.none 0 0]:=by kernel_rfl
@[go_sem] theorem tlay_25:tlay Tryz.prog 25=some (Lay.str [Value.int IntKind.i64 0,Value.int IntKind.i64 0,Value.slice Option.none 0 0]):=by kernel_rfl
@[go_sem] theorem tplaces_25_0:tplaces Tryz.prog 25 0=some (0,1):=by kernel_rfl
@[go_sem] theorem tfo_25_0:tfo Tryz.prog 25 0=some 0:=by kernel_rfl
@[go_sem] theorem tplaces_25_1:tplaces Tryz.prog 25 1=some (1,1):=by kernel_rfl
@[go_sem] theorem tfo_25_1:tfo Tryz.prog 25 1=some 1:=by kernel_rfl
@[go_sem] theorem tplaces_25_2:tplaces Tryz.prog 25 2=some (2,1):=by kernel_rfl
@[go_sem] theorem tfo_25_2:tfo Tryz.prog 25 2=some 2:=by kernel_rfl
@[go_sem] theorem tsz_31:tsz Tryz.prog 31=some 1:=by kernel_rfl
@[go_sem] theorem tagg_31:tagg Tryz.prog 31=some false:=by kernel_rfl
@[go_sem] theorem tse_31:tse Tryz.prog 31=some 7:=by kernel_rfl
@[go_sem] theorem tlit_31:tlit Tryz.prog 31=some ([Value.int IntKind.i64 0,Value.int IntKind.i64 0,Value.int IntKind.i64 0,Value.int IntKind.i64 0,Value.int IntKind.i64 0,Value.int IntKind.i64 0,Value.int IntKind.i64 0],7):=by kernel_rfl
@[go_sem] theorem tapp_31:tapp Tryz.prog 31=some (7,56):=by kernel_rfl
@[go_sem] theorem tslice_31:tslice Tryz.prog 31=some 52:=by kernel_rfl
@[go_sem] theorem tsz_34:tsz Tryz.prog 34=some 2:=by kernel_rfl
@[go_sem] theorem tagg_34:tagg Tryz.prog 34=some true:=by kernel_rfl
@[go_sem] theorem tzero_34:tzero Tryz.prog 34=some [Value.bool false,Value.slice Option.none 0 0]:=by kernel_rfl
@[go_sem] theorem tlay_34:tlay Tryz.prog 34=some (Lay.str [Value.bool false,Value.slice Option.none 0 0]):=by kernel_rfl
@[go_sem] theorem tplaces_34_0:tplaces Tryz.prog 34 0=some (0,1):=by kernel_rfl
@[go_sem] theorem tfo_34_0:tfo Tryz.prog 34 0=some 0:=by kernel_rfl
@[go_sem] theorem tplaces_34_1:tplaces Tryz.prog 34 1=some (1,1):=by kernel_rfl
@[go_sem] theorem tfo_34_1:tfo Tryz.prog 34 1=some 1:=by kernel_rfl
@[go_sem] theorem tsz_37:tsz Tryz.prog 37=some 4:=by kernel_rfl
@[go_sem] theorem tagg_37:tagg Tryz.prog 37=some true:=by kernel_rfl
@[go_sem] theorem tzero_37:tzero Tryz.prog 37=some [Value.int IntKind.u8 0,Value.int IntKind.u8 0,Value.int IntKind.u8 0,Value.int IntKind.u8 0]:=by kernel_rfl
@[go_sem] theorem tlay_37:tlay Tryz.prog 37=some (Lay.arr [Value.int IntKind.u8 0,Value.int IntKind.u8 0,Value.int IntKind.u8 0,Value.int IntKind.u8 0] 1):=by kernel_rfl
@[go_sem] theorem teq_37:teq Tryz.prog 37=some [Lf.i,Lf.i,Lf.i,Lf.i]:=by kernel_rfl
@[go_sem] theorem tsz_43:tsz Tryz.prog 43=some 1:=by kernel_rfl
@[go_sem] theorem tagg_43:tagg Tryz.prog 43=some false:=by kernel_rfl
@[go_sem] theorem tse_43:tse Tryz.prog 43=some 1:=by kernel_rfl
@[go_sem] theorem tlit_43:tlit Tryz.prog 43=some ([Value.int IntKind.i64 0],1):=by kernel_rfl
@[go_sem] theorem tapp_43:tapp Tryz.prog 43=some (1,8):=by kernel_rfl
@[go_sem] theorem tslice_43:tslice Tryz.prog 43=some 2:=by kernel_rfl
@[go_sem] theorem tsz_52:tsz Tryz.prog 52=some 7:=by kernel_rfl
@[go_sem] theorem tagg_52:tagg Tryz.prog 52=some true:=by kernel_rfl
@[go_sem] theorem tzero_52:tzero Tryz.prog 52=some [Value.int IntKind.i64 0,Value.int IntKind.i64 0,Value.int IntKind.i64 0,Value.int IntKind.i64 0,Value.int IntKind.i64 0,Value.int IntKind.i64 0,Value.int IntKind.i64 0]:=by kernel_rfl
@[go_sem] theorem tlay_52:tlay Tryz.prog 52=some (Lay.str [Value.int IntKind.i64 0,Value.int IntKind.i64 0,Value.int IntKind.i64 0,Value.int IntKind.i64 0,Value.int IntKind.i64 0,Value.int IntKind.i64 0,Value.int IntKind.i64 0]):=by kernel_rfl
@[go_sem] theorem teq_52:teq Tryz.prog 52=some [Lf.i,Lf.i,Lf.i,Lf.i,Lf.i,Lf.i,Lf.i]:=by kernel_rfl
@[go_sem] theorem tplaces_52_0:tplaces Tryz.prog 52 0=some (0,1):=by kernel_rfl
@[go_sem] theorem tfo_52_0:tfo Tryz.prog 52 0=some 0:=by kernel_rfl
@[go_sem] theorem tplaces_52_1:tplaces Tryz.prog 52 1=some (1,1):=by kernel_rfl
@[go_sem] theorem tfo_52_1:tfo Tryz.prog 52 1=some 1:=by kernel_rfl
@[go_sem] theorem tplaces_52_2:tplaces Tryz.prog 52 2=some (2,1):=by kernel_rfl
@[go_sem] theorem tfo_52_2:tfo Tryz.prog 52 2=some 2:=by kernel_rfl
@[go_sem] theorem tfo_52_3:tfo Tryz.prog 52 3=some 3:=by kernel_rfl
@[go_sem] theorem tlay_70:tlay Tryz.prog 70=some (Lay.str [Value.slice Option.none 0 0,Value.int IntKind.i64 0]):=by kernel_rfl
@[go_sem] theorem tplaces_70_0:tplaces Tryz.prog 70 0=some (0,1):=by kernel_rfl
@[go_sem] theorem tfo_70_0:tfo Tryz.prog 70 0=some 0:=by kernel_rfl
@[go_sem] theorem tfo_70_1:tfo Tryz.prog 70 1=some 1:=by kernel_rfl
@[go_sem] theorem tse_97:tse Tryz.prog 97=some 1:=by kernel_rfl
@[go_sem] theorem tlit_97:tlit Tryz.prog 97=some ([Value.slice Option.none 0 0],1):=by kernel_rfl
@[go_sem] theorem tslice_97:tslice Tryz.prog 97=some 48:=by kernel_rfl
@[go_sem] theorem tsz_109:tsz Tryz.prog 109=some 8:=by kernel_rfl
@[go_sem] theorem tagg_109:tagg Tryz.prog 109=some true:=by kernel_rfl
@[go_sem] theorem tzero_109:tzero Tryz.prog 109=some [Value.int IntKind.i64 0,Value.bool false,Value.slice Option.none 0 0,Value.int IntKind.i64 0,Value.int IntKind.i64 0,Value.int IntKind.i64 0,Value.int IntKind.i64 0,Value.int IntKind.i64 0]:=by kernel_rfl
@[go_sem] theorem tlay_109:tlay Tryz.prog 109=some (Lay.str [Value.int IntKind.i64 0,Value.bool false,Value.slice Option.none 0 0,Value.int IntKind.i64 0,Value.int IntKind.i64 0,Value.int IntKind.i64 0,Value.int IntKind.i64 0,Value.int IntKind.i64 0]):=by kernel_rfl
@[go_sem] theorem tplaces_109_0:tplaces Tryz.prog 109 0=some (0,1):=by kernel_rfl
@[go_sem] theorem tfo_109_0:tfo Tryz.prog 109 0=some 0:=by kernel_rfl
@[go_sem] theorem tplaces_109_1:tplaces Tryz.prog 109 1=some (1,2):=by kernel_rfl
@[go_sem] theorem tfo_109_1:tfo Tryz.prog 109 1=some 1:=by kernel_rfl
@[go_sem] theorem tfo_109_2:tfo Tryz.prog 109 2=some 3:=by kernel_rfl
@[go_sem] theorem tfo_109_3:tfo Tryz.prog 109 3=some 4:=by kernel_rfl
@[go_sem] theorem tsz_118:tsz Tryz.prog 118=some 1:=by kernel_rfl
@[go_sem] theorem tagg_118:tagg Tryz.prog 118=some false:=by kernel_rfl
@[go_sem] theorem tsz_2:tsz Tryz.prog 2=some 1:=by kernel_rfl
@[go_sem] theorem tagg_2:tagg Tryz.prog 2=some false:=by kernel_rfl
@[go_sem] theorem tsz_5:tsz Tryz.prog 5=some 1:=by kernel_rfl
@[go_sem] theorem tagg_5:tagg Tryz.prog 5=some false:=by kernel_rfl
@[go_sem] theorem tkind_5:tkind Tryz.prog 5=some IntKind.u8:=by kernel_rfl
@[go_sem] theorem tsz_23:tsz Tryz.prog 23=some 1:=by kernel_rfl
@[go_sem] theorem tagg_23:tagg Tryz.prog 23=some false:=by kernel_rfl
@[go_sem] theorem tse_23:tse Tryz.prog 23=some 1:=by kernel_rfl
@[go_sem] theorem tlit_23:tlit Tryz.prog 23=some ([Value.slice Option.none 0 0],1):=by kernel_rfl
@[go_sem] theorem tapp_23:tapp Tryz.prog 23=some (1,24):=by kernel_rfl
@[go_sem] theorem tslice_23:tslice Tryz.prog 23=some 54:=by kernel_rfl
@[go_sem] theorem tse_29:tse Tryz.prog 29=some 1:=by kernel_rfl
@[go_sem] theorem tlit_29:tlit Tryz.prog 29=some ([Value.bool false],1):=by kernel_rfl
@[go_sem] theorem tslice_29:tslice Tryz.prog 29=some 4:=by kernel_rfl
@[go_sem] theorem tsz_32:tsz Tryz.prog 32=some 1:=by kernel_rfl
@[go_sem] theorem tagg_32:tagg Tryz.prog 32=some false:=by kernel_rfl
@[go_sem] theorem tse_32:tse Tryz.prog 32=some 2:=by kernel_rfl
@[go_sem] theorem tlit_32:tlit Tryz.prog 32=some ([Value.int IntKind.i64 0,Value.int IntKind.i64 0],2):=by kernel_rfl
@[go_sem] theorem tapp_32:tapp Tryz.prog 32=some (2,16):=by kernel_rfl
@[go_sem] theorem tslice_32:tslice Tryz.prog 32=some 39:=by kernel_rfl
@[go_sem] theorem tsz_35:tsz Tryz.prog 35=some 1:=by kernel_rfl
@[go_sem] theorem tagg_35:tagg Tryz.prog 35=some false:=by kernel_rfl
@[go_sem] theorem tse_35:tse Tryz.prog 35=some 8:=by kernel_rfl
@[go_sem] theorem tlit_35:tlit Tryz.prog 35=some ([Value.int IntKind.i64 0,Value.bool false,Value.slice Option.none 0 0,Value.int IntKind.i64 0,Value.int IntKind.i64 0,Value.int IntKind.i64 0,Value.int IntKind.i64 0,Value.int IntKind.i64 0],8):=by kernel_rfl
@[go_sem] theorem tapp_35:tapp Tryz.prog 35=some (8,80):=by kernel_rfl
@[go_sem] theorem tslice_35:tslice Tryz.prog 35=some 109:=by kernel_rfl
@[go_sem] theorem tsz_41:tsz Tryz.prog 41=some 14:=by kernel_rfl
@[go_sem] theorem tagg_41:tagg Tryz.prog 41=some true:=by kernel_rfl
@[go_sem] theorem tzero_41:tzero Tryz.prog 41=some [Value.int IntKind.i64 0,Value.int IntKind.u8 0,Value.int IntKind.u8 0,Value.int IntKind.u8 0,Value.int IntKind.u8 0,Value.int IntKind.u8 0,Value.int IntKind.u8 0,Value.int IntKind.u8 0,Value.int IntKind.u8 0,Value.int IntKind.i64 0,Value.int IntKind.i64 0,Value.int IntKind.i64 0,Value.int IntKind.i64 0,Value.int IntKind.i64 0]:=by kernel_rfl
@[go_sem] theorem tlay_41:tlay Tryz.prog 41=some (Lay.str [Value.int IntKind.i64 0,Value.int IntKind.u8 0,Value.int IntKind.u8 0,Value.int IntKind.u8 0,Value.int IntKind.u8 0,Value.int IntKind.u8 0,Value.int IntKind.u8 0,Value.int IntKind.u8 0,Value.int IntKind.u8 0,Value.int IntKind.i64 0,Value.int IntKind.i64 0,Value.int IntKind.i64 0,Value.int IntKind.i64 0,Value.int IntKind.i64 0]):=by kernel_rfl
@[go_sem] theorem teq_41:teq Tryz.prog 41=some [Lf.i,Lf.i,Lf.i,Lf.i,Lf.i,Lf.i,Lf.i,Lf.i,Lf.i,Lf.i,Lf.i,Lf.i,Lf.i,Lf.i]:=by kernel_rfl
@[go_sem] theorem tplaces_41_0:tplaces Tryz.prog 41 0=some (0,1):=by kernel_rfl
@[go_sem] theorem tfo_41_0:tfo Tryz.prog 41 0=some 0:=by kernel_rfl
@[go_sem] theorem tplaces_41_1:tplaces Tryz.prog 41 1=some (1,4):=by kernel_rfl
@[go_sem] theorem tplaces_41_2:tplaces Tryz.prog 41 2=some (5,4):=by kernel_rfl
@[go_sem] theorem tfo_41_3:tfo Tryz.prog 41 3=some 9:=by kernel_rfl
@[go_sem] theorem tfo_41_4:tfo Tryz.prog 41 4=some 11:=by kernel_rfl
@[go_sem] theorem tfo_41_5:tfo Tryz.prog 41 5=some 13:=by kernel_rfl
@[go_sem] theorem tsz_47:tsz Tryz.prog 47=some 50:=by kernel_rfl
@[go_sem] theorem tagg_47:tagg Tryz.prog 47=some true:=by kernel_rfl
@[go_sem] theorem tzero_47:tzero Tryz.prog 47=some [Value.int IntKind.i64 0,Value.int IntKind.i64 0,Value.int IntKind.i64 0,Value.int IntKind.i64 0,Value.int IntKind.i64 0,Value.int IntKind.i64 0,Value.int IntKind.i64 0,Value.slice Option.none 0 0,Value.slice Option.none 0 0,Value.slice Option.none 0 0,Value.slice Option.none 0 0,Value.slice Option.none 0 0,Value.slice Option.none 0 0,Value.slice Option.none 0 0,Value.slice Option.none 0 0,Value.slice Option.none 0 0,Value.bool false,Value.slice Option.none 0 0,Value.int IntKind.i64 0,Value.int IntKind.i64 0,Value.slice Option.none 0 0,Value.slice Option.none 0 0,Value.slice Option.none 0 0,Value.bool false,Value.int IntKind.i64 0,Value.int IntKind.i64 0,Value.int IntKind.u8 0,Value.int IntKind.u8 0,Value.int IntKind.u8 0,Value.int IntKind.u8 0,Value.int IntKind.u8 0,Value.int IntKind.u8 0,Value.int IntKind.u8 0,Value.int IntKind.u8 0,Value.int IntKind.i64 0,Value.int IntKind.i64 0,Value.int IntKind.i64 0,Value.int IntKind.i64 0,Value.int IntKind.i64 0,Value.slice Option.none 0 0,Value.bool false,Value.slice Option.none 0 0,Value.int IntKind.u8 0,Value.int IntKind.u8 0,Value.int IntKind.u8 0,Value.int IntKind.u8 0,Value.int IntKind.i64 0,Value.slice Option.none 0 0,Value.slice Option.none 0 0,Value.slice Option.none 0 0]:=by kernel_rfl
@[go_sem] theorem tlay_47:tlay Tryz.prog 47=some (Lay.str [Value.int IntKind.i64 0,Value.int IntKind.i64 0,Value.int IntKind.i64 0,Value.int IntKind.i64 0,Value.int IntKind.i64 0,Value.int IntKind.i64 0,Value.int IntKind.i64 0,Value.slice Option.none 0 0,Value.slice Option.none 0 0,Value.slice Option.none 0 0,Value.slice Option.none 0 0,Value.slice Option.none 0 0,Value.slice Option.none 0 0,Value.slice Option.none 0 0,Value.slice Option.none 0 0,Value.slice Option.none 0 0,Value.bool false,Value.slice Option.none 0 0,Value.int IntKind.i64 0,Value.int IntKind.i64 0,Value.slice Option.none 0 0,Value.slice Option.none 0 0,Value.slice Option.none 0 0,Value.bool false,Value.int IntKind.i64 0,Value.int IntKind.i64 0,Value.int IntKind.u8 0,Value.int IntKind.u8 0,Value.int IntKind.u8 0,Value.int IntKind.u8 0,Value.int IntKind.u8 0,Value.int IntKind.u8 0,Value.int IntKind.u8 0,Value.int IntKind.u8 0,Value.int IntKind.i64 0,Value.int IntKind.i64 0,Value.int IntKind.i64 0,Value.int IntKind.i64 0,Value.int IntKind.i64 0,Value.slice Option.none 0 0,Value.bool false,Value.slice Option.none 0 0,Value.int IntKind.u8 0,Value.int IntKind.u8 0,Value.int IntKind.u8 0,Value.int IntKind.u8 0,Value.int IntKind.i64 0,Value.slice Option.none 0 0,Value.slice Option.none 0 0,Value.slice Option.none 0 0]):=by kernel_rfl
@[go_sem] theorem tplaces_47_0:tplaces Tryz.prog 47 0=some (0,1):=by kernel_rfl
@[go_sem] theorem tfo_47_0:tfo Tryz.prog 47 0=some 0:=by kernel_rfl
@[go_sem] theorem tplaces_47_1:tplaces Tryz.prog 47 1=some (1,1):=by kernel_rfl
@[go_sem] theorem tfo_47_1:tfo Tryz.prog 47 1=some 1:=by kernel_rfl
@[go_sem] theorem tplaces_47_2:tplaces Tryz.prog 47 2=some (2,1):=by kernel_rfl
@[go_sem] theorem tfo_47_2:tfo Tryz.prog 47 2=some 2:=by kernel_rfl
@[go_sem] theorem tfo_47_3:tfo Tryz.prog 47 3=some 3:=by kernel_rfl
@[go_sem] theorem tplaces_47_4:tplaces Tryz.prog 47 4=some (4,1):=by kernel_rfl
@[go_sem] theorem tfo_47_4:tfo Tryz.prog 47 4=some 4:=by kernel_rfl
@[go_sem] theorem tplaces_47_5:tplaces Tryz.prog 47 5=some (5,1):=by kernel_rfl
@[go_sem] theorem tfo_47_5:tfo Tryz.prog 47 5=some 5:=by kernel_rfl
@[go_sem] theorem tplaces_47_6:tplaces Tryz.prog 47 6=some (6,1):=by kernel_rfl
@[go_sem] theorem tfo_47_6:tfo Tryz.prog 47 6=some 6:=by kernel_rfl
@[go_sem] theorem tfo_47_7:tfo Tryz.prog 47 7=some 7:=by kernel_rfl
@[go_sem] theorem tfo_47_8:tfo Tryz.prog 47 8=some 8:=by kernel_rfl
@[go_sem] theorem tfo_47_9:tfo Tryz.prog 47 9=some 9:=by kernel_rfl
@[go_sem] theorem tfo_47_10:tfo Tryz.prog 47 10=some 10:=by kernel_rfl
@[go_sem] theorem tfo_47_11:tfo Tryz.prog 47 11=some 11:=by kernel_rfl
@[go_sem] theorem tfo_47_12:tfo Tryz.prog 47 12=some 12:=by kernel_rfl
@[go_sem] theorem tfo_47_13:tfo Tryz.prog 47 13=some 13:=by kernel_rfl
@[go_sem] theorem tfo_47_14:tfo Tryz.prog 47 14=some 14:=by kernel_rfl
@[go_sem] theorem tfo_47_15:tfo Tryz.prog 47 15=some 15:=by kernel_rfl
@[go_sem] theorem tfo_47_16:tfo Tryz.prog 47 16=some 16:=by kernel_rfl
@[go_sem] theorem tfo_47_17:tfo Tryz.prog 47 17=some 18:=by kernel_rfl
@[go_sem] theorem tsz_50:tsz Tryz.prog 50=some 4:=by kernel_rfl
@[go_sem] theorem tagg_50:tagg Tryz.prog 50=some true:=by kernel_rfl
@[go_sem] theorem tzero_50:tzero Tryz.prog 50=some [Value.int IntKind.i64 0,Value.int IntKind.i64 0,Value.int IntKind.i64 0,Value.int IntKind.i64 0]:=by kernel_rfl
@[go_sem] theorem tlay_50:tlay Tryz.prog 50=some (Lay.str [Value.int IntKind.i64 0,Value.int IntKind.i64 0,Value.int IntKind.i64 0,Value.int IntKind.i64 0]):=by kernel_rfl
@[go_sem] theorem teq_50:teq Tryz.prog 50=some [Lf.i,Lf.i,Lf.i,Lf.i]:=by kernel_rfl
@[go_sem] theorem tplaces_50_0:tplaces Tryz.prog 50 0=some (0,1):=by kernel_rfl
@[go_sem] theorem tfo_50_0:tfo Tryz.prog 50 0=some 0:=by kernel_rfl
@[go_sem] theorem tplaces_50_1:tplaces Tryz.prog 50 1=some (1,1):=by kernel_rfl
@[go_sem] theorem tfo_50_1:tfo Tryz.prog 50 1=some 1:=by kernel_rfl
@[go_sem] theorem tplaces_50_2:tplaces Tryz.prog 50 2=some (2,1):=by kernel_rfl
@[go_sem] theorem tfo_50_2:tfo Tryz.prog 50 2=some 2:=by kernel_rfl
@[go_sem] theorem tplaces_50_3:tplaces Tryz.prog 50 3=some (3,1):=by kernel_rfl
@[go_sem] theorem tfo_50_3:tfo Tryz.prog 50 3=some 3:=by kernel_rfl
@[go_sem] theorem tse_86:tse Tryz.prog 86=some 1:=by kernel_rfl
@[go_sem] theorem tlit_86:tlit Tryz.prog 86=some ([Value.slice Option.none 0 0],1):=by kernel_rfl
@[go_sem] theorem tslice_86:tslice Tryz.prog 86=some 31:=by kernel_rfl
@[go_sem] theorem tse_119:tse Tryz.prog 119=some 1:=by kernel_rfl
@[go_sem] theorem tlit_119:tlit Tryz.prog 119=some ([Value.pointer Option.none],1):=by kernel_rfl
@[go_sem] theorem tslice_119:tslice Tryz.prog 119=some 118:=by kernel_rfl
end Go.Proofs.YthhbglkokpablaaGreat.Facts
/- Small things that all walks use: the numbers' kinds; a number held between two. -/
namespace Go.Proofs.YthhbglkokpablaaGreat
open Go Go.RowKit E
theorem hm:Tryz.prog.follows .mixedOrders=true:=by decide
theorem wi {n:Int} (h1 : -9223372036854775808≤n) (h2:n≤9223372036854775807):IntKind.i64.wrap n=n:=by rw[IntKind.wrap_i64];omega
theorem w8 {n:Int} (h1:0≤n) (h2:n≤255):IntKind.u8.wrap n=n:=by rw[IntKind.wrap_u8];omega
abbrev I64 (a:Int):Prop:=-9223372036854775808≤a∧a≤9223372036854775807
def clamp (a lo hi:Int):Int:=if a<lo then lo else if hi<a then hi else a
def hold (a:Int):Int:=clamp a (-1099511627776) 1099511627776
def place (a:Int):Int:=clamp a (-536870912) 536870912
def qadd (a b:Int):Int:=hold (hold a+hold b)
def qmul (a b:Int):Int:=hold ((hold a*hold b) / 65536)
def qdiv (a b:Int):Int:=if hold b=0 then 0 else hold (Int.fdiv (hold a*65536) (hold b))
/-- The greatest number whose square is at most another one, bit by bit. -/
def sqL:Nat→Nat→Nat→Nat
 | 0,_,r=>r
 | k+1,n,r=>sqL k n (if (r+2 ^ k)*(r+2 ^ k)≤n then r+2 ^ k else r)
def isq (n:Int):Int:=(sqL 32 n.toNat 0:Nat)
def root (a:Int):Int:=isq (clamp a 0 1099511627776*65536)
def hyp (x y:Int):Int:=isq (clamp x (-1073741824) 1073741824*clamp x (-1073741824) 1073741824+clamp y (-1073741824) 1073741824*clamp y (-1073741824) 1073741824)
def mid (a b t:Int):Int:=qadd (hold a) (qmul (qadd b (-(hold a))) t)
end Go.Proofs.YthhbglkokpablaaGreat
/- Bits: shifts, masks, numbers without sign. -/
namespace Go.Proofs.YthhbglkokpablaaGreat
open Go Go.RowKit E
theorem bt {a b:Int} (h:a=b):(a==b)=true:=by simp[h]
theorem bf {a b:Int} (h:¬ a=b):(a==b)=false:=by simp[h]
theorem nt {a b:Int} (h:a=b):(a != b)=false:=by simp[h]
theorem nf {a b:Int} (h:¬ a=b):(a != b)=true:=by simp[h]
theorem dt {p:Prop} [Decidable p] (h:p):decide p=true:=decide_eq_true h
theorem df {p:Prop} [Decidable p] (h:¬ p):decide p=false:=decide_eq_false h
end Go.Proofs.YthhbglkokpablaaGreat
/- Chapter 1: the walks of what holds, adds, multiplies. -/
namespace Go.Proofs.YthhbglkokpablaaGreat
open Go Go.RowKit E
attribute [local irreducible] XRun XOps XCode XCal XLoop XQ SemCall
set_option linter.unusedSimpArgs false
set_option linter.unusedVariables false
end Go.Proofs.YthhbglkokpablaaGreat
/- Chapter 1: the walks of quotients, roots, what lies between. -/
namespace Go.Proofs.YthhbglkokpablaaGreat
open Go Go.RowKit E
attribute [local irreducible] XRun XOps XCode XCal XLoop XQ SemCall
set_option linter.unusedSimpArgs false
set_option linter.unusedVariables false
theorem negdiv (a b:Int) (hb:0<b):(-a) / b=-(a / b) - (if a % b=0 then 0 else 1)∧(-a) % b=(if a % b=0 then 0 else b - a % b):=by
 have e:=Int.mul_ediv_add_emod a b
 have h1:=Int.emod_nonneg a (show b≠0 by omega)
 have h2:=Int.emod_lt_of_pos a hb
 refine(Int.ediv_emod_unique hb).2 ?_
 split
 ·rename_i h
  refine⟨?_,by omega,by omega⟩
  rw[Int.sub_zero,Int.mul_neg];omega
 ·refine⟨?_,by omega,by omega⟩
  rw[Int.mul_sub,Int.mul_neg,Int.mul_one];omega
/-- A quotient cut to nought and one rounded down, by signs. -/
theorem tdiv_pp {a b:Int} (ha:0≤a) (hb:0<b):a.tdiv b=a / b∧a.tmod b=a % b∧a.fdiv b=a / b:=
 ⟨Int.tdiv_eq_ediv_of_nonneg ha,Int.tmod_eq_emod_of_nonneg ha,Int.fdiv_eq_ediv_of_nonneg a (by omega)⟩
theorem tdiv_np {a b:Int} (ha:0≤a) (hb:0<b):(-a).tdiv b=-(a / b)∧(-a).tmod b=-(a % b)∧(-a).fdiv b=-(a / b) - (if a % b=0 then 0 else 1):=
 ⟨by rw[Int.neg_tdiv,Int.tdiv_eq_ediv_of_nonneg ha],by rw[Int.neg_tmod,Int.tmod_eq_emod_of_nonneg ha],by rw[Int.fdiv_eq_ediv_of_nonneg _ (by omega),(negdiv a b hb).1]⟩
end Go.Proofs.YthhbglkokpablaaGreat
