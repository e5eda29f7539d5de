/- Texts LgTy, N1, N2, N3, N4, N5, N6, N7, N8, N9, N10, N11, R1, R2, R3, R4 of this proof, joined. -/
import Derived.Test.YthpfpgfehmhpdaaGreatQK3
import Derived.Test.YthpfpgfehmhpdaaGreatChecked
set_option linter.unusedVariables false
set_option linter.unusedSimpArgs false
section
set_option linter.unusedVariables false
set_option linter.unusedSimpArgs false
set_option maxHeartbeats 8000000
set_option maxRecDepth 100000
namespace Go.Proofs.YthpfpgfehmhpdaaGreat
open Go.Lg
theorem fol:Tryz.prog.follows .mixedOrders=true:=by kernel_rfl
instance:UN Tryz.prog 2 (.int .i64):=⟨Tryz.underlying2⟩
theorem T2:TyIs Tryz.prog 2 1 false:=⟨by kernel_rfl,_,Tryz.underlying2,rfl⟩
theorem B2:TyBytes Tryz.prog 2 8:=⟨Tryz.t2,by kernel_rfl,rfl⟩
theorem Z2:ZeroOK Tryz.prog 2 (.v (.int .i64 0)):=⟨Tryz.t2,_,by kernel_rfl,rfl,rfl,fun _ _ _=>repV0 rfl⟩
instance:TI Tryz.prog 2 1 false:=⟨T2⟩
instance:BI Tryz.prog 2 8:=⟨B2⟩
instance:ZI Tryz.prog 2 (.v (.int .i64 0)):=⟨Z2⟩
instance:UN Tryz.prog 3 (.int .i64):=⟨Tryz.underlying3⟩
theorem T3:TyIs Tryz.prog 3 1 false:=⟨by kernel_rfl,_,Tryz.underlying3,rfl⟩
theorem B3:TyBytes Tryz.prog 3 8:=⟨Tryz.t3,by kernel_rfl,rfl⟩
theorem Z3:ZeroOK Tryz.prog 3 (.v (.int .i64 0)):=⟨Tryz.t3,_,by kernel_rfl,rfl,rfl,fun _ _ _=>repV0 rfl⟩
instance:TI Tryz.prog 3 1 false:=⟨T3⟩
instance:BI Tryz.prog 3 8:=⟨B3⟩
instance:ZI Tryz.prog 3 (.v (.int .i64 0)):=⟨Z3⟩
instance:UN Tryz.prog 4 .bool:=⟨Tryz.underlying4⟩
theorem T4:TyIs Tryz.prog 4 1 false:=⟨by kernel_rfl,_,Tryz.underlying4,rfl⟩
theorem B4:TyBytes Tryz.prog 4 1:=⟨Tryz.t4,by kernel_rfl,rfl⟩
theorem Z4:ZeroOK Tryz.prog 4 (.v (.bool false)):=⟨Tryz.t4,_,by kernel_rfl,rfl,rfl,fun _ _ _=>repV0 rfl⟩
instance:TI Tryz.prog 4 1 false:=⟨T4⟩
instance:BI Tryz.prog 4 1:=⟨B4⟩
instance:ZI Tryz.prog 4 (.v (.bool false)):=⟨Z4⟩
instance:UN Tryz.prog 5 (.int .u8):=⟨Tryz.underlying5⟩
theorem T5:TyIs Tryz.prog 5 1 false:=⟨by kernel_rfl,_,Tryz.underlying5,rfl⟩
theorem B5:TyBytes Tryz.prog 5 1:=⟨Tryz.t5,by kernel_rfl,rfl⟩
theorem Z5:ZeroOK Tryz.prog 5 (.v (.int .u8 0)):=⟨Tryz.t5,_,by kernel_rfl,rfl,rfl,fun _ _ _=>repV0 rfl⟩
instance:TI Tryz.prog 5 1 false:=⟨T5⟩
instance:BI Tryz.prog 5 1:=⟨B5⟩
instance:ZI Tryz.prog 5 (.v (.int .u8 0)):=⟨Z5⟩
instance:UN Tryz.prog 9 .string:=⟨Tryz.underlying9⟩
theorem T9:TyIs Tryz.prog 9 1 false:=⟨by kernel_rfl,_,Tryz.underlying9,rfl⟩
theorem B9:TyBytes Tryz.prog 9 16:=⟨Tryz.t9,by kernel_rfl,rfl⟩
theorem Z9:ZeroOK Tryz.prog 9 (.v (.string ⟨#[]⟩)):=⟨Tryz.t9,_,by kernel_rfl,rfl,rfl,fun _ _ _=>repV0 rfl⟩
instance:TI Tryz.prog 9 1 false:=⟨T9⟩
instance:BI Tryz.prog 9 16:=⟨B9⟩
instance:ZI Tryz.prog 9 (.v (.string ⟨#[]⟩)):=⟨Z9⟩
instance:UN Tryz.prog 12 (.int .u64):=⟨Tryz.underlying12⟩
theorem T12:TyIs Tryz.prog 12 1 false:=⟨by kernel_rfl,_,Tryz.underlying12,rfl⟩
theorem B12:TyBytes Tryz.prog 12 8:=⟨Tryz.t12,by kernel_rfl,rfl⟩
theorem Z12:ZeroOK Tryz.prog 12 (.v (.int .u64 0)):=⟨Tryz.t12,_,by kernel_rfl,rfl,rfl,fun _ _ _=>repV0 rfl⟩
instance:TI Tryz.prog 12 1 false:=⟨T12⟩
instance:BI Tryz.prog 12 8:=⟨B12⟩
instance:ZI Tryz.prog 12 (.v (.int .u64 0)):=⟨Z12⟩
theorem T15:TyIs Tryz.prog 15 1 false:=⟨by kernel_rfl,_,Tryz.underlying15,rfl⟩
theorem B15:TyBytes Tryz.prog 15 8:=⟨Tryz.t15,by kernel_rfl,rfl⟩
theorem Z15:ZeroOK Tryz.prog 15 (.v (.pointer none)):=⟨Tryz.t15,_,by kernel_rfl,rfl,rfl,fun _ _ _=>repV0 rfl⟩
instance:TI Tryz.prog 15 1 false:=⟨T15⟩
instance:BI Tryz.prog 15 8:=⟨B15⟩
instance:ZI Tryz.prog 15 (.v (.pointer none)):=⟨Z15⟩
theorem T16:TyIs Tryz.prog 16 1 false:=⟨by kernel_rfl,_,Tryz.underlying16,rfl⟩
theorem B16:TyBytes Tryz.prog 16 8:=⟨Tryz.t16,by kernel_rfl,rfl⟩
theorem Z16:ZeroOK Tryz.prog 16 (.v (.pointer none)):=⟨Tryz.t16,_,by kernel_rfl,rfl,rfl,fun _ _ _=>repV0 rfl⟩
instance:TI Tryz.prog 16 1 false:=⟨T16⟩
instance:BI Tryz.prog 16 8:=⟨B16⟩
instance:ZI Tryz.prog 16 (.v (.pointer none)):=⟨Z16⟩
theorem T17:TyIs Tryz.prog 17 1 false:=⟨by kernel_rfl,_,Tryz.underlying17,rfl⟩
theorem B17:TyBytes Tryz.prog 17 8:=⟨Tryz.t17,by kernel_rfl,rfl⟩
theorem Z17:ZeroOK Tryz.prog 17 (.v (.pointer none)):=⟨Tryz.t17,_,by kernel_rfl,rfl,rfl,fun _ _ _=>repV0 rfl⟩
instance:TI Tryz.prog 17 1 false:=⟨T17⟩
instance:BI Tryz.prog 17 8:=⟨B17⟩
instance:ZI Tryz.prog 17 (.v (.pointer none)):=⟨Z17⟩
theorem T19:TyIs Tryz.prog 19 1 true:=⟨by kernel_rfl,_,Tryz.underlying19,rfl⟩
theorem B19:TyBytes Tryz.prog 19 8:=⟨Tryz.t19,by kernel_rfl,rfl⟩
theorem Z19:ZeroOK Tryz.prog 19 (.agg [.v (.pointer none)]):=⟨Tryz.t19,_,by kernel_rfl,rfl,rfl,fun _ _ _=>repAgg0 (repFs1 (c1:=[.pointer none]) rfl (repV0 rfl) (repFs0))⟩
instance:TI Tryz.prog 19 1 true:=⟨T19⟩
instance:BI Tryz.prog 19 8:=⟨B19⟩
instance:ZI Tryz.prog 19 (.agg [.v (.pointer none)]):=⟨Z19⟩
theorem SL19:StructLay Tryz.prog 19 [(1,false)]:=⟨_,Tryz.underlying19,⟨rfl,T17,trivial⟩,by decide⟩
instance:SI Tryz.prog 19 [(1,false)]:=⟨SL19⟩
instance:UN Tryz.prog 21 (.int .i32):=⟨Tryz.underlying21⟩
theorem T21:TyIs Tryz.prog 21 1 false:=⟨by kernel_rfl,_,Tryz.underlying21,rfl⟩
theorem B21:TyBytes Tryz.prog 21 4:=⟨Tryz.t21,by kernel_rfl,rfl⟩
theorem Z21:ZeroOK Tryz.prog 21 (.v (.int .i32 0)):=⟨Tryz.t21,_,by kernel_rfl,rfl,rfl,fun _ _ _=>repV0 rfl⟩
instance:TI Tryz.prog 21 1 false:=⟨T21⟩
instance:BI Tryz.prog 21 4:=⟨B21⟩
instance:ZI Tryz.prog 21 (.v (.int .i32 0)):=⟨Z21⟩
instance:UN Tryz.prog 22 (.slice 3):=⟨Tryz.underlying22⟩
theorem T22:TyIs Tryz.prog 22 1 false:=⟨by kernel_rfl,_,Tryz.underlying22,rfl⟩
theorem B22:TyBytes Tryz.prog 22 24:=⟨Tryz.t22,by kernel_rfl,rfl⟩
theorem Z22:ZeroOK Tryz.prog 22 (.v (.slice none 0 0)):=⟨Tryz.t22,_,by kernel_rfl,rfl,rfl,fun _ _ _=>repV0 rfl⟩
instance:TI Tryz.prog 22 1 false:=⟨T22⟩
instance:BI Tryz.prog 22 24:=⟨B22⟩
instance:ZI Tryz.prog 22 (.v (.slice none 0 0)):=⟨Z22⟩
instance:UN Tryz.prog 23 (.array 4 3):=⟨Tryz.underlying23⟩
theorem T23:TyIs Tryz.prog 23 4 true:=⟨by kernel_rfl,_,Tryz.underlying23,rfl⟩
theorem B23:TyBytes Tryz.prog 23 32:=⟨Tryz.t23,by kernel_rfl,rfl⟩
theorem Z23:ZeroOK Tryz.prog 23 (.agg [.v (.int .i64 0),.v (.int .i64 0),.v (.int .i64 0),.v (.int .i64 0)]):=⟨Tryz.t23,_,by kernel_rfl,rfl,rfl,fun _ _ _=>repAgg0 (repFs1 (c1:=[.int .i64 0]) rfl (repV0 rfl) (repFs1 (c1:=[.int .i64 0]) rfl (repV0 rfl) (repFs1 (c1:=[.int .i64 0]) rfl (repV0 rfl) (repFs1 (c1:=[.int .i64 0]) rfl (repV0 rfl) (repFs0)))))⟩
instance:TI Tryz.prog 23 4 true:=⟨T23⟩
instance:BI Tryz.prog 23 32:=⟨B23⟩
instance:ZI Tryz.prog 23 (.agg [.v (.int .i64 0),.v (.int .i64 0),.v (.int .i64 0),.v (.int .i64 0)]):=⟨Z23⟩
instance:UN Tryz.prog 26 (.slice 32):=⟨Tryz.underlying26⟩
theorem T26:TyIs Tryz.prog 26 1 false:=⟨by kernel_rfl,_,Tryz.underlying26,rfl⟩
theorem B26:TyBytes Tryz.prog 26 24:=⟨Tryz.t26,by kernel_rfl,rfl⟩
theorem Z26:ZeroOK Tryz.prog 26 (.v (.slice none 0 0)):=⟨Tryz.t26,_,by kernel_rfl,rfl,rfl,fun _ _ _=>repV0 rfl⟩
instance:TI Tryz.prog 26 1 false:=⟨T26⟩
instance:BI Tryz.prog 26 24:=⟨B26⟩
instance:ZI Tryz.prog 26 (.v (.slice none 0 0)):=⟨Z26⟩
instance:UN Tryz.prog 27 (.slice 111):=⟨Tryz.underlying27⟩
theorem T27:TyIs Tryz.prog 27 1 false:=⟨by kernel_rfl,_,Tryz.underlying27,rfl⟩
theorem B27:TyBytes Tryz.prog 27 24:=⟨Tryz.t27,by kernel_rfl,rfl⟩
theorem Z27:ZeroOK Tryz.prog 27 (.v (.slice none 0 0)):=⟨Tryz.t27,_,by kernel_rfl,rfl,rfl,fun _ _ _=>repV0 rfl⟩
instance:TI Tryz.prog 27 1 false:=⟨T27⟩
instance:BI Tryz.prog 27 24:=⟨B27⟩
instance:ZI Tryz.prog 27 (.v (.slice none 0 0)):=⟨Z27⟩
theorem T29:TyIs Tryz.prog 29 5 true:=⟨by kernel_rfl,_,Tryz.underlying29,rfl⟩
theorem B29:TyBytes Tryz.prog 29 88:=⟨Tryz.t29,by kernel_rfl,rfl⟩
theorem Z29:ZeroOK Tryz.prog 29 (.agg [.v (.int .i64 0),.v (.int .i64 0),.v (.slice none 0 0),.v (.slice none 0 0),.v (.slice none 0 0)]):=⟨Tryz.t29,_,by kernel_rfl,rfl,rfl,fun _ _ _=>repAgg0 (repFs1 (c1:=[.int .i64 0]) rfl (repV0 rfl) (repFs1 (c1:=[.int .i64 0]) rfl (repV0 rfl) (repFs1 (c1:=[.slice none 0 0]) rfl (repV0 rfl) (repFs1 (c1:=[.slice none 0 0]) rfl (repV0 rfl) (repFs1 (c1:=[.slice none 0 0]) rfl (repV0 rfl) (repFs0))))))⟩
instance:TI Tryz.prog 29 5 true:=⟨T29⟩
instance:BI Tryz.prog 29 88:=⟨B29⟩
instance:ZI Tryz.prog 29 (.agg [.v (.int .i64 0),.v (.int .i64 0),.v (.slice none 0 0),.v (.slice none 0 0),.v (.slice none 0 0)]):=⟨Z29⟩
theorem SL29:StructLay Tryz.prog 29 [(1,false),(1,false),(1,false),(1,false),(1,false)]:=⟨_,Tryz.underlying29,⟨rfl,T3,⟨rfl,T3,⟨rfl,T26,⟨rfl,T26,⟨rfl,T27,trivial⟩⟩⟩⟩⟩,by decide⟩
instance:SI Tryz.prog 29 [(1,false),(1,false),(1,false),(1,false),(1,false)]:=⟨SL29⟩
instance:UN Tryz.prog 30 (.slice 181):=⟨Tryz.underlying30⟩
theorem T30:TyIs Tryz.prog 30 1 false:=⟨by kernel_rfl,_,Tryz.underlying30,rfl⟩
theorem B30:TyBytes Tryz.prog 30 24:=⟨Tryz.t30,by kernel_rfl,rfl⟩
theorem Z30:ZeroOK Tryz.prog 30 (.list 1 []):=⟨Tryz.t30,_,by kernel_rfl,rfl,rfl,fun _ _ _=>repNil0 1⟩
instance:TI Tryz.prog 30 1 false:=⟨T30⟩
instance:BI Tryz.prog 30 24:=⟨B30⟩
instance:ZI Tryz.prog 30 (.list 1 []):=⟨Z30⟩
theorem T32:TyIs Tryz.prog 32 3 true:=⟨by kernel_rfl,_,Tryz.underlying32,rfl⟩
theorem B32:TyBytes Tryz.prog 32 56:=⟨Tryz.t32,by kernel_rfl,rfl⟩
theorem Z32:ZeroOK Tryz.prog 32 (ratL 0):=⟨Tryz.t32,_,by kernel_rfl,rfl,ratE.pure 0,fun _ _ _=>repRat0⟩
theorem Z32a:ZeroOK Tryz.prog 32 (.agg [.v (.bool false),.list 1 [],.list 1 []]):=ratL_zero ▸ Z32
instance:TI Tryz.prog 32 3 true:=⟨T32⟩
instance:BI Tryz.prog 32 56:=⟨B32⟩
instance:ZI Tryz.prog 32 (.agg [.v (.bool false),.list 1 [],.list 1 []]):=⟨Z32a⟩
theorem SL32:StructLay Tryz.prog 32 [(1,false),(1,false),(1,false)]:=⟨_,Tryz.underlying32,⟨rfl,T4,⟨rfl,T30,⟨rfl,T30,trivial⟩⟩⟩,by decide⟩
instance:SI Tryz.prog 32 [(1,false),(1,false),(1,false)]:=⟨SL32⟩
instance:UN Tryz.prog 33 (.array 4 32):=⟨Tryz.underlying33⟩
theorem T33:TyIs Tryz.prog 33 12 true:=⟨by kernel_rfl,_,Tryz.underlying33,rfl⟩
theorem B33:TyBytes Tryz.prog 33 224:=⟨Tryz.t33,by kernel_rfl,rfl⟩
theorem Z33:ZeroOK Tryz.prog 33 (.agg [ratL 0,ratL 0,ratL 0,ratL 0]):=⟨Tryz.t33,_,by kernel_rfl,rfl,by simp [LV.pure,pures,ratE.pure],fun _ _ _=>repAgg0 (repFs1 (c1:=[.bool false,.slice none 0 0,.slice none 0 0]) (by simp [LV.csize,csizes,ratE.csize]) (repRat0) (repFs1 (c1:=[.bool false,.slice none 0 0,.slice none 0 0]) (by simp [LV.csize,csizes,ratE.csize]) (repRat0) (repFs1 (c1:=[.bool false,.slice none 0 0,.slice none 0 0]) (by simp [LV.csize,csizes,ratE.csize]) (repRat0) (repFs1 (c1:=[.bool false,.slice none 0 0,.slice none 0 0]) (by simp [LV.csize,csizes,ratE.csize]) (repRat0) (repFs0)))))⟩
instance:TI Tryz.prog 33 12 true:=⟨T33⟩
instance:BI Tryz.prog 33 224:=⟨B33⟩
instance:ZI Tryz.prog 33 (.agg [ratL 0,ratL 0,ratL 0,ratL 0]):=⟨Z33⟩
theorem T38:TyIs Tryz.prog 38 5 true:=⟨by kernel_rfl,_,Tryz.underlying38,rfl⟩
theorem B38:TyBytes Tryz.prog 38 72:=⟨Tryz.t38,by kernel_rfl,rfl⟩
theorem Z38:ZeroOK Tryz.prog 38 (.agg [.v (.int .i64 0),.v (.int .i64 0),ratL 0]):=⟨Tryz.t38,_,by kernel_rfl,rfl,by simp [LV.pure,pures,ratE.pure],fun _ _ _=>repAgg0 (repFs1 (c1:=[.int .i64 0]) rfl (repV0 rfl) (repFs1 (c1:=[.int .i64 0]) rfl (repV0 rfl) (repFs1 (c1:=[.bool false,.slice none 0 0,.slice none 0 0]) (by simp [LV.csize,csizes,ratE.csize]) (repRat0) (repFs0))))⟩
instance:TI Tryz.prog 38 5 true:=⟨T38⟩
instance:BI Tryz.prog 38 72:=⟨B38⟩
instance:ZI Tryz.prog 38 (.agg [.v (.int .i64 0),.v (.int .i64 0),ratL 0]):=⟨Z38⟩
theorem SL38:StructLay Tryz.prog 38 [(1,false),(1,false),(3,true)]:=⟨_,Tryz.underlying38,⟨rfl,T3,⟨rfl,T3,⟨rfl,T32,trivial⟩⟩⟩,by decide⟩
instance:SI Tryz.prog 38 [(1,false),(1,false),(3,true)]:=⟨SL38⟩
instance:UN Tryz.prog 40 (.slice 48):=⟨Tryz.underlying40⟩
theorem T40:TyIs Tryz.prog 40 1 false:=⟨by kernel_rfl,_,Tryz.underlying40,rfl⟩
theorem B40:TyBytes Tryz.prog 40 24:=⟨Tryz.t40,by kernel_rfl,rfl⟩
theorem Z40:ZeroOK Tryz.prog 40 (.v (.slice none 0 0)):=⟨Tryz.t40,_,by kernel_rfl,rfl,rfl,fun _ _ _=>repV0 rfl⟩
instance:TI Tryz.prog 40 1 false:=⟨T40⟩
instance:BI Tryz.prog 40 24:=⟨B40⟩
instance:ZI Tryz.prog 40 (.v (.slice none 0 0)):=⟨Z40⟩
instance:UN Tryz.prog 41 (.int .i64):=⟨Tryz.underlying41⟩
theorem T41:TyIs Tryz.prog 41 1 false:=⟨by kernel_rfl,_,Tryz.underlying41,rfl⟩
theorem B41:TyBytes Tryz.prog 41 8:=⟨Tryz.t41,by kernel_rfl,rfl⟩
theorem Z41:ZeroOK Tryz.prog 41 (.v (.int .i64 0)):=⟨Tryz.t41,_,by kernel_rfl,rfl,rfl,fun _ _ _=>repV0 rfl⟩
instance:TI Tryz.prog 41 1 false:=⟨T41⟩
instance:BI Tryz.prog 41 8:=⟨B41⟩
instance:ZI Tryz.prog 41 (.v (.int .i64 0)):=⟨Z41⟩
instance:UN Tryz.prog 46 (.slice 50):=⟨Tryz.underlying46⟩
theorem T46:TyIs Tryz.prog 46 1 false:=⟨by kernel_rfl,_,Tryz.underlying46,rfl⟩
theorem B46:TyBytes Tryz.prog 46 24:=⟨Tryz.t46,by kernel_rfl,rfl⟩
theorem Z46:ZeroOK Tryz.prog 46 (.v (.slice none 0 0)):=⟨Tryz.t46,_,by kernel_rfl,rfl,rfl,fun _ _ _=>repV0 rfl⟩
instance:TI Tryz.prog 46 1 false:=⟨T46⟩
instance:BI Tryz.prog 46 24:=⟨B46⟩
instance:ZI Tryz.prog 46 (.v (.slice none 0 0)):=⟨Z46⟩
theorem T48:TyIs Tryz.prog 48 4 true:=⟨by kernel_rfl,_,Tryz.underlying48,rfl⟩
theorem B48:TyBytes Tryz.prog 48 64:=⟨Tryz.t48,by kernel_rfl,rfl⟩
theorem Z48:ZeroOK Tryz.prog 48 (.agg [.v (.slice none 0 0),.v (.slice none 0 0),.v (.int .i64 0),.v (.int .i64 0)]):=⟨Tryz.t48,_,by kernel_rfl,rfl,rfl,fun _ _ _=>repAgg0 (repFs1 (c1:=[.slice none 0 0]) rfl (repV0 rfl) (repFs1 (c1:=[.slice none 0 0]) rfl (repV0 rfl) (repFs1 (c1:=[.int .i64 0]) rfl (repV0 rfl) (repFs1 (c1:=[.int .i64 0]) rfl (repV0 rfl) (repFs0)))))⟩
instance:TI Tryz.prog 48 4 true:=⟨T48⟩
instance:BI Tryz.prog 48 64:=⟨B48⟩
instance:ZI Tryz.prog 48 (.agg [.v (.slice none 0 0),.v (.slice none 0 0),.v (.int .i64 0),.v (.int .i64 0)]):=⟨Z48⟩
theorem SL48:StructLay Tryz.prog 48 [(1,false),(1,false),(1,false),(1,false)]:=⟨_,Tryz.underlying48,⟨rfl,T46,⟨rfl,T46,⟨rfl,T3,⟨rfl,T3,trivial⟩⟩⟩⟩,by decide⟩
instance:SI Tryz.prog 48 [(1,false),(1,false),(1,false),(1,false)]:=⟨SL48⟩
theorem T50:TyIs Tryz.prog 50 6 true:=⟨by kernel_rfl,_,Tryz.underlying50,rfl⟩
theorem B50:TyBytes Tryz.prog 50 112:=⟨Tryz.t50,by kernel_rfl,rfl⟩
theorem Z50:ZeroOK Tryz.prog 50 (.agg [ratL 0,ratL 0]):=⟨Tryz.t50,_,by kernel_rfl,rfl,by simp [LV.pure,pures,ratE.pure],fun _ _ _=>repAgg0 (repFs1 (c1:=[.bool false,.slice none 0 0,.slice none 0 0]) (by simp [LV.csize,csizes,ratE.csize]) (repRat0) (repFs1 (c1:=[.bool false,.slice none 0 0,.slice none 0 0]) (by simp [LV.csize,csizes,ratE.csize]) (repRat0) (repFs0)))⟩
instance:TI Tryz.prog 50 6 true:=⟨T50⟩
instance:BI Tryz.prog 50 112:=⟨B50⟩
instance:ZI Tryz.prog 50 (.agg [ratL 0,ratL 0]):=⟨Z50⟩
theorem SL50:StructLay Tryz.prog 50 [(3,true),(3,true)]:=⟨_,Tryz.underlying50,⟨rfl,T32,⟨rfl,T32,trivial⟩⟩,by decide⟩
instance:SI Tryz.prog 50 [(3,true),(3,true)]:=⟨SL50⟩
instance:UN Tryz.prog 51 (.array 4 50):=⟨Tryz.underlying51⟩
theorem T51:TyIs Tryz.prog 51 24 true:=⟨by kernel_rfl,_,Tryz.underlying51,rfl⟩
theorem B51:TyBytes Tryz.prog 51 448:=⟨Tryz.t51,by kernel_rfl,rfl⟩
theorem Z51:ZeroOK Tryz.prog 51 (.agg [.agg [ratL 0,ratL 0],.agg [ratL 0,ratL 0],.agg [ratL 0,ratL 0],.agg [ratL 0,ratL 0]]):=⟨Tryz.t51,_,by kernel_rfl,rfl,by simp [LV.pure,pures,ratE.pure],fun _ _ _=>repAgg0 (repFs1 (c1:=[.bool false,.slice none 0 0,.slice none 0 0,.bool false,.slice none 0 0,.slice none 0 0]) (by simp [LV.csize,csizes,ratE.csize]) (repAgg0 (repFs1 (c1:=[.bool false,.slice none 0 0,.slice none 0 0]) (by simp [LV.csize,csizes,ratE.csize]) (repRat0) (repFs1 (c1:=[.bool false,.slice none 0 0,.slice none 0 0]) (by simp [LV.csize,csizes,ratE.csize]) (repRat0) (repFs0)))) (repFs1 (c1:=[.bool false,.slice none 0 0,.slice none 0 0,.bool false,.slice none 0 0,.slice none 0 0]) (by simp [LV.csize,csizes,ratE.csize]) (repAgg0 (repFs1 (c1:=[.bool false,.slice none 0 0,.slice none 0 0]) (by simp [LV.csize,csizes,ratE.csize]) (repRat0) (repFs1 (c1:=[.bool false,.slice none 0 0,.slice none 0 0]) (by simp [LV.csize,csizes,ratE.csize]) (repRat0) (repFs0)))) (repFs1 (c1:=[.bool false,.slice none 0 0,.slice none 0 0,.bool false,.slice none 0 0,.slice none 0 0]) (by simp [LV.csize,csizes,ratE.csize]) (repAgg0 (repFs1 (c1:=[.bool false,.slice none 0 0,.slice none 0 0]) (by simp [LV.csize,csizes,ratE.csize]) (repRat0) (repFs1 (c1:=[.bool false,.slice none 0 0,.slice none 0 0]) (by simp [LV.csize,csizes,ratE.csize]) (repRat0) (repFs0)))) (repFs1 (c1:=[.bool false,.slice none 0 0,.slice none 0 0,.bool false,.slice none 0 0,.slice none 0 0]) (by simp [LV.csize,csizes,ratE.csize]) (repAgg0 (repFs1 (c1:=[.bool false,.slice none 0 0,.slice none 0 0]) (by simp [LV.csize,csizes,ratE.csize]) (repRat0) (repFs1 (c1:=[.bool false,.slice none 0 0,.slice none 0 0]) (by simp [LV.csize,csizes,ratE.csize]) (repRat0) (repFs0)))) (repFs0)))))⟩
instance:TI Tryz.prog 51 24 true:=⟨T51⟩
instance:BI Tryz.prog 51 448:=⟨B51⟩
instance:ZI Tryz.prog 51 (.agg [.agg [ratL 0,ratL 0],.agg [ratL 0,ratL 0],.agg [ratL 0,ratL 0],.agg [ratL 0,ratL 0]]):=⟨Z51⟩
instance:UN Tryz.prog 55 (.array 3 32):=⟨Tryz.underlying55⟩
theorem T55:TyIs Tryz.prog 55 9 true:=⟨by kernel_rfl,_,Tryz.underlying55,rfl⟩
theorem B55:TyBytes Tryz.prog 55 168:=⟨Tryz.t55,by kernel_rfl,rfl⟩
theorem Z55:ZeroOK Tryz.prog 55 (.agg [ratL 0,ratL 0,ratL 0]):=⟨Tryz.t55,_,by kernel_rfl,rfl,by simp [LV.pure,pures,ratE.pure],fun _ _ _=>repAgg0 (repFs1 (c1:=[.bool false,.slice none 0 0,.slice none 0 0]) (by simp [LV.csize,csizes,ratE.csize]) (repRat0) (repFs1 (c1:=[.bool false,.slice none 0 0,.slice none 0 0]) (by simp [LV.csize,csizes,ratE.csize]) (repRat0) (repFs1 (c1:=[.bool false,.slice none 0 0,.slice none 0 0]) (by simp [LV.csize,csizes,ratE.csize]) (repRat0) (repFs0))))⟩
instance:TI Tryz.prog 55 9 true:=⟨T55⟩
instance:BI Tryz.prog 55 168:=⟨B55⟩
instance:ZI Tryz.prog 55 (.agg [ratL 0,ratL 0,ratL 0]):=⟨Z55⟩
instance:UN Tryz.prog 56 (.array 3 32):=⟨Tryz.underlying56⟩
theorem T56:TyIs Tryz.prog 56 9 true:=⟨by kernel_rfl,_,Tryz.underlying56,rfl⟩
theorem B56:TyBytes Tryz.prog 56 168:=⟨Tryz.t56,by kernel_rfl,rfl⟩
theorem Z56:ZeroOK Tryz.prog 56 (.agg [ratL 0,ratL 0,ratL 0]):=⟨Tryz.t56,_,by kernel_rfl,rfl,by simp [LV.pure,pures,ratE.pure],fun _ _ _=>repAgg0 (repFs1 (c1:=[.bool false,.slice none 0 0,.slice none 0 0]) (by simp [LV.csize,csizes,ratE.csize]) (repRat0) (repFs1 (c1:=[.bool false,.slice none 0 0,.slice none 0 0]) (by simp [LV.csize,csizes,ratE.csize]) (repRat0) (repFs1 (c1:=[.bool false,.slice none 0 0,.slice none 0 0]) (by simp [LV.csize,csizes,ratE.csize]) (repRat0) (repFs0))))⟩
instance:TI Tryz.prog 56 9 true:=⟨T56⟩
instance:BI Tryz.prog 56 168:=⟨B56⟩
instance:ZI Tryz.prog 56 (.agg [ratL 0,ratL 0,ratL 0]):=⟨Z56⟩
theorem T67:TyIs Tryz.prog 67 1 false:=⟨by kernel_rfl,_,Tryz.underlying67,rfl⟩
theorem B67:TyBytes Tryz.prog 67 8:=⟨Tryz.t67,by kernel_rfl,rfl⟩
theorem Z67:ZeroOK Tryz.prog 67 (.v (.pointer none)):=⟨Tryz.t67,_,by kernel_rfl,rfl,rfl,fun _ _ _=>repV0 rfl⟩
instance:TI Tryz.prog 67 1 false:=⟨T67⟩
instance:BI Tryz.prog 67 8:=⟨B67⟩
instance:ZI Tryz.prog 67 (.v (.pointer none)):=⟨Z67⟩
instance:UN Tryz.prog 73 (.array 3 56):=⟨Tryz.underlying73⟩
theorem T73:TyIs Tryz.prog 73 27 true:=⟨by kernel_rfl,_,Tryz.underlying73,rfl⟩
theorem B73:TyBytes Tryz.prog 73 504:=⟨Tryz.t73,by kernel_rfl,rfl⟩
theorem Z73:ZeroOK Tryz.prog 73 (.agg [.agg [ratL 0,ratL 0,ratL 0],.agg [ratL 0,ratL 0,ratL 0],.agg [ratL 0,ratL 0,ratL 0]]):=⟨Tryz.t73,_,by kernel_rfl,rfl,by simp [LV.pure,pures,ratE.pure],fun _ _ _=>repAgg0 (repFs1 (c1:=[.bool false,.slice none 0 0,.slice none 0 0,.bool false,.slice none 0 0,.slice none 0 0,.bool false,.slice none 0 0,.slice none 0 0]) (by simp [LV.csize,csizes,ratE.csize]) (repAgg0 (repFs1 (c1:=[.bool false,.slice none 0 0,.slice none 0 0]) (by simp [LV.csize,csizes,ratE.csize]) (repRat0) (repFs1 (c1:=[.bool false,.slice none 0 0,.slice none 0 0]) (by simp [LV.csize,csizes,ratE.csize]) (repRat0) (repFs1 (c1:=[.bool false,.slice none 0 0,.slice none 0 0]) (by simp [LV.csize,csizes,ratE.csize]) (repRat0) (repFs0))))) (repFs1 (c1:=[.bool false,.slice none 0 0,.slice none 0 0,.bool false,.slice none 0 0,.slice none 0 0,.bool false,.slice none 0 0,.slice none 0 0]) (by simp [LV.csize,csizes,ratE.csize]) (repAgg0 (repFs1 (c1:=[.bool false,.slice none 0 0,.slice none 0 0]) (by simp [LV.csize,csizes,ratE.csize]) (repRat0) (repFs1 (c1:=[.bool false,.slice none 0 0,.slice none 0 0]) (by simp [LV.csize,csizes,ratE.csize]) (repRat0) (repFs1 (c1:=[.bool false,.slice none 0 0,.slice none 0 0]) (by simp [LV.csize,csizes,ratE.csize]) (repRat0) (repFs0))))) (repFs1 (c1:=[.bool false,.slice none 0 0,.slice none 0 0,.bool false,.slice none 0 0,.slice none 0 0,.bool false,.slice none 0 0,.slice none 0 0]) (by simp [LV.csize,csizes,ratE.csize]) (repAgg0 (repFs1 (c1:=[.bool false,.slice none 0 0,.slice none 0 0]) (by simp [LV.csize,csizes,ratE.csize]) (repRat0) (repFs1 (c1:=[.bool false,.slice none 0 0,.slice none 0 0]) (by simp [LV.csize,csizes,ratE.csize]) (repRat0) (repFs1 (c1:=[.bool false,.slice none 0 0,.slice none 0 0]) (by simp [LV.csize,csizes,ratE.csize]) (repRat0) (repFs0))))) (repFs0))))⟩
instance:TI Tryz.prog 73 27 true:=⟨T73⟩
instance:BI Tryz.prog 73 504:=⟨B73⟩
instance:ZI Tryz.prog 73 (.agg [.agg [ratL 0,ratL 0,ratL 0],.agg [ratL 0,ratL 0,ratL 0],.agg [ratL 0,ratL 0,ratL 0]]):=⟨Z73⟩
theorem T75:TyIs Tryz.prog 75 36 true:=⟨by kernel_rfl,_,Tryz.underlying75,rfl⟩
theorem B75:TyBytes Tryz.prog 75 672:=⟨Tryz.t75,by kernel_rfl,rfl⟩
theorem Z75:ZeroOK Tryz.prog 75 (.agg [.agg [.agg [ratL 0,ratL 0,ratL 0],.agg [ratL 0,ratL 0,ratL 0],.agg [ratL 0,ratL 0,ratL 0]],.agg [ratL 0,ratL 0,ratL 0]]):=⟨Tryz.t75,_,by kernel_rfl,rfl,by simp [LV.pure,pures,ratE.pure],fun _ _ _=>repAgg0 (repFs1 (c1:=[.bool false,.slice none 0 0,.slice none 0 0,.bool false,.slice none 0 0,.slice none 0 0,.bool false,.slice none 0 0,.slice none 0 0,.bool false,.slice none 0 0,.slice none 0 0,.bool false,.slice none 0 0,.slice none 0 0,.bool false,.slice none 0 0,.slice none 0 0,.bool false,.slice none 0 0,.slice none 0 0,.bool false,.slice none 0 0,.slice none 0 0,.bool false,.slice none 0 0,.slice none 0 0]) (by simp [LV.csize,csizes,ratE.csize]) (repAgg0 (repFs1 (c1:=[.bool false,.slice none 0 0,.slice none 0 0,.bool false,.slice none 0 0,.slice none 0 0,.bool false,.slice none 0 0,.slice none 0 0]) (by simp [LV.csize,csizes,ratE.csize]) (repAgg0 (repFs1 (c1:=[.bool false,.slice none 0 0,.slice none 0 0]) (by simp [LV.csize,csizes,ratE.csize]) (repRat0) (repFs1 (c1:=[.bool false,.slice none 0 0,.slice none 0 0]) (by simp [LV.csize,csizes,ratE.csize]) (repRat0) (repFs1 (c1:=[.bool false,.slice none 0 0,.slice none 0 0]) (by simp [LV.csize,csizes,ratE.csize]) (repRat0) (repFs0))))) (repFs1 (c1:=[.bool false,.slice none 0 0,.slice none 0 0,.bool false,.slice none 0 0,.slice none 0 0,.bool false,.slice none 0 0,.slice none 0 0]) (by simp [LV.csize,csizes,ratE.csize]) (repAgg0 (repFs1 (c1:=[.bool false,.slice none 0 0,.slice none 0 0]) (by simp [LV.csize,csizes,ratE.csize]) (repRat0) (repFs1 (c1:=[.bool false,.slice none 0 0,.slice none 0 0]) (by simp [LV.csize,csizes,ratE.csize]) (repRat0) (repFs1 (c1:=[.bool false,.slice none 0 0,.slice none 0 0]) (by simp [LV.csize,csizes,ratE.csize]) (repRat0) (repFs0))))) (repFs1 (c1:=[.bool false,.slice none 0 0,.slice none 0 0,.bool false,.slice none 0 0,.slice none 0 0,.bool false,.slice none 0 0,.slice none 0 0]) (by simp [LV.csize,csizes,ratE.csize]) (repAgg0 (repFs1 (c1:=[.bool false,.slice none 0 0,.slice none 0 0]) (by simp [LV.csize,csizes,ratE.csize]) (repRat0) (repFs1 (c1:=[.bool false,.slice none 0 0,.slice none 0 0]) (by simp [LV.csize,csizes,ratE.csize]) (repRat0) (repFs1 (c1:=[.bool false,.slice none 0 0,.slice none 0 0]) (by simp [LV.csize,csizes,ratE.csize]) (repRat0) (repFs0))))) (repFs0))))) (repFs1 (c1:=[.bool false,.slice none 0 0,.slice none 0 0,.bool false,.slice none 0 0,.slice none 0 0,.bool false,.slice none 0 0,.slice none 0 0]) (by simp [LV.csize,csizes,ratE.csize]) (repAgg0 (repFs1 (c1:=[.bool false,.slice none 0 0,.slice none 0 0]) (by simp [LV.csize,csizes,ratE.csize]) (repRat0) (repFs1 (c1:=[.bool false,.slice none 0 0,.slice none 0 0]) (by simp [LV.csize,csizes,ratE.csize]) (repRat0) (repFs1 (c1:=[.bool false,.slice none 0 0,.slice none 0 0]) (by simp [LV.csize,csizes,ratE.csize]) (repRat0) (repFs0))))) (repFs0)))⟩
instance:TI Tryz.prog 75 36 true:=⟨T75⟩
instance:BI Tryz.prog 75 672:=⟨B75⟩
instance:ZI Tryz.prog 75 (.agg [.agg [.agg [ratL 0,ratL 0,ratL 0],.agg [ratL 0,ratL 0,ratL 0],.agg [ratL 0,ratL 0,ratL 0]],.agg [ratL 0,ratL 0,ratL 0]]):=⟨Z75⟩
theorem SL75:StructLay Tryz.prog 75 [(27,true),(9,true)]:=⟨_,Tryz.underlying75,⟨rfl,T73,⟨rfl,T56,trivial⟩⟩,by decide⟩
instance:SI Tryz.prog 75 [(27,true),(9,true)]:=⟨SL75⟩
theorem T80:TyIs Tryz.prog 80 1 false:=⟨by kernel_rfl,_,Tryz.underlying80,rfl⟩
theorem B80:TyBytes Tryz.prog 80 8:=⟨Tryz.t80,by kernel_rfl,rfl⟩
theorem Z80:ZeroOK Tryz.prog 80 (.v (.pointer none)):=⟨Tryz.t80,_,by kernel_rfl,rfl,rfl,fun _ _ _=>repV0 rfl⟩
instance:TI Tryz.prog 80 1 false:=⟨T80⟩
instance:BI Tryz.prog 80 8:=⟨B80⟩
instance:ZI Tryz.prog 80 (.v (.pointer none)):=⟨Z80⟩
theorem T82:TyIs Tryz.prog 82 7 true:=⟨by kernel_rfl,_,Tryz.underlying82,rfl⟩
theorem B82:TyBytes Tryz.prog 82 104:=⟨Tryz.t82,by kernel_rfl,rfl⟩
theorem Z82:ZeroOK Tryz.prog 82 (.agg [.agg [.v (.int .i64 0),.v (.int .i64 0),ratL 0],.v (.slice none 0 0),.v (.int .i64 0)]):=⟨Tryz.t82,_,by kernel_rfl,rfl,by simp [LV.pure,pures,ratE.pure],fun _ _ _=>repAgg0 (repFs1 (c1:=[.int .i64 0,.int .i64 0,.bool false,.slice none 0 0,.slice none 0 0]) (by simp [LV.csize,csizes,ratE.csize]) (repAgg0 (repFs1 (c1:=[.int .i64 0]) rfl (repV0 rfl) (repFs1 (c1:=[.int .i64 0]) rfl (repV0 rfl) (repFs1 (c1:=[.bool false,.slice none 0 0,.slice none 0 0]) (by simp [LV.csize,csizes,ratE.csize]) (repRat0) (repFs0))))) (repFs1 (c1:=[.slice none 0 0]) rfl (repV0 rfl) (repFs1 (c1:=[.int .i64 0]) rfl (repV0 rfl) (repFs0))))⟩
instance:TI Tryz.prog 82 7 true:=⟨T82⟩
instance:BI Tryz.prog 82 104:=⟨B82⟩
instance:ZI Tryz.prog 82 (.agg [.agg [.v (.int .i64 0),.v (.int .i64 0),ratL 0],.v (.slice none 0 0),.v (.int .i64 0)]):=⟨Z82⟩
theorem SL82:StructLay Tryz.prog 82 [(5,true),(1,false),(1,false)]:=⟨_,Tryz.underlying82,⟨rfl,T38,⟨rfl,T40,⟨rfl,T3,trivial⟩⟩⟩,by decide⟩
instance:SI Tryz.prog 82 [(5,true),(1,false),(1,false)]:=⟨SL82⟩
instance:UN Tryz.prog 83 (.slice 29):=⟨Tryz.underlying83⟩
theorem T83:TyIs Tryz.prog 83 1 false:=⟨by kernel_rfl,_,Tryz.underlying83,rfl⟩
theorem B83:TyBytes Tryz.prog 83 24:=⟨Tryz.t83,by kernel_rfl,rfl⟩
theorem Z83:ZeroOK Tryz.prog 83 (.v (.slice none 0 0)):=⟨Tryz.t83,_,by kernel_rfl,rfl,rfl,fun _ _ _=>repV0 rfl⟩
instance:TI Tryz.prog 83 1 false:=⟨T83⟩
instance:BI Tryz.prog 83 24:=⟨B83⟩
instance:ZI Tryz.prog 83 (.v (.slice none 0 0)):=⟨Z83⟩
theorem T87:TyIs Tryz.prog 87 3 true:=⟨by kernel_rfl,_,Tryz.underlying87,rfl⟩
theorem B87:TyBytes Tryz.prog 87 24:=⟨Tryz.t87,by kernel_rfl,rfl⟩
theorem Z87:ZeroOK Tryz.prog 87 (.agg [.v (.bool false),.v (.int .i64 0),.v (.int .i64 0)]):=⟨Tryz.t87,_,by kernel_rfl,rfl,rfl,fun _ _ _=>repAgg0 (repFs1 (c1:=[.bool false]) rfl (repV0 rfl) (repFs1 (c1:=[.int .i64 0]) rfl (repV0 rfl) (repFs1 (c1:=[.int .i64 0]) rfl (repV0 rfl) (repFs0))))⟩
instance:TI Tryz.prog 87 3 true:=⟨T87⟩
instance:BI Tryz.prog 87 24:=⟨B87⟩
instance:ZI Tryz.prog 87 (.agg [.v (.bool false),.v (.int .i64 0),.v (.int .i64 0)]):=⟨Z87⟩
theorem SL87:StructLay Tryz.prog 87 [(1,false),(1,false),(1,false)]:=⟨_,Tryz.underlying87,⟨rfl,T4,⟨rfl,T3,⟨rfl,T3,trivial⟩⟩⟩,by decide⟩
instance:SI Tryz.prog 87 [(1,false),(1,false),(1,false)]:=⟨SL87⟩
instance:UN Tryz.prog 91 (.array 3 50):=⟨Tryz.underlying91⟩
theorem T91:TyIs Tryz.prog 91 18 true:=⟨by kernel_rfl,_,Tryz.underlying91,rfl⟩
theorem B91:TyBytes Tryz.prog 91 336:=⟨Tryz.t91,by kernel_rfl,rfl⟩
theorem Z91:ZeroOK Tryz.prog 91 (.agg [.agg [ratL 0,ratL 0],.agg [ratL 0,ratL 0],.agg [ratL 0,ratL 0]]):=⟨Tryz.t91,_,by kernel_rfl,rfl,by simp [LV.pure,pures,ratE.pure],fun _ _ _=>repAgg0 (repFs1 (c1:=[.bool false,.slice none 0 0,.slice none 0 0,.bool false,.slice none 0 0,.slice none 0 0]) (by simp [LV.csize,csizes,ratE.csize]) (repAgg0 (repFs1 (c1:=[.bool false,.slice none 0 0,.slice none 0 0]) (by simp [LV.csize,csizes,ratE.csize]) (repRat0) (repFs1 (c1:=[.bool false,.slice none 0 0,.slice none 0 0]) (by simp [LV.csize,csizes,ratE.csize]) (repRat0) (repFs0)))) (repFs1 (c1:=[.bool false,.slice none 0 0,.slice none 0 0,.bool false,.slice none 0 0,.slice none 0 0]) (by simp [LV.csize,csizes,ratE.csize]) (repAgg0 (repFs1 (c1:=[.bool false,.slice none 0 0,.slice none 0 0]) (by simp [LV.csize,csizes,ratE.csize]) (repRat0) (repFs1 (c1:=[.bool false,.slice none 0 0,.slice none 0 0]) (by simp [LV.csize,csizes,ratE.csize]) (repRat0) (repFs0)))) (repFs1 (c1:=[.bool false,.slice none 0 0,.slice none 0 0,.bool false,.slice none 0 0,.slice none 0 0]) (by simp [LV.csize,csizes,ratE.csize]) (repAgg0 (repFs1 (c1:=[.bool false,.slice none 0 0,.slice none 0 0]) (by simp [LV.csize,csizes,ratE.csize]) (repRat0) (repFs1 (c1:=[.bool false,.slice none 0 0,.slice none 0 0]) (by simp [LV.csize,csizes,ratE.csize]) (repRat0) (repFs0)))) (repFs0))))⟩
instance:TI Tryz.prog 91 18 true:=⟨T91⟩
instance:BI Tryz.prog 91 336:=⟨B91⟩
instance:ZI Tryz.prog 91 (.agg [.agg [ratL 0,ratL 0],.agg [ratL 0,ratL 0],.agg [ratL 0,ratL 0]]):=⟨Z91⟩
instance:UN Tryz.prog 92 (.array 3 50):=⟨Tryz.underlying92⟩
theorem T92:TyIs Tryz.prog 92 18 true:=⟨by kernel_rfl,_,Tryz.underlying92,rfl⟩
theorem B92:TyBytes Tryz.prog 92 336:=⟨Tryz.t92,by kernel_rfl,rfl⟩
theorem Z92:ZeroOK Tryz.prog 92 (.agg [.agg [ratL 0,ratL 0],.agg [ratL 0,ratL 0],.agg [ratL 0,ratL 0]]):=⟨Tryz.t92,_,by kernel_rfl,rfl,by simp [LV.pure,pures,ratE.pure],fun _ _ _=>repAgg0 (repFs1 (c1:=[.bool false,.slice none 0 0,.slice none 0 0,.bool false,.slice none 0 0,.slice none 0 0]) (by simp [LV.csize,csizes,ratE.csize]) (repAgg0 (repFs1 (c1:=[.bool false,.slice none 0 0,.slice none 0 0]) (by simp [LV.csize,csizes,ratE.csize]) (repRat0) (repFs1 (c1:=[.bool false,.slice none 0 0,.slice none 0 0]) (by simp [LV.csize,csizes,ratE.csize]) (repRat0) (repFs0)))) (repFs1 (c1:=[.bool false,.slice none 0 0,.slice none 0 0,.bool false,.slice none 0 0,.slice none 0 0]) (by simp [LV.csize,csizes,ratE.csize]) (repAgg0 (repFs1 (c1:=[.bool false,.slice none 0 0,.slice none 0 0]) (by simp [LV.csize,csizes,ratE.csize]) (repRat0) (repFs1 (c1:=[.bool false,.slice none 0 0,.slice none 0 0]) (by simp [LV.csize,csizes,ratE.csize]) (repRat0) (repFs0)))) (repFs1 (c1:=[.bool false,.slice none 0 0,.slice none 0 0,.bool false,.slice none 0 0,.slice none 0 0]) (by simp [LV.csize,csizes,ratE.csize]) (repAgg0 (repFs1 (c1:=[.bool false,.slice none 0 0,.slice none 0 0]) (by simp [LV.csize,csizes,ratE.csize]) (repRat0) (repFs1 (c1:=[.bool false,.slice none 0 0,.slice none 0 0]) (by simp [LV.csize,csizes,ratE.csize]) (repRat0) (repFs0)))) (repFs0))))⟩
instance:TI Tryz.prog 92 18 true:=⟨T92⟩
instance:BI Tryz.prog 92 336:=⟨B92⟩
instance:ZI Tryz.prog 92 (.agg [.agg [ratL 0,ratL 0],.agg [ratL 0,ratL 0],.agg [ratL 0,ratL 0]]):=⟨Z92⟩
theorem T97:TyIs Tryz.prog 97 4 true:=⟨by kernel_rfl,_,Tryz.underlying97,rfl⟩
theorem B97:TyBytes Tryz.prog 97 80:=⟨Tryz.t97,by kernel_rfl,rfl⟩
theorem Z97:ZeroOK Tryz.prog 97 (.agg [.v (.slice none 0 0),.v (.slice none 0 0),.v (.int .i64 0),.v (.slice none 0 0)]):=⟨Tryz.t97,_,by kernel_rfl,rfl,rfl,fun _ _ _=>repAgg0 (repFs1 (c1:=[.slice none 0 0]) rfl (repV0 rfl) (repFs1 (c1:=[.slice none 0 0]) rfl (repV0 rfl) (repFs1 (c1:=[.int .i64 0]) rfl (repV0 rfl) (repFs1 (c1:=[.slice none 0 0]) rfl (repV0 rfl) (repFs0)))))⟩
instance:TI Tryz.prog 97 4 true:=⟨T97⟩
instance:BI Tryz.prog 97 80:=⟨B97⟩
instance:ZI Tryz.prog 97 (.agg [.v (.slice none 0 0),.v (.slice none 0 0),.v (.int .i64 0),.v (.slice none 0 0)]):=⟨Z97⟩
theorem SL97:StructLay Tryz.prog 97 [(1,false),(1,false),(1,false),(1,false)]:=⟨_,Tryz.underlying97,⟨rfl,T46,⟨rfl,T46,⟨rfl,T3,⟨rfl,T22,trivial⟩⟩⟩⟩,by decide⟩
instance:SI Tryz.prog 97 [(1,false),(1,false),(1,false),(1,false)]:=⟨SL97⟩
instance:UN Tryz.prog 100 (.slice 97):=⟨Tryz.underlying100⟩
theorem T100:TyIs Tryz.prog 100 1 false:=⟨by kernel_rfl,_,Tryz.underlying100,rfl⟩
theorem B100:TyBytes Tryz.prog 100 24:=⟨Tryz.t100,by kernel_rfl,rfl⟩
theorem Z100:ZeroOK Tryz.prog 100 (.v (.slice none 0 0)):=⟨Tryz.t100,_,by kernel_rfl,rfl,rfl,fun _ _ _=>repV0 rfl⟩
instance:TI Tryz.prog 100 1 false:=⟨T100⟩
instance:BI Tryz.prog 100 24:=⟨B100⟩
instance:ZI Tryz.prog 100 (.v (.slice none 0 0)):=⟨Z100⟩
instance:UN Tryz.prog 111 (.slice 122):=⟨Tryz.underlying111⟩
theorem T111:TyIs Tryz.prog 111 1 false:=⟨by kernel_rfl,_,Tryz.underlying111,rfl⟩
theorem B111:TyBytes Tryz.prog 111 24:=⟨Tryz.t111,by kernel_rfl,rfl⟩
theorem Z111:ZeroOK Tryz.prog 111 (.v (.slice none 0 0)):=⟨Tryz.t111,_,by kernel_rfl,rfl,rfl,fun _ _ _=>repV0 rfl⟩
instance:TI Tryz.prog 111 1 false:=⟨T111⟩
instance:BI Tryz.prog 111 24:=⟨B111⟩
instance:ZI Tryz.prog 111 (.v (.slice none 0 0)):=⟨Z111⟩
theorem T113:TyIs Tryz.prog 113 3 true:=⟨by kernel_rfl,_,Tryz.underlying113,rfl⟩
theorem B113:TyBytes Tryz.prog 113 56:=⟨Tryz.t113,by kernel_rfl,rfl⟩
theorem Z113:ZeroOK Tryz.prog 113 (.agg [.v (.int .i64 0),.v (.slice none 0 0),.v (.slice none 0 0)]):=⟨Tryz.t113,_,by kernel_rfl,rfl,rfl,fun _ _ _=>repAgg0 (repFs1 (c1:=[.int .i64 0]) rfl (repV0 rfl) (repFs1 (c1:=[.slice none 0 0]) rfl (repV0 rfl) (repFs1 (c1:=[.slice none 0 0]) rfl (repV0 rfl) (repFs0))))⟩
instance:TI Tryz.prog 113 3 true:=⟨T113⟩
instance:BI Tryz.prog 113 56:=⟨B113⟩
instance:ZI Tryz.prog 113 (.agg [.v (.int .i64 0),.v (.slice none 0 0),.v (.slice none 0 0)]):=⟨Z113⟩
theorem SL113:StructLay Tryz.prog 113 [(1,false),(1,false),(1,false)]:=⟨_,Tryz.underlying113,⟨rfl,T3,⟨rfl,T26,⟨rfl,T111,trivial⟩⟩⟩,by decide⟩
instance:SI Tryz.prog 113 [(1,false),(1,false),(1,false)]:=⟨SL113⟩
instance:UN Tryz.prog 120 (.slice 2):=⟨Tryz.underlying120⟩
theorem T120:TyIs Tryz.prog 120 1 false:=⟨by kernel_rfl,_,Tryz.underlying120,rfl⟩
theorem B120:TyBytes Tryz.prog 120 24:=⟨Tryz.t120,by kernel_rfl,rfl⟩
theorem Z120:ZeroOK Tryz.prog 120 (.v (.slice none 0 0)):=⟨Tryz.t120,_,by kernel_rfl,rfl,rfl,fun _ _ _=>repV0 rfl⟩
instance:TI Tryz.prog 120 1 false:=⟨T120⟩
instance:BI Tryz.prog 120 24:=⟨B120⟩
instance:ZI Tryz.prog 120 (.v (.slice none 0 0)):=⟨Z120⟩
theorem T122:TyIs Tryz.prog 122 12 true:=⟨by kernel_rfl,_,Tryz.underlying122,rfl⟩
theorem B122:TyBytes Tryz.prog 122 224:=⟨Tryz.t122,by kernel_rfl,rfl⟩
theorem Z122:ZeroOK Tryz.prog 122 (.agg [.agg [ratL 0,ratL 0,ratL 0],ratL 0]):=⟨Tryz.t122,_,by kernel_rfl,rfl,by simp [LV.pure,pures,ratE.pure],fun _ _ _=>repAgg0 (repFs1 (c1:=[.bool false,.slice none 0 0,.slice none 0 0,.bool false,.slice none 0 0,.slice none 0 0,.bool false,.slice none 0 0,.slice none 0 0]) (by simp [LV.csize,csizes,ratE.csize]) (repAgg0 (repFs1 (c1:=[.bool false,.slice none 0 0,.slice none 0 0]) (by simp [LV.csize,csizes,ratE.csize]) (repRat0) (repFs1 (c1:=[.bool false,.slice none 0 0,.slice none 0 0]) (by simp [LV.csize,csizes,ratE.csize]) (repRat0) (repFs1 (c1:=[.bool false,.slice none 0 0,.slice none 0 0]) (by simp [LV.csize,csizes,ratE.csize]) (repRat0) (repFs0))))) (repFs1 (c1:=[.bool false,.slice none 0 0,.slice none 0 0]) (by simp [LV.csize,csizes,ratE.csize]) (repRat0) (repFs0)))⟩
instance:TI Tryz.prog 122 12 true:=⟨T122⟩
instance:BI Tryz.prog 122 224:=⟨B122⟩
instance:ZI Tryz.prog 122 (.agg [.agg [ratL 0,ratL 0,ratL 0],ratL 0]):=⟨Z122⟩
theorem SL122:StructLay Tryz.prog 122 [(9,true),(3,true)]:=⟨_,Tryz.underlying122,⟨rfl,T56,⟨rfl,T32,trivial⟩⟩,by decide⟩
instance:SI Tryz.prog 122 [(9,true),(3,true)]:=⟨SL122⟩
theorem T128:TyIs Tryz.prog 128 2 true:=⟨by kernel_rfl,_,Tryz.underlying128,rfl⟩
theorem B128:TyBytes Tryz.prog 128 32:=⟨Tryz.t128,by kernel_rfl,rfl⟩
theorem Z128:ZeroOK Tryz.prog 128 (.agg [.v (.slice none 0 0),.v (.int .i64 0)]):=⟨Tryz.t128,_,by kernel_rfl,rfl,rfl,fun _ _ _=>repAgg0 (repFs1 (c1:=[.slice none 0 0]) rfl (repV0 rfl) (repFs1 (c1:=[.int .i64 0]) rfl (repV0 rfl) (repFs0)))⟩
instance:TI Tryz.prog 128 2 true:=⟨T128⟩
instance:BI Tryz.prog 128 32:=⟨B128⟩
instance:ZI Tryz.prog 128 (.agg [.v (.slice none 0 0),.v (.int .i64 0)]):=⟨Z128⟩
theorem SL128:StructLay Tryz.prog 128 [(1,false),(1,false)]:=⟨_,Tryz.underlying128,⟨rfl,T22,⟨rfl,T3,trivial⟩⟩,by decide⟩
instance:SI Tryz.prog 128 [(1,false),(1,false)]:=⟨SL128⟩
instance:UN Tryz.prog 131 (.slice 113):=⟨Tryz.underlying131⟩
theorem T131:TyIs Tryz.prog 131 1 false:=⟨by kernel_rfl,_,Tryz.underlying131,rfl⟩
theorem B131:TyBytes Tryz.prog 131 24:=⟨Tryz.t131,by kernel_rfl,rfl⟩
theorem Z131:ZeroOK Tryz.prog 131 (.v (.slice none 0 0)):=⟨Tryz.t131,_,by kernel_rfl,rfl,rfl,fun _ _ _=>repV0 rfl⟩
instance:TI Tryz.prog 131 1 false:=⟨T131⟩
instance:BI Tryz.prog 131 24:=⟨B131⟩
instance:ZI Tryz.prog 131 (.v (.slice none 0 0)):=⟨Z131⟩
theorem T145:TyIs Tryz.prog 145 3 true:=⟨by kernel_rfl,_,Tryz.underlying145,rfl⟩
theorem B145:TyBytes Tryz.prog 145 56:=⟨Tryz.t145,by kernel_rfl,rfl⟩
theorem Z145:ZeroOK Tryz.prog 145 (.agg [.v (.slice none 0 0),.v (.int .i64 0),.v (.slice none 0 0)]):=⟨Tryz.t145,_,by kernel_rfl,rfl,rfl,fun _ _ _=>repAgg0 (repFs1 (c1:=[.slice none 0 0]) rfl (repV0 rfl) (repFs1 (c1:=[.int .i64 0]) rfl (repV0 rfl) (repFs1 (c1:=[.slice none 0 0]) rfl (repV0 rfl) (repFs0))))⟩
instance:TI Tryz.prog 145 3 true:=⟨T145⟩
instance:BI Tryz.prog 145 56:=⟨B145⟩
instance:ZI Tryz.prog 145 (.agg [.v (.slice none 0 0),.v (.int .i64 0),.v (.slice none 0 0)]):=⟨Z145⟩
theorem SL145:StructLay Tryz.prog 145 [(1,false),(1,false),(1,false)]:=⟨_,Tryz.underlying145,⟨rfl,T46,⟨rfl,T3,⟨rfl,T22,trivial⟩⟩⟩,by decide⟩
instance:SI Tryz.prog 145 [(1,false),(1,false),(1,false)]:=⟨SL145⟩
instance:UN Tryz.prog 146 (.slice 145):=⟨Tryz.underlying146⟩
theorem T146:TyIs Tryz.prog 146 1 false:=⟨by kernel_rfl,_,Tryz.underlying146,rfl⟩
theorem B146:TyBytes Tryz.prog 146 24:=⟨Tryz.t146,by kernel_rfl,rfl⟩
theorem Z146:ZeroOK Tryz.prog 146 (.v (.slice none 0 0)):=⟨Tryz.t146,_,by kernel_rfl,rfl,rfl,fun _ _ _=>repV0 rfl⟩
instance:TI Tryz.prog 146 1 false:=⟨T146⟩
instance:BI Tryz.prog 146 24:=⟨B146⟩
instance:ZI Tryz.prog 146 (.v (.slice none 0 0)):=⟨Z146⟩
instance:UN Tryz.prog 152 (.slice 198):=⟨Tryz.underlying152⟩
theorem T152:TyIs Tryz.prog 152 1 false:=⟨by kernel_rfl,_,Tryz.underlying152,rfl⟩
theorem B152:TyBytes Tryz.prog 152 24:=⟨Tryz.t152,by kernel_rfl,rfl⟩
theorem Z152:ZeroOK Tryz.prog 152 (.v (.slice none 0 0)):=⟨Tryz.t152,_,by kernel_rfl,rfl,rfl,fun _ _ _=>repV0 rfl⟩
instance:TI Tryz.prog 152 1 false:=⟨T152⟩
instance:BI Tryz.prog 152 24:=⟨B152⟩
instance:ZI Tryz.prog 152 (.v (.slice none 0 0)):=⟨Z152⟩
theorem T154:TyIs Tryz.prog 154 3 true:=⟨by kernel_rfl,_,Tryz.underlying154,rfl⟩
theorem B154:TyBytes Tryz.prog 154 56:=⟨Tryz.t154,by kernel_rfl,rfl⟩
theorem Z154:ZeroOK Tryz.prog 154 (.agg [.v (.int .i64 0),.v (.slice none 0 0),.v (.slice none 0 0)]):=⟨Tryz.t154,_,by kernel_rfl,rfl,rfl,fun _ _ _=>repAgg0 (repFs1 (c1:=[.int .i64 0]) rfl (repV0 rfl) (repFs1 (c1:=[.slice none 0 0]) rfl (repV0 rfl) (repFs1 (c1:=[.slice none 0 0]) rfl (repV0 rfl) (repFs0))))⟩
instance:TI Tryz.prog 154 3 true:=⟨T154⟩
instance:BI Tryz.prog 154 56:=⟨B154⟩
instance:ZI Tryz.prog 154 (.agg [.v (.int .i64 0),.v (.slice none 0 0),.v (.slice none 0 0)]):=⟨Z154⟩
theorem SL154:StructLay Tryz.prog 154 [(1,false),(1,false),(1,false)]:=⟨_,Tryz.underlying154,⟨rfl,T3,⟨rfl,T26,⟨rfl,T152,trivial⟩⟩⟩,by decide⟩
instance:SI Tryz.prog 154 [(1,false),(1,false),(1,false)]:=⟨SL154⟩
instance:UN Tryz.prog 162 (.slice 56):=⟨Tryz.underlying162⟩
theorem T162:TyIs Tryz.prog 162 1 false:=⟨by kernel_rfl,_,Tryz.underlying162,rfl⟩
theorem B162:TyBytes Tryz.prog 162 24:=⟨Tryz.t162,by kernel_rfl,rfl⟩
theorem Z162:ZeroOK Tryz.prog 162 (.v (.slice none 0 0)):=⟨Tryz.t162,_,by kernel_rfl,rfl,rfl,fun _ _ _=>repV0 rfl⟩
instance:TI Tryz.prog 162 1 false:=⟨T162⟩
instance:BI Tryz.prog 162 24:=⟨B162⟩
instance:ZI Tryz.prog 162 (.v (.slice none 0 0)):=⟨Z162⟩
instance:UN Tryz.prog 168 (.slice 92):=⟨Tryz.underlying168⟩
theorem T168:TyIs Tryz.prog 168 1 false:=⟨by kernel_rfl,_,Tryz.underlying168,rfl⟩
theorem B168:TyBytes Tryz.prog 168 24:=⟨Tryz.t168,by kernel_rfl,rfl⟩
theorem Z168:ZeroOK Tryz.prog 168 (.v (.slice none 0 0)):=⟨Tryz.t168,_,by kernel_rfl,rfl,rfl,fun _ _ _=>repV0 rfl⟩
instance:TI Tryz.prog 168 1 false:=⟨T168⟩
instance:BI Tryz.prog 168 24:=⟨B168⟩
instance:ZI Tryz.prog 168 (.v (.slice none 0 0)):=⟨Z168⟩
instance:UN Tryz.prog 170 (.array 3 91):=⟨Tryz.underlying170⟩
theorem T170:TyIs Tryz.prog 170 54 true:=⟨by kernel_rfl,_,Tryz.underlying170,rfl⟩
theorem B170:TyBytes Tryz.prog 170 1008:=⟨Tryz.t170,by kernel_rfl,rfl⟩
theorem Z170:ZeroOK Tryz.prog 170 (.agg [.agg [.agg [ratL 0,ratL 0],.agg [ratL 0,ratL 0],.agg [ratL 0,ratL 0]],.agg [.agg [ratL 0,ratL 0],.agg [ratL 0,ratL 0],.agg [ratL 0,ratL 0]],.agg [.agg [ratL 0,ratL 0],.agg [ratL 0,ratL 0],.agg [ratL 0,ratL 0]]]):=⟨Tryz.t170,_,by kernel_rfl,rfl,by simp [LV.pure,pures,ratE.pure],fun _ _ _=>repAgg0 (repFs1 (c1:=[.bool false,.slice none 0 0,.slice none 0 0,.bool false,.slice none 0 0,.slice none 0 0,.bool false,.slice none 0 0,.slice none 0 0,.bool false,.slice none 0 0,.slice none 0 0,.bool false,.slice none 0 0,.slice none 0 0,.bool false,.slice none 0 0,.slice none 0 0]) (by simp [LV.csize,csizes,ratE.csize]) (repAgg0 (repFs1 (c1:=[.bool false,.slice none 0 0,.slice none 0 0,.bool false,.slice none 0 0,.slice none 0 0]) (by simp [LV.csize,csizes,ratE.csize]) (repAgg0 (repFs1 (c1:=[.bool false,.slice none 0 0,.slice none 0 0]) (by simp [LV.csize,csizes,ratE.csize]) (repRat0) (repFs1 (c1:=[.bool false,.slice none 0 0,.slice none 0 0]) (by simp [LV.csize,csizes,ratE.csize]) (repRat0) (repFs0)))) (repFs1 (c1:=[.bool false,.slice none 0 0,.slice none 0 0,.bool false,.slice none 0 0,.slice none 0 0]) (by simp [LV.csize,csizes,ratE.csize]) (repAgg0 (repFs1 (c1:=[.bool false,.slice none 0 0,.slice none 0 0]) (by simp [LV.csize,csizes,ratE.csize]) (repRat0) (repFs1 (c1:=[.bool false,.slice none 0 0,.slice none 0 0]) (by simp [LV.csize,csizes,ratE.csize]) (repRat0) (repFs0)))) (repFs1 (c1:=[.bool false,.slice none 0 0,.slice none 0 0,.bool false,.slice none 0 0,.slice none 0 0]) (by simp [LV.csize,csizes,ratE.csize]) (repAgg0 (repFs1 (c1:=[.bool false,.slice none 0 0,.slice none 0 0]) (by simp [LV.csize,csizes,ratE.csize]) (repRat0) (repFs1 (c1:=[.bool false,.slice none 0 0,.slice none 0 0]) (by simp [LV.csize,csizes,ratE.csize]) (repRat0) (repFs0)))) (repFs0))))) (repFs1 (c1:=[.bool false,.slice none 0 0,.slice none 0 0,.bool false,.slice none 0 0,.slice none 0 0,.bool false,.slice none 0 0,.slice none 0 0,.bool false,.slice none 0 0,.slice none 0 0,.bool false,.slice none 0 0,.slice none 0 0,.bool false,.slice none 0 0,.slice none 0 0]) (by simp [LV.csize,csizes,ratE.csize]) (repAgg0 (repFs1 (c1:=[.bool false,.slice none 0 0,.slice none 0 0,.bool false,.slice none 0 0,.slice none 0 0]) (by simp [LV.csize,csizes,ratE.csize]) (repAgg0 (repFs1 (c1:=[.bool false,.slice none 0 0,.slice none 0 0]) (by simp [LV.csize,csizes,ratE.csize]) (repRat0) (repFs1 (c1:=[.bool false,.slice none 0 0,.slice none 0 0]) (by simp [LV.csize,csizes,ratE.csize]) (repRat0) (repFs0)))) (repFs1 (c1:=[.bool false,.slice none 0 0,.slice none 0 0,.bool false,.slice none 0 0,.slice none 0 0]) (by simp [LV.csize,csizes,ratE.csize]) (repAgg0 (repFs1 (c1:=[.bool false,.slice none 0 0,.slice none 0 0]) (by simp [LV.csize,csizes,ratE.csize]) (repRat0) (repFs1 (c1:=[.bool false,.slice none 0 0,.slice none 0 0]) (by simp [LV.csize,csizes,ratE.csize]) (repRat0) (repFs0)))) (repFs1 (c1:=[.bool false,.slice none 0 0,.slice none 0 0,.bool false,.slice none 0 0,.slice none 0 0]) (by simp [LV.csize,csizes,ratE.csize]) (repAgg0 (repFs1 (c1:=[.bool false,.slice none 0 0,.slice none 0 0]) (by simp [LV.csize,csizes,ratE.csize]) (repRat0) (repFs1 (c1:=[.bool false,.slice none 0 0,.slice none 0 0]) (by simp [LV.csize,csizes,ratE.csize]) (repRat0) (repFs0)))) (repFs0))))) (repFs1 (c1:=[.bool false,.slice none 0 0,.slice none 0 0,.bool false,.slice none 0 0,.slice none 0 0,.bool false,.slice none 0 0,.slice none 0 0,.bool false,.slice none 0 0,.slice none 0 0,.bool false,.slice none 0 0,.slice none 0 0,.bool false,.slice none 0 0,.slice none 0 0]) (by simp [LV.csize,csizes,ratE.csize]) (repAgg0 (repFs1 (c1:=[.bool false,.slice none 0 0,.slice none 0 0,.bool false,.slice none 0 0,.slice none 0 0]) (by simp [LV.csize,csizes,ratE.csize]) (repAgg0 (repFs1 (c1:=[.bool false,.slice none 0 0,.slice none 0 0]) (by simp [LV.csize,csizes,ratE.csize]) (repRat0) (repFs1 (c1:=[.bool false,.slice none 0 0,.slice none 0 0]) (by simp [LV.csize,csizes,ratE.csize]) (repRat0) (repFs0)))) (repFs1 (c1:=[.bool false,.slice none 0 0,.slice none 0 0,.bool false,.slice none 0 0,.slice none 0 0]) (by simp [LV.csize,csizes,ratE.csize]) (repAgg0 (repFs1 (c1:=[.bool false,.slice none 0 0,.slice none 0 0]) (by simp [LV.csize,csizes,ratE.csize]) (repRat0) (repFs1 (c1:=[.bool false,.slice none 0 0,.slice none 0 0]) (by simp [LV.csize,csizes,ratE.csize]) (repRat0) (repFs0)))) (repFs1 (c1:=[.bool false,.slice none 0 0,.slice none 0 0,.bool false,.slice none 0 0,.slice none 0 0]) (by simp [LV.csize,csizes,ratE.csize]) (repAgg0 (repFs1 (c1:=[.bool false,.slice none 0 0,.slice none 0 0]) (by simp [LV.csize,csizes,ratE.csize]) (repRat0) (repFs1 (c1:=[.bool false,.slice none 0 0,.slice none 0 0]) (by simp [LV.csize,csizes,ratE.csize]) (repRat0) (repFs0)))) (repFs0))))) (repFs0))))⟩
instance:TI Tryz.prog 170 54 true:=⟨T170⟩
instance:BI Tryz.prog 170 1008:=⟨B170⟩
instance:ZI Tryz.prog 170 (.agg [.agg [.agg [ratL 0,ratL 0],.agg [ratL 0,ratL 0],.agg [ratL 0,ratL 0]],.agg [.agg [ratL 0,ratL 0],.agg [ratL 0,ratL 0],.agg [ratL 0,ratL 0]],.agg [.agg [ratL 0,ratL 0],.agg [ratL 0,ratL 0],.agg [ratL 0,ratL 0]]]):=⟨Z170⟩
instance:UN Tryz.prog 181 (.int .u32):=⟨Tryz.underlying181⟩
theorem T181:TyIs Tryz.prog 181 1 false:=⟨by kernel_rfl,_,Tryz.underlying181,rfl⟩
theorem B181:TyBytes Tryz.prog 181 4:=⟨Tryz.t181,by kernel_rfl,rfl⟩
theorem Z181:ZeroOK Tryz.prog 181 (.v (.int .u32 0)):=⟨Tryz.t181,_,by kernel_rfl,rfl,rfl,fun _ _ _=>repV0 rfl⟩
instance:TI Tryz.prog 181 1 false:=⟨T181⟩
instance:BI Tryz.prog 181 4:=⟨B181⟩
instance:ZI Tryz.prog 181 (.v (.int .u32 0)):=⟨Z181⟩
instance:UN Tryz.prog 187 (.int .u64):=⟨Tryz.underlying187⟩
theorem T187:TyIs Tryz.prog 187 1 false:=⟨by kernel_rfl,_,Tryz.underlying187,rfl⟩
theorem B187:TyBytes Tryz.prog 187 8:=⟨Tryz.t187,by kernel_rfl,rfl⟩
theorem Z187:ZeroOK Tryz.prog 187 (.v (.int .u64 0)):=⟨Tryz.t187,_,by kernel_rfl,rfl,rfl,fun _ _ _=>repV0 rfl⟩
instance:TI Tryz.prog 187 1 false:=⟨T187⟩
instance:BI Tryz.prog 187 8:=⟨B187⟩
instance:ZI Tryz.prog 187 (.v (.int .u64 0)):=⟨Z187⟩
instance:UN Tryz.prog 196 (.slice 154):=⟨Tryz.underlying196⟩
theorem T196:TyIs Tryz.prog 196 1 false:=⟨by kernel_rfl,_,Tryz.underlying196,rfl⟩
theorem B196:TyBytes Tryz.prog 196 24:=⟨Tryz.t196,by kernel_rfl,rfl⟩
theorem Z196:ZeroOK Tryz.prog 196 (.v (.slice none 0 0)):=⟨Tryz.t196,_,by kernel_rfl,rfl,rfl,fun _ _ _=>repV0 rfl⟩
instance:TI Tryz.prog 196 1 false:=⟨T196⟩
instance:BI Tryz.prog 196 24:=⟨B196⟩
instance:ZI Tryz.prog 196 (.v (.slice none 0 0)):=⟨Z196⟩
instance:UN Tryz.prog 198 (.array 4 32):=⟨Tryz.underlying198⟩
theorem T198:TyIs Tryz.prog 198 12 true:=⟨by kernel_rfl,_,Tryz.underlying198,rfl⟩
theorem B198:TyBytes Tryz.prog 198 224:=⟨Tryz.t198,by kernel_rfl,rfl⟩
theorem Z198:ZeroOK Tryz.prog 198 (.agg [ratL 0,ratL 0,ratL 0,ratL 0]):=⟨Tryz.t198,_,by kernel_rfl,rfl,by simp [LV.pure,pures,ratE.pure],fun _ _ _=>repAgg0 (repFs1 (c1:=[.bool false,.slice none 0 0,.slice none 0 0]) (by simp [LV.csize,csizes,ratE.csize]) (repRat0) (repFs1 (c1:=[.bool false,.slice none 0 0,.slice none 0 0]) (by simp [LV.csize,csizes,ratE.csize]) (repRat0) (repFs1 (c1:=[.bool false,.slice none 0 0,.slice none 0 0]) (by simp [LV.csize,csizes,ratE.csize]) (repRat0) (repFs1 (c1:=[.bool false,.slice none 0 0,.slice none 0 0]) (by simp [LV.csize,csizes,ratE.csize]) (repRat0) (repFs0)))))⟩
instance:TI Tryz.prog 198 12 true:=⟨T198⟩
instance:BI Tryz.prog 198 224:=⟨B198⟩
instance:ZI Tryz.prog 198 (.agg [ratL 0,ratL 0,ratL 0,ratL 0]):=⟨Z198⟩
instance:UN Tryz.prog 201 (.array 2 32):=⟨Tryz.underlying201⟩
theorem T201:TyIs Tryz.prog 201 6 true:=⟨by kernel_rfl,_,Tryz.underlying201,rfl⟩
theorem B201:TyBytes Tryz.prog 201 112:=⟨Tryz.t201,by kernel_rfl,rfl⟩
theorem Z201:ZeroOK Tryz.prog 201 (.agg [ratL 0,ratL 0]):=⟨Tryz.t201,_,by kernel_rfl,rfl,by simp [LV.pure,pures,ratE.pure],fun _ _ _=>repAgg0 (repFs1 (c1:=[.bool false,.slice none 0 0,.slice none 0 0]) (by simp [LV.csize,csizes,ratE.csize]) (repRat0) (repFs1 (c1:=[.bool false,.slice none 0 0,.slice none 0 0]) (by simp [LV.csize,csizes,ratE.csize]) (repRat0) (repFs0)))⟩
instance:TI Tryz.prog 201 6 true:=⟨T201⟩
instance:BI Tryz.prog 201 112:=⟨B201⟩
instance:ZI Tryz.prog 201 (.agg [ratL 0,ratL 0]):=⟨Z201⟩
theorem T215:TyIs Tryz.prog 215 3 true:=⟨by kernel_rfl,_,Tryz.underlying215,rfl⟩
theorem B215:TyBytes Tryz.prog 215 40:=⟨Tryz.t215,by kernel_rfl,rfl⟩
theorem Z215:ZeroOK Tryz.prog 215 (.agg [.v (.int .i64 0),.v (.int .i64 0),.v (.slice none 0 0)]):=⟨Tryz.t215,_,by kernel_rfl,rfl,rfl,fun _ _ _=>repAgg0 (repFs1 (c1:=[.int .i64 0]) rfl (repV0 rfl) (repFs1 (c1:=[.int .i64 0]) rfl (repV0 rfl) (repFs1 (c1:=[.slice none 0 0]) rfl (repV0 rfl) (repFs0))))⟩
instance:TI Tryz.prog 215 3 true:=⟨T215⟩
instance:BI Tryz.prog 215 40:=⟨B215⟩
instance:ZI Tryz.prog 215 (.agg [.v (.int .i64 0),.v (.int .i64 0),.v (.slice none 0 0)]):=⟨Z215⟩
theorem SL215:StructLay Tryz.prog 215 [(1,false),(1,false),(1,false)]:=⟨_,Tryz.underlying215,⟨rfl,T3,⟨rfl,T3,⟨rfl,T26,trivial⟩⟩⟩,by decide⟩
instance:SI Tryz.prog 215 [(1,false),(1,false),(1,false)]:=⟨SL215⟩
instance:UN Tryz.prog 216 (.array 4 215):=⟨Tryz.underlying216⟩
theorem T216:TyIs Tryz.prog 216 12 true:=⟨by kernel_rfl,_,Tryz.underlying216,rfl⟩
theorem B216:TyBytes Tryz.prog 216 160:=⟨Tryz.t216,by kernel_rfl,rfl⟩
theorem Z216:ZeroOK Tryz.prog 216 (.agg [.agg [.v (.int .i64 0),.v (.int .i64 0),.v (.slice none 0 0)],.agg [.v (.int .i64 0),.v (.int .i64 0),.v (.slice none 0 0)],.agg [.v (.int .i64 0),.v (.int .i64 0),.v (.slice none 0 0)],.agg [.v (.int .i64 0),.v (.int .i64 0),.v (.slice none 0 0)]]):=⟨Tryz.t216,_,by kernel_rfl,rfl,rfl,fun _ _ _=>repAgg0 (repFs1 (c1:=[.int .i64 0,.int .i64 0,.slice none 0 0]) rfl (repAgg0 (repFs1 (c1:=[.int .i64 0]) rfl (repV0 rfl) (repFs1 (c1:=[.int .i64 0]) rfl (repV0 rfl) (repFs1 (c1:=[.slice none 0 0]) rfl (repV0 rfl) (repFs0))))) (repFs1 (c1:=[.int .i64 0,.int .i64 0,.slice none 0 0]) rfl (repAgg0 (repFs1 (c1:=[.int .i64 0]) rfl (repV0 rfl) (repFs1 (c1:=[.int .i64 0]) rfl (repV0 rfl) (repFs1 (c1:=[.slice none 0 0]) rfl (repV0 rfl) (repFs0))))) (repFs1 (c1:=[.int .i64 0,.int .i64 0,.slice none 0 0]) rfl (repAgg0 (repFs1 (c1:=[.int .i64 0]) rfl (repV0 rfl) (repFs1 (c1:=[.int .i64 0]) rfl (repV0 rfl) (repFs1 (c1:=[.slice none 0 0]) rfl (repV0 rfl) (repFs0))))) (repFs1 (c1:=[.int .i64 0,.int .i64 0,.slice none 0 0]) rfl (repAgg0 (repFs1 (c1:=[.int .i64 0]) rfl (repV0 rfl) (repFs1 (c1:=[.int .i64 0]) rfl (repV0 rfl) (repFs1 (c1:=[.slice none 0 0]) rfl (repV0 rfl) (repFs0))))) (repFs0)))))⟩
instance:TI Tryz.prog 216 12 true:=⟨T216⟩
instance:BI Tryz.prog 216 160:=⟨B216⟩
instance:ZI Tryz.prog 216 (.agg [.agg [.v (.int .i64 0),.v (.int .i64 0),.v (.slice none 0 0)],.agg [.v (.int .i64 0),.v (.int .i64 0),.v (.slice none 0 0)],.agg [.v (.int .i64 0),.v (.int .i64 0),.v (.slice none 0 0)],.agg [.v (.int .i64 0),.v (.int .i64 0),.v (.slice none 0 0)]]):=⟨Z216⟩
instance:UN Tryz.prog 218 (.array 3 215):=⟨Tryz.underlying218⟩
theorem T218:TyIs Tryz.prog 218 9 true:=⟨by kernel_rfl,_,Tryz.underlying218,rfl⟩
theorem B218:TyBytes Tryz.prog 218 120:=⟨Tryz.t218,by kernel_rfl,rfl⟩
theorem Z218:ZeroOK Tryz.prog 218 (.agg [.agg [.v (.int .i64 0),.v (.int .i64 0),.v (.slice none 0 0)],.agg [.v (.int .i64 0),.v (.int .i64 0),.v (.slice none 0 0)],.agg [.v (.int .i64 0),.v (.int .i64 0),.v (.slice none 0 0)]]):=⟨Tryz.t218,_,by kernel_rfl,rfl,rfl,fun _ _ _=>repAgg0 (repFs1 (c1:=[.int .i64 0,.int .i64 0,.slice none 0 0]) rfl (repAgg0 (repFs1 (c1:=[.int .i64 0]) rfl (repV0 rfl) (repFs1 (c1:=[.int .i64 0]) rfl (repV0 rfl) (repFs1 (c1:=[.slice none 0 0]) rfl (repV0 rfl) (repFs0))))) (repFs1 (c1:=[.int .i64 0,.int .i64 0,.slice none 0 0]) rfl (repAgg0 (repFs1 (c1:=[.int .i64 0]) rfl (repV0 rfl) (repFs1 (c1:=[.int .i64 0]) rfl (repV0 rfl) (repFs1 (c1:=[.slice none 0 0]) rfl (repV0 rfl) (repFs0))))) (repFs1 (c1:=[.int .i64 0,.int .i64 0,.slice none 0 0]) rfl (repAgg0 (repFs1 (c1:=[.int .i64 0]) rfl (repV0 rfl) (repFs1 (c1:=[.int .i64 0]) rfl (repV0 rfl) (repFs1 (c1:=[.slice none 0 0]) rfl (repV0 rfl) (repFs0))))) (repFs0))))⟩
instance:TI Tryz.prog 218 9 true:=⟨T218⟩
instance:BI Tryz.prog 218 120:=⟨B218⟩
instance:ZI Tryz.prog 218 (.agg [.agg [.v (.int .i64 0),.v (.int .i64 0),.v (.slice none 0 0)],.agg [.v (.int .i64 0),.v (.int .i64 0),.v (.slice none 0 0)],.agg [.v (.int .i64 0),.v (.int .i64 0),.v (.slice none 0 0)]]):=⟨Z218⟩
instance:UN Tryz.prog 225 (.array 2 50):=⟨Tryz.underlying225⟩
theorem T225:TyIs Tryz.prog 225 12 true:=⟨by kernel_rfl,_,Tryz.underlying225,rfl⟩
theorem B225:TyBytes Tryz.prog 225 224:=⟨Tryz.t225,by kernel_rfl,rfl⟩
theorem Z225:ZeroOK Tryz.prog 225 (.agg [.agg [ratL 0,ratL 0],.agg [ratL 0,ratL 0]]):=⟨Tryz.t225,_,by kernel_rfl,rfl,by simp [LV.pure,pures,ratE.pure],fun _ _ _=>repAgg0 (repFs1 (c1:=[.bool false,.slice none 0 0,.slice none 0 0,.bool false,.slice none 0 0,.slice none 0 0]) (by simp [LV.csize,csizes,ratE.csize]) (repAgg0 (repFs1 (c1:=[.bool false,.slice none 0 0,.slice none 0 0]) (by simp [LV.csize,csizes,ratE.csize]) (repRat0) (repFs1 (c1:=[.bool false,.slice none 0 0,.slice none 0 0]) (by simp [LV.csize,csizes,ratE.csize]) (repRat0) (repFs0)))) (repFs1 (c1:=[.bool false,.slice none 0 0,.slice none 0 0,.bool false,.slice none 0 0,.slice none 0 0]) (by simp [LV.csize,csizes,ratE.csize]) (repAgg0 (repFs1 (c1:=[.bool false,.slice none 0 0,.slice none 0 0]) (by simp [LV.csize,csizes,ratE.csize]) (repRat0) (repFs1 (c1:=[.bool false,.slice none 0 0,.slice none 0 0]) (by simp [LV.csize,csizes,ratE.csize]) (repRat0) (repFs0)))) (repFs0)))⟩
instance:TI Tryz.prog 225 12 true:=⟨T225⟩
instance:BI Tryz.prog 225 224:=⟨B225⟩
instance:ZI Tryz.prog 225 (.agg [.agg [ratL 0,ratL 0],.agg [ratL 0,ratL 0]]):=⟨Z225⟩
instance:UN Tryz.prog 226 (.array 2 225):=⟨Tryz.underlying226⟩
theorem T226:TyIs Tryz.prog 226 24 true:=⟨by kernel_rfl,_,Tryz.underlying226,rfl⟩
theorem B226:TyBytes Tryz.prog 226 448:=⟨Tryz.t226,by kernel_rfl,rfl⟩
theorem Z226:ZeroOK Tryz.prog 226 (.agg [.agg [.agg [ratL 0,ratL 0],.agg [ratL 0,ratL 0]],.agg [.agg [ratL 0,ratL 0],.agg [ratL 0,ratL 0]]]):=⟨Tryz.t226,_,by kernel_rfl,rfl,by simp [LV.pure,pures,ratE.pure],fun _ _ _=>repAgg0 (repFs1 (c1:=[.bool false,.slice none 0 0,.slice none 0 0,.bool false,.slice none 0 0,.slice none 0 0,.bool false,.slice none 0 0,.slice none 0 0,.bool false,.slice none 0 0,.slice none 0 0]) (by simp [LV.csize,csizes,ratE.csize]) (repAgg0 (repFs1 (c1:=[.bool false,.slice none 0 0,.slice none 0 0,.bool false,.slice none 0 0,.slice none 0 0]) (by simp [LV.csize,csizes,ratE.csize]) (repAgg0 (repFs1 (c1:=[.bool false,.slice none 0 0,.slice none 0 0]) (by simp [LV.csize,csizes,ratE.csize]) (repRat0) (repFs1 (c1:=[.bool false,.slice none 0 0,.slice none 0 0]) (by simp [LV.csize,csizes,ratE.csize]) (repRat0) (repFs0)))) (repFs1 (c1:=[.bool false,.slice none 0 0,.slice none 0 0,.bool false,.slice none 0 0,.slice none 0 0]) (by simp [LV.csize,csizes,ratE.csize]) (repAgg0 (repFs1 (c1:=[.bool false,.slice none 0 0,.slice none 0 0]) (by simp [LV.csize,csizes,ratE.csize]) (repRat0) (repFs1 (c1:=[.bool false,.slice none 0 0,.slice none 0 0]) (by simp [LV.csize,csizes,ratE.csize]) (repRat0) (repFs0)))) (repFs0)))) (repFs1 (c1:=[.bool false,.slice none 0 0,.slice none 0 0,.bool false,.slice none 0 0,.slice none 0 0,.bool false,.slice none 0 0,.slice none 0 0,.bool false,.slice none 0 0,.slice none 0 0]) (by simp [LV.csize,csizes,ratE.csize]) (repAgg0 (repFs1 (c1:=[.bool false,.slice none 0 0,.slice none 0 0,.bool false,.slice none 0 0,.slice none 0 0]) (by simp [LV.csize,csizes,ratE.csize]) (repAgg0 (repFs1 (c1:=[.bool false,.slice none 0 0,.slice none 0 0]) (by simp [LV.csize,csizes,ratE.csize]) (repRat0) (repFs1 (c1:=[.bool false,.slice none 0 0,.slice none 0 0]) (by simp [LV.csize,csizes,ratE.csize]) (repRat0) (repFs0)))) (repFs1 (c1:=[.bool false,.slice none 0 0,.slice none 0 0,.bool false,.slice none 0 0,.slice none 0 0]) (by simp [LV.csize,csizes,ratE.csize]) (repAgg0 (repFs1 (c1:=[.bool false,.slice none 0 0,.slice none 0 0]) (by simp [LV.csize,csizes,ratE.csize]) (repRat0) (repFs1 (c1:=[.bool false,.slice none 0 0,.slice none 0 0]) (by simp [LV.csize,csizes,ratE.csize]) (repRat0) (repFs0)))) (repFs0)))) (repFs0)))⟩
instance:TI Tryz.prog 226 24 true:=⟨T226⟩
instance:BI Tryz.prog 226 448:=⟨B226⟩
instance:ZI Tryz.prog 226 (.agg [.agg [.agg [ratL 0,ratL 0],.agg [ratL 0,ratL 0]],.agg [.agg [ratL 0,ratL 0],.agg [ratL 0,ratL 0]]]):=⟨Z226⟩
instance:UN Tryz.prog 231 (.int .u64):=⟨Tryz.underlying231⟩
theorem T231:TyIs Tryz.prog 231 1 false:=⟨by kernel_rfl,_,Tryz.underlying231,rfl⟩
theorem B231:TyBytes Tryz.prog 231 8:=⟨Tryz.t231,by kernel_rfl,rfl⟩
theorem Z231:ZeroOK Tryz.prog 231 (.v (.int .u64 0)):=⟨Tryz.t231,_,by kernel_rfl,rfl,rfl,fun _ _ _=>repV0 rfl⟩
instance:TI Tryz.prog 231 1 false:=⟨T231⟩
instance:BI Tryz.prog 231 8:=⟨B231⟩
instance:ZI Tryz.prog 231 (.v (.int .u64 0)):=⟨Z231⟩
instance:UN Tryz.prog 256 (.array 3 201):=⟨Tryz.underlying256⟩
theorem T256:TyIs Tryz.prog 256 18 true:=⟨by kernel_rfl,_,Tryz.underlying256,rfl⟩
theorem B256:TyBytes Tryz.prog 256 336:=⟨Tryz.t256,by kernel_rfl,rfl⟩
theorem Z256:ZeroOK Tryz.prog 256 (.agg [.agg [ratL 0,ratL 0],.agg [ratL 0,ratL 0],.agg [ratL 0,ratL 0]]):=⟨Tryz.t256,_,by kernel_rfl,rfl,by simp [LV.pure,pures,ratE.pure],fun _ _ _=>repAgg0 (repFs1 (c1:=[.bool false,.slice none 0 0,.slice none 0 0,.bool false,.slice none 0 0,.slice none 0 0]) (by simp [LV.csize,csizes,ratE.csize]) (repAgg0 (repFs1 (c1:=[.bool false,.slice none 0 0,.slice none 0 0]) (by simp [LV.csize,csizes,ratE.csize]) (repRat0) (repFs1 (c1:=[.bool false,.slice none 0 0,.slice none 0 0]) (by simp [LV.csize,csizes,ratE.csize]) (repRat0) (repFs0)))) (repFs1 (c1:=[.bool false,.slice none 0 0,.slice none 0 0,.bool false,.slice none 0 0,.slice none 0 0]) (by simp [LV.csize,csizes,ratE.csize]) (repAgg0 (repFs1 (c1:=[.bool false,.slice none 0 0,.slice none 0 0]) (by simp [LV.csize,csizes,ratE.csize]) (repRat0) (repFs1 (c1:=[.bool false,.slice none 0 0,.slice none 0 0]) (by simp [LV.csize,csizes,ratE.csize]) (repRat0) (repFs0)))) (repFs1 (c1:=[.bool false,.slice none 0 0,.slice none 0 0,.bool false,.slice none 0 0,.slice none 0 0]) (by simp [LV.csize,csizes,ratE.csize]) (repAgg0 (repFs1 (c1:=[.bool false,.slice none 0 0,.slice none 0 0]) (by simp [LV.csize,csizes,ratE.csize]) (repRat0) (repFs1 (c1:=[.bool false,.slice none 0 0,.slice none 0 0]) (by simp [LV.csize,csizes,ratE.csize]) (repRat0) (repFs0)))) (repFs0))))⟩
instance:TI Tryz.prog 256 18 true:=⟨T256⟩
instance:BI Tryz.prog 256 336:=⟨B256⟩
instance:ZI Tryz.prog 256 (.agg [.agg [ratL 0,ratL 0],.agg [ratL 0,ratL 0],.agg [ratL 0,ratL 0]]):=⟨Z256⟩
instance:UN Tryz.prog 278 (.slice 32):=⟨Tryz.underlying278⟩
theorem T278:TyIs Tryz.prog 278 1 false:=⟨by kernel_rfl,_,Tryz.underlying278,rfl⟩
theorem B278:TyBytes Tryz.prog 278 24:=⟨Tryz.t278,by kernel_rfl,rfl⟩
theorem Z278:ZeroOK Tryz.prog 278 (.v (.slice none 0 0)):=⟨Tryz.t278,_,by kernel_rfl,rfl,rfl,fun _ _ _=>repV0 rfl⟩
instance:TI Tryz.prog 278 1 false:=⟨T278⟩
instance:BI Tryz.prog 278 24:=⟨B278⟩
instance:ZI Tryz.prog 278 (.v (.slice none 0 0)):=⟨Z278⟩
instance:UN Tryz.prog 294 (.slice 278):=⟨Tryz.underlying294⟩
theorem T294:TyIs Tryz.prog 294 1 false:=⟨by kernel_rfl,_,Tryz.underlying294,rfl⟩
theorem B294:TyBytes Tryz.prog 294 24:=⟨Tryz.t294,by kernel_rfl,rfl⟩
theorem Z294:ZeroOK Tryz.prog 294 (.v (.slice none 0 0)):=⟨Tryz.t294,_,by kernel_rfl,rfl,rfl,fun _ _ _=>repV0 rfl⟩
instance:TI Tryz.prog 294 1 false:=⟨T294⟩
instance:BI Tryz.prog 294 24:=⟨B294⟩
instance:ZI Tryz.prog 294 (.v (.slice none 0 0)):=⟨Z294⟩
instance:UN Tryz.prog 311 (.array 0 16):=⟨Tryz.underlying311⟩
theorem T311:TyIs Tryz.prog 311 0 true:=⟨by kernel_rfl,_,Tryz.underlying311,rfl⟩
theorem B311:TyBytes Tryz.prog 311 0:=⟨Tryz.t311,by kernel_rfl,rfl⟩
theorem Z311:ZeroOK Tryz.prog 311 (.agg []):=⟨Tryz.t311,_,by kernel_rfl,rfl,rfl,fun _ _ _=>repAgg0 (repFs0)⟩
instance:TI Tryz.prog 311 0 true:=⟨T311⟩
instance:BI Tryz.prog 311 0:=⟨B311⟩
instance:ZI Tryz.prog 311 (.agg []):=⟨Z311⟩
theorem T318:TyIs Tryz.prog 318 1 false:=⟨by kernel_rfl,_,Tryz.underlying318,rfl⟩
theorem B318:TyBytes Tryz.prog 318 8:=⟨Tryz.t318,by kernel_rfl,rfl⟩
theorem Z318:ZeroOK Tryz.prog 318 (.v (.pointer none)):=⟨Tryz.t318,_,by kernel_rfl,rfl,rfl,fun _ _ _=>repV0 rfl⟩
instance:TI Tryz.prog 318 1 false:=⟨T318⟩
instance:BI Tryz.prog 318 8:=⟨B318⟩
instance:ZI Tryz.prog 318 (.v (.pointer none)):=⟨Z318⟩
theorem Z50s:ZeroOK Tryz.prog 50 (spL (0,0)):=by rw [spL_eq];exact Z50
instance:EC Tryz.prog 2 i64L 1 false 0:=⟨i64E,Z2,T2⟩
instance:EC Tryz.prog 3 i64L 1 false 0:=⟨i64E,Z3,T3⟩
instance:EC Tryz.prog 32 ratL 3 true 0:=⟨ratE,Z32,T32⟩
instance:EC Tryz.prog 41 i64L 1 false 0:=⟨i64E,Z41,T41⟩
instance:EC Tryz.prog 50 spL 6 true (0,0):=⟨spE,Z50s,T50⟩
instance:AE Tryz.prog 50 spL 6 true (0,0):=⟨spE,Z50s⟩
instance:EC Tryz.prog 56 ptL 9 true ⟨0,0,0⟩:=⟨ptE,Z56,T56⟩
instance:EC Tryz.prog 122 poL 12 true ⟨⟨0,0,0⟩,0⟩:=⟨poE,Z122,T122⟩
instance:EC Tryz.prog 181 u32L 1 false 0:=⟨u32E,Z181,T181⟩
section
variable {f:FuncId} {fn:Func} {c:Code} {args:List LV} {r:LV}
theorem fnP (hf:Tryz.prog.funcs[f]?=some fn)
  (h:wpL Tryz.prog c (fun e L=>match e with | .exit _=>False | _=>RetL Tryz.prog fn.results.toList L r []) (St.mk (fun t=>args.getD t .any) (hp [])))
  (hb:fn.body=some c:=by exact rfl) (hn:(fn.name== "runtime.NumGoroutine")=false:=by decide +kernel) (hd:dstsOk fn.ntmps c=true:=by decide +kernel) (hlen:args.length≤fn.ntmps:=by exact Nat.le_of_ble_eq_true rfl) (ht:∀ g,r.ren g=r:=by exact tm0):CallP Tryz.prog f args r:=callP_of fol hf hb hn hd hlen ht h
theorem fnO {bs:List Blk} (hf:Tryz.prog.funcs[f]?=some fn)
  (h:wpL Tryz.prog c (fun e L=>match e with | .exit _=>False | _=>RetL Tryz.prog fn.results.toList L r bs) (St.mk (fun t=>args.getD t .any) (hp [])))
  (hb:fn.body=some c:=by exact rfl) (hn:(fn.name== "runtime.NumGoroutine")=false:=by decide +kernel) (hd:dstsOk fn.ntmps c=true:=by decide +kernel) (hlen:args.length≤fn.ntmps:=by exact Nat.le_of_ble_eq_true rfl):CallOK Tryz.prog f args r bs:=callO_of fol hf hb hn hd hlen h
theorem fnM {blk blk':Blk} (hf:Tryz.prog.funcs[f]?=some fn)
  (h:wpL Tryz.prog c (fun e L=>match e with | .exit _=>False | _=>RetM Tryz.prog fn.results.toList L r blk') (St.mk (fun t=>args.getD t .any) (hp [(0,blk)])))
  (hb:fn.body=some c:=by exact rfl) (hn:(fn.name== "runtime.NumGoroutine")=false:=by decide +kernel) (hd:dstsOk fn.ntmps c=true:=by decide +kernel) (hlen:args.length≤fn.ntmps:=by exact Nat.le_of_ble_eq_true rfl) (hmt:blk.mt=true:=by exact rfl):CallOKM Tryz.prog f blk args r blk':=callM_of fol hf hb hn hd hlen hmt h
end
end Go.Proofs.YthpfpgfehmhpdaaGreat
end
section
set_option linter.unusedVariables false
set_option linter.unusedSimpArgs false
set_option maxHeartbeats 8000000
set_option maxRecDepth 100000
attribute [local irreducible] Go.Lg.opsL Go.Lg.wpL Go.Lg.thenL Go.Lg.blockL
namespace Go.Proofs.YthpfpgfehmhpdaaGreat
open Go.Lg
namespace H_c_trim
theorem zSm1 {p q:Prop} (k:q) (e:p=q:=by simp only [e1,e2,e3,e4,p1,p2,p3,q1,q2,q3,l1,t0,t1,r1,r2,r3,r4,Nat.zero_add,Nat.reduceMul,Nat.reduceAdd,b1,b2,b3,b4,b5,b6,i1,i2,i3,i4,i5,i6,Nat.reduceBEq,ej,ek];exact rfl):p:=e.mpr k
theorem nf1 {p:Prop} (h:p:=by first | (refine zSm1 ?_;exact rfl) | exact rfl):p:=h
theorem zSm2 {p q:Prop} (k:q) (e:p=q:=by simp only [e1,e2,e3,e4,p1,p2,p3,q1,q2,q3,l1,t0,t1,r1,r2,r3,r4,Nat.zero_add,Nat.reduceMul,Nat.reduceAdd,b1,b2,b3,b4,b5,b6,i1,i2,i3,i4,i5,i6,Nat.reduceBEq,ek];exact rfl):p:=e.mpr k
theorem nf2 {p:Prop} (h:p:=by first | (refine zSm2 ?_;exact rfl) | exact rfl):p:=h
end H_c_trim
open H_c_trim H0 in
theorem c_trim (l:List Nat) (hl:l.length≤4611686018427387904):CallP Tryz.prog 197 [limL l] (limL (trimL l)):=by
 unfold limL trimL
 refine fnP Tryz.func197 ?_
 refine zg14 ?_
 refine lp1 (fun(k:Nat) L=>(((St.mk L.slot (hp [])).put (some 0) (.list 1 (l.map u32L))).put (some 3) (nI64 k))) (fun k=>k≤l.length∧trimN l.length l=trimN k l) (fun k=>k) l.length ⟨Nat.le_refl _,rfl⟩ ?_
 rintro k L1 ⟨hk,hkt⟩
 refine zg6 ?_
 refine op_if 8 rfl (fun h8r h8=>?_) (fun h8r h8=>?_)
 ·obtain⟨j,rfl⟩:∃ j,k=j+1:=⟨k-1,by omega⟩
  have ej:(((j+1:Nat):Int)-1).toNat=j:=by omega
  have ek:(((j+1:Nat):Int)-1)=j:=by omega
  refine zg7 ?_
  refine st_end nf1 ?_
  refine zg1 ?_
  refine wl_if rfl (fun h15r h15=>?_) (fun h15r h15=>?_)
  ·refine zg7 ?_
   refine st_end nf2 ?_
   refine zg2 ?_
   exact nx1 j ⟨by omega,hkt.trans (by simp only [trimN];rw [if_pos (by simpa using h15)])⟩
  ·refine zg9 ?_
   refine st_pure rfl (by first | exact .sliceLh (h:=_) u32E rfl Tryz.underlying30 T181 rfl om | exact .sliceRh rfl Tryz.underlying30 T181 rfl om om) ?_
   refine zg4 ?_
   rw [hkt,trimN,if_neg (by simpa using h15)]
   exact ret1 rfl (.pure (pure_lst u32E _ _))
 ·have hk0:k=0:=by omega
  subst hk0
  have ej:True:=trivial
  have ek:True:=trivial
  refine zg7 ?_
  refine st_end nf1 ?_
  refine zg11 ?_
  refine st_pure rfl (by first | exact .sliceLh (h:=_) u32E rfl Tryz.underlying30 T181 rfl om | exact .sliceRh rfl Tryz.underlying30 T181 rfl om om) ?_
  refine zg4 ?_
  rw [hkt]
  exact ret1 rfl (.pure (pure_lst u32E _ _))
namespace H_c_Add
theorem zSm {p q:Prop} (k:q) (e:p=q:=by simp only [e1,e2,e3,e4,p1,p2,p3,q1,q2,q3,l1,t0,t1,r1,r2,r3,r4,Nat.zero_add,Nat.reduceMul,Nat.reduceAdd,b1,b2,b3,b4,b5,b6,i1,i2,i3,i4,i5,i6,Nat.reduceBEq,dflt];exact rfl):p:=e.mpr k
end H_c_Add
open H_c_Add in
theorem c_Add (a b:List Nat) (ha:Lim a) (hb:Lim b) (hla:a.length≤1099511627776) (hlb:b.length≤1099511627776):CallP Tryz.prog 280 [limL a,limL b] (magL (val a+val b)):=by
 unfold limL magL
 refine fnP Tryz.func280 ?_
 refine zg15 ?_
 refine wl_cut (fun L=>∃ (x:List Nat) (y:List Nat) (L1:St),(Lim x∧Lim y∧x.length≤1099511627776∧y.length≤x.length∧val a+val b=val x+val y)∧L=(((St.mk L1.slot (hp [])).put (some 0) (.list 1 (x.map u32L))).put (some 1) (.list 1 (y.map u32L)))) ?_ ?_
 ·refine wl_if rfl (fun h13r h13=>?_) (fun h13r h13=>?_)
  ·refine zg7 ?_
   exact⟨b,a,_,⟨hb,ha,hlb,by omega,Nat.add_comm _ _⟩,((put_id' (put_id' (mk_id' cl) cl) cl)).symm⟩
  ·refine zg2 ?_
   exact⟨a,b,_,⟨ha,hb,hla,by omega,rfl⟩,((put_id' (put_id' (mk_id' cl) cl) cl)).symm⟩
 ·rintro _ ⟨x,y,LC13,⟨hx,hy,hlx,hyx,hxy⟩,rfl⟩
  rw [hxy]
  refine zg6 ?_
  refine st_alloc rfl rfl (.mkE (n:=x.length+1) (m:=x.length+1) ml ml om om om) ?_
  refine zg17 ?_
  refine lp3 (fun(k:Nat) (o:List Nat) (c:Nat) L=>((((((((St.mk L.slot (hp [(19,⟨1,o.map u32L,true⟩)])).put (some 0) (.list 1 (x.map u32L))).put (some 1) (.list 1 (y.map u32L))).put (some 5) (.ref 19 1 0 (x.length+1))).put (some 6) (nU64 c)).put (some 20) (.list 1 (x.map u32L))).put (some 21) (nI64 x.length)).put (some 22) (nI64 k))) (fun k o c=>k≤x.length∧o.length=x.length+1∧c≤1∧Lim o∧val (o.take k)+4294967296 ^ k*c=val (x.take k)+val (y.take k)) (fun k o c=>x.length-k) 0 (List.replicate (x.length+1) 0) 0 ⟨Nat.zero_le _,by simp,by omega,lim_zeros _,by simp [val]⟩ ?_
  rintro k o c L1 ⟨hk,hol,hc,hlo,hv⟩
  have hxk:=getD_lim hx k
  have hyk:=getD_lim hy k
  refine zg6 ?_
  refine wl_if rfl (fun h23r h23=>?_) (fun h23r h23=>?_)
  ·refine zg31 ?_
   refine wl_if rfl (fun h34r h34=>?_) (fun h34r h34=>?_)
   ·refine zg33 ?_
    exact nx3 (k+1) (o.set k ((c+x.getD k 0+y.getD k 0) % 4294967296)) ((c+x.getD k 0+y.getD k 0)/4294967296) ⟨by omega,by simp [hol],by omega,lim_set hlo _ _ (Nat.mod_lt _ (by omega)),add_inv (by omega) hv rfl⟩
   ·refine zg24 ?_
    exact nx3 (k+1) (o.set k ((c+x.getD k 0) % 4294967296)) ((c+x.getD k 0)/4294967296) ⟨by omega,by simp [hol],by omega,lim_set hlo _ _ (Nat.mod_lt _ (by omega)),add_inv (by omega) hv (by rw [getD_ge y k (by omega)];rfl)⟩
  ·obtain rfl:k=x.length:=by omega
   refine zg19 ?_
   refine cpf [19] fm1 (c_trim _ (by first | omega | (simp;done) | (simp;omega))) ?_
   refine zg4 ?_
   rw [←add_end (c:=c % 4294967296) hyx hol hlo (by omega) (by rw [Nat.mod_eq_of_lt (by omega)];exact hv)]
   exact ret1 rfl (.pure (limL_pure _))
theorem c_trimD (l:List Nat) (h:Lim l) (hl:l.length≤4611686018427387904):CallP Tryz.prog 197 [limL l] (magL (val l)):=by
 have:=c_trim l hl
 rwa [trimL_dig h] at this
namespace H_c_NValid
theorem zSm {p q:Prop} (k:q) (e:p=q:=by simp only [e1,e2,e3,e4,p1,p2,p3,q1,q2,q3,l1,t0,t1,r1,r2,r3,r4,Nat.zero_add,Nat.reduceMul,Nat.reduceAdd,b1,b2,b3,b4,b5,b6,i1,i2,i3,i4,i5,i6,Nat.reduceBEq,dflt,ej];exact rfl):p:=e.mpr k
end H_c_NValid
open H_c_NValid in
theorem c_NValid (a:List Nat) (hl:a.length≤4611686018427387904):CallP Tryz.prog 126 [limL a] (bL (decide (a.length=0∨a.getD (a.length-1) 0≠0))):=by
 unfold limL
 refine fnP Tryz.func126 ?_
 have ej:True:=trivial
 refine zg11 ?_
 refine op_if 6 rfl (fun h6r h6=>?_) (fun h6r h6=>?_)
 ·have ej:True:=trivial
  refine zg12 ?_
  refine ret1 ?_ (.pure rfl)
  simp only [e1,e2,e3,e4,p1,p2,p3,q1,q2,q3,Nat.reduceBEq]
  congr 2
  first | (symm;rw [decide_eq_true_iff];omega) | (rw [Bool.eq_iff_iff,bne_iff_ne,decide_eq_true_iff];omega)
 ·have ej:((a.length:Int)-1).toNat=a.length-1:=by omega
  refine zg12 ?_
  refine ret1 ?_ (.pure rfl)
  simp only [e1,e2,e3,e4,p1,p2,p3,q1,q2,q3,Nat.reduceBEq]
  congr 2
  first | (symm;rw [decide_eq_true_iff];omega) | (rw [Bool.eq_iff_iff,bne_iff_ne,decide_eq_true_iff];omega)
namespace H_c_word
theorem zSm {p q:Prop} (k:q) (e:p=q:=by simp only [e1,e2,e3,e4,p1,p2,p3,q1,q2,q3,l1,t0,t1,r1,r2,r3,r4,Nat.zero_add,Nat.reduceMul,Nat.reduceAdd,b1,b2,b3,b4,b5,b6,i1,i2,i3,i4,i5,i6,Nat.reduceBEq,dflt,ej,ek];exact rfl):p:=e.mpr k
end H_c_word
open H_c_word in
theorem c_word (a:List Nat) (h:Lim a) (hl:a.length≤2):CallP Tryz.prog 201 [limL a] (nU64 (val a)):=by
 unfold limL
 refine fnP Tryz.func201 ?_
 have ej:True:=trivial
 have ek:True:=trivial
 refine zg20 ?_
 refine lp2 (fun(k n:Nat) L=>((((St.mk L.slot (hp [])).put (some 0) (.list 1 (a.map u32L))).put (some 3) (nU64 n)).put (some 4) (iL ((k:Int)-1)))) (fun k n=>k≤a.length∧n=val (a.drop k)) (fun k n=>k) a.length 0 ⟨Nat.le_refl _,by simp [val]⟩ ?_
 rintro k n L1 ⟨hk,hn⟩
 refine zg7 ?_
 refine wl_if rfl (fun h9r h9=>?_) (fun h9r h9=>?_)
 ·obtain⟨j,rfl⟩:∃ j,k=j+1:=⟨k-1,by omega⟩
  have ej:(((j+1:Nat):Int)-1).toNat=j:=by omega
  have ek:(((j+1:Nat):Int)-1)=j:=by omega
  have hb:=getD_lim h j
  have hn2:n<4294967296:=by have:=val_drop_lt h (k:=j+1) (j:=1) (by omega);rw [hn];simpa using this
  refine zg23 ?_
  exact nx2 j (n*4294967296+a.getD j 0) ⟨by omega,by rw [val_drop (by omega),hn];omega⟩
 ·obtain rfl:k=0:=by omega
  have ej:True:=trivial
  have ek:True:=trivial
  rw [List.drop_zero] at hn
  rw [←hn]
  refine zg12 ?_
  exact ret1 rfl (by first | exact .pure rfl | exact .pure (limL_pure _) | exact .pure (magL_pure _) | exact .pure (ratE.pure _) | exact .pure (pure_lst u32E _ _) | exact .pure (pure_lst ratE _ _))
namespace H_c_NCmp
theorem zSm {p q:Prop} (k:q) (e:p=q:=by simp only [e1,e2,e3,e4,p1,p2,p3,q1,q2,q3,l1,t0,t1,r1,r2,r3,r4,Nat.zero_add,Nat.reduceMul,Nat.reduceAdd,b1,b2,b3,b4,b5,b6,i1,i2,i3,i4,i5,i6,Nat.reduceBEq,dflt,ej,ek];exact rfl):p:=e.mpr k
end H_c_NCmp
open H_c_NCmp in
theorem c_NCmp (a b:List Nat) (ha:Lim a) (hb:Lim b) (hla:a.length≤1099511627776) (hlb:b.length≤1099511627776):CallP Tryz.prog 210 [limL a,limL b] (iL (cmpN (val a) (val b))):=by
 refine fnP Tryz.func210 ?_
 have ej:True:=trivial
 have ek:True:=trivial
 refine zg8 ?_
 refine cp am1 (c_trimD _ (by first | assumption | exact lim_dig _) (by omega)) ?_
 refine zg1 ?_
 refine cp am1 (c_trimD _ (by first | assumption | exact lim_dig _) (by omega)) ?_
 refine zg14 ?_
 refine wl_if rfl (fun h14r h14=>?_) (fun h14r h14=>?_)
 ·have hla2:(dig (val a)).length≤1099511627776:=by rw [←trimL_dig ha];unfold trimL;simp;omega
  refine zg10 ?_
  refine wl_if rfl (fun h19r h19=>?_) (fun h19r h19=>?_)
  ·have hE:=lt_of_len (m:=val a) (n:=val b) (by omega)
   refine zg8 ?_
   first | (rw [cmpN_lt hE];exact ret1 rfl (.pure rfl)) | (rw [cmpN_gt hE];exact ret1 rfl (.pure rfl)) | (rw [cmpN_eq hE];exact ret1 rfl (.pure rfl))
  ·have hE:=lt_of_len (m:=val b) (n:=val a) (by omega)
   refine zg9 ?_
   first | (rw [cmpN_lt hE];exact ret1 rfl (.pure rfl)) | (rw [cmpN_gt hE];exact ret1 rfl (.pure rfl)) | (rw [cmpN_eq hE];exact ret1 rfl (.pure rfl))
 ·have hlen:(dig (val a)).length=(dig (val b)).length:=by omega
  have hla2:(dig (val a)).length≤1099511627776:=by rw [←trimL_dig ha];unfold trimL;simp;omega
  clear h14 h14r
  refine zg12 ?_
  refine lp1 (fun(k:Nat) L=>((((St.mk L.slot (hp [])).put (some 0) (magL (val a))).put (some 1) (magL (val b))).put (some 5) (iL ((k:Int)-1)))) (fun k=>k≤(dig (val a)).length∧(dig (val a)).drop k=(dig (val b)).drop k) (fun k=>k) ((dig (val a)).length) ⟨Nat.le_refl _,by rw [List.drop_length,List.drop_of_length_le (by omega)]⟩ ?_
  rintro k L1 ⟨hk,hd⟩
  refine zg7 ?_
  refine wl_if rfl (fun h24r h24=>?_) (fun h24r h24=>?_)
  ·obtain⟨j,rfl⟩:∃ j,k=j+1:=⟨k-1,by omega⟩
   have ej:(((j+1:Nat):Int)-1).toNat=j:=by omega
   have ek:(((j+1:Nat):Int)-1)=j:=by omega
   refine zg5 ?_
   refine wl_regD 9 (by decide +kernel) ?_
   refine zg11 ?_
   refine wl_if rfl (fun h35r h35=>?_) (fun h35r h35=>?_)
   ·refine zg2 ?_
    refine wl_regD 9 (by decide +kernel) ?_
    refine zg11 ?_
    refine wl_if rfl (fun h44r h44=>?_) (fun h44r h44=>?_)
    ·have hE:=val_lt_of_limb (lim_dig (val a)) (k:=j) (by omega) (by omega) hd (by omega)
     rw [val_dig,val_dig] at hE
     refine zg12 ?_
     first | (rw [cmpN_lt hE];exact ret1 rfl (.pure rfl)) | (rw [cmpN_gt hE];exact ret1 rfl (.pure rfl)) | (rw [cmpN_eq hE];exact ret1 rfl (.pure rfl))
    ·have hE:=val_lt_of_limb (lim_dig (val b)) (k:=j) (by omega) (by omega) hd.symm (by omega)
     rw [val_dig,val_dig] at hE
     refine zg13 ?_
     first | (rw [cmpN_lt hE];exact ret1 rfl (.pure rfl)) | (rw [cmpN_gt hE];exact ret1 rfl (.pure rfl)) | (rw [cmpN_eq hE];exact ret1 rfl (.pure rfl))
   ·refine zg9 ?_
    exact nx1 j ⟨by omega,drop_eq_of (by omega) (by omega) hd (by omega)⟩
  ·obtain rfl:k=0:=by omega
   have ej:True:=trivial
   have ek:True:=trivial
   rw [List.drop_zero,List.drop_zero] at hd
   have hE:val a=val b:=by have:=congrArg val hd;rwa [val_dig,val_dig] at this
   refine zg11 ?_
   first | (rw [cmpN_lt hE];exact ret1 rfl (.pure rfl)) | (rw [cmpN_gt hE];exact ret1 rfl (.pure rfl)) | (rw [cmpN_eq hE];exact ret1 rfl (.pure rfl))
theorem len_trim_le {b:List Nat} (h:Lim b):(dig (val b)).length≤b.length:=by
 rw [←trimL_dig h];unfold trimL;simp;exact Nat.min_le_right _ _
open H0 in
theorem c_NSubLt (a b:List Nat) (ha:Lim a) (hb:Lim b) (hla:a.length≤1099511627776) (hlb:b.length≤1099511627776) (hlt:val a<val b):CallP Tryz.prog 281 [limL a,limL b] (.tup [limL [],iL 7]):=by
 refine fnP Tryz.func281 ?_
 refine zg11 ?_
 refine cp am2 (c_NCmp _ _ (by first | assumption | exact lim_dig _) (by first | assumption | exact lim_dig _) (by omega) (by omega)) ?_
 refine zg3 ?_
 refine wl_if rfl (fun h15r h15=>?_) (fun h15r h15=>?_)
 ·refine zg8 ?_
  exact ret2 rfl (.nil 1) rfl (.pure rfl)
 ·exfalso;rw [cmpN_lt hlt] at h15;omega
theorem sub_invW {k br:Nat} {a b o:List Nat} (hol:k<o.length) (hbr:br≤1) (hx:a.getD k 0<4294967296) (hyb:b.getD k 0<4294967296) (hlo:Lim o) (hv:val (o.take k)+val (b.take k)=val (a.take k)+4294967296 ^ k*br) {y d:Nat}
  (hy:y=br+b.getD k 0) (hd:d=(18446744073709551616+a.getD k 0-y) % 18446744073709551616) :
  d/9223372036854775808≤1∧Lim (o.set k (d % 4294967296))∧val ((o.set k (d % 4294967296)).take (k+1))+val (b.take (k+1))=val (a.take (k+1))+4294967296 ^ (k+1)*(d/9223372036854775808):=by
 refine⟨by omega,lim_set hlo _ _ (by omega),?_⟩
 rcases Nat.lt_or_ge (a.getD k 0) y with h | h
 ·have h1:d % 4294967296=4294967296+a.getD k 0-y:=by omega
  have h2:d/9223372036854775808=1:=by omega
  rw [h1,h2]
  exact sub_inv1 hol hv hy h (by omega)
 ·have h1:d % 4294967296=a.getD k 0-y:=by omega
  have h2:d/9223372036854775808=0:=by omega
  rw [h1,h2]
  exact sub_inv0 hol hv hy h
namespace H_c_NSub
theorem zSm {p q:Prop} (k:q) (e:p=q:=by simp only [e1,e2,e3,e4,p1,p2,p3,q1,q2,q3,l1,t0,t1,r1,r2,r3,r4,Nat.zero_add,Nat.reduceMul,Nat.reduceAdd,b1,b2,b3,b4,b5,b6,i1,i2,i3,i4,i5,i6,Nat.reduceBEq,dflt];exact rfl):p:=e.mpr k
end H_c_NSub
open H_c_NSub in
theorem c_NSub (a b:List Nat) (ha:Lim a) (hb:Lim b) (hla:a.length≤1099511627776) (hlb:b.length≤1099511627776) (hle:val b≤val a):CallP Tryz.prog 281 [limL a,limL b] (.tup [magL (val a-val b),iL 0]):=by
 have hbl:(dig (val b)).length≤a.length:=by
  apply dig_length_le;exact Nat.lt_of_le_of_lt hle (val_lt ha)
 refine fnP Tryz.func281 ?_
 refine zg11 ?_
 refine cp am2 (c_NCmp _ _ (by first | assumption | exact lim_dig _) (by first | assumption | exact lim_dig _) (by omega) (by omega)) ?_
 refine zg3 ?_
 refine wl_if rfl (fun h15r h15=>?_) (fun h15r h15=>?_)
 ·exfalso
  rcases Nat.lt_or_eq_of_le hle with h | h
  ·rw [cmpN_gt h] at h15;omega
  ·rw [cmpN_eq h.symm] at h15;omega
 ·refine zg5 ?_
  refine cp am1 (c_trimD _ (by first | assumption | exact lim_dig _) (by omega)) ?_
  refine zg7 ?_
  refine st_alloc rfl rfl (.mkE (n:=a.length) (m:=a.length) ml ml om om om) ?_
  refine zg17 ?_
  refine lp3 (fun(k:Nat) (o:List Nat) (br:Nat) L=>((((((((St.mk L.slot (hp [(20,⟨1,o.map u32L,true⟩)])).put (some 0) (.list 1 (a.map u32L))).put (some 1) (magL (val b))).put (some 6) (.ref 20 1 0 a.length)).put (some 7) (nU64 br)).put (some 21) (.list 1 (a.map u32L))).put (some 22) (nI64 a.length)).put (some 23) (nI64 k))) (fun k o br=>k≤a.length∧o.length=a.length∧br≤1∧Lim o∧val (o.take k)+val ((dig (val b)).take k)=val (a.take k)+4294967296 ^ k*br) (fun k o br=>a.length-k) 0 (List.replicate a.length 0) 0 ⟨Nat.zero_le _,by simp,by omega,lim_zeros _,by simp [val]⟩ ?_
  rintro k o br L1 ⟨hk,hol,hbr,hlo,hv⟩
  have hxk:=getD_lim ha k
  have hyk:=getD_dig_lt (val b) k
  refine zg6 ?_
  refine wl_if rfl (fun h24r h24=>?_) (fun h24r h24=>?_)
  ·refine zg28 ?_
   refine wl_cut (fun L=>∃ (y:Nat) (L1:St),(y=br+(dig (val b)).getD k 0)∧L=(((((((((((St.mk L1.slot (hp [(20,⟨1,o.map u32L,true⟩)])).put (some 0) (.list 1 (a.map u32L))).put (some 1) (magL (val b))).put (some 6) (.ref 20 1 0 a.length)).put (some 7) (nU64 br)).put (some 21) (.list 1 (a.map u32L))).put (some 22) (nI64 a.length)).put (some 23) (nI64 k)).put (some 9) (u32L (a.getD k 0))).put (some 8) (nI64 k)).put (some 10) (nU64 y))) ?_ ?_
   ·refine wl_if rfl (fun h32r h32=>?_) (fun h32r h32=>?_)
    ·refine zg11 ?_
     exact⟨br+(dig (val b)).getD k 0,_,rfl,((put_id' (put_id' (put_id' (put_id' (put_id' (put_id' (put_id' (put_id' (put_id' (put_id' (mk_id' cl) cl) cl) cl) cl) cl) cl) cl) cl) cl) cl)).symm⟩
    ·refine zg2 ?_
     exact⟨br,_,by rw [getD_ge _ k (by omega)];rfl,((put_id' (put_id' (put_id' (put_id' (put_id' (put_id' (put_id' (put_id' (put_id' (put_id' (mk_id' cl) cl) cl) cl) cl) cl) cl) cl) cl) cl) cl)).symm⟩
   ·rintro _ ⟨y,LC32,hy,rfl⟩
    refine zg6 ?_
    refine st_pure rfl (.bin rfl rfl (subW (by omega))) ?_
    refine zg25 ?_
    exact nx3 (k+1) (o.set k ((18446744073709551616+a.getD k 0-y) % 18446744073709551616 % 4294967296)) ((18446744073709551616+a.getD k 0-y) % 18446744073709551616/9223372036854775808) ⟨by omega,by simp [hol],sub_invW (by omega) hbr hxk hyk hlo hv hy rfl⟩
  ·obtain rfl:k=a.length:=by omega
   refine zg8 ?_
   refine cpf [20] fm1 (c_trimD _ (by first | assumption | exact lim_dig _) (by omega)) ?_
   refine zg5 ?_
   have e:=sub_end ha hlo hol hbl (by rw [val_dig];exact hle) hv
   rw [trimL_dig hlo,val_dig] at e
   have e2:=congrArg val e
   rw [val_dig,val_dig] at e2
   rw [←e2]
   exact ret2 rfl (.pure (magL_pure _)) rfl (.pure rfl)
theorem mul_s_lt {c x y z:Nat} (hc:c<4294967296) (hx:x<4294967296) (hy:y<4294967296) (hz:z<4294967296):c+(x*y+z)<18446744073709551616:=by
 have:=mulLt hx hy;omega
theorem mul_zero {i x:Nat} {a b o:List Nat} (hx:x=a.getD i 0) (h0:x=0) (hv:val o=val (a.take i)*val b):val o=val (a.take (i+1))*val b:=by
 rw [val_take_succ',←hx,h0];simpa using hv
theorem zeros_set {i m j x:Nat} {o:List Nat} (hj:j<m) (hz:∀ p,i+m≤p→o.getD p 0=0):∀ p,i+m≤p→(o.set (i+j) x).getD p 0=0:=fun p hp=>by
 rw [Go.Lg.getD_set_ne _ _ _ _ (by omega)];exact hz p hp
theorem zeros_end {i m x:Nat} {o:List Nat} (hz:∀ p,i+m≤p→o.getD p 0=0):∀ p,i+1+m≤p→(o.set (i+m) x).getD p 0=0:=fun p hp=>by
 rw [Go.Lg.getD_set_ne _ _ _ _ (by omega)];exact hz p (by omega)
theorem getD_zeros (n p:Nat):(List.replicate n 0).getD p 0=0:=by
 rw [List.getD_eq_getElem?_getD,List.getElem?_replicate];split<;>rfl
namespace H_c_NMul
theorem zSm {p q:Prop} (k:q) (e:p=q:=by simp only [e1,e2,e3,e4,p1,p2,p3,q1,q2,q3,l1,t0,t1,r1,r2,r3,r4,Nat.zero_add,Nat.reduceMul,Nat.reduceAdd,b1,b2,b3,b4,b5,b6,i1,i2,i3,i4,i5,i6,Nat.reduceBEq,dflt,eij];exact rfl):p:=e.mpr k
end H_c_NMul
open H_c_NMul in
theorem c_NMul (a b:List Nat) (ha:Lim a) (hb:Lim b) (hla:a.length≤1099511627776) (hlb:b.length≤1099511627776):CallP Tryz.prog 211 [limL a,limL b] (magL (val a*val b)):=by
 unfold limL
 refine fnP Tryz.func211 ?_
 have eij:True:=trivial
 refine zg12 ?_
 refine st_alloc rfl rfl (.mkE (n:=a.length+b.length) (m:=a.length+b.length) ml ml om om om) ?_
 refine zg12 ?_
 refine lp2 (fun(i:Nat) (o:List Nat) L=>(((((((St.mk L.slot (hp [(16,⟨1,o.map u32L,true⟩)])).put (some 0) (.list 1 (a.map u32L))).put (some 1) (.list 1 (b.map u32L))).put (some 5) (.ref 16 1 0 (a.length+b.length))).put (some 17) (.list 1 (a.map u32L))).put (some 18) (nI64 a.length)).put (some 19) (nI64 i))) (fun i o=>i≤a.length∧o.length=a.length+b.length∧Lim o∧val o=val (a.take i)*val b∧∀ p,i+b.length≤p→o.getD p 0=0) (fun i o=>a.length-i) 0 (List.replicate (a.length+b.length) 0) ⟨Nat.zero_le _,by simp,lim_zeros _,by simp [val,val_zeros],fun p _=>getD_zeros _ _⟩ ?_
 rintro i o L1 ⟨hi,hol,hlo,hv,hz⟩
 have hxi:=getD_lim ha i
 have eij:True:=trivial
 refine zg6 ?_
 refine wl_if rfl (fun h20r h20=>?_) (fun h20r h20=>?_)
 ·refine zg20 ?_
  refine wl_if rfl (fun h25r h25=>?_) (fun h25r h25=>?_)
  ·refine zg9 ?_
   exact nx2 (i+1) o ⟨by omega,hol,hlo,mul_zero rfl (by omega) hv,fun p hp=>hz p (by omega)⟩
  ·refine zg16 ?_
   refine lp3 (fun(j:Nat) (o:List Nat) (c:Nat) L=>(((((((((((((St.mk L.slot (hp [(16,⟨1,o.map u32L,true⟩)])).put (some 0) (.list 1 (a.map u32L))).put (some 1) (.list 1 (b.map u32L))).put (some 5) (.ref 16 1 0 (a.length+b.length))).put (some 17) (.list 1 (a.map u32L))).put (some 18) (nI64 a.length)).put (some 19) (nI64 i)).put (some 6) (nI64 i)).put (some 7) (u32L (a.getD i 0))).put (some 8) (nU64 c)).put (some 26) (.list 1 (b.map u32L))).put (some 27) (nI64 b.length)).put (some 28) (nI64 j))) (fun j o c=>j≤b.length∧o.length=a.length+b.length∧Lim o∧c<4294967296∧val o+4294967296 ^ (i+j)*c=val (a.take i)*val b+4294967296 ^ i*(a.getD i 0*val (b.take j))∧∀ p,i+b.length≤p→o.getD p 0=0) (fun j o c=>b.length-j) 0 o 0 ⟨Nat.zero_le _,hol,hlo,by omega,by rw [hv];simp [val],hz⟩ ?_
   rintro j o c L2 ⟨hj,hol,hlo,hc,hv,hz⟩
   have hyj:=getD_lim hb j
   have hzj:=getD_lim hlo (i+j)
   have hs:=mul_s_lt hc hxi hyj hzj
   have eij:((i:Int)+(j:Int)).toNat=i+j:=by omega
   refine zg6 ?_
   refine wl_if rfl (fun h29r h29=>?_) (fun h29r h29=>?_)
   ·refine zg57 ?_
    exact nx3 (j+1) (o.set (i+j) ((c+(a.getD i 0*b.getD j 0+o.getD (i+j) 0)) % 4294967296)) ((c+(a.getD i 0*b.getD j 0+o.getD (i+j) 0))/4294967296) ⟨by omega,by simp [hol],lim_set hlo _ _ (Nat.mod_lt _ (by omega)),by omega,mul_inv (by omega) hv rfl,zeros_set (by omega) hz⟩
   ·obtain rfl:j=b.length:=by omega
    have eij2:((i:Int)+(b.length:Int)).toNat=i+b.length:=by omega
    refine zg23 ?_
    exact nx2 (i+1) (o.set (i+b.length) (c % 4294967296)) ⟨by omega,by simp [hol],lim_set hlo _ _ (Nat.mod_lt _ (by omega)),by rw [Nat.mod_eq_of_lt hc];exact mul_row (by omega) (by omega) (hz _ (Nat.le_refl _)) rfl rfl hv,zeros_end hz⟩
 ·obtain rfl:i=a.length:=by omega
  refine zg8 ?_
  refine cpf [16] fm1 (c_trimD _ (by first | assumption | exact lim_dig _) (by first | omega | (simp;done) | (simp;omega))) ?_
  refine zg4 ?_
  rw [List.take_length] at hv
  rw [←hv]
  exact ret1 rfl (by first | exact .pure rfl | exact .pure (limL_pure _) | exact .pure (magL_pure _) | exact .pure (ratE.pure _) | exact .pure (pure_lst u32E _ _) | exact .pure (pure_lst ratE _ _))
namespace H_c_Nsmall
theorem zSm {p q:Prop} (k:q) (e:p=q:=by simp only [e1,e2,e3,e4,p1,p2,p3,q1,q2,q3,l1,t0,t1,r1,r2,r3,r4,Nat.zero_add,Nat.reduceMul,Nat.reduceAdd,b1,b2,b3,b4,b5,b6,i1,i2,i3,i4,i5,i6,Nat.reduceBEq,dflt,ej,ek];exact rfl):p:=e.mpr k
end H_c_Nsmall
open H_c_Nsmall in
theorem c_Nsmall (a:List Nat) (d:Nat) (ha:Lim a) (hla:a.length≤1099511627776) (hd0:0<d) (hd:d<4294967296):CallP Tryz.prog 248 [limL a,nU32 d] (.tup [magL (val a/d),nU32 (val a % d)]):=by
 unfold limL
 refine fnP Tryz.func248 ?_
 have ej:True:=trivial
 have ek:True:=trivial
 refine zg10 ?_
 refine st_alloc rfl rfl (.mkE (n:=a.length) (m:=a.length) ml ml om om om) ?_
 refine zg18 ?_
 refine lp3 (fun(k:Nat) (q:List Nat) (r:Nat) L=>((((((St.mk L.slot (hp [(11,⟨1,q.map u32L,true⟩)])).put (some 0) (.list 1 (a.map u32L))).put (some 1) (nU32 d)).put (some 6) (.ref 11 1 0 a.length)).put (some 7) (nU64 r)).put (some 8) (iL ((k:Int)-1)))) (fun k q r=>k≤a.length∧q.length=a.length∧Lim q∧r<d∧val (q.drop k)*d+r=val (a.drop k)) (fun k q r=>k) a.length (List.replicate a.length 0) 0 ⟨Nat.le_refl _,by simp,lim_zeros _,hd0,by simp [val]⟩ ?_
 rintro k q r L1 ⟨hk,hql,hlq,hr,hv⟩
 refine zg7 ?_
 refine wl_if rfl (fun h16r h16=>?_) (fun h16r h16=>?_)
 ·obtain⟨j,rfl⟩:∃ j,k=j+1:=⟨k-1,by omega⟩
  have ej:(((j+1:Nat):Int)-1).toNat=j:=by omega
  have ek:(((j+1:Nat):Int)-1)=j:=by omega
  have hxj:=getD_lim ha j
  refine zg24 ?_
  refine st_pure rfl (.bin rfl rfl (quoU (by omega) (by omega))) ?_
  refine zg20 ?_
  exact nx3 j (q.set j ((r*4294967296+a.getD j 0)/d % 4294967296)) ((r*4294967296+a.getD j 0) % d) ⟨by omega,by simp [hql],lim_set hlq _ _ (Nat.mod_lt _ (by omega)),Nat.mod_lt _ hd0,by rw [Nat.mod_eq_of_lt (small_lt hr hxj)];exact small_inv (by omega) hql hv rfl⟩
 ·obtain rfl:k=0:=by omega
  have ej:True:=trivial
  have ek:True:=trivial
  refine zg8 ?_
  refine cpf [11] fm1 (c_trimD _ (by first | assumption | exact lim_dig _) (by first | omega | (simp;done) | (simp;omega))) ?_
  refine zg7 ?_
  obtain⟨E1,E2⟩:=small_end hd0 hr hlq hv
  rw [trimL_dig hlq] at E1
  have E3:=congrArg val E1
  rw [val_dig,val_dig] at E3
  rw [←E3,←E2]
  have E4:r % 4294967296=r:=Nat.mod_eq_of_lt (by omega)
  refine ret2 rfl (.pure (magL_pure _)) rfl ?_
  show Imm _ (nU32 (r % 4294967296)) (nU32 r)
  rw [E4]
  exact .pure rfl
theorem pow_s {s:Nat} (hs:s<32):2 ^ s≤2147483648∧0<2 ^ s:=⟨Nat.pow_le_pow_right (n:=2) (by omega) (show s≤31 by omega),Nat.pow_pos (by omega)⟩
theorem wrap8 {m:Nat} (h:m<256):(0:Int)≤IntKind.u8.wrap (m:Int)∧(IntKind.u8.wrap (m:Int)).toNat=m:=by
 rw [IntKind.wrap_u8];omega
theorem shl_lt {x p:Nat} (hx:x<4294967296) (hp:p≤2147483648):x*p≤9223372034707292160:=by
 have:=Nat.mul_le_mul (Nat.le_sub_one_of_lt hx) hp;simpa using this
theorem carry_lt {x p c:Nat} (hx:x<4294967296) (hc:c<p):(x*p+c)/4294967296<p:=by
 rw [Nat.div_lt_iff_lt_mul (by omega)]
 have:(x+1)*p≤4294967296*p:=Nat.mul_le_mul_right _ hx
 rw [Nat.add_mul] at this
 rw [Nat.mul_comm p];omega
namespace H_c_raise
theorem zSm {p q:Prop} (k:q) (e:p=q:=by simp only [e1,e2,e3,e4,p1,p2,p3,q1,q2,q3,l1,t0,t1,r1,r2,r3,r4,Nat.zero_add,Nat.reduceMul,Nat.reduceAdd,b1,b2,b3,b4,b5,b6,i1,i2,i3,i4,i5,i6,Nat.reduceBEq,dflt];exact rfl):p:=e.mpr k
end H_c_raise
open H_c_raise in
theorem c_raise (a:List Nat) (s:Nat) (ha:Lim a) (hla:a.length≤1099511627776) (hs:s<32):CallOK Tryz.prog 250 [limL a,nI64 s] (.ref 1 1 0 (a.length+1)) [⟨1,(padL (a.length+1) (val a*2 ^ s)).map u32L,true⟩]:=by
 unfold limL
 refine fnO Tryz.func250 ?_
 refine zg10 ?_
 refine st_alloc rfl rfl (.mkE (n:=a.length+1) (m:=a.length+1) ml ml om om om) ?_
 refine zg17 ?_
 refine lp3 (fun(k:Nat) (o:List Nat) (c:Nat) L=>((((((((St.mk L.slot (hp [(12,⟨1,o.map u32L,true⟩)])).put (some 0) (.list 1 (a.map u32L))).put (some 1) (nI64 s)).put (some 5) (.ref 12 1 0 (a.length+1))).put (some 6) (nU64 c)).put (some 13) (.list 1 (a.map u32L))).put (some 14) (nI64 a.length)).put (some 15) (nI64 k))) (fun k o c=>k≤a.length∧o.length=a.length+1∧c<2 ^ s∧Lim o∧val (o.take k)+4294967296 ^ k*c=val (a.take k)*2 ^ s) (fun k o c=>a.length-k) 0 (List.replicate (a.length+1) 0) 0 ⟨Nat.zero_le _,by simp,(pow_s hs).2,lim_zeros _,by simp [val]⟩ ?_
 rintro k o c L1 ⟨hk,hol,hc,hlo,hv⟩
 have hxk:=getD_lim ha k
 obtain⟨hp1,hp2⟩:=pow_s hs
 have hsx:=shl_lt hxk hp1
 refine zg6 ?_
 refine wl_if rfl (fun h16r h16=>?_) (fun h16r h16=>?_)
 ·refine zg19 ?_
  refine st_pure rfl (.sh rfl rfl (shlV (by omega) (by omega))) ?_
  refine st_pure rfl (.bin rfl rfl (orV hc (by omega))) ?_
  refine zg25 ?_
  exact nx3 (k+1) (o.set k ((a.getD k 0*2 ^ s+c) % 4294967296)) ((a.getD k 0*2 ^ s+c)/4294967296) ⟨by omega,by simp [hol],carry_lt hxk hc,lim_set hlo _ _ (Nat.mod_lt _ (by omega)),raise_inv (by omega) hv rfl⟩
 ·obtain rfl:k=a.length:=by omega
  refine zg23 ?_
  have hc2:c % 4294967296=c:=Nat.mod_eq_of_lt (by omega)
  have E:=raise_end hol hv
  have E2:=padL_eq (lim_set hlo a.length c (by omega)) (by simp only [List.length_set];exact hol)
  rw [E] at E2
  rw [←E2]
  simp only [hc2]
  exact ret1own rfl rfl (pures_map u32E _)
open H0 in
theorem c_NOf (n:Nat) (hn:n<18446744073709551616):CallP Tryz.prog 202 [nU64 n] (magL n):=by
 have hL:Lim [n % 4294967296,n/4294967296 % 4294967296]:=by
  intro x hx;simp at hx;omega
 have hV:val [n % 4294967296,n/4294967296 % 4294967296]=n:=by rw [val_two];omega
 refine fnP Tryz.func202 ?_
 refine zg13 ?_
 refine cpf [8] fm1 (c_trimD _ (by first | assumption | exact lim_dig _) (by first | omega | (simp;done) | (simp;omega))) ?_
 refine zg4 ?_
 skip
 exact ret1 rfl (by rw [hV];exact .pure (magL_pure _))
namespace H_c_Len32
theorem zSm1 {p q:Prop} (k:q) (e:p=q:=by simp only [e1,e2,e3,e4,p1,p2,p3,q1,q2,q3,l1,t0,t1,r1,r2,r3,r4,Nat.zero_add,Nat.reduceMul,Nat.reduceAdd,b1,b2,b3,b4,b5,b6,i1,i2,i3,i4,i5,i6,Nat.reduceBEq,hbn];exact rfl):p:=e.mpr k
theorem nf1 {p:Prop} (h:p:=by first | (refine zSm1 ?_;exact rfl) | exact rfl):p:=h
end H_c_Len32
open H_c_Len32 H0 in
theorem c_Len32 (n:Nat) (hn:n<4294967296):CallP Tryz.prog 198 [nU32 n] (iL (blen n)):=by
 refine fnP Tryz.func198 ?_
 refine zg12 ?_
 refine wl_cut (fun L=>∃ (m:Nat) (q:Nat) (L1:St),(blen n=q+blen m∧m<65536∧q≤16)∧L=(((St.mk L1.slot (hp [])).put (some 0) (nU32 m)).put (some 2) (iL q))) ?_ ?_
 ·refine wl_if rfl (fun h4r h4=>?_) (fun h4r h4=>?_)
  ·refine zg3 ?_
   refine st_pure rfl (.sh rfl rfl (shrC (m:=16) (by decide))) ?_
   refine zg7 ?_
   exact⟨n/2 ^ 16,16,_,⟨blen_div (by omega),by omega,by omega⟩,((put_id' (put_id' (mk_id' cl) cl) cl)).symm⟩
  ·refine zg2 ?_
   exact⟨n,0,_,⟨by omega,by omega,by omega⟩,((put_id' (put_id' (mk_id' cl) cl) cl)).symm⟩
 ·rintro _ ⟨m,q,LC4,⟨hb1,hm,hq⟩,rfl⟩
  refine zg8 ?_
  refine wl_cut (fun L=>∃ (m2:Nat) (q2:Nat) (L1:St),(blen n=q2+blen m2∧m2<256∧q2≤24)∧L=(((St.mk L1.slot (hp [])).put (some 0) (nU32 m2)).put (some 2) (iL q2))) ?_ ?_
  ·refine wl_if rfl (fun h8r h8=>?_) (fun h8r h8=>?_)
   ·refine zg3 ?_
    refine st_pure rfl (.sh rfl rfl (shrC (m:=8) (by decide))) ?_
    refine zg9 ?_
    exact⟨m/2 ^ 8,q+8,_,⟨by rw [hb1,blen_div (n:=m) (k:=8) (by omega)];omega,by omega,by omega⟩,((put_id' (put_id' (mk_id' cl) cl) cl)).symm⟩
   ·refine zg2 ?_
    exact⟨m,q,_,⟨hb1,by omega,by omega⟩,((put_id' (put_id' (mk_id' cl) cl) cl)).symm⟩
  ·rintro _ ⟨m2,q2,LC8,⟨hb2,hm2,hq2⟩,rfl⟩
   have hb8:blen m2≤8:=blen_le.2 hm2
   have hbn:(UInt8.ofNat (blen m2)).toNat=blen m2:=(by decide:∀ k,k≤8→(UInt8.ofNat k).toNat=k) _ hb8
   refine zg6 ?_
   refine st_pure rfl (.indexS (b:=UInt8.ofNat (blen m2)) rfl Tryz.underlying9 rfl (wrap8 hm2).1 (by rw [(wrap8 hm2).2];exact tbl (by decide +kernel) hm2)) ?_
   refine st_pure rfl (.cvI Tryz.underlying5 Tryz.underlying3 rfl (by omega) (by omega)) ?_
   refine st_pure rfl (.bin rfl rfl (add64 (by omega) (by omega))) ?_
   refine zg1 ?_
   refine st_end nf1 ?_
   refine zg2 ?_
   rw [hb2]
   exact ret1 rfl (by first | exact .pure rfl | (rw [hbn];exact .pure rfl))
open H0 in
theorem c_LZ32 (n:Nat) (hn:n<4294967296):CallP Tryz.prog 249 [nU32 n] (iL (32-blen n)):=by
 have hb:blen n≤32:=blen_le.2 hn
 refine fnP Tryz.func249 ?_
 refine zg8 ?_
 refine cp am1 (c_Len32 _ (by omega)) ?_
 refine zg5 ?_
 exact ret1 rfl (by first | exact .pure rfl | exact .pure (limL_pure _) | exact .pure (magL_pure _) | exact .pure (ratE.pure _) | exact .pure (pure_lst u32E _ _) | exact .pure (pure_lst ratE _ _))
theorem c_trimC (l:List Nat) (h:Lim l) (hl:l.length≤1099511627776):(dig (val l)).length≤1099511627776:=Nat.le_trans (len_trim_le h) hl
theorem blen_dig {n:Nat} (h:0<(dig n).length):32*((dig n).length-1)+blen ((dig n).getD ((dig n).length-1) 0)=blen n:=by
 have:=blen_val (lim_dig n) (can_dig n) h
 rw [val_dig] at this;omega
namespace H_c_NBits
theorem zSm {p q:Prop} (k:q) (e:p=q:=by simp only [e1,e2,e3,e4,p1,p2,p3,q1,q2,q3,l1,t0,t1,r1,r2,r3,r4,Nat.zero_add,Nat.reduceMul,Nat.reduceAdd,b1,b2,b3,b4,b5,b6,i1,i2,i3,i4,i5,i6,Nat.reduceBEq,dflt,ej];exact rfl):p:=e.mpr k
end H_c_NBits
open H_c_NBits in
theorem c_NBits (a:List Nat) (ha:Lim a) (hla:a.length≤1099511627776):CallP Tryz.prog 127 [limL a] (iL (blen (val a))):=by
 have hlt:=c_trimC a ha hla
 refine fnP Tryz.func127 ?_
 have ej:True:=trivial
 refine zg8 ?_
 refine cp am1 (c_trimD _ (by first | assumption | exact lim_dig _) (by first | omega | (simp;done) | (simp;omega))) ?_
 refine zg11 ?_
 refine wl_if rfl (fun h7r h7=>?_) (fun h7r h7=>?_)
 ·have h0:val a=0:=dig_eq_nil.1 (List.eq_nil_of_length_eq_zero (by omega))
  have hz:blen (val a)=0:=blen_zero.2 h0
  refine zg7 ?_
  rw [hz]
  exact ret1 rfl (by first | exact .pure rfl | exact .pure (limL_pure _) | exact .pure (magL_pure _) | exact .pure (ratE.pure _) | exact .pure (pure_lst u32E _ _) | exact .pure (pure_lst ratE _ _))
 ·have hpos:0<(dig (val a)).length:=by omega
  have ej:(((dig (val a)).length:Int)-1).toNat=(dig (val a)).length-1:=by omega
  have hz:=blen_dig hpos
  have hlim:=getD_dig_lt (val a) ((dig (val a)).length-1)
  have hb32:blen ((dig (val a)).getD ((dig (val a)).length-1) 0)≤32:=blen_le.2 hlim
  refine zg14 ?_
  refine cp am1 (c_Len32 _ (by rw [ej];exact hlim)) ?_
  refine st_pure rfl (.bin rfl rfl (add64 (by simp only [ej,dflt];omega) (by simp only [ej,dflt];omega))) ?_
  refine zg4 ?_
  refine ret1 ?_ (.pure rfl)
  simp only [e1,e2,e3,e4,p1,p2,p3,q1,q2,q3,Nat.reduceBEq]
  congr 2
  omega
namespace H_c_Clone
theorem zSm1 {p q:Prop} (k:q) (e:p=q:=by simp only [e1,e2,e3,e4,p1,p2,p3,q1,q2,q3,l1,t0,t1,r1,r2,r3,r4,Nat.zero_add,Nat.reduceMul,Nat.reduceAdd,b1,b2,b3,b4,b5,b6,i1,i2,i3,i4,i5,i6,Nat.reduceBEq,List.take_zero,List.take_nil,List.nil_append,kills_map u32E,LV.kill];exact rfl):p:=e.mpr k
theorem nf1 {p:Prop} (h:p:=by first | (refine zSm1 ?_;exact rfl) | exact rfl):p:=h
end H_c_Clone
open H_c_Clone H0 in
theorem c_Clone (a:List Nat) (hla:a.length≤1099511627776):CallP Tryz.prog 199 [limL a] (limL a):=by
 unfold limL
 refine fnP Tryz.func199 ?_
 refine zg7 ?_
 refine wl_regE (nil_reg (sz:=1) (l:=a.map u32L) rfl Tryz.underlying30 (fun b hb=>?_))
 refine zg1 ?_
 refine wl_if rfl (fun h4r h4=>?_) (fun h4r h4=>?_)
 ·have hnil:a=[]:=by simpa using hb h4r
  subst hnil
  refine zg7 ?_
  exact ret1 rfl (.nil 1)
 ·refine zg6 ?_
  refine st_store rfl (.app rfl rfl rfl rfl rfl (Nat.zero_le _) (.inr rfl) (by decide) Tryz.underlying30 Tryz.underlying30 Z181 T181 rfl B181 (.inr (.inl rfl)) (by simp;omega) (by simp;omega) (by decide)) ?_
  refine zg1 ?_
  refine st_end nf1 ?_
  refine zg2 ?_
  exact ret1f [7] rfl rfl (imm_refm u32E rfl rfl (by simp))
namespace H_c_Equal
theorem zSm {p q:Prop} (k:q) (e:p=q:=by simp only [e1,e2,e3,e4,p1,p2,p3,q1,q2,q3,l1,t0,t1,r1,r2,r3,r4,Nat.zero_add,Nat.reduceMul,Nat.reduceAdd,b1,b2,b3,b4,b5,b6,i1,i2,i3,i4,i5,i6,Nat.reduceBEq,dflt];exact rfl):p:=e.mpr k
end H_c_Equal
open H_c_Equal in
theorem c_Equal (a b:List Nat) (hla:a.length≤1099511627776) (hlb:b.length≤1099511627776):CallP Tryz.prog 207 [limL a,limL b] (bL (decide (a=b))):=by
 unfold limL
 refine fnP Tryz.func207 ?_
 refine zg15 ?_
 refine wl_if rfl (fun h10r h10=>?_) (fun h10r h10=>?_)
 ·have hE:a≠b:=by rintro rfl;omega
  refine zg7 ?_
  first | (rw [decide_eq_true hE];exact ret1 rfl (.pure rfl)) | (rw [decide_eq_false hE];exact ret1 rfl (.pure rfl))
 ·have hl:a.length=b.length:=by omega
  clear h10 h10r
  refine zg11 ?_
  refine lp1 (fun(k:Nat) L=>((((((St.mk L.slot (hp [])).put (some 0) (.list 1 (a.map u32L))).put (some 1) (.list 1 (b.map u32L))).put (some 11) (.list 1 (a.map u32L))).put (some 12) (nI64 a.length)).put (some 13) (nI64 k))) (fun k=>k≤a.length∧a.take k=b.take k) (fun k=>a.length-k) 0 ⟨Nat.zero_le _,rfl⟩ ?_
  rintro k L1 ⟨hk,ht⟩
  refine zg6 ?_
  refine wl_if rfl (fun h14r h14=>?_) (fun h14r h14=>?_)
  ·refine zg11 ?_
   refine wl_regD 9 (by decide +kernel) ?_
   refine zg11 ?_
   refine wl_if rfl (fun h24r h24=>?_) (fun h24r h24=>?_)
   ·have hE:a≠b:=by rintro rfl;omega
    refine zg11 ?_
    first | (rw [decide_eq_true hE];exact ret1 rfl (.pure rfl)) | (rw [decide_eq_false hE];exact ret1 rfl (.pure rfl))
   ·refine zg8 ?_
    exact nx1 (k+1) ⟨by omega,take_eq_of (by omega) (by omega) ht (by omega)⟩
  ·obtain rfl:k=a.length:=by omega
   have hE:a=b:=by rw [List.take_length,hl,List.take_length] at ht;exact ht
   refine zg11 ?_
   first | (rw [decide_eq_true hE];exact ret1 rfl (.pure rfl)) | (rw [decide_eq_false hE];exact ret1 rfl (.pure rfl))
namespace H_c_trimM
theorem zSm {p q:Prop} (k:q) (e:p=q:=by simp only [e1,e2,e3,e4,p1,p2,p3,q1,q2,q3,l1,t0,t1,r1,r2,r3,r4,Nat.zero_add,Nat.reduceMul,Nat.reduceAdd,b1,b2,b3,b4,b5,b6,i1,i2,i3,i4,i5,i6,Nat.reduceBEq,ej,ek,dflt];exact rfl):p:=e.mpr k
end H_c_trimM
open H_c_trimM in
theorem c_trimM (l:List Nat) (hl:l.length≤4611686018427387904) (h0:0<l.length):CallOKM Tryz.prog 197 ⟨1,l.map u32L,true⟩ [.ref 0 1 0 l.length] (.ref 0 1 0 (trimN l.length l)) ⟨1,l.map u32L,true⟩:=by
 refine fnM Tryz.func197 ?_
 have ej:True:=trivial
 have ek:True:=trivial
 refine zg14 ?_
 refine lp1 (fun(k:Nat) L=>(((St.mk L.slot (hp [(0,⟨1,l.map u32L,true⟩)])).put (some 0) (.ref 0 1 0 l.length)).put (some 3) (nI64 k))) (fun k=>k≤l.length∧trimN l.length l=trimN k l) (fun k=>k) l.length ⟨Nat.le_refl _,rfl⟩ ?_
 rintro k L1 ⟨hk,hkt⟩
 refine zg6 ?_
 refine op_if 8 rfl (fun h8r h8=>?_) (fun h8r h8=>?_)
 ·obtain⟨j,rfl⟩:∃ j,k=j+1:=⟨k-1,by omega⟩
  have ej:(((j+1:Nat):Int)-1).toNat=j:=by omega
  have ek:(((j+1:Nat):Int)-1)=j:=by omega
  refine zg9 ?_
  refine wl_if rfl (fun h15r h15=>?_) (fun h15r h15=>?_)
  ·refine zg10 ?_
   exact nx1 j ⟨by omega,hkt.trans (by simp only [trimN];rw [if_pos (by simpa using h15)])⟩
  ·refine zg9 ?_
   refine st_pure rfl (by first | exact .sliceLh (h:=_) u32E rfl Tryz.underlying30 T181 rfl om | exact .sliceRh rfl Tryz.underlying30 T181 rfl om om) ?_
   refine zg4 ?_
   rw [hkt,trimN,if_neg (by simpa using h15)]
   exact retM1 rfl .ref rfl rfl (pures_map u32E _)
 ·have hk0:k=0:=by omega
  subst hk0
  refine zg19 ?_
  refine st_pure rfl (by first | exact .sliceLh (h:=_) u32E rfl Tryz.underlying30 T181 rfl om | exact .sliceRh rfl Tryz.underlying30 T181 rfl om om) ?_
  refine zg4 ?_
  rw [hkt]
  exact retM1 rfl .ref rfl rfl (pures_map u32E _)
theorem c_trimM' (l:List Nat) (n:Nat) (hn:n=l.length) (hl:n≤4611686018427387904) (h0:0<n):CallOKM Tryz.prog 197 ⟨1,l.map u32L,true⟩ [.ref 0 1 0 n] (.ref 0 1 0 (trimN n l)) ⟨1,l.map u32L,true⟩:=by
 subst hn;exact c_trimM l hl h0
theorem c_raiseN (x s:Nat) (hla:(dig x).length≤1099511627776) (hs:s<32):CallOK Tryz.prog 250 [magL x,nI64 s] (.ref 1 1 0 ((dig x).length+1)) [⟨1,(padL ((dig x).length+1) (x*2 ^ s)).map u32L,true⟩]:=by
 have:=c_raise (dig x) s (lim_dig x) hla hs
 rw [val_dig] at this
 exact this
theorem val_one (x:Nat):val [x]=x:=by simp [val]
theorem s_eq {x:Nat} (h:x≤32):(32:Int)-(x:Int)=((32-x:Nat):Int):=by omega
namespace H_c_NDiv
theorem zSm {p q:Prop} (k:q) (e:p=q:=by simp only [e1,e2,e3,e4,p1,p2,p3,q1,q2,q3,l1,t0,t1,r1,r2,r3,r4,Nat.zero_add,Nat.reduceMul,Nat.reduceAdd,b1,b2,b3,b4,b5,b6,i1,i2,i3,i4,i5,i6,Nat.reduceBEq,dflt,val_dig,ej,ek,es,eV,ej1,ej2,ej3,ehm,ehg,en1,en2,eij,eiij,eqn,egi,egi1,List.set_set,List.length_set,Nat.add_mod_mod,eg2,eg3,ei1,enV];exact rfl):p:=e.mpr k
theorem zSm1 {p q:Prop} (k:q) (e:p=q:=by simp only [e1,e2,e3,e4,p1,p2,p3,q1,q2,q3,l1,t0,t1,r1,r2,r3,r4,Nat.zero_add,Nat.reduceMul,Nat.reduceAdd,b1,b2,b3,b4,b5,b6,i1,i2,i3,i4,i5,i6,Nat.reduceBEq,dflt,val_dig,ej,ek,es,eV,ej1,ej2,ej3,ehm,ehg,en1,en2,eij,eiij,eqn,egi,egi1,List.set_set,List.length_set,Nat.add_mod_mod,eg2,eg3,ei1,enV,ehg];exact rfl):p:=e.mpr k
theorem nf1 {p:Prop} (h:p:=by first | (refine zSm1 ?_;exact rfl) | exact rfl):p:=h
theorem zSm2 {p q:Prop} (k:q) (e:p=q:=by simp only [e1,e2,e3,e4,p1,p2,p3,q1,q2,q3,l1,t0,t1,r1,r2,r3,r4,Nat.zero_add,Nat.reduceMul,Nat.reduceAdd,b1,b2,b3,b4,b5,b6,i1,i2,i3,i4,i5,i6,Nat.reduceBEq,dflt,val_dig,ej,ek,es,eV,ej1,ej2,ej3,ehm,ehg,en1,en2,eij,eiij,eqn,egi,egi1,List.set_set,List.length_set,Nat.add_mod_mod,eg2,eg3,ei1,enV,val_one];exact rfl):p:=e.mpr k
theorem nf2 {p:Prop} (h:p:=by first | (refine zSm2 ?_;exact rfl) | exact rfl):p:=h
theorem zSm3 {p q:Prop} (k:q) (e:p=q:=by simp only [e1,e2,e3,e4,p1,p2,p3,q1,q2,q3,l1,t0,t1,r1,r2,r3,r4,Nat.zero_add,Nat.reduceMul,Nat.reduceAdd,b1,b2,b3,b4,b5,b6,i1,i2,i3,i4,i5,i6,Nat.reduceBEq,dflt,val_dig,ej,ek,es,eV,ej1,ej2,ej3,ehm,ehg,en1,en2,eij,eiij,eqn,egi,egi1,List.set_set,List.length_set,Nat.add_mod_mod,eg2,eg3,ei1,enV,frz_nil,ehm];exact rfl):p:=e.mpr k
theorem nf3 {p:Prop} (h:p:=by first | (refine zSm3 ?_;exact rfl) | exact rfl):p:=h
theorem zSm4 {p q:Prop} (k:q) (e:p=q:=by simp only [e1,e2,e3,e4,p1,p2,p3,q1,q2,q3,l1,t0,t1,r1,r2,r3,r4,Nat.zero_add,Nat.reduceMul,Nat.reduceAdd,b1,b2,b3,b4,b5,b6,i1,i2,i3,i4,i5,i6,Nat.reduceBEq,dflt,val_dig,ej,ek,es,eV,ej1,ej2,ej3,ehm,ehg,en1,en2,eij,eiij,eqn,egi,egi1,List.set_set,List.length_set,Nat.add_mod_mod,eg2,eg3,ei1,enV,enV];exact rfl):p:=e.mpr k
theorem nf4 {p:Prop} (h:p:=by first | (refine zSm4 ?_;exact rfl) | exact rfl):p:=h
theorem cl4 {p:Prop} (h:p:=by first | rfl | (refine zSm4 ?_;first | exact trivial | rfl | (congr 3<;>omega) | (congr 2<;>omega))):p:=h
theorem zSm5 {p q:Prop} (k:q) (e:p=q:=by simp only [e1,e2,e3,e4,p1,p2,p3,q1,q2,q3,l1,t0,t1,r1,r2,r3,r4,Nat.zero_add,Nat.reduceMul,Nat.reduceAdd,b1,b2,b3,b4,b5,b6,i1,i2,i3,i4,i5,i6,Nat.reduceBEq,dflt,val_dig,ej,ek,es,eV,ej1,ej2,ej3,ehm,ehg,en1,en2,eij,eiij,eqn,egi,egi1,List.set_set,List.length_set,Nat.add_mod_mod,eg2,eg3,ei1,enV,enV,ehm];exact rfl):p:=e.mpr k
theorem cl5 {p:Prop} (h:p:=by first | rfl | (refine zSm5 ?_;first | exact trivial | rfl | (congr 3<;>omega) | (congr 2<;>omega))):p:=h
theorem zSm6 {p q:Prop} (k:q) (e:p=q:=by simp only [e1,e2,e3,e4,p1,p2,p3,q1,q2,q3,l1,t0,t1,r1,r2,r3,r4,Nat.zero_add,Nat.reduceMul,Nat.reduceAdd,b1,b2,b3,b4,b5,b6,i1,i2,i3,i4,i5,i6,Nat.reduceBEq,dflt,val_dig,ej,ek,es,eV,ej1,ej2,ej3,ehm,ehg,en1,en2,eij,eiij,eqn,egi,egi1,List.set_set,List.length_set,Nat.add_mod_mod,eg2,eg3,ei1,enV,←hT];exact rfl):p:=e.mpr k
theorem nf6 {p:Prop} (h:p:=by first | (refine zSm6 ?_;exact rfl) | exact rfl):p:=h
end H_c_NDiv
open H_c_NDiv in
theorem div_corr (b ul ql:List Nat) (n s m q0 j:Nat) (enV:(dig (val b*2 ^ s)).length=n+2) (hnm:n+2≤m) (hm4:m≤1099511627776) (hq0:q0=m+1-(n+2)) (hk:j+1≤q0) (hul:ul.length=m+1) (hql:ql.length=q0) (hlu:Lim ul) (hlq:Lim ql) (hvt:2147483648≤(dig (val b*2 ^ s)).getD (n+1) 0) (hV0:0<(val b*2 ^ s)) (hVlt:(val b*2 ^ s)<4294967296 ^ (n+2)) (hlt:val ul<(val b*2 ^ s)*4294967296 ^ (j+1)) {Q:LEx→St→Prop} (L1:St)
  (hQ:∀ (x:Nat) (L2:St),(val ul/4294967296 ^ j/(val b*2 ^ s)≤x∧x≤val ul/4294967296 ^ j/(val b*2 ^ s)+1∧x<4294967296)→Q .normal ((((((((St.mk L2.slot (hp [(1001057,⟨1,ul.map u32L,true⟩),(1001105,⟨1,(padL ((dig (val b)).length+1) (val b*2 ^ s)).map u32L,false⟩),(77,⟨1,ql.map u32L,true⟩)])).put (some 4) (.ref 77 1 0 q0)).put (some 9) (nI64 s)).put (some 10) (.ref 1001057 1 0 (m+1))).put (some 11) (magL (val b*2 ^ s))).put (some 12) (nI64 (n+2))).put (some 13) (iL (((j+1:Nat):Int)-1))).put (some 15) (nU64 x))) :
  wpL Tryz.prog ((subF Tryz.f200 [1,1,1,1,1,1,1,0,1,0,0,1,0,0,1,1,0]).getD .skip) Q (((((((((St.mk L1.slot (hp [(1001057,⟨1,ul.map u32L,true⟩),(1001105,⟨1,(padL ((dig (val b)).length+1) (val b*2 ^ s)).map u32L,false⟩),(77,⟨1,ql.map u32L,true⟩)])).put (some 4) (.ref 77 1 0 q0)).put (some 9) (nI64 s)).put (some 10) (.ref 1001057 1 0 (m+1))).put (some 11) (magL (val b*2 ^ s))).put (some 12) (nI64 (n+2))).put (some 13) (iL (((j+1:Nat):Int)-1))).put (some 15) (nU64 ((ul.getD (n+2+j) 0*4294967296+ul.getD (n+1+j) 0)/(dig (val b*2 ^ s)).getD (n+1) 0))).put (some 16) (nU64 ((ul.getD (n+2+j) 0*4294967296+ul.getD (n+1+j) 0) % (dig (val b*2 ^ s)).getD (n+1) 0))):=by
 have ej:True:=trivial
 have ek:True:=trivial
 have es:True:=trivial
 have eV:True:=trivial
 have ej1:True:=trivial
 have ej2:True:=trivial
 have ej3:True:=trivial
 have ehm:True:=trivial
 have ehg:True:=trivial
 have en1:True:=trivial
 have en2:True:=trivial
 have eij:True:=trivial
 have eiij:True:=trivial
 have eqn:True:=trivial
 have egi:True:=trivial
 have egi1:True:=trivial
 have eg2:True:=trivial
 have eg3:True:=trivial
 have ei1:True:=trivial
 have ej1:((j:Int)+((n+2:Nat):Int)).toNat=n+2+j:=by omega
 have ej2:((j:Int)+((n+2:Nat):Int)-1).toNat=n+1+j:=by omega
 have ej3:((j:Int)+((n+2:Nat):Int)-2).toNat=n+j:=by omega
 have en1:(((n+2:Nat):Int)-1).toNat=n+1:=by omega
 have en2:(((n+2:Nat):Int)-2).toNat=n:=by omega
 have ek:(((j+1:Nat):Int)-1)=(j:Int):=by omega
 have hv1l:=getD_dig_lt ((val b*2 ^ s)) (n+1)
 have hv2l:=getD_dig_lt ((val b*2 ^ s)) n
 have hu0:=getD_lim hlu (n+2+j)
 have hu1:=getD_lim hlu (n+1+j)
 have hu2:=getD_lim hlu (n+j)
 obtain⟨vl,rl,hvl,hrl,hVe,hRe,hRV⟩:=kn_ctx (j:=j) enV (by omega) hlu hlt
 have hun:=kn_un hVe hRe hvl hv2l hRV
 have htop:=kn_top hVe hRe hrl hu2 (by omega)
 have hqB:val ul/4294967296 ^ j/(val b*2 ^ s)<4294967296:=by rw [Nat.div_lt_iff_lt_mul hV0,Nat.mul_comm];exact hRV
 refine wl_sub rfl ?_
 refine zg1 ?_
 refine lp2 (fun(x rest:Nat) L=>(((((((((St.mk L.slot (hp [(1001057,⟨1,ul.map u32L,true⟩),(1001105,⟨1,(padL ((dig (val b)).length+1) (val b*2 ^ s)).map u32L,false⟩),(77,⟨1,ql.map u32L,true⟩)])).put (some 4) (.ref 77 1 0 q0)).put (some 9) (nI64 s)).put (some 10) (.ref 1001057 1 0 (m+1))).put (some 11) (magL (val b*2 ^ s))).put (some 12) (nI64 (n+2))).put (some 13) (iL (((j+1:Nat):Int)-1))).put (some 15) (nU64 x)).put (some 16) (nU64 rest))) (fun x rest=>val ul/4294967296 ^ j/(val b*2 ^ s)≤x∧x*(dig (val b*2 ^ s)).getD (n+1) 0+rest=(ul.getD (n+2+j) 0*4294967296+ul.getD (n+1+j) 0)∧rest<4294967296) (fun x rest=>x) ((ul.getD (n+2+j) 0*4294967296+ul.getD (n+1+j) 0)/(dig (val b*2 ^ s)).getD (n+1) 0) ((ul.getD (n+2+j) 0*4294967296+ul.getD (n+1+j) 0) % (dig (val b*2 ^ s)).getD (n+1) 0) ⟨htop,by rw [Nat.mul_comm];exact Nat.div_add_mod _ _,Nat.lt_trans (Nat.mod_lt _ (by omega)) hv1l⟩ ?_
 rintro x rest L2 ⟨hx,hxr,hrest⟩
 have hxt:x≤x*(dig (val b*2 ^ s)).getD (n+1) 0:=Nat.le_mul_of_pos_right _ (by omega)
 refine zg2 ?_
 refine wl_regD 24 (by decide +kernel) ?_
 refine zg3 ?_
 refine op_if 120 rfl (fun h120r h120=>?_) (fun h120r h120=>?_)
 ·have hxd:val ul/4294967296 ^ j/(val b*2 ^ s)≤x-1:=by omega
  have hx0:1≤x:=by omega
  refine zg28 ?_
  have hxr2:(x-1)*(dig (val b*2 ^ s)).getD (n+1) 0+(rest+(dig (val b*2 ^ s)).getD (n+1) 0)=(ul.getD (n+2+j) 0*4294967296+ul.getD (n+1+j) 0):=by
   have e:(x-1)*(dig (val b*2 ^ s)).getD (n+1) 0+(dig (val b*2 ^ s)).getD (n+1) 0=x*(dig (val b*2 ^ s)).getD (n+1) 0:=by rw [←Nat.succ_mul];congr 1;omega
   omega
  refine zg25 ?_
  refine wl_if rfl (fun h153r h153=>?_) (fun h153r h153=>?_)
  ·have hbk:=kn_break (u2:=ul.getD (n+j) 0) hxr2 hun hu1 hv2l (by omega)
   refine zg4 ?_
   exact goal_of (hQ (x-1) _ ⟨hxd,kn_fin hVe hRe hvl (by omega) hV0 hxr2 (Nat.le_of_lt hbk.1) hbk.2,hbk.1⟩) (put_id' (put_id' (put_id' (put_id' (put_id' (put_id' (put_id' (mk_id' cl) cl) cl) cl) cl) cl) cl) cl)
  ·refine zg3 ?_
   exact nx2 (x-1) (rest+(dig (val b*2 ^ s)).getD (n+1) 0) ⟨hxd,hxr2,by omega⟩
 ·have hmul:=mulLt (show x<4294967296 by omega) hv2l
  refine zg23 ?_
  refine wl_if rfl (fun h141r h141=>?_) (fun h141r h141=>?_)
  ·have hx0:1≤x:=by
    rcases Nat.eq_zero_or_pos x with e | e
    ·rw [e,Nat.zero_mul] at h141;omega
    ·exact e
   have hxd:val ul/4294967296 ^ j/(val b*2 ^ s)≤x-1:=by have:=kn_dec hVe hRe hrl hV0 hxr (by omega);omega
   refine zg4 ?_
   have hxr2:(x-1)*(dig (val b*2 ^ s)).getD (n+1) 0+(rest+(dig (val b*2 ^ s)).getD (n+1) 0)=(ul.getD (n+2+j) 0*4294967296+ul.getD (n+1+j) 0):=by
    have e:(x-1)*(dig (val b*2 ^ s)).getD (n+1) 0+(dig (val b*2 ^ s)).getD (n+1) 0=x*(dig (val b*2 ^ s)).getD (n+1) 0:=by rw [←Nat.succ_mul];congr 1;omega
    omega
   refine zg25 ?_
   refine wl_if rfl (fun h153r h153=>?_) (fun h153r h153=>?_)
   ·have hbk:=kn_break (u2:=ul.getD (n+j) 0) hxr2 hun hu1 hv2l (by omega)
    refine zg4 ?_
    exact goal_of (hQ (x-1) _ ⟨hxd,kn_fin hVe hRe hvl (by omega) hV0 hxr2 (Nat.le_of_lt hbk.1) hbk.2,hbk.1⟩) (put_id' (put_id' (put_id' (put_id' (put_id' (put_id' (put_id' (mk_id' cl) cl) cl) cl) cl) cl) cl) cl)
   ·refine zg3 ?_
    exact nx2 (x-1) (rest+(dig (val b*2 ^ s)).getD (n+1) 0) ⟨hxd,hxr2,by omega⟩
  ·refine zg4 ?_
   exact goal_of (hQ (x) _ ⟨hx,kn_fin hVe hRe hvl (by omega) hV0 hxr (by omega) (by omega),by omega⟩) (put_id' (put_id' (put_id' (put_id' (put_id' (put_id' (put_id' (mk_id' cl) cl) cl) cl) cl) cl) cl) cl)
open H_c_NDiv in
theorem div_mulsub (b ul ql:List Nat) (n s m q0 j:Nat) (enV:(dig (val b*2 ^ s)).length=n+2) (hnm:n+2≤m) (hm4:m≤1099511627776) (hq0:q0=m+1-(n+2)) (hk:j+1≤q0) (hul:ul.length=m+1) (hql:ql.length=q0) (hlu:Lim ul) (hlq:Lim ql) (hvt:2147483648≤(dig (val b*2 ^ s)).getD (n+1) 0) (hV0:0<(val b*2 ^ s)) (hVlt:(val b*2 ^ s)<4294967296 ^ (n+2)) (hlt:val ul<(val b*2 ^ s)*4294967296 ^ (j+1)) (x:Nat) (hx1:val ul/4294967296 ^ j/(val b*2 ^ s)≤x) (hxB:x<4294967296) {Q:LEx→St→Prop} (L1:St)
  (hQ:∀ (wl:List Nat) (c:Nat) (br:Nat) (L2:St),(wl.length=m+1∧Lim wl∧c<4294967296∧br≤1∧val wl+4294967296 ^ j*(x*(val b*2 ^ s))=val ul+4294967296 ^ (n+2+j)*(c+br)∧∀ p,n+2+j≤p→wl.getD p 0=ul.getD p 0)→Q .normal ((((((((((St.mk L2.slot (hp [(1001057,⟨1,wl.map u32L,true⟩),(1001105,⟨1,(padL ((dig (val b)).length+1) (val b*2 ^ s)).map u32L,false⟩),(77,⟨1,ql.map u32L,true⟩)])).put (some 4) (.ref 77 1 0 q0)).put (some 9) (nI64 s)).put (some 10) (.ref 1001057 1 0 (m+1))).put (some 11) (magL (val b*2 ^ s))).put (some 12) (nI64 (n+2))).put (some 13) (iL (((j+1:Nat):Int)-1))).put (some 15) (nU64 x)).put (some 17) (nU64 br)).put (some 18) (nU64 c))) :
  wpL Tryz.prog ((subF Tryz.f200 [1,1,1,1,1,1,1,0,1,0,0,1,0,0,1,1,1,1,0,1]).getD .skip) Q (((((((((((((St.mk L1.slot (hp [(1001057,⟨1,ul.map u32L,true⟩),(1001105,⟨1,(padL ((dig (val b)).length+1) (val b*2 ^ s)).map u32L,false⟩),(77,⟨1,ql.map u32L,true⟩)])).put (some 4) (.ref 77 1 0 q0)).put (some 9) (nI64 s)).put (some 10) (.ref 1001057 1 0 (m+1))).put (some 11) (magL (val b*2 ^ s))).put (some 12) (nI64 (n+2))).put (some 13) (iL (((j+1:Nat):Int)-1))).put (some 15) (nU64 x)).put (some 17) (nU64 0)).put (some 18) (nU64 0)).put (some 154) (magL (val b*2 ^ s))).put (some 155) (nI64 (n+2))).put (some 156) (nI64 0)):=by
 have ej:True:=trivial
 have ek:True:=trivial
 have es:True:=trivial
 have eV:True:=trivial
 have ej1:True:=trivial
 have ej2:True:=trivial
 have ej3:True:=trivial
 have ehm:True:=trivial
 have ehg:True:=trivial
 have en1:True:=trivial
 have en2:True:=trivial
 have eij:True:=trivial
 have eiij:True:=trivial
 have eqn:True:=trivial
 have egi:True:=trivial
 have egi1:True:=trivial
 have eg2:True:=trivial
 have eg3:True:=trivial
 have ei1:True:=trivial
 have ej1:((j:Int)+((n+2:Nat):Int)).toNat=n+2+j:=by omega
 have ej2:((j:Int)+((n+2:Nat):Int)-1).toNat=n+1+j:=by omega
 have ej3:((j:Int)+((n+2:Nat):Int)-2).toNat=n+j:=by omega
 have en1:(((n+2:Nat):Int)-1).toNat=n+1:=by omega
 have en2:(((n+2:Nat):Int)-2).toNat=n:=by omega
 have ek:(((j+1:Nat):Int)-1)=(j:Int):=by omega
 have hv1l:=getD_dig_lt ((val b*2 ^ s)) (n+1)
 have hv2l:=getD_dig_lt ((val b*2 ^ s)) n
 have hu0:=getD_lim hlu (n+2+j)
 have hu1:=getD_lim hlu (n+1+j)
 have hu2:=getD_lim hlu (n+j)
 refine wl_sub rfl ?_
 refine zg1 ?_
 refine lp4 (fun(i:Nat) (wl:List Nat) (c br:Nat) L=>(((((((((((((St.mk L.slot (hp [(1001057,⟨1,wl.map u32L,true⟩),(1001105,⟨1,(padL ((dig (val b)).length+1) (val b*2 ^ s)).map u32L,false⟩),(77,⟨1,ql.map u32L,true⟩)])).put (some 4) (.ref 77 1 0 q0)).put (some 9) (nI64 s)).put (some 10) (.ref 1001057 1 0 (m+1))).put (some 11) (magL (val b*2 ^ s))).put (some 12) (nI64 (n+2))).put (some 13) (iL (((j+1:Nat):Int)-1))).put (some 15) (nU64 x)).put (some 17) (nU64 br)).put (some 18) (nU64 c)).put (some 154) (magL (val b*2 ^ s))).put (some 155) (nI64 (n+2))).put (some 156) (nI64 i))) (fun i wl c br=>i≤n+2∧wl.length=m+1∧Lim wl∧c<4294967296∧br≤1∧val wl+4294967296 ^ j*(x*val ((dig (val b*2 ^ s)).take i))=val ul+4294967296 ^ (i+j)*(c+br)∧∀ p,n+2+j≤p→wl.getD p 0=ul.getD p 0) (fun i wl c br=>n+2-i) 0 ul 0 0 ⟨Nat.zero_le _,hul,hlu,by omega,by omega,by simp [val],fun _ _=>rfl⟩ (h0:=⟨_,Weak.of_eq (put_id' (put_id' (put_id' (put_id' (put_id' (put_id' (put_id' (put_id' (put_id' (put_id' (put_id' (put_id' (mk_id' cl4) cl4) cl4) cl4) cl4) cl4) cl4) cl4) cl4) cl4) cl4) cl4) cl4)⟩) ?_
 rintro i wl c br L3 ⟨hi,hwl,hlw,hc,hbr,hv5,hz5⟩
 have eij:((i:Int)+(j:Int)).toNat=i+j:=by omega
 have hvi:=getD_dig_lt (val b*2 ^ s) i
 have hmul:=mulLt hxB hvi
 have hwi:=getD_lim hlw (i+j)
 refine zg6 ?_
 refine wl_if rfl (fun h157r h157=>?_) (fun h157r h157=>?_)
 ·refine zg34 ?_
  refine st_pure rfl (.bin rfl rfl (andU)) ?_
  refine st_pure rfl (.bin rfl rfl (subW (by omega))) ?_
  refine zg1 ?_
  refine st_pure rfl (.bin rfl rfl (subW (by omega))) ?_
  refine zg34 ?_
  exact nx4 (i+1) (wl.set (i+j) (((18446744073709551616+(18446744073709551616+wl.getD (i+j) 0-(c+x*(dig (val b*2 ^ s)).getD i 0) % 4294967296) % 18446744073709551616-br) % 18446744073709551616) % 4294967296)) ((c+x*(dig (val b*2 ^ s)).getD i 0)/4294967296) (((18446744073709551616+(18446744073709551616+wl.getD (i+j) 0-(c+x*(dig (val b*2 ^ s)).getD i 0) % 4294967296) % 18446744073709551616-br) % 18446744073709551616)/9223372036854775808) (by
   obtain⟨g1,g2,g3⟩:=ms_inv (by omega) hlw hbr hv5 (c1:=(c+x*(dig (val b*2 ^ s)).getD i 0)) rfl rfl
   exact⟨by omega,by simp [hwl],g2,by omega,g1,g3,fun p hp=>by rw [Go.Lg.getD_set_ne _ _ _ _ (by omega)];exact hz5 p hp⟩) (he:=Weak.of_eq (put_id' (put_id' (put_id' (put_id' (put_id' (put_id' (put_id' (put_id' (put_id' (put_id' (put_id' (put_id' (mk_id' cl4) cl4) cl4) cl4) cl4) cl4) cl4) cl4) cl4) cl4) cl4) cl4) cl4))
 ·obtain rfl:i=n+2:=by omega
  rw [List.take_of_length_le (by omega),val_dig] at hv5
  refine zg4 ?_
  exact goal_of (hQ (wl) (c) (br) _ ⟨hwl,hlw,hc,hbr,hv5,hz5⟩) (put_id' (put_id' (put_id' (put_id' (put_id' (put_id' (put_id' (put_id' (put_id' (mk_id' cl) cl) cl) cl) cl) cl) cl) cl) cl) cl)
open H_c_NDiv in
theorem div_back (b ul ql:List Nat) (n s m q0 j:Nat) (enV:(dig (val b*2 ^ s)).length=n+2) (hnm:n+2≤m) (hm4:m≤1099511627776) (hq0:q0=m+1-(n+2)) (hk:j+1≤q0) (hul:ul.length=m+1) (hql:ql.length=q0) (hlu:Lim ul) (hlq:Lim ql) (hvt:2147483648≤(dig (val b*2 ^ s)).getD (n+1) 0) (hV0:0<(val b*2 ^ s)) (hVlt:(val b*2 ^ s)<4294967296 ^ (n+2)) (hlt:val ul<(val b*2 ^ s)*4294967296 ^ (j+1)) (x:Nat) (hx1:val ul/4294967296 ^ j/(val b*2 ^ s)≤x) (hx2:x≤val ul/4294967296 ^ j/(val b*2 ^ s)+1) (hxB:x<4294967296) (wl:List Nat) (c br:Nat) (hwl:wl.length=m+1) (hlw:Lim wl) (hc:c<4294967296) (hbr:br≤1) (hv5:val wl+4294967296 ^ j*(x*(val b*2 ^ s))=val ul+4294967296 ^ (n+2+j)*(c+br)) (hz5:∀ p,n+2+j≤p→wl.getD p 0=ul.getD p 0) {Q:LEx→St→Prop} (L1:St)
  (hQ:∀ (w4:List Nat) (x4:Nat) (L2:St),(x4=val ul/4294967296 ^ j/(val b*2 ^ s)∧w4.length=m+1∧Lim w4∧val w4+4294967296 ^ j*(x4*(val b*2 ^ s))=val ul)→Q .normal ((((((((St.mk L2.slot (hp [(1001057,⟨1,w4.map u32L,true⟩),(1001105,⟨1,(padL ((dig (val b)).length+1) (val b*2 ^ s)).map u32L,false⟩),(77,⟨1,ql.map u32L,true⟩)])).put (some 4) (.ref 77 1 0 q0)).put (some 9) (nI64 s)).put (some 10) (.ref 1001057 1 0 (m+1))).put (some 11) (magL (val b*2 ^ s))).put (some 12) (nI64 (n+2))).put (some 13) (iL (((j+1:Nat):Int)-1))).put (some 15) (nU64 x4))) :
  wpL Tryz.prog ((subF Tryz.f200 [1,1,1,1,1,1,1,0,1,0,0,1,0,0,1,1,1,1,1,1,1,0,1]).getD .skip) Q ((((((((((St.mk L1.slot (hp [(1001057,⟨1,(wl.set (n+2+j) (((18446744073709551616+(18446744073709551616+wl.getD (n+2+j) 0-c) % 18446744073709551616-br) % 18446744073709551616) % 4294967296)).map u32L,true⟩),(1001105,⟨1,(padL ((dig (val b)).length+1) (val b*2 ^ s)).map u32L,false⟩),(77,⟨1,ql.map u32L,true⟩)])).put (some 4) (.ref 77 1 0 q0)).put (some 9) (nI64 s)).put (some 10) (.ref 1001057 1 0 (m+1))).put (some 11) (magL (val b*2 ^ s))).put (some 12) (nI64 (n+2))).put (some 13) (iL (((j+1:Nat):Int)-1))).put (some 15) (nU64 x)).put (some 22) (nU64 ((18446744073709551616+(18446744073709551616+wl.getD (n+2+j) 0-c) % 18446744073709551616-br) % 18446744073709551616))).put (some 211) (.v (.bool (((((18446744073709551616+(18446744073709551616+wl.getD (n+2+j) 0-c) % 18446744073709551616-br) % 18446744073709551616)/9223372036854775808:Nat):Int) != 0)))):=by
 have ej:True:=trivial
 have ek:True:=trivial
 have es:True:=trivial
 have eV:True:=trivial
 have ej1:True:=trivial
 have ej2:True:=trivial
 have ej3:True:=trivial
 have ehm:True:=trivial
 have ehg:True:=trivial
 have en1:True:=trivial
 have en2:True:=trivial
 have eij:True:=trivial
 have eiij:True:=trivial
 have eqn:True:=trivial
 have egi:True:=trivial
 have egi1:True:=trivial
 have eg2:True:=trivial
 have eg3:True:=trivial
 have ei1:True:=trivial
 have ej1:((j:Int)+((n+2:Nat):Int)).toNat=n+2+j:=by omega
 have ej2:((j:Int)+((n+2:Nat):Int)-1).toNat=n+1+j:=by omega
 have ej3:((j:Int)+((n+2:Nat):Int)-2).toNat=n+j:=by omega
 have en1:(((n+2:Nat):Int)-1).toNat=n+1:=by omega
 have en2:(((n+2:Nat):Int)-2).toNat=n:=by omega
 have ek:(((j+1:Nat):Int)-1)=(j:Int):=by omega
 have hv1l:=getD_dig_lt ((val b*2 ^ s)) (n+1)
 have hv2l:=getD_dig_lt ((val b*2 ^ s)) n
 have hu0:=getD_lim hlu (n+2+j)
 have hu1:=getD_lim hlu (n+1+j)
 have hu2:=getD_lim hlu (n+j)
 have hz:=kn_zero (n:=n+2) (j:=j) hVlt hlt
 obtain⟨hlw2,hd2,hv6⟩:=ms_last (n:=n+2) (by omega) hlw hbr hc hv5 rfl rfl
 have hwt:=getD_lim hlw (n+2+j)
 refine wl_sub rfl ?_
 refine wl_if rfl (fun h211r h211=>?_) (fun h211r h211=>?_)
 ·have hd1:((18446744073709551616+(18446744073709551616+wl.getD (n+2+j) 0-c) % 18446744073709551616-br) % 18446744073709551616)/9223372036854775808=1:=by omega
  have hgt:=kn_gt (V:=(val b*2 ^ s)) (n:=n+2) (j:=j) (x:=x) (ul:=(wl.set (n+2+j) (((18446744073709551616+(18446744073709551616+wl.getD (n+2+j) 0-c) % 18446744073709551616-br) % 18446744073709551616) % 4294967296))) (ul0:=ul) (by rw [hv6,hd1,Nat.mul_one]) (val_lt_of_zeros hlw2 (fun p hp=>by rw [Go.Lg.getD_set_ne _ _ _ _ (by omega),hz5 p (by omega)];exact hz p hp)) hV0
  have hx0:1≤x:=Nat.lt_of_le_of_lt (Nat.zero_le _) hgt
  refine zg3 ?_
  refine st_pure rfl (.bin rfl rfl (subU (show 1≤x by omega) (by omega))) ?_
  refine zg17 ?_
  refine lp3 (fun(ii:Nat) (w3:List Nat) (c3:Nat) L=>((((((((((((St.mk L.slot (hp [(1001057,⟨1,w3.map u32L,true⟩),(1001105,⟨1,(padL ((dig (val b)).length+1) (val b*2 ^ s)).map u32L,false⟩),(77,⟨1,ql.map u32L,true⟩)])).put (some 4) (.ref 77 1 0 q0)).put (some 9) (nI64 s)).put (some 10) (.ref 1001057 1 0 (m+1))).put (some 11) (magL (val b*2 ^ s))).put (some 12) (nI64 (n+2))).put (some 13) (iL (((j+1:Nat):Int)-1))).put (some 15) (nU64 (x-1))).put (some 18) (nU64 c3)).put (some 214) (magL (val b*2 ^ s))).put (some 215) (nI64 (n+2))).put (some 216) (nI64 ii))) (fun ii w3 c3=>ii≤n+2∧w3.length=m+1∧Lim w3∧c3≤1∧val w3+4294967296 ^ (ii+j)*c3=val (wl.set (n+2+j) (((18446744073709551616+(18446744073709551616+wl.getD (n+2+j) 0-c) % 18446744073709551616-br) % 18446744073709551616) % 4294967296))+4294967296 ^ j*val ((dig (val b*2 ^ s)).take ii)∧∀ p,n+2+j+1≤p→w3.getD p 0=0) (fun ii w3 c3=>n+2-ii) 0 (wl.set (n+2+j) (((18446744073709551616+(18446744073709551616+wl.getD (n+2+j) 0-c) % 18446744073709551616-br) % 18446744073709551616) % 4294967296)) 0 ⟨Nat.zero_le _,by simp [hwl],hlw2,by omega,by simp [val],fun p hp=>by rw [Go.Lg.getD_set_ne _ _ _ _ (by omega),hz5 p (by omega)];exact hz p hp⟩ (h0:=⟨_,Weak.of_eq (put_id' (put_id' (put_id' (put_id' (put_id' (put_id' (put_id' (put_id' (put_id' (put_id' (put_id' (mk_id' cl4) cl4) cl4) cl4) cl4) cl4) cl4) cl4) cl4) cl4) cl4) cl4)⟩) ?_
  rintro ii w3 c3 L4 ⟨hi3,hw3,hl3,hc3,hv7,hz7⟩
  have eiij:((ii:Int)+(j:Int)).toNat=ii+j:=by omega
  have hvi3:=getD_dig_lt (val b*2 ^ s) ii
  have hwi3:=getD_lim hl3 (ii+j)
  refine zg6 ?_
  refine wl_if rfl (fun h217r h217=>?_) (fun h217r h217=>?_)
  ·refine zg54 ?_
   exact nx3 (ii+1) (w3.set (ii+j) ((c3+(w3.getD (ii+j) 0+(dig (val b*2 ^ s)).getD ii 0)) % 4294967296)) ((c3+(w3.getD (ii+j) 0+(dig (val b*2 ^ s)).getD ii 0))/4294967296) (by
    obtain⟨g1,g2⟩:=ab_inv (by omega) hl3 hv7 (s:=(c3+(w3.getD (ii+j) 0+(dig (val b*2 ^ s)).getD ii 0))) rfl
    exact⟨by omega,by simp [hw3],g1,by omega,g2,fun p hp=>by rw [Go.Lg.getD_set_ne _ _ _ _ (by omega)];exact hz7 p hp⟩) (he:=Weak.of_eq (put_id' (put_id' (put_id' (put_id' (put_id' (put_id' (put_id' (put_id' (put_id' (put_id' (put_id' (mk_id' cl4) cl4) cl4) cl4) cl4) cl4) cl4) cl4) cl4) cl4) cl4) cl4))
  ·obtain rfl:ii=n+2:=by omega
   rw [List.take_of_length_le (by omega),val_dig] at hv7
   have hw3t:=getD_lim hl3 (n+2+j)
   have hxe:x-1=val ul/4294967296 ^ j/(val b*2 ^ s):=by omega
   have hxle:4294967296 ^ j*((x-1)*(val b*2 ^ s))≤val ul:=by rw [hxe];exact Nat.le_trans (Nat.mul_le_mul_left _ (Nat.div_mul_le_self _ _)) (Nat.mul_div_le _ _)
   have hbk:=kn_back (ul:=(wl.set (n+2+j) (((18446744073709551616+(18446744073709551616+wl.getD (n+2+j) 0-c) % 18446744073709551616-br) % 18446744073709551616) % 4294967296))) (ul0:=ul) (n:=n+2) (j:=j) (x:=x) (V:=(val b*2 ^ s)) (ul3:=w3) (c:=c3) (by omega) hxle (by rw [hv6,hd1,Nat.mul_one]) (by omega) hl3 hz7 hc3 hv7 rfl
   refine zg14 ?_
   refine st_pure rfl (.bin rfl rfl (addU32)) ?_
   refine zg3 ?_
   exact goal_of (hQ (w3.set (n+2+j) ((w3.getD (n+2+j) 0+c3) % 4294967296)) (x-1) _ ⟨hxe,by simp [hw3],hbk.1,hbk.2⟩) (put_id' (put_id' (put_id' (put_id' (put_id' (put_id' (put_id' (mk_id' cl) cl) cl) cl) cl) cl) cl) cl)
 ·have hd0:((18446744073709551616+(18446744073709551616+wl.getD (n+2+j) 0-c) % 18446744073709551616-br) % 18446744073709551616)/9223372036854775808=0:=by omega
  rw [hd0,Nat.mul_zero,Nat.add_zero] at hv6
  have hxF:x=val ul/4294967296 ^ j/(val b*2 ^ s):=by have:=kn_le hv6 hV0;omega
  refine zg1 ?_
  exact goal_of (hQ ((wl.set (n+2+j) (((18446744073709551616+(18446744073709551616+wl.getD (n+2+j) 0-c) % 18446744073709551616-br) % 18446744073709551616) % 4294967296))) (x) _ ⟨hxF,by simp [hwl],hlw2,hv6⟩) (put_id' (put_id' (put_id' (put_id' (put_id' (put_id' (put_id' (mk_id' cl) cl) cl) cl) cl) cl) cl) cl)
open H_c_NDiv in
theorem div_digit (b ul ql:List Nat) (n s m q0 j:Nat) (enV:(dig (val b*2 ^ s)).length=n+2) (hnm:n+2≤m) (hm4:m≤1099511627776) (hq0:q0=m+1-(n+2)) (hk:j+1≤q0) (hul:ul.length=m+1) (hql:ql.length=q0) (hlu:Lim ul) (hlq:Lim ql) (hvt:2147483648≤(dig (val b*2 ^ s)).getD (n+1) 0) (hV0:0<(val b*2 ^ s)) (hVlt:(val b*2 ^ s)<4294967296 ^ (n+2)) (hlt:val ul<(val b*2 ^ s)*4294967296 ^ (j+1)) {Q:LEx→St→Prop} (L1:St)
  (hQ:∀ (w4:List Nat) (x4:Nat) (L2:St),(x4=val ul/4294967296 ^ j/(val b*2 ^ s)∧w4.length=m+1∧Lim w4∧val w4+4294967296 ^ j*(x4*(val b*2 ^ s))=val ul)→Q .normal (((((((St.mk L2.slot (hp [(1001057,⟨1,w4.map u32L,true⟩),(1001105,⟨1,(padL ((dig (val b)).length+1) (val b*2 ^ s)).map u32L,false⟩),(77,⟨1,(ql.set j (x4 % 4294967296)).map u32L,true⟩)])).put (some 4) (.ref 77 1 0 q0)).put (some 9) (nI64 s)).put (some 10) (.ref 1001057 1 0 (m+1))).put (some 11) (magL (val b*2 ^ s))).put (some 12) (nI64 (n+2))).put (some 13) (iL (((j+1:Nat):Int)-1)))) :
  wpL Tryz.prog ((subF Tryz.f200 [1,1,1,1,1,1,1,0,1,0,0,1,0]).getD .skip) Q (((((((St.mk L1.slot (hp [(1001057,⟨1,ul.map u32L,true⟩),(1001105,⟨1,(padL ((dig (val b)).length+1) (val b*2 ^ s)).map u32L,false⟩),(77,⟨1,ql.map u32L,true⟩)])).put (some 4) (.ref 77 1 0 q0)).put (some 9) (nI64 s)).put (some 10) (.ref 1001057 1 0 (m+1))).put (some 11) (magL (val b*2 ^ s))).put (some 12) (nI64 (n+2))).put (some 13) (iL (((j+1:Nat):Int)-1))):=by
 have ej:True:=trivial
 have ek:True:=trivial
 have es:True:=trivial
 have eV:True:=trivial
 have ej1:True:=trivial
 have ej2:True:=trivial
 have ej3:True:=trivial
 have ehm:True:=trivial
 have ehg:True:=trivial
 have en1:True:=trivial
 have en2:True:=trivial
 have eij:True:=trivial
 have eiij:True:=trivial
 have eqn:True:=trivial
 have egi:True:=trivial
 have egi1:True:=trivial
 have eg2:True:=trivial
 have eg3:True:=trivial
 have ei1:True:=trivial
 have ej1:((j:Int)+((n+2:Nat):Int)).toNat=n+2+j:=by omega
 have ej2:((j:Int)+((n+2:Nat):Int)-1).toNat=n+1+j:=by omega
 have ej3:((j:Int)+((n+2:Nat):Int)-2).toNat=n+j:=by omega
 have en1:(((n+2:Nat):Int)-1).toNat=n+1:=by omega
 have en2:(((n+2:Nat):Int)-2).toNat=n:=by omega
 have ek:(((j+1:Nat):Int)-1)=(j:Int):=by omega
 have hv1l:=getD_dig_lt ((val b*2 ^ s)) (n+1)
 have hv2l:=getD_dig_lt ((val b*2 ^ s)) n
 have hu0:=getD_lim hlu (n+2+j)
 have hu1:=getD_lim hlu (n+1+j)
 have hu2:=getD_lim hlu (n+j)
 have hz:=kn_zero (n:=n+2) (j:=j) hVlt hlt
 refine wl_sub rfl ?_
 refine zg2 ?_
 refine wl_regD 18 (by decide +kernel) ?_
 refine zg21 ?_
 refine wl_regD 18 (by decide +kernel) ?_
 refine zg7 ?_
 refine st_pure rfl (.bin rfl rfl (quoU (by simp only [en1,dflt];omega) (by omega))) ?_
 refine zg7 ?_
 refine st_pure rfl (.bin rfl rfl (remU (by simp only [en1,dflt];omega))) ?_
 refine zg5 ?_
 refine wl_eqS (S:=fun L=>(((((((((St.mk L.slot (hp [(1001057,⟨1,ul.map u32L,true⟩),(1001105,⟨1,(padL ((dig (val b)).length+1) (val b*2 ^ s)).map u32L,false⟩),(77,⟨1,ql.map u32L,true⟩)])).put (some 4) (.ref 77 1 0 q0)).put (some 9) (nI64 s)).put (some 10) (.ref 1001057 1 0 (m+1))).put (some 11) (magL (val b*2 ^ s))).put (some 12) (nI64 (n+2))).put (some 13) (iL (((j+1:Nat):Int)-1))).put (some 15) (nU64 ((ul.getD (n+2+j) 0*4294967296+ul.getD (n+1+j) 0)/(dig (val b*2 ^ s)).getD (n+1) 0))).put (some 16) (nU64 ((ul.getD (n+2+j) 0*4294967296+ul.getD (n+1+j) 0) % (dig (val b*2 ^ s)).getD (n+1) 0)))) (put_id' (put_id' (put_id' (put_id' (put_id' (put_id' (put_id' (put_id' (mk_id' cl) cl) cl) cl) cl) cl) cl) cl) cl) ?_
 refine div_corr b ul ql n s m q0 j enV hnm hm4 hq0 hk hul hql hlu hlq hvt hV0 hVlt hlt _ ?_
 rintro x LQ ⟨hx1,hx2,hxB⟩
 refine zg15 ?_
 refine wl_eqS (S:=fun L=>(((((((((((((St.mk L.slot (hp [(1001057,⟨1,ul.map u32L,true⟩),(1001105,⟨1,(padL ((dig (val b)).length+1) (val b*2 ^ s)).map u32L,false⟩),(77,⟨1,ql.map u32L,true⟩)])).put (some 4) (.ref 77 1 0 q0)).put (some 9) (nI64 s)).put (some 10) (.ref 1001057 1 0 (m+1))).put (some 11) (magL (val b*2 ^ s))).put (some 12) (nI64 (n+2))).put (some 13) (iL (((j+1:Nat):Int)-1))).put (some 15) (nU64 x)).put (some 17) (nU64 0)).put (some 18) (nU64 0)).put (some 154) (magL (val b*2 ^ s))).put (some 155) (nI64 (n+2))).put (some 156) (nI64 0))) (put_id' (put_id' (put_id' (put_id' (put_id' (put_id' (put_id' (put_id' (put_id' (put_id' (put_id' (put_id' (mk_id' cl) cl) cl) cl) cl) cl) cl) cl) cl) cl) cl) cl) cl) ?_
 refine div_mulsub b ul ql n s m q0 j enV hnm hm4 hq0 hk hul hql hlu hlq hvt hV0 hVlt hlt x hx1 hxB _ ?_
 rintro wl c br LQ ⟨hwl,hlw,hc,hbr,hv5,hz5⟩
 obtain⟨hlw2,hd2,hv6⟩:=ms_last (n:=n+2) (by omega) hlw hbr hc hv5 rfl rfl
 have hwt:=getD_lim hlw (n+2+j)
 refine zg11 ?_
 refine st_pure rfl (.bin rfl rfl (subW (by omega))) ?_
 refine zg1 ?_
 refine st_pure rfl (.bin rfl rfl (subW (by omega))) ?_
 refine zg23 ?_
 refine wl_eqS (S:=fun L=>((((((((((St.mk L.slot (hp [(1001057,⟨1,(wl.set (n+2+j) (((18446744073709551616+(18446744073709551616+wl.getD (n+2+j) 0-c) % 18446744073709551616-br) % 18446744073709551616) % 4294967296)).map u32L,true⟩),(1001105,⟨1,(padL ((dig (val b)).length+1) (val b*2 ^ s)).map u32L,false⟩),(77,⟨1,ql.map u32L,true⟩)])).put (some 4) (.ref 77 1 0 q0)).put (some 9) (nI64 s)).put (some 10) (.ref 1001057 1 0 (m+1))).put (some 11) (magL (val b*2 ^ s))).put (some 12) (nI64 (n+2))).put (some 13) (iL (((j+1:Nat):Int)-1))).put (some 15) (nU64 x)).put (some 22) (nU64 ((18446744073709551616+(18446744073709551616+wl.getD (n+2+j) 0-c) % 18446744073709551616-br) % 18446744073709551616))).put (some 211) (.v (.bool (((((18446744073709551616+(18446744073709551616+wl.getD (n+2+j) 0-c) % 18446744073709551616-br) % 18446744073709551616)/9223372036854775808:Nat):Int) != 0))))) (put_id' (put_id' (put_id' (put_id' (put_id' (put_id' (put_id' (put_id' (put_id' (mk_id' cl) cl) cl) cl) cl) cl) cl) cl) cl) cl) ?_
 refine div_back b ul ql n s m q0 j enV hnm hm4 hq0 hk hul hql hlu hlq hvt hV0 hVlt hlt x hx1 hx2 hxB wl c br hwl hlw hc hbr hv5 hz5 _ ?_
 rintro w4 x4 LQ ⟨hx4,hw4,hl4,hv8⟩
 have hRV:val ul/4294967296 ^ j<(val b*2 ^ s)*4294967296:=by
  obtain⟨_,_,_,_,_,_,h⟩:=kn_ctx (j:=j) enV (by omega) hlu hlt
  exact h
 have hqB:val ul/4294967296 ^ j/(val b*2 ^ s)<4294967296:=by rw [Nat.div_lt_iff_lt_mul hV0,Nat.mul_comm];exact hRV
 have hx4B:x4<4294967296:=by rw [hx4];exact hqB
 have hx4m:x4 % 4294967296=x4:=Nat.mod_eq_of_lt hx4B
 refine zg10 ?_
 exact goal_of (hQ (w4) (x4) _ ⟨hx4,hw4,hl4,hv8⟩) (put_id' (put_id' (put_id' (put_id' (put_id' (put_id' (mk_id' cl) cl) cl) cl) cl) cl) cl)
open H_c_NDiv in
theorem div_shift (b ul ql:List Nat) (s m q0 T:Nat) (hs32:s<32) (hm4:m≤1099511627776) (hul:ul.length=m+1) (hlu:Lim ul) (hTm:T≤m+1) (hTz:∀ p,T≤p→ul.getD p 0=0) (hlow:ul.getD 0 0 % 2 ^ s=0) {Q:LEx→St→Prop} (L1:St)
  (hQ:∀ (w:List Nat) (L2:St),(w.length=m+1∧Lim w∧2 ^ s*val (w.take T)=val (ul.take T)+4294967296 ^ T*(ul.getD T 0 % 2 ^ s))→Q .normal (((St.mk L2.slot (hp [(1001057,⟨1,w.map u32L,true⟩),(1001105,⟨1,(padL ((dig (val b)).length+1) (val b*2 ^ s)).map u32L,false⟩),(77,⟨1,ql.map u32L,true⟩)])).put (some 4) (.ref 77 1 0 q0)).put (some 5) (.ref 1001057 1 0 T))) :
  wpL Tryz.prog ((subF Tryz.f200 [1,1,1,1,1,1,1,1,1,0,1]).getD .skip) Q (((((((St.mk L1.slot (hp [(1001057,⟨1,ul.map u32L,true⟩),(1001105,⟨1,(padL ((dig (val b)).length+1) (val b*2 ^ s)).map u32L,false⟩),(77,⟨1,ql.map u32L,true⟩)])).put (some 4) (.ref 77 1 0 q0)).put (some 5) (.ref 1001057 1 0 T)).put (some 9) (nI64 s)).put (some 260) (.ref 1001057 1 0 T)).put (some 261) (nI64 T)).put (some 262) (nI64 0)):=by
 have ej:True:=trivial
 have ek:True:=trivial
 have es:True:=trivial
 have eV:True:=trivial
 have ej1:True:=trivial
 have ej2:True:=trivial
 have ej3:True:=trivial
 have ehm:True:=trivial
 have ehg:True:=trivial
 have en1:True:=trivial
 have en2:True:=trivial
 have eij:True:=trivial
 have eiij:True:=trivial
 have eqn:True:=trivial
 have egi:True:=trivial
 have egi1:True:=trivial
 have eg2:True:=trivial
 have eg3:True:=trivial
 have ei1:True:=trivial
 have enV:True:=trivial
 refine wl_sub rfl ?_
 refine zg1 ?_
 refine lp2 (fun(i:Nat) (w:List Nat) L=>(((((((St.mk L.slot (hp [(1001057,⟨1,w.map u32L,true⟩),(1001105,⟨1,(padL ((dig (val b)).length+1) (val b*2 ^ s)).map u32L,false⟩),(77,⟨1,ql.map u32L,true⟩)])).put (some 4) (.ref 77 1 0 q0)).put (some 5) (.ref 1001057 1 0 T)).put (some 9) (nI64 s)).put (some 260) (.ref 1001057 1 0 T)).put (some 261) (nI64 T)).put (some 262) (nI64 i))) (fun i w=>i≤T∧w.length=m+1∧Lim w∧(∀ p,i≤p→w.getD p 0=ul.getD p 0)∧2 ^ s*val (w.take i)=val (ul.take i)+4294967296 ^ i*(ul.getD i 0 % 2 ^ s)) (fun i w=>T-i) 0 ul ⟨Nat.zero_le _,hul,hlu,fun _ _=>rfl,by rw [hlow];simp [val]⟩ ?_
 rintro i w L5 ⟨hi,hwl,hlw,hz9,hv9⟩
 have ei1:((i:Int)+1).toNat=i+1:=by omega
 have hwi:=getD_lim hlw i
 have hwi1:=getD_lim hlu (i+1)
 have egi:=hz9 i (Nat.le_refl _)
 have egi1:=hz9 (i+1) (by omega)
 have hui:=getD_lim hlu i
 obtain⟨hh1,hh2⟩:=half_lt (z:=ul.getD (i+1) 0) (show s≤32 by omega) hui
 have hh3:ul.getD i 0/2 ^ s<4294967296:=by omega
 refine zg6 ?_
 refine wl_if rfl (fun h263r h263=>?_) (fun h263r h263=>?_)
 ·have eg2:(w.set i (ul.getD i 0/2 ^ s)).getD i 0=ul.getD i 0/2 ^ s:=getD_set_self _ _ _ (by omega)
  have eg3:(w.set i (ul.getD i 0/2 ^ s)).getD (i+1) 0=ul.getD (i+1) 0:=by rw [Go.Lg.getD_set_ne _ _ _ _ (by omega)];exact egi1
  refine zg17 ?_
  refine st_pure rfl (.sh rfl rfl (shrC (m:=s) (by show s≤32;omega))) ?_
  refine zg9 ?_
  refine op_if 274 rfl (fun h274r h274=>?_) (fun h274r h274=>?_)
  ·refine zg8 ?_
   refine wl_if rfl (fun h280r h280=>?_) (fun h280r h280=>?_)
   ·refine wl_regD 14 (by decide +kernel) ?_
    refine zg11 ?_
    refine st_pure rfl (.sh rfl rfl (shlC32 (s:=s) (by omega))) ?_
    refine st_pure rfl (.bin rfl rfl (orV32 (by simp only [e1,e2,e3,e4,p1,p2,p3,q1,q2,q3,l1,t0,t1,r1,r2,r3,r4,Nat.zero_add,Nat.reduceMul,Nat.reduceAdd,b1,b2,b3,b4,b5,b6,i1,i2,i3,i4,i5,i6,Nat.reduceBEq,dflt,egi,egi1,eg2,eg3,ei1];exact hh1) (by simp only [e1,e2,e3,e4,p1,p2,p3,q1,q2,q3,l1,t0,t1,r1,r2,r3,r4,Nat.zero_add,Nat.reduceMul,Nat.reduceAdd,b1,b2,b3,b4,b5,b6,i1,i2,i3,i4,i5,i6,Nat.reduceBEq,dflt,egi,egi1,eg2,eg3,ei1];exact hh2))) ?_
    refine zg10 ?_
    exact nx2 (i+1) (w.set i (ul.getD (i+1) 0 % 2 ^ s*2 ^ (32-s)+ul.getD i 0/2 ^ s)) ⟨by omega,by simp [hwl],lim_set hlw _ _ hh2,fun p hp=>by rw [Go.Lg.getD_set_ne _ _ _ _ (by omega)];exact hz9 p (by omega),sh_inv (by omega) hs32 egi hv9 (Nat.add_comm _ _)⟩
   ·refine zg8 ?_
    exact nx2 (i+1) (w.set i (ul.getD i 0/2 ^ s)) ⟨by omega,by simp [hwl],lim_set hlw _ _ hh3,fun p hp=>by rw [Go.Lg.getD_set_ne _ _ _ _ (by omega)];exact hz9 p (by omega),sh_inv (by omega) hs32 egi hv9 (by rw [hTz (i+1) (by omega)];simp)⟩
  ·refine zg17 ?_
   exact nx2 (i+1) (w.set i (ul.getD i 0/2 ^ s)) ⟨by omega,by simp [hwl],lim_set hlw _ _ hh3,fun p hp=>by rw [Go.Lg.getD_set_ne _ _ _ _ (by omega)];exact hz9 p (by omega),sh_inv (by omega) hs32 egi hv9 (by rw [show s=0 by omega];simp [Nat.mod_one])⟩
 ·obtain rfl:i=T:=by omega
  refine zg4 ?_
  exact goal_of (hQ (w) _ ⟨hwl,hlw,hv9⟩) (put_id' (put_id' (mk_id' cl) cl) cl)
open H_c_NDiv in
theorem c_NDiv (a b:List Nat) (ha:Lim a) (hb:Lim b) (hla:a.length≤1099511627776) (hlb:b.length≤1099511627776) (hb0:0<val b):CallP Tryz.prog 200 [limL a,limL b] (.tup [magL (val a/val b),magL (val a % val b),iL 0]):=by
 have hla2:=c_trimC a ha hla
 have hlb2:=c_trimC b hb hlb
 have hbne:(dig (val b)).length≠0:=fun h=>by have:=dig_eq_nil.1 (List.eq_nil_of_length_eq_zero h);omega
 refine fnP Tryz.func200 ?_
 have ej:True:=trivial
 have ek:True:=trivial
 have es:True:=trivial
 have eV:True:=trivial
 have ej1:True:=trivial
 have ej2:True:=trivial
 have ej3:True:=trivial
 have ehm:True:=trivial
 have ehg:True:=trivial
 have en1:True:=trivial
 have en2:True:=trivial
 have eij:True:=trivial
 have eiij:True:=trivial
 have eqn:True:=trivial
 have egi:True:=trivial
 have egi1:True:=trivial
 have eg2:True:=trivial
 have eg3:True:=trivial
 have ei1:True:=trivial
 have enV:True:=trivial
 refine zg10 ?_
 refine cp am1 (c_trimD _ (by first | assumption | exact lim_dig _) (by first | omega | (simp;done) | (simp;omega))) ?_
 refine zg1 ?_
 refine cp am1 (c_trimD _ (by first | assumption | exact lim_dig _) (by first | omega | (simp;done) | (simp;omega))) ?_
 refine zg14 ?_
 refine wl_if rfl (fun h30r h30=>?_) (fun h30r h30=>?_)
 ·exfalso
  omega
 ·refine zg4 ?_
  refine cp am2 (c_NCmp _ _ (by first | assumption | exact lim_dig _) (by first | assumption | exact lim_dig _) (by omega) (by omega)) ?_
  refine zg4 ?_
  refine wl_if rfl (fun h34r h34=>?_) (fun h34r h34=>?_)
  ·have hlt:val a<val b:=by
    apply Classical.byContradiction
    intro hh
    rcases Nat.lt_or_eq_of_le (Nat.le_of_not_lt hh) with h | h
    ·rw [cmpN_gt h] at h34;omega
    ·rw [cmpN_eq h.symm] at h34;omega
   refine zg3 ?_
   refine cp am1 (c_Clone _ (by omega)) ?_
   refine zg8 ?_
   rw [Nat.div_eq_of_lt hlt,Nat.mod_eq_of_lt hlt]
   exact ret3f [] rfl rfl (.nil 1) rfl (.pure (limL_pure _)) rfl (.pure rfl)
  ·have hge:val b≤val a:=by
    apply Classical.byContradiction
    intro hh
    rw [cmpN_lt (by omega)] at h34;omega
   refine zg8 ?_
   refine wl_if rfl (fun h41r h41=>?_) (fun h41r h41=>?_)
   ·have hb32:val b<4294967296:=dig_len_le1.1 (by omega)
    have hd1:dig (val b)=[val b]:=dig_small hb0 hb32
    have hg0:(dig (val b)).getD 0 0=val b:=by rw [hd1];rfl
    have ehg:=hg0
    have hml:=Nat.mod_lt (val a) hb0
    refine zg6 ?_
    refine cp am2 (c_Nsmall _ _ (lim_dig _) (by omega) (by show 0<(dig (val b)).getD 0 0;rw [hg0];exact hb0) (getD_dig_lt _ _)) ?_
    refine zg5 ?_
    refine st_end nf1 ?_
    refine zg6 ?_
    refine cpf [55] fm1 (c_trimD [val a % val b] (lim_one (by omega)) (by simp)) ?_
    refine zg3 ?_
    refine st_end nf2 ?_
    refine zg4 ?_
    exact ret3f [] rfl rfl (.pure (magL_pure _)) rfl (.pure (magL_pure _)) rfl (.pure rfl)
   ·obtain⟨n,hn⟩:∃ n,(dig (val b)).length=n+2:=⟨(dig (val b)).length-2,by omega⟩
    obtain⟨m,hm⟩:∃ m,(dig (val a)).length=m:=⟨_,rfl⟩
    have ehm:=hm
    have hm4:m≤1099511627776:=by omega
    have hnm:n+1+1≤m:=by rw [←hm];have:=len_dig_mono hge;omega
    have ej:(((dig (val b)).length:Int)-1).toNat=n+1:=by omega
    obtain⟨s,hs⟩:∃ s,s=32-blen ((dig (val b)).getD (n+1) 0):=⟨_,rfl⟩
    have hbl32:blen ((dig (val b)).getD (n+1) 0)≤32:=blen_le.2 (getD_dig_lt _ _)
    have es:(32:Int)-((blen ((dig (val b)).getD (n+1) 0):Nat):Int)=((s:Nat):Int):=by rw [s_eq hbl32,hs]
    obtain⟨hs32,enV,hVge,hVlt⟩:=kn_norm (n:=n+1) hn hs
    have hV0:0<val b*2 ^ s:=Nat.mul_pos hb0 (Nat.pow_pos (by omega))
    have eV:val (padL ((dig (val b)).length+1) (val b*2 ^ s))=val b*2 ^ s:=padL_val (by rw [hn];exact Nat.lt_of_lt_of_le hVlt (Nat.pow_le_pow_right (by omega) (by omega)))
    have hvt:=kn_vt enV hVge
    have hv1l:=getD_dig_lt (val b*2 ^ s) (n+1)
    have hv2l:=getD_dig_lt (val b*2 ^ s) n
    obtain⟨hst1,hst2⟩:=kn_start (n:=n+1) hs32 hm hnm hVge
    obtain⟨q0,hq0⟩:∃ q0,q0=m+1-(n+2):=⟨_,rfl⟩
    have eqn:((m:Int)+1-((n+2:Nat):Int))=((q0:Nat):Int):=by omega
    have en1:(((n+2:Nat):Int)-1).toNat=n+1:=by omega
    have en2:(((n+2:Nat):Int)-2).toNat=n:=by omega
    have hB1:val (padL (m+1) (val a*2 ^ s))=val a*2 ^ s:=padL_val hst2
    refine zg11 ?_
    refine cp am1 (c_LZ32 _ (getD_dig_lt _ _)) ?_
    refine zg7 ?_
    refine st_call1 [] rfl rfl (.cons (.pure (magL_pure _)) (.cons (.pure rfl) .nil)) (c_raiseN (val a) s (by omega) hs32) (pures_map u32E _) rfl ?_
    refine zg2 ?_
    refine st_call1 [] rfl rfl (.cons (.pure (magL_pure _)) (.cons (.pure rfl) .nil)) (c_raiseN (val b) s (by omega) hs32) (pures_map u32E _) rfl ?_
    refine st_callPf [1001105] rfl rfl (.cons (imm_refm u32E rfl rfl (padL_len _ _).symm) .nil) (c_trimD (padL ((dig (val b)).length+1) (val b*2 ^ s)) (padL_lim _ _) (by rw [padL_len];omega)) ?_
    refine zg2 ?_
    refine st_end nf3 ?_
    refine zg6 ?_
    refine st_end nf4 ?_
    refine zg7 ?_
    refine st_alloc rfl rfl (.mkE (n:=q0) (m:=q0) ml ml om om om) ?_
    refine zg13 ?_
    refine lp3 (fun(k:Nat) (ul ql:List Nat) L=>(((((((St.mk L.slot (hp [(1001057,⟨1,ul.map u32L,true⟩),(1001105,⟨1,(padL ((dig (val b)).length+1) (val b*2 ^ s)).map u32L,false⟩),(77,⟨1,ql.map u32L,true⟩)])).put (some 4) (.ref 77 1 0 q0)).put (some 9) (nI64 s)).put (some 10) (.ref 1001057 1 0 (m+1))).put (some 11) (magL (val b*2 ^ s))).put (some 12) (nI64 (n+2))).put (some 13) (iL ((k:Int)-1)))) (fun k ul ql=>k≤q0∧ul.length=m+1∧ql.length=q0∧Lim ul∧Lim ql∧val ul+(val b*2 ^ s)*4294967296 ^ k*val (ql.drop k)=val a*2 ^ s∧val ul<(val b*2 ^ s)*4294967296 ^ k) (fun k ul ql=>k) q0 (padL (m+1) (val a*2 ^ s)) (List.replicate q0 0) ⟨Nat.le_refl _,padL_len _ _,by simp,padL_lim _ _,lim_zeros _,by rw [List.drop_of_length_le (by simp),hB1];simp [val],by rw [hB1,hq0];exact hst1⟩ (h0:=⟨_,Weak.of_eq (put_id' (put_id' (put_id' (put_id' (put_id' (put_id' (mk_id' cl5) cl5) cl5) cl5) cl5) cl5) cl5)⟩) ?_
    rintro k ul ql L1 ⟨hk,hul,hql,hlu,hlq,hv,hlt⟩
    refine zg7 ?_
    refine wl_if rfl (fun h82r h82=>?_) (fun h82r h82=>?_)
    ·obtain⟨j,rfl⟩:∃ j,k=j+1:=⟨k-1,by omega⟩
     have ek:(((j+1:Nat):Int)-1)=(j:Int):=by omega
     refine zg3 ?_
     refine wl_eqS (S:=fun L=>(((((((St.mk L.slot (hp [(1001057,⟨1,ul.map u32L,true⟩),(1001105,⟨1,(padL ((dig (val b)).length+1) (val b*2 ^ s)).map u32L,false⟩),(77,⟨1,ql.map u32L,true⟩)])).put (some 4) (.ref 77 1 0 q0)).put (some 9) (nI64 s)).put (some 10) (.ref 1001057 1 0 (m+1))).put (some 11) (magL (val b*2 ^ s))).put (some 12) (nI64 (n+2))).put (some 13) (iL (((j+1:Nat):Int)-1)))) (put_id' (put_id' (put_id' (put_id' (put_id' (put_id' (mk_id' cl) cl) cl) cl) cl) cl) cl) ?_
     refine div_digit b ul ql n s m q0 j enV hnm hm4 hq0 hk hul hql hlu hlq hvt hV0 hVlt hlt _ ?_
     rintro w4 x4 LQ ⟨hx4,hw4,hl4,hv8⟩
     have hRV:val ul/4294967296 ^ j<(val b*2 ^ s)*4294967296:=by
      obtain⟨_,_,_,_,_,_,h⟩:=kn_ctx (j:=j) enV (by omega) hlu hlt
      exact h
     have hqB:val ul/4294967296 ^ j/(val b*2 ^ s)<4294967296:=by rw [Nat.div_lt_iff_lt_mul hV0,Nat.mul_comm];exact hRV
     have hx4B:x4<4294967296:=by rw [hx4];exact hqB
     have hx4m:x4 % 4294967296=x4:=Nat.mod_eq_of_lt hx4B
     obtain⟨hn1,hn2⟩:=kn_next (j:=j) hV0 hx4 hv8 (by omega) hv
     refine zg7 ?_
     exact nx3 j w4 (ql.set j (x4 % 4294967296)) ⟨by omega,hw4,by simp [hql],hl4,lim_set hlq _ _ (by omega),by rw [hx4m];exact hn1,hn2⟩ (he:=Weak.of_eq (put_id' (put_id' (put_id' (put_id' (put_id' (put_id' (mk_id' cl5) cl5) cl5) cl5) cl5) cl5) cl5))
    ·obtain rfl:k=0:=by omega
     rw [List.drop_zero,Nat.pow_zero,Nat.mul_one] at hv
     rw [Nat.pow_zero,Nat.mul_one] at hlt
     obtain⟨hq,hr⟩:=kn_end hb0 hv hlt
     obtain⟨T,hT⟩:∃ T,T=trimN (m+1) ul:=⟨_,rfl⟩
     have hTm:T≤m+1:=by rw [hT];exact trimN_le _ _
     have hTz:=trim_zero (l:=ul) (n:=m+1) hul.symm
     rw [←hT] at hTz
     have hlow:=low_bits (by omega) hr
     refine zg8 ?_
     refine st_callM 1001057 rfl rfl rfl (pures_map u32E _) (.cons .ref .nil) (.ref (by omega)) (c_trimM' ul (m+1) hul.symm (by omega) (by omega)) rfl (pures_map u32E _) ?_
     refine zg1 ?_
     refine st_end nf6 ?_
     refine zg9 ?_
     refine wl_eqS (S:=fun L=>(((((((St.mk L.slot (hp [(1001057,⟨1,ul.map u32L,true⟩),(1001105,⟨1,(padL ((dig (val b)).length+1) (val b*2 ^ s)).map u32L,false⟩),(77,⟨1,ql.map u32L,true⟩)])).put (some 4) (.ref 77 1 0 q0)).put (some 5) (.ref 1001057 1 0 T)).put (some 9) (nI64 s)).put (some 260) (.ref 1001057 1 0 T)).put (some 261) (nI64 T)).put (some 262) (nI64 0))) (put_id' (put_id' (put_id' (put_id' (put_id' (put_id' (mk_id' cl) cl) cl) cl) cl) cl) cl) ?_
     refine div_shift b ul ql s m q0 T hs32 hm4 hul hlu hTm hTz hlow _ ?_
     rintro w LQ ⟨hwl,hlw,hv9⟩
     rw [hTz T (Nat.le_refl _),Nat.zero_mod,Nat.mul_zero,Nat.add_zero] at hv9
     have hfin:val (w.take T)=val a % val b:=by
      have e1:=(trimN_spec ul.length ul (Nat.le_refl _)).2
      rw [List.take_length,hul,←hT,hr] at e1
      rw [e1,Nat.mul_comm] at hv9
      exact Nat.eq_of_mul_eq_mul_right (Nat.pow_pos (by omega)) hv9
     refine zg4 ?_
     refine cpf [77] fm1 (c_trimD ql hlq (by omega)) ?_
     refine zg1 ?_
     refine cpf [1001057] fm1 (c_trimD (w.take T) (lim_take hlw _) (by simp;omega)) ?_
     refine zg6 ?_
     rw [←hq,←hfin]
     exact ret3f [] rfl rfl (.pure (magL_pure _)) rfl (.pure (magL_pure _)) rfl (.pure rfl)
namespace H_c_NGcd
theorem zSm {p q:Prop} (k:q) (e:p=q:=by simp only [e1,e2,e3,e4,p1,p2,p3,q1,q2,q3,l1,t0,t1,r1,r2,r3,r4,Nat.zero_add,Nat.reduceMul,Nat.reduceAdd,b1,b2,b3,b4,b5,b6,i1,i2,i3,i4,i5,i6,Nat.reduceBEq,dflt,val_dig];exact rfl):p:=e.mpr k
end H_c_NGcd
open H_c_NGcd in
theorem c_NGcd (a b:List Nat) (ha:Lim a) (hb:Lim b) (hla:a.length≤1099511627776) (hlb:b.length≤1099511627776):CallP Tryz.prog 128 [limL a,limL b] (magL (Nat.gcd (val a) (val b))):=by
 have hla2:=c_trimC a ha hla
 have hlb2:=c_trimC b hb hlb
 refine fnP Tryz.func128 ?_
 refine zg8 ?_
 refine cp am1 (c_trimD _ (by first | assumption | exact lim_dig _) (by first | omega | (simp;done) | (simp;omega))) ?_
 refine cp am1 (c_Clone _ (by omega)) ?_
 refine zg1 ?_
 refine cp am1 (c_trimD _ (by first | assumption | exact lim_dig _) (by first | omega | (simp;done) | (simp;omega))) ?_
 refine cp am1 (c_Clone _ (by omega)) ?_
 refine zg6 ?_
 refine lp2 (fun(x y:Nat) L=>(((St.mk L.slot (hp [])).put (some 5) (magL x)).put (some 6) (magL y))) (fun x y=>Nat.gcd x y=Nat.gcd (val a) (val b)∧(dig x).length≤1099511627776∧(dig y).length≤1099511627776) (fun x y=>y) (val a) (val b) ⟨rfl,hla2,hlb2⟩ ?_
 rintro x y L1 ⟨hg,hx,hy⟩
 refine zg8 ?_
 refine wl_if rfl (fun h23r h23=>?_) (fun h23r h23=>?_)
 ·have hy0:0<y:=Nat.pos_of_ne_zero (fun h=>by rw [h,dig_zero] at h23;simp at h23)
  refine zg7 ?_
  refine cp am2 (c_NDiv _ _ (lim_dig _) (lim_dig _) (by omega) (by omega) (by rw [val_dig];exact hy0)) ?_
  refine zg17 ?_
  exact nx2 y (x % y) ⟨by rw [Nat.gcd_comm,←Nat.gcd_rec,Nat.gcd_comm];exact hg,hy,Nat.le_trans (len_dig_mono (Nat.le_of_lt (Nat.mod_lt x hy0))) hy⟩ (hm:=Nat.mod_lt _ hy0)
 ·refine zg13 ?_
  refine wl_if rfl (fun h35r h35=>?_) (fun h35r h35=>?_)
  ·have hy0:y=0:=dig_eq_nil.1 (List.eq_nil_of_length_eq_zero (by omega))
   refine zg8 ?_
   subst hy0
   rw [←hg,Nat.gcd_zero_right]
   exact ret1 rfl (by first | exact .pure rfl | exact .pure (limL_pure _) | exact .pure (magL_pure _) | exact .pure (ratE.pure _) | exact .pure (pure_lst u32E _ _) | exact .pure (pure_lst ratE _ _))
  ·have hy0:0<y:=Nat.pos_of_ne_zero (fun h=>by rw [h,dig_zero] at h35;simp at h35)
   refine zg10 ?_
   refine wl_cut (fun L=>∃ (x2:Nat) (y2:Nat) (L1:St),(Nat.gcd x2 y2=Nat.gcd (val a) (val b)∧(dig x2).length≤2∧(dig y2).length≤2)∧L=(((St.mk L1.slot (hp [])).put (some 5) (magL x2)).put (some 6) (magL y2))) ?_ ?_
   ·refine wl_if rfl (fun h39r h39=>?_) (fun h39r h39=>?_)
    ·refine zg4 ?_
     refine cp am2 (c_NDiv _ _ (lim_dig _) (lim_dig _) (by omega) (by omega) (by rw [val_dig];exact hy0)) ?_
     refine zg16 ?_
     exact⟨y,x % y,_,⟨by rw [Nat.gcd_comm,←Nat.gcd_rec,Nat.gcd_comm];exact hg,by omega,Nat.le_trans (len_dig_mono (Nat.le_of_lt (Nat.mod_lt x hy0))) (by omega)⟩,((put_id' (put_id' (mk_id' cl) cl) cl)).symm⟩
    ·refine zg2 ?_
     exact⟨x,y,_,⟨hg,by omega,by omega⟩,((put_id' (put_id' (mk_id' cl) cl) cl)).symm⟩
   ·rintro _ ⟨x2,y2,LC39,⟨hg2,hx2,hy2⟩,rfl⟩
    refine zg4 ?_
    refine cp am1 (c_word _ (lim_dig _) (by omega)) ?_
    refine zg1 ?_
    refine cp am1 (c_word _ (lim_dig _) (by omega)) ?_
    refine zg6 ?_
    refine lp2 (fun(m n:Nat) L=>(((St.mk L.slot (hp [])).put (some 13) (nU64 m)).put (some 14) (nU64 n))) (fun m n=>Nat.gcd m n=Nat.gcd (val a) (val b)∧m<18446744073709551616∧n<18446744073709551616) (fun m n=>n) x2 y2 ⟨hg2,dig_len_le2.1 hx2,dig_len_le2.1 hy2⟩ ?_
    rintro m n L2 ⟨hg3,hm,hn⟩
    refine zg7 ?_
    refine wl_if rfl (fun h54r h54=>?_) (fun h54r h54=>?_)
    ·refine zg3 ?_
     refine wl_regD 6 (by decide +kernel) ?_
     refine zg9 ?_
     exact nx2 n (m % n) ⟨by rw [Nat.gcd_comm,←Nat.gcd_rec,Nat.gcd_comm];exact hg3,hn,by have:=Nat.mod_lt m (show n > 0 by omega);omega⟩ (hm:=Nat.mod_lt _ (by omega))
    ·obtain rfl:n=0:=by omega
     refine zg8 ?_
     refine cp am1 (c_NOf _ (by omega)) ?_
     refine zg4 ?_
     rw [←hg3,Nat.gcd_zero_right]
     exact ret1 rfl (by first | exact .pure rfl | exact .pure (limL_pure _) | exact .pure (magL_pure _) | exact .pure (ratE.pure _) | exact .pure (pure_lst u32E _ _) | exact .pure (pure_lst ratE _ _))
open H0 in
theorem c_one :CallP Tryz.prog 253 [] (magL 1):=by
 refine fnP Tryz.func253 ?_
 refine zg12 ?_
 rw [show magL 1=.list 1 ([1].map u32L) from rfl]
 exact ret1f [1] rfl rfl (imm_refm u32E rfl rfl rfl)
namespace H_c_den
theorem zSm {p q:Prop} (k:q) (e:p=q:=by simp only [e1,e2,e3,e4,p1,p2,p3,q1,q2,q3,l1,t0,t1,r1,r2,r3,r4,Nat.zero_add,Nat.reduceMul,Nat.reduceAdd,b1,b2,b3,b4,b5,b6,i1,i2,i3,i4,i5,i6,Nat.reduceBEq,kills_map ratE,ratL_kill];exact rfl):p:=e.mpr k
end H_c_den
open H_c_den in
theorem c_den (q:Rat):CallP Tryz.prog 212 [ratL q] (magL q.den):=by
 refine fnP Tryz.func212 ?_
 refine zg15 ?_
 refine wl_if rfl (fun h6r h6=>?_) (fun h6r h6=>?_)
 ·have hd1:=denN_zero (show (dig (denN q)).length=0 by omega)
  refine zg2 ?_
  refine cp am0 (c_one) ?_
  refine zg5 ?_
  rw [hd1]
  exact ret1 rfl (by first | exact .pure rfl | exact .pure (limL_pure _) | exact .pure (magL_pure _) | exact .pure (ratE.pure _) | exact .pure (pure_lst u32E _ _) | exact .pure (pure_lst ratE _ _))
 ·have hd1:=denN_pos (q:=q) (by omega)
  refine zg10 ?_
  rw [←hd1]
  exact ret1 rfl (by first | exact .pure rfl | exact .pure (limL_pure _) | exact .pure (magL_pure _) | exact .pure (ratE.pure _) | exact .pure (pure_lst u32E _ _) | exact .pure (pure_lst ratE _ _))
namespace H_c_Rword
theorem zSm {p q:Prop} (k:q) (e:p=q:=by simp only [e1,e2,e3,e4,p1,p2,p3,q1,q2,q3,l1,t0,t1,r1,r2,r3,r4,Nat.zero_add,Nat.reduceMul,Nat.reduceAdd,b1,b2,b3,b4,b5,b6,i1,i2,i3,i4,i5,i6,Nat.reduceBEq,dflt,ej];exact rfl):p:=e.mpr k
end H_c_Rword
open H_c_Rword in
theorem c_Rword (a:List Nat) (h:Lim a) (hl:a.length≤2):CallP Tryz.prog 252 [limL a] (nU64 (val a)):=by
 unfold limL
 refine fnP Tryz.func252 ?_
 have ej:True:=trivial
 refine zg20 ?_
 refine lp2 (fun(k n:Nat) L=>((((St.mk L.slot (hp [])).put (some 0) (.list 1 (a.map u32L))).put (some 3) (nU64 n)).put (some 4) (iL ((k:Int)-1)))) (fun k n=>k≤a.length∧n=val (a.drop k)) (fun k n=>k) a.length 0 ⟨Nat.le_refl _,by simp [val]⟩ ?_
 rintro k n L1 ⟨hk,hn⟩
 refine zg7 ?_
 refine wl_if rfl (fun h9r h9=>?_) (fun h9r h9=>?_)
 ·obtain⟨j,rfl⟩:∃ j,k=j+1:=⟨k-1,by omega⟩
  have ej:(((j+1:Nat):Int)-1).toNat=j:=by omega
  have ek:(((j+1:Nat):Int)-1)=j:=by omega
  have hj:=getD_lim h j
  have hnB:=val_drop_lt h (k:=j+1) (j:=1) (by omega)
  rw [←hn] at hnB
  refine zg23 ?_
  exact nx2 j (n*4294967296+a.getD j 0) ⟨by omega,by rw [val_drop (by omega),hn];omega⟩
 ·obtain rfl:k=0:=by omega
  rw [List.drop_zero] at hn
  refine zg12 ?_
  rw [←hn]
  exact ret1 rfl (by first | exact .pure rfl | exact .pure (limL_pure _) | exact .pure (magL_pure _) | exact .pure (ratE.pure _) | exact .pure (pure_lst u32E _ _) | exact .pure (pure_lst ratE _ _))
open H0 in
theorem c_divisor (a b:Nat) (ha:a<18446744073709551616) (hb:b<18446744073709551616):CallP Tryz.prog 282 [nU64 a,nU64 b] (nU64 (Nat.gcd a b)):=by
 refine fnP Tryz.func282 ?_
 refine zg7 ?_
 refine lp2 (fun(m n:Nat) L=>(((St.mk L.slot (hp [])).put (some 0) (nU64 m)).put (some 1) (nU64 n))) (fun m n=>Nat.gcd m n=Nat.gcd a b∧m<18446744073709551616∧n<18446744073709551616) (fun m n=>n) a b ⟨rfl,ha,hb⟩ ?_
 rintro m n L1 ⟨hg3,hm,hn⟩
 refine zg7 ?_
 refine wl_if rfl (fun h6r h6=>?_) (fun h6r h6=>?_)
 ·refine zg3 ?_
  refine wl_regD 6 (by decide +kernel) ?_
  refine zg9 ?_
  exact nx2 n (m % n) ⟨by rw [Nat.gcd_comm,←Nat.gcd_rec,Nat.gcd_comm];exact hg3,hn,by have:=Nat.mod_lt m (show n > 0 by omega);omega⟩ (hm:=Nat.mod_lt _ (by omega))
 ·obtain rfl:n=0:=by omega
  refine zg12 ?_
  rw [←hg3,Nat.gcd_zero_right]
  exact ret1 rfl (by first | exact .pure rfl | exact .pure (limL_pure _) | exact .pure (magL_pure _) | exact .pure (ratE.pure _) | exact .pure (pure_lst u32E _ _) | exact .pure (pure_lst ratE _ _))
namespace H_c_limbs
theorem zSm {p q:Prop} (k:q) (e:p=q:=by simp only [e1,e2,e3,e4,p1,p2,p3,q1,q2,q3,l1,t0,t1,r1,r2,r3,r4,Nat.zero_add,Nat.reduceMul,Nat.reduceAdd,b1,b2,b3,b4,b5,b6,i1,i2,i3,i4,i5,i6,Nat.reduceBEq,dflt,List.length_set,Nat.add_zero,eqm,eqz];exact rfl):p:=e.mpr k
end H_c_limbs
open H_c_limbs in
theorem c_limbs (l:List Nat) (off len n:Nat) (hn:n<18446744073709551616) (h1:1≤len) (h2:4294967296≤n→2≤len) (hl:off+len≤l.length):CallOKM Tryz.prog 283 ⟨1,l.map u32L,true⟩ [.ref 0 1 off len,nU64 n] (nI64 (dlen n)) ⟨1,(putd l off n).map u32L,true⟩:=by
 refine fnM Tryz.func283 ?_
 have eqm:True:=trivial
 have eqz:True:=trivial
 refine zg22 ?_
 refine wl_if rfl (fun h11r h11=>?_) (fun h11r h11=>?_)
 ·have hn1:n<4294967296:=by omega
  have eqz:n % 4294967296=n:=Nat.mod_eq_of_lt hn1
  refine zg7 ?_
  simp only [putd,dlen,if_pos hn1,eqz]
  exact retM1 rfl (.imm (.pure rfl)) rfl rfl (pures_map u32E _)
 ·have hn1:¬ n<4294967296:=by omega
  have eqm:n/4294967296 % 4294967296=n/4294967296:=Nat.mod_eq_of_lt (by omega)
  refine zg18 ?_
  simp only [putd,dlen,if_neg hn1]
  exact retM1 rfl (.imm (.pure rfl)) rfl rfl (pures_map u32E _)
theorem val_nil:val []=0:=rfl
theorem blen_dec (n:Nat):decide (((blen n:Nat):Int)=0)=decide (n=0):=by
 rw [decide_eq_decide,←blen_zero];omega
theorem dig_is1 {n:Nat} (h:(dig n).length=1):(dig n).getD 0 0=n∧0<n:=by
 have h0:0<n:=Nat.pos_of_ne_zero (fun e=>by rw [e,dig_zero] at h;cases h)
 rw [dig_small h0 (dig_len_le1.1 (by omega))];exact⟨rfl,h0⟩
namespace H_c_parts
theorem zSm {p q:Prop} (k:q) (e:p=q:=by simp only [e1,e2,e3,e4,p1,p2,p3,q1,q2,q3,l1,t0,t1,r1,r2,r3,r4,Nat.zero_add,Nat.reduceMul,Nat.reduceAdd,b1,b2,b3,b4,b5,b6,i1,i2,i3,i4,i5,i6,Nat.reduceBEq,kills_map ratE,ratL_kill,dflt,val_dig];exact rfl):p:=e.mpr k
end H_c_parts
open H_c_parts in
theorem c_parts (q:Rat):CallP Tryz.prog 209 [ratL q] (.tup [nU64 (pN q),nU64 (pD q),bL (smB q)]):=by
 have hdp:=q.den_pos
 have hden:=denN_eq q
 refine fnP Tryz.func209 ?_
 refine zg16 ?_
 refine op_if 9 rfl (fun h9r h9=>?_) (fun h9r h9=>?_)
 ·have hs:smB q=false:=decide_eq_false (fun h=>by have:=dig_len_le1.2 h.1;omega)
  have h14:True:=trivial
  refine zg17 ?_
  simp only [pN,pD,hs,Bool.false_eq_true,if_false]
  exact ret3f [] rfl rfl (.pure rfl) rfl (.pure rfl) rfl (.pure rfl)
 ·have hn1:=dig_len_le1.1 (show (dig q.num.natAbs).length≤1 by omega)
  refine zg7 ?_
  refine wl_if rfl (fun h14r h14=>?_) (fun h14r h14=>?_)
  ·have hs:smB q=false:=by first | exact hs | exact decide_eq_false (fun h=>by have:=sm_den h.2;omega)
   refine zg9 ?_
   simp only [pN,pD,hs,Bool.false_eq_true,if_false]
   exact ret3f [] rfl rfl (.pure rfl) rfl (.pure rfl) rfl (.pure rfl)
  ·have hd1:q.den<4294967296:=by
    have:=dig_len_le1.1 (show (dig (denN q)).length≤1 by omega)
    rw [hden] at this;split at this<;>omega
   have hs:smB q=true:=decide_eq_true ⟨hn1,hd1⟩
   refine zg16 ?_
   refine wl_cut (fun L=>∃ (d:Nat) (L1:St),(d=q.den)∧L=(((St.mk L1.slot (hp [(1,⟨3,[ratL q],true⟩)])).put (some 1) (.eptr 1 3 0 0)).put (some 3) (nU64 d))) ?_ ?_
   ·refine wl_if rfl (fun h18r h18=>?_) (fun h18r h18=>?_)
    ·have hdn:=denN_pos (q:=q) (by omega)
     have hg0:(dig (denN q)).getD 0 0=q.den:=by rw [hdn,dig_small hdp hd1];rfl
     refine zg9 ?_
     exact⟨(dig (denN q)).getD 0 0,_,hg0,((put_id' (put_id' (mk_id' cl) cl) cl)).symm⟩
    ·have hdn:=denN_zero (q:=q) (by omega)
     refine zg2 ?_
     exact⟨1,_,hdn.symm,((put_id' (put_id' (mk_id' cl) cl) cl)).symm⟩
   ·rintro _ ⟨d,LC18,rfl,rfl⟩
    refine zg5 ?_
    refine cp am1 (c_Rword _ (lim_dig _) (by omega)) ?_
    refine zg9 ?_
    simp only [pN,pD,hs,if_true]
    have hb0:((q.den:Int) != 0)=true:=by simp;omega
    refine ret3f [] rfl rfl (.pure rfl) rfl (.pure rfl) (x'':=.v (.bool ((q.den:Int) != 0))) rfl ?_
    rw [hb0]
    exact .pure rfl
namespace H_c_short
theorem zSm {p q:Prop} (k:q) (e:p=q:=by simp only [e1,e2,e3,e4,p1,p2,p3,q1,q2,q3,l1,t0,t1,r1,r2,r3,r4,Nat.zero_add,Nat.reduceMul,Nat.reduceAdd,b1,b2,b3,b4,b5,b6,i1,i2,i3,i4,i5,i6,Nat.reduceBEq,dflt,Nat.sub_zero,Nat.zero_add,Nat.add_sub_cancel_left,Nat.add_zero];exact rfl):p:=e.mpr k
theorem zSm1 {p q:Prop} (k:q) (e:p=q:=by simp only [e1,e2,e3,e4,p1,p2,p3,q1,q2,q3,l1,t0,t1,r1,r2,r3,r4,Nat.zero_add,Nat.reduceMul,Nat.reduceAdd,b1,b2,b3,b4,b5,b6,i1,i2,i3,i4,i5,i6,Nat.reduceBEq,dflt,Nat.sub_zero,Nat.zero_add,Nat.add_sub_cancel_left,Nat.add_zero,←hN,←hD];exact rfl):p:=e.mpr k
theorem nf1 {p:Prop} (h:p:=by first | (refine zSm1 ?_;exact rfl) | exact rfl):p:=h
end H_c_short
open H_c_short in
theorem c_short (s:Bool) (n d:Nat) (hn:n<18446744073709551616) (hd0:0<d) (hd:d<18446744073709551616):CallP Tryz.prog 255 [bL s,nU64 n,nU64 d] (ratL (qv s n d)):=by
 refine fnP Tryz.func255 ?_
 refine zg12 ?_
 refine wl_if rfl (fun h13r h13=>?_) (fun h13r h13=>?_)
 ·refine zg8 ?_
  obtain rfl:n=0:=by omega
  rw [qv_zero,ratL_zero]
  exact retC [] rfl rfl rfl rfl rfl T32 (.pure rfl)
 ·have hn0:0<n:=by omega
  have hg:0<Nat.gcd n d:=Nat.gcd_pos_of_pos_left _ hn0
  have hn2:0<n/Nat.gcd n d:=Nat.div_pos (Nat.le_of_dvd hn0 (Nat.gcd_dvd_left n d)) hg
  have hd2:0<d/Nat.gcd n d:=Nat.div_pos (Nat.le_of_dvd hd0 (Nat.gcd_dvd_right n d)) hg
  have hn3:n/Nat.gcd n d<18446744073709551616:=Nat.lt_of_le_of_lt (Nat.div_le_self _ _) hn
  have hd3:d/Nat.gcd n d<18446744073709551616:=Nat.lt_of_le_of_lt (Nat.div_le_self _ _) hd
  have hE:=ratL_qv s hn0 hd0
  obtain⟨g,hgg⟩:∃ g,g=Nat.gcd n d:=⟨_,rfl⟩
  obtain⟨N,hN⟩:∃ N,N=n/Nat.gcd n d:=⟨_,rfl⟩
  obtain⟨D,hD⟩:∃ D,D=d/Nat.gcd n d:=⟨_,rfl⟩
  rw [←hN,←hD] at hE
  rw [←hN] at hn2 hn3
  rw [←hD] at hd2 hd3
  have hk1:=dig_dlen hn2 hn3
  have hk2:=dig_dlen hd2 hd3
  obtain⟨hs1,hs2⟩:=short_two hn2 hn3 hd2 hd3
  have hs0:=short_one hn2 hn3
  have hl1:(putd [0,0,0,0] 0 N).length=4:=putd_len _ _ _
  have hl2:(putd (putd [0,0,0,0] 0 N) (dlen N) D).length=4:=by rw [putd_len,putd_len];rfl
  refine zg6 ?_
  refine cp am2 (c_divisor _ _ (by omega) (by omega)) ?_
  refine zg4 ?_
  refine wl_regD 8 (by decide +kernel) ?_
  refine zg2 ?_
  refine st_pure rfl (.bin rfl rfl (quoU (by omega) (by omega))) ?_
  refine zg2 ?_
  refine st_pure rfl (.bin rfl rfl (quoU (by omega) (by omega))) ?_
  refine zg2 ?_
  refine st_end nf1 ?_
  refine zg3 ?_
  refine st_alloc rfl rfl (.mkE (n:=4) (m:=4) ml ml om om om) ?_
  refine zg7 ?_
  refine st_callM 24 rfl rfl rfl (pures_map u32E _) (.cons .ref (.cons (.imm (.pure rfl)) .nil)) (.ref (by decide)) (c_limbs [0,0,0,0] 0 4 N hn3 (by omega) (by omega) (by simp)) rfl (pures_map u32E _) ?_
  refine zg9 ?_
  refine st_pure rfl (.sliceR3 (a:=0) (h:=dlen N) (mx:=dlen N) rfl Tryz.underlying30 T181 (fun y hy=>by cases hy) (fun _=>rfl) rfl rfl (by omega) (by omega) (by omega) (by omega)) ?_
  refine zg12 ?_
  refine wl_if rfl (fun h35r h35=>?_) (fun h35r h35=>?_)
  ·refine zg5 ?_
   refine st_pure rfl (.sliceR (a:=dlen N) (h:=4) rfl Tryz.underlying30 T181 (fun y hy=>by cases hy;exact⟨_,rfl⟩) (fun h=>by cases h) (fun y hy=>by cases hy) (fun _=>rfl) (by omega) (by omega) (by omega)) ?_
   refine zg1 ?_
   refine st_callM 24 rfl rfl rfl (pures_map u32E _) (.cons .ref (.cons (.imm (.pure rfl)) .nil)) (.ref (by omega)) (c_limbs (putd [0,0,0,0] 0 N) (0+dlen N) (4-dlen N) D hd3 (by omega) (by omega) (by omega)) rfl (pures_map u32E _) ?_
   refine zg9 ?_
   refine st_pure rfl (.sliceR3 (a:=dlen N) (h:=dlen N+dlen D) (mx:=dlen N+dlen D) rfl Tryz.underlying30 T181 (fun y hy=>by cases hy;exact⟨_,rfl⟩) (fun h=>by cases h) rfl rfl (by omega) (by omega) (by omega) (by omega)) ?_
   refine zg11 ?_
   rw [hE,if_neg (by omega)]
   exact retC [24] rfl rfl rfl rfl rfl T32 (.agg (.cons (.pure rfl) (.cons (imm_refS u32E rfl rfl (by omega) hs1) (.cons (imm_refS u32E rfl rfl (by omega) hs2) .nil))))
  ·refine zg9 ?_
   rw [hE,if_pos (by omega)]
   exact retC [24] rfl rfl rfl rfl rfl T32 (.agg (.cons (.pure rfl) (.cons (imm_refS u32E rfl rfl (by omega) hs0) (.cons (.pure rfl) .nil))))
namespace H_c_reduce
theorem zSm {p q:Prop} (k:q) (e:p=q:=by simp only [e1,e2,e3,e4,p1,p2,p3,q1,q2,q3,l1,t0,t1,r1,r2,r3,r4,Nat.zero_add,Nat.reduceMul,Nat.reduceAdd,b1,b2,b3,b4,b5,b6,i1,i2,i3,i4,i5,i6,Nat.reduceBEq,dflt,val_dig,val_nil,Nat.add_zero];exact rfl):p:=e.mpr k
end H_c_reduce
open H_c_reduce in
theorem c_reduce (s:Bool) (a b:List Nat) (ha:Lim a) (hb:Lim b) (hla:a.length≤1099511627776) (hlb:b.length≤1099511627776):CallP Tryz.prog 256 [bL s,limL a,limL b] (ratL (qv s (val a) (val b))):=by
 have hla2:=c_trimC a ha hla
 have hlb2:=c_trimC b hb hlb
 refine fnP Tryz.func256 ?_
 refine zg7 ?_
 refine wl_cut (fun L=>∃ (t:Bool) (L1:St),(t=decide (val a=0∨val b=0))∧L=((((((St.mk L1.slot (hp [(6,⟨3,[.agg [.v (.bool false),.list 1 [],.list 1 []]],true⟩)])).put (some 0) (bL s)).put (some 1) (limL a)).put (some 2) (limL b)).put (some 6) (.eptr 6 3 0 0)).put (some 15) (bL t))) ?_ ?_
 ·refine zg2 ?_
  refine cp am1 (c_NBits _ (by first | assumption | exact lim_dig _) (by omega)) ?_
  refine zg2 ?_
  refine op_if 11 rfl (fun h11r h11=>?_) (fun h11r h11=>?_)
  ·have hz:val a=0:=blen_zero.1 (by omega)
   refine zg6 ?_
   exact⟨true,_,(decide_eq_true (.inl hz)).symm,((put_id' (put_id' (put_id' (put_id' (put_id' (mk_id' cl) cl) cl) cl) cl) cl)).symm⟩
  ·have hza:val a≠0:=fun h=>by rw [blen_zero.2 h] at h11;exact h11 rfl
   refine zg1 ?_
   refine cp am1 (c_NBits _ (by first | assumption | exact lim_dig _) (by omega)) ?_
   refine zg4 ?_
   exact⟨decide (((blen (val b):Nat):Int)=0),_,by show decide _=_;rw [blen_dec];simp [hza],((put_id' (put_id' (put_id' (put_id' (put_id' (mk_id' cl) cl) cl) cl) cl) cl)).symm⟩
 ·rintro _ ⟨t,LR1,ht,rfl⟩
  refine zg1 ?_
  refine wl_if rfl (fun h15r h15=>?_) (fun h15r h15=>?_)
  ·have hq:qv s (val a) (val b)=0:=by
    rw [ht,decide_eq_true_eq] at h15r
    rcases h15r with h | h
    ·rw [h];exact qv_zero _ _
    ·rw [h];exact qv_den0 _ _
   refine zg8 ?_
   rw [hq,ratL_zero]
   exact retC [] rfl rfl rfl rfl rfl T32 (.pure rfl)
  ·rw [ht,decide_eq_false_iff_not,not_or] at h15r
   have ha0:0<val a:=Nat.pos_of_ne_zero h15r.1
   have hb0:0<val b:=Nat.pos_of_ne_zero h15r.2
   have hg:0<Nat.gcd (val a) (val b):=Nat.gcd_pos_of_pos_left _ ha0
   have hE:=ratL_qv s ha0 hb0
   have hgl:(dig (Nat.gcd (val a) (val b))).length≤1099511627776:=Nat.le_trans (len_dig_mono (Nat.le_of_dvd ha0 (Nat.gcd_dvd_left _ _))) hla2
   have hqa:(dig (val a/Nat.gcd (val a) (val b))).length≤1099511627776:=Nat.le_trans (len_dig_mono (Nat.div_le_self _ _)) hla2
   have hqb:(dig (val b/Nat.gcd (val a) (val b))).length≤1099511627776:=Nat.le_trans (len_dig_mono (Nat.div_le_self _ _)) hlb2
   refine zg4 ?_
   refine wl_cut (fun L=>∃ (t:Bool) (L1:St),(t=decide (a.length≤2∧b.length≤2))∧L=((((((St.mk L1.slot (hp [(6,⟨3,[.agg [.v (.bool false),.list 1 [],.list 1 []]],true⟩)])).put (some 0) (bL s)).put (some 1) (limL a)).put (some 2) (limL b)).put (some 6) (.eptr 6 3 0 0)).put (some 24) (bL t))) ?_ ?_
   ·refine zg5 ?_
    refine op_if 20 rfl (fun h20r h20=>?_) (fun h20r h20=>?_)
    ·refine zg6 ?_
     exact⟨decide (((b.length:Nat):Int)≤2),_,by rw [decide_eq_decide];omega,((put_id' (put_id' (put_id' (put_id' (put_id' (mk_id' cl) cl) cl) cl) cl) cl)).symm⟩
    ·refine zg6 ?_
     exact⟨false,_,by symm;rw [decide_eq_false_iff_not];omega,((put_id' (put_id' (put_id' (put_id' (put_id' (mk_id' cl) cl) cl) cl) cl) cl)).symm⟩
   ·rintro _ ⟨t,LR3,ht2,rfl⟩
    refine zg1 ?_
    refine wl_if rfl (fun h24r h24=>?_) (fun h24r h24=>?_)
    ·rw [ht2,decide_eq_true_eq] at h24r
     have hla24:=h24r.1
     have hlb24:=h24r.2
     refine zg4 ?_
     have hva:=val_lt_len ha (k:=2) (by omega)
     have hvb:=val_lt_len hb (k:=2) (by omega)
     refine cp am1 (c_Rword a ha (by omega)) ?_
     refine zg1 ?_
     refine cp am1 (c_Rword b hb (by omega)) ?_
     refine cp am3 (c_short _ _ _ hva hb0 hvb) ?_
     refine zg5 ?_
     exact retC [] rfl rfl rfl (ratE.csize _) (ratL_all _) T32 (.pure (ratE.pure _))
    ·refine zg7 ?_
     refine cp am2 (c_NGcd _ _ (by first | assumption | exact lim_dig _) (by first | assumption | exact lim_dig _) (by omega) (by omega)) ?_
     refine zg6 ?_
     refine cp am1 (c_NBits _ (by first | assumption | exact lim_dig _) (by omega)) ?_
     refine zg3 ?_
     refine wl_cut (fun L=>∃ (x:List Nat) (y:List Nat) (L1:St),(Lim x∧Lim y∧x.length≤1099511627776∧y.length≤1099511627776∧val x=val a/Nat.gcd (val a) (val b)∧val y=val b/Nat.gcd (val a) (val b))∧L=(((((St.mk L1.slot (hp [(6,⟨3,[.agg [.v (.bool false),.list 1 [],.list 1 []]],true⟩)])).put (some 0) (bL s)).put (some 1) (limL x)).put (some 2) (limL y)).put (some 6) (.eptr 6 3 0 0))) ?_ ?_
     ·refine wl_if rfl (fun h36r h36=>?_) (fun h36r h36=>?_)
      ·refine zg4 ?_
       refine cp am2 (c_NDiv _ _ (by first | assumption | exact lim_dig _) (by first | assumption | exact lim_dig _) (by omega) (by omega) (by rw [val_dig];exact hg)) ?_
       refine zg10 ?_
       refine cp am2 (c_NDiv _ _ (by first | assumption | exact lim_dig _) (by first | assumption | exact lim_dig _) (by omega) (by omega) (by rw [val_dig];exact hg)) ?_
       refine zg7 ?_
       exact⟨dig (val a/Nat.gcd (val a) (val b)),dig (val b/Nat.gcd (val a) (val b)),_,⟨lim_dig _,lim_dig _,hqa,hqb,val_dig _,val_dig _⟩,((put_id' (put_id' (put_id' (put_id' (mk_id' cl) cl) cl) cl) cl)).symm⟩
      ·have hg1:Nat.gcd (val a) (val b)=1:=blen_one.1 (by have:=blen_zero (n:=Nat.gcd (val a) (val b));omega)
       refine zg2 ?_
       exact⟨a,b,_,⟨ha,hb,hla,hlb,by rw [hg1,Nat.div_one],by rw [hg1,Nat.div_one]⟩,((put_id' (put_id' (put_id' (put_id' (mk_id' cl) cl) cl) cl) cl)).symm⟩
     ·rintro _ ⟨x,y,LC36,⟨hx,hy,hlx,hly,hvx,hvy⟩,rfl⟩
      rw [←hvx,←hvy] at hE
      have hy0:0<val y:=by rw [hvy];exact Nat.div_pos (Nat.le_of_dvd hb0 (Nat.gcd_dvd_right _ _)) hg
      refine zg4 ?_
      refine cp am2 (c_Add x [] hx (by intro y hy;cases hy) hlx (by simp)) ?_
      refine zg1 ?_
      refine cp am2 (c_Add y [] hy (by intro y hy;cases hy) hly (by simp)) ?_
      refine zg11 ?_
      refine op_if 58 rfl (fun h58r h58=>?_) (fun h58r h58=>?_)
      ·refine zg7 ?_
       refine wl_if rfl (fun h63r h63=>?_) (fun h63r h63=>?_)
       ·have hy1:val y=1:=by have:=(dig_is1 (n:=val y) (by omega)).1;omega
        refine zg14 ?_
        rw [hE,if_pos hy1]
        exact retC [] rfl rfl rfl rfl rfl T32 (.agg (.cons (.pure rfl) (.cons (.pure (magL_pure _)) (.cons (.nil 1) .nil))))
       ·have hy1:val y≠1:=by have:=(dig_is1 (n:=val y) (by omega)).1;omega
        refine zg12 ?_
        rw [hE,if_neg hy1]
        exact retC [] rfl rfl rfl rfl rfl T32 (.agg (.cons (.pure rfl) (.cons (.pure (magL_pure _)) (.cons (.pure (magL_pure _)) .nil))))
      ·have hy1:val y≠1:=fun e=>by rw [e,dig_one] at h58;exact h58 rfl
       refine zg20 ?_
       rw [hE,if_neg hy1]
       exact retC [] rfl rfl rfl rfl rfl T32 (.agg (.cons (.pure rfl) (.cons (.pure (magL_pure _)) (.cons (.pure (magL_pure _)) .nil))))
open H0 in
theorem c_size (n:Int) (h1:-9223372036854775808≤n) (h2:n≤9223372036854775807):CallP Tryz.prog 261 [iL n] (magL n.natAbs):=by
 refine fnP Tryz.func261 ?_
 refine zg12 ?_
 refine wl_if rfl (fun h4r h4=>?_) (fun h4r h4=>?_)
 ·refine zg2 ?_
  refine cp am1 (c_NOf 9223372036854775808 (by omega)) ?_
  refine zg5 ?_
  rw [show n.natAbs=9223372036854775808 by omega]
  exact ret1 rfl (by first | exact .pure rfl | exact .pure (limL_pure _) | exact .pure (magL_pure _) | exact .pure (ratE.pure _) | exact .pure (pure_lst u32E _ _) | exact .pure (pure_lst ratE _ _))
 ·refine zg6 ?_
  refine st_pure rfl (.neg rfl) ?_
  refine zg1 ?_
  refine st_pure rfl (.cv64 (n:=n.natAbs) Tryz.underlying2 Tryz.underlying187 (by simp only [e1,p1,p2,Nat.reduceBEq];rw [max_abs (by omega) (by omega)]) (by omega)) ?_
  refine cp am1 (c_NOf n.natAbs (by omega)) ?_
  refine zg4 ?_
  exact ret1 rfl (by first | exact .pure rfl | exact .pure (limL_pure _) | exact .pure (magL_pure _) | exact .pure (ratE.pure _) | exact .pure (pure_lst u32E _ _) | exact .pure (pure_lst ratE _ _))
theorem retCT {P:Program} {L:St} {a u:Nat} {T:TypeId} {b sz:Nat} {x y x' y':LV} {m:Bool} {n:Nat} {ag:Bool} (bs:List Nat) (h0:bs.contains 0=false) (h:L.slot a=.eptr b sz 0 0) (hb:L.heap b=some ⟨sz,[x],m⟩)
  (hx:x.csize=sz) (hat:x.at 0 n ag=some x) (hT:TyIs P T n ag) (hi:Imm (L.frz bs).heap x y) (h':L.slot u=x') (hi':Imm (L.frz bs).heap x' y'):RetL P [.cell a T,.tmp u] L (.tup [y,y']) [] :=
 ⟨[x,x'],[y,y'],(L.frz bs).heap,[],.cons ⟨b,sz,0,0,_,x,n,ag,h,hb,rfl,rfl,hx,hat,hT⟩ (.cons h' .nil),frz_le bs h0,.cons (.imm hi) (.cons (.imm hi') .nil),List.nodup_nil,rfl,fun k b h=>by simp at h,rfl⟩
namespace H_c_RInt
theorem zSm {p q:Prop} (k:q) (e:p=q:=by simp only [e1,e2,e3,e4,p1,p2,p3,q1,q2,q3,l1,t0,t1,r1,r2,r3,r4,Nat.zero_add,Nat.reduceMul,Nat.reduceAdd,b1,b2,b3,b4,b5,b6,i1,i2,i3,i4,i5,i6,Nat.reduceBEq,val_dig];exact rfl):p:=e.mpr k
end H_c_RInt
open H_c_RInt in
theorem c_RInt (n:Int) (h1:-9223372036854775808≤n) (h2:n≤9223372036854775807):CallP Tryz.prog 224 [iL n] (ratL (n:Rat)):=by
 refine fnP Tryz.func224 ?_
 refine zg10 ?_
 refine cp am1 (c_size _ (by omega) (by omega)) ?_
 refine cp am0 (c_one) ?_
 refine cp am3 (c_reduce (decide (n<0)) (dig n.natAbs) (dig 1) (lim_dig _) (lim_dig _) (Nat.le_trans (dig_len_le2.2 (by omega)) (by omega)) (by rw [dig_one];decide)) ?_
 refine zg4 ?_
 rw [←qv_int n]
 exact retC [] rfl rfl rfl (ratE.csize _) (ratL_all _) T32 (.pure (ratE.pure _))
namespace H_c_RMake
theorem zSm {p q:Prop} (k:q) (e:p=q:=by simp only [e1,e2,e3,e4,p1,p2,p3,q1,q2,q3,l1,t0,t1,r1,r2,r3,r4,Nat.zero_add,Nat.reduceMul,Nat.reduceAdd,b1,b2,b3,b4,b5,b6,i1,i2,i3,i4,i5,i6,Nat.reduceBEq,val_dig];exact rfl):p:=e.mpr k
end H_c_RMake
open H_c_RMake in
theorem c_RMake (n d:Int) (h1:-9223372036854775808≤n) (h2:n≤9223372036854775807) (h3:-9223372036854775808≤d) (h4:d≤9223372036854775807) (hd:d≠0):CallP Tryz.prog 311 [iL n,iL d] (.tup [ratL ((n:Rat)/(d:Rat)),iL 0]):=by
 refine fnP Tryz.func311 ?_
 refine zg13 ?_
 refine wl_if rfl (fun h7r h7=>?_) (fun h7r h7=>?_)
 ·exact absurd h7 hd
 ·refine zg10 ?_
  refine cp am1 (c_size _ (by omega) (by omega)) ?_
  refine zg1 ?_
  refine cp am1 (c_size _ (by omega) (by omega)) ?_
  refine cp am3 (c_reduce (decide (n<0) != decide (d<0)) (dig n.natAbs) (dig d.natAbs) (lim_dig _) (lim_dig _) (Nat.le_trans (dig_len_le2.2 (by omega)) (by omega)) (Nat.le_trans (dig_len_le2.2 (by omega)) (by omega))) ?_
  refine zg5 ?_
  rw [←qv_ints]
  exact retCT [] rfl rfl rfl (ratE.csize _) (ratL_all _) T32 (.pure (ratE.pure _)) rfl (.pure rfl)
theorem smB_t {q:Rat} (h:smB q=true):pN q=q.num.natAbs∧pD q=q.den∧q.num.natAbs<4294967296∧q.den<4294967296:=by
 have h2:=of_decide_eq_true h
 exact⟨by simp [pN,h],by simp [pD,h],h2.1,h2.2⟩
theorem len_mul {x y k l:Nat} (hx:(dig x).length≤k) (hy:(dig y).length≤l):(dig (x*y)).length≤k+l :=
 dig_length_le (pow_lt_add (dig_length_ge hx) (dig_length_ge hy))
theorem len_add {x y k:Nat} (hx:(dig x).length≤k) (hy:(dig y).length≤k):(dig (x+y)).length≤k+1 :=
 dig_length_le (add_pow_lt (dig_length_ge hx) (dig_length_ge hy))
def subL (x y:Nat):List Nat:=if x<y then [] else dig (x-y)
def subE (x y:Nat):Int:=if x<y then 7 else 0
theorem c_NSubAny (x y:Nat) (hx:(dig x).length≤1099511627776) (hy:(dig y).length≤1099511627776):CallP Tryz.prog 281 [magL x,magL y] (.tup [limL (subL x y),iL (subE x y)]):=by
 unfold subL subE
 by_cases h:x<y
 ·rw [if_pos h,if_pos h]
  exact c_NSubLt _ _ (lim_dig _) (lim_dig _) hx hy (by rw [val_dig,val_dig];exact h)
 ·rw [if_neg h,if_neg h]
  have:=c_NSub _ _ (lim_dig x) (lim_dig y) hx hy (by rw [val_dig,val_dig];omega)
  rw [val_dig,val_dig] at this
  exact this
theorem subE_0 {x y:Nat}:subE x y=0↔y≤x:=by unfold subE;split<;>omega
theorem subL_le {x y:Nat} (h:y≤x):subL x y=dig (x-y):=by unfold subL;rw [if_neg (by omega)]
section
variable {a b:Rat} {s:Bool} {x y d k:Nat}
theorem add_same (hk:0<k) (hx:x*k=a.num.natAbs*b.den) (hy:y*k=b.num.natAbs*a.den) (hd:d*k=a.den*b.den) (h:decide (a<0)=s):a+sgR s b=qv s (x+y) d:=by
 have:=qv_add_same s (n:=a.num.natAbs) (m:=b.num.natAbs) a.den_pos b.den_pos
 rw [←hx,←hy,←hd,←Nat.add_mul,qv_scale s hk] at this
 rw [←this,sgR]
 subst h
 rw [qv_self]
theorem add_ge (hk:0<k) (hx:x*k=a.num.natAbs*b.den) (hy:y*k=b.num.natAbs*a.den) (hd:d*k=a.den*b.den) (h:decide (a<0)≠s) (hle:y≤x):a+sgR s b=qv (decide (a<0)) (x-y) d:=by
 have:=qv_add_ne (decide (a<0)) s (n:=a.num.natAbs) (m:=b.num.natAbs) a.den_pos b.den_pos h (by rw [←hx,←hy];exact Nat.mul_le_mul_right _ hle)
 rw [←hx,←hy,←hd,←Nat.sub_mul,qv_scale _ hk] at this
 rw [←this,sgR,qv_self]
theorem add_le (hk:0<k) (hx:x*k=a.num.natAbs*b.den) (hy:y*k=b.num.natAbs*a.den) (hd:d*k=a.den*b.den) (h:decide (a<0)≠s) (hle:x≤y):a+sgR s b=qv s (y-x) d:=by
 have:=qv_add_ne' (decide (a<0)) s (n:=a.num.natAbs) (m:=b.num.natAbs) a.den_pos b.den_pos h (by rw [←hx,←hy];exact Nat.mul_le_mul_right _ hle)
 rw [←hx,←hy,←hd,←Nat.sub_mul,qv_scale _ hk] at this
 rw [←this,sgR,qv_self]
end
theorem denN_inj {a b:Rat} (h:dig (denN a)=dig (denN b)):a.den=b.den:=by
 have h2:denN a=denN b:=by rw [←val_dig (denN a),h,val_dig]
 rw [denN_eq,denN_eq] at h2
 have:=a.den_pos
 have:=b.den_pos
 split at h2<;>split at h2<;>omega
theorem cmpN_mul {x y k:Nat} (hk:0<k):cmpN (x*k) (y*k)=cmpN x y:=by
 simp only [cmpN,Nat.mul_lt_mul_right hk]
theorem lt_abs {a b:Rat} (ha:¬ a<0) (hb:¬ b<0):a<b↔a.num.natAbs*b.den<b.num.natAbs*a.den:=by
 rw [rat_lt0] at ha hb
 rw [Rat.lt_iff]
 have h1:a.num=(a.num.natAbs:Int):=by omega
 have h2:b.num=(b.num.natAbs:Int):=by omega
 rw [h1,h2]
 simp only [Int.natAbs_natCast]
 exact_mod_cast Iff.rfl
theorem lt_neg {a b:Rat} (ha:a<0) (hb:b<0):a<b↔b.num.natAbs*a.den<a.num.natAbs*b.den:=by
 have:=lt_abs (a:=-b) (b:=-a) (by grind) (by grind)
 rw [Rat.neg_num,Rat.neg_num,Int.natAbs_neg,Int.natAbs_neg,Rat.neg_den,Rat.neg_den] at this
 rw [←this]
 grind
theorem cmp_same {a b:Rat} (h:sgnR a=sgnR b):cmpR a b=if a<0 then-cmpN (a.num.natAbs*b.den) (b.num.natAbs*a.den) else cmpN (a.num.natAbs*b.den) (b.num.natAbs*a.den):=by
 have hs:(a<0)↔(b<0):=by
  unfold sgnR at h
  split at h<;>split at h<;>(try split at h)<;>(try split at h)<;>grind
 by_cases ha:a<0
 ·have hb:=hs.1 ha
  rw [if_pos ha]
  simp only [cmpR,cmpN,lt_neg ha hb,lt_neg hb ha]
  split<;>split<;>omega
 ·have hb:=fun h=>ha (hs.2 h)
  rw [if_neg ha]
  simp only [cmpR,cmpN,lt_abs ha hb,lt_abs hb ha]
theorem cmp_slt {a b:Rat} (h:sgnR a<sgnR b):cmpR a b=-1:=by
 have:a<b:=by unfold sgnR at h;split at h<;>split at h<;>(try split at h)<;>(try split at h)<;>grind
 simp [cmpR,this]
theorem cmp_sgt {a b:Rat} (h:sgnR b<sgnR a):cmpR a b=1:=by
 have h1:b<a:=by unfold sgnR at h;split at h<;>split at h<;>(try split at h)<;>(try split at h)<;>grind
 have h2:¬ a<b:=by grind
 simp [cmpR,h1,h2]
theorem num0 {q:Rat} (h:(dig q.num.natAbs).length=0):q=0:=by
 have:=dig_eq_nil.1 (List.eq_nil_of_length_eq_zero h)
 exact Rat.num_eq_zero.1 (by omega)
theorem wrap_negc {c:Int} {x y:Nat} (h:c=cmpN x y):IntKind.i64.wrap (0-c)=-c:=by
 have:c=-1∨c=0∨c=1:=by rw [h];unfold cmpN;split<;>(try split)<;>simp
 rw [IntWalk.i64_in _ (by omega)];omega
end Go.Proofs.YthpfpgfehmhpdaaGreat
namespace Go.Lg
open Go.Proofs.YthpfpgfehmhpdaaGreat in
theorem OpT.stR1 {P:Program} {L:St} {dst:Option Nat} {T:TypeId} {p x:Operand} {b:Nat} {q q0:Rat} (hp:L.ev p=.eptr b 3 0 0) (hb:L.heap b=some ⟨3,[ratL q0],true⟩) (hx:L.ev x=ratL q) (hT:TyIs P T 3 true) :
  OpT P L dst (.store T p x) ((L.setB b (some ⟨3,[ratL q],true⟩)).put dst .any):=by
 have h0:LV.put (ratL q0) 0 (L.ev x)=some (ratL q):=by
  rw [hx,ratL_eq q0]
  have e1:∀ n,(magL n).csize=1:=fun _=>rfl
  simp [LV.put,ratE.csize,ratE.isAgg,csizes,LV.csize,e1]
 have h:=OpT.store (P:=P) (dst:=dst) (T:=T) (p:=p) (x:=x) (y:=ratL q0) (y':=ratL q) hp hb rfl rfl rfl (ratE.csize _) h0 (by rw [hx,ratE.csize,ratE.isAgg];exact hT)
  (by rw [hx];exact⟨LV.pure_ne_any (ratE.pure q),LV.pure_ne_tup (ratE.pure q)⟩)
 exact h
end Go.Lg
namespace Go.Proofs.YthpfpgfehmhpdaaGreat
open Go.Lg
namespace H_c_RSign
theorem zSm {p q:Prop} (k:q) (e:p=q:=by simp only [e1,e2,e3,e4,p1,p2,p3,q1,q2,q3,l1,t0,t1,r1,r2,r3,r4,Nat.zero_add,Nat.reduceMul,Nat.reduceAdd,b1,b2,b3,b4,b5,b6,i1,i2,i3,i4,i5,i6,Nat.reduceBEq,val_dig];exact rfl):p:=e.mpr k
end H_c_RSign
open H_c_RSign in
theorem c_RSign (q:Rat) (h:rl q≤1099511627776):CallP Tryz.prog 73 [ratL q] (iL (sgnR q)):=by
 have h1:=rl_num q
 have hq:=sgnR_eq q
 refine fnP Tryz.func73 ?_
 refine zg12 ?_
 refine cp am1 (c_NBits _ (by first | assumption | exact lim_dig _) (by omega)) ?_
 refine zg4 ?_
 refine wl_if rfl (fun h3r h3=>?_) (fun h3r h3=>?_)
 ·have hz:q.num.natAbs=0:=blen_zero.1 (by omega)
  refine zg8 ?_
  rw [hq,if_pos hz]
  exact ret1 rfl (by first | exact .pure rfl | exact .pure (limL_pure _) | exact .pure (magL_pure _) | exact .pure (ratE.pure _) | exact .pure (pure_lst u32E _ _) | exact .pure (pure_lst ratE _ _))
 ·have hz:q.num.natAbs≠0:=fun e=>by rw [blen_zero.2 e] at h3;exact h3 rfl
  refine zg7 ?_
  refine wl_if rfl (fun h8r h8=>?_) (fun h8r h8=>?_)
  ·refine zg8 ?_
   rw [hq,if_neg hz,if_pos h8]
   exact ret1 rfl (by first | exact .pure rfl | exact .pure (limL_pure _) | exact .pure (magL_pure _) | exact .pure (ratE.pure _) | exact .pure (pure_lst u32E _ _) | exact .pure (pure_lst ratE _ _))
  ·refine zg9 ?_
   rw [hq,if_neg hz,if_neg h8]
   exact ret1 rfl (by first | exact .pure rfl | exact .pure (limL_pure _) | exact .pure (magL_pure _) | exact .pure (ratE.pure _) | exact .pure (pure_lst u32E _ _) | exact .pure (pure_lst ratE _ _))
open H0 in
theorem c_copied (q:Rat) (h:rl q≤1099511627776):CallP Tryz.prog 208 [ratL q] (ratL q):=by
 have h1:=rl_num q
 have h2:=rl_denN q
 refine fnP Tryz.func208 ?_
 refine zg7 ?_
 refine wl_regD 9 (by decide +kernel) ?_
 refine zg4 ?_
 refine cp am1 (c_Clone _ (by omega)) ?_
 refine zg2 ?_
 refine cp am1 (c_Clone _ (by omega)) ?_
 refine zg5 ?_
 rw [ratL_eq]
 exact retC [] rfl rfl rfl rfl rfl T32 (.agg (.cons (.pure rfl) (.cons (.pure (magL_pure _)) (.cons (.pure (magL_pure _)) .nil))))
namespace H_c_RCmp
theorem zSm {p q:Prop} (k:q) (e:p=q:=by simp only [e1,e2,e3,e4,p1,p2,p3,q1,q2,q3,l1,t0,t1,r1,r2,r3,r4,Nat.zero_add,Nat.reduceMul,Nat.reduceAdd,b1,b2,b3,b4,b5,b6,i1,i2,i3,i4,i5,i6,Nat.reduceBEq,val_dig];exact rfl):p:=e.mpr k
theorem zSm1 {p q:Prop} (k:q) (e:p=q:=by simp only [e1,e2,e3,e4,p1,p2,p3,q1,q2,q3,l1,t0,t1,r1,r2,r3,r4,Nat.zero_add,Nat.reduceMul,Nat.reduceAdd,b1,b2,b3,b4,b5,b6,i1,i2,i3,i4,i5,i6,Nat.reduceBEq,val_dig,ekA,ekB,ekC,ekD];exact rfl):p:=e.mpr k
theorem nf1 {p:Prop} (h:p:=by first | (refine zSm1 ?_;exact rfl) | exact rfl):p:=h
end H_c_RCmp
open H_c_RCmp in
theorem c_RCmp (a b:Rat) (h:rl a+rl b≤1099511627776):CallP Tryz.prog 136 [ratL a,ratL b] (iL (cmpR a b)):=by
 have a1:=rl_num a
 have a2:=rl_den a
 have a3:=rl_denN a
 have c1:=rl_num b
 have c2:=rl_den b
 have c3:=rl_denN b
 have a0:=a.den_pos
 have c0:=b.den_pos
 have m1:=len_mul a1 c2
 have m2:=len_mul c1 a2
 have m3:=len_mul a2 c2
 have m4:=len_mul a1 c1
 have m5:=len_mul a2 c1
 have m6:=len_mul c2 a2
 refine fnP Tryz.func136 ?_
 refine zg9 ?_
 refine wl_regD 6 (by decide +kernel) ?_
 refine zg1 ?_
 refine cp am1 (c_RSign _ (by omega)) ?_
 refine zg1 ?_
 refine cp am1 (c_RSign _ (by omega)) ?_
 refine zg11 ?_
 refine wl_if rfl (fun h20r h20=>?_) (fun h20r h20=>?_)
 ·refine zg8 ?_
  refine wl_if rfl (fun h23r h23=>?_) (fun h23r h23=>?_)
  ·refine zg8 ?_
   rw [cmp_slt h23]
   exact ret1 rfl (by first | exact .pure rfl | exact .pure (limL_pure _) | exact .pure (magL_pure _) | exact .pure (ratE.pure _) | exact .pure (pure_lst u32E _ _) | exact .pure (pure_lst ratE _ _))
  ·refine zg9 ?_
   rw [cmp_sgt (by omega)]
   exact ret1 rfl (by first | exact .pure rfl | exact .pure (limL_pure _) | exact .pure (magL_pure _) | exact .pure (ratE.pure _) | exact .pure (pure_lst u32E _ _) | exact .pure (pure_lst ratE _ _))
 ·have hss:sgnR a=sgnR b:=by omega
  refine zg11 ?_
  refine cp am1 (c_parts _) ?_
  refine zg15 ?_
  refine cp am2 (c_Equal _ _ (by omega) (by omega)) ?_
  refine zg2 ?_
  refine wl_cut (fun L=>∃ (c:Int) (L1:St),(c=cmpN (a.num.natAbs*b.den) (b.num.natAbs*a.den))∧L=(((St.mk L1.slot (hp [(2,⟨3,[ratL a],true⟩),(3,⟨3,[ratL b],true⟩)])).put (some 2) (.eptr 2 3 0 0)).put (some 7) (iL c))) ?_ ?_
  ·refine wl_if rfl (fun h34r h34=>?_) (fun h34r h34=>?_)
   ·refine zg5 ?_
    refine cp am2 (c_NCmp _ _ (lim_dig _) (lim_dig _) (by first | omega | (simp only [val_dig];omega)) (by first | omega | (simp only [val_dig];omega))) ?_
    refine zg3 ?_
    exact⟨cmpN a.num.natAbs b.num.natAbs,_,by rw [denN_inj h34];exact(cmpN_mul b.den_pos).symm,((put_id' (put_id' (mk_id' cl) cl) cl)).symm⟩
   ·refine zg3 ?_
    refine cp am1 (c_parts _) ?_
    refine zg10 ?_
    refine wl_cut (fun L=>∃ (t:Bool) (L1:St),(t=(smB a && smB b))∧L=(((((((((St.mk L1.slot (hp [(2,⟨3,[ratL a],true⟩),(3,⟨3,[ratL b],true⟩)])).put (some 2) (.eptr 2 3 0 0)).put (some 3) (.eptr 3 3 0 0)).put (some 7) (iL 0)).put (some 8) (nU64 (pN a))).put (some 9) (nU64 (pD a))).put (some 11) (nU64 (pN b))).put (some 12) (nU64 (pD b))).put (some 49) (bL t))) ?_ ?_
    ·refine zg3 ?_
     refine op_if 47 rfl (fun h47r h47=>?_) (fun h47r h47=>?_)
     ·refine zg4 ?_
      exact⟨smB b,_,by rw [h47r];rfl,((put_id' (put_id' (put_id' (put_id' (put_id' (put_id' (put_id' (put_id' (mk_id' cl) cl) cl) cl) cl) cl) cl) cl) cl)).symm⟩
     ·refine zg4 ?_
      exact⟨false,_,by rw [h47r];rfl,((put_id' (put_id' (put_id' (put_id' (put_id' (put_id' (put_id' (put_id' (mk_id' cl) cl) cl) cl) cl) cl) cl) cl) cl)).symm⟩
    ·rintro _ ⟨t,LR11,ht,rfl⟩
     refine zg1 ?_
     refine wl_if rfl (fun h49r h49=>?_) (fun h49r h49=>?_)
     ·rw [ht,Bool.and_eq_true] at h49r
      obtain⟨ekA,ekB,k3,k4⟩:=smB_t h49r.1
      obtain⟨ekC,ekD,k7,k8⟩:=smB_t h49r.2
      have n1:=mulLt k3 k8
      have n2:=mulLt k7 k4
      have n3:=n1
      have n4:=n2
      rw [←ekA,←ekD] at n1
      rw [←ekC,←ekB] at n2
      refine zg4 ?_
      refine st_pure rfl (.bin rfl rfl (mulU (by omega))) ?_
      refine zg2 ?_
      refine st_pure rfl (.bin rfl rfl (mulU (by omega))) ?_
      refine zg1 ?_
      refine st_end nf1 ?_
      refine zg1 ?_
      refine wl_if rfl (fun h56r h56=>?_) (fun h56r h56=>?_)
      ·refine zg4 ?_
       exact⟨-1,_,(cmpN_lt (by omega)).symm,((put_id' (put_id' (mk_id' cl) cl) cl)).symm⟩
      ·refine zg4 ?_
       refine st_pure rfl (.bin rfl rfl (mulU (by omega))) ?_
       refine zg2 ?_
       refine st_pure rfl (.bin rfl rfl (mulU (by omega))) ?_
       refine zg1 ?_
       refine st_end nf1 ?_
       refine zg1 ?_
       refine wl_if rfl (fun h63r h63=>?_) (fun h63r h63=>?_)
       ·refine zg4 ?_
        exact⟨1,_,(cmpN_gt (by omega)).symm,((put_id' (put_id' (mk_id' cl) cl) cl)).symm⟩
       ·refine zg2 ?_
        exact⟨0,_,(cmpN_eq (by omega)).symm,((put_id' (put_id' (mk_id' cl) cl) cl)).symm⟩
     ·refine wl_regD 12 (by decide +kernel) ?_
      refine zg3 ?_
      refine cp am1 (c_den _) ?_
      refine cp am2 (c_NMul _ _ (lim_dig _) (lim_dig _) (by omega) (by omega)) ?_
      refine zg3 ?_
      refine cp am1 (c_den _) ?_
      refine cp am2 (c_NMul _ _ (lim_dig _) (lim_dig _) (by omega) (by omega)) ?_
      refine cp am2 (c_NCmp _ _ (lim_dig _) (lim_dig _) (by first | omega | (simp only [val_dig];omega)) (by first | omega | (simp only [val_dig];omega))) ?_
      refine zg3 ?_
      exact⟨cmpN (a.num.natAbs*b.den) (b.num.natAbs*a.den),_,rfl,((put_id' (put_id' (mk_id' cl) cl) cl)).symm⟩
  ·rintro _ ⟨c,LC34,hc,rfl⟩
   refine zg8 ?_
   refine wl_if rfl (fun h76r h76=>?_) (fun h76r h76=>?_)
   ·refine zg9 ?_
    rw [cmp_same hss,if_pos h76,←hc,←wrap_negc hc]
    exact ret1 rfl (by first | exact .pure rfl | exact .pure (limL_pure _) | exact .pure (magL_pure _) | exact .pure (ratE.pure _) | exact .pure (pure_lst u32E _ _) | exact .pure (pure_lst ratE _ _))
   ·refine zg9 ?_
    rw [cmp_same hss,if_neg h76,←hc]
    exact ret1 rfl (by first | exact .pure rfl | exact .pure (limL_pure _) | exact .pure (magL_pure _) | exact .pure (ratE.pure _) | exact .pure (pure_lst u32E _ _) | exact .pure (pure_lst ratE _ _))
namespace H_c_RMul
theorem zSm {p q:Prop} (k:q) (e:p=q:=by simp only [e1,e2,e3,e4,p1,p2,p3,q1,q2,q3,l1,t0,t1,r1,r2,r3,r4,Nat.zero_add,Nat.reduceMul,Nat.reduceAdd,b1,b2,b3,b4,b5,b6,i1,i2,i3,i4,i5,i6,Nat.reduceBEq,val_dig,ekA,ekB,ekC,ekD];exact rfl):p:=e.mpr k
end H_c_RMul
open H_c_RMul in
theorem c_RMul (a b:Rat) (h:rl a+rl b≤1099511627776):CallP Tryz.prog 223 [ratL a,ratL b] (ratL (a*b)):=by
 have a1:=rl_num a
 have a2:=rl_den a
 have a3:=rl_denN a
 have c1:=rl_num b
 have c2:=rl_den b
 have c3:=rl_denN b
 have a0:=a.den_pos
 have c0:=b.den_pos
 have m1:=len_mul a1 c2
 have m2:=len_mul c1 a2
 have m3:=len_mul a2 c2
 have m4:=len_mul a1 c1
 have m5:=len_mul a2 c1
 have m6:=len_mul c2 a2
 have hE:=qv_mul (decide (a<0)) (decide (b<0)) a.num.natAbs a.den b.num.natAbs b.den
 rw [qv_self,qv_self] at hE
 refine fnP Tryz.func223 ?_
 have ekA:True:=trivial
 have ekB:True:=trivial
 have ekC:True:=trivial
 have ekD:True:=trivial
 refine zg15 ?_
 refine op_if 15 rfl (fun h15r h15=>?_) (fun h15r h15=>?_)
 ·have hz:a*b=0:=by rw [num0 (q:=a) (by omega),Rat.zero_mul]
  refine zg16 ?_
  rw [hz,ratL_zero]
  exact retC [] rfl rfl rfl rfl rfl T32 (.pure rfl)
 ·refine zg7 ?_
  refine wl_if rfl (fun h20r h20=>?_) (fun h20r h20=>?_)
  ·have hz:a*b=0:=by rw [num0 (q:=b) (by omega),Rat.mul_zero]
   refine zg8 ?_
   rw [hz,ratL_zero]
   exact retC [] rfl rfl rfl rfl rfl T32 (.pure rfl)
  ·refine zg6 ?_
   refine cp am1 (c_parts _) ?_
   refine zg14 ?_
   refine wl_cut (fun L=>∃  (L1:St),(True)∧L=((((St.mk L1.slot (hp [(2,⟨3,[ratL a],true⟩),(3,⟨3,[ratL b],true⟩),(4,⟨3,[.agg [.v (.bool false),.list 1 [],.list 1 []]],true⟩)])).put (some 2) (.eptr 2 3 0 0)).put (some 3) (.eptr 3 3 0 0)).put (some 4) (.eptr 4 3 0 0))) ?_ ?_
   ·refine wl_if rfl (fun h28r h28=>?_) (fun h28r h28=>?_)
    ·obtain⟨ekA,ekB,k3,k4⟩:=smB_t h28r
     refine zg3 ?_
     refine cp am1 (c_parts _) ?_
     refine zg14 ?_
     refine wl_if rfl (fun h35r h35=>?_) (fun h35r h35=>?_)
     ·obtain⟨ekC,ekD,k7,k8⟩:=smB_t h35r
      have n1:=mulLt k3 k7
      have n2:=mulLt k4 k8
      have np:=Nat.mul_pos a0 c0
      refine zg9 ?_
      refine st_pure rfl (.bin rfl rfl (mulU (by first | omega | (simp only [ekA,ekB,ekC,ekD];omega)))) ?_
      refine zg2 ?_
      refine st_pure rfl (.bin rfl rfl (mulU (by first | omega | (simp only [ekA,ekB,ekC,ekD];omega)))) ?_
      refine cp am3 (c_short _ _ _ (by first | omega | (simp only [ekA,ekB,ekC,ekD];omega)) (by first | exact np | (simp only [ekA,ekB,ekC,ekD];exact np)) (by first | omega | (simp only [ekA,ekB,ekC,ekD];omega))) ?_
      refine zg6 ?_
      rw [hE]
      exact retC [] rfl rfl rfl (ratE.csize _) (ratL_all _) T32 (.pure (ratE.pure _))
     ·refine zg2 ?_
      exact⟨_,trivial,((put_id' (put_id' (put_id' (mk_id' cl) cl) cl) cl)).symm⟩
    ·refine zg2 ?_
     exact⟨_,trivial,((put_id' (put_id' (put_id' (mk_id' cl) cl) cl) cl)).symm⟩
   ·rintro _ ⟨LC28,-,rfl⟩
    refine zg2 ?_
    refine wl_regD 16 (by decide +kernel) ?_
    refine zg9 ?_
    refine cp am2 (c_NMul _ _ (lim_dig _) (lim_dig _) (by omega) (by omega)) ?_
    refine zg1 ?_
    refine cp am1 (c_den _) ?_
    refine zg1 ?_
    refine cp am1 (c_den _) ?_
    refine cp am2 (c_NMul _ _ (lim_dig _) (lim_dig _) (by omega) (by omega)) ?_
    refine cp am3 (c_reduce _ _ _ (lim_dig _) (lim_dig _) (by first | omega | (simp only [val_dig];omega)) (by first | omega | (simp only [val_dig];omega))) ?_
    refine zg4 ?_
    rw [hE]
    exact retC [] rfl rfl rfl (ratE.csize _) (ratL_all _) T32 (.pure (ratE.pure _))
namespace H_c_RQuo
theorem zSm {p q:Prop} (k:q) (e:p=q:=by simp only [e1,e2,e3,e4,p1,p2,p3,q1,q2,q3,l1,t0,t1,r1,r2,r3,r4,Nat.zero_add,Nat.reduceMul,Nat.reduceAdd,b1,b2,b3,b4,b5,b6,i1,i2,i3,i4,i5,i6,Nat.reduceBEq,val_dig,ekA,ekB,ekC,ekD];exact rfl):p:=e.mpr k
end H_c_RQuo
open H_c_RQuo in
theorem c_RQuo (a b:Rat) (h:rl a+rl b≤1099511627776):CallP Tryz.prog 216 [ratL a,ratL b] (.tup [ratL (a/b),iL (if b=0 then 3 else 0)]):=by
 have a1:=rl_num a
 have a2:=rl_den a
 have a3:=rl_denN a
 have c1:=rl_num b
 have c2:=rl_den b
 have c3:=rl_denN b
 have a0:=a.den_pos
 have c0:=b.den_pos
 have m1:=len_mul a1 c2
 have m2:=len_mul c1 a2
 have m3:=len_mul a2 c2
 have m4:=len_mul a1 c1
 have m5:=len_mul a2 c1
 have m6:=len_mul c2 a2
 have hE:=qv_div (decide (a<0)) (decide (b<0)) a.num.natAbs a.den b.num.natAbs b.den
 rw [qv_self,qv_self] at hE
 refine fnP Tryz.func216 ?_
 have ekA:True:=trivial
 have ekB:True:=trivial
 have ekC:True:=trivial
 have ekD:True:=trivial
 refine zg12 ?_
 refine cp am1 (c_RSign _ (by omega)) ?_
 refine zg3 ?_
 refine wl_if rfl (fun h14r h14=>?_) (fun h14r h14=>?_)
 ·have hz:b=0:=by
   unfold sgnR at h14;split at h14
   ·assumption
   ·split at h14<;>omega
  refine zg9 ?_
  subst hz
  rw [show a/0=0 by rw [Rat.div_def];simp,ratL_zero]
  exact retCT [] rfl rfl rfl rfl rfl T32 (.pure rfl) rfl (.pure rfl)
 ·have hz:b≠0:=by rintro rfl;exact h14 rfl
  have hbn:0<b.num.natAbs:=Nat.pos_of_ne_zero (fun h=>hz (Rat.num_eq_zero.1 (by omega)))
  refine zg6 ?_
  refine cp am1 (c_parts _) ?_
  refine zg14 ?_
  refine wl_cut (fun L=>∃  (L1:St),(True)∧L=(((((St.mk L1.slot (hp [(2,⟨3,[ratL a],true⟩),(3,⟨3,[ratL b],true⟩),(4,⟨3,[.agg [.v (.bool false),.list 1 [],.list 1 []]],true⟩)])).put (some 2) (.eptr 2 3 0 0)).put (some 3) (.eptr 3 3 0 0)).put (some 4) (.eptr 4 3 0 0)).put (some 5) (iL 0))) ?_ ?_
  ·refine wl_if rfl (fun h22r h22=>?_) (fun h22r h22=>?_)
   ·obtain⟨ekA,ekB,k3,k4⟩:=smB_t h22r
    refine zg3 ?_
    refine cp am1 (c_parts _) ?_
    refine zg14 ?_
    refine wl_if rfl (fun h29r h29=>?_) (fun h29r h29=>?_)
    ·obtain⟨ekC,ekD,k7,k8⟩:=smB_t h29r
     have n1:=mulLt k3 k8
     have n2:=mulLt k4 k7
     have np:=Nat.mul_pos a0 hbn
     refine zg9 ?_
     refine st_pure rfl (.bin rfl rfl (mulU (by first | omega | (simp only [ekA,ekB,ekC,ekD];omega)))) ?_
     refine zg2 ?_
     refine st_pure rfl (.bin rfl rfl (mulU (by first | omega | (simp only [ekA,ekB,ekC,ekD];omega)))) ?_
     refine cp am3 (c_short _ _ _ (by first | omega | (simp only [ekA,ekB,ekC,ekD];omega)) (by first | exact np | (simp only [ekA,ekB,ekC,ekD];exact np)) (by first | omega | (simp only [ekA,ekB,ekC,ekD];omega))) ?_
     refine zg7 ?_
     rw [hE,if_neg hz]
     exact retCT [] rfl rfl rfl (ratE.csize _) (ratL_all _) T32 (.pure (ratE.pure _)) rfl (.pure rfl)
    ·refine zg2 ?_
     exact⟨_,trivial,((put_id' (put_id' (put_id' (put_id' (mk_id' cl) cl) cl) cl) cl)).symm⟩
   ·refine zg2 ?_
    exact⟨_,trivial,((put_id' (put_id' (put_id' (put_id' (mk_id' cl) cl) cl) cl) cl)).symm⟩
  ·rintro _ ⟨LC22,-,rfl⟩
   refine zg2 ?_
   refine wl_regD 16 (by decide +kernel) ?_
   refine zg8 ?_
   refine cp am1 (c_den _) ?_
   refine cp am2 (c_NMul _ _ (lim_dig _) (lim_dig _) (by omega) (by omega)) ?_
   refine zg1 ?_
   refine cp am1 (c_den _) ?_
   refine zg2 ?_
   refine cp am2 (c_NMul _ _ (lim_dig _) (lim_dig _) (by omega) (by omega)) ?_
   refine cp am3 (c_reduce _ _ _ (lim_dig _) (lim_dig _) (by first | omega | (simp only [val_dig];omega)) (by first | omega | (simp only [val_dig];omega))) ?_
   refine zg5 ?_
   rw [hE,if_neg hz]
   exact retCT [] rfl rfl rfl (ratE.csize _) (ratL_all _) T32 (.pure (ratE.pure _)) rfl (.pure rfl)
theorem beq_ne_of {p s:Bool} (h:(p==s)=false):p≠s:=by simpa using h
namespace H_c_radd
theorem zSm {p q:Prop} (k:q) (e:p=q:=by simp only [e1,e2,e3,e4,p1,p2,p3,q1,q2,q3,l1,t0,t1,r1,r2,r3,r4,Nat.zero_add,Nat.reduceMul,Nat.reduceAdd,b1,b2,b3,b4,b5,b6,i1,i2,i3,i4,i5,i6,Nat.reduceBEq,val_dig,Nat.one_mul,Nat.mul_one,eS,eK,eSb,eSc,ekA,ekB,ekC,ekD];exact rfl):p:=e.mpr k
end H_c_radd
open H_c_radd in
theorem c_radd (a b:Rat) (s:Bool) (h:rl a+rl b≤549755813888):CallP Tryz.prog 251 [ratL a,ratL b,bL s] (ratL (a+sgR s b)):=by
 have a1:=rl_num a
 have a2:=rl_den a
 have a3:=rl_denN a
 have c1:=rl_num b
 have c2:=rl_den b
 have c3:=rl_denN b
 have a0:=a.den_pos
 have c0:=b.den_pos
 have m1:=len_mul a1 c2
 have m2:=len_mul c1 a2
 have m3:=len_mul a2 c2
 have m4:=len_mul a1 c1
 have m5:=len_mul a2 c1
 have m6:=len_mul c2 a2
 have mm:=len_add (k:=rl a+rl b) m1 (by omega)
 refine fnP Tryz.func251 ?_
 have eS:True:=trivial
 have eK:True:=trivial
 have eSb:True:=trivial
 have eSc:True:=trivial
 have ekA:True:=trivial
 have ekB:True:=trivial
 have ekC:True:=trivial
 have ekD:True:=trivial
 refine zg11 ?_
 refine cp am1 (c_parts _) ?_
 refine zg14 ?_
 refine wl_cut (fun L=>∃  (L1:St),(True)∧L=(((((St.mk L1.slot (hp [(3,⟨3,[ratL a],true⟩),(4,⟨3,[ratL b],true⟩),(6,⟨3,[.agg [.v (.bool false),.list 1 [],.list 1 []]],true⟩)])).put (some 2) (bL s)).put (some 3) (.eptr 3 3 0 0)).put (some 4) (.eptr 4 3 0 0)).put (some 6) (.eptr 6 3 0 0))) ?_ ?_
 ·refine wl_if rfl (fun h28r h28=>?_) (fun h28r h28=>?_)
  ·obtain⟨ekA,ekB,k3,k4⟩:=smB_t h28r
   refine zg3 ?_
   refine cp am1 (c_parts _) ?_
   refine zg14 ?_
   refine wl_if rfl (fun h35r h35=>?_) (fun h35r h35=>?_)
   ·obtain⟨ekC,ekD,k7,k8⟩:=smB_t h35r
    have n1:=mulLt k3 k8
    have n2:=mulLt k7 k4
    have n3:=mulLt k4 k8
    have np:=Nat.mul_pos a0 c0
    refine zg4 ?_
    refine st_pure rfl (.bin rfl rfl (mulU (by first | omega | (simp only [ekA,ekB,ekC,ekD];omega)))) ?_
    refine zg2 ?_
    refine st_pure rfl (.bin rfl rfl (mulU (by first | omega | (simp only [ekA,ekB,ekC,ekD];omega)))) ?_
    refine zg5 ?_
    have eS:(((a.num.natAbs*b.den:Nat):Int)+((b.num.natAbs*a.den:Nat):Int)+0) % 18446744073709551616=(((a.num.natAbs*b.den+b.num.natAbs*a.den) % 18446744073709551616:Nat):Int):=by omega
    have eK:(((a.num.natAbs*b.den:Nat):Int)+((b.num.natAbs*a.den:Nat):Int)+0)/18446744073709551616=(((a.num.natAbs*b.den+b.num.natAbs*a.den)/18446744073709551616:Nat):Int):=by omega
    refine zg3 ?_
    refine st_pure rfl (.ext2 Tryz.func279 rfl rfl rfl rfl (vs:=[.int .u64 ((a.num.natAbs*b.den:Nat):Int),.int .u64 ((b.num.natAbs*a.den:Nat):Int),.int .u64 0]) rfl (fun w=>run_add64 _ _ _ (by omega) (by omega) (by omega) (by omega) w) rfl rfl) ?_
    refine zg15 ?_
    refine op_if 53 rfl (fun h53r h53=>?_) (fun h53r h53=>?_)
    ·refine zg6 ?_
     refine wl_if rfl (fun h48r h48=>?_) (fun h48r h48=>?_)
     ·refine zg7 ?_
      refine cp am3 (c_short s ((a.num.natAbs*b.den+b.num.natAbs*a.den) % 18446744073709551616) (a.den*b.den) (by omega) np (by omega)) ?_
      refine zg7 ?_
      have hc0:a.num.natAbs*b.den+b.num.natAbs*a.den<18446744073709551616:=by omega
      rw [add_same (k:=1) (x:=a.num.natAbs*b.den) (y:=b.num.natAbs*a.den) (d:=a.den*b.den) (by omega) (Nat.mul_one _) (Nat.mul_one _) (Nat.mul_one _) (eq_of_beq h53r),show qv s (a.num.natAbs*b.den+b.num.natAbs*a.den) (a.den*b.den)=qv s ((a.num.natAbs*b.den+b.num.natAbs*a.den) % 18446744073709551616) (a.den*b.den) by rw [Nat.mod_eq_of_lt hc0]]
      exact retC [] rfl rfl rfl (ratE.csize _) (ratL_all _) T32 (.pure (ratE.pure _))
     ·refine zg7 ?_
      refine st_skip (guardX (v:=false) rfl rfl ((by rw [h53r];rfl)) rfl) ?_
      refine st_skip (guardX (v:=false) rfl rfl ((by rw [h53r];rfl)) rfl) ?_
      refine st_skip (guardX (v:=false) rfl rfl ((by rw [h53r];rfl)) rfl) ?_
      refine st_pure rfl (.pickF rfl ((by rw [h53r];rfl))) ?_
      refine zg13 ?_
      refine wl_condY (b:=_) rfl (by rw [h53r];rfl) ?_
      refine zg3 ?_
      exact⟨_,trivial,((put_id' (put_id' (put_id' (put_id' (mk_id' cl) cl) cl) cl) cl)).symm⟩
    ·refine zg14 ?_
     refine st_pure (guardX (v:=true) rfl rfl ((by rw [h53r];rfl)) rfl) (.move _) ?_
     refine st_pure (guardX (v:=true) rfl rfl ((by rw [h53r];rfl)) rfl) (.move _) ?_
     refine st_pure (guardX (v:=true) rfl rfl ((by rw [h53r];rfl)) rfl) (.bin rfl rfl rfl) ?_
     refine st_pure rfl (.pickT rfl ((by rw [h53r];rfl))) ?_
     refine zg3 ?_
     refine wl_if rfl (fun h63r h63=>?_) (fun h63r h63=>?_)
     ·refine zg10 ?_
      refine cp am3 (c_short _ _ _ (by first | omega | (simp only [ekA,ekB,ekC,ekD];omega)) (by first | exact np | (simp only [ekA,ekB,ekC,ekD];exact np)) (by first | omega | (simp only [ekA,ekB,ekC,ekD];omega))) ?_
      refine zg7 ?_
      rw [add_ge (k:=1) (x:=a.num.natAbs*b.den) (y:=b.num.natAbs*a.den) (d:=a.den*b.den) (by omega) (Nat.mul_one _) (Nat.mul_one _) (Nat.mul_one _) (beq_ne_of h53r) (by omega)]
      exact retC [] rfl rfl rfl (ratE.csize _) (ratL_all _) T32 (.pure (ratE.pure _))
     ·refine zg9 ?_
      refine wl_condX (b:=_) rfl (by rw [h53r];rfl) ?_
      refine zg9 ?_
      refine cp am3 (c_short _ _ _ (by first | omega | (simp only [ekA,ekB,ekC,ekD];omega)) (by first | exact np | (simp only [ekA,ekB,ekC,ekD];exact np)) (by first | omega | (simp only [ekA,ekB,ekC,ekD];omega))) ?_
      refine zg7 ?_
      rw [add_le (k:=1) (x:=a.num.natAbs*b.den) (y:=b.num.natAbs*a.den) (d:=a.den*b.den) (by omega) (Nat.mul_one _) (Nat.mul_one _) (Nat.mul_one _) (beq_ne_of h53r) (by omega)]
      exact retC [] rfl rfl rfl (ratE.csize _) (ratL_all _) T32 (.pure (ratE.pure _))
   ·refine zg2 ?_
    exact⟨_,trivial,((put_id' (put_id' (put_id' (put_id' (mk_id' cl) cl) cl) cl) cl)).symm⟩
  ·refine zg2 ?_
   exact⟨_,trivial,((put_id' (put_id' (put_id' (put_id' (mk_id' cl) cl) cl) cl) cl)).symm⟩
 ·rintro _ ⟨LC28,-,rfl⟩
  refine zg2 ?_
  refine wl_regD 9 (by decide +kernel) ?_
  refine zg5 ?_
  refine cp am1 (c_den _) ?_
  refine zg12 ?_
  refine cp am2 (c_Equal _ _ (by omega) (by omega)) ?_
  refine zg3 ?_
  refine wl_cut (fun L=>∃ (x:Nat) (y:Nat) (d:Nat) (L1:St),(∃ k,0<k∧x*k=a.num.natAbs*b.den∧y*k=b.num.natAbs*a.den∧d*k=a.den*b.den∧0<d∧(dig x).length≤rl a+rl b∧(dig y).length≤rl a+rl b∧(dig d).length≤rl a+rl b)∧L=((((((((St.mk L1.slot (hp [(3,⟨3,[ratL a],true⟩),(4,⟨3,[ratL b],true⟩),(6,⟨3,[.agg [.v (.bool false),.list 1 [],.list 1 []]],true⟩)])).put (some 2) (bL s)).put (some 3) (.eptr 3 3 0 0)).put (some 4) (.eptr 4 3 0 0)).put (some 6) (.eptr 6 3 0 0)).put (some 15) (magL x)).put (some 16) (magL y)).put (some 17) (magL d))) ?_ ?_
  ·refine wl_if rfl (fun h106r h106=>?_) (fun h106r h106=>?_)
   ·refine wl_regD 15 (by decide +kernel) ?_
    refine zg2 ?_
    refine cp am1 (c_den _) ?_
    refine cp am2 (c_NMul _ _ (lim_dig _) (lim_dig _) (by omega) (by omega)) ?_
    refine zg2 ?_
    refine cp am1 (c_den _) ?_
    refine cp am2 (c_NMul _ _ (lim_dig _) (lim_dig _) (by omega) (by omega)) ?_
    refine zg2 ?_
    refine cp am1 (c_den _) ?_
    refine cp am2 (c_NMul _ _ (lim_dig _) (lim_dig _) (by omega) (by omega)) ?_
    refine zg5 ?_
    exact⟨a.num.natAbs*b.den,b.num.natAbs*a.den,a.den*b.den,_,⟨1,by omega,Nat.mul_one _,Nat.mul_one _,Nat.mul_one _,Nat.mul_pos a0 c0,m1,by omega,m3⟩,((put_id' (put_id' (put_id' (put_id' (put_id' (put_id' (put_id' (mk_id' cl) cl) cl) cl) cl) cl) cl) cl)).symm⟩
   ·have hde:=denN_inj h106
    refine zg2 ?_
    exact⟨a.num.natAbs,b.num.natAbs,a.den,_,⟨a.den,a0,by rw [hde],rfl,by rw [hde],a0,by omega,by omega,by omega⟩,((put_id' (put_id' (put_id' (put_id' (put_id' (put_id' (put_id' (mk_id' cl) cl) cl) cl) cl) cl) cl) cl)).symm⟩
  ·rintro _ ⟨x,y,d,LC106,⟨k,hk,hx,hy,hd,hd0,lx,ly,ld⟩,rfl⟩
   have lxy:=len_add lx ly
   have lxs:(dig (x-y)).length≤rl a+rl b:=Nat.le_trans (len_dig_mono (Nat.sub_le _ _)) lx
   have lys:(dig (y-x)).length≤rl a+rl b:=Nat.le_trans (len_dig_mono (Nat.sub_le _ _)) ly
   refine zg10 ?_
   refine wl_if rfl (fun h122r h122=>?_) (fun h122r h122=>?_)
   ·refine zg5 ?_
    refine cp am2 (c_Add _ _ (lim_dig _) (lim_dig _) (by omega) (by omega)) ?_
    refine zg1 ?_
    refine cp am3 (c_reduce _ _ _ (lim_dig _) (lim_dig _) (by first | omega | (simp only [val_dig];omega)) (by first | omega | (simp only [val_dig];omega))) ?_
    refine zg5 ?_
    rw [add_same hk hx hy hd (eq_of_beq h122r)]
    exact retC [] rfl rfl rfl (ratE.csize _) (ratL_all _) T32 (.pure (ratE.pure _))
   ·refine zg7 ?_
    refine cp am2 (c_NSubAny _ _ (by omega) (by omega)) ?_
    refine zg13 ?_
    refine wl_if rfl (fun h136r h136=>?_) (fun h136r h136=>?_)
    ·have hle:=subE_0.1 (show subE x y=0 by omega)
     have eSb:=subL_le hle
     refine zg6 ?_
     refine cp am3 (c_reduce _ _ _ (by rw [eSb];exact lim_dig _) (lim_dig _) (by rw [eSb];omega) (by omega)) ?_
     refine zg5 ?_
     rw [add_ge hk hx hy hd (beq_ne_of h122r) hle]
     exact retC [] rfl rfl rfl (ratE.csize _) (ratL_all _) T32 (.pure (ratE.pure _))
    ·have hle:x≤y:=by
      rcases Nat.le_total x y with h | h
      ·exact h
      ·have:=subE_0.2 h;omega
     have eSc:=subL_le hle
     refine zg6 ?_
     refine cp am2 (c_NSubAny _ _ (by omega) (by omega)) ?_
     refine zg12 ?_
     refine cp am3 (c_reduce _ _ _ (lim_dig _) (lim_dig _) (by omega) (by omega)) ?_
     refine zg4 ?_
     rw [add_le hk hx hy hd (beq_ne_of h122r) hle]
     exact retC [] rfl rfl rfl (ratE.csize _) (ratL_all _) T32 (.pure (ratE.pure _))
theorem cmpR_neg {a b:Rat}:cmpR b a<0↔b<a:=by unfold cmpR;split<;>(try split)<;>grind
theorem cmpR_pos {a b:Rat}:cmpR b a > 0↔a<b:=by unfold cmpR;split<;>(try split)<;>grind
open H0 in
theorem c_RAdd (a b:Rat) (h:rl a+rl b≤549755813888):CallP Tryz.prog 206 [ratL a,ratL b] (ratL (a+b)):=by
 refine fnP Tryz.func206 ?_
 refine zg13 ?_
 refine cp am3 (c_radd _ _ _ (by omega)) ?_
 refine zg4 ?_
 exact retC [] rfl rfl rfl (ratE.csize _) (ratL_all _) T32 (by rw [sgR_self];exact .pure (ratE.pure _))
open H0 in
theorem c_RSub (a b:Rat) (h:rl a+rl b≤549755813888):CallP Tryz.prog 213 [ratL a,ratL b] (ratL (a-b)):=by
 refine fnP Tryz.func213 ?_
 refine zg14 ?_
 refine cp am3 (c_radd _ _ _ (by omega)) ?_
 refine zg4 ?_
 rw [Rat.sub_eq_add_neg]
 exact retC [] rfl rfl rfl (ratE.csize _) (ratL_all _) T32 (by rw [sgR_not];exact .pure (ratE.pure _))
open H0 in
theorem c_RMin (a b:Rat) (h:rl a+rl b≤549755813888):CallP Tryz.prog 134 [ratL a,ratL b] (ratL (if b<a then b else a)):=by
 refine fnP Tryz.func134 ?_
 refine zg12 ?_
 refine cp am2 (c_RCmp _ _ (by omega)) ?_
 refine zg3 ?_
 refine wl_cut (fun L=>∃ (q:Rat) (L1:St),(q=(if b<a then b else a)∧rl q≤549755813888)∧L=(((St.mk L1.slot (hp [(2,⟨3,[ratL q],true⟩),(3,⟨3,[ratL b],true⟩),(4,⟨3,[.agg [.v (.bool false),.list 1 [],.list 1 []]],true⟩)])).put (some 2) (.eptr 2 3 0 0)).put (some 4) (.eptr 4 3 0 0))) ?_ ?_
 ·refine wl_if rfl (fun h8r h8=>?_) (fun h8r h8=>?_)
  ·refine zg5 ?_
   exact⟨b,_,⟨by rw [if_pos (cmpR_neg.1 h8)],by omega⟩,((put_id' (put_id' (mk_id' cl) cl) cl)).symm⟩
  ·refine zg2 ?_
   exact⟨a,_,⟨by rw [if_neg (fun h=>h8 (cmpR_neg.2 h))],by omega⟩,((put_id' (put_id' (mk_id' cl) cl) cl)).symm⟩
 ·rintro _ ⟨q,LC8,⟨hq,hql⟩,rfl⟩
  refine zg4 ?_
  refine cp am1 (c_copied _ (by omega)) ?_
  refine zg4 ?_
  rw [←hq]
  exact retC [] rfl rfl rfl (ratE.csize _) (ratL_all _) T32 (.pure (ratE.pure _))
open H0 in
theorem c_RMax (a b:Rat) (h:rl a+rl b≤549755813888):CallP Tryz.prog 135 [ratL a,ratL b] (ratL (if a<b then b else a)):=by
 refine fnP Tryz.func135 ?_
 refine zg12 ?_
 refine cp am2 (c_RCmp _ _ (by omega)) ?_
 refine zg3 ?_
 refine wl_cut (fun L=>∃ (q:Rat) (L1:St),(q=(if a<b then b else a)∧rl q≤549755813888)∧L=(((St.mk L1.slot (hp [(2,⟨3,[ratL q],true⟩),(3,⟨3,[ratL b],true⟩),(4,⟨3,[.agg [.v (.bool false),.list 1 [],.list 1 []]],true⟩)])).put (some 2) (.eptr 2 3 0 0)).put (some 4) (.eptr 4 3 0 0))) ?_ ?_
 ·refine wl_if rfl (fun h8r h8=>?_) (fun h8r h8=>?_)
  ·refine zg5 ?_
   exact⟨b,_,⟨by rw [if_pos (cmpR_pos.1 h8)],by omega⟩,((put_id' (put_id' (mk_id' cl) cl) cl)).symm⟩
  ·refine zg2 ?_
   exact⟨a,_,⟨by rw [if_neg (fun h=>h8 (cmpR_pos.2 h))],by omega⟩,((put_id' (put_id' (mk_id' cl) cl) cl)).symm⟩
 ·rintro _ ⟨q,LC8,⟨hq,hql⟩,rfl⟩
  refine zg4 ?_
  refine cp am1 (c_copied _ (by omega)) ?_
  refine zg4 ?_
  rw [←hq]
  exact retC [] rfl rfl rfl (ratE.csize _) (ratL_all _) T32 (.pure (ratE.pure _))
theorem dig_of {o:List Nat} {N:Nat} (hL:Lim o) (hv:val o=N) (h:o.length=0∨4294967296 ^ (o.length-1)≤N):o=dig N:=by
 have h1:(dig N).length≤o.length:=by rw [←hv];exact len_trim_le hL
 have h2:o.length≤(dig N).length:=by
  rcases h with h | h
  ·omega
  ·rcases Nat.lt_or_ge (dig N).length o.length with hlt | hge
   ·have:=dig_length_ge (n:=N) (k:=o.length-1) (by omega)
    omega
   ·exact hge
 have e1:=padL_eq hL rfl
 have e2:=padL_eq (lim_dig N) rfl
 rw [e1,e2,val_dig,hv]
 congr 1;omega
theorem dig_is2 {m:Nat} (h:(dig m).length=2):m=(dig m).getD 1 0*4294967296+(dig m).getD 0 0:=by
 have e:=val_dig m
 generalize dig m=l at h e
 match l,h with
 | [x,y],_=>rw [val_two] at e;simp;omega
theorem orC {a b:Nat} (hb:b<4294967296) (hx:a<4294967296):binI .or .u64 (b:Nat) ((a*4294967296:Nat):Int)=some (.int .u64 ((a*4294967296+b:Nat):Int)):=orV (s:=32) hb (by omega)
theorem tz0:(0:Int).toNat=0:=rfl
theorem tz1:(1:Int).toNat=1:=rfl
theorem take_map_len {α β:Type} (f:α→β) (o:List α):(o.map f).take o.length=o.map f:=by rw [List.take_of_length_le (by simp)]
theorem map_snoc {α β:Type} (f:α→β) (o:List α) (x:α):o.map f++[f x]=(o++[x]).map f:=by simp
theorem len_snoc {α:Type} (o:List α) (x:α):(o++[x]).length=o.length+1:=by simp
theorem val_snoc (o:List Nat) (x:Nat):val (o++[x])=val o+4294967296 ^ o.length*x:=by rw [val_append];simp [val]
theorem lim_snoc {o:List Nat} (h:Lim o) {x:Nat} (hx:x<4294967296):Lim (o++[x]):=lim_append h (fun y hy=>by simp at hy;omega)
section
variable {m n c s:Nat} {o:List Nat}
theorem fadd_inv (hv:val o+4294967296 ^ o.length*c=val ((dig m).take o.length)+val ((dig n).take o.length)) (hs:s=c+(dig m).getD o.length 0+(dig n).getD o.length 0) :
  val (o++[s % 4294967296])+4294967296 ^ (o.length+1)*(s/4294967296)=val ((dig m).take (o.length+1))+val ((dig n).take (o.length+1)):=by
 rw [val_snoc,val_take_succ',val_take_succ',Nat.pow_succ]
 have h1:=carry_step (4294967296 ^ o.length) s
 have h2:4294967296 ^ o.length*s=4294967296 ^ o.length*c+4294967296 ^ o.length*(dig m).getD o.length 0+4294967296 ^ o.length*(dig n).getD o.length 0:=by rw [hs,Nat.mul_add,Nat.mul_add]
 omega
theorem take_all {m k:Nat} (h:(dig m).length≤k):val ((dig m).take k)=m:=by rw [List.take_of_length_le h,val_dig]
theorem fadd_ge (hv:val o+4294967296 ^ o.length*c=val ((dig m).take o.length)+val ((dig n).take o.length)) (hol:o.length≤max (dig m).length (dig n).length∨(o.length=max (dig m).length (dig n).length+1∧c=0))
  (hg:o.length<max (dig m).length (dig n).length∨c≠0):o.length+1=max (dig m).length (dig n).length+1→4294967296 ^ (o.length+1-1)≤m+n:=by
 intro h
 rw [take_all (by omega),take_all (by omega)] at hv
 have:4294967296 ^ o.length*1≤4294967296 ^ o.length*c:=Nat.mul_le_mul_left _ (by omega)
 rw [Nat.add_sub_cancel];omega
theorem len_pow {m:Nat} (h:0<(dig m).length):4294967296 ^ ((dig m).length-1)≤m:=by
 rcases Nat.lt_or_ge m (4294967296 ^ ((dig m).length-1)) with h1 | h1
 ·have:=dig_length_le h1;omega
 ·exact h1
theorem fadd_len (hc:c≤1) (hol:o.length≤max (dig m).length (dig n).length∨(o.length=max (dig m).length (dig n).length+1∧c=0)) (hg:o.length<max (dig m).length (dig n).length∨c≠0)
  (hs:s=c+(dig m).getD o.length 0+(dig n).getD o.length 0):o.length+1≤max (dig m).length (dig n).length∨(o.length+1=max (dig m).length (dig n).length+1∧s/4294967296=0):=by
 by_cases h:o.length<max (dig m).length (dig n).length
 ·exact .inl h
 ·rw [getD_ge (dig m) _ (by omega),getD_ge (dig n) _ (by omega)] at hs
  exact .inr ⟨by omega,by omega⟩
theorem fadd_end (hc:c≤1) (hlo:Lim o) (hol:o.length≤max (dig m).length (dig n).length∨(o.length=max (dig m).length (dig n).length+1∧c=0)) (hv:val o+4294967296 ^ o.length*c=val ((dig m).take o.length)+val ((dig n).take o.length))
  (hge:o.length=max (dig m).length (dig n).length+1→4294967296 ^ (o.length-1)≤m+n) (hg:¬ (o.length<max (dig m).length (dig n).length∨c≠0)):dig (m+n)=o:=by
 rw [take_all (by omega),take_all (by omega),show c=0 by omega] at hv
 refine(dig_of hlo (by omega) ?_).symm
 by_cases h0:o.length=0
 ·exact .inl h0
 refine .inr ?_
 rcases hol with h | h
 ·rcases Nat.le_total (dig m).length (dig n).length with hh | hh
  ·have:=len_pow (m:=n) (by omega)
   rw [show o.length=(dig n).length by omega];omega
  ·have:=len_pow (m:=m) (by omega)
   rw [show o.length=(dig m).length by omega];omega
 ·exact hge h.1
end
theorem sub_invF {k br y2 br2 x:Nat} {a b o:List Nat} (hol:k<o.length) (hlo:Lim o) (hbr:br≤1) (hxl:a.getD k 0<4294967296) (hyl:b.getD k 0<4294967296) (hv:val (o.take k)+val (b.take k)=val (a.take k)+4294967296 ^ k*br) (hx:x=br+b.getD k 0)
  (h:(a.getD k 0<x∧y2=a.getD k 0+4294967296∧br2=1)∨(x≤a.getD k 0∧y2=a.getD k 0∧br2=0)) :
  x≤y2∧br2≤1∧Lim (o.set k ((y2-x) % 4294967296))∧val ((o.set k ((y2-x) % 4294967296)).take (k+1))+val (b.take (k+1))=val (a.take (k+1))+4294967296 ^ (k+1)*br2:=by
 rcases h with⟨h1,rfl,rfl⟩ | ⟨h1,rfl,rfl⟩
 ·refine⟨by omega,by omega,lim_set hlo _ _ (by omega),?_⟩
  rw [show (a.getD k 0+4294967296-x) % 4294967296=4294967296+a.getD k 0-x by omega]
  exact sub_inv1 hol hv hx h1 (by omega)
 ·refine⟨by omega,by omega,lim_set hlo _ _ (by omega),?_⟩
  rw [Nat.mod_eq_of_lt (by omega:a.getD k 0-x<4294967296)]
  exact sub_inv0 hol hv hx h1
namespace H_c_FTrim
theorem zSm {p q:Prop} (k:q) (e:p=q:=by simp only [e1,e2,e3,e4,p1,p2,p3,q1,q2,q3,l1,t0,t1,r1,r2,r3,r4,Nat.zero_add,Nat.reduceMul,Nat.reduceAdd,b1,b2,b3,b4,b5,b6,i1,i2,i3,i4,i5,i6,Nat.reduceBEq,ej,ek,dflt,List.take_zero,List.take_nil,List.nil_append,kills_map u32E,LV.kill];exact rfl):p:=e.mpr k
end H_c_FTrim
open H_c_FTrim in
theorem c_FTrim (l:List Nat) (h:Lim l) (hl:l.length≤4398046511104):CallP Tryz.prog 188 [limL l] (magL (val l)):=by
 unfold limL magL
 rw [←trimL_dig h]
 unfold trimL
 refine fnP Tryz.func188 ?_
 have ej:True:=trivial
 have ek:True:=trivial
 refine zg14 ?_
 refine lp1 (fun(k:Nat) L=>(((St.mk L.slot (hp [])).put (some 0) (.list 1 (l.map u32L))).put (some 3) (nI64 k))) (fun k=>k≤l.length∧trimN l.length l=trimN k l) (fun k=>k) l.length ⟨Nat.le_refl _,rfl⟩ ?_
 rintro k L1 ⟨hk,hkt⟩
 refine zg6 ?_
 refine op_if 8 rfl (fun h8r h8=>?_) (fun h8r h8=>?_)
 ·obtain⟨j,rfl⟩:∃ j,k=j+1:=⟨k-1,by omega⟩
  have ej:(((j+1:Nat):Int)-1).toNat=j:=by omega
  have ek:(((j+1:Nat):Int)-1)=j:=by omega
  refine zg9 ?_
  refine wl_if rfl (fun h15r h15=>?_) (fun h15r h15=>?_)
  ·refine zg10 ?_
   exact nx1 j ⟨by omega,hkt.trans (by simp only [trimN];rw [if_pos (by simpa using h15)])⟩
  ·refine zg10 ?_
   refine st_pure rfl (by first | exact .sliceLh (h:=_) u32E rfl Tryz.underlying30 T181 rfl om | exact .sliceRh rfl Tryz.underlying30 T181 rfl om om) ?_
   refine st_store rfl (.app rfl rfl rfl rfl rfl (Nat.zero_le _) (.inr rfl) (by decide) Tryz.underlying30 Tryz.underlying30 Z181 T181 rfl B181 (.inr (.inl rfl)) (by first | (simp;done) | (simp;omega)) (by first | (simp;done) | (simp;omega)) (by decide)) ?_
   refine zg4 ?_
   rw [hkt,trimN,if_neg (show ¬ l.getD j 0=0 by omega)]
   exact ret1f [22] rfl rfl (imm_refm u32E rfl rfl rfl)
 ·have hk0:k=0:=by omega
  subst hk0
  refine zg20 ?_
  refine st_pure rfl (by first | exact .sliceLh (h:=_) u32E rfl Tryz.underlying30 T181 rfl om | exact .sliceRh rfl Tryz.underlying30 T181 rfl om om) ?_
  refine st_store rfl (.app rfl rfl rfl rfl rfl (Nat.zero_le _) (.inr rfl) (by decide) Tryz.underlying30 Tryz.underlying30 Z181 T181 rfl B181 (.inr (.inl rfl)) (by first | (simp;done) | (simp;omega)) (by first | (simp;done) | (simp;omega)) (by decide)) ?_
  refine zg4 ?_
  rw [hkt,show trimN 0 l=0 from rfl]
  exact ret1f [22] rfl rfl (imm_refm u32E rfl rfl rfl)
open H0 in
theorem c_FOf (n:Nat) (hn:n<18446744073709551616):CallP Tryz.prog 123 [nU64 n] (magL n):=by
 have hL:Lim [n % 4294967296,n/4294967296 % 4294967296]:=by
  intro x hx;simp at hx;omega
 have hV:val [n % 4294967296,n/4294967296 % 4294967296]=n:=by rw [val_two];omega
 refine fnP Tryz.func123 ?_
 refine zg13 ?_
 refine cpf [8] fm1 (c_FTrim _ (by first | assumption | exact lim_dig _) (by first | omega | (simp;done) | (simp;omega))) ?_
 refine zg4 ?_
 exact ret1 rfl (by rw [hV];exact .pure (magL_pure _))
namespace H_c_Fsmall
theorem zSm {p q:Prop} (k:q) (e:p=q:=by simp only [e1,e2,e3,e4,p1,p2,p3,q1,q2,q3,l1,t0,t1,r1,r2,r3,r4,Nat.zero_add,Nat.reduceMul,Nat.reduceAdd,b1,b2,b3,b4,b5,b6,i1,i2,i3,i4,i5,i6,Nat.reduceBEq,dflt,tz0,tz1];exact rfl):p:=e.mpr k
end H_c_Fsmall
open H_c_Fsmall in
theorem c_Fsmall (m:Nat) (hl:(dig m).length≤1099511627776):CallP Tryz.prog 231 [magL m] (.tup [nU64 (if m<18446744073709551616 then m else 0),bL (decide (m<18446744073709551616))]):=by
 have hd0:=getD_dig_lt m 0
 have hd1:=getD_dig_lt m 1
 refine fnP Tryz.func231 ?_
 refine zg20 ?_
 refine wl_if rfl (fun h6r h6=>?_) (fun h6r h6=>?_)
 ·have hm:m=0:=dig_eq_nil.1 (List.eq_nil_of_length_eq_zero (by omega))
  refine zg9 ?_
  subst hm
  exact ret2 rfl (.pure rfl) rfl (.pure rfl)
 ·refine zg6 ?_
  refine wl_if rfl (fun h8r h8=>?_) (fun h8r h8=>?_)
  ·have hm:=dig_is1 (n:=m) (by omega)
   have hm2:=dig_len_le1.1 (show (dig m).length≤1 by omega)
   refine zg13 ?_
   rw [if_pos (by omega),decide_eq_true (by omega)]
   refine ret2 (x:=nU64 ((dig m).getD 0 0)) rfl ?_ rfl (.pure rfl)
   rw [hm.1]
   exact .pure rfl
  ·refine zg6 ?_
   refine wl_if rfl (fun h14r h14=>?_) (fun h14r h14=>?_)
   ·have h2v:m=(dig m).getD 1 0*4294967296+(dig m).getD 0 0:=dig_is2 (by omega)
    have hm2:=dig_len_le2.1 (show (dig m).length≤2 by omega)
    refine zg1 ?_
    refine wl_regD 12 (by decide +kernel) ?_
    refine zg8 ?_
    refine st_pure rfl (.sh rfl rfl (shl32 (by simp only [dflt,tz0,tz1];omega))) ?_
    refine st_pure rfl (.bin rfl rfl (orC (by simp only [dflt,tz0,tz1];omega) (by simp only [dflt,tz0,tz1];omega))) ?_
    refine zg7 ?_
    rw [if_pos hm2,decide_eq_true hm2]
    refine ret2 (x:=nU64 ((dig m).getD 1 0*4294967296+(dig m).getD 0 0)) rfl ?_ rfl (.pure rfl)
    rw [←h2v]
    exact .pure rfl
   ·have hm2:¬ m<18446744073709551616:=fun h=>by have:=dig_len_le2.2 h;omega
    refine zg10 ?_
    rw [if_neg hm2,decide_eq_false hm2]
    exact ret2 rfl (.pure rfl) rfl (.pure rfl)
namespace H_c_FCmp
theorem zSm {p q:Prop} (k:q) (e:p=q:=by simp only [e1,e2,e3,e4,p1,p2,p3,q1,q2,q3,l1,t0,t1,r1,r2,r3,r4,Nat.zero_add,Nat.reduceMul,Nat.reduceAdd,b1,b2,b3,b4,b5,b6,i1,i2,i3,i4,i5,i6,Nat.reduceBEq,dflt,ej,ek];exact rfl):p:=e.mpr k
end H_c_FCmp
open H_c_FCmp in
theorem c_FCmp (m n:Nat) (hla:(dig m).length≤1099511627776) (hlb:(dig n).length≤1099511627776):CallP Tryz.prog 57 [magL m,magL n] (iL (cmpN m n)):=by
 refine fnP Tryz.func57 ?_
 have ej:True:=trivial
 have ek:True:=trivial
 refine zg15 ?_
 refine wl_if rfl (fun h10r h10=>?_) (fun h10r h10=>?_)
 ·refine zg10 ?_
  refine wl_if rfl (fun h15r h15=>?_) (fun h15r h15=>?_)
  ·have hE:=lt_of_len (m:=m) (n:=n) (by omega)
   refine zg8 ?_
   first | (rw [cmpN_lt hE];exact ret1 rfl (.pure rfl)) | (rw [cmpN_gt hE];exact ret1 rfl (.pure rfl)) | (rw [cmpN_eq hE];exact ret1 rfl (.pure rfl))
  ·have hE:=lt_of_len (m:=n) (n:=m) (by omega)
   refine zg9 ?_
   first | (rw [cmpN_lt hE];exact ret1 rfl (.pure rfl)) | (rw [cmpN_gt hE];exact ret1 rfl (.pure rfl)) | (rw [cmpN_eq hE];exact ret1 rfl (.pure rfl))
 ·have hlen:(dig m).length=(dig n).length:=by omega
  clear h10 h10r
  refine zg12 ?_
  refine lp1 (fun(k:Nat) L=>((((St.mk L.slot (hp [])).put (some 0) (magL m)).put (some 1) (magL n)).put (some 5) (iL ((k:Int)-1)))) (fun k=>k≤(dig m).length∧(dig m).drop k=(dig n).drop k) (fun k=>k) ((dig m).length) ⟨Nat.le_refl _,by rw [List.drop_length,List.drop_of_length_le (by omega)]⟩ ?_
  rintro k L1 ⟨hk,hd⟩
  refine zg7 ?_
  refine wl_if rfl (fun h20r h20=>?_) (fun h20r h20=>?_)
  ·obtain⟨j,rfl⟩:∃ j,k=j+1:=⟨k-1,by omega⟩
   have ej:(((j+1:Nat):Int)-1).toNat=j:=by omega
   have ek:(((j+1:Nat):Int)-1)=j:=by omega
   refine zg6 ?_
   refine wl_regD 9 (by decide +kernel) ?_
   refine zg11 ?_
   refine wl_if rfl (fun h31r h31=>?_) (fun h31r h31=>?_)
   ·have hE:=val_lt_of_limb (lim_dig m) (k:=j) (by omega) (by omega) hd (by omega)
    rw [val_dig,val_dig] at hE
    refine zg12 ?_
    first | (rw [cmpN_lt hE];exact ret1 rfl (.pure rfl)) | (rw [cmpN_gt hE];exact ret1 rfl (.pure rfl)) | (rw [cmpN_eq hE];exact ret1 rfl (.pure rfl))
   ·refine zg3 ?_
    refine wl_regD 9 (by decide +kernel) ?_
    refine zg11 ?_
    refine wl_if rfl (fun h40r h40=>?_) (fun h40r h40=>?_)
    ·have hE:=val_lt_of_limb (lim_dig n) (k:=j) (by omega) (by omega) hd.symm (by omega)
     rw [val_dig,val_dig] at hE
     refine zg11 ?_
     first | (rw [cmpN_lt hE];exact ret1 rfl (.pure rfl)) | (rw [cmpN_gt hE];exact ret1 rfl (.pure rfl)) | (rw [cmpN_eq hE];exact ret1 rfl (.pure rfl))
    ·refine zg9 ?_
     exact nx1 j ⟨by omega,drop_eq_of (by omega) (by omega) hd (by omega)⟩
  ·obtain rfl:k=0:=by omega
   rw [List.drop_zero,List.drop_zero] at hd
   have hE:m=n:=by have:=congrArg val hd;rwa [val_dig,val_dig] at this
   refine zg11 ?_
   first | (rw [cmpN_lt hE];exact ret1 rfl (.pure rfl)) | (rw [cmpN_gt hE];exact ret1 rfl (.pure rfl)) | (rw [cmpN_eq hE];exact ret1 rfl (.pure rfl))
namespace H_c_FAdd
theorem zSm {p q:Prop} (k:q) (e:p=q:=by simp only [e1,e2,e3,e4,p1,p2,p3,q1,q2,q3,l1,t0,t1,r1,r2,r3,r4,Nat.zero_add,Nat.reduceMul,Nat.reduceAdd,b1,b2,b3,b4,b5,b6,i1,i2,i3,i4,i5,i6,Nat.reduceBEq,dflt,List.take_zero,List.take_nil,List.nil_append,kills_map u32E,LV.kill,take_map_len,map_snoc,len_snoc,List.length_cons,List.length_nil];exact rfl):p:=e.mpr k
end H_c_FAdd
open H_c_FAdd in
theorem c_FAdd (m n:Nat) (hla:(dig m).length≤1099511627776) (hlb:(dig n).length≤1099511627776):CallP Tryz.prog 117 [magL m,magL n] (magL (m+n)):=by
 refine fnP Tryz.func117 ?_
 refine zg22 ?_
 refine wl_weak (Weak.own (t:=5) 50 1 rfl rfl) ?_
 refine lp2 (fun(o:List Nat) (c:Nat) L=>((((((St.mk L.slot (hp [(50,⟨1,o.map u32L,true⟩)])).put (some 0) (magL m)).put (some 1) (magL n)).put (some 5) (.ref 50 1 0 o.length)).put (some 6) (nU64 c)).put (some 7) (nI64 o.length))) (fun o c=>c≤1∧Lim o∧(o.length≤max (dig m).length (dig n).length∨(o.length=max (dig m).length (dig n).length+1∧c=0))∧val o+4294967296 ^ o.length*c=val ((dig m).take o.length)+val ((dig n).take o.length)∧(o.length=max (dig m).length (dig n).length+1→4294967296 ^ (o.length-1)≤m+n)) (fun o c=>max (dig m).length (dig n).length+2-o.length) ([]) 0 ⟨by omega,(by intro x hx;cases hx),.inl (Nat.zero_le _),by simp [val],by simp⟩ ?_
 rintro o c L1 ⟨hc,hlo,hol,hv,hge⟩
 have hxk:=getD_dig_lt m o.length
 have hyk:=getD_dig_lt n o.length
 refine zg2 ?_
 refine wl_cut (fun L=>∃ (t:Bool) (L1:St),(t=decide (o.length<max (dig m).length (dig n).length∨c≠0))∧L=(((((((St.mk L1.slot (hp [(50,⟨1,o.map u32L,true⟩)])).put (some 0) (magL m)).put (some 1) (magL n)).put (some 5) (.ref 50 1 0 o.length)).put (some 6) (nU64 c)).put (some 7) (nI64 o.length)).put (some 21) (bL t))) ?_ ?_
 ·refine zg6 ?_
  refine op_if 12 rfl (fun h12r h12=>?_) (fun h12r h12=>?_)
  ·refine zg11 ?_
   exact⟨true,_,by symm;rw [decide_eq_true_iff];omega,((put_id' (put_id' (put_id' (put_id' (put_id' (put_id' (mk_id' cl) cl) cl) cl) cl) cl) cl)).symm⟩
  ·refine zg6 ?_
   refine op_if 18 rfl (fun h18r h18=>?_) (fun h18r h18=>?_)
   ·refine zg5 ?_
    exact⟨true,_,by symm;rw [decide_eq_true_iff];omega,((put_id' (put_id' (put_id' (put_id' (put_id' (put_id' (mk_id' cl) cl) cl) cl) cl) cl) cl)).symm⟩
   ·refine zg5 ?_
    exact⟨((c:Int) != 0),_,by rw [Bool.eq_iff_iff,bne_iff_ne,decide_eq_true_iff];omega,((put_id' (put_id' (put_id' (put_id' (put_id' (put_id' (mk_id' cl) cl) cl) cl) cl) cl) cl)).symm⟩
 ·rintro _ ⟨t,LR4,ht,rfl⟩
  refine zg1 ?_
  refine wl_if rfl (fun h21r h21=>?_) (fun h21r h21=>?_)
  ·rw [ht,decide_eq_true_iff] at h21r
   have hg:=h21r
   refine zg13 ?_
   refine wl_cut (fun L=>∃ (s1:Nat) (L1:St),(s1=c+(dig m).getD o.length 0)∧L=((((((St.mk L1.slot (hp [(50,⟨1,o.map u32L,true⟩)])).put (some 0) (magL m)).put (some 1) (magL n)).put (some 5) (.ref 50 1 0 o.length)).put (some 6) (nU64 s1)).put (some 7) (nI64 o.length))) ?_ ?_
   ·refine wl_if rfl (fun h27r h27=>?_) (fun h27r h27=>?_)
    ·refine zg11 ?_
     exact⟨c+(dig m).getD o.length 0,_,rfl,((put_id' (put_id' (put_id' (put_id' (put_id' (mk_id' cl) cl) cl) cl) cl) cl)).symm⟩
    ·refine zg2 ?_
     exact⟨c,_,by rw [getD_ge (dig m) o.length (by omega)];rfl,((put_id' (put_id' (put_id' (put_id' (put_id' (mk_id' cl) cl) cl) cl) cl) cl)).symm⟩
   ·rintro _ ⟨s1,LC27,hs1,rfl⟩
    refine zg10 ?_
    refine wl_cut (fun L=>∃ (s:Nat) (L1:St),(s=c+(dig m).getD o.length 0+(dig n).getD o.length 0)∧L=((((((St.mk L1.slot (hp [(50,⟨1,o.map u32L,true⟩)])).put (some 0) (magL m)).put (some 1) (magL n)).put (some 5) (.ref 50 1 0 o.length)).put (some 6) (nU64 s)).put (some 7) (nI64 o.length))) ?_ ?_
    ·refine wl_if rfl (fun h38r h38=>?_) (fun h38r h38=>?_)
     ·refine zg11 ?_
      exact⟨s1+(dig n).getD o.length 0,_,by rw [hs1],((put_id' (put_id' (put_id' (put_id' (put_id' (mk_id' cl) cl) cl) cl) cl) cl)).symm⟩
     ·refine zg2 ?_
      exact⟨s1,_,by rw [hs1,getD_ge (dig n) o.length (by omega)];rfl,((put_id' (put_id' (put_id' (put_id' (put_id' (mk_id' cl) cl) cl) cl) cl) cl)).symm⟩
    ·rintro _ ⟨s,LC38,hs,rfl⟩
     refine zg7 ?_
     refine st_store rfl (.app (news:=[u32L (s % 4294967296)]) rfl rfl rfl rfl rfl (by simp) (.inl rfl) (by decide) Tryz.underlying30 Tryz.underlying30 Z181 T181 rfl B181 (.inl ⟨49,0,_,rfl,by decide,rfl,rfl,by simp,rfl,rfl⟩) (by simp;omega) (by simp;omega) (by decide)) ?_
     refine zg3 ?_
     refine wl_regW (Weak.kill _ 49) ?_
     refine zg12 ?_
     exact nx2 (o++[s % 4294967296]) (s/4294967296) ⟨by omega,lim_snoc hlo (by omega),by rw [len_snoc];exact fadd_len hc hol hg hs,by rw [len_snoc];exact fadd_inv hv hs,by rw [len_snoc];exact fadd_ge hv hol hg⟩ (hm:=by rw [len_snoc];omega)
  ·rw [ht,decide_eq_false_iff_not] at h21r
   have hN:=fadd_end hc hlo hol hv hge h21r
   refine zg12 ?_
   skip
   exact ret1f [50] rfl rfl (by rw [show magL (m+n)=.list 1 (o.map u32L) by rw [←hN];rfl];exact imm_refm u32E rfl rfl rfl)
namespace H_c_Fminus
theorem zSm {p q:Prop} (k:q) (e:p=q:=by simp only [e1,e2,e3,e4,p1,p2,p3,q1,q2,q3,l1,t0,t1,r1,r2,r3,r4,Nat.zero_add,Nat.reduceMul,Nat.reduceAdd,b1,b2,b3,b4,b5,b6,i1,i2,i3,i4,i5,i6,Nat.reduceBEq,dflt];exact rfl):p:=e.mpr k
end H_c_Fminus
open H_c_Fminus in
theorem c_Fminus (m n:Nat) (hla:(dig m).length≤1099511627776) (hlb:(dig n).length≤1099511627776) (hle:n≤m):CallP Tryz.prog 190 [magL m,magL n] (magL (m-n)):=by
 have hbl:=len_dig_mono hle
 refine fnP Tryz.func190 ?_
 refine zg9 ?_
 refine st_alloc rfl rfl (.mkE (n:=(dig m).length) (m:=(dig m).length) ml ml om om om) ?_
 refine zg15 ?_
 refine lp3 (fun(k:Nat) (o:List Nat) (br:Nat) L=>((((((St.mk L.slot (hp [(12,⟨1,o.map u32L,true⟩)])).put (some 0) (magL m)).put (some 1) (magL n)).put (some 5) (.ref 12 1 0 (dig m).length)).put (some 6) (nU64 br)).put (some 7) (nI64 k))) (fun k o br=>k≤(dig m).length∧o.length=(dig m).length∧br≤1∧Lim o∧val (o.take k)+val ((dig n).take k)=val ((dig m).take k)+4294967296 ^ k*br) (fun k o br=>(dig m).length-k) 0 (List.replicate (dig m).length 0) 0 ⟨Nat.zero_le _,by simp,by omega,lim_zeros _,by simp [val]⟩ ?_
 rintro k o br L1 ⟨hk,hol,hbr,hlo,hv⟩
 have hxk:=getD_dig_lt m k
 have hyk:=getD_dig_lt n k
 refine zg9 ?_
 refine wl_if rfl (fun h16r h16=>?_) (fun h16r h16=>?_)
 ·refine zg19 ?_
  refine wl_cut (fun L=>∃ (x:Nat) (L1:St),(x=br+(dig n).getD k 0)∧L=(((((((St.mk L1.slot (hp [(12,⟨1,o.map u32L,true⟩)])).put (some 0) (magL m)).put (some 1) (magL n)).put (some 5) (.ref 12 1 0 (dig m).length)).put (some 6) (nU64 br)).put (some 7) (nI64 k)).put (some 8) (nU64 x))) ?_ ?_
  ·refine wl_if rfl (fun h23r h23=>?_) (fun h23r h23=>?_)
   ·refine zg11 ?_
    exact⟨br+(dig n).getD k 0,_,rfl,((put_id' (put_id' (put_id' (put_id' (put_id' (put_id' (mk_id' cl) cl) cl) cl) cl) cl) cl)).symm⟩
   ·refine zg2 ?_
    exact⟨br,_,by rw [getD_ge _ k (by omega)];rfl,((put_id' (put_id' (put_id' (put_id' (put_id' (put_id' (mk_id' cl) cl) cl) cl) cl) cl) cl)).symm⟩
  ·rintro _ ⟨x,LC23,hx,rfl⟩
   refine zg24 ?_
   refine wl_cut (fun L=>∃ (y2:Nat) (br2:Nat) (L1:St),(((dig m).getD k 0<x∧y2=(dig m).getD k 0+4294967296∧br2=1)∨(x≤(dig m).getD k 0∧y2=(dig m).getD k 0∧br2=0))∧L=((((((((St.mk L1.slot (hp [(12,⟨1,o.map u32L,true⟩)])).put (some 0) (magL m)).put (some 1) (magL n)).put (some 5) (.ref 12 1 0 (dig m).length)).put (some 6) (nU64 br2)).put (some 7) (nI64 k)).put (some 8) (nU64 x)).put (some 9) (nU64 y2))) ?_ ?_
   ·refine wl_if rfl (fun h38r h38=>?_) (fun h38r h38=>?_)
    ·refine zg11 ?_
     exact⟨(dig m).getD k 0+4294967296,1,_,.inl ⟨by omega,rfl,rfl⟩,((put_id' (put_id' (put_id' (put_id' (put_id' (put_id' (put_id' (mk_id' cl) cl) cl) cl) cl) cl) cl) cl)).symm⟩
    ·refine zg2 ?_
     exact⟨(dig m).getD k 0,0,_,.inr ⟨by omega,rfl,rfl⟩,((put_id' (put_id' (put_id' (put_id' (put_id' (put_id' (put_id' (mk_id' cl) cl) cl) cl) cl) cl) cl) cl)).symm⟩
   ·rintro _ ⟨y2,br2,LC38,hf,rfl⟩
    obtain⟨hf1,hf2,hf3,hf4⟩:=sub_invF (by omega) hlo hbr hxk hyk hv hx hf
    refine zg19 ?_
    exact nx3 (k+1) (o.set k ((y2-x) % 4294967296)) br2 ⟨by omega,by simp [hol],hf2,hf3,hf4⟩
 ·obtain rfl:k=(dig m).length:=by omega
  refine zg8 ?_
  refine cpf [12] fm1 (c_FTrim _ (by first | assumption | exact lim_dig _) (by first | omega | (simp;done) | (simp;omega))) ?_
  refine zg4 ?_
  have e:=sub_end (lim_dig m) hlo hol hbl (by rw [val_dig,val_dig];exact hle) hv
  rw [trimL_dig hlo,val_dig,val_dig] at e
  have e2:=congrArg val e
  rw [val_dig,val_dig] at e2
  rw [←e2]
  exact ret1 rfl (by first | exact .pure rfl | exact .pure (limL_pure _) | exact .pure (magL_pure _) | exact .pure (ratE.pure _) | exact .pure (pure_lst u32E _ _) | exact .pure (pure_lst ratE _ _))
open H0 in
theorem c_FSub (m n:Nat) (hla:(dig m).length≤1099511627776) (hlb:(dig n).length≤1099511627776):CallP Tryz.prog 118 [magL m,magL n] (.tup [limL (subL m n),iL (subE m n)]):=by
 refine fnP Tryz.func118 ?_
 refine zg11 ?_
 refine cp am2 (c_FCmp _ _ (by omega) (by omega)) ?_
 refine zg3 ?_
 refine wl_if rfl (fun h9r h9=>?_) (fun h9r h9=>?_)
 ·have hlt:m<n:=by unfold cmpN at h9;split at h9;assumption;split at h9<;>omega
  refine zg8 ?_
  rw [subL,if_pos hlt,subE,if_pos hlt]
  exact ret2 rfl (.nil 1) rfl (.pure rfl)
 ·have hle:n≤m:=by
   rcases Nat.lt_or_ge m n with h | h
   ·rw [cmpN_lt h] at h9;omega
   ·exact h
  refine zg6 ?_
  refine cp am2 (c_Fminus _ _ (by omega) (by omega) (by omega)) ?_
  refine zg5 ?_
  rw [subL_le hle,subE_0.2 hle]
  exact ret2 rfl (.pure (magL_pure _)) rfl (.pure rfl)
theorem blen_half {x:Nat} (h:0<x):blen x=blen (x/2 ^ 1)+1:=by
 have:=blen_div (n:=x) (k:=1)
 rcases Nat.lt_or_ge x 2 with h1 | h1
 ·obtain rfl:x=1:=by omega
  rfl
 ·rw [this (by omega)];omega
namespace H_c_FMul
theorem zSm {p q:Prop} (k:q) (e:p=q:=by simp only [e1,e2,e3,e4,p1,p2,p3,q1,q2,q3,l1,t0,t1,r1,r2,r3,r4,Nat.zero_add,Nat.reduceMul,Nat.reduceAdd,b1,b2,b3,b4,b5,b6,i1,i2,i3,i4,i5,i6,Nat.reduceBEq,dflt,eij];exact rfl):p:=e.mpr k
end H_c_FMul
open H_c_FMul in
theorem c_FMul (m n:Nat) (hla:(dig m).length≤1099511627776) (hlb:(dig n).length≤1099511627776):CallP Tryz.prog 114 [magL m,magL n] (magL (m*n)):=by
 refine fnP Tryz.func114 ?_
 have eij:True:=trivial
 refine zg12 ?_
 refine st_alloc rfl rfl (.mkE (n:=(dig m).length+(dig n).length) (m:=(dig m).length+(dig n).length) ml ml om om om) ?_
 refine zg10 ?_
 refine lp2 (fun(i:Nat) (o:List Nat) L=>(((((St.mk L.slot (hp [(14,⟨1,o.map u32L,true⟩)])).put (some 0) (magL m)).put (some 1) (magL n)).put (some 5) (.ref 14 1 0 ((dig m).length+(dig n).length))).put (some 6) (nI64 i))) (fun i o=>i≤(dig m).length∧o.length=(dig m).length+(dig n).length∧Lim o∧val o=val ((dig m).take i)*val (dig n)∧∀ p,i+(dig n).length≤p→o.getD p 0=0) (fun i o=>(dig m).length-i) 0 (List.replicate ((dig m).length+(dig n).length) 0) ⟨Nat.zero_le _,by simp,lim_zeros _,by simp [val,val_zeros],fun p _=>getD_zeros _ _⟩ ?_
 rintro i o L1 ⟨hi,hol,hlo,hv,hz⟩
 have hxi:=getD_dig_lt m i
 refine zg9 ?_
 refine wl_if rfl (fun h18r h18=>?_) (fun h18r h18=>?_)
 ·refine zg16 ?_
  refine lp3 (fun(j:Nat) (o:List Nat) (c:Nat) L=>(((((((St.mk L.slot (hp [(14,⟨1,o.map u32L,true⟩)])).put (some 0) (magL m)).put (some 1) (magL n)).put (some 5) (.ref 14 1 0 ((dig m).length+(dig n).length))).put (some 6) (nI64 i)).put (some 7) (nU64 c)).put (some 8) (nI64 j))) (fun j o c=>j≤(dig n).length∧o.length=(dig m).length+(dig n).length∧Lim o∧c<4294967296∧val o+4294967296 ^ (i+j)*c=val ((dig m).take i)*val (dig n)+4294967296 ^ i*((dig m).getD i 0*val ((dig n).take j))∧∀ p,i+(dig n).length≤p→o.getD p 0=0) (fun j o c=>(dig n).length-j) 0 o 0 ⟨Nat.zero_le _,hol,hlo,by omega,by rw [hv];simp [val],hz⟩ ?_
  rintro j o c L2 ⟨hj,hol,hlo,hc,hv,hz⟩
  have hyj:=getD_dig_lt n j
  have hzj:=getD_lim hlo (i+j)
  have hs:=mul_s_lt hc hxi hyj hzj
  have eij:((i:Int)+(j:Int)).toNat=i+j:=by omega
  refine zg9 ?_
  refine wl_if rfl (fun h24r h24=>?_) (fun h24r h24=>?_)
  ·refine zg5 ?_
   refine wl_regD 22 (by decide +kernel) ?_
   refine zg49 ?_
   exact nx3 (j+1) (o.set (i+j) ((c+((dig m).getD i 0*(dig n).getD j 0+o.getD (i+j) 0)) % 4294967296)) ((c+((dig m).getD i 0*(dig n).getD j 0+o.getD (i+j) 0))/4294967296) ⟨by omega,by simp [hol],lim_set hlo _ _ (Nat.mod_lt _ (by omega)),by omega,mul_inv (by omega) hv rfl,zeros_set (by omega) hz⟩
  ·obtain rfl:j=(dig n).length:=by omega
   have eij2:((i:Int)+((dig n).length:Int)).toNat=i+(dig n).length:=by omega
   refine zg24 ?_
   exact nx2 (i+1) (o.set (i+(dig n).length) (c % 4294967296)) ⟨by omega,by simp [hol],lim_set hlo _ _ (Nat.mod_lt _ (by omega)),by rw [Nat.mod_eq_of_lt hc];exact mul_row (by omega) (by omega) (hz _ (Nat.le_refl _)) rfl rfl hv,zeros_end hz⟩
 ·obtain rfl:i=(dig m).length:=by omega
  refine zg8 ?_
  refine cpf [14] fm1 (c_FTrim _ (by first | assumption | exact lim_dig _) (by first | omega | (simp;done) | (simp;omega))) ?_
  refine zg4 ?_
  rw [List.take_length,val_dig,val_dig] at hv
  rw [←hv]
  exact ret1 rfl (by first | exact .pure rfl | exact .pure (limL_pure _) | exact .pure (magL_pure _) | exact .pure (ratE.pure _) | exact .pure (pure_lst u32E _ _) | exact .pure (pure_lst ratE _ _))
open H0 in
theorem c_Ftimes (m d:Nat) (hla:(dig m).length≤549755813888) (hd:d<4294967296):CallP Tryz.prog 243 [magL m,nU32 d] (magL (m*d)):=by
 have hld:(dig d).length≤1:=dig_len_le1.2 hd
 refine fnP Tryz.func243 ?_
 refine zg10 ?_
 refine cp am1 (c_FOf _ (by omega)) ?_
 refine cp am2 (c_FMul _ _ (by omega) (by omega)) ?_
 refine zg4 ?_
 exact ret1 rfl (by first | exact .pure rfl | exact .pure (limL_pure _) | exact .pure (magL_pure _) | exact .pure (ratE.pure _) | exact .pure (pure_lst u32E _ _) | exact .pure (pure_lst ratE _ _))
namespace H_c_FbyLimb
theorem zSm {p q:Prop} (k:q) (e:p=q:=by simp only [e1,e2,e3,e4,p1,p2,p3,q1,q2,q3,l1,t0,t1,r1,r2,r3,r4,Nat.zero_add,Nat.reduceMul,Nat.reduceAdd,b1,b2,b3,b4,b5,b6,i1,i2,i3,i4,i5,i6,Nat.reduceBEq,dflt,ej,ek];exact rfl):p:=e.mpr k
end H_c_FbyLimb
open H_c_FbyLimb in
theorem c_FbyLimb (m d:Nat) (hla:(dig m).length≤1099511627776) (hd0:0<d) (hd:d<4294967296):CallP Tryz.prog 239 [magL m,nU32 d] (.tup [magL (m/d),nU32 (m % d)]):=by
 refine fnP Tryz.func239 ?_
 have ej:True:=trivial
 have ek:True:=trivial
 refine zg10 ?_
 refine st_alloc rfl rfl (.mkE (n:=(dig m).length) (m:=(dig m).length) ml ml om om om) ?_
 refine zg18 ?_
 refine lp3 (fun(k:Nat) (q:List Nat) (r:Nat) L=>((((((St.mk L.slot (hp [(11,⟨1,q.map u32L,true⟩)])).put (some 0) (magL m)).put (some 1) (nU32 d)).put (some 6) (.ref 11 1 0 (dig m).length)).put (some 7) (nU64 r)).put (some 8) (iL ((k:Int)-1)))) (fun k q r=>k≤(dig m).length∧q.length=(dig m).length∧Lim q∧r<d∧val (q.drop k)*d+r=val ((dig m).drop k)) (fun k q r=>k) ((dig m).length) (List.replicate (dig m).length 0) 0 ⟨Nat.le_refl _,by simp,lim_zeros _,hd0,by simp [val]⟩ ?_
 rintro k q r L1 ⟨hk,hql,hlq,hr,hv⟩
 refine zg7 ?_
 refine wl_if rfl (fun h16r h16=>?_) (fun h16r h16=>?_)
 ·obtain⟨j,rfl⟩:∃ j,k=j+1:=⟨k-1,by omega⟩
  have ej:(((j+1:Nat):Int)-1).toNat=j:=by omega
  have ek:(((j+1:Nat):Int)-1)=j:=by omega
  have hxj:=getD_dig_lt m j
  refine zg24 ?_
  refine st_pure rfl (.bin rfl rfl (quoU (by omega) (by omega))) ?_
  refine zg20 ?_
  exact nx3 j (q.set j ((r*4294967296+(dig m).getD j 0)/d % 4294967296)) ((r*4294967296+(dig m).getD j 0) % d) ⟨by omega,by simp [hql],lim_set hlq _ _ (Nat.mod_lt _ (by omega)),Nat.mod_lt _ hd0,by rw [Nat.mod_eq_of_lt (small_lt hr hxj)];exact small_inv (by omega) hql hv rfl⟩
 ·obtain rfl:k=0:=by omega
  refine zg8 ?_
  refine cpf [11] fm1 (c_FTrim _ (by first | assumption | exact lim_dig _) (by first | omega | (simp;done) | (simp;omega))) ?_
  refine zg7 ?_
  obtain⟨E1,E2⟩:=small_end hd0 hr hlq hv
  rw [trimL_dig hlq] at E1
  have E3:=congrArg val E1
  rw [val_dig,val_dig,val_dig] at E3
  rw [val_dig] at E2
  rw [←E3,←E2]
  have E4:r % 4294967296=r:=Nat.mod_eq_of_lt (by omega)
  refine ret2 rfl (.pure (magL_pure _)) rfl ?_
  show Imm _ (nU32 (r % 4294967296)) (nU32 r)
  rw [E4]
  exact .pure rfl
namespace H_c_FBits
theorem zSm {p q:Prop} (k:q) (e:p=q:=by simp only [e1,e2,e3,e4,p1,p2,p3,q1,q2,q3,l1,t0,t1,r1,r2,r3,r4,Nat.zero_add,Nat.reduceMul,Nat.reduceAdd,b1,b2,b3,b4,b5,b6,i1,i2,i3,i4,i5,i6,Nat.reduceBEq,dflt,ej];exact rfl):p:=e.mpr k
end H_c_FBits
open H_c_FBits in
theorem c_FBits (m:Nat) (hla:(dig m).length≤1099511627776):CallP Tryz.prog 240 [magL m] (iL (blen m)):=by
 refine fnP Tryz.func240 ?_
 have ej:True:=trivial
 refine zg13 ?_
 refine wl_if rfl (fun h7r h7=>?_) (fun h7r h7=>?_)
 ·have hz:m=0:=dig_eq_nil.1 (List.eq_nil_of_length_eq_zero (by omega))
  subst hz
  refine zg7 ?_
  exact ret1 rfl (by first | exact .pure rfl | exact .pure (limL_pure _) | exact .pure (magL_pure _) | exact .pure (ratE.pure _) | exact .pure (pure_lst u32E _ _) | exact .pure (pure_lst ratE _ _))
 ·have hpos:0<(dig m).length:=by omega
  have ej:(((dig m).length:Int)-1).toNat=(dig m).length-1:=by omega
  have hz:=blen_dig hpos
  have hlim:=getD_dig_lt m ((dig m).length-1)
  have hb32:blen ((dig m).getD ((dig m).length-1) 0)≤32:=blen_le.2 hlim
  refine zg24 ?_
  refine lp2 (fun(x q:Nat) L=>(((St.mk L.slot (hp [])).put (some 3) (nI64 q)).put (some 4) (nU32 x))) (fun x q=>q+blen x=blen m∧x<4294967296∧blen m≤35184372088832) (fun x q=>x) ((dig m).getD ((dig m).length-1) 0) (32*((dig m).length-1)) ⟨hz,hlim,by omega⟩ ?_
  rintro x q L1 ⟨hq,hx,hbm⟩
  refine zg7 ?_
  refine wl_if rfl (fun h19r h19=>?_) (fun h19r h19=>?_)
  ·have hx0:0<x:=by omega
   refine zg13 ?_
   refine st_pure rfl (.sh rfl rfl (shrC (m:=1) (by decide))) ?_
   refine zg3 ?_
   exact nx2 (x/2 ^ 1) (q+1) ⟨by have:=blen_half hx0;omega,by omega,hbm⟩
  ·obtain rfl:x=0:=by omega
   have hb0:blen 0=0:=rfl
   obtain rfl:q=blen m:=by omega
   refine zg12 ?_
   exact ret1 rfl (by first | exact .pure rfl | exact .pure (limL_pure _) | exact .pure (magL_pure _) | exact .pure (ratE.pure _) | exact .pure (pure_lst u32E _ _) | exact .pure (pure_lst ratE _ _))
end Go.Proofs.YthpfpgfehmhpdaaGreat
namespace Go.Lg
open Go.Proofs.YthpfpgfehmhpdaaGreat in
theorem Weak.mv {L:St} {t b sz off len:Nat} {blk:Blk} (d:Nat) (hb0:b≠0) (hd0:d≠0) (hbd:b≠d) (h:L.slot t=.ref b sz off len) (hb:L.heap b=some blk) (hd:L.heap d=none) :
  Weak L (((L.kill b).setB d (some ⟨blk.sz,kills b blk.vals,blk.mt⟩)).put (some t) (.ref d sz off len)):=by
 rintro n W X Z0 a w ⟨hdf,hsz,μ,Z,hc,hr⟩
 have hμd:=mu_none hc hd
 have hk:=hc.kill b hb0
 have hkr:=kill_rep b hr
 let μ':Nat→Option Nat:=fun c=>if c=d then μ b else drop1 μ b c
 have hm:∀ c id,drop1 μ b c=some id→μ' c=some id:=fun c id hh=>by
  have:c≠d:=by
   rintro rfl
   unfold drop1 at hh;split at hh
   ·cases hh
   ·rw [hμd] at hh;cases hh
  simp only [μ',if_neg this];exact hh
 have hinv:∀ c id,μ' c=some id→(c=d∧μ b=some id)∨(c≠d∧drop1 μ b c=some id):=fun c id hh=>by
  simp only [μ'] at hh;split at hh
  ·rename_i e;exact .inl ⟨e,hh⟩
  ·rename_i e;exact .inr ⟨e,hh⟩
 have hdr:∀ c id,drop1 μ b c=some id→c≠b∧μ c=some id:=fun c id h=>by
  unfold drop1 at h;split at h
  ·cases h
  ·exact⟨by assumption,h⟩
 have hbb:∀ id,drop1 μ b b=some id→False:=fun id hh=>(hdr b id hh).1 rfl
 have hmono:∀ {bk:Blk} {id:Nat},BlkRep Z (drop1 μ b) w bk id→BlkRep Z μ' w bk id:=fun hh=>BlkRep.mono (fun _ h=>h) hm (Frame.refl _ _ _) rfl hh
 refine⟨hdf,hsz,μ',Z,?_,fun s=>?_⟩
 ·rw [put_heap]
  refine⟨hc.keep,hc.zone,hc.zsup,hc.zsub,?_,?_,?_,hc.xlt,?_,?_,?_,?_⟩
  ·intro c c' id h1 h2
   rcases hinv c id h1 with⟨e1,g1⟩ | ⟨e1,g1⟩<;>rcases hinv c' id h2 with⟨e2,g2⟩ | ⟨e2,g2⟩
   ·rw [e1,e2]
   ·have:=hdr c' id g2;exact absurd (hc.inj _ _ id this.2 g1) this.1
   ·have:=hdr c id g1;exact absurd (hc.inj _ _ id this.2 g2) this.1
   ·exact hc.inj c c' id (hdr c id g1).2 (hdr c' id g2).2
  ·intro c id h1
   rcases hinv c id h1 with⟨e1,g1⟩ | ⟨e1,g1⟩
   ·exact hc.own b id g1
   ·exact hc.own c id (hdr c id g1).2
  ·intro c id h1 hx
   rcases hinv c id h1 with⟨e1,g1⟩ | ⟨e1,g1⟩
   ·exact absurd (hc.x0 b id g1 hx) hb0
   ·exact hc.x0 c id (hdr c id g1).2 hx
  ·intro id hx
   have h0:=hk.x1 id hx
   exact hm 0 id h0
  ·intro c id bk h1 hbk hmt
   rcases hinv c id h1 with⟨e1,g1⟩ | ⟨e1,g1⟩
   ·subst e1
    simp only [St.setB,if_true,Option.some.injEq] at hbk
    subst hbk
    exact hc.mutz b id blk g1 hb hmt
   ·simp only [St.setB,if_neg e1] at hbk
    exact hk.mutz c id bk g1 hbk hmt
  ·intro c id bk h1 hbk hmt
   rcases hinv c id h1 with⟨e1,g1⟩ | ⟨e1,g1⟩
   ·subst e1
    simp only [St.setB,if_true,Option.some.injEq] at hbk
    subst hbk
    exact hc.frz b id blk g1 hb hmt
   ·simp only [St.setB,if_neg e1] at hbk
    exact hk.frz c id bk g1 hbk hmt
  ·intro c id h1
   rcases hinv c id h1 with⟨e1,g1⟩ | ⟨e1,g1⟩
   ·subst e1
    obtain⟨bk,q1,cc,T,part,rest,q2,q3,q4⟩:=hc.heap b id g1
    rw [hb] at q1;cases q1
    refine⟨⟨blk.sz,kills b blk.vals,blk.mt⟩,by simp [St.setB],hmono ⟨cc,T,part,rest,q2,q3,?_⟩⟩
    exact RepAll.kill (fun _ h=>h) (fun k id hk h=>by simp [drop1,hk,h]) (Frame.refl _ _ _) _ _ q4
   ·obtain⟨bk,q1,q2⟩:=hk.heap c id g1
    exact⟨bk,by simp only [St.setB,if_neg e1];exact q1,hmono q2⟩
 ·rw [put_slot]
  split
  ·rename_i hst
   subst hst
   have e:=hr s
   rw [h] at e
   refine⟨by simp [LV.isAgg],fun hh=>?_⟩
   have e2:=e.2 rfl
   simp only [Rep] at e2 ⊢
   rcases e2 with e2 | ⟨id,cap,c,T,fz,q1,q2,q3⟩
   ·exact .inl e2
   ·exact .inr ⟨id,cap,c,T,fz,q1,by simp only [μ',if_true];exact q2,q3⟩
  ·exact RepV.mono (fun _ h=>h) hm (Frame.refl _ _ _) (hkr s)
end Go.Lg
namespace Go.Proofs.YthpfpgfehmhpdaaGreat
open Go.Lg
theorem quo_s {s:Nat} (h:s<32):binI .quo .i64 (s:Nat) 32=some (.int .i64 0):=by
 have:((s:Int)).tdiv 32=0:=by rw [Int.tdiv_eq_ediv_of_nonneg (by omega)];omega
 simp [binI,this,IntWalk.i64_in]
theorem rem_s {s:Nat} (h:s<32):binI .rem .i64 (s:Nat) 32=some (.int .i64 (s:Nat)):=by
 have:((s:Int)).tmod 32=s:=by rw [Int.tmod_eq_emod_of_nonneg (by omega)];omega
 simp [binI,this]
theorem up_inv {m s c x:Nat} {o:List Nat} (hv:val o+4294967296 ^ o.length*c=val ((dig m).take o.length)*2 ^ s) (hx:x=(dig m).getD o.length 0*2 ^ s+c) :
  val (o++[x % 4294967296])+4294967296 ^ (o.length+1)*(x/4294967296)=val ((dig m).take (o.length+1))*2 ^ s:=by
 rw [val_snoc,val_take_succ',Nat.pow_succ,Nat.add_mul,Nat.mul_assoc (4294967296 ^ o.length) ((dig m).getD o.length 0)]
 have h1:=carry_step (4294967296 ^ o.length) x
 have h2:4294967296 ^ o.length*x=4294967296 ^ o.length*((dig m).getD o.length 0*2 ^ s)+4294967296 ^ o.length*c:=by rw [hx,Nat.mul_add]
 omega
theorem up_end {m s c:Nat} {o:List Nat} (hv:val o+4294967296 ^ o.length*c=val ((dig m).take o.length)*2 ^ s) (ho:o.length=(dig m).length) (hc:c<4294967296):val (o++[c % 4294967296])=m*2 ^ s:=by
 rw [val_snoc,Nat.mod_eq_of_lt hc,hv,take_all (by omega)]
theorem half2 {s x y:Nat} (hs:s<32) (hx:x<4294967296):(y*4294967296+x)/2 ^ s % 4294967296=x/2 ^ s+y % 2 ^ s*2 ^ (32-s):=by
 have hd:4294967296=2 ^ (32-s)*2 ^ s:=by rw [←Nat.pow_add,show 32-s+s=32 by omega]
 have hp:0<2 ^ s:=Nat.pow_pos (by omega)
 obtain⟨_,h2⟩:=half_lt (z:=y) (show s≤32 by omega) hx
 have e1:(y*4294967296+x)/2 ^ s=y*2 ^ (32-s)+x/2 ^ s:=by
  rw [show y*4294967296+x=x+(y*2 ^ (32-s))*2 ^ s by rw [Nat.mul_assoc,←hd];omega,Nat.add_mul_div_right _ _ hp];omega
 have e2:y*2 ^ (32-s)=y % 2 ^ s*2 ^ (32-s)+4294967296*(y/2 ^ s):=by
  have e3:y*2 ^ (32-s)=(2 ^ s*(y/2 ^ s)+y % 2 ^ s)*2 ^ (32-s):=by rw [Nat.div_add_mod]
  rw [e3,Nat.add_mul,hd,Nat.mul_right_comm,Nat.mul_comm (2 ^ s) (2 ^ (32-s))];omega
 rw [e1,e2,show y % 2 ^ s*2 ^ (32-s)+4294967296*(y/2 ^ s)+x/2 ^ s=(y % 2 ^ s*2 ^ (32-s)+x/2 ^ s)+4294967296*(y/2 ^ s) by omega,Nat.add_mul_mod_self_left,Nat.mod_eq_of_lt h2]
 omega
theorem dn_inv {i s:Nat} {w o:List Nat} (hi:i<w.length) (hs:s<32) (hv:2 ^ s*val (w.take i)=val (o.take i)+4294967296 ^ i*(o.getD i 0 % 2 ^ s)) :
  2 ^ s*val ((w.set i (o.getD i 0/2 ^ s+o.getD (i+1) 0 % 2 ^ s*2 ^ (32-s))).take (i+1))=val (o.take (i+1))+4294967296 ^ (i+1)*(o.getD (i+1) 0 % 2 ^ s):=by
 have hd:4294967296=2 ^ s*2 ^ (32-s):=by rw [←Nat.pow_add,show s+(32-s)=32 by omega]
 rw [val_set_take _ _ _ hi,Nat.mul_add,hv,val_take_succ',Nat.pow_succ]
 have h1:=Nat.div_add_mod (o.getD i 0) (2 ^ s)
 generalize o.getD i 0/2 ^ s=q at *
 generalize o.getD i 0 % 2 ^ s=t at *
 generalize o.getD (i+1) 0 % 2 ^ s=u at *
 generalize 4294967296 ^ i=p at *
 rw [←h1]
 have e1:2 ^ s*(p*(q+u*2 ^ (32-s)))=p*(2 ^ s*q)+p*4294967296*u:=by
  rw [hd,Nat.mul_add,Nat.mul_add]
  simp only [Nat.mul_assoc,Nat.mul_left_comm,Nat.mul_comm]
 rw [e1,Nat.mul_add]
 omega
theorem dn_end {r s:Nat} {o:List Nat} (hol:o.length=(dig (r*2 ^ s)).length) (hv:2 ^ s*val (o.take (dig (r*2 ^ s)).length)=val ((dig (r*2 ^ s)).take (dig (r*2 ^ s)).length)+4294967296 ^ (dig (r*2 ^ s)).length*((dig (r*2 ^ s)).getD (dig (r*2 ^ s)).length 0 % 2 ^ s)):val o=r:=by
 rw [getD_ge _ _ (Nat.le_refl _),Nat.zero_mod,Nat.mul_zero,Nat.add_zero,List.take_length,←hol,List.take_length,val_dig,Nat.mul_comm r] at hv
 exact Nat.eq_of_mul_eq_mul_left (Nat.pow_pos (by omega)) hv
theorem zer_take (k:Nat):((List.replicate k 0).map u32L).take k=(List.replicate k 0).map u32L:=by rw [List.take_of_length_le (by simp)]
theorem dig_shift {m:Nat} (k:Nat) (h:0<(dig m).length):dig (m*4294967296 ^ k)=List.replicate k 0++dig m:=by
 have hv:val (List.replicate k 0++dig m)=m*4294967296 ^ k:=by rw [val_append,val_zeros,val_dig];simp [Nat.mul_comm]
 refine(dig_of (lim_append (lim_zeros k) (lim_dig m)) hv (.inr ?_)).symm
 have:=len_pow h
 simp only [List.length_append,List.length_replicate]
 rw [show k+(dig m).length-1=(dig m).length-1+k by omega,Nat.pow_add]
 exact Nat.mul_le_mul_right _ this
namespace H_c_Fup
theorem zSm {p q:Prop} (k:q) (e:p=q:=by simp only [e1,e2,e3,e4,p1,p2,p3,q1,q2,q3,l1,t0,t1,r1,r2,r3,r4,Nat.zero_add,Nat.reduceMul,Nat.reduceAdd,b1,b2,b3,b4,b5,b6,i1,i2,i3,i4,i5,i6,Nat.reduceBEq,dflt,List.take_zero,List.take_nil,List.nil_append,kills_map u32E,LV.kill,take_map_len,map_snoc,len_snoc,List.length_cons,List.length_nil];exact rfl):p:=e.mpr k
end H_c_Fup
open H_c_Fup in
theorem c_Fup (m s:Nat) (hla:(dig m).length≤549755813888) (hs:s<32):CallP Tryz.prog 241 [magL m,nI64 s] (magL (m*2 ^ s)):=by
 obtain⟨hp1,hp2⟩:=pow_s hs
 refine fnP Tryz.func241 ?_
 refine zg8 ?_
 refine st_pure rfl (.bin rfl rfl (quo_s hs)) ?_
 refine st_alloc rfl rfl (.mkE (n:=0) (m:=0) ml ml om om om) ?_
 refine zg15 ?_
 refine wl_weak (Weak.mv (t:=5) (b:=10) 31 (by decide) (by decide) (by decide) rfl rfl rfl) ?_
 refine lp2 (fun(o:List Nat) (c:Nat) L=>((((((St.mk L.slot (hp [(31,⟨1,o.map u32L,true⟩)])).put (some 0) (magL m)).put (some 1) (nI64 s)).put (some 5) (.ref 31 1 0 o.length)).put (some 6) (nU64 c)).put (some 7) (nI64 o.length))) (fun o c=>o.length≤(dig m).length∧c<2 ^ s∧Lim o∧val o+4294967296 ^ o.length*c=val ((dig m).take o.length)*2 ^ s) (fun o c=>(dig m).length-o.length) ([]) 0 ⟨Nat.zero_le _,hp2,(by intro x hx;cases hx),by simp [val]⟩ ?_
 rintro o c L1 ⟨hol,hc,hlo,hv⟩
 have hxk:=getD_dig_lt m o.length
 have hsx:=shl_lt hxk hp1
 refine zg9 ?_
 refine wl_if rfl (fun h14r h14=>?_) (fun h14r h14=>?_)
 ·refine zg13 ?_
  refine st_pure rfl (.bin rfl rfl (rem_s hs)) ?_
  refine st_pure rfl (.sh rfl rfl (shlV (by omega) (by(try simp only [t1,dflt]);omega))) ?_
  refine st_pure rfl (.bin rfl rfl (orV hc (by(try simp only [t1,dflt]);omega))) ?_
  refine zg9 ?_
  refine st_store rfl (.app (news:=[u32L (((dig m).getD o.length 0*2 ^ s+c) % 4294967296)]) rfl rfl rfl rfl rfl (by simp) (.inl rfl) (by decide) Tryz.underlying30 Tryz.underlying30 Z181 T181 rfl B181 (.inl ⟨30,0,_,rfl,by decide,rfl,rfl,by simp,rfl,rfl⟩) (by simp;omega) (by simp;omega) (by decide)) ?_
  refine zg3 ?_
  refine wl_regW (Weak.kill _ 30) ?_
  refine zg12 ?_
  exact nx2 (o++[((dig m).getD o.length 0*2 ^ s+c) % 4294967296]) (((dig m).getD o.length 0*2 ^ s+c)/4294967296) ⟨by rw [len_snoc];omega,carry_lt hxk hc,lim_snoc hlo (by omega),by rw [len_snoc];exact up_inv hv rfl⟩ (hm:=by rw [len_snoc];omega)
 ·have hoe:o.length=(dig m).length:=by omega
  have hV:=up_end hv hoe (show c<4294967296 by omega)
  refine zg11 ?_
  refine st_store rfl (.app (news:=[u32L (c % 4294967296)]) rfl rfl rfl rfl rfl (by simp) (.inr rfl) (by decide) Tryz.underlying30 Tryz.underlying30 Z181 T181 rfl B181 (.inl ⟨37,0,_,rfl,by decide,rfl,rfl,by simp,rfl,rfl⟩) (by simp;omega) (by simp;omega) (by decide)) ?_
  simp only [kills_map u32E,take_map_len,map_snoc,len_snoc,List.length_cons,List.length_nil]
  refine cpf [38] fm1 (c_FTrim (o++[c % 4294967296]) (lim_snoc hlo (by omega)) (by rw [len_snoc];omega)) ?_
  refine zg4 ?_
  rw [←hV]
  exact ret1 rfl (by first | exact .pure rfl | exact .pure (limL_pure _) | exact .pure (magL_pure _) | exact .pure (ratE.pure _) | exact .pure (pure_lst u32E _ _) | exact .pure (pure_lst ratE _ _))
namespace H_c_Fdown
theorem zSm {p q:Prop} (k:q) (e:p=q:=by simp only [e1,e2,e3,e4,p1,p2,p3,q1,q2,q3,l1,t0,t1,r1,r2,r3,r4,Nat.zero_add,Nat.reduceMul,Nat.reduceAdd,b1,b2,b3,b4,b5,b6,i1,i2,i3,i4,i5,i6,Nat.reduceBEq,dflt,List.drop_zero,ei1,eyy];exact rfl):p:=e.mpr k
end H_c_Fdown
open H_c_Fdown in
theorem c_Fdown (r s:Nat) (hla:(dig (r*2 ^ s)).length≤549755813888) (hs:s<32):CallP Tryz.prog 244 [magL (r*2 ^ s),nI64 s] (magL r):=by
 obtain⟨hp1,hp2⟩:=pow_s hs
 have hlow:=low_bits (l:=dig (r*2 ^ s)) (r:=r) (show s≤32 by omega) (val_dig _)
 refine fnP Tryz.func244 ?_
 have ei1:True:=trivial
 have eyy:True:=trivial
 refine zg9 ?_
 refine st_pure rfl (.bin rfl rfl (quo_s hs)) ?_
 refine zg5 ?_
 refine wl_if rfl (fun h12r h12=>?_) (fun h12r h12=>?_)
 ·have hm:r*2 ^ s=0:=dig_eq_nil.1 (List.eq_nil_of_length_eq_zero (by omega))
  have hr0:r=0:=by rcases Nat.mul_eq_zero.1 hm with h | h<;>omega
  subst hr0
  refine zg7 ?_
  exact ret1 rfl (.nil 1)
 ·refine zg6 ?_
  refine st_pure rfl (.bin rfl rfl (quo_s hs)) ?_
  refine st_pure rfl (.sliceLl (a:=0) u32E rfl Tryz.underlying30 T181 rfl om) ?_
  refine zg7 ?_
  refine st_alloc rfl rfl (.mkE (n:=(dig (r*2 ^ s)).length) (m:=(dig (r*2 ^ s)).length) ml ml om om om) ?_
  refine zg10 ?_
  refine lp2 (fun(i:Nat) (o:List Nat) L=>(((((St.mk L.slot (hp [(19,⟨1,o.map u32L,true⟩)])).put (some 0) (magL (r*2 ^ s))).put (some 1) (nI64 s)).put (some 5) (.ref 19 1 0 (dig (r*2 ^ s)).length)).put (some 6) (nI64 i))) (fun i o=>i≤(dig (r*2 ^ s)).length∧o.length=(dig (r*2 ^ s)).length∧Lim o∧2 ^ s*val (o.take i)=val ((dig (r*2 ^ s)).take i)+4294967296 ^ i*((dig (r*2 ^ s)).getD i 0 % 2 ^ s)) (fun i o=>(dig (r*2 ^ s)).length-i) 0 (List.replicate (dig (r*2 ^ s)).length 0) ⟨Nat.zero_le _,by simp,lim_zeros _,by rw [hlow];simp [val]⟩ ?_
  rintro i o L1 ⟨hi,hol,hlo,hv⟩
  have ei1:((i:Int)+1).toNat=i+1:=by omega
  have hxi:=getD_dig_lt (r*2 ^ s) i
  have hyi:=getD_dig_lt (r*2 ^ s) (i+1)
  obtain⟨hh1,hh2⟩:=half_lt (z:=(dig (r*2 ^ s)).getD (i+1) 0) (show s≤32 by omega) hxi
  refine zg9 ?_
  refine wl_if rfl (fun h23r h23=>?_) (fun h23r h23=>?_)
  ·refine zg24 ?_
   refine wl_cut (fun L=>∃ (y:Nat) (L1:St),(y=(dig (r*2 ^ s)).getD (i+1) 0*4294967296+(dig (r*2 ^ s)).getD i 0)∧L=((((((St.mk L1.slot (hp [(19,⟨1,o.map u32L,true⟩)])).put (some 0) (magL (r*2 ^ s))).put (some 1) (nI64 s)).put (some 5) (.ref 19 1 0 (dig (r*2 ^ s)).length)).put (some 6) (nI64 i)).put (some 7) (nU64 y))) ?_ ?_
   ·refine wl_if rfl (fun h35r h35=>?_) (fun h35r h35=>?_)
    ·refine zg8 ?_
     refine st_pure rfl (.sh rfl rfl (shl32 (by(try simp only [t1,dflt,ei1]);omega))) ?_
     refine st_pure rfl (.bin rfl rfl (orC (by(try simp only [t1,dflt]);omega) (by(try simp only [t1,dflt,ei1]);omega))) ?_
     refine zg3 ?_
     exact⟨(dig (r*2 ^ s)).getD (i+1) 0*4294967296+(dig (r*2 ^ s)).getD i 0,_,rfl,((put_id' (put_id' (put_id' (put_id' (put_id' (mk_id' cl) cl) cl) cl) cl) cl)).symm⟩
    ·refine zg2 ?_
     exact⟨(dig (r*2 ^ s)).getD i 0,_,by rw [getD_ge _ (i+1) (by omega),Nat.zero_mul,Nat.zero_add],((put_id' (put_id' (put_id' (put_id' (put_id' (mk_id' cl) cl) cl) cl) cl) cl)).symm⟩
   ·rintro _ ⟨y,LC35,hy,rfl⟩
    have eyy:y/2 ^ s % 4294967296=((dig (r*2 ^ s)).getD i 0/2 ^ s+(dig (r*2 ^ s)).getD (i+1) 0 % 2 ^ s*2 ^ (32-s)):=by rw [hy];exact half2 hs hxi
    refine zg6 ?_
    refine st_pure rfl (.bin rfl rfl (rem_s hs)) ?_
    refine st_pure rfl (.sh rfl rfl (shrC (m:=s) (by show s≤64;omega))) ?_
    refine zg12 ?_
    exact nx2 (i+1) (o.set i ((dig (r*2 ^ s)).getD i 0/2 ^ s+(dig (r*2 ^ s)).getD (i+1) 0 % 2 ^ s*2 ^ (32-s))) ⟨by omega,by simp [hol],lim_set hlo _ _ (by omega),dn_inv (by omega) hs hv⟩
  ·obtain rfl:i=(dig (r*2 ^ s)).length:=by omega
   refine zg8 ?_
   refine cpf [19] fm1 (c_FTrim _ (by first | assumption | exact lim_dig _) (by first | omega | (simp;done) | (simp;omega))) ?_
   refine zg4 ?_
   have hV:=dn_end hol hv
   rw [←hV]
   exact ret1 rfl (by first | exact .pure rfl | exact .pure (limL_pure _) | exact .pure (magL_pure _) | exact .pure (ratE.pure _) | exact .pure (pure_lst u32E _ _) | exact .pure (pure_lst ratE _ _))
namespace H_c_Fshifted
theorem zSm {p q:Prop} (k:q) (e:p=q:=by simp only [e1,e2,e3,e4,p1,p2,p3,q1,q2,q3,l1,t0,t1,r1,r2,r3,r4,Nat.zero_add,Nat.reduceMul,Nat.reduceAdd,b1,b2,b3,b4,b5,b6,i1,i2,i3,i4,i5,i6,Nat.reduceBEq,List.take_zero,List.take_nil,List.nil_append,kills_map u32E,LV.kill,take_map_len,map_snoc,len_snoc,List.length_cons,List.length_nil,zer_take,←List.map_append];exact rfl):p:=e.mpr k
end H_c_Fshifted
open H_c_Fshifted in
theorem c_Fshifted (m k:Nat) (hla:(dig m).length≤1099511627776) (hk:k≤1099511627776):CallP Tryz.prog 242 [magL m,nI64 k] (magL (m*4294967296 ^ k)):=by
 refine fnP Tryz.func242 ?_
 refine zg13 ?_
 refine wl_if rfl (fun h7r h7=>?_) (fun h7r h7=>?_)
 ·have hm:m=0:=dig_eq_nil.1 (List.eq_nil_of_length_eq_zero (by omega))
  subst hm
  refine zg7 ?_
  rw [Nat.zero_mul]
  exact ret1 rfl (.nil 1)
 ·have hE:=dig_shift k (show 0<(dig m).length by omega)
  refine zg5 ?_
  refine st_alloc rfl rfl (.mkE (n:=k) (m:=k) ml ml om om om) ?_
  refine zg1 ?_
  refine st_store rfl (.app (news:=(dig m).map u32L) rfl rfl rfl rfl rfl (by simp) (.inr rfl) (by decide) Tryz.underlying30 Tryz.underlying30 Z181 T181 rfl B181 (.inr (.inl rfl)) (by simp;omega) (by simp;omega) (by decide)) ?_
  refine zg4 ?_
  rw [show magL (m*4294967296 ^ k)=.list 1 ((List.replicate k 0++dig m).map u32L) by rw [←hE];rfl]
  exact ret1f [11] rfl rfl (imm_refm u32E rfl rfl (by simp))
theorem val_split_any (l:List Nat) (k:Nat):val l=val (l.take k)+4294967296 ^ k*val (l.drop k):=by
 rcases Nat.le_total k l.length with h | h
 ·exact val_split l k h
 ·rw [List.take_of_length_le h,List.drop_of_length_le h];simp [val]
theorem val_drop_any (l:List Nat) (k:Nat):val (l.drop k)=l.getD k 0+4294967296*val (l.drop (k+1)):=by
 rcases Nat.lt_or_ge k l.length with h | h
 ·exact val_drop h
 ·rw [List.drop_of_length_le h,List.drop_of_length_le (by omega),getD_ge _ _ h];rfl
theorem sub1N {a:Nat} (h:1≤a) (h2:a≤9223372036854775807):binI .sub .i64 (a:Nat) 1=some (.int .i64 ((a-1:Nat):Int)):=by
 rw [sub64 (by omega) (by omega)];congr 2;omega
theorem drop_last {n:Nat} (h:0<(dig n).length):(dig n).drop ((dig n).length-1)=dig ((dig n).getD ((dig n).length-1) 0):=by
 have h1:=can_getLast (can_dig n) h
 have h2:=getD_dig_lt n ((dig n).length-1)
 rw [dig_small (by omega) h2]
 rw [List.drop_eq_getElem_cons (by omega),List.drop_of_length_le (by omega),List.getD_eq_getElem?_getD,List.getElem?_eq_getElem (by omega)]
 rfl
theorem fd_top {R V n j:Nat} (hn:(dig V).length=n+1) (hlt:R<V*4294967296 ^ (j+1)) (hv:0<(dig V).getD n 0) :
  R/4294967296 ^ j/V≤min (((dig R).getD (j+(n+1)) 0*4294967296+(dig R).getD (j+n) 0)/(dig V).getD n 0) 4294967295:=by
 have hV0:0<V:=Nat.pos_of_ne_zero (fun h=>by rw [h,dig_zero] at hn;cases hn)
 have hVn:V<4294967296 ^ (n+1):=dig_length_ge (by omega)
 have hz:=kn_zero (ul:=dig R) (n:=n+1) (j:=j) hVn (by rw [val_dig];exact hlt)
 have hq2:R/4294967296 ^ j/V<4294967296:=by
  rw [Nat.div_lt_iff_lt_mul hV0,Nat.div_lt_iff_lt_mul (powpos j),Nat.mul_comm 4294967296,Nat.mul_assoc,←Nat.pow_succ']
  exact hlt
 refine Nat.le_min.2 ⟨?_,by omega⟩
 rw [Nat.le_div_iff_mul_le hv]
 have hVs:=val_split (dig V) n (by omega)
 have hVd:val ((dig V).drop n)=(dig V).getD n 0:=by
  rw [val_drop (by omega),List.drop_of_length_le (by omega)];simp [val]
 rw [hVd,val_dig] at hVs
 have hR:R/4294967296 ^ (j+n)=(dig R).getD (j+(n+1)) 0*4294967296+(dig R).getD (j+n) 0:=by
  have e:=val_split_any (dig R) (j+n)
  rw [val_dig] at e
  have hl:val ((dig R).take (j+n))<4294967296 ^ (j+n):=val_lt_len (lim_take (lim_dig R) _) (by simp;omega)
  have hd:val ((dig R).drop (j+n))=(dig R).getD (j+(n+1)) 0*4294967296+(dig R).getD (j+n) 0:=by
   have z:val ((dig R).drop (j+n+2))=0:=val_all_zero (fun p=>by rw [getD_drop];exact hz _ (by omega))
   rw [val_drop_any,val_drop_any,z,show j+n+1=j+(n+1) by omega];omega
  rw [←hd]
  conv=>lhs;rw [e]
  rw [Nat.add_mul_div_left _ _ (powpos _),Nat.div_eq_of_lt hl,Nat.zero_add]
 rw [←hR,Nat.pow_add,←Nat.div_div_eq_div_mul,Nat.le_div_iff_mul_le (powpos n),Nat.mul_assoc]
 refine Nat.le_trans (Nat.mul_le_mul_left _ ?_) (Nat.div_mul_le_self (R/4294967296 ^ j) V)
 rw [Nat.mul_comm]
 omega
theorem fd_gt {R V j d:Nat} (hV:0<V) (h:R<V*d*4294967296 ^ j):R/4294967296 ^ j/V<d:=by
 rw [Nat.div_lt_iff_lt_mul hV,Nat.div_lt_iff_lt_mul (powpos j),Nat.mul_comm d V];exact h
theorem fd_le {R V j d:Nat} (hV:0<V) (h:V*d*4294967296 ^ j≤R):d≤R/4294967296 ^ j/V:=by
 rw [Nat.le_div_iff_mul_le hV,Nat.le_div_iff_mul_le (powpos j),Nat.mul_comm d V];exact h
theorem fd_next {R V j d A:Nat} {ql:List Nat} (hV:0<V) (hd:d=R/4294967296 ^ j/V) (hp:V*d*4294967296 ^ j≤R) (hj:j<ql.length) (hv:R+V*4294967296 ^ (j+1)*val (ql.drop (j+1))=A) :
  R-V*d*4294967296 ^ j+V*4294967296 ^ j*val ((ql.set j d).drop j)=A∧R-V*d*4294967296 ^ j<V*4294967296 ^ j:=by
 have:=kn_next (ul:=dig (R-V*d*4294967296 ^ j)) (ul0:=dig R) (ql:=ql) (x:=d) (j:=j) (U0:=A) hV (by rw [val_dig];exact hd) (by rw [val_dig,val_dig,Nat.mul_comm d V,Nat.mul_comm (4294967296 ^ j)];omega) hj (by rw [val_dig];exact hv)
 rw [val_dig] at this
 exact this
theorem fd_start {m n L K s:Nat} (hL:(dig (n*2 ^ s)).length=L) (h0:0<L) (hK:K+L=(dig (m*2 ^ s)).length+1):m*2 ^ s<n*2 ^ s*4294967296 ^ K:=by
 have h1:m*2 ^ s<4294967296 ^ (dig (m*2 ^ s)).length:=dig_length_ge (Nat.le_refl _)
 have h2:=len_pow (m:=n*2 ^ s) (by omega)
 refine Nat.lt_of_lt_of_le h1 ?_
 rw [show (dig (m*2 ^ s)).length=(L-1)+K by omega,Nat.pow_add,←hL]
 exact Nat.mul_le_mul_right _ h2
theorem len_shl {m s k:Nat} (h:(dig m).length≤k) (hs:s<32):(dig (m*2 ^ s)).length≤k+1 :=
 len_mul h (dig_len_le1.2 (by have:=pow_s hs;omega))
theorem len_pow1 (k:Nat):(dig (4294967296 ^ k)).length≤k+1:=dig_length_le (Nat.pow_lt_pow_right (by omega) (by omega))
theorem fd_dec {V j d:Nat} (h:1≤d):V*d*4294967296 ^ j-V*4294967296 ^ j=V*(d-1)*4294967296 ^ j:=by
 obtain⟨e,rfl⟩:∃ e,d=e+1:=⟨d-1,by omega⟩
 rw [Nat.add_sub_cancel,Nat.mul_add,Nat.mul_one,Nat.add_mul];omega
theorem fd_le3 {V j d:Nat} (h:1≤d):V*4294967296 ^ j≤V*d*4294967296 ^ j:=by
 refine Nat.mul_le_mul_right _ ?_
 have:=Nat.mul_le_mul_left V h
 omega
namespace H_c_FDiv
theorem zSm {p q:Prop} (k:q) (e:p=q:=by simp only [e1,e2,e3,e4,p1,p2,p3,q1,q2,q3,l1,t0,t1,r1,r2,r3,r4,Nat.zero_add,Nat.reduceMul,Nat.reduceAdd,b1,b2,b3,b4,b5,b6,i1,i2,i3,i4,i5,i6,Nat.reduceBEq,dflt,val_dig,eln,edz,esm,esn,eLn,edm,ek,ej1,ej2,eL1,ed,tz0,edd,es];exact rfl):p:=e.mpr k
end H_c_FDiv
open H_c_FDiv in
theorem c_FDiv (m n:Nat) (hla:(dig m).length≤68719476736) (hlb:(dig n).length≤68719476736) (hn0:0<n):CallP Tryz.prog 189 [magL m,magL n] (.tup [magL (m/n),magL (m % n),iL 0]):=by
 refine fnP Tryz.func189 ?_
 have eln:True:=trivial
 have edz:True:=trivial
 have esm:True:=trivial
 have esn:True:=trivial
 have eLn:True:=trivial
 have edm:True:=trivial
 have ek:True:=trivial
 have ej1:True:=trivial
 have ej2:True:=trivial
 have eL1:True:=trivial
 have ed:True:=trivial
 have edd:True:=trivial
 have es:True:=trivial
 refine zg15 ?_
 refine wl_if rfl (fun h21r h21=>?_) (fun h21r h21=>?_)
 ·have hnz:=dig_eq_nil.1 (List.eq_nil_of_length_eq_zero (show (dig n).length=0 by omega))
  omega
 ·refine zg7 ?_
  refine cp am2 (c_FCmp _ _ (by omega) (by omega)) ?_
  refine zg3 ?_
  refine wl_if rfl (fun h25r h25=>?_) (fun h25r h25=>?_)
  ·have hlt:m<n:=by unfold cmpN at h25;split at h25;assumption;split at h25<;>omega
   refine zg3 ?_
   refine cp am1 (c_FTrim _ (by first | assumption | exact lim_dig _) (by omega)) ?_
   refine zg7 ?_
   rw [Nat.div_eq_of_lt hlt,Nat.mod_eq_of_lt hlt]
   exact ret3f [] rfl rfl (.nil 1) rfl (.pure (magL_pure _)) rfl (.pure rfl)
  ·have hge:n≤m:=by
    rcases Nat.lt_or_ge m n with h | h
    ·rw [cmpN_lt h] at h25;omega
    ·exact h
   have hmono:=len_dig_mono hge
   refine zg6 ?_
   refine cp am1 (c_Fsmall _ (by omega)) ?_
   refine zg12 ?_
   refine wl_if rfl (fun h33r h33=>?_) (fun h33r h33=>?_)
   ·have hm64:m<18446744073709551616:=by simpa using h33r
    have esm:(if m<18446744073709551616 then m else 0)=m:=if_pos hm64
    have esn:(if n<18446744073709551616 then n else 0)=n:=if_pos (by omega)
    have hq64:m/n≤m:=Nat.div_le_self _ _
    have hr64:=Nat.mod_lt m hn0
    refine zg3 ?_
    refine cp am1 (c_Fsmall _ (by omega)) ?_
    refine zg8 ?_
    refine wl_regD 11 (by decide +kernel) ?_
    refine zg2 ?_
    refine st_pure rfl (.bin rfl rfl (quoU (by omega) (by omega))) ?_
    refine cp am1 (c_FOf _ (by omega)) ?_
    refine zg2 ?_
    refine st_pure rfl (.bin rfl rfl (remU (by omega))) ?_
    refine cp am1 (c_FOf _ (by omega)) ?_
    refine zg7 ?_
    exact ret3f [] rfl rfl (.pure (magL_pure _)) rfl (.pure (magL_pure _)) rfl (.pure rfl)
   ·refine zg10 ?_
    refine wl_if rfl (fun h49r h49=>?_) (fun h49r h49=>?_)
    ·have hn1:=dig_is1 (n:=n) (by omega)
     have eLn:=hn1.1
     have hn2:=dig_len_le1.1 (show (dig n).length≤1 by omega)
     have hr1:=Nat.mod_lt m hn0
     refine zg6 ?_
     simp only [tz0,dflt,eLn]
     refine cp am2 (c_FbyLimb m n (by omega) hn0 hn2) ?_
     refine zg12 ?_
     refine cp am1 (c_FOf _ (by omega)) ?_
     refine zg7 ?_
     exact ret3f [] rfl rfl (.pure (magL_pure _)) rfl (.pure (magL_pure _)) rfl (.pure rfl)
    ·obtain⟨ln,hL⟩:∃ ln,(dig n).length=ln+1:=⟨(dig n).length-1,by omega⟩
     have eL1:(dig n).length-1=ln:=by omega
     have hdl:=drop_last (n:=n) (by omega)
     rw [eL1] at hdl
     have htop:=can_getLast (can_dig n) (show 0<(dig n).length by omega)
     rw [eL1] at htop
     have htl:=getD_dig_lt n ln
     have htb:blen ((dig n).getD ln 0)≤32:=blen_le.2 htl
     have htbl:(dig ((dig n).getD ln 0)).length≤1:=dig_len_le1.2 htl
     obtain⟨s,hs⟩:∃ s,s=32-blen ((dig n).getD ln 0):=⟨_,rfl⟩
     have es:(32:Int)-((blen ((dig n).getD ln 0):Nat):Int)=((s:Nat):Int):=by rw [s_eq htb,hs]
     obtain⟨hs32,enV,hVge,hVlt⟩:=kn_norm (n:=ln) hL hs
     have hV0:0<n*2 ^ s:=Nat.mul_pos hn0 (Nat.pow_pos (by omega))
     have hvt:0<(dig (n*2 ^ s)).getD ln 0:=by have:=kn_vt enV hVge;omega
     have hUl:=len_shl hla hs32
     have hUV:(dig (n*2 ^ s)).length≤(dig (m*2 ^ s)).length:=len_dig_mono (Nat.mul_le_mul_right _ hge)
     obtain⟨K,hK⟩:∃ K,K+ln=(dig (m*2 ^ s)).length:=⟨(dig (m*2 ^ s)).length-ln,by omega⟩
     have hst:=fd_start (m:=m) (n:=n) (s:=s) (K:=K) enV (by omega) (by omega)
     refine zg7 ?_
     refine st_pure rfl (.bin rfl rfl (sub1N (by omega) (by omega))) ?_
     refine st_pure rfl (.sliceLl (a:=(dig n).length-1) u32E rfl Tryz.underlying30 T181 rfl om) ?_
     rw [eL1,hdl]
     refine cp am1 (c_FBits _ (by omega)) ?_
     refine zg8 ?_
     refine cp am2 (c_Fup _ _ (by omega) hs32) ?_
     refine zg2 ?_
     refine cp am2 (c_Fup _ _ (by omega) hs32) ?_
     refine zg18 ?_
     refine st_alloc rfl rfl (.mkE (n:=K) (m:=K) ml ml om om om) ?_
     refine zg14 ?_
     refine lp3 (fun(k R:Nat) (ql:List Nat) L=>(((((((St.mk L.slot (hp [(82,⟨1,ql.map u32L,true⟩)])).put (some 1) (magL (n*2 ^ s))).put (some 4) (.ref 82 1 0 K)).put (some 13) (nI64 s)).put (some 14) (nI64 (ln+1))).put (some 5) (magL R)).put (some 15) (iL ((k:Int)-1)))) (fun k R ql=>k≤K∧ql.length=K∧Lim ql∧R≤m*2 ^ s∧R+(n*2 ^ s)*4294967296 ^ k*val (ql.drop k)=m*2 ^ s∧R<(n*2 ^ s)*4294967296 ^ k) (fun k R ql=>k) K (m*2 ^ s) (List.replicate K 0) ⟨Nat.le_refl _,by simp,lim_zeros _,Nat.le_refl _,by rw [List.drop_of_length_le (by simp)];simp [val],hst⟩ ?_
     rintro k R ql L1 ⟨hk,hql,hlq,hRU,hv,hlt⟩
     refine zg7 ?_
     refine wl_if rfl (fun h88r h88=>?_) (fun h88r h88=>?_)
     ·obtain⟨j,rfl⟩:∃ j,k=j+1:=⟨k-1,by omega⟩
      have ek:(((j+1:Nat):Int)-1)=(j:Int):=by omega
      have ej1:((j:Int)+((ln+1:Nat):Int)).toNat=j+(ln+1):=by omega
      have ej2:((j:Int)+((ln+1:Nat):Int)-1).toNat=j+ln:=by omega
      have hRl:=len_dig_mono hRU
      have eln:(((ln+1:Nat):Int)-1).toNat=ln:=by omega
      have hr1:=getD_dig_lt R (j+(ln+1))
      have hr2:=getD_dig_lt R (j+ln)
      have hest:=fd_top (R:=R) (n:=ln) (j:=j) enV hlt hvt
      have hvl:=getD_dig_lt (n*2 ^ s) ln
      refine zg20 ?_
      refine wl_cut (fun L=>∃ (hi:Nat) (L1:St),(hi=(dig R).getD (j+(ln+1)) 0)∧L=((((((((St.mk L1.slot (hp [(82,⟨1,ql.map u32L,true⟩)])).put (some 1) (magL (n*2 ^ s))).put (some 4) (.ref 82 1 0 K)).put (some 13) (nI64 s)).put (some 14) (nI64 (ln+1))).put (some 5) (magL R)).put (some 15) (iL (((j+1:Nat):Int)-1))).put (some 16) (nU64 hi))) ?_ ?_
      ·refine wl_if rfl (fun h96r h96=>?_) (fun h96r h96=>?_)
       ·refine zg11 ?_
        exact⟨(dig R).getD (j+(ln+1)) 0,_,rfl,((put_id' (put_id' (put_id' (put_id' (put_id' (put_id' (put_id' (mk_id' cl) cl) cl) cl) cl) cl) cl) cl)).symm⟩
       ·refine zg2 ?_
        exact⟨0,_,(getD_ge _ _ (by omega)).symm,((put_id' (put_id' (put_id' (put_id' (put_id' (put_id' (put_id' (mk_id' cl) cl) cl) cl) cl) cl) cl) cl)).symm⟩
      ·rintro _ ⟨hi,LC96,hhi,rfl⟩
       refine zg13 ?_
       refine wl_cut (fun L=>∃ (top:Nat) (L1:St),(top=((dig R).getD (j+(ln+1)) 0*4294967296+(dig R).getD (j+ln) 0))∧L=((((((((St.mk L1.slot (hp [(82,⟨1,ql.map u32L,true⟩)])).put (some 1) (magL (n*2 ^ s))).put (some 4) (.ref 82 1 0 K)).put (some 13) (nI64 s)).put (some 14) (nI64 (ln+1))).put (some 5) (magL R)).put (some 15) (iL (((j+1:Nat):Int)-1))).put (some 16) (nU64 top))) ?_ ?_
       ·refine wl_if rfl (fun h110r h110=>?_) (fun h110r h110=>?_)
        ·refine zg2 ?_
         refine st_pure rfl (.sh rfl rfl (shl32 (by omega))) ?_
         refine zg8 ?_
         refine st_pure rfl (.bin rfl rfl (orU (by simp only [t1,dflt,ej2];omega) (by omega))) ?_
         refine zg3 ?_
         exact⟨hi*4294967296+(dig R).getD (j+ln) 0,_,by rw [hhi],((put_id' (put_id' (put_id' (put_id' (put_id' (put_id' (put_id' (mk_id' cl) cl) cl) cl) cl) cl) cl) cl)).symm⟩
        ·refine zg2 ?_
         refine st_pure rfl (.sh rfl rfl (shl32 (by omega))) ?_
         refine zg3 ?_
         exact⟨hi*4294967296,_,by rw [hhi,getD_ge (dig R) (j+ln) (by omega)];exact(Nat.add_zero _).symm,((put_id' (put_id' (put_id' (put_id' (put_id' (put_id' (put_id' (mk_id' cl) cl) cl) cl) cl) cl) cl) cl)).symm⟩
       ·rintro _ ⟨top,LC110,htp,rfl⟩
        have hdle:top/(dig (n*2 ^ s)).getD ln 0≤top:=Nat.div_le_self _ _
        have edm:(if (4294967295:Int)<((top/(dig (n*2 ^ s)).getD ln 0:Nat):Int) then(4294967295:Int) else((top/(dig (n*2 ^ s)).getD ln 0:Nat):Int))=((min (top/(dig (n*2 ^ s)).getD ln 0) 4294967295:Nat):Int):=by split<;>omega
        subst htp
        obtain⟨d0,hd0⟩:∃ d0,d0=min (((dig R).getD (j+(ln+1)) 0*4294967296+(dig R).getD (j+ln) 0)/(dig (n*2 ^ s)).getD ln 0) 4294967295:=⟨_,rfl⟩
        rw [←hd0] at hest edm
        have hdz:d0<4294967296:=by rw [hd0];exact Nat.lt_of_le_of_lt (Nat.min_le_right _ _) (by decide)
        clear hd0
        have edz:d0 % 4294967296=d0:=Nat.mod_eq_of_lt hdz
        have hlz:=len_mul (Nat.le_of_eq enV) (dig_len_le1.2 hdz)
        refine zg10 ?_
        refine st_pure rfl (.bin rfl rfl (quoU (by simp only [t1,dflt,eln];omega) (by omega))) ?_
        refine zg9 ?_
        refine cp am2 (c_Ftimes _ _ (by omega) (by omega)) ?_
        refine zg1 ?_
        refine cp am2 (c_Fshifted _ _ (by rw [edz];omega) (by omega)) ?_
        refine zg5 ?_
        refine lp1 (fun(d:Nat) L=>(((((((((St.mk L.slot (hp [(82,⟨1,ql.map u32L,true⟩)])).put (some 1) (magL (n*2 ^ s))).put (some 4) (.ref 82 1 0 K)).put (some 13) (nI64 s)).put (some 14) (nI64 (ln+1))).put (some 5) (magL R)).put (some 15) (iL (((j+1:Nat):Int)-1))).put (some 17) (nU64 d)).put (some 18) (magL ((n*2 ^ s)*d*4294967296 ^ j)))) (fun d=>R/4294967296 ^ j/(n*2 ^ s)≤d∧d<4294967296) (fun d=>d) d0 ⟨hest,hdz⟩ ?_
        rintro d L2 ⟨hdq,hdB⟩
        have hl1:=len_mul (Nat.le_of_eq enV) (dig_len_le1.2 hdB)
        have hl2:=len_mul hl1 (len_pow1 j)
        have hl3:=len_mul (Nat.le_of_eq enV) (len_pow1 j)
        refine zg5 ?_
        refine cp am2 (c_FCmp _ _ (by omega) (by omega)) ?_
        refine zg3 ?_
        refine wl_if rfl (fun h142r h142=>?_) (fun h142r h142=>?_)
        ·have hgt:R<n*2 ^ s*d*4294967296 ^ j:=by unfold cmpN at h142;split at h142;omega;split at h142;assumption;omega
         have hdq:=fd_gt hV0 hgt
         have hd0:1≤d:=Nat.lt_of_le_of_lt (Nat.zero_le _) hdq
         have hle3:=fd_le3 (V:=n*2 ^ s) (j:=j) hd0
         have edd:=fd_dec (V:=n*2 ^ s) (j:=j) hd0
         refine zg14 ?_
         refine cp am2 (c_Fshifted _ _ (by omega) (by omega)) ?_
         refine cp am2 (c_Fminus _ _ (by omega) (by omega) hle3) ?_
         refine zg4 ?_
         exact nx1 (d-1) ⟨by omega,by omega⟩
        ·have hpl:n*2 ^ s*d*4294967296 ^ j≤R:=by
          rcases Nat.lt_or_ge R (n*2 ^ s*d*4294967296 ^ j) with h | h
          ·rw [cmpN_gt h] at h142;omega
          ·exact h
         have hdE:=Nat.le_antisymm (fd_le hV0 hpl) hdq
         obtain⟨hn1,hn2⟩:=fd_next hV0 hdE hpl (show j<ql.length by omega) hv
         have ed:d % 4294967296=d:=Nat.mod_eq_of_lt hdB
         refine zg18 ?_
         refine cp am2 (c_Fminus _ _ (by omega) (by omega) hpl) ?_
         refine zg10 ?_
         exact nx3 j (R-(n*2 ^ s)*d*4294967296 ^ j) (ql.set j d) ⟨by omega,by simp [hql],lim_set hlq _ _ hdB,Nat.le_trans (Nat.sub_le _ _) hRU,hn1,hn2⟩
     ·obtain rfl:k=0:=by omega
      rw [List.drop_zero,Nat.pow_zero,Nat.mul_one] at hv
      rw [Nat.pow_zero,Nat.mul_one] at hlt
      have hRl:=len_dig_mono hRU
      obtain⟨hqf,hRf⟩:=kn_end (ul:=dig R) (ql:=ql) (A:=m) (s:=s) hn0 (by rw [val_dig];exact hv) (by rw [val_dig];exact hlt)
      rw [val_dig] at hRf
      refine zg8 ?_
      refine cpf [82] fm1 (c_FTrim _ (by first | assumption | exact lim_dig _) (by omega)) ?_
      refine zg2 ?_
      rw [hRf]
      refine cp am2 (c_Fdown (m % n) s (by rw [←hRf];omega) hs32) ?_
      refine zg6 ?_
      rw [←hqf]
      exact ret3f [] rfl rfl (.pure (magL_pure _)) rfl (.pure (magL_pure _)) rfl (.pure rfl)
namespace H_c_FGcd
theorem zSm {p q:Prop} (k:q) (e:p=q:=by simp only [e1,e2,e3,e4,p1,p2,p3,q1,q2,q3,l1,t0,t1,r1,r2,r3,r4,Nat.zero_add,Nat.reduceMul,Nat.reduceAdd,b1,b2,b3,b4,b5,b6,i1,i2,i3,i4,i5,i6,Nat.reduceBEq,dflt,val_dig,esm,esn];exact rfl):p:=e.mpr k
end H_c_FGcd
open H_c_FGcd in
theorem c_FGcd (m n:Nat) (hla:(dig m).length≤68719476736) (hlb:(dig n).length≤68719476736):CallP Tryz.prog 173 [magL m,magL n] (magL (Nat.gcd m n)):=by
 refine fnP Tryz.func173 ?_
 have esm:True:=trivial
 have esn:True:=trivial
 refine zg8 ?_
 refine cp am1 (c_FTrim _ (lim_dig _) (by omega)) ?_
 refine zg1 ?_
 refine cp am1 (c_FTrim _ (lim_dig _) (by omega)) ?_
 refine zg6 ?_
 refine lp2 (fun(x y:Nat) L=>(((St.mk L.slot (hp [])).put (some 0) (magL x)).put (some 1) (magL y))) (fun x y=>Nat.gcd x y=Nat.gcd m n∧(dig x).length≤68719476736∧(dig y).length≤68719476736) (fun x y=>y) m n ⟨rfl,hla,hlb⟩ ?_
 rintro x y L1 ⟨hg,hx,hy⟩
 refine zg8 ?_
 refine wl_if rfl (fun h18r h18=>?_) (fun h18r h18=>?_)
 ·have hy0:0<y:=Nat.pos_of_ne_zero (fun h=>by rw [h,dig_zero] at h18;simp at h18)
  refine zg6 ?_
  refine cp am1 (c_Fsmall _ (by omega)) ?_
  refine zg10 ?_
  refine cp am1 (c_Fsmall _ (by omega)) ?_
  refine zg9 ?_
  refine wl_cut (fun L=>∃ (t:Bool) (L1:St),(t=decide (x<18446744073709551616∧y<18446744073709551616))∧L=((((((St.mk L1.slot (hp [])).put (some 0) (magL x)).put (some 1) (magL y)).put (some 5) (nU64 (if x<18446744073709551616 then x else 0))).put (some 7) (nU64 (if y<18446744073709551616 then y else 0))).put (some 32) (bL t))) ?_ ?_
  ·refine zg3 ?_
   refine op_if 30 rfl (fun h30r h30=>?_) (fun h30r h30=>?_)
   ·refine zg4 ?_
    exact⟨decide (y<18446744073709551616),_,by rw [decide_eq_decide];omega,((put_id' (put_id' (put_id' (put_id' (put_id' (mk_id' cl) cl) cl) cl) cl) cl)).symm⟩
   ·refine zg4 ?_
    exact⟨false,_,by symm;rw [decide_eq_false_iff_not];omega,((put_id' (put_id' (put_id' (put_id' (put_id' (mk_id' cl) cl) cl) cl) cl) cl)).symm⟩
  ·rintro _ ⟨t,LR5,ht,rfl⟩
   refine zg1 ?_
   refine wl_if rfl (fun h32r h32=>?_) (fun h32r h32=>?_)
   ·rw [ht,decide_eq_true_iff] at h32r
    obtain⟨hx64,hy64⟩:=h32r
    have esm:(if x<18446744073709551616 then x else 0)=x:=if_pos hx64
    have esn:(if y<18446744073709551616 then y else 0)=y:=if_pos hy64
    refine zg2 ?_
    refine lp2 (fun(p q:Nat) L=>(((St.mk L.slot (hp [])).put (some 5) (nU64 p)).put (some 7) (nU64 q))) (fun p q=>Nat.gcd p q=Nat.gcd m n∧p<18446744073709551616∧q<18446744073709551616) (fun p q=>q) x y ⟨hg,hx64,hy64⟩ ?_
    rintro p q L2 ⟨hg3,hm,hn⟩
    refine zg7 ?_
    refine wl_if rfl (fun h34r h34=>?_) (fun h34r h34=>?_)
    ·refine zg3 ?_
     refine wl_regD 6 (by decide +kernel) ?_
     refine zg9 ?_
     exact nx2 q (p % q) ⟨by rw [Nat.gcd_comm,←Nat.gcd_rec,Nat.gcd_comm];exact hg3,hn,by have:=Nat.mod_lt p (show q > 0 by omega);omega⟩ (hm:=Nat.mod_lt _ (by omega))
    ·obtain rfl:q=0:=by omega
     refine zg8 ?_
     refine cp am1 (c_FOf _ (by omega)) ?_
     refine zg9 ?_
     rw [←hg3,Nat.gcd_zero_right]
     exact ret1 rfl (by first | exact .pure rfl | exact .pure (limL_pure _) | exact .pure (magL_pure _) | exact .pure (ratE.pure _) | exact .pure (pure_lst u32E _ _) | exact .pure (pure_lst ratE _ _))
   ·refine zg6 ?_
    refine cp am2 (c_FDiv _ _ (by omega) (by omega) (by first | assumption | omega)) ?_
    refine zg17 ?_
    exact nx2 y (x % y) ⟨by rw [Nat.gcd_comm,←Nat.gcd_rec,Nat.gcd_comm];exact hg,hy,Nat.le_trans (len_dig_mono (Nat.le_of_lt (Nat.mod_lt x hy0))) hy⟩ (hm:=Nat.mod_lt _ hy0)
 ·have hy0:y=0:=dig_eq_nil.1 (List.eq_nil_of_length_eq_zero (by omega))
  refine zg12 ?_
  subst hy0
  rw [←hg,Nat.gcd_zero_right]
  exact ret1 rfl (by first | exact .pure rfl | exact .pure (limL_pure _) | exact .pure (magL_pure _) | exact .pure (ratE.pure _) | exact .pure (pure_lst u32E _ _) | exact .pure (pure_lst ratE _ _))
end Go.Proofs.YthpfpgfehmhpdaaGreat
end
